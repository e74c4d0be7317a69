/- Contracts and plain laws, a part of the proof; no condition of its own. -/
import Derived.Test.YtepgdamgklfnmaaGreatM19j
open List renaming length_cons → yaz, length_nil → yba, length_map → ybb, append_nil → yaj, take_of_length_le → ybc, drop_append → ybd, take_append → ybe, drop_eq_nil_of_le → ybf, drop_zero → yap
open Go Go.AL Go.Proofs
namespace Go.AL
set_option linter.all false
set_option maxRecDepth 10000

def kOK (u:Int × SEntry):Bool:=decide (1≤u.1∧u.1≤3)
theorem kOK_all (l:List (Int × SEntry)):(!l.any badK)=l.all kOK:=by
  rw [← any_not]
  congr 2
  funext u
  unfold badK kOK
  rw [Bool.eq_iff_iff];simp<;>omega
def numsR (r:SReq):Bool:=([r.role,r.table,r.count,r.port].all fun n=>rg n 2)&&rg r.frm 4&&r.ups.all fun u=>rgE u.2
def okR (r:SReq):Bool:=valid6 r&&r.ups.all kOK
theorem permR_split (r:SReq):permR r=(okR r&&eqR (usedR r) r):=by
  unfold permR okR valid6
  rw [kOK_all,eqR_comm,Bool.and_assoc]
theorem rg0 (w:Int):rg 0 w=true:=by
  unfold rg
  refine decide_eq_true ⟨by omega,?_⟩
  exact Int.pow_pos (by decide)
theorem any_badU {l:List (Int × SEntry)} (h:l.all kOK=true):l.any badU=!l.all fun u=>rgE u.2:=by
  induction l with
  | nil=>rfl
  | cons u l ih =>
    rw [List.all_cons,Bool.and_eq_true] at h
    have hu:rg u.1 1=true:=by
      have:=h.1
      unfold kOK at this
      have:=of_decide_eq_true this
      exact decide_eq_true ⟨by omega,by show u.1<256;omega⟩
    rw [List.any_cons,List.all_cons,ih h.2]
    unfold badU
    rw [hu]
    simp
theorem nums_eq {r:SReq} (hp:permR r=true) (hu:r.ups.length≤32):(!rg r.kind 1||badR r.kind r)=!numsR r:=by
  rw [permR_split,Bool.and_eq_true] at hp
  obtain ⟨h1,h2⟩:=hp
  unfold okR at h1
  rw [Bool.and_eq_true] at h1
  obtain ⟨h1,h3⟩:=h1
  have hv:=of_decide_eq_true h1
  have hk:=kind_cases hv.1 hv.2
  have e:=(eqR_iff _ _).1 h2
  have hb:=any_badU h3
  have hul:rg (r.ups.length:Int) 2=true:=decide_eq_true ⟨by omega,by show (r.ups.length:Int)<65536;omega⟩
  obtain ⟨k,ro,el,us,ta,fr,co,po,da⟩:=r
  dsimp only at hk hul hb hu
  have r1:∀ k,k=1∨k=2∨k=3∨k=4∨k=5∨k=6→rg k 1=true:=fun k h=>decide_eq_true ⟨by omega,by show k<256;omega⟩
  have hr1:=r1 k hk
  unfold usedR useR at e
  dsimp only at e
  rcases hk with rfl | rfl | rfl | rfl | rfl | rfl
  all_goals
    simp only [Int.reduceEq,if_true,if_false,zReq,SReq.mk.injEq,true_and,and_true] at e
    simp only [hr1,Bool.not_true,Bool.false_or,badR,Int.reduceEq,if_true,if_false,numsR]
  · obtain ⟨e1,e2,e3,e4,e5,e6⟩:=e
    subst e1 e2 e3 e4 e5 e6
    simp [rg0]
  · obtain ⟨e1,e2,e3,e4,e5,e6,e7,e8⟩:=e
    subst e1 e3 e4 e5 e6 e7
    simp [rg0]
  · obtain ⟨e1,e2,e3,e4,e5⟩:=e
    subst e1 e2 e3 e4 e5
    rw [hb,hul]
    simp [rg0]
  · obtain ⟨e1,e2,e3,e4,e5,e6⟩:=e
    subst e2 e3 e4 e5
    simp [rg0]
  · obtain ⟨e1,e2,e3,e4,e5⟩:=e
    subst e2 e3 e4
    simp [rg0]
    cases rg ro 2<;>cases rg fr 4<;>cases rg co 2<;>rfl
  · obtain ⟨e1,e2,e3,e4,e5,e6⟩:=e
    subst e1 e3 e4 e5 e6
    simp [rg0]
theorem lit1 {k:Int} (h:k=1∨k=2∨k=3∨k=4∨k=5∨k=6):∃ x:UInt8,AV.int .u8 (IntKind.u8.wrap k)=ofByte x∧wUint k 1=[x]:=by
  rcases h with rfl | rfl | rfl | rfl | rfl | rfl
  · exact ⟨1,rfl,rfl⟩
  · exact ⟨2,rfl,rfl⟩
  · exact ⟨3,rfl,rfl⟩
  · exact ⟨4,rfl,rfl⟩
  · exact ⟨5,rfl,rfl⟩
  · exact ⟨6,rfl,rfl⟩
def p_xEncR:List AV→AHeap→(AV→Prop)→Prop
  | [.agg l],_,K=>∃ r:SReq,(l=reqC r∧ROk r)∧K (.tup [.slice .any 1 (bys (encR r).1),.int .i64 (encR r).2])
  | _,_,_=>False
theorem xu_rc {r:SReq} (h:RC r):RC (if valid6 r then usedR r else { zReq with kind:=r.kind }):=by
  split
  · exact ⟨(useR_rc r.kind h).el,(useR_rc r.kind h).ul,(useR_rc r.kind h).uo⟩
  · exact ⟨Nat.two_pow_pos 128,Nat.zero_le _,fun u hu=>by cases hu⟩
set_option maxHeartbeats 8000000 in
theorem ok_xEncR:EntOk Tryz.prog 16 (Ent.pure p_xEncR):=by
  refine EntOk.pure fun args H K h=>?_
  unfold p_xEncR at h
  split at h
  rotate_left
  · exact h.elim
  rename_i l
  obtain ⟨r,⟨rfl,hr⟩,hK⟩:=h
  refine ⟨_,hK,?_⟩
  clear hK
  have hul:=hr.ul
  obtain ⟨RE,hRE⟩:∃ RE,encR r=RE:=⟨_,rfl⟩
  rw [hRE]
  have hru:=xu_rc hr.rc
  obtain ⟨u,hu⟩:∃ u,(if valid6 r then usedR r else { zReq with kind:=r.kind })=u:=⟨_,rfl⟩
  rw [hu] at hru
  obtain ⟨V,hV⟩:∃ V,valid6 r=V:=⟨_,rfl⟩
  obtain ⟨N0,hN0⟩:∃ N0,(([r.role,r.table,r.count,r.port].all fun n=>rg n 2)&&rg r.frm 4)=N0:=⟨_,rfl⟩
  obtain ⟨W4,hW4⟩:∃ W4,([r.role,r.table,r.count,r.port].all fun n=>rg n 2)=W4:=⟨_,rfl⟩
  have hlr:=fun n=>lt_req (n:=n) r
  have hlu:=fun n=>lt_req (n:=n) u
  simp only [reqAV,zmz] at hlr hlu
  obtain ⟨HL,hHL⟩:∃ HL,HL=((H.push (.cells (reqC r))).push (.buf 1 0)).push (.cells (reqC u)):=⟨_,rfl⟩
  have hnL:HL.nx=H.nx+1+1+1:=by rw [hHL];rfl
  have hcrL:cellsOf? HL H.nx=some (reqC r):=by rw [hHL];simp only [go_sem]
  have hcuL:cellsOf? HL (H.nx+1+1)=some (reqC u):=by rw [hHL];simp only [go_sem]
  have hleL:H.Le HL:=by rw [hHL];repeat (first | exact AHeap.Le.refl _ | refine AHeap.Le.push ?_ _)
  refine ACalls.of_aw (Ω:=[(40,Ent.pure p_xUsed),(41,Ent.pure p_xWord),(42,Ent.pure p_xWithin),(43,Ent.pure p_xRanged),(19,Ent.pure p_rSameR),(45,Ent.effect e_rUint),(44,Ent.effect e_rValue),(47,Ent.effect e_rBytes),(46,Ent.effect e_rAppend10)]) (T:=assoc [(18,[[],[],[],[2],[],[],[2,3,5]]),(20,[[],[],[],[2],[],[],[2,3,5]]),(25,[[],[],[],[2],[2],[2],[],[],[2,3,4,5,7]]),(28,[[],[],[],[2],[],[],[2,3,5]]),(30,[[],[],[],[2],[],[],[2,3,5],[],[],[2,3,5,6,8]]),(32,[[],[],[],[2],[],[],[2,3,5]])]) mixed (TblOk.cons ok_xUsed (TblOk.cons ok_xWord (TblOk.cons ok_xWithin (TblOk.cons ok_xRanged (TblOk.cons ok_rSameR (TblOk.cons ok_rUint (TblOk.cons ok_rValue (TblOk.cons ok_rBytes (TblOk.cons ok_rAppend10 TblOk.nil))))))))) Tryz.func16 (by kernel_rfl) (by rfl) (rs:=[.tmp 2,.tmp 3]) (by rfl) (by kernel_rfl) (by simp only [Tryz.ntmps16,yaz,yba];decide) (Nat.le_refl _) fun hcl hlt=>?_
  change aw _ _ _ (KI Tryz.prog [(40,Ent.pure p_xUsed),(41,Ent.pure p_xWord),(42,Ent.pure p_xWithin),(43,Ent.pure p_xRanged),(19,Ent.pure p_rSameR),(45,Ent.effect e_rUint),(44,Ent.effect e_rValue),(47,Ent.effect e_rBytes),(46,Ent.effect e_rAppend10)] (aEnd Tryz.prog [.tmp 2,.tmp 3] H.nx _ _ (assoc [(18,[[],[],[],[2],[],[],[2,3,5]]),(20,[[],[],[],[2],[],[],[2,3,5]]),(25,[[],[],[],[2],[2],[2],[],[],[2,3,4,5,7]]),(28,[[],[],[],[2],[],[],[2,3,5]]),(30,[[],[],[],[2],[],[],[2,3,5],[],[],[2,3,5,6,8]]),(32,[[],[],[],[2],[],[],[2,3,5]])])) []) _ _
  clear hlt
  have hclL:HL.Closed:=by rw [hHL];exact closed_cells (closed_buf (closed_cells hcl (hlr _))) (hlu _)
  simp only [go_sem,reqC,p_xUsed]
  refine ⟨r,rfl,?_⟩
  rw [hu,hV]
  simp only [go_sem,reqAV,reqC,p_xWord]
  refine ⟨[r.role,r.table,r.count,r.port],⟨rfl,by simp⟩,?_⟩
  rw [hW4]
  have hN0':N0=(W4&&rg r.frm 4):=by rw [← hN0,hW4]
  obtain ⟨OF,hOF⟩:∃ OF,(V&&r.ups.all kOK)=OF:=⟨_,rfl⟩
  obtain ⟨NF,hNF⟩:∃ NF,(N0&&r.ups.all fun u=>rgE u.2)=NF:=⟨_,rfl⟩
  have hok:okR r=OF:=by rw [← hOF,← hV];rfl
  have hnu:numsR r=NF:=by rw [← hNF,← hN0];rfl
  cases W4
  case' false =>
    rw [Bool.false_and] at hN0'
    simp only [go_sem,ybb]
  case' true =>
    rw [Bool.true_and] at hN0'
    simp only [go_sem,ybb,p_xWithin,rg4]
  all_goals
    refine loop_introW (A:=Nat) (fun k=>[(1,.ptr H.nx 0),(4,.ptr (H.nx+1+1) 0),(5,.bool (V&&(r.ups.take k).all kOK)),(6,.bool (N0&&(r.ups.take k).all fun u=>rgE u.2)),(33,.slice .any 6 (r.ups.map updAV)),(34,.int .i64 (r.ups.length:Int)),(35,.int .i64 (k:Int))]) (fun _=>HL) (fun k=>k≤r.ups.length) (fun k=>r.ups.length - k) 0 (by omega) ?_ fun k hk=>?_
    · rw [hHL]
      refine ⟨by simp only [zjy,zkd,zkm];omega,by simp only [reqC];repeat (first | exact AHeap.Le.refl _ | refine AHeap.Le.push ?_ _),by rw [← hHL];exact hclL,?_,?_⟩
      · simp [ltF,zmn,zmv,zmo,zkm,lt_map lt_upd]
        omega
      · simp [subW,wk2,wk1,wkM,Fr.get,hN0']
    simp only [go_sem]
    refine cond_split (fun hc=>?_) (fun hc=>?_)
    · have hk':k<r.ups.length:=by simp at hc;omega
      obtain ⟨x,hx⟩:∃ x,x=r.ups[k]:=⟨_,rfl⟩
      have hg:=getD_map (f:=updAV) (l:=r.ups) (k:=k) (x:=x) (by rw [List.getElem?_eq_getElem hk',hx])
      have e5:IntKind.i64.wrap ((k:Int)+1)=((k+1:Nat):Int):=by rw [wrap_i64]<;>omega
      have hxo:=hr.uo x (by rw [hx];exact List.getElem_mem hk')
      have et:r.ups.take (k+1)=r.ups.take k++[x]:=by rw [hx,List.take_succ_eq_append_getElem hk']
      have eO:(V&&(r.ups.take (k+1)).all kOK)=((V&&(r.ups.take k).all kOK)&&kOK x):=by rw [et,List.all_append,List.all_cons,List.all_nil,Bool.and_true,Bool.and_assoc]
      have eN:(N0&&(r.ups.take (k+1)).all fun u=>rgE u.2)=((N0&&(r.ups.take k).all fun u=>rgE u.2)&&rgE x.2):=by rw [et,List.all_append,List.all_cons,List.all_nil,Bool.and_true,Bool.and_assoc]
      obtain ⟨xk,xe⟩:=x
      obtain ⟨O1,hO1⟩:∃ O1,(V&&(r.ups.take (k+1)).all kOK)=O1:=⟨_,rfl⟩
      obtain ⟨N1,hN1⟩:∃ N1,(N0&&(r.ups.take (k+1)).all fun u=>rgE u.2)=N1:=⟨_,rfl⟩
      rw [hO1] at eO
      rw [hN1] at eN
      have ekk:kOK (xk,xe)=decide (1≤xk∧xk≤3):=rfl
      rw [ekk] at eO
      dsimp only at eN hxo
      generalize (V&&(r.ups.take k).all kOK)=Ok at *
      generalize (N0&&(r.ups.take k).all fun u=>rgE u.2)=Nk at *
      cases Ok<;>cases Nk
      all_goals
        simp only [Bool.false_and,Bool.true_and] at eO eN
        simp only [go_sem,Int.toNat_natCast,ybb,hg,updAV,updC,entryC,p_xWithin,p_xRanged,e5]
        (repeat with_reducible refine And.intro (by first | assumption | decide | omega) ?_)
        try refine ⟨xe,⟨rfl,hxo⟩,?_⟩
        try simp only [go_sem,Int.toNat_natCast,ybb,e5]
        refine ⟨k+1,by omega,by omega,by (try simp only [zkm]);omega,by repeat (first | exact AHeap.Le.refl _ | refine AHeap.Le.push ?_ _),hclL,?_,?_⟩
        · simp [ltF,zmn,zmv,zmo,hnL,lt_map lt_upd]
          omega
        · simp [subW,wk2,wk1,wkM,Fr.get,hO1,hN1,eO,eN]
    · have hk':k=r.ups.length:=by simp at hc;omega
      subst hk'
      rw [List.take_length,hOF,hNF]
      have hcr:=hcrL
      have hcu:=hcuL
      rw [reqC] at hcr hcu
      cases OF
      · have hp:permR r=false:=by rw [permR_split,hok,Bool.false_and]
        have hE:RE=([],2):=by rw [← hRE];unfold encR;rw [if_pos hp]
        subst hE
        simp only [go_sem,hcr,hcu]
        refine ⟨⟨.inl ⟨.inl rfl,rfl,rfl⟩,rfl,trivial⟩,by repeat (first | exact hleL | refine AHeap.Le.push ?_ _),hcl,?_⟩
        first | exact lt_resB | exact lt_resB (l:=[])
      · have hVt:V=true:=by rw [Bool.and_eq_true] at hOF;exact hOF.1
        rw [hV,hVt,if_pos rfl] at hu
        have hp:permR r=eqR u r:=by rw [permR_split,hok,Bool.true_and,hu]
        simp only [go_sem,hcr,hcu,p_rSameR]
        refine ⟨u,r,⟨rfl,rfl,hru,hr.rc⟩,?_⟩
        rw [← hp]
        cases hpp:permR r
        · have hE:RE=([],2):=by rw [← hRE];unfold encR;rw [if_pos hpp]
          subst hE
          simp only [go_sem,hcr,hcu]
          refine ⟨⟨.inl ⟨.inl rfl,rfl,rfl⟩,rfl,trivial⟩,by repeat (first | exact hleL | refine AHeap.Le.push ?_ _),hcl,?_⟩
          first | exact lt_resB | exact lt_resB (l:=[])
        · skip
          have hE0:RE=if 32<r.ups.length∨320<r.data.length then ([],3) else if (!rg r.kind 1||badR r.kind r)=true then ([],4) else if 8000<(wireR r).length then ([],3) else (wireR r,0):=by
            rw [← hRE];unfold encR;rw [if_neg (by rw [hpp];decide)]
          simp only [go_sem,hcr,hcu,Bool.not_true]
          by_cases h1:32<r.ups.length
          · have d1:decide ((r.ups.length:Int) > 32)=true:=decide_eq_true (by omega)
            rw [if_pos (.inl h1)] at hE0
            subst hE0
            simp only [ybb,d1]
            simp only [go_sem,byq,hcr,hcu,hnL]
            refine ⟨⟨.inl ⟨.inl rfl,rfl,rfl⟩,rfl,trivial⟩,by repeat (first | exact hleL | refine AHeap.Le.push ?_ _),hcl,?_⟩
            first | exact lt_resB | exact lt_resB (l:=[])
          have d1:decide ((r.ups.length:Int) > 32)=false:=decide_eq_false (by omega)
          by_cases h2:320<r.data.length
          · have d2:decide ((r.data.length:Int) > 320)=true:=decide_eq_true (by omega)
            rw [if_pos (.inr h2)] at hE0
            subst hE0
            simp only [go_sem,byq,ybb,d1,d2]
            simp only [go_sem,byq,hcr,hcu,hnL]
            refine ⟨⟨.inl ⟨.inl rfl,rfl,rfl⟩,rfl,trivial⟩,by repeat (first | exact hleL | refine AHeap.Le.push ?_ _),hcl,?_⟩
            first | exact lt_resB | exact lt_resB (l:=[])
          have d2:decide ((r.data.length:Int) > 320)=false:=decide_eq_false (by omega)
          rw [if_neg (by omega),nums_eq hpp (by omega),hnu] at hE0
          simp only [go_sem,byq,ybb,d1,d2]
          cases NF
          · rw [if_pos (by decide)] at hE0
            subst hE0
            simp only [go_sem,byq,hcr,hcu,hnL]
            refine ⟨⟨.inl ⟨.inl rfl,rfl,rfl⟩,rfl,trivial⟩,by repeat (first | exact hleL | refine AHeap.Le.push ?_ _),hcl,?_⟩
            first | exact lt_resB | exact lt_resB (l:=[])
          rw [if_neg (by decide)] at hE0
          have hv6:valid6 r=true:=by rw [hV,hVt]
          have hv7:=of_decide_eq_true hv6
          have hk6:=kind_cases hv7.1 hv7.2
          obtain ⟨x,hx1,hx2⟩:=lit1 hk6
          have hlb:=bodyR_len r.kind hr
          have hlw:(wireR r).length≤600000:=by unfold wireR;rw [List.length_append,hx2];simp;omega
          have iv:=isV_of hr.el
          have lv:=wValue_len hr.el
          have ln:=fun n w=>wUint_len n w
          have lb:=wBytes_len r.data
          have a1:=ln r.role 2
          have a2:=ln r.ups.length 2
          have a3:=ln r.table 2
          have a4:=ln r.frm 4
          have a5:=ln r.count 2
          have a6:=ln r.port 2
          have hwr:wireR r=[x]++bodyR r.kind r:=by unfold wireR;rw [hx2]
          have hkO:r.ups.all kOK=true:=by rw [hVt,Bool.true_and] at hOF;exact hOF
          have hkE:(r.ups.all fun u=>rgE u.2)=true:=by rw [Bool.and_eq_true] at hNF;exact hNF.2
          simp only [go_sem,byq,hcr,hnL,hx1]
          rcases hk6 with hk | hk | hk | hk | hk | hk
          · have hwr:wireR r=[x]++(wUint r.role 2++wValue r.el):=by rw [hwr,hk];rfl
            simp only [go_sem,byq,hk,Int.reduceBEq,hcr,hnL,e_rUint,e_rValue,e_rBytes,iv,Int.toNat_natCast,vOf_back]
            (repeat with_reducible refine And.intro (by first | omega | exact ⟨by omega,by rw [Nat.add_comm]⟩ | exact ⟨by simp only [List.length_append];omega,by simp only [List.length_append,Nat.add_comm,Nat.add_left_comm,Nat.add_assoc]⟩) ?_)
            obtain ⟨BB,hBB⟩:∃ BB,wireR r=BB:=⟨_,rfl⟩
            rw [hBB] at hE0 hlw hwr
            rw [List.singleton_append] at hwr
            have hBl:BB.length=_:=congrArg List.length hwr
            rw [yaz] at hBl
            refine cond_split (fun hb2=>?_) (fun hb2=>?_)
            · have hb3:8000<BB.length:=by rw [hBl];simp only [gt_iff_lt,decide_eq_true_eq] at hb2;(try simp only [yba]);(try omega)
              rw [if_pos hb3] at hE0
              subst hE0
              simp only [go_sem,byq,hcr,hcu,hnL]
              refine ⟨⟨.inl ⟨.inl rfl,rfl,rfl⟩,rfl,trivial⟩,by repeat (first | exact hleL | refine AHeap.Le.push ?_ _),hcl,?_⟩
              first | exact lt_resB | exact lt_resB (l:=[])
            · have hb3:¬ 8000<BB.length:=by rw [hBl];simp only [gt_iff_lt,decide_eq_false_iff_not] at hb2;(try simp only [yba]);(try omega)
              rw [if_neg hb3] at hE0
              subst hE0
              simp only [go_sem,byq,hcr,hcu,hnL]
              refine ⟨⟨.inl ⟨.inl rfl,rfl,by rw [hwr]<;>rfl⟩,rfl,trivial⟩,by repeat (first | exact hleL | refine AHeap.Le.push ?_ _),hcl,?_⟩
              first | exact lt_resB | exact lt_resB (l:=[])
          · have hwr:wireR r=[x]++(([]:List UInt8)):=by rw [hwr,hk];rfl
            simp only [go_sem,byq,hk,Int.reduceBEq,hcr,hnL,e_rUint,e_rValue,e_rBytes,iv,Int.toNat_natCast,vOf_back]
            (repeat with_reducible refine And.intro (by first | omega | exact ⟨by omega,by rw [Nat.add_comm]⟩ | exact ⟨by simp only [List.length_append];omega,by simp only [List.length_append,Nat.add_comm,Nat.add_left_comm,Nat.add_assoc]⟩) ?_)
            obtain ⟨BB,hBB⟩:∃ BB,wireR r=BB:=⟨_,rfl⟩
            rw [hBB] at hE0 hlw hwr
            rw [List.singleton_append] at hwr
            have hBl:BB.length=_:=congrArg List.length hwr
            rw [yaz] at hBl
            refine cond_split (fun hb2=>?_) (fun hb2=>?_)
            · have hb3:8000<BB.length:=by rw [hBl];simp only [gt_iff_lt,decide_eq_true_eq] at hb2;(try simp only [yba]);(try omega)
              rw [if_pos hb3] at hE0
              subst hE0
              simp only [go_sem,byq,hcr,hcu,hnL]
              refine ⟨⟨.inl ⟨.inl rfl,rfl,rfl⟩,rfl,trivial⟩,by repeat (first | exact hleL | refine AHeap.Le.push ?_ _),hcl,?_⟩
              first | exact lt_resB | exact lt_resB (l:=[])
            · have hb3:¬ 8000<BB.length:=by rw [hBl];simp only [gt_iff_lt,decide_eq_false_iff_not] at hb2;(try simp only [yba]);(try omega)
              rw [if_neg hb3] at hE0
              subst hE0
              simp only [go_sem,byq,hcr,hcu,hnL]
              refine ⟨⟨.inl ⟨.inl rfl,rfl,by rw [hwr]<;>rfl⟩,rfl,trivial⟩,by repeat (first | exact hleL | refine AHeap.Le.push ?_ _),hcl,?_⟩
              first | exact lt_resB | exact lt_resB (l:=[])
          · have hwr:wireR r=[x]++(wUint r.role 2++wValue r.el++wUint r.ups.length 2++r.ups.flatMap bodyU):=by rw [hwr,hk];rfl
            simp only [go_sem,byq,hk,Int.reduceBEq,hcr,hnL,e_rUint,e_rValue,e_rBytes,iv,Int.toNat_natCast,vOf_back,ybb]
            (repeat with_reducible refine And.intro (by first | omega | exact ⟨by omega,by rw [Nat.add_comm]⟩ | exact ⟨by simp only [List.length_append];omega,by simp only [List.length_append,Nat.add_comm,Nat.add_left_comm,Nat.add_assoc]⟩) ?_)
            obtain ⟨BB,hBB⟩:∃ BB,wireR r=BB:=⟨_,rfl⟩
            rw [hBB] at hE0 hlw hwr
            rw [List.singleton_append] at hwr
            refine loop_introW (A:=Nat × List UInt8) (fun z=>[(9,.slice (.own (H.nx+1+1+1)) 1 (bys z.2)),(105,.slice .any 6 (r.ups.map updAV)),(106,.int .i64 (r.ups.length:Int)),(107,.int .i64 (z.1:Int))]) (fun z=>HL.push (.buf 1 z.2.length)) (fun z=>z.1≤r.ups.length∧z.2++(r.ups.drop z.1).flatMap bodyU=BB∧z.2.length≤100+405*z.1) (fun z=>r.ups.length - z.1) (0,x::(wUint r.role 2++wValue r.el++wUint r.ups.length 2)) ⟨by omega,by rw [hwr];simp,by simp only [yaz,List.length_append];omega⟩ ?_ fun z hz=>?_
            · refine ⟨by simp only [zjy,zkd,zkm,hnL];omega,by first | (simp only [yaz,List.length_append,Nat.add_comm,Nat.add_left_comm,Nat.add_assoc];exact AHeap.Le.refl _),closed_buf hclL,?_,?_⟩
              · simp [ltF,zmn,zmv,zmo,zkm,hnL,lt_sliceL,zlx,lt_map lt_upd]
                try omega
              · simp [subW,wk2,wk1,wkM,Fr.get]
            obtain ⟨k,z⟩:=z
            obtain ⟨hk1,hz,hzl⟩:=hz
            dsimp only at hk1 hz hzl ⊢
            simp only [go_sem]
            refine cond_split (fun hc=>?_) (fun hc=>?_)
            · have hk':k<r.ups.length:=by simp at hc;omega
              obtain ⟨y,hy⟩:∃ y,y=r.ups[k]:=⟨_,rfl⟩
              have hg:=getD_map (f:=updAV) (l:=r.ups) (k:=k) (x:=y) (by rw [List.getElem?_eq_getElem hk',hy])
              have e5:IntKind.i64.wrap ((k:Int)+1)=((k+1:Nat):Int):=by rw [wrap_i64]<;>omega
              have hym:y∈r.ups:=by rw [hy];exact List.getElem_mem hk'
              have hyo:=hr.uo y hym
              have hyk:=List.all_eq_true.1 hkO y hym
              have hye:=List.all_eq_true.1 hkE y hym
              have hd:r.ups.drop k=y::r.ups.drop (k+1):=by rw [hy];exact List.drop_eq_getElem_cons hk'
              obtain ⟨yk,ye⟩:=y
              have hyk3:1≤yk∧yk≤3:=of_decide_eq_true hyk
              obtain ⟨c,hc1,hc2⟩:=lit1 (k:=yk) (by omega)
              have hbu:bodyU (yk,ye)=[c]++wEntry ye:=by
                show wUint yk 1++(if rgE ye then wEntry ye else [])=_
                rw [if_pos hye,hc2]
              obtain ⟨r1,r2⟩:=rgE_len (show rgE ye=true from hye)
              have hwe:(wEntry ye).length≤400:=wEntry_len4 hyo r1 r2
              rw [hd,List.flatMap_cons,hbu,List.append_assoc,← List.append_assoc,← List.append_assoc] at hz
              dsimp only at hyo hye
              simp only [go_sem,byq,Int.toNat_natCast,ybb,hg,updAV,updC,entryC,hc1,hnL,e_rAppend10,List.length_append]
              refine ⟨⟨by omega,by omega⟩,⟨by omega,by omega⟩,ye,z++[c],⟨rfl,rfl,by simp;omega,by omega,by omega,hyo,by simp⟩,(k+1,z++[c]++wEntry ye),⟨by dsimp only;omega,by rw [← hz]<;>simp [List.append_assoc],by dsimp only;simp only [List.length_append,yaz,yba];omega⟩,by dsimp only;omega,?_⟩
              refine ⟨by simp only [zkm,hnL];omega,by (try simp only [List.length_append]);repeat (first | exact AHeap.Le.refl _ | refine AHeap.Le.push ?_ _),closed_buf hclL,?_,?_⟩
              · simp [ltF,zmn,zmv,zmo,zkm,hnL,lt_sliceL,zlx,lt_map lt_upd]
                try omega
              · simp [subW,wk2,wk1,wkM,Fr.get]
                exact e5
            · have hk':k=r.ups.length:=by simp at hc;omega
              subst hk'
              rw [List.drop_length,List.flatMap_nil,yaj] at hz
              subst hz
              simp only [go_sem,byq,hcr,hnL]
              refine cond_split (fun hb2=>?_) (fun hb2=>?_)
              · have hb3:8000<z.length:=by simp only [gt_iff_lt,decide_eq_true_eq] at hb2;omega
                rw [if_pos hb3] at hE0
                subst hE0
                simp only [go_sem,byq,hcr,hcu,hnL]
                refine ⟨⟨.inl ⟨.inl rfl,rfl,rfl⟩,rfl,trivial⟩,by repeat (first | exact hleL | refine AHeap.Le.push ?_ _),hcl,?_⟩
                first | exact lt_resB | exact lt_resB (l:=[])
              · have hb3:¬ 8000<z.length:=by simp only [gt_iff_lt,decide_eq_false_iff_not] at hb2;omega
                rw [if_neg hb3] at hE0
                subst hE0
                simp only [go_sem,byq,hcr,hcu,hnL]
                refine ⟨⟨.inl ⟨.inl rfl,rfl,rfl⟩,rfl,trivial⟩,by repeat (first | exact hleL | refine AHeap.Le.push ?_ _),hcl,?_⟩
                first | exact lt_resB | exact lt_resB (l:=[])
          · have hwr:wireR r=[x]++(wUint r.role 2++wUint r.table 2):=by rw [hwr,hk];rfl
            simp only [go_sem,byq,hk,Int.reduceBEq,hcr,hnL,e_rUint,e_rValue,e_rBytes,iv,Int.toNat_natCast,vOf_back]
            (repeat with_reducible refine And.intro (by first | omega | exact ⟨by omega,by rw [Nat.add_comm]⟩ | exact ⟨by simp only [List.length_append];omega,by simp only [List.length_append,Nat.add_comm,Nat.add_left_comm,Nat.add_assoc]⟩) ?_)
            obtain ⟨BB,hBB⟩:∃ BB,wireR r=BB:=⟨_,rfl⟩
            rw [hBB] at hE0 hlw hwr
            rw [List.singleton_append] at hwr
            have hBl:BB.length=_:=congrArg List.length hwr
            rw [yaz] at hBl
            refine cond_split (fun hb2=>?_) (fun hb2=>?_)
            · have hb3:8000<BB.length:=by rw [hBl];simp only [gt_iff_lt,decide_eq_true_eq] at hb2;(try simp only [yba]);(try omega)
              rw [if_pos hb3] at hE0
              subst hE0
              simp only [go_sem,byq,hcr,hcu,hnL]
              refine ⟨⟨.inl ⟨.inl rfl,rfl,rfl⟩,rfl,trivial⟩,by repeat (first | exact hleL | refine AHeap.Le.push ?_ _),hcl,?_⟩
              first | exact lt_resB | exact lt_resB (l:=[])
            · have hb3:¬ 8000<BB.length:=by rw [hBl];simp only [gt_iff_lt,decide_eq_false_iff_not] at hb2;(try simp only [yba]);(try omega)
              rw [if_neg hb3] at hE0
              subst hE0
              simp only [go_sem,byq,hcr,hcu,hnL]
              refine ⟨⟨.inl ⟨.inl rfl,rfl,by rw [hwr]<;>rfl⟩,rfl,trivial⟩,by repeat (first | exact hleL | refine AHeap.Le.push ?_ _),hcl,?_⟩
              first | exact lt_resB | exact lt_resB (l:=[])
          · have hwr:wireR r=[x]++(wUint r.role 2++wUint r.frm 4++wUint r.count 2):=by rw [hwr,hk];rfl
            simp only [go_sem,byq,hk,Int.reduceBEq,hcr,hnL,e_rUint,e_rValue,e_rBytes,iv,Int.toNat_natCast,vOf_back]
            (repeat with_reducible refine And.intro (by first | omega | exact ⟨by omega,by rw [Nat.add_comm]⟩ | exact ⟨by simp only [List.length_append];omega,by simp only [List.length_append,Nat.add_comm,Nat.add_left_comm,Nat.add_assoc]⟩) ?_)
            obtain ⟨BB,hBB⟩:∃ BB,wireR r=BB:=⟨_,rfl⟩
            rw [hBB] at hE0 hlw hwr
            rw [List.singleton_append] at hwr
            have hBl:BB.length=_:=congrArg List.length hwr
            rw [yaz] at hBl
            refine cond_split (fun hb2=>?_) (fun hb2=>?_)
            · have hb3:8000<BB.length:=by rw [hBl];simp only [gt_iff_lt,decide_eq_true_eq] at hb2;(try simp only [yba]);(try omega)
              rw [if_pos hb3] at hE0
              subst hE0
              simp only [go_sem,byq,hcr,hcu,hnL]
              refine ⟨⟨.inl ⟨.inl rfl,rfl,rfl⟩,rfl,trivial⟩,by repeat (first | exact hleL | refine AHeap.Le.push ?_ _),hcl,?_⟩
              first | exact lt_resB | exact lt_resB (l:=[])
            · have hb3:¬ 8000<BB.length:=by rw [hBl];simp only [gt_iff_lt,decide_eq_false_iff_not] at hb2;(try simp only [yba]);(try omega)
              rw [if_neg hb3] at hE0
              subst hE0
              simp only [go_sem,byq,hcr,hcu,hnL]
              refine ⟨⟨.inl ⟨.inl rfl,rfl,by rw [hwr]<;>rfl⟩,rfl,trivial⟩,by repeat (first | exact hleL | refine AHeap.Le.push ?_ _),hcl,?_⟩
              first | exact lt_resB | exact lt_resB (l:=[])
          · have hwr:wireR r=[x]++(wUint r.port 2++wBytes r.data):=by rw [hwr,hk];rfl
            simp only [go_sem,byq,hk,Int.reduceBEq,hcr,hnL,e_rUint,e_rValue,e_rBytes,iv,Int.toNat_natCast,vOf_back]
            (repeat with_reducible refine And.intro (by first | omega | exact ⟨by omega,by rw [Nat.add_comm]⟩ | exact ⟨by simp only [List.length_append];omega,by simp only [List.length_append,Nat.add_comm,Nat.add_left_comm,Nat.add_assoc]⟩) ?_)
            obtain ⟨BB,hBB⟩:∃ BB,wireR r=BB:=⟨_,rfl⟩
            rw [hBB] at hE0 hlw hwr
            rw [List.singleton_append] at hwr
            have hBl:BB.length=_:=congrArg List.length hwr
            rw [yaz] at hBl
            refine cond_split (fun hb2=>?_) (fun hb2=>?_)
            · have hb3:8000<BB.length:=by rw [hBl];simp only [gt_iff_lt,decide_eq_true_eq] at hb2;(try simp only [yba]);(try omega)
              rw [if_pos hb3] at hE0
              subst hE0
              simp only [go_sem,byq,hcr,hcu,hnL]
              refine ⟨⟨.inl ⟨.inl rfl,rfl,rfl⟩,rfl,trivial⟩,by repeat (first | exact hleL | refine AHeap.Le.push ?_ _),hcl,?_⟩
              first | exact lt_resB | exact lt_resB (l:=[])
            · have hb3:¬ 8000<BB.length:=by rw [hBl];simp only [gt_iff_lt,decide_eq_false_iff_not] at hb2;(try simp only [yba]);(try omega)
              rw [if_neg hb3] at hE0
              subst hE0
              simp only [go_sem,byq,hcr,hcu,hnL]
              refine ⟨⟨.inl ⟨.inl rfl,rfl,by rw [hwr]<;>rfl⟩,rfl,trivial⟩,by repeat (first | exact hleL | refine AHeap.Le.push ?_ _),hcl,?_⟩
              first | exact lt_resB | exact lt_resB (l:=[])
end Go.AL


open Go Go.AL Go.Proofs
namespace Go.AL
set_option linter.all false
set_option maxRecDepth 10000

def p_CStep:List AV→AHeap→(AV→Prop)→Prop
  | [.ptr id 0],H,K=>onC (H.get id) fun b v=>K (.int .i64 ((2*v+1:Nat):Int))
  | _,_,_=>False
theorem ok_CStep:EntOk Tryz.prog 112 (Ent.pure p_CStep):=by
  refine EntOk.pure fun args H K h=>?_
  unfold p_CStep at h
  split at h
  rotate_left
  · exact h.elim
  rename_i id
  obtain ⟨b,v,hg,hb,hv,hK⟩:=onC_out h
  refine ⟨_,hK,?_⟩
  clear hK
  refine ACalls.of_aw (Ω:=[]) (T:=assoc []) mixed TblOk.nil Tryz.func112 (by kernel_rfl) (by rfl) (rs:=[.tmp 2]) (by rfl) (by kernel_rfl) (by simp only [Tryz.ntmps112,yaz,yba];decide) (Nat.le_refl _) fun hcl hlt=>?_
  change aw _ _ _ (KI Tryz.prog [] (aEnd Tryz.prog [.tmp 2] H.nx _ _ (assoc [])) []) _ _
  clear hlt
  have hcs:=cells_some hg
  have e0:((min (cp v 0) b.length:Nat):Int)=v:=by unfold cp;omega
  have e1:IntKind.i64.wrap (2*(v:Int))=2*v:=by rw [wrap_i64]<;>omega
  have e2:IntKind.i64.wrap (2*(v:Int)+1)=2*v+1:=by rw [wrap_i64]<;>omega
  simp only [go_sem,hcs,e0,e1,e2]
  simp (disch:=first | assumption | omega | (simp;done) | (simp;omega) | (simp only [bt,and_true];first | done | omega | (simp;done))) [↓zlw,beq,ybc,ybd,ybe,endOk,wk,wk2,wk1,wkM,wkL,wkLL,ybf,hcl]
/-- the bytes that are made of one choice -/
def gB (b:List UInt8) (n v:Nat):List UInt8:=(List.range n).map fun i=>UInt8.ofNat (cv b v 256+i*(2*min (v+1) b.length+1))
def e_CBytes:List AV→AHeap→(AEnd→AHeap→Prop)→Prop
  | [.ptr id 0,.int .i64 n],H,K=>onC (H.get id) fun b v=>(0≤n∧n≤1000)∧K (.ret (.ms (H.nx+1) 0 1 n.toNat)) (((H.set id (codV b (v+1))).push (.buf 1 0)).push (.cells (bys (gB b n.toNat v))))
  | _,_,_=>False
theorem ofByte_u8 (z:Nat):AV.int .u8 (IntKind.u8.wrap (z:Int))=ofByte (UInt8.ofNat z):=by
  unfold ofByte
  congr 1
set_option maxHeartbeats 4000000 in
theorem ok_CBytes:EntOk Tryz.prog 50 (Ent.effect e_CBytes):=by
  refine EntOk.effect fun args H K h=>?_
  unfold e_CBytes at h
  split at h
  rotate_left
  · exact h.elim
  rename_i id n
  obtain ⟨b,v,hg,hb,hv,⟨hn1,hn2⟩,hK⟩:=onC_out h
  refine ⟨_,_,hK,?_⟩
  clear hK
  obtain ⟨n,rfl⟩:=Int.eq_ofNat_of_zero_le (show 0≤n by omega)
  simp only [Int.toNat_natCast]
  generalize hG:gB b n v=G
  refine ACalls.of_aw (Ω:=[(29,Ent.effect e_ZNext),(112,Ent.pure p_CStep)]) (T:=assoc []) mixed (TblOk.cons ok_ZNext (TblOk.cons ok_CStep TblOk.nil)) Tryz.func50 (by kernel_rfl) (by rfl) (rs:=[.tmp 4]) (by rfl) (by kernel_rfl) (by simp only [Tryz.ntmps50,yaz,yba];decide) (by simp only [zkm,zkn];omega) fun hcl hlt=>?_
  change aw _ _ _ (KI Tryz.prog [(29,Ent.effect e_ZNext),(112,Ent.pure p_CStep)] (aEnd Tryz.prog [.tmp 4] H.nx _ _ (assoc [])) []) _ _
  clear hlt
  have hid:=AHeap.get_lt hg
  have hne:=ne_nx hid
  have hgc:=get_codV (b:=b) hid
  have hcl2:∀ w,(H.set id (codV b w)).Closed:=fun w=>closed_set hcl codV_lt
  simp only [go_sem,byq,e_ZNext,p_CStep,hg,hgc,hne,onC_cod hb,cv_min,codV_min,cp_add]
  refine ⟨⟨by omega,by omega,by omega⟩,⟨by decide,by decide⟩,?_⟩
  have hx:cv b (cp v 0) 256≤255:=cv_256
  have hlG:G.length=n:=by rw [← hG];simp [gB]
  have hgG:∀ j,j<n→G[j]?=some (UInt8.ofNat (cv b (cp v 0) 256+j*(2*min (v+1) b.length+1))):=fun j hj=>by
    rw [← hG];unfold gB;rw [List.getElem?_map,List.getElem?_range hj];rfl
  refine loop_introW (A:=Nat × List UInt8) (fun x=>[(0,.ptr id 0),(5,.ms (H.nx+1) 0 1 n),(6,.int .i64 ((cv b (cp v 0) 256:Nat):Int)),(13,.int .i64 (n:Int)),(14,.int .i64 (x.1:Int))]) (fun x=>((H.set id (codV b (cp v 1))).push (.buf 1 0)).push (.cells (bys x.2))) (fun x=>x.1≤n∧x.2.length=n∧∀ j,j<x.1→x.2[j]?=G[j]?) (fun x=>n - x.1) (0,List.replicate n 0) ⟨by omega,by simp,by intro j hj;exact absurd hj (Nat.not_lt_zero _)⟩ ?_ fun x hx=>?_
  · refine ⟨by simp only [zjy,zkd,zkm,zkn];omega,AHeap.Le.refl _,closed_cells (closed_buf (hcl2 _)) (by rw [zlx];trivial),?_,?_⟩
    · simp [ltF,zmn,zmv,zmx,zkm,zkn]
      try omega
    · simp [subW,wk2,wk1,wkM,Fr.get]
  obtain ⟨k,z⟩:=x
  obtain ⟨hk,hz,hzj⟩:=hx
  dsimp only at hk hz hzj ⊢
  simp only [go_sem]
  refine cond_split (fun hc=>?_) (fun hc=>?_)
  · have hk':k<n:=by simp at hc;omega
    have e5:IntKind.i64.wrap ((k:Int)+1)=((k+1:Nat):Int):=by rw [wrap_i64]<;>omega
    obtain ⟨st,hst⟩:∃ st,2*min (cp v 1) b.length+1=st:=⟨_,rfl⟩
    have hst2:st≤2000001:=by omega
    have hm1:k*st≤1000*2000001:=Nat.mul_le_mul (by omega) hst2
    have e6:IntKind.i64.wrap ((k:Int)*(st:Int))=((k*st:Nat):Int):=by rw [← Int.natCast_mul,wrap_i64]<;>omega
    have e7:IntKind.i64.wrap (((cv b (cp v 0) 256:Nat):Int)+((k*st:Nat):Int))=((cv b (cp v 0) 256+k*st:Nat):Int):=by rw [wrap_i64]<;>omega
    simp only [go_sem,byq,p_CStep,hg,hgc,hne,onC_cod hb,cv_min,codV_min,cp_add,Int.toNat_natCast,hst,e6,e7,ofByte_u8]
    obtain ⟨y,hy⟩:∃ y,UInt8.ofNat (cv b (cp v 0) 256+k*st)=y:=⟨_,rfl⟩
    have hgk:=hgG k hk'
    rw [show 2*min (v+1) b.length+1=st from hst,hy] at hgk
    have hsp:splice (bys z) k (bys [y])=bys (z.set k y):=by
      rw [zly (by simp;omega),List.set_eq_take_append_cons_drop,if_pos (by omega)]
      simp
    rw [hy,hsp]
    refine ⟨⟨by omega,by omega⟩,by omega,(k+1,z.set k y),⟨by dsimp only;omega,by simp [hz],fun j hj=>?_⟩,by dsimp only;omega,?_⟩
    · dsimp only at hj ⊢
      by_cases hjk:j=k
      · subst hjk
        rw [List.getElem?_set_self (by omega),hgk]
      · rw [List.getElem?_set_ne (by omega)];exact hzj j (by omega)
    refine ⟨by simp only [zkm,zkn];omega,AHeap.Le.refl _,closed_cells (closed_buf (hcl2 _)) (by rw [zlx];trivial),?_,?_⟩
    · simp [ltF,zmn,zmv,zmx,zkm,zkn]
      try omega
    · simp [subW,wk2,wk1,wkM,Fr.get,e5]
  · have hk':k=n:=by simp at hc;omega
    subst hk'
    have hzG:z=G:=by
      refine List.ext_getElem? fun j=>?_
      by_cases hj:j<k
      · exact hzj j hj
      · rw [List.getElem?_eq_none (by omega),List.getElem?_eq_none (by omega)]
    subst hzG
    simp only [go_sem]
    refine ⟨rfl,AHeap.Le.refl _,closed_cells (closed_buf (hcl2 _)) (by rw [zlx];trivial),?_⟩
    simp [zmx,zkm,zkn]
end Go.AL


open Go Go.AL Go.Proofs
namespace Go.AL
set_option linter.all false
set_option maxRecDepth 10000

theorem gB_min {b:List UInt8} {n v:Nat}:gB b n (min v b.length)=gB b n v:=by
  unfold gB
  rw [cv_min,show min (min v b.length+1) b.length=min (v+1) b.length by omega]
theorem gB_len {b:List UInt8} {n v:Nat}:(gB b n v).length=n:=by simp [gB]
/-- the first byte of a packet -/
def fb (x:UInt8) (k:Nat):UInt8:=UInt8.ofNat (ior .u8 (iand .u8 (x.toNat:Int) 15) (IntKind.u8.wrap (([16,32,96,160]:List Int).getD k 0))).toNat
def gFrame (b:List UInt8) (v:Nat):List UInt8 × Nat :=
  if cv b (cp v 0) 14=0 then (gB b 0 (cp v 1),cp v 2) else if cv b (cp v 2) 2=1 then ((gB b (cv b (cp v 0) 14) (cp v 1)).set 0 (fb ((gB b (cv b (cp v 0) 14) (cp v 1)).getD 0 0) (cv b (cp v 3) 4)),cp v 4) else (gB b (cv b (cp v 0) 14) (cp v 1),cp v 3)
theorem gFrame_len {b:List UInt8} {v:Nat}:(gFrame b v).1.length≤13:=by
  have h:=cv_lt (b:=b) (v:=cp v 0) (n:=14) (by decide)
  unfold gFrame
  repeat' split
  all_goals simp [gB_len];try omega
def e_CFrame:List AV→AHeap→(AEnd→AHeap→Prop)→Prop
  | [.ptr id 0],H,K=>onC (H.get id) fun b v=>K (.ret (.slice .any 1 (bys (gFrame b v).1))) (H.set id (codV b (gFrame b v).2))
  | _,_,_=>False
theorem ms_bys {H' H1:AHeap} {i n:Nat} {l:List UInt8} (h1:cellsOf? H' i=some (bys l)) (h2:l.length=n) (h3:H1.nx≤i):wk H' H1 (.ms i 0 1 n) (.slice .any 1 (bys l)):=by
  simp only [wk,wk2,wk1,h1,true_or,true_and,yap]
  refine ⟨?_,zmd h3⟩
  rw [zlz (by omega),← h2,List.take_length]
theorem u8fix {w:Int} (h:∃ z,w=IntKind.u8.wrap z):AV.int .u8 w=ofByte (UInt8.ofNat w.toNat):=by
  obtain ⟨z,rfl⟩:=h
  have h1:IntKind.u8.wrap z=z % 256:=rfl
  have h2:0≤z % 256∧z % 256<256:=by omega
  unfold ofByte
  congr 1
  rw [UInt8.toNat_ofNat',h1]
  omega
theorem getD4 {α:Type} (f:Int→α) (d:α) (a b c e:Int) {k:Nat} (h:k<4):[f a,f b,f c,f e].getD k d=f ([a,b,c,e].getD k 0):=by
  match k,h with
  | 0,_ | 1,_ | 2,_ | 3,_=>rfl
set_option maxHeartbeats 4000000 in
theorem ok_CFrame:EntOk Tryz.prog 36 (Ent.effect e_CFrame):=by
  refine EntOk.effect fun args H K h=>?_
  unfold e_CFrame at h
  split at h
  rotate_left
  · exact h.elim
  rename_i id
  obtain ⟨b,v,hg,hb,hv,hK⟩:=onC_out h
  refine ⟨_,_,hK,?_⟩
  clear hK
  obtain ⟨R,hR⟩:∃ R,gFrame b v=R:=⟨_,rfl⟩
  rw [hR]
  unfold gFrame at hR
  refine ACalls.of_aw (Ω:=[(29,Ent.effect e_ZNext),(50,Ent.effect e_CBytes),(34,Ent.effect e_CBoolD)]) (T:=assoc [(3,[[],[],[],[],[],[],[],[],[],[7],[7,9],[],[],[3,7,9]]),(803,[[100005]])]) mixed (TblOk.cons ok_ZNext (TblOk.cons ok_CBytes (TblOk.cons ok_CBoolD TblOk.nil))) Tryz.func36 (by kernel_rfl) (by rfl) (rs:=[.tmp 2]) (by rfl) (by kernel_rfl) (by simp only [Tryz.ntmps36,yaz,yba];decide) (by simp only [zkn];omega) fun hcl hlt=>?_
  change aw _ _ _ (KI Tryz.prog [(29,Ent.effect e_ZNext),(50,Ent.effect e_CBytes),(34,Ent.effect e_CBoolD)] (aEnd Tryz.prog [.tmp 2] H.nx _ _ (assoc [(3,[[],[],[],[],[],[],[],[],[],[7],[7,9],[],[],[3,7,9]]),(803,[[100005]])])) []) _ _
  clear hlt
  have hid:=AHeap.get_lt hg
  have hne:=ne_nx hid
  have hgc:=get_codV (b:=b) hid
  have hcl2:∀ w,(H.set id (codV b w)).Closed:=fun w=>closed_set hcl codV_lt
  have hn:=cv_lt (b:=b) (v:=cp v 0) (n:=14) (by decide)
  simp only [go_sem,byq,e_ZNext,e_CBytes,hg,hgc,hne,onC_cod hb,cv_min,codV_min,cp_add,gB_min]
  refine ⟨⟨by decide,by decide⟩,⟨by omega,by omega⟩,both_split (fun h1=>?_) (fun h1=>?_)⟩
  · have hz:¬ cv b (cp v 0) 14=0:=by simp at h1;omega
    rw [if_neg hz] at hR
    simp only [go_sem,byq,e_CBoolD,hg,hgc,hne,onC_cod hb,cv_min,codV_min,cp_add,gB_min]
    refine cond_split (fun h2=>?_) (fun h2=>?_)
    · have h2':cv b (cp v 2) 2=1:=of_decide_eq_true h2
      rw [if_pos h2'] at hR
      subst hR
      simp only [go_sem,byq,e_ZNext,hg,hgc,hne,onC_cod hb,cv_min,codV_min,cp_add,gB_min]
      have hGl:=gB_len (b:=b) (n:=cv b (cp v 0) 14) (v:=cp v 1)
      generalize gB b (cv b (cp v 0) 14) (cp v 1)=G at *
      obtain ⟨x,G,rfl⟩:∃ x G',G=x::G':=by
        cases G with
        | nil=>simp at hGl;omega
        | cons x G'=>exact ⟨x,G',rfl⟩
      have hgd:(bys (x::G)).getD 0 .junk=.int .u8 (x.toNat:Int):=rfl
      have h4:=cv_lt (b:=b) (v:=cp v 3) (n:=4) (by decide)
      have hL:=getD4 (AV.int .i64) .junk 16 32 96 160 h4
      simp only [go_sem,byq,e_ZNext,hg,hgc,hne,onC_cod hb,cv_min,codV_min,cp_add,gB_min,hgd,hL,Int.toNat_natCast]
      refine ⟨⟨by decide,by omega⟩,⟨by decide,by decide⟩,⟨by omega,by omega⟩,⟨by decide,by omega⟩,?_⟩
      have hf:AV.int .u8 (ior .u8 (iand .u8 (x.toNat:Int) 15) (IntKind.u8.wrap (([16,32,96,160]:List Int).getD (cv b (cp v 3) 4) 0)))=ofByte (fb x (cv b (cp v 3) 4)):=u8fix ⟨_,rfl⟩
      rw [hf]
      exact ⟨ms_bys (by simp only [go_sem];rw [show ∀ y:UInt8,[ofByte y]=bys [y] from fun _=>rfl,zly (by simp)];simp) (by simpa using hGl) (by simp only [zkn];omega),by repeat (first | exact AHeap.Le.refl _ | refine AHeap.Le.push ?_ _),hcl2 _,by rw [zma];intro i e;cases e⟩
    · have h2':¬ cv b (cp v 2) 2=1:=of_decide_eq_false h2
      rw [if_neg h2'] at hR
      subst hR
      simp only [go_sem,byq]
      exact ⟨ms_bys (by simp only [go_sem]) gB_len (by simp only [zkn];omega),by repeat (first | exact AHeap.Le.refl _ | refine AHeap.Le.push ?_ _),hcl2 _,by rw [zma];intro i e;cases e⟩
  · have hz:cv b (cp v 0) 14=0:=by simp at h1;omega
    rw [if_pos hz] at hR
    subst hR
    rw [hz]
    simp only [go_sem,byq]
    exact ⟨ms_bys (by simp only [go_sem]) gB_len (by simp only [zkn];omega),by repeat (first | exact AHeap.Le.refl _ | refine AHeap.Le.push ?_ _),hcl2 _,by rw [zma];intro i e;cases e⟩
end Go.AL

