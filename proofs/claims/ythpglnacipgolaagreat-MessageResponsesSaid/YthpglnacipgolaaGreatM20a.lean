/- Contracts and plain laws, a part of the proof; no condition of its own. -/
import Derived.Test.YthpglnacipgolaaGreatM19j
import Derived.Test.YthpglnacipgolaaGreatM19m
import Derived.Test.YthpglnacipgolaaGreatM19r
open List renaming length_cons → yaz, length_nil → yba, length_map → ybb, take_of_length_le → ybc, drop_append → ybd, take_append → ybe, drop_eq_nil_of_le → ybf, cons_append → yal, nil_append → yak, take_succ_cons → yaq, take_zero → yar, drop_succ_cons → yao, drop_zero → yap, map_cons → yae, map_nil → yaf, append_nil → yaj
open Go Go.AL Go.Proofs
namespace Go.AL
set_option linter.all false
set_option maxRecDepth 10000
theorem ti_record:ti Tryz.prog 63=some ⟨.struct [(0,3,false),(1,3,false),(2,3,false),(3,3,false),(4,40,false),(5,3,false),(6,3,false)],7,56,.agg [.int .i64 0,.int .i64 0,.int .i64 0,.int .i64 0,.int .i64 0,.int .i64 0,.int .i64 0]⟩:=by kernel_rfl
theorem ti_records:ti Tryz.prog 56=some ⟨.slice 63,1,24,.slice .nil 1 []⟩:=by kernel_rfl
theorem ti_output:ti Tryz.prog 58=some ⟨.struct [(0,4,false),(1,3,false),(2,3,false),(3,32,false)],4,48,.agg [.bool false,.int .i64 0,.int .i64 0,.slice .nil 1 []]⟩:=by kernel_rfl
theorem ti_resp:ti Tryz.prog 60=some ⟨.struct [(0,40,false),(1,3,false),(2,4,false),(3,55,false),(4,56,false),(5,58,false)],9,120,.agg [.int .i64 0,.int .i64 0,.bool false,.slice .nil 1 [],.slice .nil 1 [],.bool false,.int .i64 0,.int .i64 0,.slice .nil 1 []]⟩:=by kernel_rfl
attribute [go_sem] ti_record ti_records ti_output ti_resp
/-- a record -/
structure SRec where
  num:Int
  ctl:Int
  role:Int
  kind:Int
  code:Int
  fail:Int
  upd:Int
def recC (r:SRec):List AV:=[.int .i64 r.num,.int .i64 r.ctl,.int .i64 r.role,.int .i64 r.kind,.int .i64 r.code,.int .i64 r.fail,.int .i64 r.upd]
def recAV (r:SRec):AV:=.agg (recC r)
theorem lt_rec {n:Nat} (r:SRec):AV.lt n (recAV r):=by simp only [recAV,recC,zmz,znc,znd,zmn,and_true]
def eqRec (a b:SRec):Bool:=(a.num==b.num)&&((a.ctl==b.ctl)&&((a.role==b.role)&&((a.kind==b.kind)&&((a.code==b.code)&&((a.fail==b.fail)&&((a.upd==b.upd)&&true))))))
theorem eqRec_refl (a:SRec):eqRec a a=true:=by simp [eqRec]
theorem eqg_rec:Tryz.prog.eqGuardType Tryz.prog.depth 63=false:=by kernel_rfl
theorem teq_rec {a b:SRec}:teq Tryz.prog 9 63 (.agg [.int .i64 a.num,.int .i64 a.ctl,.int .i64 a.role,.int .i64 a.kind,.int .i64 a.code,.int .i64 a.fail,.int .i64 a.upd]) (.agg [.int .i64 b.num,.int .i64 b.ctl,.int .i64 b.role,.int .i64 b.kind,.int .i64 b.code,.int .i64 b.fail,.int .i64 b.upd])=some (eqRec a b):=by
  have g2:Tryz.prog.stoodInHeld 63=false:=by kernel_rfl
  simp [ti_record,teq,teq.go,teq.part,ti_zint,ti_errno,ceq,g2,TD.agg,eqRec]
def p_xSameRecs:List AV→AHeap→(AV→Prop)→Prop
  | [.slice _ 7 l,.slice _ 7 k],_,K=>∃ xs ys:List (SRec),(l=xs.map recAV∧k=ys.map recAV∧xs.length≤140737488355328∧ys.length≤140737488355328∧True)∧K (.bool (eqL eqRec xs ys))
  | _,_,_=>False
set_option maxHeartbeats 2000000 in
theorem ok_xSameRecs:EntOk Tryz.prog 109 (Ent.pure p_xSameRecs):=by
  refine EntOk.pure fun args H K h=>?_
  unfold p_xSameRecs at h
  split at h
  rotate_left
  · exact h.elim
  rename_i m1 l m2 k
  obtain ⟨xs,ys,⟨rfl,rfl,hl1,hl2,ho⟩,hK⟩:=h
  clear ho
  refine ⟨_,hK,?_⟩
  clear hK
  obtain ⟨R,hR⟩:∃ R,eqL eqRec xs ys=R:=⟨_,rfl⟩
  rw [hR]
  by_cases hlen:xs.length=ys.length
  case neg =>
    rw [eqL_len hlen] at hR
    subst hR
    have d0:((xs.length:Int) != (ys.length:Int))=true:=by rw [bne_iff_ne];omega
    refine ACalls.of_aw (Ω:=[]) (T:=assoc []) mixed TblOk.nil Tryz.func109 (by kernel_rfl) (by rfl) (rs:=[.tmp 4]) (by rfl) (by kernel_rfl) (by simp only [Tryz.ntmps109,yaz,yba];decide) (Nat.le_refl _) fun hcl hlt=>?_
    change aw _ _ _ (KI Tryz.prog [] (aEnd Tryz.prog [.tmp 4] H.nx _ _ (assoc [])) []) _ _
    clear hlt
    simp only [go_sem,ybb,d0]
    simp (disch:=first | assumption | omega | (simp;done) | (simp;omega) | (simp only [bt,and_true];first | done | omega | (simp;done))) [↓zlw,beq,ybc,ybd,ybe,endOk,wk,wk2,wk1,wkM,wkL,wkLL,ybf,hcl]
  have d0:((xs.length:Int) != (ys.length:Int))=false:=by rw [hlen];simp
  refine ACalls.of_aw (Ω:=[]) (T:=assoc []) mixed TblOk.nil Tryz.func109 (by kernel_rfl) (by rfl) (rs:=[.tmp 4]) (by rfl) (by kernel_rfl) (by simp only [Tryz.ntmps109,yaz,yba];decide) (Nat.le_refl _) fun hcl hlt=>?_
  change aw _ _ _ (KI Tryz.prog [] (aEnd Tryz.prog [.tmp 4] H.nx _ _ (assoc [])) []) _ _
  have hs1:=hlt (.slice m1 7 (xs.map recAV)) (by simp)
  have hs2:=hlt (.slice m2 7 (ys.map recAV)) (by simp)
  clear hlt
  simp only [go_sem,ybb,d0]
  refine loop_introW (A:=Nat) (fun k=>[(0,.slice m1 7 (xs.map recAV)),(1,.slice m2 7 (ys.map recAV)),(12,.int .i64 (xs.length:Int)),(13,.int .i64 (k:Int))]) (fun _=>H) (fun k=>k≤xs.length∧eqL eqRec (xs.drop k) (ys.drop k)=R) (fun k=>xs.length - k) 0 ⟨by omega,hR⟩ ?_ fun k hk=>?_
  · refine ⟨by simp only [zjy,zkd];omega,AHeap.Le.refl _,hcl,?_,?_⟩
    · simp only [ltF,zmn,and_true,true_and]
      exact ⟨hs1,hs2⟩
    · simp [subW,wk2,wk1,wkM,Fr.get]
  obtain ⟨hk,hq⟩:=hk
  simp only [go_sem]
  refine cond_split (fun hc=>?_) (fun hc=>?_)
  · have hk':k<xs.length:=by simp at hc;omega
    have hk2:k<ys.length:=by omega
    obtain ⟨x,hx⟩:∃ x,x=xs[k]:=⟨_,rfl⟩
    obtain ⟨y,hy⟩:∃ y,y=ys[k]:=⟨_,rfl⟩
    have hd:xs.drop k=x::xs.drop (k+1):=by rw [hx];exact List.drop_eq_getElem_cons hk'
    have hd2:ys.drop k=y::ys.drop (k+1):=by rw [hy];exact List.drop_eq_getElem_cons hk2
    have hg:=getD_map (f:=recAV) (l:=xs) (k:=k) (x:=x) (by rw [List.getElem?_eq_getElem hk',hx])
    have hg2:=getD_map (f:=recAV) (l:=ys) (k:=k) (x:=y) (by rw [List.getElem?_eq_getElem hk2,hy])
    have e5:IntKind.i64.wrap ((k:Int)+1)=((k+1:Nat):Int):=by rw [wrap_i64]<;>omega
    rw [hd,hd2] at hq
    unfold eqL at hq
    simp only [go_sem,Int.toNat_natCast,ybb,hg,hg2,recAV,recC,teq_rec,eqg_rec,Bool.bne_false,Bool.bne_true]
    (repeat with_reducible refine And.intro (by first | assumption | decide | omega) ?_)
    refine cond_split (fun hb=>?_) (fun hb=>?_)
    · have hb':eqRec x y=false:=by first | (simpa using hb;done) | (simpa [eqRec] using hb)
      rw [hb',Bool.false_and] at hq
      rw [← hq]
      try simp only [go_sem]
      simp (disch:=first | assumption | omega | (simp;done) | (simp;omega) | (simp only [bt,and_true];first | done | omega | (simp;done))) [↓zlw,beq,ybc,ybd,ybe,endOk,wk,wk2,wk1,wkM,wkL,wkLL,ybf,hcl]
      first | done | repeat (first | exact AHeap.Le.refl _ | refine AHeap.Le.push ?_ _)
    · have hb':eqRec x y=true:=by first | (simpa using hb;done) | (simpa [eqRec] using hb)
      rw [hb',Bool.true_and] at hq
      simp only [go_sem,e5]
      refine ⟨k+1,⟨by omega,hq⟩,by omega,by (try simp only [zkm]);omega,by repeat (first | exact AHeap.Le.refl _ | refine AHeap.Le.push ?_ _),hcl,?_,?_⟩
      · simp only [ltF,zmn,and_true,true_and]
        exact ⟨hs1,hs2⟩
      · simp [subW,wk2,wk1,wkM,Fr.get]
  · have hk':k=xs.length:=by simp at hc;omega
    subst hk'
    rw [List.drop_length,hlen,List.drop_length] at hq
    rw [← hq]
    simp only [go_sem,eqL]
    simp (disch:=first | assumption | omega | (simp;done) | (simp;omega) | (simp only [bt,and_true];first | done | omega | (simp;done))) [↓zlw,beq,ybc,ybd,ybe,endOk,wk,wk2,wk1,wkM,wkL,wkLL,ybf,hcl]
def p_xSameAll:List AV→AHeap→(AV→Prop)→Prop
  | [.slice _ 5 l,.slice _ 5 k],_,K=>∃ xs ys:List (SEntry),(l=xs.map entryAV∧k=ys.map entryAV∧xs.length≤140737488355328∧ys.length≤140737488355328∧(∀ x∈xs,(COk) x)∧∀ x∈ys,(COk) x)∧K (.bool (eqL eqE xs ys))
  | _,_,_=>False
set_option maxHeartbeats 2000000 in
theorem ok_xSameAll:EntOk Tryz.prog 108 (Ent.pure p_xSameAll):=by
  refine EntOk.pure fun args H K h=>?_
  unfold p_xSameAll at h
  split at h
  rotate_left
  · exact h.elim
  rename_i m1 l m2 k
  obtain ⟨xs,ys,⟨rfl,rfl,hl1,hl2,ho⟩,hK⟩:=h
  obtain ⟨ho1,ho2⟩:=ho
  refine ⟨_,hK,?_⟩
  clear hK
  obtain ⟨R,hR⟩:∃ R,eqL eqE xs ys=R:=⟨_,rfl⟩
  rw [hR]
  by_cases hlen:xs.length=ys.length
  case neg =>
    rw [eqL_len hlen] at hR
    subst hR
    have d0:((xs.length:Int) != (ys.length:Int))=true:=by rw [bne_iff_ne];omega
    refine ACalls.of_aw (Ω:=[(148,Ent.pure p_rSame10)]) (T:=assoc [(6,[[],[],[],[],[],[],[],[],[3,7]])]) mixed (TblOk.cons ok_rSame10 TblOk.nil) Tryz.func108 (by kernel_rfl) (by rfl) (rs:=[.tmp 4]) (by rfl) (by kernel_rfl) (by simp only [Tryz.ntmps108,yaz,yba];decide) (Nat.le_refl _) fun hcl hlt=>?_
    change aw _ _ _ (KI Tryz.prog [(148,Ent.pure p_rSame10)] (aEnd Tryz.prog [.tmp 4] H.nx _ _ (assoc [(6,[[],[],[],[],[],[],[],[],[3,7]])])) []) _ _
    clear hlt
    simp only [go_sem,ybb,d0]
    simp (disch:=first | assumption | omega | (simp;done) | (simp;omega) | (simp only [bt,and_true];first | done | omega | (simp;done))) [↓zlw,beq,ybc,ybd,ybe,endOk,wk,wk2,wk1,wkM,wkL,wkLL,ybf,hcl]
  have d0:((xs.length:Int) != (ys.length:Int))=false:=by rw [hlen];simp
  refine ACalls.of_aw (Ω:=[(148,Ent.pure p_rSame10)]) (T:=assoc [(6,[[],[],[],[],[],[],[],[],[3,7]])]) mixed (TblOk.cons ok_rSame10 TblOk.nil) Tryz.func108 (by kernel_rfl) (by rfl) (rs:=[.tmp 4]) (by rfl) (by kernel_rfl) (by simp only [Tryz.ntmps108,yaz,yba];decide) (Nat.le_refl _) fun hcl hlt=>?_
  change aw _ _ _ (KI Tryz.prog [(148,Ent.pure p_rSame10)] (aEnd Tryz.prog [.tmp 4] H.nx _ _ (assoc [(6,[[],[],[],[],[],[],[],[],[3,7]])])) []) _ _
  have hs1:=hlt (.slice m1 5 (xs.map entryAV)) (by simp)
  have hs2:=hlt (.slice m2 5 (ys.map entryAV)) (by simp)
  clear hlt
  simp only [go_sem,ybb,d0]
  refine loop_introW (A:=Nat) (fun k=>[(0,.slice m1 5 (xs.map entryAV)),(1,.slice m2 5 (ys.map entryAV)),(12,.int .i64 (xs.length:Int)),(13,.int .i64 (k:Int))]) (fun _=>H) (fun k=>k≤xs.length∧eqL eqE (xs.drop k) (ys.drop k)=R) (fun k=>xs.length - k) 0 ⟨by omega,hR⟩ ?_ fun k hk=>?_
  · refine ⟨by simp only [zjy,zkd];omega,AHeap.Le.refl _,hcl,?_,?_⟩
    · simp only [ltF,zmn,and_true,true_and]
      exact ⟨hs1,hs2⟩
    · simp [subW,wk2,wk1,wkM,Fr.get]
  obtain ⟨hk,hq⟩:=hk
  simp only [go_sem]
  refine cond_split (fun hc=>?_) (fun hc=>?_)
  · have hk':k<xs.length:=by simp at hc;omega
    have hk2:k<ys.length:=by omega
    obtain ⟨x,hx⟩:∃ x,x=xs[k]:=⟨_,rfl⟩
    obtain ⟨y,hy⟩:∃ y,y=ys[k]:=⟨_,rfl⟩
    have hd:xs.drop k=x::xs.drop (k+1):=by rw [hx];exact List.drop_eq_getElem_cons hk'
    have hd2:ys.drop k=y::ys.drop (k+1):=by rw [hy];exact List.drop_eq_getElem_cons hk2
    have hg:=getD_map (f:=entryAV) (l:=xs) (k:=k) (x:=x) (by rw [List.getElem?_eq_getElem hk',hx])
    have hg2:=getD_map (f:=entryAV) (l:=ys) (k:=k) (x:=y) (by rw [List.getElem?_eq_getElem hk2,hy])
    have e5:IntKind.i64.wrap ((k:Int)+1)=((k+1:Nat):Int):=by rw [wrap_i64]<;>omega
    rw [hd,hd2] at hq
    unfold eqL at hq
    simp only [go_sem,Int.toNat_natCast,ybb,hg,hg2,entryAV,entryC,p_rSame10]
    (repeat with_reducible refine And.intro (by first | assumption | decide | omega) ?_)
    refine ⟨x,y,⟨rfl,rfl,ho1 x (by rw [hx];exact List.getElem_mem hk'),ho2 y (by rw [hy];exact List.getElem_mem hk2)⟩,?_⟩
    try simp only [go_sem]
    refine cond_split (fun hb=>?_) (fun hb=>?_)
    · have hb':eqE x y=false:=by first | (simpa using hb;done) | (simpa [eqE] using hb)
      rw [hb',Bool.false_and] at hq
      rw [← hq]
      try simp only [go_sem]
      simp (disch:=first | assumption | omega | (simp;done) | (simp;omega) | (simp only [bt,and_true];first | done | omega | (simp;done))) [↓zlw,beq,ybc,ybd,ybe,endOk,wk,wk2,wk1,wkM,wkL,wkLL,ybf,hcl]
      first | done | repeat (first | exact AHeap.Le.refl _ | refine AHeap.Le.push ?_ _)
    · have hb':eqE x y=true:=by first | (simpa using hb;done) | (simpa [eqE] using hb)
      rw [hb',Bool.true_and] at hq
      simp only [go_sem,e5]
      refine ⟨k+1,⟨by omega,hq⟩,by omega,by (try simp only [zkm]);omega,by repeat (first | exact AHeap.Le.refl _ | refine AHeap.Le.push ?_ _),hcl,?_,?_⟩
      · simp only [ltF,zmn,and_true,true_and]
        exact ⟨hs1,hs2⟩
      · simp [subW,wk2,wk1,wkM,Fr.get]
  · have hk':k=xs.length:=by simp at hc;omega
    subst hk'
    rw [List.drop_length,hlen,List.drop_length] at hq
    rw [← hq]
    simp only [go_sem,eqL]
    simp (disch:=first | assumption | omega | (simp;done) | (simp;omega) | (simp only [bt,and_true];first | done | omega | (simp;done))) [↓zlw,beq,ybc,ybd,ybe,endOk,wk,wk2,wk1,wkM,wkL,wkLL,ybf,hcl]
end Go.AL


open Go Go.AL Go.Proofs
namespace Go.AL
set_option linter.all false
set_option maxRecDepth 10000

structure SResp where
  code:Int
  fail:Int
  prim:Bool
  ents:List SEntry
  recs:List SRec
  drop:Bool
  reas:Int
  port:Int
  data:List UInt8
def respC (r:SResp):List AV:=[.int .i64 r.code,.int .i64 r.fail,.bool r.prim,.slice .any 5 (r.ents.map entryAV),.slice .any 7 (r.recs.map recAV),.bool r.drop,.int .i64 r.reas,.int .i64 r.port,.slice .any 1 (bys r.data)]
def respAV (r:SResp):AV:=.agg (respC r)
theorem lt_resp {n:Nat} (r:SResp):AV.lt n (respAV r):=by
  have h1:AV.lt n (.slice .any 5 (r.ents.map entryAV)):=lt_map lt_entry
  have h2:AV.lt n (.slice .any 7 (r.recs.map recAV)):=lt_map lt_rec
  simp only [respAV,respC,zmz,znc,znd,zmn,zmo,h1,h2,zma,and_true,true_and]
  intro i e;cases e
/-- a response whose parts may be compared -/
structure PC (r:SResp):Prop where
  el:r.ents.length≤140737488355328
  rl:r.recs.length≤140737488355328
  eo:∀ e∈r.ents,COk e
def eqP (r s:SResp):Bool:=(r.code==s.code)&&(r.fail==s.fail)&&(r.prim==s.prim)&&(eqL eqE r.ents s.ents)&&(eqL eqRec r.recs s.recs)&&(r.drop==s.drop)&&(r.reas==s.reas)&&(r.port==s.port)&&(r.data==s.data)
def p_xSameOut:List AV→AHeap→(AV→Prop)→Prop
  | [.agg [.bool d,.int .i64 e,.int .i64 f,.slice _ 1 l],.agg [.bool d',.int .i64 e',.int .i64 f',.slice _ 1 l']],_,K=>∃ a b:List UInt8,(l=bys a∧l'=bys b)∧K (.bool ((d==d')&&((e==e')&&((f==f')&&(a==b)))))
  | _,_,_=>False
theorem ok_xSameOut:EntOk Tryz.prog 110 (Ent.pure p_xSameOut):=by
  refine EntOk.pure fun args H K h=>?_
  unfold p_xSameOut at h
  split at h
  rotate_left
  · exact h.elim
  rename_i d e f m1 l d' e' f' m2 l'
  obtain ⟨a,b,⟨rfl,rfl⟩,hK⟩:=h
  refine ⟨_,hK,?_⟩
  clear hK
  cases h1:(d==d')
  case' true=>cases h2:(e==e')
  case' true.true=>cases h3:(f==f')
  all_goals
    simp only [Bool.false_and,Bool.true_and,Bool.and_false]
    refine ACalls.of_aw (Ω:=[]) (T:=assoc []) mixed TblOk.nil Tryz.func110 (by kernel_rfl) (by rfl) (rs:=[.tmp 4]) (by rfl) (by kernel_rfl) (by simp only [Tryz.ntmps110,yaz,yba];decide) (Nat.le_refl _) fun hcl hlt=>?_
    change aw _ _ _ (KI Tryz.prog [] (aEnd Tryz.prog [.tmp 4] H.nx _ _ (assoc [])) []) _ _
    clear hlt
    first | simp only [go_sem,byq,Bool.bne_false,Bool.bne_true,h1,h2,h3] | simp only [go_sem,byq,Bool.bne_false,Bool.bne_true,h1,h2] | simp only [go_sem,byq,Bool.bne_false,Bool.bne_true,h1]
    simp (disch:=first | assumption | omega | (simp;done) | (simp;omega) | (simp only [bt,and_true];first | done | omega | (simp;done))) [↓zlw,beq,ybc,ybd,ybe,endOk,wk,wk2,wk1,wkM,wkL,wkLL,ybf,hcl]
    first | done | repeat (first | exact AHeap.Le.refl _ | refine AHeap.Le.push ?_ _)
def p_xSameP:List AV→AHeap→(AV→Prop)→Prop
  | [.agg l,.agg k],_,K=>∃ r s:SResp,(l=respC r∧k=respC s∧PC r∧PC s)∧K (.bool (eqP r s))
  | _,_,_=>False
set_option maxHeartbeats 4000000 in
theorem ok_xSameP:EntOk Tryz.prog 26 (Ent.pure p_xSameP):=by
  refine EntOk.pure fun args H K h=>?_
  unfold p_xSameP at h
  split at h
  rotate_left
  · exact h.elim
  rename_i l k
  obtain ⟨r,s,⟨rfl,rfl,hr,hs⟩,hK⟩:=h
  refine ⟨_,hK,?_⟩
  clear hK
  obtain ⟨R,hR⟩:∃ R,eqP r s=R:=⟨_,rfl⟩
  rw [hR]
  unfold eqP at hR
  cases h0:(r.code==s.code)
  · simp only [h0,Bool.false_and,Bool.and_false,Bool.true_and] at hR
    subst hR
    refine ACalls.of_aw (Ω:=[(108,Ent.pure p_xSameAll),(109,Ent.pure p_xSameRecs),(110,Ent.pure p_xSameOut)]) (T:=assoc []) mixed (TblOk.cons ok_xSameAll (TblOk.cons ok_xSameRecs (TblOk.cons ok_xSameOut TblOk.nil))) Tryz.func26 (by kernel_rfl) (by rfl) (rs:=[.tmp 4]) (by rfl) (by kernel_rfl) (by simp only [Tryz.ntmps26,yaz,yba];decide) (Nat.le_refl _) fun hcl hlt=>?_
    change aw _ _ _ (KI Tryz.prog [(108,Ent.pure p_xSameAll),(109,Ent.pure p_xSameRecs),(110,Ent.pure p_xSameOut)] (aEnd Tryz.prog [.tmp 4] H.nx _ _ (assoc [])) []) _ _
    clear hlt
    try simp only [List.append_eq,yal,yak]
    simp only [go_sem,byq,Bool.bne_false,Bool.bne_true,p_xSameAll,p_xSameRecs,p_xSameOut,Bool.true_and,Bool.false_and,Bool.and_false,Bool.and_true,respC,h0]
    simp (disch:=first | assumption | omega | (simp;done) | (simp;omega) | (simp only [bt,and_true];first | done | omega | (simp;done))) [↓zlw,beq,ybc,ybd,ybe,endOk,wk,wk2,wk1,wkM,wkL,wkLL,ybf,hcl]
    first | done | repeat (first | exact AHeap.Le.refl _ | refine AHeap.Le.push ?_ _)
  cases h1:(r.fail==s.fail)
  · simp only [h0,h1,Bool.false_and,Bool.and_false,Bool.true_and] at hR
    subst hR
    refine ACalls.of_aw (Ω:=[(108,Ent.pure p_xSameAll),(109,Ent.pure p_xSameRecs),(110,Ent.pure p_xSameOut)]) (T:=assoc []) mixed (TblOk.cons ok_xSameAll (TblOk.cons ok_xSameRecs (TblOk.cons ok_xSameOut TblOk.nil))) Tryz.func26 (by kernel_rfl) (by rfl) (rs:=[.tmp 4]) (by rfl) (by kernel_rfl) (by simp only [Tryz.ntmps26,yaz,yba];decide) (Nat.le_refl _) fun hcl hlt=>?_
    change aw _ _ _ (KI Tryz.prog [(108,Ent.pure p_xSameAll),(109,Ent.pure p_xSameRecs),(110,Ent.pure p_xSameOut)] (aEnd Tryz.prog [.tmp 4] H.nx _ _ (assoc [])) []) _ _
    clear hlt
    try simp only [List.append_eq,yal,yak]
    simp only [go_sem,byq,Bool.bne_false,Bool.bne_true,p_xSameAll,p_xSameRecs,p_xSameOut,Bool.true_and,Bool.false_and,Bool.and_false,Bool.and_true,respC,h0,h1]
    simp (disch:=first | assumption | omega | (simp;done) | (simp;omega) | (simp only [bt,and_true];first | done | omega | (simp;done))) [↓zlw,beq,ybc,ybd,ybe,endOk,wk,wk2,wk1,wkM,wkL,wkLL,ybf,hcl]
    first | done | repeat (first | exact AHeap.Le.refl _ | refine AHeap.Le.push ?_ _)
  cases h2:(r.prim==s.prim)
  · simp only [h0,h1,h2,Bool.false_and,Bool.and_false,Bool.true_and] at hR
    subst hR
    refine ACalls.of_aw (Ω:=[(108,Ent.pure p_xSameAll),(109,Ent.pure p_xSameRecs),(110,Ent.pure p_xSameOut)]) (T:=assoc []) mixed (TblOk.cons ok_xSameAll (TblOk.cons ok_xSameRecs (TblOk.cons ok_xSameOut TblOk.nil))) Tryz.func26 (by kernel_rfl) (by rfl) (rs:=[.tmp 4]) (by rfl) (by kernel_rfl) (by simp only [Tryz.ntmps26,yaz,yba];decide) (Nat.le_refl _) fun hcl hlt=>?_
    change aw _ _ _ (KI Tryz.prog [(108,Ent.pure p_xSameAll),(109,Ent.pure p_xSameRecs),(110,Ent.pure p_xSameOut)] (aEnd Tryz.prog [.tmp 4] H.nx _ _ (assoc [])) []) _ _
    clear hlt
    try simp only [List.append_eq,yal,yak]
    simp only [go_sem,byq,Bool.bne_false,Bool.bne_true,p_xSameAll,p_xSameRecs,p_xSameOut,Bool.true_and,Bool.false_and,Bool.and_false,Bool.and_true,respC,h0,h1,h2]
    simp (disch:=first | assumption | omega | (simp;done) | (simp;omega) | (simp only [bt,and_true];first | done | omega | (simp;done))) [↓zlw,beq,ybc,ybd,ybe,endOk,wk,wk2,wk1,wkM,wkL,wkLL,ybf,hcl]
    first | done | repeat (first | exact AHeap.Le.refl _ | refine AHeap.Le.push ?_ _)
  cases h3:(eqL eqE r.ents s.ents)
  · simp only [h0,h1,h2,h3,Bool.false_and,Bool.and_false,Bool.true_and] at hR
    subst hR
    refine ACalls.of_aw (Ω:=[(108,Ent.pure p_xSameAll),(109,Ent.pure p_xSameRecs),(110,Ent.pure p_xSameOut)]) (T:=assoc []) mixed (TblOk.cons ok_xSameAll (TblOk.cons ok_xSameRecs (TblOk.cons ok_xSameOut TblOk.nil))) Tryz.func26 (by kernel_rfl) (by rfl) (rs:=[.tmp 4]) (by rfl) (by kernel_rfl) (by simp only [Tryz.ntmps26,yaz,yba];decide) (Nat.le_refl _) fun hcl hlt=>?_
    change aw _ _ _ (KI Tryz.prog [(108,Ent.pure p_xSameAll),(109,Ent.pure p_xSameRecs),(110,Ent.pure p_xSameOut)] (aEnd Tryz.prog [.tmp 4] H.nx _ _ (assoc [])) []) _ _
    clear hlt
    try simp only [List.append_eq,yal,yak]
    simp only [go_sem,byq,Bool.bne_false,Bool.bne_true,p_xSameAll,p_xSameRecs,p_xSameOut,Bool.true_and,Bool.false_and,Bool.and_false,Bool.and_true,respC,h0,h1,h2,h3]
    refine ⟨r.ents,s.ents,⟨rfl,rfl,hr.el,hs.el,hr.eo,hs.eo⟩,?_⟩
    try simp only [go_sem,byq,Bool.bne_false,Bool.bne_true,p_xSameAll,p_xSameRecs,p_xSameOut,Bool.true_and,Bool.false_and,Bool.and_false,Bool.and_true,h0,h1,h2,h3]
    simp (disch:=first | assumption | omega | (simp;done) | (simp;omega) | (simp only [bt,and_true];first | done | omega | (simp;done))) [↓zlw,beq,ybc,ybd,ybe,endOk,wk,wk2,wk1,wkM,wkL,wkLL,ybf,hcl]
    first | done | repeat (first | exact AHeap.Le.refl _ | refine AHeap.Le.push ?_ _)
  cases h4:(eqL eqRec r.recs s.recs)
  · simp only [h0,h1,h2,h3,h4,Bool.false_and,Bool.and_false,Bool.true_and] at hR
    subst hR
    refine ACalls.of_aw (Ω:=[(108,Ent.pure p_xSameAll),(109,Ent.pure p_xSameRecs),(110,Ent.pure p_xSameOut)]) (T:=assoc []) mixed (TblOk.cons ok_xSameAll (TblOk.cons ok_xSameRecs (TblOk.cons ok_xSameOut TblOk.nil))) Tryz.func26 (by kernel_rfl) (by rfl) (rs:=[.tmp 4]) (by rfl) (by kernel_rfl) (by simp only [Tryz.ntmps26,yaz,yba];decide) (Nat.le_refl _) fun hcl hlt=>?_
    change aw _ _ _ (KI Tryz.prog [(108,Ent.pure p_xSameAll),(109,Ent.pure p_xSameRecs),(110,Ent.pure p_xSameOut)] (aEnd Tryz.prog [.tmp 4] H.nx _ _ (assoc [])) []) _ _
    clear hlt
    try simp only [List.append_eq,yal,yak]
    simp only [go_sem,byq,Bool.bne_false,Bool.bne_true,p_xSameAll,p_xSameRecs,p_xSameOut,Bool.true_and,Bool.false_and,Bool.and_false,Bool.and_true,respC,h0,h1,h2,h3,h4]
    refine ⟨r.ents,s.ents,⟨rfl,rfl,hr.el,hs.el,hr.eo,hs.eo⟩,?_⟩
    try simp only [go_sem,byq,Bool.bne_false,Bool.bne_true,p_xSameAll,p_xSameRecs,p_xSameOut,Bool.true_and,Bool.false_and,Bool.and_false,Bool.and_true,h0,h1,h2,h3,h4]
    refine ⟨r.recs,s.recs,by first | exact ⟨rfl,rfl,hr.rl,hs.rl,trivial⟩ | exact ⟨rfl,rfl,hr.rl,hs.rl⟩,?_⟩
    try simp only [go_sem,byq,Bool.bne_false,Bool.bne_true,p_xSameAll,p_xSameRecs,p_xSameOut,Bool.true_and,Bool.false_and,Bool.and_false,Bool.and_true,h0,h1,h2,h3,h4]
    simp (disch:=first | assumption | omega | (simp;done) | (simp;omega) | (simp only [bt,and_true];first | done | omega | (simp;done))) [↓zlw,beq,ybc,ybd,ybe,endOk,wk,wk2,wk1,wkM,wkL,wkLL,ybf,hcl]
    first | done | repeat (first | exact AHeap.Le.refl _ | refine AHeap.Le.push ?_ _)
  cases h5:(r.drop==s.drop)
  · simp only [h0,h1,h2,h3,h4,h5,Bool.false_and,Bool.and_false,Bool.true_and] at hR
    subst hR
    refine ACalls.of_aw (Ω:=[(108,Ent.pure p_xSameAll),(109,Ent.pure p_xSameRecs),(110,Ent.pure p_xSameOut)]) (T:=assoc []) mixed (TblOk.cons ok_xSameAll (TblOk.cons ok_xSameRecs (TblOk.cons ok_xSameOut TblOk.nil))) Tryz.func26 (by kernel_rfl) (by rfl) (rs:=[.tmp 4]) (by rfl) (by kernel_rfl) (by simp only [Tryz.ntmps26,yaz,yba];decide) (Nat.le_refl _) fun hcl hlt=>?_
    change aw _ _ _ (KI Tryz.prog [(108,Ent.pure p_xSameAll),(109,Ent.pure p_xSameRecs),(110,Ent.pure p_xSameOut)] (aEnd Tryz.prog [.tmp 4] H.nx _ _ (assoc [])) []) _ _
    clear hlt
    try simp only [List.append_eq,yal,yak]
    simp only [go_sem,byq,Bool.bne_false,Bool.bne_true,p_xSameAll,p_xSameRecs,p_xSameOut,Bool.true_and,Bool.false_and,Bool.and_false,Bool.and_true,respC,h0,h1,h2,h3,h4,h5]
    refine ⟨r.ents,s.ents,⟨rfl,rfl,hr.el,hs.el,hr.eo,hs.eo⟩,?_⟩
    try simp only [go_sem,byq,Bool.bne_false,Bool.bne_true,p_xSameAll,p_xSameRecs,p_xSameOut,Bool.true_and,Bool.false_and,Bool.and_false,Bool.and_true,h0,h1,h2,h3,h4,h5]
    refine ⟨r.recs,s.recs,by first | exact ⟨rfl,rfl,hr.rl,hs.rl,trivial⟩ | exact ⟨rfl,rfl,hr.rl,hs.rl⟩,?_⟩
    try simp only [go_sem,byq,Bool.bne_false,Bool.bne_true,p_xSameAll,p_xSameRecs,p_xSameOut,Bool.true_and,Bool.false_and,Bool.and_false,Bool.and_true,h0,h1,h2,h3,h4,h5]
    refine ⟨r.data,s.data,⟨rfl,rfl⟩,?_⟩
    try simp only [go_sem,byq,Bool.bne_false,Bool.bne_true,p_xSameAll,p_xSameRecs,p_xSameOut,Bool.true_and,Bool.false_and,Bool.and_false,Bool.and_true,h0,h1,h2,h3,h4,h5]
    simp (disch:=first | assumption | omega | (simp;done) | (simp;omega) | (simp only [bt,and_true];first | done | omega | (simp;done))) [↓zlw,beq,ybc,ybd,ybe,endOk,wk,wk2,wk1,wkM,wkL,wkLL,ybf,hcl]
    first | done | repeat (first | exact AHeap.Le.refl _ | refine AHeap.Le.push ?_ _)
  cases h6:(r.reas==s.reas)
  · simp only [h0,h1,h2,h3,h4,h5,h6,Bool.false_and,Bool.and_false,Bool.true_and] at hR
    subst hR
    refine ACalls.of_aw (Ω:=[(108,Ent.pure p_xSameAll),(109,Ent.pure p_xSameRecs),(110,Ent.pure p_xSameOut)]) (T:=assoc []) mixed (TblOk.cons ok_xSameAll (TblOk.cons ok_xSameRecs (TblOk.cons ok_xSameOut TblOk.nil))) Tryz.func26 (by kernel_rfl) (by rfl) (rs:=[.tmp 4]) (by rfl) (by kernel_rfl) (by simp only [Tryz.ntmps26,yaz,yba];decide) (Nat.le_refl _) fun hcl hlt=>?_
    change aw _ _ _ (KI Tryz.prog [(108,Ent.pure p_xSameAll),(109,Ent.pure p_xSameRecs),(110,Ent.pure p_xSameOut)] (aEnd Tryz.prog [.tmp 4] H.nx _ _ (assoc [])) []) _ _
    clear hlt
    try simp only [List.append_eq,yal,yak]
    simp only [go_sem,byq,Bool.bne_false,Bool.bne_true,p_xSameAll,p_xSameRecs,p_xSameOut,Bool.true_and,Bool.false_and,Bool.and_false,Bool.and_true,respC,h0,h1,h2,h3,h4,h5,h6]
    refine ⟨r.ents,s.ents,⟨rfl,rfl,hr.el,hs.el,hr.eo,hs.eo⟩,?_⟩
    try simp only [go_sem,byq,Bool.bne_false,Bool.bne_true,p_xSameAll,p_xSameRecs,p_xSameOut,Bool.true_and,Bool.false_and,Bool.and_false,Bool.and_true,h0,h1,h2,h3,h4,h5,h6]
    refine ⟨r.recs,s.recs,by first | exact ⟨rfl,rfl,hr.rl,hs.rl,trivial⟩ | exact ⟨rfl,rfl,hr.rl,hs.rl⟩,?_⟩
    try simp only [go_sem,byq,Bool.bne_false,Bool.bne_true,p_xSameAll,p_xSameRecs,p_xSameOut,Bool.true_and,Bool.false_and,Bool.and_false,Bool.and_true,h0,h1,h2,h3,h4,h5,h6]
    refine ⟨r.data,s.data,⟨rfl,rfl⟩,?_⟩
    try simp only [go_sem,byq,Bool.bne_false,Bool.bne_true,p_xSameAll,p_xSameRecs,p_xSameOut,Bool.true_and,Bool.false_and,Bool.and_false,Bool.and_true,h0,h1,h2,h3,h4,h5,h6]
    simp (disch:=first | assumption | omega | (simp;done) | (simp;omega) | (simp only [bt,and_true];first | done | omega | (simp;done))) [↓zlw,beq,ybc,ybd,ybe,endOk,wk,wk2,wk1,wkM,wkL,wkLL,ybf,hcl]
    first | done | repeat (first | exact AHeap.Le.refl _ | refine AHeap.Le.push ?_ _)
  cases h7:(r.port==s.port)
  · simp only [h0,h1,h2,h3,h4,h5,h6,h7,Bool.false_and,Bool.and_false,Bool.true_and] at hR
    subst hR
    refine ACalls.of_aw (Ω:=[(108,Ent.pure p_xSameAll),(109,Ent.pure p_xSameRecs),(110,Ent.pure p_xSameOut)]) (T:=assoc []) mixed (TblOk.cons ok_xSameAll (TblOk.cons ok_xSameRecs (TblOk.cons ok_xSameOut TblOk.nil))) Tryz.func26 (by kernel_rfl) (by rfl) (rs:=[.tmp 4]) (by rfl) (by kernel_rfl) (by simp only [Tryz.ntmps26,yaz,yba];decide) (Nat.le_refl _) fun hcl hlt=>?_
    change aw _ _ _ (KI Tryz.prog [(108,Ent.pure p_xSameAll),(109,Ent.pure p_xSameRecs),(110,Ent.pure p_xSameOut)] (aEnd Tryz.prog [.tmp 4] H.nx _ _ (assoc [])) []) _ _
    clear hlt
    try simp only [List.append_eq,yal,yak]
    simp only [go_sem,byq,Bool.bne_false,Bool.bne_true,p_xSameAll,p_xSameRecs,p_xSameOut,Bool.true_and,Bool.false_and,Bool.and_false,Bool.and_true,respC,h0,h1,h2,h3,h4,h5,h6,h7]
    refine ⟨r.ents,s.ents,⟨rfl,rfl,hr.el,hs.el,hr.eo,hs.eo⟩,?_⟩
    try simp only [go_sem,byq,Bool.bne_false,Bool.bne_true,p_xSameAll,p_xSameRecs,p_xSameOut,Bool.true_and,Bool.false_and,Bool.and_false,Bool.and_true,h0,h1,h2,h3,h4,h5,h6,h7]
    refine ⟨r.recs,s.recs,by first | exact ⟨rfl,rfl,hr.rl,hs.rl,trivial⟩ | exact ⟨rfl,rfl,hr.rl,hs.rl⟩,?_⟩
    try simp only [go_sem,byq,Bool.bne_false,Bool.bne_true,p_xSameAll,p_xSameRecs,p_xSameOut,Bool.true_and,Bool.false_and,Bool.and_false,Bool.and_true,h0,h1,h2,h3,h4,h5,h6,h7]
    refine ⟨r.data,s.data,⟨rfl,rfl⟩,?_⟩
    try simp only [go_sem,byq,Bool.bne_false,Bool.bne_true,p_xSameAll,p_xSameRecs,p_xSameOut,Bool.true_and,Bool.false_and,Bool.and_false,Bool.and_true,h0,h1,h2,h3,h4,h5,h6,h7]
    simp (disch:=first | assumption | omega | (simp;done) | (simp;omega) | (simp only [bt,and_true];first | done | omega | (simp;done))) [↓zlw,beq,ybc,ybd,ybe,endOk,wk,wk2,wk1,wkM,wkL,wkLL,ybf,hcl]
    first | done | repeat (first | exact AHeap.Le.refl _ | refine AHeap.Le.push ?_ _)
  cases h8:(r.data==s.data)
  · simp only [h0,h1,h2,h3,h4,h5,h6,h7,h8,Bool.false_and,Bool.and_false,Bool.true_and] at hR
    subst hR
    refine ACalls.of_aw (Ω:=[(108,Ent.pure p_xSameAll),(109,Ent.pure p_xSameRecs),(110,Ent.pure p_xSameOut)]) (T:=assoc []) mixed (TblOk.cons ok_xSameAll (TblOk.cons ok_xSameRecs (TblOk.cons ok_xSameOut TblOk.nil))) Tryz.func26 (by kernel_rfl) (by rfl) (rs:=[.tmp 4]) (by rfl) (by kernel_rfl) (by simp only [Tryz.ntmps26,yaz,yba];decide) (Nat.le_refl _) fun hcl hlt=>?_
    change aw _ _ _ (KI Tryz.prog [(108,Ent.pure p_xSameAll),(109,Ent.pure p_xSameRecs),(110,Ent.pure p_xSameOut)] (aEnd Tryz.prog [.tmp 4] H.nx _ _ (assoc [])) []) _ _
    clear hlt
    try simp only [List.append_eq,yal,yak]
    simp only [go_sem,byq,Bool.bne_false,Bool.bne_true,p_xSameAll,p_xSameRecs,p_xSameOut,Bool.true_and,Bool.false_and,Bool.and_false,Bool.and_true,respC,h0,h1,h2,h3,h4,h5,h6,h7,h8]
    refine ⟨r.ents,s.ents,⟨rfl,rfl,hr.el,hs.el,hr.eo,hs.eo⟩,?_⟩
    try simp only [go_sem,byq,Bool.bne_false,Bool.bne_true,p_xSameAll,p_xSameRecs,p_xSameOut,Bool.true_and,Bool.false_and,Bool.and_false,Bool.and_true,h0,h1,h2,h3,h4,h5,h6,h7,h8]
    refine ⟨r.recs,s.recs,by first | exact ⟨rfl,rfl,hr.rl,hs.rl,trivial⟩ | exact ⟨rfl,rfl,hr.rl,hs.rl⟩,?_⟩
    try simp only [go_sem,byq,Bool.bne_false,Bool.bne_true,p_xSameAll,p_xSameRecs,p_xSameOut,Bool.true_and,Bool.false_and,Bool.and_false,Bool.and_true,h0,h1,h2,h3,h4,h5,h6,h7,h8]
    refine ⟨r.data,s.data,⟨rfl,rfl⟩,?_⟩
    try simp only [go_sem,byq,Bool.bne_false,Bool.bne_true,p_xSameAll,p_xSameRecs,p_xSameOut,Bool.true_and,Bool.false_and,Bool.and_false,Bool.and_true,h0,h1,h2,h3,h4,h5,h6,h7,h8]
    simp (disch:=first | assumption | omega | (simp;done) | (simp;omega) | (simp only [bt,and_true];first | done | omega | (simp;done))) [↓zlw,beq,ybc,ybd,ybe,endOk,wk,wk2,wk1,wkM,wkL,wkLL,ybf,hcl]
    first | done | repeat (first | exact AHeap.Le.refl _ | refine AHeap.Le.push ?_ _)
  simp only [h0,h1,h2,h3,h4,h5,h6,h7,h8,Bool.true_and] at hR
  subst hR
  refine ACalls.of_aw (Ω:=[(108,Ent.pure p_xSameAll),(109,Ent.pure p_xSameRecs),(110,Ent.pure p_xSameOut)]) (T:=assoc []) mixed (TblOk.cons ok_xSameAll (TblOk.cons ok_xSameRecs (TblOk.cons ok_xSameOut TblOk.nil))) Tryz.func26 (by kernel_rfl) (by rfl) (rs:=[.tmp 4]) (by rfl) (by kernel_rfl) (by simp only [Tryz.ntmps26,yaz,yba];decide) (Nat.le_refl _) fun hcl hlt=>?_
  change aw _ _ _ (KI Tryz.prog [(108,Ent.pure p_xSameAll),(109,Ent.pure p_xSameRecs),(110,Ent.pure p_xSameOut)] (aEnd Tryz.prog [.tmp 4] H.nx _ _ (assoc [])) []) _ _
  clear hlt
  try simp only [List.append_eq,yal,yak]
  simp only [go_sem,byq,Bool.bne_false,Bool.bne_true,p_xSameAll,p_xSameRecs,p_xSameOut,Bool.true_and,Bool.false_and,Bool.and_false,Bool.and_true,respC,h0,h1,h2,h3,h4,h5,h6,h7,h8]
  refine ⟨r.ents,s.ents,⟨rfl,rfl,hr.el,hs.el,hr.eo,hs.eo⟩,?_⟩
  try simp only [go_sem,byq,Bool.bne_false,Bool.bne_true,p_xSameAll,p_xSameRecs,p_xSameOut,Bool.true_and,Bool.false_and,Bool.and_false,Bool.and_true,h0,h1,h2,h3,h4,h5,h6,h7,h8]
  refine ⟨r.recs,s.recs,by first | exact ⟨rfl,rfl,hr.rl,hs.rl,trivial⟩ | exact ⟨rfl,rfl,hr.rl,hs.rl⟩,?_⟩
  try simp only [go_sem,byq,Bool.bne_false,Bool.bne_true,p_xSameAll,p_xSameRecs,p_xSameOut,Bool.true_and,Bool.false_and,Bool.and_false,Bool.and_true,h0,h1,h2,h3,h4,h5,h6,h7,h8]
  refine ⟨r.data,s.data,⟨rfl,rfl⟩,?_⟩
  try simp only [go_sem,byq,Bool.bne_false,Bool.bne_true,p_xSameAll,p_xSameRecs,p_xSameOut,Bool.true_and,Bool.false_and,Bool.and_false,Bool.and_true,h0,h1,h2,h3,h4,h5,h6,h7,h8]
  simp (disch:=first | assumption | omega | (simp;done) | (simp;omega) | (simp only [bt,and_true];first | done | omega | (simp;done))) [↓zlw,beq,ybc,ybd,ybe,endOk,wk,wk2,wk1,wkM,wkL,wkLL,ybf,hcl]
  first | done | repeat (first | exact AHeap.Le.refl _ | refine AHeap.Le.push ?_ _)
end Go.AL


open Go Go.AL Go.Proofs
namespace Go.AL
set_option linter.all false
set_option maxRecDepth 10000

def gBig (b:List UInt8) (v:Nat) (n:Int):Int:=(ior .i64 (ior .i64 (ishl .i64 ((cv b (cp v 0) 256:Nat):Int) 16) (ishl .i64 ((cv b (cp v 1) 256:Nat):Int) 8)) ((cv b (cp v 2) 256:Nat):Int)).tmod n
theorem gBig_min {b:List UInt8} {v:Nat} {n:Int}:gBig b (min v b.length) n=gBig b v n:=by
  unfold gBig cp
  rw [cv_min_add,cv_min_add,cv_min_add]
def e_CBig:List AV→AHeap→(AEnd→AHeap→Prop)→Prop
  | [.ptr id 0,.int .i64 n],H,K=>onC (H.get id) fun b v=>(1≤n∧n≤1000000000)∧K (.ret (.int .i64 (gBig b v n))) (H.set id (codV b (v+3)))
  | _,_,_=>False
set_option maxHeartbeats 4000000 in
theorem ok_CBig:EntOk Tryz.prog 79 (Ent.effect e_CBig):=by
  refine EntOk.effect fun args H K h=>?_
  unfold e_CBig at h
  split at h
  rotate_left
  · exact h.elim
  rename_i id n
  obtain ⟨b,v,hg,hb,hv,⟨hn1,hn2⟩,hK⟩:=onC_out h
  refine ⟨_,_,hK,?_⟩
  clear hK
  refine ACalls.of_aw (Ω:=[(48,Ent.effect e_ZNext)]) (T:=assoc []) mixed (TblOk.cons ok_ZNext TblOk.nil) Tryz.func79 (by kernel_rfl) (by rfl) (rs:=[.tmp 4]) (by rfl) (by kernel_rfl) (by simp only [Tryz.ntmps79,yaz,yba];decide) (by simp only [zkn];omega) fun hcl hlt=>?_
  change aw _ _ _ (KI Tryz.prog [(48,Ent.effect e_ZNext)] (aEnd Tryz.prog [.tmp 4] H.nx _ _ (assoc [])) []) _ _
  clear hlt
  have hid:=AHeap.get_lt hg
  have hne:=ne_nx hid
  have hgc:=get_codV (b:=b) hid
  have hcl2:∀ w,(H.set id (codV b w)).Closed:=fun w=>closed_set hcl codV_lt
  have e256:(256:Int).toNat=256:=rfl
  have d1:decide (n<1)=false:=decide_eq_false (by omega)
  simp only [go_sem,byq,e_ZNext,hg,hgc,hne,onC_cod hb,cv_min,codV_min,cp_add,e256,d1]
  refine ⟨⟨by decide,by decide⟩,by decide,⟨by decide,by decide⟩,by decide,⟨by decide,by decide⟩,by omega,rfl,AHeap.Le.refl _,hcl2 _,by rw [zmn];trivial⟩
def e_CEntriesX:List AV→AHeap→(AEnd→AHeap→Prop)→Prop
  | [.ptr id 0,.agg l,.int .i64 n],H,K=>∃ S:Sch,(l=schC S∧GenS S∧0≤n∧n≤1000)∧onC (H.get id) fun b v=>K (.ret (.slice (.own (H.nx+1+1)) 5 ((gEntries S b n.toNat v).1.map entryAV))) ((((H.set id (codV b (gEntries S b n.toNat v).2)).push (.cells (schC S))).push (.buf 5 0)).push (.buf 5 (gEntries S b n.toNat v).1.length))
  | _,_,_=>False
set_option maxHeartbeats 4000000 in
theorem ok_CEntriesX:EntOk Tryz.prog 78 (Ent.effect e_CEntriesX):=by
  refine EntOk.effect fun args H K h=>?_
  unfold e_CEntriesX at h
  split at h
  rotate_left
  · exact h.elim
  rename_i id l n
  obtain ⟨S,⟨rfl,hG,hn0,hn1⟩,h⟩:=h
  obtain ⟨b,v,hg,hb,hv,hK⟩:=onC_out h
  obtain ⟨o1,o2⟩:=gEntries_ok hG (b:=b) n.toNat v
  obtain ⟨R,hRd⟩:∃ R,gEntries S b n.toNat v=R:=⟨_,rfl⟩
  rw [hRd] at o1 o2 hK
  refine ⟨_,_,hK,?_⟩
  clear hK h
  have nxE:H.nx≤((((H.set id (codV b R.2)).push (.cells (schC S))).push (.buf 5 0)).push (.buf 5 R.1.length)).nx:=by simp only [zkm,zkn];omega
  refine ACalls.of_aw (Ω:=[(174,Ent.pure p_ZLeft),(48,Ent.effect e_ZNext),(220,Ent.effect e_CEntry)]) (T:=assoc [(3,[[],[],[],[],[],[2,4],[2,4,5],[2,4,5]])]) mixed (TblOk.cons ok_ZLeft (TblOk.cons ok_ZNext (TblOk.cons ok_CEntry TblOk.nil))) Tryz.func78 (by kernel_rfl) (by rfl) (rs:=[.tmp 6]) (by rfl) (by kernel_rfl) (by simp only [Tryz.ntmps78,yaz,yba];decide) nxE fun hcl hlt=>?_
  change aw _ _ _ (KI Tryz.prog [(174,Ent.pure p_ZLeft),(48,Ent.effect e_ZNext),(220,Ent.effect e_CEntry)] (aEnd Tryz.prog [.tmp 6] H.nx _ _ (assoc [(3,[[],[],[],[],[],[2,4],[2,4,5],[2,4,5]])])) []) _ _
  clear hlt
  have hid:=AHeap.get_lt hg
  have hne:=ne_nx hid
  have hne2:=ne_nx (show id<H.nx+1+1+1 by omega)
  have hgc:=get_codV (b:=b) hid
  have hcl2:∀ w,(H.set id (codV b w)).Closed:=fun w=>closed_set hcl codV_lt
  simp only [blkE,blkP,bhq,Nat.reduceMod,Nat.reduceDiv,stepH,stepM,toMs1,toMs,toMs0,strK,pubK,pubF,pubV,yaq,yar,yao,yap,go_sem]
  obtain ⟨HL,hHL⟩:∃ HL:Nat→Nat→AHeap,HL=fun w k=>(((H.set id (codV b w)).push (.cells (schC S))).push (.buf 5 0)).push (.buf 5 k):=⟨_,rfl⟩
  have hclL:∀ w k,(HL w k).Closed:=fun w k=>by
    rw [hHL]
    exact closed_buf (closed_buf (closed_cells (hcl2 w) (ltL_iff.2 fun j hj=>AV.lt_cells (lt_sch S) j hj)))
  refine loop_introW (A:=List SEntry × Nat) (fun x=>[(0,.ptr id 0),(2,.int .i64 n),(4,.ptr H.nx 0),(7,.slice (.own (H.nx+1+1)) 5 (x.1.map entryAV))]) (fun x=>HL x.2 x.1.length) (fun x=>x.1.length≤n.toNat∧x.1++(gEntries S b (n.toNat - x.1.length) x.2).1=R.1∧(gEntries S b (n.toNat - x.1.length) x.2).2=R.2) (fun x=>n.toNat - x.1.length) ([],v) ⟨by simp,by rw [← hRd];rfl,by rw [← hRd];rfl⟩ ?_ fun x hx=>?_
  · rw [hHL]
    refine ⟨by simp only [zkm,zkn,zjy,zkd];omega,by dsimp only;rw [show codV b v=codV b (cp v 0) from rfl,set_selfZ hg];exact AHeap.Le.refl _,by have:=hclL v 0;rw [hHL] at this;exact this,?_,?_⟩
    · simp [ltF,zkm,zkn,zmv,zmn,lt_sliceL,znd]
      omega
    · simp [subW,wk2,wk1,wkM,Fr.get]
  obtain ⟨es,w⟩:=x
  obtain ⟨hx1,hx2,hx3⟩:=hx
  dsimp only at hx1 hx2 hx3 ⊢
  rw [hHL]
  dsimp only
  by_cases hlt:es.length<n.toNat
  · have d1:decide ((es.length:Int)<n)=true:=decide_eq_true (by omega)
    simp only [blkE,blkP,bhq,Nat.reduceMod,Nat.reduceDiv,stepH,stepM,toMs1,toMs,toMs0,strK,pubK,pubF,pubV,yaq,yar,yao,yap,go_sem,schC,hg,hgc,hne,hne2,e_ZNext,e_CEntry,p_ZLeft,ybb,Int.toNat_natCast,d1]
    refine ⟨b,((min w b.length:Nat):Int),rfl,?_⟩
    by_cases hw:w<b.length
    · have d2:decide (((min w b.length:Nat):Int)<(b.length:Int))=true:=decide_eq_true (by omega)
      have hk:n.toNat - es.length=(n.toNat - (es.length+1))+1:=by omega
      rw [hk] at hx2 hx3
      simp only [gEntries,if_pos hw] at hx2 hx3
      have hst:∀ m v,(gsEntry S m b v)=(entryAV (gEntry S b v m).1,(gEntry S b v m).2):=fun _ _=>rfl
      have e4:(4:Int).toNat=4:=rfl
      have hcv:=cv_lt (b:=b) (v:=w) (n:=4) (by decide)
      have e4':(1≤(4:Int)∧(4:Int)≤1000000)=True:=by simp
      simp only [blkE,blkP,bhq,Nat.reduceMod,Nat.reduceDiv,stepH,stepM,toMs1,toMs,toMs0,strK,pubK,pubF,pubV,yaq,yar,yao,yap,go_sem,schC,hg,hgc,hne,hne2,e_ZNext,onC_cod hb,onS_cod hb (st_entry _ _),cv_min,codV_min,cp_add,cp0,ybb,Int.toNat_natCast,d2,e4,e4',e_CEntry]
      refine ⟨S,⟨rfl,hG,by omega,by omega⟩,?_⟩
      simp only [blkE,blkP,bhq,Nat.reduceMod,Nat.reduceDiv,stepH,stepM,toMs1,toMs,toMs0,strK,pubK,pubF,pubV,yaq,yar,yao,yap,go_sem,schC,hg,hgc,hne,hne2,hst,entryAV,entryC,cp0,ybb,Int.toNat_natCast]
      have hsub:n.toNat - (es.length+1)=n.toNat - (es++[(gEntry S b (w+1) ((cv b w 4:Nat):Int)).1]).length:=by simp
      rw [hsub] at hx2 hx3
      have hcl1:=hclL (gEntry S b (w+1) ((cv b w 4:Nat):Int)).2 (es.length+1)
      rw [hHL] at hcl1
      have hlm:∀ j,AV.lt j (.slice (.own (H.nx+1+1)) 5 (es.map entryAV++[entryAV (gEntry S b (w+1) ((cv b w 4:Nat):Int)).1]))=(H.nx+1+1<j):=fun j=>by
        rw [lt_sliceL]
        refine propext ⟨fun h=>h.1 _ rfl,fun h=>⟨fun i e=>(by cases e;exact h),ltL_iff.2 fun i hi=>?_⟩⟩
        have:=List.getElem_mem hi
        rw [List.mem_append,List.mem_map,List.mem_singleton] at this
        rcases this with ⟨x,_,e⟩ | e
        · rw [← e];exact lt_entry x
        · rw [e];exact lt_entry _
      refine ⟨⟨by omega,by omega,fun z hz=>by rw [List.mem_singleton.1 hz];rfl⟩,(es++[(gEntry S b (w+1) ((cv b w 4:Nat):Int)).1],(gEntry S b (w+1) ((cv b w 4:Nat):Int)).2),⟨by simp;omega,by rw [List.append_assoc];exact hx2,hx3⟩,by simp;omega,?_⟩
      dsimp only
      rw [List.map_append,yae,yaf,List.length_append,yaz,yba,Nat.zero_add]
      refine ⟨by simp only [zkm,zkn,zkd,zjy,KI_n0];omega,by repeat (first | exact AHeap.Le.refl _ | refine AHeap.Le.push ?_ _),hcl1,?_,?_⟩
      · simp only [ltF,zkm,zkn,zmv,zmn,hlm]
        refine ⟨by omega,trivial,by omega,by omega,trivial⟩
      · simp [subW,wk2,wk1,wkM,Fr.get,entryAV,entryC]
    · have d2:decide (((min w b.length:Nat):Int)<(b.length:Int))=false:=decide_eq_false (by omega)
      have hx2':es=R.1:=by
        rw [← hx2]
        cases h:n.toNat - es.length with
        | zero=>simp [gEntries]
        | succ k=>simp [gEntries,hw]
      have hx3':w=R.2:=by
        rw [← hx3]
        cases h:n.toNat - es.length with
        | zero=>simp [gEntries]
        | succ k=>simp [gEntries,hw]
      rw [← hx2',← hx3']
      simp only [blkE,blkP,bhq,Nat.reduceMod,Nat.reduceDiv,stepH,stepM,toMs1,toMs,toMs0,strK,pubK,pubF,pubV,yaq,yar,yao,yap,go_sem,schC,hg,hgc,hne,hne2,e_ZNext,onC_cod hb,onS_cod hb (st_entry _ _),cv_min,codV_min,cp_add,cp0,ybb,Int.toNat_natCast,d2]
      have hce:=hclL w es.length
      rw [hHL] at hce
      simp only [schC] at hce
      simp (disch:=first | assumption | omega | (simp;done) | (simp;omega) | (simp only [bt,and_true];first | done | omega | (simp;done))) [↓zlw,beq,ybc,ybd,ybe,endOk,wk,wk2,wk1,wkM,wkL,wkLL,ybf,hcl2,hce]
      exact lt_ownE
  · have d1:decide ((es.length:Int)<n)=false:=decide_eq_false (by omega)
    have h0:n.toNat - es.length=0:=by omega
    rw [h0] at hx2 hx3
    simp only [gEntries,yaj] at hx2 hx3
    simp only [blkE,blkP,bhq,Nat.reduceMod,Nat.reduceDiv,stepH,stepM,toMs1,toMs,toMs0,strK,pubK,pubF,pubV,yaq,yar,yao,yap,go_sem,schC,hg,hgc,hne,hne2,e_ZNext,e_CEntry,p_ZLeft,ybb,Int.toNat_natCast,d1]
    rw [← hx2,← hx3]
    have hce:=hclL w es.length
    rw [hHL] at hce
    simp only [schC] at hce
    simp (disch:=first | assumption | omega | (simp;done) | (simp;omega) | (simp only [bt,and_true];first | done | omega | (simp;done))) [↓zlw,beq,ybc,ybd,ybe,endOk,wk,wk2,wk1,wkM,wkL,wkLL,ybf,hcl2,hce]
    exact lt_ownE
def gRec (b:List UInt8) (v:Nat):SRec × Nat:=(⟨gBig b v 1048576,cv b (cp v 3) 6,cv b (cp v 4) 8,cv b (cp v 5) 7,cv b (cp v 6) 27,cv b (cp v 7) 5,cv b (cp v 8) 5⟩,cp v 9)
def gRecs (b:List UInt8):Nat→Nat→List SRec × Nat
  | 0,v=>([],v)
  | n+1,v=>((gRec b v).1::(gRecs b n (gRec b v).2).1,(gRecs b n (gRec b v).2).2)
/-- the response that is made of choices -/
def gResp (S:Sch) (b:List UInt8) (v:Nat):SResp × Nat :=
  let co:Int:=cv b (cp v 0) 27
  let fa:Int:=cv b (cp v 1) 20
  let pr:Bool:=decide (cv b (cp v 2) 2=1)
  if cv b (cp v 3) 3=0 then (⟨co,fa,pr,(gEntries S b 4 (min (cp v 4) b.length)).1,[],false,0,0,[]⟩,(gEntries S b 4 (min (cp v 4) b.length)).2)
  else if cv b (cp v 3) 3=1 then (⟨co,fa,pr,[],(gRecs b (cv b (cp v 4) 5) (cp v 5)).1,false,0,0,[]⟩,(gRecs b (cv b (cp v 4) 5) (cp v 5)).2)
  else (⟨co,fa,pr,[],[],decide (cv b (cp v 4) 2=1),cv b (cp v 5) 6,gBig b (cp v 6) 65536,gB b (cv b (cp v 9) 60) (cp v 10)⟩,cp v 11)
end Go.AL


open Go Go.AL Go.Proofs
namespace Go.AL
set_option linter.all false
set_option maxRecDepth 10000

end Go.AL


open Go Go.AL Go.Proofs
namespace Go.AL
set_option linter.all false
set_option maxRecDepth 10000

theorem eqL_refl {α:Type} {p:α→α→Bool} (h:∀ x,p x x=true):∀ l:List α,eqL p l l=true
  | []=>rfl
  | x::l=>by unfold eqL;rw [h,eqL_refl h l];rfl
theorem eqP_refl (r:SResp):eqP r r=true:=by
  unfold eqP
  rw [eqL_refl (fun x=>(eqE_iff x x).2 rfl),eqL_refl eqRec_refl]
  simp
theorem gRecs_len {b:List UInt8}:∀ (n v:Nat),(gRecs b n v).1.length=n
  | 0,v=>rfl
  | n+1,v=>by simp only [gRecs,yaz,gRecs_len n]
theorem ge_cok {S:Sch} (hG:GenS S) {m:Int} {e:SEntry} (hE:GE S (tableAt S m) e):COk e:=by
  have hkl:=hG.kl _ (tableAt_mem (S:=S) (n:=m) hG.t1)
  exact ⟨hE.ok hkl hG.pl,fun x hx=>Nat.lt_of_lt_of_le (hE.ao x hx) (by decide)⟩
end Go.AL

