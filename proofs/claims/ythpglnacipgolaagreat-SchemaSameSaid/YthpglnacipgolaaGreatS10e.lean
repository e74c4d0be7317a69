/- Contracts and plain laws, a part of the proof; no condition of its own. -/
import Derived.Test.YthpglnacipgolaaGreatS10c
open List renaming length_cons → yaz, map_cons → yae, drop_succ_cons → yao, drop_zero → yap, getD_cons_zero → yau, length_nil → yba, take_succ_cons → yaq, take_zero → yar, length_map → ybb, map_nil → yaf, append_nil → yaj
open Go Go.AL Go.Proofs
namespace Go.AL
set_option linter.all false
set_option maxRecDepth 10000

def e_CRoles:List AV→AHeap→(AEnd→AHeap→Prop)→Prop
  | [.ptr id 0,.slice .any 8 l],H,K=>∃ ts:List STable,(l=ts.map tableAV∧ts.length≤100∧∀ t∈ts,t.keys.length≤100)∧onC (H.get id) fun b v=>K (.ret (.slice .any 6 ((gRoles b v ts).1.map roleAV))) (H.set id (codV b (gRoles b v ts).2))
  | _,_,_=>False
/-- n truth values -/
def bfN (n:Nat) (f:Nat→Bool):List AV:=(List.range n).map fun i=>.bool (f i)
theorem bfN_len {n:Nat} {f:Nat→Bool}:(bfN n f).length=n:=by simp [bfN]
theorem bfN_set {n:Nat} {f g:Nat→Bool} {i:Nat} {b:Bool} (h:∀ j,j<n→g j=if j=i then b else f j):(bfN n f).set i (.bool b)=bfN n g:=by
  apply List.ext_getElem
  · simp [bfN]
  · intro j h1 h2
    have hj:j<n:=by simpa [bfN] using h2
    rw [List.getElem_set]
    simp only [bfN,List.getElem_map,List.getElem_range,h j hj]
    by_cases e:i=j
    · subst e;simp
    · rw [if_neg e,if_neg (fun x=>e x.symm)]
theorem bfN_rep {n:Nat}:(List.replicate n [AV.bool false]).flatten=bfN n fun _=>false:=by
  induction n with
  | zero=>rfl
  | succ n ih =>
    rw [List.replicate_succ,List.flatten_cons,ih]
    apply List.ext_getElem
    · simp [bfN]
    · intro j h1 h2
      cases j<;>simp [bfN]
theorem bfN_boL {n:Nat} {f:Nat→Bool}:bfN n f=boL ((List.range n).map f):=by simp [bfN,boL]
theorem ltL_bfN {m n:Nat} {f:Nat→Bool}:ltL m (bfN n f)=True:=eq_true (ltL_iff.2 fun j hj=>by
  simp only [bfN,List.getElem_map]
  rw [AV.lt]<;>simp)
theorem rowsOf_boL:∀ (l:List Bool),rowsOf 1 l.length (boL l)=boL l
  | []=>rfl
  | x::l=>by
    rw [yaz,rowsOf,if_pos rfl]
    have:=rowsOf_boL l
    simp only [boL,yae,yao,yap,yau,cell1] at this ⊢
    rw [this]
theorem ltL_pre {α:Type} {n:Nat} {f:α→AV} {a c:List AV} {l:List α} (h:a++c=l.map f) (hf:∀ x,AV.lt n (f x)):ltL n a=True:=eq_true (ltL_iff.2 fun j hj=>by
  have:a[j]∈l.map f:=by rw [← h];exact List.mem_append_left _ (List.getElem_mem hj)
  obtain ⟨x,_,e⟩:=List.mem_map.1 this
  rw [← e];exact hf x)
def cAll (i j:Nat) (g:List AV):List AV:=[.int .i64 1,.str [97,108,108],.slice (.own i) 4 g,.slice (.own j) 1 [.int .i64 1,.int .i64 2,.int .i64 3,.int .i64 4,.int .i64 5,.int .i64 6],.int .i64 40,.bool true]
def cSome (b:List UInt8) (v i j:Nat) (g:List AV):List AV:=[.int .i64 2,.str [115,111,109,101],.slice (.own i) 4 g,.slice (.own j) 1 [.int .i64 1,.int .i64 2,.int .i64 (3+ci b (cp v 0) 3)],.int .i64 (1+ci b (cp v 1) 6),.bool false]
def cFew (b:List UInt8) (v i j:Nat) (g:List AV):List AV:=[.int .i64 7,.str [102,101,119],.slice (.own i) 4 g,.slice (.own j) 1 [.int .i64 (1+ci b (cp v 2) 6)],.int .i64 (ci b (cp v 3) 4),.bool false]
/-- the heap at the head of the loop over the tables -/
def rolH (H:AHeap) (id:Nat) (b:List UInt8) (v w:Nat) (a1 a2 a3:List AV):AHeap :=
  (((((((((((H.set id (codV b (cp w 0))).push (.buf 6 0)).push (.buf 1 6)).push (.buf 4 a1.length)).push (.cells (cAll (H.nx+1+1) (H.nx+1) a1))).push (.buf 1 3)).push (.buf 4 a2.length)).push (.cells (cSome b v (H.nx+1+1+1+1+1) (H.nx+1+1+1+1) a2))).push (.buf 1 1)).push (.buf 4 a3.length)).push (.cells (cFew b v (H.nx+1+1+1+1+1+1+1+1) (H.nx+1+1+1+1+1+1+1) a3)))
/-- what is so at the head of that loop -/
structure RolI (b:List UInt8) (ts:List STable) (R:(List SGrant × List SGrant × List SGrant) × Nat) (k w:Nat) (a1 a2 a3:List AV):Prop where
  le:k≤ts.length
  l1:a1.length≤k
  l2:a2.length≤k
  l3:a3.length≤k
  e1:a1++(gGrants b (ts.drop k) w).1.1.map grantAV=R.1.1.map grantAV
  e2:a2++(gGrants b (ts.drop k) w).1.2.1.map grantAV=R.1.2.1.map grantAV
  e3:a3++(gGrants b (ts.drop k) w).1.2.2.map grantAV=R.1.2.2.map grantAV
  e4:(gGrants b (ts.drop k) w).2=R.2
theorem rolH_closed {H:AHeap} {id:Nat} {b:List UInt8} {ts:List STable} {R:(List SGrant × List SGrant × List SGrant) × Nat} {v k w:Nat} {a1 a2 a3:List AV} (hcl:H.Closed) (h:RolI b ts R k w a1 a2 a3) (w':Nat):(rolH H id b v w' a1 a2 a3).Closed:=by
  have q1:=fun n=>ltL_pre (n:=n) h.e1 lt_grant
  have q2:=fun n=>ltL_pre (n:=n) h.e2 lt_grant
  have q3:=fun n=>ltL_pre (n:=n) h.e3 lt_grant
  unfold rolH
  repeat' (first | exact closed_set hcl codV_lt | refine closed_buf ?_ | refine closed_cells ?_ ?_)
  all_goals simp [cAll,cSome,cFew,lt_sliceL,zno,znp,zmz,znb,zna,zky,zkz,q1,q2,q3]
  all_goals omega
set_option maxHeartbeats 4000000 in
theorem ok_CRoles:EntOk Tryz.prog 52 (Ent.effect e_CRoles):=by
  refine EntOk.effect fun args H K h=>?_
  unfold e_CRoles at h
  split at h
  rotate_left
  · exact h.elim
  rename_i id l
  obtain ⟨ts,⟨rfl,hts,htk⟩,h⟩:=h
  obtain ⟨b,v,hg,hb,hv,hK⟩:=onC_out h
  refine ⟨_,_,hK,?_⟩
  clear hK
  generalize hres:AV.slice .any 6 ((gRoles b v ts).1.map roleAV)=res
  generalize hR:gGrants b ts (v+4)=R
  have hend:(gRoles b v ts).2=R.2:=by rw [← hR];rfl
  rw [hend]
  refine ACalls.of_aw (Ω:=[(48,Ent.effect e_ZNext),(53,Ent.effect e_CBoolD)]) (T:=assoc [(16,[[],[],[],[],[],[],[],[],[5],[],[],[3,5,8],[1,3,5,8],[],[1,3,5,8]]),(18,[[],[],[],[],[],[],[],[5],[],[],[3,5,7],[1,3,5,7],[],[1,3,5,7]]),(1,[[7]]),(2,[[25]]),(3,[[22]]),(14,[[1]]),(20,[[16]])]) mixed (TblOk.cons ok_ZNext (TblOk.cons ok_CBoolD TblOk.nil)) Tryz.func52 (by kernel_rfl) (by rfl) (rs:=[.tmp 4]) (by rfl) (by kernel_rfl) (by simp only [Tryz.ntmps52,yaz,yba];decide) (Nat.le_refl _) fun hcl hlt=>?_
  change aw _ _ _ (KI Tryz.prog [(48,Ent.effect e_ZNext),(53,Ent.effect e_CBoolD)] (aEnd Tryz.prog [.tmp 4] H.nx _ _ (assoc [(16,[[],[],[],[],[],[],[],[],[5],[],[],[3,5,8],[1,3,5,8],[],[1,3,5,8]]),(18,[[],[],[],[],[],[],[],[5],[],[],[3,5,7],[1,3,5,7],[],[1,3,5,7]]),(1,[[7]]),(2,[[25]]),(3,[[22]]),(14,[[1]]),(20,[[16]])])) []) _ _
  clear hlt
  have hid:=AHeap.get_lt hg
  have hne:=ne_nx hid
  have hgc:=get_codV (b:=b) hid
  have hcl2:∀ w,(H.set id (codV b w)).Closed:=fun w=>closed_set hcl codV_lt
  have e2:(2:Int).toNat=2:=rfl
  have e3:(3:Int).toNat=3:=rfl
  have e4:(4:Int).toNat=4:=rfl
  have e6:(6:Int).toNat=6:=rfl
  have w1:∀ (u n:Nat) (k:Int),0<n→n≤100→0≤k→k≤100→IntKind.i64.wrap (k+((cv b u n:Nat):Int))=k+((cv b u n:Nat):Int):=fun u n k h1 h2 h3 h4=>by
    have:=cv_lt (b:=b) (v:=u) (n:=n) h1
    rw [wrap_i64 (by omega) (by omega)]
  have a33:∀ u,IntKind.i64.wrap (3+((cv b u 3:Nat):Int))=3+((cv b u 3:Nat):Int):=fun u=>w1 u 3 3 (by decide) (by decide) (by decide) (by decide)
  have a16:∀ u,IntKind.i64.wrap (1+((cv b u 6:Nat):Int))=1+((cv b u 6:Nat):Int):=fun u=>w1 u 6 1 (by decide) (by decide) (by decide) (by decide)
  simp only [go_sem,bhq,Nat.reduceMod,Nat.reduceDiv,stepH,stepM,toMs1,toMs,toMs0,strK,pubK,pubF,pubV,yaq,yar,yao,yap,e_ZNext,e_CBoolD,hg,hgc,onC_cod hb,cv_min,codV_min,cp_add,hne,e2,e3,e4,e6,a33,a16]
  refine weak_nil 14 2 4 _ rfl rfl ?_
  simp only [go_sem,bhq,Nat.reduceMod,Nat.reduceDiv,stepH,stepM,toMs1,toMs,toMs0,strK,pubK,pubF,pubV,yaq,yar,yao,yap,e_ZNext,e_CBoolD,hg,hgc,onC_cod hb,cv_min,codV_min,cp_add,hne,e2,e3,e4,e6,a33,a16,List.set_cons_succ,List.set_cons_zero]
  (repeat with_reducible refine And.intro (by first | exact True.intro | decide | omega | (simp [zik,zgl,zgm,zgn,zgp,zgo,zgt];first | done | omega)) ?_)
  refine weak_nil 22 2 4 _ rfl rfl ?_
  simp only [go_sem,bhq,Nat.reduceMod,Nat.reduceDiv,stepH,stepM,toMs1,toMs,toMs0,strK,pubK,pubF,pubV,yaq,yar,yao,yap,e_ZNext,e_CBoolD,hg,hgc,onC_cod hb,cv_min,codV_min,cp_add,hne,e2,e3,e4,e6,a33,a16,List.set_cons_succ,List.set_cons_zero]
  (repeat with_reducible refine And.intro (by first | exact True.intro | decide | omega | (simp [zik,zgl,zgm,zgn,zgp,zgo,zgt];first | done | omega)) ?_)
  refine weak_nil 29 2 4 _ rfl rfl ?_
  simp only [go_sem,bhq,Nat.reduceMod,Nat.reduceDiv,stepH,stepM,toMs1,toMs,toMs0,strK,pubK,pubF,pubV,yaq,yar,yao,yap,e_ZNext,e_CBoolD,hg,hgc,onC_cod hb,cv_min,codV_min,cp_add,hne,e2,e3,e4,e6,a33,a16,List.set_cons_succ,List.set_cons_zero]
  refine loop_introW (A:=Nat × Nat × List AV × List AV × List AV) (fun x=>[(0,.ptr id 0),(5,.ptr (H.nx+1+1+1) 0),(6,.ptr (H.nx+1+1+1+1+1+1) 0),(7,.ptr (H.nx+1+1+1+1+1+1+1+1+1) 0),(30,.slice .any 8 (ts.map tableAV)),(31,.int .i64 (ts.length:Int)),(32,.int .i64 (x.1:Int))]) (fun x=>rolH H id b v x.2.1 x.2.2.1 x.2.2.2.1 x.2.2.2.2) (fun x=>RolI b ts R x.1 x.2.1 x.2.2.1 x.2.2.2.1 x.2.2.2.2) (fun x=>ts.length - x.1) (0,v+4,[],[],[]) ⟨by omega,by simp,by simp,by simp,by rw [← hR];rfl,by rw [← hR];rfl,by rw [← hR];rfl,by rw [← hR];rfl⟩ ?_ fun x hx=>?_
  · refine ⟨by simp only [rolH,zky,zkz,zkk,zkp];omega,AHeap.Le.refl _,rolH_closed (ts:=ts) (R:=R) (k:=0) (w:=v+4) hcl ⟨by omega,by simp,by simp,by simp,by rw [← hR];rfl,by rw [← hR];rfl,by rw [← hR];rfl,by rw [← hR];rfl⟩ _,?_,?_⟩
    · simp [ltF,rolH,znh,zmz,zky,zkz,lt_map lt_table]
      omega
    · simp [subW,wk2,wk1,wkM,Fr.get]
  obtain ⟨k,w,a1,a2,a3⟩:=x
  dsimp only at hx ⊢
  have hclo:=fun w'=>rolH_closed (id:=id) (v:=v) hcl hx w'
  obtain ⟨hk,l1,l2,l3,i1,i2,i3,i4⟩:=hx
  simp only [go_sem]
  refine cond_split (fun hc=>?_) (fun hc=>?_)
  · have hk':k<ts.length:=by simp at hc;omega
    obtain ⟨t,ht⟩:∃ t,t=ts[k]:=⟨_,rfl⟩
    have hd:ts.drop k=t::ts.drop (k+1):=by rw [ht];exact List.drop_eq_getElem_cons hk'
    have hkl:t.keys.length≤100:=htk t (by rw [ht];exact List.getElem_mem hk')
    have htg:(ts.map tableAV).getD k .junk=.agg [.int .i64 t.id,.str t.name,.slice .any 3 (t.keys.map keyAV),.slice .any 1 (inL t.actions),.int .i64 t.dflt,.slice .any 2 (t.dargs.map vv),.int .i64 t.size,.str t.restr]:=by
      rw [List.getD_eq_getElem?_getD,List.getElem?_map,List.getElem?_eq_getElem hk',← ht];rfl
    have hT:∀ n,ltL n ([.int .i64 t.id,.str t.name,.slice .any 3 (t.keys.map keyAV),.slice .any 1 (inL t.actions),.int .i64 t.dflt,.slice .any 2 (t.dargs.map vv),.int .i64 t.size,.str t.restr]:List AV):=fun n=>ltL_iff.2 fun j hj=>AV.lt_cells (lt_table t) j hj
    have hclT:∀ w',((rolH H id b v w' a1 a2 a3).push (.cells [.int .i64 t.id,.str t.name,.slice .any 3 (t.keys.map keyAV),.slice .any 1 (inL t.actions),.int .i64 t.dflt,.slice .any 2 (t.dargs.map vv),.int .i64 t.size,.str t.restr])).Closed:=fun w'=>closed_cells (hclo w') (hT _)
    have hclo2:∀ w' f g,((((rolH H id b v w' a1 a2 a3).push (.cells [.int .i64 t.id,.str t.name,.slice .any 3 (t.keys.map keyAV),.slice .any 1 (inL t.actions),.int .i64 t.dflt,.slice .any 2 (t.dargs.map vv),.int .i64 t.size,.str t.restr])).push (.cells (bfN t.keys.length f))).push (.cells (bfN t.keys.length g))).Closed:=fun w' f g =>
      closed_cells (closed_cells (hclT w') (by simp [ltL_bfN])) (by simp [ltL_bfN])
    have hrn:∀ w',(rolH H id b v w' a1 a2 a3).nx=(H.nx+1+1+1+1+1+1+1+1+1+1):=fun _=>rfl
    simp only [go_sem,rolH,cAll,cSome,cFew,htg,Int.toNat_natCast,ybb,bfN_rep,bfN_len]
    (repeat with_reducible refine And.intro (by first | exact True.intro | decide | omega | (simp [zik,zgl,zgm,zgn,zgp,zgo,zgt];first | done | omega)) ?_)
    refine loop_introW (A:=Nat) (fun j=>[(0,.ptr id 0),(5,.ptr (H.nx+1+1+1) 0),(6,.ptr (H.nx+1+1+1+1+1+1) 0),(7,.ptr (H.nx+1+1+1+1+1+1+1+1+1) 0),(9,.ptr (H.nx+1+1+1+1+1+1+1+1+1+1) 0),(10,.ms (H.nx+1+1+1+1+1+1+1+1+1+1+1) 0 1 t.keys.length),(11,.ms (H.nx+1+1+1+1+1+1+1+1+1+1+1+1) 0 1 t.keys.length),(30,.slice .any 8 (ts.map tableAV)),(31,.int .i64 (ts.length:Int)),(32,.int .i64 (k:Int)),(45,.int .i64 (t.keys.length:Int)),(46,.int .i64 (j:Int))]) (fun j=>(((rolH H id b v (w+j) a1 a2 a3).push (.cells [.int .i64 t.id,.str t.name,.slice .any 3 (t.keys.map keyAV),.slice .any 1 (inL t.actions),.int .i64 t.dflt,.slice .any 2 (t.dargs.map vv),.int .i64 t.size,.str t.restr])).push (.cells (bfN t.keys.length fun i=>decide (i<j)))).push (.cells (bfN t.keys.length fun i=>decide (i<j)&&decide (ci b (w+i) 4 > 0)))) (fun j=>j≤t.keys.length) (fun j=>t.keys.length - j) 0 (by omega) ?_ fun j hj=>?_
    · simp only [Nat.not_lt_zero,decide_false,Bool.false_and]
      refine ⟨by simp only [zky,hrn,zkk,zkp];omega,AHeap.Le.refl _,hclo2 _ _ _,?_,?_⟩
      · simp [ltF,hrn,znh,znj,zmz,zky,zkz,lt_map lt_table]
        omega
      · simp [subW,wk2,wk1,wkM,Fr.get]
    simp only [go_sem]
    refine cond_split (fun hc2=>?_) (fun hc2=>?_)
    · have hj':j<t.keys.length:=by simp at hc2;omega
      have e5:IntKind.i64.wrap ((j:Int)+1)=((j+1:Nat):Int):=by rw [wrap_i64]<;>omega
      have hs1:(bfN t.keys.length fun i=>decide (i<j)).set j (.bool true)=bfN t.keys.length fun i=>decide (i<j+1):=bfN_set fun i hi=>by
        by_cases e:i=j
        · subst e;simp
        · rw [if_neg e,decide_eq_decide];omega
      have hs2:(bfN t.keys.length fun i=>decide (i<j)&&decide (ci b (w+i) 4 > 0)).set j (.bool (decide (ci b (cp (w+j) 0) 4 > 0)))=bfN t.keys.length fun i=>decide (i<j+1)&&decide (ci b (w+i) 4 > 0):=bfN_set fun i hi=>by
        by_cases e:i=j
        · subst e;simp [cp]
        · rw [if_neg e];congr 1;rw [decide_eq_decide];omega
      simp only [blkE,blkP,bhq,Nat.reduceMod,Nat.reduceDiv,stepH,stepM,toMs1,toMs,toMs0,strK,pubK,pubF,pubV,yaq,yar,yao,yap,go_sem,e_ZNext,e_CBoolD,hgc,onC_cod hb,cv_min,codV_min,cp_add,hne,e4,rolH,cAll,cSome,cFew,List.length_append,ybb,Int.toNat_natCast,bfN_len,splice_one,Nat.zero_add,Nat.mul_one,hs1,hs2,e5]
      (repeat with_reducible refine And.intro (by first | exact True.intro | decide | omega | (simp [zik,zgl,zgm,zgn,zgp,zgo,zgt];first | done | omega)) ?_)
      refine ⟨j+1,by omega,by omega,by simp only [zky,hrn,zkz,zkk,zkp];omega,AHeap.Le.refl _,hclo2 _ _ _,?_,?_⟩
      · simp [ltF,hrn,znh,znj,zmz,zky,zkz,lt_map lt_table]
        omega
      · simp [subW,wk2,wk1,wkM,Fr.get]
    have hj':j=t.keys.length:=by simp at hc2;omega
    subst hj'
    have y1:(bfN t.keys.length fun i=>decide (i<t.keys.length))=boL (List.replicate t.keys.length true):=by
      rw [bfN_boL];congr 1
      apply List.ext_getElem
      · simp
      · intro i h1 h2;simp at h1 ⊢;exact h1
    have y2:(bfN t.keys.length fun i=>decide (i<t.keys.length)&&decide (ci b (w+i) 4 > 0))=boL (gPart b w t.keys.length):=by
      rw [bfN_boL];congr 1
      unfold gPart
      refine List.map_congr_left fun i hi=>?_
      have:=List.mem_range.1 hi
      simp [this]
    rw [y1,y2]
    simp only [blkE,blkP,bhq,Nat.reduceMod,Nat.reduceDiv,stepH,stepM,toMs1,toMs,toMs0,strK,pubK,pubF,pubV,yaq,yar,yao,yap,go_sem,e_ZNext,e_CBoolD,hgc,onC_cod hb,cv_min,codV_min,cp_add,hne,e4,rolH,cAll,cSome,cFew,List.length_append,ybb]
    refine weak_here [(0,.ptr id 0),(5,.ptr (H.nx+1+1+1) 0),(6,.ptr (H.nx+1+1+1+1+1+1) 0),(7,.ptr (H.nx+1+1+1+1+1+1+1+1+1) 0),(9,.ptr (H.nx+1+1+1+1+1+1+1+1+1+1) 0),(10,.slice .any 1 (boL (List.replicate t.keys.length true))),(11,.slice .any 1 (boL (gPart b w t.keys.length))),(30,.slice .any 8 (ts.map tableAV)),(31,.int .i64 (ts.length:Int)),(32,.int .i64 (k:Int))] ((rolH H id b v (w+t.keys.length) a1 a2 a3).push (.cells [.int .i64 t.id,.str t.name,.slice .any 3 (t.keys.map keyAV),.slice .any 1 (inL t.actions),.int .i64 t.dflt,.slice .any 2 (t.dargs.map vv),.int .i64 t.size,.str t.restr])) ⟨by simp only [zky,hrn,zkk,zkp,KI_n0];omega,((AHeap.Le.refl _).push _).push _,hclT _,?_,?_⟩ ?_
    · simp [ltF,hrn,znh,znj,zmz,zky,zkz,lt_map lt_table,lt_boL]
      omega
    · have yr1:rowsOf 1 t.keys.length (boL (List.replicate t.keys.length true))=boL (List.replicate t.keys.length true):=by
        have:=rowsOf_boL (List.replicate t.keys.length true)
        rw [List.length_replicate] at this;exact this
      have yr2:rowsOf 1 t.keys.length (boL (gPart b w t.keys.length))=boL (gPart b w t.keys.length):=by
        have:=rowsOf_boL (gPart b w t.keys.length)
        rw [show (gPart b w t.keys.length).length=t.keys.length by simp [gPart]] at this;exact this
      have hn1:∀ w' o,((rolH H id b v w' a1 a2 a3).push o).get (H.nx+1+1+1+1+1+1+1+1+1+1+1)=none:=fun w' o=>zmp (by rw [zky,hrn];omega)
      have hn2:∀ w' o,((rolH H id b v w' a1 a2 a3).push o).get (H.nx+1+1+1+1+1+1+1+1+1+1+1+1)=none:=fun w' o=>zmp (by rw [zky,hrn];omega)
      simp only [subW,wk2,wk1,wkM,go_sem,yap,yr1,yr2,hn1,hn2,true_or,or_true,and_self]
    simp only [blkE,blkP,bhq,Nat.reduceMod,Nat.reduceDiv,stepH,stepM,toMs1,toMs,toMs0,strK,pubK,pubF,pubV,yaq,yar,yao,yap,go_sem,e_ZNext,e_CBoolD,hgc,onC_cod hb,cv_min,codV_min,cp_add,hne,e4,rolH,cAll,cSome,cFew,ybb]
    (repeat with_reducible refine And.intro (by first | exact True.intro | decide | omega | (simp [zik,zgl,zgm,zgn,zgp,zgo,zgt];first | done | omega)) ?_)
    have e5:IntKind.i64.wrap ((k:Int)+1)=((k+1:Nat):Int):=by rw [wrap_i64]<;>omega
    refine cond_split (fun h1=>?_) (fun h1=>?_)
    all_goals
      try simp only [blkE,blkP,bhq,Nat.reduceMod,Nat.reduceDiv,stepH,stepM,toMs1,toMs,toMs0,strK,pubK,pubF,pubV,yaq,yar,yao,yap,go_sem,e_ZNext,e_CBoolD,hgc,onC_cod hb,cv_min,codV_min,cp_add,hne,e4,rolH,cAll,cSome,cFew,ybb]
      try (repeat with_reducible refine And.intro (by first | exact True.intro | decide | omega | (simp [zik,zgl,zgm,zgn,zgp,zgo,zgt];first | done | omega)) ?_)
      refine cond_split (fun h2=>?_) (fun h2=>?_)
    all_goals
      try simp only [blkE,blkP,bhq,Nat.reduceMod,Nat.reduceDiv,stepH,stepM,toMs1,toMs,toMs0,strK,pubK,pubF,pubV,yaq,yar,yao,yap,go_sem,e_ZNext,e_CBoolD,hgc,onC_cod hb,cv_min,codV_min,cp_add,hne,e4,rolH,cAll,cSome,cFew,ybb,e5]
      try (repeat with_reducible refine And.intro (by first | exact True.intro | decide | omega | (simp [zik,zgl,zgm,zgn,zgp,zgo,zgt];first | done | omega)) ?_)
    · have hp1:(0<cv b (w+t.keys.length) 4)=True:=eq_true (by have h:=of_decide_eq_true h1;simp only [cp,Nat.add_zero] at h;omega)
      have hp2:(cv b (w+(t.keys.length+3)) 2=1)=True:=eq_true (by have h:=of_decide_eq_true h2;unfold cp at h;rw [Nat.add_assoc] at h;exact h)
      rw [hd] at i1 i2 i3 i4
      simp only [gGrants,hp1,hp2,if_true,if_false,Nat.add_assoc,Nat.reduceAdd] at i1 i2 i3 i4
      have hI:RolI b ts R (k+1) (w+(t.keys.length+6)) (a1++[.agg [.int .i64 t.id,.bool true,.bool true,.slice .any 1 (boL (List.replicate t.keys.length true))]]) (a2++[.agg [.int .i64 t.id,.bool (decide (0<ci b (w+t.keys.length+1) 4)),.bool (decide (cv b (w+t.keys.length+2) 2=1)),.slice .any 1 (boL (gPart b w t.keys.length))]]) (a3++[.agg [.int .i64 t.id,.bool (decide (cv b (w+t.keys.length+4) 2=1)),.bool (decide (cv b (w+t.keys.length+5) 2=1)),.slice .any 1 (boL (List.replicate t.keys.length true))]]):=by
        refine ⟨by omega,by (try simp only [List.length_append,yaz,yba]);omega,by (try simp only [List.length_append,yaz,yba]);omega,by (try simp only [List.length_append,yaz,yba]);omega,?_,?_,?_,i4⟩
        · simpa [grantAV,Nat.add_assoc] using i1
        · simpa [grantAV,Nat.add_assoc] using i2
        · simpa [grantAV,Nat.add_assoc] using i3
      refine ⟨(_,_,_,_,_),hI,by dsimp only;omega,by simp only [rolH,zky,zkz];omega,?_,rolH_closed hcl hI _,?_,?_⟩
      · simp only [rolH,List.length_append,yaz,yba]
        repeat (first | exact AHeap.Le.refl _ | refine AHeap.Le.push ?_ _)
      · simp [ltF,rolH,znh,zmz,zky,zkz,lt_map lt_table]
        omega
      · simp [subW,wk2,wk1,wkM,Fr.get]
    · have hp1:(0<cv b (w+t.keys.length) 4)=True:=eq_true (by have h:=of_decide_eq_true h1;simp only [cp,Nat.add_zero] at h;omega)
      have hp2:(cv b (w+(t.keys.length+3)) 2=1)=False:=eq_false (by have h:=of_decide_eq_false h2;unfold cp at h;rw [Nat.add_assoc] at h;exact h)
      rw [hd] at i1 i2 i3 i4
      simp only [gGrants,hp1,hp2,if_true,if_false,Nat.add_assoc,Nat.reduceAdd] at i1 i2 i3 i4
      have hI:RolI b ts R (k+1) (w+(t.keys.length+4)) (a1++[.agg [.int .i64 t.id,.bool true,.bool true,.slice .any 1 (boL (List.replicate t.keys.length true))]]) (a2++[.agg [.int .i64 t.id,.bool (decide (0<ci b (w+t.keys.length+1) 4)),.bool (decide (cv b (w+t.keys.length+2) 2=1)),.slice .any 1 (boL (gPart b w t.keys.length))]]) (a3):=by
        refine ⟨by omega,by (try simp only [List.length_append,yaz,yba]);omega,by (try simp only [List.length_append,yaz,yba]);omega,by (try simp only [List.length_append,yaz,yba]);omega,?_,?_,?_,i4⟩
        · simpa [grantAV,Nat.add_assoc] using i1
        · simpa [grantAV,Nat.add_assoc] using i2
        · simpa [grantAV,Nat.add_assoc] using i3
      refine ⟨(_,_,_,_,_),hI,by dsimp only;omega,by simp only [rolH,zky,zkz];omega,?_,rolH_closed hcl hI _,?_,?_⟩
      · simp only [rolH,List.length_append,yaz,yba]
        repeat (first | exact AHeap.Le.refl _ | refine AHeap.Le.push ?_ _)
      · simp [ltF,rolH,znh,zmz,zky,zkz,lt_map lt_table]
        omega
      · simp [subW,wk2,wk1,wkM,Fr.get]
    · have hp1:(0<cv b (w+t.keys.length) 4)=False:=eq_false (by have h:=of_decide_eq_false h1;simp only [cp,Nat.add_zero] at h;omega)
      have hp2:(cv b (w+(t.keys.length+1)) 2=1)=True:=eq_true (by have h:=of_decide_eq_true h2;unfold cp at h;rw [Nat.add_assoc] at h;exact h)
      rw [hd] at i1 i2 i3 i4
      simp only [gGrants,hp1,hp2,if_true,if_false,Nat.add_assoc,Nat.reduceAdd] at i1 i2 i3 i4
      have hI:RolI b ts R (k+1) (w+(t.keys.length+4)) (a1++[.agg [.int .i64 t.id,.bool true,.bool true,.slice .any 1 (boL (List.replicate t.keys.length true))]]) (a2) (a3++[.agg [.int .i64 t.id,.bool (decide (cv b (w+t.keys.length+2) 2=1)),.bool (decide (cv b (w+t.keys.length+3) 2=1)),.slice .any 1 (boL (List.replicate t.keys.length true))]]):=by
        refine ⟨by omega,by (try simp only [List.length_append,yaz,yba]);omega,by (try simp only [List.length_append,yaz,yba]);omega,by (try simp only [List.length_append,yaz,yba]);omega,?_,?_,?_,i4⟩
        · simpa [grantAV,Nat.add_assoc] using i1
        · simpa [grantAV,Nat.add_assoc] using i2
        · simpa [grantAV,Nat.add_assoc] using i3
      refine ⟨(_,_,_,_,_),hI,by dsimp only;omega,by simp only [rolH,zky,zkz];omega,?_,rolH_closed hcl hI _,?_,?_⟩
      · simp only [rolH,List.length_append,yaz,yba]
        repeat (first | exact AHeap.Le.refl _ | refine AHeap.Le.push ?_ _)
      · simp [ltF,rolH,znh,zmz,zky,zkz,lt_map lt_table]
        omega
      · simp [subW,wk2,wk1,wkM,Fr.get]
    · have hp1:(0<cv b (w+t.keys.length) 4)=False:=eq_false (by have h:=of_decide_eq_false h1;simp only [cp,Nat.add_zero] at h;omega)
      have hp2:(cv b (w+(t.keys.length+1)) 2=1)=False:=eq_false (by have h:=of_decide_eq_false h2;unfold cp at h;rw [Nat.add_assoc] at h;exact h)
      rw [hd] at i1 i2 i3 i4
      simp only [gGrants,hp1,hp2,if_true,if_false,Nat.add_assoc,Nat.reduceAdd] at i1 i2 i3 i4
      have hI:RolI b ts R (k+1) (w+(t.keys.length+2)) (a1++[.agg [.int .i64 t.id,.bool true,.bool true,.slice .any 1 (boL (List.replicate t.keys.length true))]]) (a2) (a3):=by
        refine ⟨by omega,by (try simp only [List.length_append,yaz,yba]);omega,by (try simp only [List.length_append,yaz,yba]);omega,by (try simp only [List.length_append,yaz,yba]);omega,?_,?_,?_,i4⟩
        · simpa [grantAV,Nat.add_assoc] using i1
        · simpa [grantAV,Nat.add_assoc] using i2
        · simpa [grantAV,Nat.add_assoc] using i3
      refine ⟨(_,_,_,_,_),hI,by dsimp only;omega,by simp only [rolH,zky,zkz];omega,?_,rolH_closed hcl hI _,?_,?_⟩
      · simp only [rolH,List.length_append,yaz,yba]
        repeat (first | exact AHeap.Le.refl _ | refine AHeap.Le.push ?_ _)
      · simp [ltF,rolH,znh,zmz,zky,zkz,lt_map lt_table]
        omega
      · simp [subW,wk2,wk1,wkM,Fr.get]
  · have hk':k=ts.length:=by simp at hc;omega
    subst hk'
    simp only [bhq,Nat.reduceMod,Nat.reduceDiv,stepH,stepM,toMs1,toMs,toMs0,strK,pubK,pubF,pubV,yaq,yar,yao,yap,go_sem,rolH,cAll,cSome,cFew]
    (repeat with_reducible refine And.intro (by first | exact True.intro | decide | omega | (simp [zik,zgl,zgm,zgn,zgp,zgo,zgt];first | done | omega)) ?_)
    simp only [List.drop_length,gGrants,yaf,yaj] at i1 i2 i3 i4
    subst i4
    refine weak_slot 4 res ?_ ?_
    · rw [← hres]
      simp only [gRoles,hR]
      simp [Fr.get,roleAV,inL,i1,i2,i3,cp,AV.cells,wkD_agg,wkD_slice,wkDL_cons,wkDL_nil,wkDR_cons,wkDR_nil,wkD_int,wkD_str,wkD_bool,wkM,wkDR_same]
    simp only [bhq,Nat.reduceMod,Nat.reduceDiv,stepH,stepM,toMs1,toMs,toMs0,strK,pubK,pubF,pubV,yaq,yar,yao,yap,go_sem]
    subst hres
    refine ⟨?_,?_,hcl2 _,lt_map lt_role⟩
    · simp [wk,wk2,wk1,wkM]
    · repeat (first | exact AHeap.Le.refl _ | refine AHeap.Le.push ?_ _)
end Go.AL


open Go Go.AL Go.Proofs
namespace Go.AL
set_option linter.all false
set_option maxRecDepth 10000

/-- what a function takes from the choices does not depend on the place behind their end -/
def Stable (g:List UInt8→Nat→AV × Nat):Prop:=∀ b v,(g b (min v b.length)).1=(g b v).1∧∃ c,(g b (min v b.length)).2=min v b.length+c∧(g b v).2=v+c
def onS (o:Option AObj) (g:List UInt8→Nat→AV × Nat) (K:AV→AObj→Prop):Prop:=onC o fun b v=>K (g b v).1 (codV b (g b v).2)
@[congr] theorem onS_congr {o o':Option AObj} {g:List UInt8→Nat→AV × Nat} {K:AV→AObj→Prop} (h:o=o'):onS o g K=onS o' g K:=by rw [h]
theorem onS_cod {b:List UInt8} {v:Nat} {g:List UInt8→Nat→AV × Nat} {K:AV→AObj→Prop} (hb:b.length≤1000000) (hg:Stable g):onS (some (codV b v)) g K=K (g b v).1 (codV b (g b v).2):=by
  unfold onS
  rw [onC_cod hb]
  obtain ⟨h1,c,h2,h3⟩:=hg b v
  rw [h1,h2,h3,codV_min]
theorem eG_onS {g:List UInt8→Nat→AV × Nat} {id:Nat} {H:AHeap} {K:AEnd→AHeap→Prop}:eG g [.ptr id 0] H K=onS (H.get id) g fun x o=>K (.ret x) (H.set id o):=(rfl)
def gsStates:List UInt8→Nat→AV × Nat:=fun b v=>(.slice .any 5 ((gStates b v).1.map stateAV),(gStates b v).2)
def gsActions:List UInt8→Nat→AV × Nat:=fun b v=>(.slice .any 5 ((gActions b v).map actionAV),v+4)
def gsTables:List UInt8→Nat→AV × Nat:=fun b v=>(.slice .any 8 ((gTables b v).map tableAV),v+12)
def gsRoles (ts:List STable):List UInt8→Nat→AV × Nat:=fun b v=>(.slice .any 6 ((gRoles b v ts).1.map roleAV),(gRoles b v ts).2)
theorem st_states:Stable gsStates:=fun b v=>by
  have e:gStates b (min v b.length)=((gStates b v).1,(gStates b v).2 - v+min v b.length):=by
    unfold gStates
    simp only [cv_min_add,cv_min]
    repeat' split
    all_goals (refine Prod.ext rfl ?_;dsimp only;omega)
  have h:∃ c,(gStates b v).2=v+c:=by
    unfold gStates
    repeat' split
    all_goals exact ⟨_,rfl⟩
  obtain ⟨c,hc⟩:=h
  unfold gsStates
  dsimp only
  rw [e]
  exact ⟨rfl,c,by dsimp only;omega,hc⟩
theorem st_actions:Stable gsActions:=fun b v=>by
  have e:gActions b (min v b.length)=gActions b v:=by unfold gActions ci;simp only [cv_min_add,cv_min]
  unfold gsActions
  dsimp only
  rw [e]
  exact ⟨rfl,4,rfl,rfl⟩
theorem st_tables:Stable gsTables:=fun b v=>by
  have e:gTables b (min v b.length)=gTables b v:=by unfold gTables gTable0 gTable1 gTable2 gTable3 ci;simp only [cv_min_add,cv_min]
  unfold gsTables
  dsimp only
  rw [e]
  exact ⟨rfl,12,rfl,rfl⟩
theorem gPart_min {b:List UInt8} {v k n:Nat}:gPart b (min v b.length+k) n=gPart b (v+k) n:=by
  unfold gPart
  refine List.map_congr_left fun i _=>?_
  rw [Nat.add_assoc,Nat.add_assoc]
  unfold ci
  rw [cv_min_add]
theorem gGrants_min {b:List UInt8} {v:Nat}:∀ (ts:List STable) (k:Nat),(gGrants b ts (min v b.length+k)).1=(gGrants b ts (v+k)).1∧∃ c,(gGrants b ts (min v b.length+k)).2=min v b.length+c∧(gGrants b ts (v+k)).2=v+c
  | [],k=>⟨rfl,k,rfl,rfl⟩
  | t::ts,k=>by
    have hb:∀ j n,cv b (min v b.length+j) n=cv b (v+j) n:=fun j n=>cv_min_add
    by_cases h1:0<cv b (v+(k+t.keys.length)) 4
    · by_cases h2:cv b (v+(k+t.keys.length+3)) 2=1
      · obtain ⟨i1,c,i2,i3⟩:=gGrants_min ts (k+t.keys.length+3+3)
        simp only [Nat.add_assoc,Nat.reduceAdd] at i1 i2 i3 h1 h2
        simp only [gGrants,Nat.add_assoc,Nat.reduceAdd,hb,ci,h1,h2,if_true,gPart_min]
        rw [i1]
        exact ⟨rfl,c,i2,i3⟩
      · obtain ⟨i1,c,i2,i3⟩:=gGrants_min ts (k+t.keys.length+3+1)
        simp only [Nat.add_assoc,Nat.reduceAdd] at i1 i2 i3 h1 h2
        simp only [gGrants,Nat.add_assoc,Nat.reduceAdd,hb,ci,h1,h2,if_true,if_false,gPart_min]
        rw [i1]
        exact ⟨rfl,c,i2,i3⟩
    · by_cases h2:cv b (v+(k+t.keys.length+1)) 2=1
      · obtain ⟨i1,c,i2,i3⟩:=gGrants_min ts (k+t.keys.length+1+3)
        simp only [Nat.add_assoc,Nat.reduceAdd] at i1 i2 i3 h1 h2
        simp only [gGrants,Nat.add_assoc,Nat.reduceAdd,hb,ci,h1,h2,if_true,if_false,gPart_min]
        rw [i1]
        exact ⟨rfl,c,i2,i3⟩
      · obtain ⟨i1,c,i2,i3⟩:=gGrants_min ts (k+t.keys.length+1+1)
        simp only [Nat.add_assoc,Nat.reduceAdd] at i1 i2 i3 h1 h2
        simp only [gGrants,Nat.add_assoc,Nat.reduceAdd,hb,ci,h1,h2,if_true,if_false,gPart_min]
        rw [i1]
        exact ⟨rfl,c,i2,i3⟩
theorem st_roles (ts:List STable):Stable (gsRoles ts):=fun b v=>by
  obtain ⟨i1,c,i2,i3⟩:=gGrants_min (b:=b) (v:=v) ts 4
  unfold gsRoles gRoles
  dsimp only
  rw [i1]
  unfold ci
  simp only [cv_min_add,cv_min]
  exact ⟨trivial,c,i2,i3⟩
theorem gsS1 {b:List UInt8} {v:Nat}:(gsStates b v).1=.slice .any 5 ((gStates b v).1.map stateAV):=(rfl)
theorem gsS2 {b:List UInt8} {v:Nat}:(gsStates b v).2=(gStates b v).2:=(rfl)
theorem gsA1 {b:List UInt8} {v:Nat}:(gsActions b v).1=.slice .any 5 ((gActions b v).map actionAV):=(rfl)
theorem gsA2 {b:List UInt8} {v:Nat}:(gsActions b v).2=cp v 4:=(rfl)
theorem gsT1 {b:List UInt8} {v:Nat}:(gsTables b v).1=.slice .any 8 ((gTables b v).map tableAV):=(rfl)
theorem gsT2 {b:List UInt8} {v:Nat}:(gsTables b v).2=cp v 12:=(rfl)
theorem gsR1 {b:List UInt8} {v:Nat} {ts:List STable}:(gsRoles ts b v).1=.slice .any 6 ((gRoles b v ts).1.map roleAV):=(rfl)
theorem gsR2 {b:List UInt8} {v:Nat} {ts:List STable}:(gsRoles ts b v).2=cp (gRoles b v ts).2 0:=(rfl)
theorem cp_cp {v k n:Nat}:cp (cp v k) n=cp v (k+n):=by unfold cp;omega
theorem tg2 {b:List UInt8} {w:Nat}:(List.map tableAV (gTables b w)).getD 2 .junk=.agg [.int .i64 (gTable2 b w).id,.str (gTable2 b w).name,.slice .any 3 ((gTable2 b w).keys.map keyAV),.slice .any 1 (inL (gTable2 b w).actions),.int .i64 (gTable2 b w).dflt,.slice .any 2 ((gTable2 b w).dargs.map vv),.int .i64 (gTable2 b w).size,.str (gTable2 b w).restr]:=(rfl)
theorem tg3 {b:List UInt8} {w:Nat}:(List.map tableAV (gTables b w)).getD 3 .junk=.agg [.int .i64 (gTable3 b w).id,.str (gTable3 b w).name,.slice .any 3 ((gTable3 b w).keys.map keyAV),.slice .any 1 (inL (gTable3 b w).actions),.int .i64 (gTable3 b w).dflt,.slice .any 2 ((gTable3 b w).dargs.map vv),.int .i64 (gTable3 b w).size,.str (gTable3 b w).restr]:=(rfl)
theorem tgl {b:List UInt8} {w:Nat}:(gTables b w).length=4:=(rfl)
theorem k2l {b:List UInt8} {w:Nat}:(((gTable2 b w).keys.length:Int)==3)=decide (cv b (cp w 5) 2=1):=by
  by_cases h:cv b (w+5) 2=1<;>simp [gTable2,cp,h]
theorem k3l {b:List UInt8} {w:Nat}:(((gTable3 b w).keys.length:Int)==3)=decide (cv b (cp w 7) 2=1):=by
  by_cases h:cv b (w+7) 2=1<;>simp [gTable3,cp,h]
def decP (p:Prop):Bool→Prop | true=>p | false=>¬ p
theorem of_dec {p:Prop} [Decidable p] {t:Bool} (h:decide p=t):decP p t:=by
  cases t
  · exact (of_decide_eq_false h:¬ p)
  · exact (of_decide_eq_true h:p)
theorem roles_in {id:Nat} {ts:List STable} {H:AHeap} {K:AEnd→AHeap→Prop} (h1:ts.length≤100) (h2:∀ t∈ts,t.keys.length≤100) (h:onS (H.get id) (gsRoles ts) fun x o=>K (.ret x) (H.set id o)) :
    e_CRoles [.ptr id 0,.slice .any 8 (ts.map tableAV)] H K:=⟨ts,⟨rfl,h1,h2⟩,h⟩
def e_CSchema:=eG fun b v=>(schAV (gSchema b v).1,(gSchema b v).2)
set_option maxHeartbeats 8000000 in
theorem ok_CSchema:EntOk Tryz.prog 15 (Ent.effect e_CSchema):=by
  unfold e_CSchema
  refine EntOk.effect fun args H K h=>?_
  unfold eG at h
  split at h
  rotate_left
  · exact h.elim
  rename_i id
  obtain ⟨b,v,hg,hb,hv,hK⟩:=onC_out h
  refine ⟨_,_,hK,?_⟩
  clear hK
  dsimp only
  generalize hS:(gSchema b v).1=S
  generalize hpos:(gSchema b v).2=pos
  refine ACalls.of_aw (Ω:=[(48,Ent.effect e_ZNext),(53,Ent.effect e_CBoolD),(49,Ent.effect e_CStates),(50,Ent.effect e_CActions),(51,Ent.effect e_CTables),(52,Ent.effect e_CRoles)]) (T:=assoc [(15,[[4]])]) mixed (TblOk.cons ok_ZNext (TblOk.cons ok_CBoolD (TblOk.cons ok_CStates (TblOk.cons ok_CActions (TblOk.cons ok_CTables (TblOk.cons ok_CRoles TblOk.nil)))))) Tryz.func15 (by kernel_rfl) (by rfl) (rs:=[.cell 2 31]) (by rfl) (by kernel_rfl) (by simp only [Tryz.ntmps15,yaz,yba];decide) (Nat.le_refl _) fun hcl hlt=>?_
  change aw _ _ _ (KI Tryz.prog [(48,Ent.effect e_ZNext),(53,Ent.effect e_CBoolD),(49,Ent.effect e_CStates),(50,Ent.effect e_CActions),(51,Ent.effect e_CTables),(52,Ent.effect e_CRoles)] (aEnd Tryz.prog [.cell 2 31] H.nx _ _ (assoc [(15,[[4]])])) []) _ _
  clear hlt
  have hid:=AHeap.get_lt hg
  have hne:=ne_nx hid
  have hne2:=ne_nx (show id<H.nx+1+1+1+1+1+1+1+1+1+1+1+1+1+1+1+1 by omega)
  have hgc:=get_codV (b:=b) hid
  have hcl2:∀ w,(H.set id (codV b w)).Closed:=fun w=>closed_set hcl codV_lt
  have e8:(8:Int).toNat=8:=rfl
  have e30:(30:Int).toNat=30:=rfl
  have w1:∀ (u n:Nat) (k:Int),0<n→n≤100→0≤k→k≤100→IntKind.i64.wrap (k+((cv b u n:Nat):Int))=k+((cv b u n:Nat):Int):=fun u n k h1 h2 h3 h4=>by
    have:=cv_lt (b:=b) (v:=u) (n:=n) h1
    rw [wrap_i64 (by omega) (by omega)]
  have a28:∀ u,IntKind.i64.wrap (2+((cv b u 8:Nat):Int))=2+((cv b u 8:Nat):Int):=fun u=>w1 u 8 2 (by decide) (by decide) (by decide) (by decide)
  have a30:∀ u,IntKind.i64.wrap (12+((cv b u 30:Nat):Int))=12+((cv b u 30:Nat):Int):=fun u=>w1 u 30 12 (by decide) (by decide) (by decide) (by decide)
  have es1:e_CStates=eG gsStates:=rfl
  have es2:e_CActions=eG gsActions:=rfl
  have es3:e_CTables=eG gsTables:=rfl
  simp only [go_sem,bhq,Nat.reduceMod,Nat.reduceDiv,stepH,stepM,toMs1,toMs,toMs0,strK,pubK,pubF,pubV,yaq,yar,yao,yap,e_ZNext,e_CBoolD,es1,es2,es3,eG_onS,onS_cod hb st_states,onS_cod hb st_actions,onS_cod hb st_tables,gsS1,gsS2,gsA1,gsA2,gsT1,gsT2,cp_cp,hg,hgc,onC_cod hb,cv_min,codV_min,cp_add,hne,hne2,e8,e30,a28,a30]
  (repeat with_reducible refine And.intro (by first | exact True.intro | decide | omega | (simp [zik,zgl,zgm,zgn,zgp,zgo,zgt];first | done | omega)) ?_)
  refine roles_in (by simp [gTables]) (fun t ht=>?_) ?_
  · simp only [gTables,List.mem_cons,List.not_mem_nil,or_false] at ht
    rcases ht with rfl | rfl | rfl | rfl<;>simp only [gTable0,gTable1,gTable2,gTable3]<;>(try split)<;>simp
  simp only [blkE,blkP,go_sem,bhq,Nat.reduceMod,Nat.reduceDiv,stepH,stepM,toMs1,toMs,toMs0,strK,pubK,pubF,pubV,yaq,yar,yao,yap,e_ZNext,e_CBoolD,es1,es2,es3,eG_onS,onS_cod hb st_states,onS_cod hb st_actions,onS_cod hb st_tables,gsS1,gsS2,gsA1,gsA2,gsT1,gsT2,cp_cp,hg,hgc,onC_cod hb,cv_min,codV_min,cp_add,hne,hne2,e8,e30,a28,a30,onS_cod hb (st_roles _),gsR1,gsR2,Int.toNat_natCast]
  refine cond_split (fun h1=>?_) (fun h1=>?_)
  all_goals
    simp only [blkE,blkP,go_sem,bhq,Nat.reduceMod,Nat.reduceDiv,stepH,stepM,toMs1,toMs,toMs0,strK,pubK,pubF,pubV,yaq,yar,yao,yap,e_ZNext,e_CBoolD,es1,es2,es3,eG_onS,onS_cod hb st_states,onS_cod hb st_actions,onS_cod hb st_tables,gsS1,gsS2,gsA1,gsA2,gsT1,gsT2,cp_cp,hg,hgc,onC_cod hb,cv_min,codV_min,cp_add,hne,hne2,e8,e30,a28,a30,onS_cod hb (st_roles _),gsR1,gsR2,Int.toNat_natCast,tg2,tg3,tgl,k2l,k3l]
    try (repeat with_reducible refine And.intro (by first | exact True.intro | decide | omega | (simp [zik,zgl,zgm,zgn,zgp,zgo,zgt];first | done | omega)) ?_)
    refine cond_split (fun h2=>?_) (fun h2=>?_)
  all_goals
    simp only [blkE,blkP,go_sem,bhq,Nat.reduceMod,Nat.reduceDiv,stepH,stepM,toMs1,toMs,toMs0,strK,pubK,pubF,pubV,yaq,yar,yao,yap,e_ZNext,e_CBoolD,es1,es2,es3,eG_onS,onS_cod hb st_states,onS_cod hb st_actions,onS_cod hb st_tables,gsS1,gsS2,gsA1,gsA2,gsT1,gsT2,cp_cp,hg,hgc,onC_cod hb,cv_min,codV_min,cp_add,hne,hne2,e8,e30,a28,a30,onS_cod hb (st_roles _),gsR1,gsR2,Int.toNat_natCast,tg2,tg3,tgl,k2l,k3l]
    try (repeat with_reducible refine And.intro (by first | exact True.intro | decide | omega | (simp [zik,zgl,zgm,zgn,zgp,zgo,zgt];first | done | omega)) ?_)
    refine both_split (fun h3=>?_) (fun h3=>?_)
  all_goals
    try (repeat with_reducible refine And.intro (by first | exact True.intro | decide | omega | (simp [zik,zgl,zgm,zgn,zgp,zgo,zgt];first | done | omega)) ?_)
    try refine cond_split (fun h4=>?_) (fun h4=>?_)
  all_goals
    try simp only [blkE,blkP,go_sem,bhq,Nat.reduceMod,Nat.reduceDiv,stepH,stepM,toMs1,toMs,toMs0,strK,pubK,pubF,pubV,yaq,yar,yao,yap,e_ZNext,e_CBoolD,es1,es2,es3,eG_onS,onS_cod hb st_states,onS_cod hb st_actions,onS_cod hb st_tables,gsS1,gsS2,gsA1,gsA2,gsT1,gsT2,cp_cp,hg,hgc,onC_cod hb,cv_min,codV_min,cp_add,hne,hne2,e8,e30,a28,a30,onS_cod hb (st_roles _),gsR1,gsR2,Int.toNat_natCast,tg2,tg3,tgl,k2l,k3l]
    try (repeat with_reducible refine And.intro (by first | exact True.intro | decide | omega | (simp [zik,zgl,zgm,zgn,zgp,zgo,zgt];first | done | omega)) ?_)
    refine both_split (fun h5=>?_) (fun h5=>?_)
  all_goals
    try (repeat with_reducible refine And.intro (by first | exact True.intro | decide | omega | (simp [zik,zgl,zgm,zgn,zgp,zgo,zgt];first | done | omega)) ?_)
    try refine cond_split (fun h6=>?_) (fun h6=>?_)
  all_goals
    try simp only [blkE,blkP,go_sem,bhq,Nat.reduceMod,Nat.reduceDiv,stepH,stepM,toMs1,toMs,toMs0,strK,pubK,pubF,pubV,yaq,yar,yao,yap,e_ZNext,e_CBoolD,es1,es2,es3,eG_onS,onS_cod hb st_states,onS_cod hb st_actions,onS_cod hb st_tables,gsS1,gsS2,gsA1,gsA2,gsT1,gsT2,cp_cp,hg,hgc,onC_cod hb,cv_min,codV_min,cp_add,hne,hne2,e8,e30,a28,a30,onS_cod hb (st_roles _),gsR1,gsR2,Int.toNat_natCast,tg2,tg3,tgl,k2l,k3l]
    try (repeat with_reducible refine And.intro (by first | exact True.intro | decide | omega | (simp [zik,zgl,zgm,zgn,zgp,zgo,zgt];first | done | omega)) ?_)
    replace h1:=of_dec h1
    replace h2:=of_dec h2
    replace h3:=of_dec h3
    replace h5:=of_dec h5
    try replace h4:=of_dec h4
    try replace h6:=of_dec h6
    refine weak_slot 101 (.agg (schC S)) ?_ ?_
    · rw [← hS]
      simp only [decP] at h1 h2 h3 h5
      try simp only [decP] at h4
      try simp only [decP] at h6
      simp [*,Fr.get,schC,gSchema,gFields,gHeaders,fieldAV,headerAV,stageAV,refAV,inL,AV.cells,wkD_agg,wkD_slice,wkDL_cons,wkDL_nil,wkDR_cons,wkDR_nil,wkD_int,wkD_str,wkD_bool,wkM,wkDR_same]
    simp only [bhq,Nat.reduceMod,Nat.reduceDiv,stepH,stepM,toMs1,toMs,toMs0,strK,pubK,pubF,pubV,yaq,yar,yao,yap,go_sem,schC]
    refine ⟨?_,?_,hcl2 _,lt_sch S⟩
    · simp [schAV,schC,wk,wk2,wkL,wk1,wkM]
    · rw [← hpos]
      repeat (first | exact AHeap.Le.refl _ | refine AHeap.Le.push ?_ _)
end Go.AL

