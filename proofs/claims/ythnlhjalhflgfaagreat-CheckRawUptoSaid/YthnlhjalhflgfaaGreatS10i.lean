/- Lemmas of the proof; no condition. -/
import Derived.Test.YthnlhjalhflgfaaGreatS10c
import Derived.Test.YthnlhjalhflgfaaGreatLEntB
set_option linter.all false
set_option maxRecDepth 10000
set_option maxHeartbeats 32000000
open List renaming length_cons → yaz, map_cons → yae, drop_succ_cons → yao, drop_zero → yap, getD_cons_zero → yau, length_nil → yba, take_succ_cons → yaq, take_zero → yar, length_map → ybb, map_nil → yaf, append_nil → yaj
open Go Go.AL Go.Proofs
namespace Go.AL
def uC:ECt
 |[.ptr id 0,.slice .any 8 l],H,K=>∃ ts:List STable,(l=ts.map ax∧ts.length≤100∧∀ t∈ts,t.keys.length≤100)∧onC (H.get id) fun b v=>K (.ret (.slice .any 6 ((lg b v ts).1.map aN))) (H.set id (iu b (lg b v ts).2))
 |_,_,_=>False
def bfN (n:Nat) (f:Nat→Bool):List AV:=(List.range n).map fun i=>.bool (f i)
theorem CM {n:Nat} {f:Nat→Bool}:(bfN n f).length=n:=by simp [bfN]
theorem DA {n:Nat} {f g:Nat→Bool} {i:Nat} {b:Bool} (h:∀ j,j<n→g j=if j=i then b else f j):(bfN n f).set i (.bool b)=bfN n g:=by
 apply List.ext_getElem
 ·simp [bfN]
 ·intro j h1 h2
  have hj:j<n:=by simpa [bfN] using h2
  rw [List.getElem_set]
  simp only [bfN,List.getElem_map,List.getElem_range,h j hj]
  by_cases e:i=j
  ·subst e;simp
  ·rw [if_neg e,if_neg (fun x=>e x.symm)]
theorem MG {n:Nat}:(List.replicate n [AV.bool false]).flatten=bfN n fun _=>false:=by
 induction n with
 |zero=>rfl
 |succ n ih =>
  rw [List.replicate_succ,List.flatten_cons,ih]
  apply List.ext_getElem
  ·simp [bfN]
  ·intro j h1 h2
   cases j<;>simp [bfN]
theorem DJ {n:Nat} {f:Nat→Bool}:bfN n f=boL ((List.range n).map f):=by simp [bfN,boL]
theorem CR {m n:Nat} {f:Nat→Bool}:ltL m (bfN n f)=True:=eq_true (ltL_iff.2 fun j hj=>by
 simp only [bfN,List.getElem_map]
 rw [AV.lt]<;>simp)
theorem qJ:∀ (l:List Bool),dM 1 l.length (boL l)=boL l
 |[]=>rfl
 |x::l=>by
  rw [yaz,dM,if_pos rfl]
  have:=qJ l
  simp only [boL,yae,yao,yap,yau,mN] at this ⊢
  rw [this]
theorem ye {α:Type} {n:Nat} {f:α→AV} {a c:List AV} {l:List α} (h:a++c=l.map f) (hf:∀ x,AV.lt n (f x)):ltL n a=True:=eq_true (ltL_iff.2 fun j hj=>by
 have:a[j]∈l.map f:=by rw [← h];exact List.mem_append_left _ (gMq hj)
 obtain ⟨x,_,e⟩:=List.mem_map.1 this
 rw [← e];exact hf x)
def yi (i j:Nat) (g:List AV):List AV:=[.int .i64 1,.str [97,108,108],.slice (.own i) 4 g,.slice (.own j) 1 [.int .i64 1,.int .i64 2,.int .i64 3,.int .i64 4,.int .i64 5,.int .i64 6],.int .i64 40,.bool true]
def rC (b:List UInt8) (v i j:Nat) (g:List AV):List AV:=[.int .i64 2,.str [115,111,109,101],.slice (.own i) 4 g,.slice (.own j) 1 [.int .i64 1,.int .i64 2,.int .i64 (3+ci b (cp v 0) 3)],.int .i64 (1+ci b (cp v 1) 6),.bool false]
def yB (b:List UInt8) (v i j:Nat) (g:List AV):List AV:=[.int .i64 7,.str [102,101,119],.slice (.own i) 4 g,.slice (.own j) 1 [.int .i64 (1+ci b (cp v 2) 6)],.int .i64 (ci b (cp v 3) 4),.bool false]
def j9 (H:AHeap) (id:Nat) (b:List UInt8) (v w:Nat) (a1 a2 a3:List AV):AHeap :=
 (((((((((((H.set id (iu b (cp w 0))).push (.buf 6 0)).push (.buf 1 6)).push (.buf 4 a1.length)).push (.cells (yi (H.nx+1+1) (H.nx+1) a1))).push (.buf 1 3)).push (.buf 4 a2.length)).push (.cells (rC b v (H.nx+1+1+1+1+1) (H.nx+1+1+1+1) a2))).push (.buf 1 1)).push (.buf 4 a3.length)).push (.cells (yB b v (H.nx+1+1+1+1+1+1+1+1) (H.nx+1+1+1+1+1+1+1) a3)))
structure RolI (b:List UInt8) (ts:List STable) (R:(List SGrant × List SGrant × List SGrant) × Nat) (k w:Nat) (a1 a2 a3:List AV):Prop where
 le:k≤ts.length
 l1:a1.length≤k
 l2:a2.length≤k
 l3:a3.length≤k
 e1:a1++(fH b (ts.drop k) w).1.1.map aJ=R.1.1.map aJ
 e2:a2++(fH b (ts.drop k) w).1.2.1.map aJ=R.1.2.1.map aJ
 e3:a3++(fH b (ts.drop k) w).1.2.2.map aJ=R.1.2.2.map aJ
 e4:(fH b (ts.drop k) w).2=R.2
theorem kp {H:AHeap} {id:Nat} {b:List UInt8} {ts:List STable} {R:(List SGrant × List SGrant × List SGrant) × Nat} {v k w:Nat} {a1 a2 a3:List AV} (hcl:H.Closed) (h:RolI b ts R k w a1 a2 a3) (w':Nat):(j9 H id b v w' a1 a2 a3).Closed:=by
 have q1:=fun n=>ye (n:=n) h.e1 ge
 have q2:=fun n=>ye (n:=n) h.e2 ge
 have q3:=fun n=>ye (n:=n) h.e3 ge
 unfold j9
 repeat' (first|exact bI hcl m0|refine bg ?_|refine ah ?_ ?_)
 all_goals simp [yi,rC,yB,cL,znu,znv,znf,znh,zng,zle,zlf,q1,q2,q3]
 all_goals omega
theorem E9:EEe 23 uC:=by
 refine Yef fun _ H K h=>?_
 unfold uC at h
 split at h<;>try exact h.elim
 rename_i id l
 obtain ⟨ts,⟨rfl,hts,htk⟩,h⟩:=h
 obtain ⟨b,v,hg,hb,hv,hK⟩:=oB h
 refine ⟨_,_,hK,?_⟩
 clear hK
 generalize hres:AV.slice .any 6 ((lg b v ts).1.map aN)=res
 generalize hR:fH b ts (v+4)=R
 have hend:(lg b v ts).2=R.2:=by rw [← hR];rfl
 rw [hend]
 refine Yfw aC (tCq nO (tCq nI tNq)) Tryz.func23 [.tmp 4] (nrq _) (T:=aA [(16,[[],[],[],[],[],[],[],[],[5],[],[],[3,5,8],[1,3,5,8],[],[1,3,5,8]]),(18,[[],[],[],[],[],[],[],[5],[],[],[3,5,7],[1,3,5,7],[],[1,3,5,7]]),(1,[[7]]),(2,[[25]]),(3,[[22]]),(14,[[1]]),(20,[[16]])]) (h:=fun hcl=>?_)
 have hid:=glq hg
 have hne:=tp hid
 have hgc:=pH (b:=b) hid
 have hcl2:∀ w,(H.set id (iu b w)).Closed:=fun w=>bI hcl m0
 have e2:(2:Int).toNat=2:=rfl
 have e3:(3:Int).toNat=3:=rfl
 have e4:(4:Int).toNat=4:=rfl
 have e6:(6:Int).toNat=6:=rfl
 have w1:∀ (u n:Nat) (k:Int),0<n→n≤100→0≤k→k≤100→IntKind.i64.wrap (k+((cv b u n:Nat):Int))=k+((cv b u n:Nat):Int):=fun u n k h1 h2 h3 h4=>by
  exact Y127
 have a33:∀ u,IntKind.i64.wrap (3+((cv b u 3:Nat):Int))=3+((cv b u 3:Nat):Int):=fun u=>w1 u 3 3 (by decide) (by decide) (by decide) (by decide)
 have a16:∀ u,IntKind.i64.wrap (1+((cv b u 6:Nat):Int))=1+((cv b u 6:Nat):Int):=fun u=>w1 u 6 1 (by decide) (by decide) (by decide) (by decide)
 simp only [go_sem,bhq,Nat.reduceMod,Nat.reduceDiv,aZ,ba,bf,bD,bc,bC,bz,bB,bA,yaq,yar,yao,yap,dq,cV,hg,hgc,dp hb,eu,cO,eN,hne,e2,e3,e4,e6,a33,a16]
 refine vF 14 2 4 _ rfl rfl ?_
 refine Tq20 ?_
 refine Tq3 ?_
 refine vF 22 2 4 _ rfl rfl ?_
 refine Tq20 ?_
 refine Tq3 ?_
 refine vF 29 2 4 _ rfl rfl ?_
 refine Tq20 ?_
 refine aD (A:=Nat × Nat × List AV × List AV × List AV) (fun x=>[(0,.ptr id 0),(5,.ptr (H.nx+1+1+1) 0),(6,.ptr (H.nx+1+1+1+1+1+1) 0),(7,.ptr (H.nx+1+1+1+1+1+1+1+1+1) 0),(30,.slice .any 8 (ts.map ax)),(31,.int .i64 (ts.length:Int)),(32,.int .i64 (x.1:Int))]) (fun x=>j9 H id b v x.2.1 x.2.2.1 x.2.2.2.1 x.2.2.2.2) (fun x=>RolI b ts R x.1 x.2.1 x.2.2.1 x.2.2.2.1 x.2.2.2.2) (fun x=>ts.length - x.1) (0,v+4,[],[],[]) ⟨by omega,by simp,by simp,by simp,by rw [← hR];rfl,by rw [← hR];rfl,by rw [← hR];rfl,by rw [← hR];rfl⟩ ?_ fun x hx=>?_
 ·refine ⟨by simp only [j9,zle,zlf,zkq,zkv];omega,lRq _,kp (ts:=ts) (R:=R) (k:=0) (w:=v+4) hcl ⟨by omega,by simp,by simp,by simp,by rw [← hR];rfl,by rw [← hR];rfl,by rw [← hR];rfl,by rw [← hR];rfl⟩ _,?_,?_⟩
  ·exact Y111
  ·exact Y14
 obtain ⟨k,w,a1,a2,a3⟩:=x
 dsimp only at hx ⊢
 have hclo:=fun w'=>kp (id:=id) (v:=v) hcl hx w'
 obtain ⟨hk,l1,l2,l3,i1,i2,i3,i4⟩:=hx
 refine Tq15 ?_
 refine ay (fun hc=>?_) (fun hc=>?_)
 ·have hk':k<ts.length:=sHc
  obtain ⟨t,ht⟩:∃ t,t=ts[k]:=⟨_,rfl⟩
  have hd:ts.drop k=t::ts.drop (k+1):=by rw [ht];exact dcq hk'
  have hkl:t.keys.length≤100:=htk t (by rw [ht];exact gMq hk')
  have htg:(ts.map ax).getD k .junk=.agg [.int .i64 t.id,.str t.name,.slice .any 3 (t.keys.map aY),.slice .any 1 (inL t.actions),.int .i64 t.dflt,.slice .any 2 (t.dargs.map vv),.int .i64 t.size,.str t.restr]:=by
   rw [gEq,List.getElem?_map,gQq hk',← ht];rfl
  have hT:∀ n,ltL n ([.int .i64 t.id,.str t.name,.slice .any 3 (t.keys.map aY),.slice .any 1 (inL t.actions),.int .i64 t.dflt,.slice .any 2 (t.dargs.map vv),.int .i64 t.size,.str t.restr]:List AV):=fun n=>ltL_iff.2 fun j hj=>AV.lt_cells (cX t) j hj
  have hclT:∀ w',((j9 H id b v w' a1 a2 a3).push (.cells [.int .i64 t.id,.str t.name,.slice .any 3 (t.keys.map aY),.slice .any 1 (inL t.actions),.int .i64 t.dflt,.slice .any 2 (t.dargs.map vv),.int .i64 t.size,.str t.restr])).Closed:=fun w'=>ah (hclo w') (hT _)
  have hclo2:∀ w' f g,((((j9 H id b v w' a1 a2 a3).push (.cells [.int .i64 t.id,.str t.name,.slice .any 3 (t.keys.map aY),.slice .any 1 (inL t.actions),.int .i64 t.dflt,.slice .any 2 (t.dargs.map vv),.int .i64 t.size,.str t.restr])).push (.cells (bfN t.keys.length f))).push (.cells (bfN t.keys.length g))).Closed:=fun w' f g =>
   ah (ah (hclT w') (by simp [CR])) (by simp [CR])
  have hrn:∀ w',(j9 H id b v w' a1 a2 a3).nx=(H.nx+1+1+1+1+1+1+1+1+1+1):=fun _=>rfl
  simp only [go_sem,j9,yi,rC,yB,htg,iNq,ybb,MG,CM]
  refine Tq3 ?_
  refine aD (A:=Nat) (fun j=>[(0,.ptr id 0),(5,.ptr (H.nx+1+1+1) 0),(6,.ptr (H.nx+1+1+1+1+1+1) 0),(7,.ptr (H.nx+1+1+1+1+1+1+1+1+1) 0),(9,.ptr (H.nx+1+1+1+1+1+1+1+1+1+1) 0),(10,.ms (H.nx+1+1+1+1+1+1+1+1+1+1+1) 0 1 t.keys.length),(11,.ms (H.nx+1+1+1+1+1+1+1+1+1+1+1+1) 0 1 t.keys.length),(30,.slice .any 8 (ts.map ax)),(31,.int .i64 (ts.length:Int)),(32,.int .i64 (k:Int)),(45,.int .i64 (t.keys.length:Int)),(46,.int .i64 (j:Int))]) (fun j=>(((j9 H id b v (w+j) a1 a2 a3).push (.cells [.int .i64 t.id,.str t.name,.slice .any 3 (t.keys.map aY),.slice .any 1 (inL t.actions),.int .i64 t.dflt,.slice .any 2 (t.dargs.map vv),.int .i64 t.size,.str t.restr])).push (.cells (bfN t.keys.length fun i=>decide (i<j)))).push (.cells (bfN t.keys.length fun i=>decide (i<j)&&decide (ci b (w+i) 4 > 0)))) (fun j=>j≤t.keys.length) (fun j=>t.keys.length - j) 0 (by omega) ?_ fun j hj=>?_
  ·simp only [Nat.not_lt_zero,decide_false,Bool.false_and]
   refine ⟨by simp only [zle,hrn,zkq,zkv];omega,lRq _,hclo2 _ _ _,?_,?_⟩
   ·simp [ltF,hrn,znn,znp,znf,zle,zlf,aa cX]
    omega
   ·exact Y14
  refine Tq15 ?_
  refine ay (fun hc2=>?_) (fun hc2=>?_)
  ·have hj':j<t.keys.length:=by simp at hc2;omega
   have e5:IntKind.i64.wrap ((j:Int)+1)=((j+1:Nat):Int):=by rw [wrap_i64]<;>omega
   have hs1:(bfN t.keys.length fun i=>decide (i<j)).set j (.bool true)=bfN t.keys.length fun i=>decide (i<j+1):=DA fun i hi=>by
    by_cases e:i=j
    ·subst e;simp
    ·rw [if_neg e,decide_eq_decide];omega
   have hs2:(bfN t.keys.length fun i=>decide (i<j)&&decide (ci b (w+i) 4 > 0)).set j (.bool (decide (ci b (cp (w+j) 0) 4 > 0)))=bfN t.keys.length fun i=>decide (i<j+1)&&decide (ci b (w+i) 4 > 0):=DA fun i hi=>by
    by_cases e:i=j
    ·subst e;simp [cp]
    ·rw [if_neg e];congr 1;rw [decide_eq_decide];omega
   simp only [bo,aF,bhq,Nat.reduceMod,Nat.reduceDiv,aZ,ba,bf,bD,bc,bC,bz,bB,bA,yaq,yar,yao,yap,go_sem,dq,cV,hgc,dp hb,eu,cO,eN,hne,e4,j9,yi,rC,yB,lAq,ybb,iNq,CM,ld,nzq,Nat.mul_one,hs1,hs2,e5]
   refine Tq3 ?_
   refine ⟨j+1,by omega,by omega,by simp only [zle,hrn,zlf,zkq,zkv];omega,lRq _,hclo2 _ _ _,?_,?_⟩
   ·simp [ltF,hrn,znn,znp,znf,zle,zlf,aa cX]
    omega
   ·exact Y14
  have hj':j=t.keys.length:=by simp at hc2;omega
  subst hj'
  have y1:(bfN t.keys.length fun i=>decide (i<t.keys.length))=boL (List.replicate t.keys.length true):=by
   rw [DJ];congr 1
   apply List.ext_getElem
   ·simp
   ·intro i h1 h2;simp at h1 ⊢;exact h1
  have y2:(bfN t.keys.length fun i=>decide (i<t.keys.length)&&decide (ci b (w+i) 4 > 0))=boL (lY b w t.keys.length):=by
   rw [DJ];congr 1
   unfold lY
   refine List.map_congr_left fun i hi=>?_
   have:=List.mem_range.1 hi
   simp [this]
  rw [y1,y2]
  simp only [bo,aF,bhq,Nat.reduceMod,Nat.reduceDiv,aZ,ba,bf,bD,bc,bC,bz,bB,bA,yaq,yar,yao,yap,go_sem,dq,cV,hgc,dp hb,eu,cO,eN,hne,e4,j9,yi,rC,yB,lAq,ybb]
  refine s7 [(0,.ptr id 0),(5,.ptr (H.nx+1+1+1) 0),(6,.ptr (H.nx+1+1+1+1+1+1) 0),(7,.ptr (H.nx+1+1+1+1+1+1+1+1+1) 0),(9,.ptr (H.nx+1+1+1+1+1+1+1+1+1+1) 0),(10,.slice .any 1 (boL (List.replicate t.keys.length true))),(11,.slice .any 1 (boL (lY b w t.keys.length))),(30,.slice .any 8 (ts.map ax)),(31,.int .i64 (ts.length:Int)),(32,.int .i64 (k:Int))] ((j9 H id b v (w+t.keys.length) a1 a2 a3).push (.cells [.int .i64 t.id,.str t.name,.slice .any 3 (t.keys.map aY),.slice .any 1 (inL t.actions),.int .i64 t.dflt,.slice .any 2 (t.dargs.map vv),.int .i64 t.size,.str t.restr])) ⟨by simp only [zle,hrn,zkq,zkv,jJ];omega,((lRq _).push _).push _,hclT _,?_,?_⟩ ?_
  ·simp [ltF,hrn,znn,znp,znf,zle,zlf,aa cX,Io]
   omega
  ·have yr1:dM 1 t.keys.length (boL (List.replicate t.keys.length true))=boL (List.replicate t.keys.length true):=by
    have:=qJ (List.replicate t.keys.length true)
    rw [List.length_replicate] at this;exact this
   have yr2:dM 1 t.keys.length (boL (lY b w t.keys.length))=boL (lY b w t.keys.length):=by
    have:=qJ (lY b w t.keys.length)
    rw [show (lY b w t.keys.length).length=t.keys.length by simp [lY]] at this;exact this
   have hn1:∀ w' o,((j9 H id b v w' a1 a2 a3).push o).get (H.nx+1+1+1+1+1+1+1+1+1+1+1)=none:=fun w' o=>zmv (by rw [zle,hrn];omega)
   have hn2:∀ w' o,((j9 H id b v w' a1 a2 a3).push o).get (H.nx+1+1+1+1+1+1+1+1+1+1+1+1)=none:=fun w' o=>zmv (by rw [zle,hrn];omega)
   simp only [bn,wk2,wk1,wkM,go_sem,yap,yr1,yr2,hn1,hn2,true_or,or_true,and_self]
  simp only [bo,aF,bhq,Nat.reduceMod,Nat.reduceDiv,aZ,ba,bf,bD,bc,bC,bz,bB,bA,yaq,yar,yao,yap,go_sem,dq,cV,hgc,dp hb,eu,cO,eN,hne,e4,j9,yi,rC,yB,ybb]
  refine Tq3 ?_
  have e5:=Yk5 k
  refine ay (fun h1=>?_) (fun h1=>?_)
  all_goals
   try simp only [bo,aF,bhq,Nat.reduceMod,Nat.reduceDiv,aZ,ba,bf,bD,bc,bC,bz,bB,bA,yaq,yar,yao,yap,go_sem,dq,cV,hgc,dp hb,eu,cO,eN,hne,e4,j9,yi,rC,yB,ybb]
   refine Tq4 ?_
   refine ay (fun h2=>?_) (fun h2=>?_)
  all_goals
   try simp only [bo,aF,bhq,Nat.reduceMod,Nat.reduceDiv,aZ,ba,bf,bD,bc,bC,bz,bB,bA,yaq,yar,yao,yap,go_sem,dq,cV,hgc,dp hb,eu,cO,eN,hne,e4,j9,yi,rC,yB,ybb,e5]
   try (repeat with_reducible refine Yq ?_)
  ·have hp1:(0<cv b (w+t.keys.length) 4)=True:=eq_true (by have h:=of_decide_eq_true h1;simp only [cp,Nat.add_zero] at h;omega)
   have hp2:(cv b (w+(t.keys.length+3)) 2=1)=True:=eq_true (by have h:=of_decide_eq_true h2;unfold cp at h;rw [Nat.add_assoc] at h;exact h)
   rw [hd] at i1 i2 i3 i4
   simp only [fH,hp1,hp2,if_true,if_false,Nat.add_assoc,Nat.reduceAdd] at i1 i2 i3 i4
   have hI:RolI b ts R (k+1) (w+(t.keys.length+6)) (a1++[.agg [.int .i64 t.id,.bool true,.bool true,.slice .any 1 (boL (List.replicate t.keys.length true))]]) (a2++[.agg [.int .i64 t.id,.bool (decide (0<ci b (w+t.keys.length+1) 4)),.bool (decide (cv b (w+t.keys.length+2) 2=1)),.slice .any 1 (boL (lY b w t.keys.length))]]) (a3++[.agg [.int .i64 t.id,.bool (decide (cv b (w+t.keys.length+4) 2=1)),.bool (decide (cv b (w+t.keys.length+5) 2=1)),.slice .any 1 (boL (List.replicate t.keys.length true))]]):=by
    exact Y36
   refine ⟨(_,_,_,_,_),hI,by dsimp only;omega,by simp only [j9,zle,zlf];omega,?_,kp hcl hI _,?_,?_⟩
   ·exact Y75
   ·exact Y111
   ·exact Y14
  ·have hp1:(0<cv b (w+t.keys.length) 4)=True:=eq_true (by have h:=of_decide_eq_true h1;simp only [cp,Nat.add_zero] at h;omega)
   have hp2:(cv b (w+(t.keys.length+3)) 2=1)=False:=eq_false (by have h:=of_decide_eq_false h2;unfold cp at h;rw [Nat.add_assoc] at h;exact h)
   rw [hd] at i1 i2 i3 i4
   simp only [fH,hp1,hp2,if_true,if_false,Nat.add_assoc,Nat.reduceAdd] at i1 i2 i3 i4
   have hI:RolI b ts R (k+1) (w+(t.keys.length+4)) (a1++[.agg [.int .i64 t.id,.bool true,.bool true,.slice .any 1 (boL (List.replicate t.keys.length true))]]) (a2++[.agg [.int .i64 t.id,.bool (decide (0<ci b (w+t.keys.length+1) 4)),.bool (decide (cv b (w+t.keys.length+2) 2=1)),.slice .any 1 (boL (lY b w t.keys.length))]]) (a3):=by
    exact Y36
   refine ⟨(_,_,_,_,_),hI,by dsimp only;omega,by simp only [j9,zle,zlf];omega,?_,kp hcl hI _,?_,?_⟩
   ·exact Y75
   ·exact Y111
   ·exact Y14
  ·have hp1:(0<cv b (w+t.keys.length) 4)=False:=eq_false (by have h:=of_decide_eq_false h1;simp only [cp,Nat.add_zero] at h;omega)
   have hp2:(cv b (w+(t.keys.length+1)) 2=1)=True:=eq_true (by have h:=of_decide_eq_true h2;unfold cp at h;rw [Nat.add_assoc] at h;exact h)
   rw [hd] at i1 i2 i3 i4
   simp only [fH,hp1,hp2,if_true,if_false,Nat.add_assoc,Nat.reduceAdd] at i1 i2 i3 i4
   have hI:RolI b ts R (k+1) (w+(t.keys.length+4)) (a1++[.agg [.int .i64 t.id,.bool true,.bool true,.slice .any 1 (boL (List.replicate t.keys.length true))]]) (a2) (a3++[.agg [.int .i64 t.id,.bool (decide (cv b (w+t.keys.length+2) 2=1)),.bool (decide (cv b (w+t.keys.length+3) 2=1)),.slice .any 1 (boL (List.replicate t.keys.length true))]]):=by
    exact Y36
   refine ⟨(_,_,_,_,_),hI,by dsimp only;omega,by simp only [j9,zle,zlf];omega,?_,kp hcl hI _,?_,?_⟩
   ·exact Y75
   ·exact Y111
   ·exact Y14
  ·have hp1:(0<cv b (w+t.keys.length) 4)=False:=eq_false (by have h:=of_decide_eq_false h1;simp only [cp,Nat.add_zero] at h;omega)
   have hp2:(cv b (w+(t.keys.length+1)) 2=1)=False:=eq_false (by have h:=of_decide_eq_false h2;unfold cp at h;rw [Nat.add_assoc] at h;exact h)
   rw [hd] at i1 i2 i3 i4
   simp only [fH,hp1,hp2,if_true,if_false,Nat.add_assoc,Nat.reduceAdd] at i1 i2 i3 i4
   have hI:RolI b ts R (k+1) (w+(t.keys.length+2)) (a1++[.agg [.int .i64 t.id,.bool true,.bool true,.slice .any 1 (boL (List.replicate t.keys.length true))]]) (a2) (a3):=by
    exact Y36
   refine ⟨(_,_,_,_,_),hI,by dsimp only;omega,by simp only [j9,zle,zlf];omega,?_,kp hcl hI _,?_,?_⟩
   ·exact Y75
   ·exact Y111
   ·exact Y14
 ·have hk':k=ts.length:=sHc
  subst hk'
  simp only [bhq,Nat.reduceMod,Nat.reduceDiv,aZ,ba,bf,bD,bc,bC,bz,bB,bA,yaq,yar,yao,yap,go_sem,j9,yi,rC,yB]
  refine Tq3 ?_
  simp only [List.drop_length,fH,yaf,yaj] at i1 i2 i3 i4
  subst i4
  refine lc 4 res ?_ ?_
  ·rw [← hres]
   simp only [lg,hR]
   simp [Fr.get,aN,inL,i1,i2,i3,cp,AV.cells,mV,eb,d7,eO,iP,eQ,mc,md,lL,wkM,wO]
  simp only [bhq,Nat.reduceMod,Nat.reduceDiv,aZ,ba,bf,bD,bc,bC,bz,bB,bA,yaq,yar,yao,yap,go_sem]
  subst hres
  refine ⟨?_,?_,hcl2 _,aa gQ⟩
  ·simp [wk,wk2,wk1,wkM]
  ·repeat first|exact .refl _|refine .push ?_ _
def v9 (g:List UInt8→Nat→AV × Nat):Prop:=∀ b v,(g b (min v b.length)).1=(g b v).1∧∃ c,(g b (min v b.length)).2=min v b.length+c∧(g b v).2=v+c
def onS (o:Option AObj) (g:List UInt8→Nat→AV × Nat) (K:AV→AObj→Prop):Prop:=onC o fun b v=>K (g b v).1 (iu b (g b v).2)
@[congr] theorem RA {o o':Option AObj} {g:List UInt8→Nat→AV × Nat} {K:AV→AObj→Prop} (h:o=o'):onS o g K=onS o' g K:=by rw [h]
theorem fK {b:List UInt8} {v:Nat} {g:List UInt8→Nat→AV × Nat} {K:AV→AObj→Prop} (hb:b.length≤1000000) (hg:v9 g):onS (some (iu b v)) g K=K (g b v).1 (iu b (g b v).2):=by
 unfold onS
 rw [dp hb]
 obtain ⟨h1,c,h2,h3⟩:=hg b v
 rw [h1,h2,h3,cO]
theorem sB {g:List UInt8→Nat→AV × Nat} {id:Nat} {H:AHeap} {K:AEnd→AHeap→Prop}:eG g [.ptr id 0] H K=onS (H.get id) g fun x o=>K (.ret x) (H.set id o):=(rfl)
def oS:List UInt8→Nat→AV × Nat:=fun b v=>(.slice .any 5 ((dH b v).1.map aB),(dH b v).2)
def nC:List UInt8→Nat→AV × Nat:=fun b v=>(.slice .any 5 ((fZ b v).map ap),v+4)
def pm:List UInt8→Nat→AV × Nat:=fun b v=>(.slice .any 8 ((fy b v).map ax),v+12)
def rm (ts:List STable):List UInt8→Nat→AV × Nat:=fun b v=>(.slice .any 6 ((lg b v ts).1.map aN),(lg b v ts).2)
theorem mh:v9 oS:=fun b v=>by
 have e:dH b (min v b.length)=((dH b v).1,(dH b v).2 - v+min v b.length):=by
  unfold dH
  simp only [ll,eu]
  repeat' split
  all_goals (refine Prod.ext rfl ?_;dsimp only;omega)
 have h:∃ c,(dH b v).2=v+c:=by
  unfold dH
  repeat' split
  all_goals exact ⟨_,rfl⟩
 obtain ⟨c,hc⟩:=h
 unfold oS
 dsimp only
 rw [e]
 exact ⟨rfl,c,by dsimp only;omega,hc⟩
theorem li:v9 nC:=fun b v=>by
 have e:fZ b (min v b.length)=fZ b v:=by unfold fZ ci;simp only [ll,eu]
 unfold nC
 dsimp only
 rw [e]
 exact ⟨rfl,4,rfl,rfl⟩
theorem mi:v9 pm:=fun b v=>by
 have e:fy b (min v b.length)=fy b v:=by unfold fy lJ lB gy gC ci;simp only [ll,eu]
 unfold pm
 dsimp only
 rw [e]
 exact ⟨rfl,12,rfl,rfl⟩
theorem pS {b:List UInt8} {v k n:Nat}:lY b (min v b.length+k) n=lY b (v+k) n:=by
 unfold lY
 refine List.map_congr_left fun i _=>?_
 rw [Nat.add_assoc,Nat.add_assoc]
 unfold ci
 rw [ll]
theorem lM {b:List UInt8} {v:Nat}:∀ (ts:List STable) (k:Nat),(fH b ts (min v b.length+k)).1=(fH b ts (v+k)).1∧∃ c,(fH b ts (min v b.length+k)).2=min v b.length+c∧(fH b ts (v+k)).2=v+c
 |[],k=>⟨rfl,k,rfl,rfl⟩
 |t::ts,k=>by
  have hb:∀ j n,cv b (min v b.length+j) n=cv b (v+j) n:=fun j n=>ll
  by_cases h1:0<cv b (v+(k+t.keys.length)) 4
  ·by_cases h2:cv b (v+(k+t.keys.length+3)) 2=1
   ·obtain ⟨i1,c,i2,i3⟩:=lM ts (k+t.keys.length+3+3)
    simp only [Nat.add_assoc,Nat.reduceAdd] at i1 i2 i3 h1 h2
    simp only [fH,Nat.add_assoc,Nat.reduceAdd,hb,ci,h1,h2,if_true,pS]
    rw [i1]
    exact ⟨rfl,c,i2,i3⟩
   ·obtain ⟨i1,c,i2,i3⟩:=lM ts (k+t.keys.length+3+1)
    exact Y62
  ·by_cases h2:cv b (v+(k+t.keys.length+1)) 2=1
   ·obtain ⟨i1,c,i2,i3⟩:=lM ts (k+t.keys.length+1+3)
    exact Y62
   ·obtain ⟨i1,c,i2,i3⟩:=lM ts (k+t.keys.length+1+1)
    exact Y62
theorem pr (ts:List STable):v9 (rm ts):=fun b v=>by
 obtain ⟨i1,c,i2,i3⟩:=lM (b:=b) (v:=v) ts 4
 unfold rm lg
 dsimp only
 rw [i1]
 unfold ci
 simp only [ll,eu]
 exact ⟨trivial,c,i2,i3⟩
theorem Ei {b:List UInt8} {v:Nat}:(oS b v).1=.slice .any 5 ((dH b v).1.map aB):=(rfl)
theorem Eh {b:List UInt8} {v:Nat}:(oS b v).2=(dH b v).2:=(rfl)
theorem E7 {b:List UInt8} {v:Nat}:(nC b v).1=.slice .any 5 ((fZ b v).map ap):=(rfl)
theorem Fd {b:List UInt8} {v:Nat}:(nC b v).2=cp v 4:=(rfl)
theorem EG {b:List UInt8} {v:Nat}:(pm b v).1=.slice .any 8 ((fy b v).map ax):=(rfl)
theorem Ff {b:List UInt8} {v:Nat}:(pm b v).2=cp v 12:=(rfl)
theorem LI {b:List UInt8} {v:Nat} {ts:List STable}:(rm ts b v).1=.slice .any 6 ((lg b v ts).1.map aN):=(rfl)
theorem LR {b:List UInt8} {v:Nat} {ts:List STable}:(rm ts b v).2=cp (lg b v ts).2 0:=(rfl)
theorem xF {v k n:Nat}:cp (cp v k) n=cp v (k+n):=by unfold cp;omega
theorem tg2 {b:List UInt8} {w:Nat}:(List.map ax (fy b w)).getD 2 .junk=.agg [.int .i64 (gy b w).id,.str (gy b w).name,.slice .any 3 ((gy b w).keys.map aY),.slice .any 1 (inL (gy b w).actions),.int .i64 (gy b w).dflt,.slice .any 2 ((gy b w).dargs.map vv),.int .i64 (gy b w).size,.str (gy b w).restr]:=(rfl)
theorem tg3 {b:List UInt8} {w:Nat}:(List.map ax (fy b w)).getD 3 .junk=.agg [.int .i64 (gC b w).id,.str (gC b w).name,.slice .any 3 ((gC b w).keys.map aY),.slice .any 1 (inL (gC b w).actions),.int .i64 (gC b w).dflt,.slice .any 2 ((gC b w).dargs.map vv),.int .i64 (gC b w).size,.str (gC b w).restr]:=(rfl)
theorem tgl {b:List UInt8} {w:Nat}:(fy b w).length=4:=(rfl)
theorem k2l {b:List UInt8} {w:Nat}:(((gy b w).keys.length:Int)==3)=decide (cv b (cp w 5) 2=1):=by
 by_cases h:cv b (w+5) 2=1<;>simp [gy,cp,h]
theorem k3l {b:List UInt8} {w:Nat}:(((gC b w).keys.length:Int)==3)=decide (cv b (cp w 7) 2=1):=by
 by_cases h:cv b (w+7) 2=1<;>simp [gC,cp,h]
def OC (p:Prop):Bool→Prop|true=>p|false=>¬ p
theorem sg {p:Prop} [Decidable p] {t:Bool} (h:decide p=t):OC p t:=by
 cases t
 ·exact (of_decide_eq_false h:¬ p)
 ·exact (of_decide_eq_true h:p)
theorem HG {id:Nat} {ts:List STable} {H:AHeap} {K:AEnd→AHeap→Prop} (h1:ts.length≤100) (h2:∀ t∈ts,t.keys.length≤100) (h:onS (H.get id) (rm ts) fun x o=>K (.ret x) (H.set id o)) :
 uC [.ptr id 0,.slice .any 8 (ts.map ax)] H K:=⟨ts,⟨rfl,h1,h2⟩,h⟩
def sc:=eG fun b v=>(eJ (lG b v).1,(lG b v).2)
theorem Cp:EEe 10 sc:=by
 unfold sc
 refine Yef fun _ H K h=>?_
 unfold eG at h
 split at h<;>try exact h.elim
 rename_i id
 obtain ⟨b,v,hg,hb,hv,hK⟩:=oB h
 refine ⟨_,_,hK,?_⟩
 clear hK
 dsimp only
 generalize hS:(lG b v).1=S
 generalize hpos:(lG b v).2=pos
 refine Yfw aC (tCq nO (tCq nI (tCq BS (tCq AD (tCq B0 (tCq E9 tNq)))))) Tryz.func10 [.cell 2 34] (nrq _) (T:=aA [(15,[[4]])]) (h:=fun hcl=>?_)
 have hid:=glq hg
 have hne:=tp hid
 have hne2:=tp (show id<H.nx+1+1+1+1+1+1+1+1+1+1+1+1+1+1+1+1 by omega)
 have hgc:=pH (b:=b) hid
 have hcl2:∀ w,(H.set id (iu b w)).Closed:=fun w=>bI hcl m0
 have e8:(8:Int).toNat=8:=rfl
 have e30:(30:Int).toNat=30:=rfl
 have w1:∀ (u n:Nat) (k:Int),0<n→n≤100→0≤k→k≤100→IntKind.i64.wrap (k+((cv b u n:Nat):Int))=k+((cv b u n:Nat):Int):=fun u n k h1 h2 h3 h4=>by
  exact Y127
 have a28:∀ u,IntKind.i64.wrap (2+((cv b u 8:Nat):Int))=2+((cv b u 8:Nat):Int):=fun u=>w1 u 8 2 (by decide) (by decide) (by decide) (by decide)
 have a30:∀ u,IntKind.i64.wrap (12+((cv b u 30:Nat):Int))=12+((cv b u 30:Nat):Int):=fun u=>w1 u 30 12 (by decide) (by decide) (by decide) (by decide)
 have es1:s9=eG oS:=rfl
 have es2:qS=eG nC:=rfl
 have es3:sm=eG pm:=rfl
 simp only [go_sem,bhq,Nat.reduceMod,Nat.reduceDiv,aZ,ba,bf,bD,bc,bC,bz,bB,bA,yaq,yar,yao,yap,dq,cV,es1,es2,es3,sB,fK hb mh,fK hb li,fK hb mi,Ei,Eh,E7,Fd,EG,Ff,xF,hg,hgc,dp hb,eu,cO,eN,hne,hne2,e8,e30,a28,a30]
 refine Tq3 ?_
 refine HG (by simp [fy]) (fun t ht=>?_) ?_
 ·simp only [fy,List.mem_cons,List.not_mem_nil,or_false] at ht
  rcases ht with rfl|rfl|rfl|rfl<;>simp only [lJ,lB,gy,gC]<;>(try split)<;>simp
 simp only [bo,aF,go_sem,bhq,Nat.reduceMod,Nat.reduceDiv,aZ,ba,bf,bD,bc,bC,bz,bB,bA,yaq,yar,yao,yap,dq,cV,es1,es2,es3,sB,fK hb mh,fK hb li,fK hb mi,Ei,Eh,E7,Fd,EG,Ff,xF,hg,hgc,dp hb,eu,cO,eN,hne,hne2,e8,e30,a28,a30,fK hb (pr _),LI,LR,iNq]
 refine ay (fun h1=>?_) (fun h1=>?_)
 all_goals
  simp only [bo,aF,go_sem,bhq,Nat.reduceMod,Nat.reduceDiv,aZ,ba,bf,bD,bc,bC,bz,bB,bA,yaq,yar,yao,yap,dq,cV,es1,es2,es3,sB,fK hb mh,fK hb li,fK hb mi,Ei,Eh,E7,Fd,EG,Ff,xF,hg,hgc,dp hb,eu,cO,eN,hne,hne2,e8,e30,a28,a30,fK hb (pr _),LI,LR,iNq,tg2,tg3,tgl,k2l,k3l]
  refine Tq4 ?_
  refine ay (fun h2=>?_) (fun h2=>?_)
 all_goals
  simp only [bo,aF,go_sem,bhq,Nat.reduceMod,Nat.reduceDiv,aZ,ba,bf,bD,bc,bC,bz,bB,bA,yaq,yar,yao,yap,dq,cV,es1,es2,es3,sB,fK hb mh,fK hb li,fK hb mi,Ei,Eh,E7,Fd,EG,Ff,xF,hg,hgc,dp hb,eu,cO,eN,hne,hne2,e8,e30,a28,a30,fK hb (pr _),LI,LR,iNq,tg2,tg3,tgl,k2l,k3l]
  refine Tq4 ?_
  refine eI (fun h3=>?_) (fun h3=>?_)
 all_goals
  try (repeat with_reducible refine Yq ?_)
  try refine ay (fun h4=>?_) (fun h4=>?_)
 all_goals
  try simp only [bo,aF,go_sem,bhq,Nat.reduceMod,Nat.reduceDiv,aZ,ba,bf,bD,bc,bC,bz,bB,bA,yaq,yar,yao,yap,dq,cV,es1,es2,es3,sB,fK hb mh,fK hb li,fK hb mi,Ei,Eh,E7,Fd,EG,Ff,xF,hg,hgc,dp hb,eu,cO,eN,hne,hne2,e8,e30,a28,a30,fK hb (pr _),LI,LR,iNq,tg2,tg3,tgl,k2l,k3l]
  refine Tq4 ?_
  refine eI (fun h5=>?_) (fun h5=>?_)
 all_goals
  try (repeat with_reducible refine Yq ?_)
  try refine ay (fun h6=>?_) (fun h6=>?_)
 all_goals
  try simp only [bo,aF,go_sem,bhq,Nat.reduceMod,Nat.reduceDiv,aZ,ba,bf,bD,bc,bC,bz,bB,bA,yaq,yar,yao,yap,dq,cV,es1,es2,es3,sB,fK hb mh,fK hb li,fK hb mi,Ei,Eh,E7,Fd,EG,Ff,xF,hg,hgc,dp hb,eu,cO,eN,hne,hne2,e8,e30,a28,a30,fK hb (pr _),LI,LR,iNq,tg2,tg3,tgl,k2l,k3l]
  refine Tq4 ?_
  replace h1:=sg h1
  replace h2:=sg h2
  replace h3:=sg h3
  replace h5:=sg h5
  try replace h4:=sg h4
  try replace h6:=sg h6
  refine lc 101 (.agg (aS S)) ?_ ?_
  ·rw [← hS]
   simp only [OC] at h1 h2 h3 h5
   try simp only [OC] at h4
   try simp only [OC] at h6
   simp [*,Fr.get,aS,lG,gFields,gHeaders,aH,az,aO,bh,inL,AV.cells,mV,eb,d7,eO,iP,eQ,mc,md,lL,wkM,wO]
  simp only [bhq,Nat.reduceMod,Nat.reduceDiv,aZ,ba,bf,bD,bc,bC,bz,bB,bA,yaq,yar,yao,yap,go_sem,aS]
  refine ⟨?_,?_,hcl2 _,sU S⟩
  ·simp [eJ,aS,wk,wk2,wkL,wk1,wkM]
  ·rw [← hpos]
   repeat first|exact .refl _|refine .push ?_ _
theorem aV {α:Type} {f:α→AV} {l:List α} {k:Nat} {x:α} (hx:l[k]?=some x):(l.map f).getD k .junk=f x:=by
 rw [gEq,List.getElem?_map,hx];rfl
end Go.AL
