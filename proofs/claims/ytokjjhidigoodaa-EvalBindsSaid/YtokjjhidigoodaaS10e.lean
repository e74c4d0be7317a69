/- Contracts and plain laws, a part of the proof; no condition of its own. -/
import Derived.Test.YtokjjhidigoodaaS10c
set_option maxHeartbeats 32000000
open List renaming length_cons → yaz, map_cons → yae, drop_succ_cons → yao, drop_zero → yap, getD_cons_zero → yau, length_nil → yba, take_succ_cons → yaq, take_zero → yar, length_map → ybb, map_nil → yaf, append_nil → yaj
open Go Go.AL Go.Proofs
namespace Go.AL
set_option linter.all false
set_option maxRecDepth 10000
def o9:List AV→AHeap→(AEnd→AHeap→Prop)→Prop
 |[.ptr id 0,.slice .any 8 l],H,K=>∃ ts:List STable,(l=ts.map bI∧ts.length≤100∧∀ t∈ts,t.keys.length≤100)∧onC (H.get id) fun b v=>K (.ret (.slice .any 6 ((gk b v ts).1.map eR))) (H.set id (dl b (gk b v ts).2))
 |_,_,_=>False
/-- n truth values -/
def bfN (n:Nat) (f:Nat→Bool):List AV:=(List.range n).map fun i=>.bool (f i)
theorem wz {n:Nat} {f:Nat→Bool}:(bfN n f).length=n:=by simp [bfN]
theorem wB {n:Nat} {f g:Nat→Bool} {i:Nat} {b:Bool} (h:∀ j,j<n→g j=if j=i then b else f j):(bfN n f).set i (.bool b)=bfN n g:=by
 apply List.ext_getElem
 ·simp [bfN]
 ·intro j h1 h2
  have hj:j<n:=by simpa [bfN] using h2
  rw [List.getElem_set]
  simp only [bfN,List.getElem_map,List.getElem_range,h j hj]
  by_cases e:i=j
  ·subst e;simp
  ·rw [if_neg e,if_neg (fun x=>e x.symm)]
theorem CD {n:Nat}:(List.replicate n [AV.bool false]).flatten=bfN n fun _=>false:=by
 induction n with
 |zero=>rfl
 |succ n ih =>
  rw [List.replicate_succ,List.flatten_cons,ih]
  apply List.ext_getElem
  ·simp [bfN]
  ·intro j h1 h2
   cases j<;>simp [bfN]
theorem vZ {n:Nat} {f:Nat→Bool}:bfN n f=boL ((List.range n).map f):=by simp [bfN,boL]
theorem wr {m n:Nat} {f:Nat→Bool}:ltL m (bfN n f)=True:=eq_true (ltL_iff.2 fun j hj=>by
 simp only [bfN,List.getElem_map]
 rw [AV.lt]<;>simp)
theorem kS:∀ (l:List Bool),bv 1 l.length (boL l)=boL l
 |[]=>rfl
 |x::l=>by
  rw [yaz,bv,if_pos rfl]
  have:=kS l
  simp only [boL,yae,yao,yap,yau,ig] at this ⊢
  rw [this]
theorem rX {α:Type} {n:Nat} {f:α→AV} {a c:List AV} {l:List α} (h:a++c=l.map f) (hf:∀ x,AV.lt n (f x)):ltL n a=True:=eq_true (ltL_iff.2 fun j hj=>by
 have:a[j]∈l.map f:=by rw [← h];exact List.mem_append_left _ (List.getElem_mem hj)
 obtain ⟨x,_,e⟩:=List.mem_map.1 this
 rw [← e];exact hf x)
def rZ (i j:Nat) (g:List AV):List AV:=[.int .i64 1,.str [97,108,108],.slice (.own i) 4 g,.slice (.own j) 1 [.int .i64 1,.int .i64 2,.int .i64 3,.int .i64 4,.int .i64 5,.int .i64 6],.int .i64 40,.bool true]
def lq (b:List UInt8) (v i j:Nat) (g:List AV):List AV:=[.int .i64 2,.str [115,111,109,101],.slice (.own i) 4 g,.slice (.own j) 1 [.int .i64 1,.int .i64 2,.int .i64 (3+ci b (cp v 0) 3)],.int .i64 (1+ci b (cp v 1) 6),.bool false]
def qY (b:List UInt8) (v i j:Nat) (g:List AV):List AV:=[.int .i64 7,.str [102,101,119],.slice (.own i) 4 g,.slice (.own j) 1 [.int .i64 (1+ci b (cp v 2) 6)],.int .i64 (ci b (cp v 3) 4),.bool false]
/-- the heap at the head of the loop over the tables -/
def eN (H:AHeap) (id:Nat) (b:List UInt8) (v w:Nat) (a1 a2 a3:List AV):AHeap :=
 (((((((((((H.set id (dl b (cp w 0))).push (.buf 6 0)).push (.buf 1 6)).push (.buf 4 a1.length)).push (.cells (rZ (H.nx+1+1) (H.nx+1) a1))).push (.buf 1 3)).push (.buf 4 a2.length)).push (.cells (lq b v (H.nx+1+1+1+1+1) (H.nx+1+1+1+1) a2))).push (.buf 1 1)).push (.buf 4 a3.length)).push (.cells (qY b v (H.nx+1+1+1+1+1+1+1+1) (H.nx+1+1+1+1+1+1+1) a3)))
/-- what is so at the head of that loop -/
structure RolI (b:List UInt8) (ts:List STable) (R:(List SGrant × List SGrant × List SGrant) × Nat) (k w:Nat) (a1 a2 a3:List AV):Prop where
 le:k≤ts.length
 l1:a1.length≤k
 l2:a2.length≤k
 l3:a3.length≤k
 e1:a1++(cF b (ts.drop k) w).1.1.map cx=R.1.1.map cx
 e2:a2++(cF b (ts.drop k) w).1.2.1.map cx=R.1.2.1.map cx
 e3:a3++(cF b (ts.drop k) w).1.2.2.map cx=R.1.2.2.map cx
 e4:(cF b (ts.drop k) w).2=R.2
theorem eX {H:AHeap} {id:Nat} {b:List UInt8} {ts:List STable} {R:(List SGrant × List SGrant × List SGrant) × Nat} {v k w:Nat} {a1 a2 a3:List AV} (hcl:H.Closed) (h:RolI b ts R k w a1 a2 a3) (w':Nat):(eN H id b v w' a1 a2 a3).Closed:=by
 have q1:=fun n=>rX (n:=n) h.e1 lr
 have q2:=fun n=>rX (n:=n) h.e2 lr
 have q3:=fun n=>rX (n:=n) h.e3 lr
 unfold eN
 repeat' (first|exact ah hcl hO|refine af ?_|refine ae ?_ ?_)
 all_goals simp [rZ,lq,qY,aG,znq,znr,znb,znd,znc,zla,zlb,q1,q2,q3]
 all_goals omega
theorem wY:EntOk Try.prog 26 (Ent.effect o9):=by
 refine EntOk.effect fun args H K h=>?_
 unfold o9 at h
 split at h
 rotate_left
 ·exact h.elim
 rename_i id l
 obtain ⟨ts,⟨rfl,hts,htk⟩,h⟩:=h
 obtain ⟨b,v,hg,hb,hv,hK⟩:=jd h
 refine ⟨_,_,hK,?_⟩
 clear hK
 generalize hres:AV.slice .any 6 ((gk b v ts).1.map eR)=res
 generalize hR:cF b ts (v+4)=R
 have hend:(gk b v ts).2=R.2:=by rw [← hR];rfl
 rw [hend]
 refine ACalls.fW aD (TblOk.cons iG (TblOk.cons iB TblOk.nil)) Try.func26 [.tmp 4] (Nat.le_refl _) (T:=az [(16,[[],[],[],[],[],[],[],[],[5],[],[],[3,5,8],[1,3,5,8],[],[1,3,5,8]]),(18,[[],[],[],[],[],[],[],[5],[],[],[3,5,7],[1,3,5,7],[],[1,3,5,7]]),(1,[[7]]),(2,[[25]]),(3,[[22]]),(14,[[1]]),(20,[[16]])]) (h:=fun hcl hlt=>?_)
 clear hlt
 have hid:=AHeap.get_lt hg
 have hne:=ni hid
 have hgc:=jx (b:=b) hid
 have hcl2:∀ w,(H.set id (dl b w)).Closed:=fun w=>ah hcl hO
 have e2:(2:Int).toNat=2:=rfl
 have e3:(3:Int).toNat=3:=rfl
 have e4:(4:Int).toNat=4:=rfl
 have e6:(6:Int).toNat=6:=rfl
 have w1:∀ (u n:Nat) (k:Int),0<n→n≤100→0≤k→k≤100→IntKind.i64.wrap (k+((cv b u n:Nat):Int))=k+((cv b u n:Nat):Int):=fun u n k h1 h2 h3 h4=>by
  have:=jg (b:=b) (v:=u) (n:=n) h1
  rw [wrap_i64 (by omega) (by omega)]
 have a33:∀ u,IntKind.i64.wrap (3+((cv b u 3:Nat):Int))=3+((cv b u 3:Nat):Int):=fun u=>w1 u 3 3 (by decide) (by decide) (by decide) (by decide)
 have a16:∀ u,IntKind.i64.wrap (1+((cv b u 6:Nat):Int))=1+((cv b u 6:Nat):Int):=fun u=>w1 u 6 1 (by decide) (by decide) (by decide) (by decide)
 simp only [go_sem,bhq,Nat.reduceMod,Nat.reduceDiv,aM,aL,aO,bE,aN,bD,bz,bB,bA,yaq,yar,yao,yap,bj,bb,hg,hgc,bk hb,bH,aU,bU,hne,e2,e3,e4,e6,a33,a16]
 refine lK 14 2 4 _ rfl rfl ?_
 simp only [go_sem,bhq,Nat.reduceMod,Nat.reduceDiv,aM,aL,aO,bE,aN,bD,bz,bB,bA,yaq,yar,yao,yap,bj,bb,hg,hgc,bk hb,bH,aU,bU,hne,e2,e3,e4,e6,a33,a16,List.set_cons_succ,List.set_cons_zero]
 (repeat with_reducible refine And.intro (by first|exact True.intro|decide|omega|(simp [zim,zgm,zgn,zgo,zgq,zgp,zgu];first|done|omega)) ?_)
 refine lK 22 2 4 _ rfl rfl ?_
 simp only [go_sem,bhq,Nat.reduceMod,Nat.reduceDiv,aM,aL,aO,bE,aN,bD,bz,bB,bA,yaq,yar,yao,yap,bj,bb,hg,hgc,bk hb,bH,aU,bU,hne,e2,e3,e4,e6,a33,a16,List.set_cons_succ,List.set_cons_zero]
 (repeat with_reducible refine And.intro (by first|exact True.intro|decide|omega|(simp [zim,zgm,zgn,zgo,zgq,zgp,zgu];first|done|omega)) ?_)
 refine lK 29 2 4 _ rfl rfl ?_
 simp only [go_sem,bhq,Nat.reduceMod,Nat.reduceDiv,aM,aL,aO,bE,aN,bD,bz,bB,bA,yaq,yar,yao,yap,bj,bb,hg,hgc,bk hb,bH,aU,bU,hne,e2,e3,e4,e6,a33,a16,List.set_cons_succ,List.set_cons_zero]
 refine aB (A:=Nat × Nat × List AV × List AV × List AV) (fun x=>[(0,.ptr id 0),(5,.ptr (H.nx+1+1+1) 0),(6,.ptr (H.nx+1+1+1+1+1+1) 0),(7,.ptr (H.nx+1+1+1+1+1+1+1+1+1) 0),(30,.slice .any 8 (ts.map bI)),(31,.int .i64 (ts.length:Int)),(32,.int .i64 (x.1:Int))]) (fun x=>eN H id b v x.2.1 x.2.2.1 x.2.2.2.1 x.2.2.2.2) (fun x=>RolI b ts R x.1 x.2.1 x.2.2.1 x.2.2.2.1 x.2.2.2.2) (fun x=>ts.length - x.1) (0,v+4,[],[],[]) ⟨by omega,by simp,by simp,by simp,by rw [← hR];rfl,by rw [← hR];rfl,by rw [← hR];rfl,by rw [← hR];rfl⟩ ?_ fun x hx=>?_
 ·refine ⟨by simp only [eN,zla,zlb,zkm,zkr];omega,AHeap.Le.refl _,eX (ts:=ts) (R:=R) (k:=0) (w:=v+4) hcl ⟨by omega,by simp,by simp,by simp,by rw [← hR];rfl,by rw [← hR];rfl,by rw [← hR];rfl,by rw [← hR];rfl⟩ _,?_,?_⟩
  ·simp [ltF,eN,znj,znb,zla,zlb,aY cC]
   omega
  ·simp [aI,wk2,wk1,wkM,Fr.get]
 obtain ⟨k,w,a1,a2,a3⟩:=x
 dsimp only at hx ⊢
 have hclo:=fun w'=>eX (id:=id) (v:=v) hcl hx w'
 obtain ⟨hk,l1,l2,l3,i1,i2,i3,i4⟩:=hx
 simp only [go_sem]
 refine ax (fun hc=>?_) (fun hc=>?_)
 ·have hk':k<ts.length:=by simp at hc;omega
  obtain ⟨t,ht⟩:∃ t,t=ts[k]:=⟨_,rfl⟩
  have hd:ts.drop k=t::ts.drop (k+1):=by rw [ht];exact List.drop_eq_getElem_cons hk'
  have hkl:t.keys.length≤100:=htk t (by rw [ht];exact List.getElem_mem hk')
  have htg:(ts.map bI).getD k .junk=.agg [.int .i64 t.id,.str t.name,.slice .any 3 (t.keys.map cg),.slice .any 1 (inL t.actions),.int .i64 t.dflt,.slice .any 2 (t.dargs.map vv),.int .i64 t.size,.str t.restr]:=by
   rw [List.getD_eq_getElem?_getD,List.getElem?_map,List.getElem?_eq_getElem hk',← ht];rfl
  have hT:∀ n,ltL n ([.int .i64 t.id,.str t.name,.slice .any 3 (t.keys.map cg),.slice .any 1 (inL t.actions),.int .i64 t.dflt,.slice .any 2 (t.dargs.map vv),.int .i64 t.size,.str t.restr]:List AV):=fun n=>ltL_iff.2 fun j hj=>AV.lt_cells (cC t) j hj
  have hclT:∀ w',((eN H id b v w' a1 a2 a3).push (.cells [.int .i64 t.id,.str t.name,.slice .any 3 (t.keys.map cg),.slice .any 1 (inL t.actions),.int .i64 t.dflt,.slice .any 2 (t.dargs.map vv),.int .i64 t.size,.str t.restr])).Closed:=fun w'=>ae (hclo w') (hT _)
  have hclo2:∀ w' f g,((((eN H id b v w' a1 a2 a3).push (.cells [.int .i64 t.id,.str t.name,.slice .any 3 (t.keys.map cg),.slice .any 1 (inL t.actions),.int .i64 t.dflt,.slice .any 2 (t.dargs.map vv),.int .i64 t.size,.str t.restr])).push (.cells (bfN t.keys.length f))).push (.cells (bfN t.keys.length g))).Closed:=fun w' f g =>
   ae (ae (hclT w') (by simp [wr])) (by simp [wr])
  have hrn:∀ w',(eN H id b v w' a1 a2 a3).nx=(H.nx+1+1+1+1+1+1+1+1+1+1):=fun _=>rfl
  simp only [go_sem,eN,rZ,lq,qY,htg,Int.toNat_natCast,ybb,CD,wz]
  (repeat with_reducible refine And.intro (by first|exact True.intro|decide|omega|(simp [zim,zgm,zgn,zgo,zgq,zgp,zgu];first|done|omega)) ?_)
  refine aB (A:=Nat) (fun j=>[(0,.ptr id 0),(5,.ptr (H.nx+1+1+1) 0),(6,.ptr (H.nx+1+1+1+1+1+1) 0),(7,.ptr (H.nx+1+1+1+1+1+1+1+1+1) 0),(9,.ptr (H.nx+1+1+1+1+1+1+1+1+1+1) 0),(10,.ms (H.nx+1+1+1+1+1+1+1+1+1+1+1) 0 1 t.keys.length),(11,.ms (H.nx+1+1+1+1+1+1+1+1+1+1+1+1) 0 1 t.keys.length),(30,.slice .any 8 (ts.map bI)),(31,.int .i64 (ts.length:Int)),(32,.int .i64 (k:Int)),(45,.int .i64 (t.keys.length:Int)),(46,.int .i64 (j:Int))]) (fun j=>(((eN H id b v (w+j) a1 a2 a3).push (.cells [.int .i64 t.id,.str t.name,.slice .any 3 (t.keys.map cg),.slice .any 1 (inL t.actions),.int .i64 t.dflt,.slice .any 2 (t.dargs.map vv),.int .i64 t.size,.str t.restr])).push (.cells (bfN t.keys.length fun i=>decide (i<j)))).push (.cells (bfN t.keys.length fun i=>decide (i<j)&&decide (ci b (w+i) 4 > 0)))) (fun j=>j≤t.keys.length) (fun j=>t.keys.length - j) 0 (by omega) ?_ fun j hj=>?_
  ·simp only [Nat.not_lt_zero,decide_false,Bool.false_and]
   refine ⟨by simp only [zla,hrn,zkm,zkr];omega,AHeap.Le.refl _,hclo2 _ _ _,?_,?_⟩
   ·simp [ltF,hrn,znj,znl,znb,zla,zlb,aY cC]
    omega
   ·simp [aI,wk2,wk1,wkM,Fr.get]
  simp only [go_sem]
  refine ax (fun hc2=>?_) (fun hc2=>?_)
  ·have hj':j<t.keys.length:=by simp at hc2;omega
   have e5:IntKind.i64.wrap ((j:Int)+1)=((j+1:Nat):Int):=by rw [wrap_i64]<;>omega
   have hs1:(bfN t.keys.length fun i=>decide (i<j)).set j (.bool true)=bfN t.keys.length fun i=>decide (i<j+1):=wB fun i hi=>by
    by_cases e:i=j
    ·subst e;simp
    ·rw [if_neg e,decide_eq_decide];omega
   have hs2:(bfN t.keys.length fun i=>decide (i<j)&&decide (ci b (w+i) 4 > 0)).set j (.bool (decide (ci b (cp (w+j) 0) 4 > 0)))=bfN t.keys.length fun i=>decide (i<j+1)&&decide (ci b (w+i) 4 > 0):=wB fun i hi=>by
    by_cases e:i=j
    ·subst e;simp [cp]
    ·rw [if_neg e];congr 1;rw [decide_eq_decide];omega
   simp only [cb,bM,bhq,Nat.reduceMod,Nat.reduceDiv,aM,aL,aO,bE,aN,bD,bz,bB,bA,yaq,yar,yao,yap,go_sem,bj,bb,hgc,bk hb,bH,aU,bU,hne,e4,eN,rZ,lq,qY,List.length_append,ybb,Int.toNat_natCast,wz,kV,Nat.zero_add,Nat.mul_one,hs1,hs2,e5]
   (repeat with_reducible refine And.intro (by first|exact True.intro|decide|omega|(simp [zim,zgm,zgn,zgo,zgq,zgp,zgu];first|done|omega)) ?_)
   refine ⟨j+1,by omega,by omega,by simp only [zla,hrn,zlb,zkm,zkr];omega,AHeap.Le.refl _,hclo2 _ _ _,?_,?_⟩
   ·simp [ltF,hrn,znj,znl,znb,zla,zlb,aY cC]
    omega
   ·simp [aI,wk2,wk1,wkM,Fr.get]
  have hj':j=t.keys.length:=by simp at hc2;omega
  subst hj'
  have y1:(bfN t.keys.length fun i=>decide (i<t.keys.length))=boL (List.replicate t.keys.length true):=by
   rw [vZ];congr 1
   apply List.ext_getElem
   ·simp
   ·intro i h1 h2;simp at h1 ⊢;exact h1
  have y2:(bfN t.keys.length fun i=>decide (i<t.keys.length)&&decide (ci b (w+i) 4 > 0))=boL (gY b w t.keys.length):=by
   rw [vZ];congr 1
   unfold gY
   refine List.map_congr_left fun i hi=>?_
   have:=List.mem_range.1 hi
   simp [this]
  rw [y1,y2]
  simp only [cb,bM,bhq,Nat.reduceMod,Nat.reduceDiv,aM,aL,aO,bE,aN,bD,bz,bB,bA,yaq,yar,yao,yap,go_sem,bj,bb,hgc,bk hb,bH,aU,bU,hne,e4,eN,rZ,lq,qY,List.length_append,ybb]
  refine me [(0,.ptr id 0),(5,.ptr (H.nx+1+1+1) 0),(6,.ptr (H.nx+1+1+1+1+1+1) 0),(7,.ptr (H.nx+1+1+1+1+1+1+1+1+1) 0),(9,.ptr (H.nx+1+1+1+1+1+1+1+1+1+1) 0),(10,.slice .any 1 (boL (List.replicate t.keys.length true))),(11,.slice .any 1 (boL (gY b w t.keys.length))),(30,.slice .any 8 (ts.map bI)),(31,.int .i64 (ts.length:Int)),(32,.int .i64 (k:Int))] ((eN H id b v (w+t.keys.length) a1 a2 a3).push (.cells [.int .i64 t.id,.str t.name,.slice .any 3 (t.keys.map cg),.slice .any 1 (inL t.actions),.int .i64 t.dflt,.slice .any 2 (t.dargs.map vv),.int .i64 t.size,.str t.restr])) ⟨by simp only [zla,hrn,zkm,zkr,eI];omega,((AHeap.Le.refl _).push _).push _,hclT _,?_,?_⟩ ?_
  ·simp [ltF,hrn,znj,znl,znb,zla,zlb,aY cC,Az]
   omega
  ·have yr1:bv 1 t.keys.length (boL (List.replicate t.keys.length true))=boL (List.replicate t.keys.length true):=by
    have:=kS (List.replicate t.keys.length true)
    rw [List.length_replicate] at this;exact this
   have yr2:bv 1 t.keys.length (boL (gY b w t.keys.length))=boL (gY b w t.keys.length):=by
    have:=kS (gY b w t.keys.length)
    rw [show (gY b w t.keys.length).length=t.keys.length by simp [gY]] at this;exact this
   have hn1:∀ w' o,((eN H id b v w' a1 a2 a3).push o).get (H.nx+1+1+1+1+1+1+1+1+1+1+1)=none:=fun w' o=>zmr (by rw [zla,hrn];omega)
   have hn2:∀ w' o,((eN H id b v w' a1 a2 a3).push o).get (H.nx+1+1+1+1+1+1+1+1+1+1+1+1)=none:=fun w' o=>zmr (by rw [zla,hrn];omega)
   simp only [aI,wk2,wk1,wkM,go_sem,yap,yr1,yr2,hn1,hn2,true_or,or_true,and_self]
  simp only [cb,bM,bhq,Nat.reduceMod,Nat.reduceDiv,aM,aL,aO,bE,aN,bD,bz,bB,bA,yaq,yar,yao,yap,go_sem,bj,bb,hgc,bk hb,bH,aU,bU,hne,e4,eN,rZ,lq,qY,ybb]
  (repeat with_reducible refine And.intro (by first|exact True.intro|decide|omega|(simp [zim,zgm,zgn,zgo,zgq,zgp,zgu];first|done|omega)) ?_)
  have e5:IntKind.i64.wrap ((k:Int)+1)=((k+1:Nat):Int):=by rw [wrap_i64]<;>omega
  refine ax (fun h1=>?_) (fun h1=>?_)
  all_goals
   try simp only [cb,bM,bhq,Nat.reduceMod,Nat.reduceDiv,aM,aL,aO,bE,aN,bD,bz,bB,bA,yaq,yar,yao,yap,go_sem,bj,bb,hgc,bk hb,bH,aU,bU,hne,e4,eN,rZ,lq,qY,ybb]
   try (repeat with_reducible refine And.intro (by first|exact True.intro|decide|omega|(simp [zim,zgm,zgn,zgo,zgq,zgp,zgu];first|done|omega)) ?_)
   refine ax (fun h2=>?_) (fun h2=>?_)
  all_goals
   try simp only [cb,bM,bhq,Nat.reduceMod,Nat.reduceDiv,aM,aL,aO,bE,aN,bD,bz,bB,bA,yaq,yar,yao,yap,go_sem,bj,bb,hgc,bk hb,bH,aU,bU,hne,e4,eN,rZ,lq,qY,ybb,e5]
   try (repeat with_reducible refine And.intro (by first|exact True.intro|decide|omega|(simp [zim,zgm,zgn,zgo,zgq,zgp,zgu];first|done|omega)) ?_)
  ·have hp1:(0<cv b (w+t.keys.length) 4)=True:=eq_true (by have h:=of_decide_eq_true h1;simp only [cp,Nat.add_zero] at h;omega)
   have hp2:(cv b (w+(t.keys.length+3)) 2=1)=True:=eq_true (by have h:=of_decide_eq_true h2;unfold cp at h;rw [Nat.add_assoc] at h;exact h)
   rw [hd] at i1 i2 i3 i4
   simp only [cF,hp1,hp2,if_true,if_false,Nat.add_assoc,Nat.reduceAdd] at i1 i2 i3 i4
   have hI:RolI b ts R (k+1) (w+(t.keys.length+6)) (a1++[.agg [.int .i64 t.id,.bool true,.bool true,.slice .any 1 (boL (List.replicate t.keys.length true))]]) (a2++[.agg [.int .i64 t.id,.bool (decide (0<ci b (w+t.keys.length+1) 4)),.bool (decide (cv b (w+t.keys.length+2) 2=1)),.slice .any 1 (boL (gY b w t.keys.length))]]) (a3++[.agg [.int .i64 t.id,.bool (decide (cv b (w+t.keys.length+4) 2=1)),.bool (decide (cv b (w+t.keys.length+5) 2=1)),.slice .any 1 (boL (List.replicate t.keys.length true))]]):=by
    refine ⟨by omega,by (try simp only [List.length_append,yaz,yba]);omega,by (try simp only [List.length_append,yaz,yba]);omega,by (try simp only [List.length_append,yaz,yba]);omega,?_,?_,?_,i4⟩
    ·simpa [cx,Nat.add_assoc] using i1
    ·simpa [cx,Nat.add_assoc] using i2
    ·simpa [cx,Nat.add_assoc] using i3
   refine ⟨(_,_,_,_,_),hI,by dsimp only;omega,by simp only [eN,zla,zlb];omega,?_,eX hcl hI _,?_,?_⟩
   ·simp only [eN,List.length_append,yaz,yba]
    repeat first|exact .refl _|refine .push ?_ _
   ·simp [ltF,eN,znj,znb,zla,zlb,aY cC]
    omega
   ·simp [aI,wk2,wk1,wkM,Fr.get]
  ·have hp1:(0<cv b (w+t.keys.length) 4)=True:=eq_true (by have h:=of_decide_eq_true h1;simp only [cp,Nat.add_zero] at h;omega)
   have hp2:(cv b (w+(t.keys.length+3)) 2=1)=False:=eq_false (by have h:=of_decide_eq_false h2;unfold cp at h;rw [Nat.add_assoc] at h;exact h)
   rw [hd] at i1 i2 i3 i4
   simp only [cF,hp1,hp2,if_true,if_false,Nat.add_assoc,Nat.reduceAdd] at i1 i2 i3 i4
   have hI:RolI b ts R (k+1) (w+(t.keys.length+4)) (a1++[.agg [.int .i64 t.id,.bool true,.bool true,.slice .any 1 (boL (List.replicate t.keys.length true))]]) (a2++[.agg [.int .i64 t.id,.bool (decide (0<ci b (w+t.keys.length+1) 4)),.bool (decide (cv b (w+t.keys.length+2) 2=1)),.slice .any 1 (boL (gY b w t.keys.length))]]) (a3):=by
    refine ⟨by omega,by (try simp only [List.length_append,yaz,yba]);omega,by (try simp only [List.length_append,yaz,yba]);omega,by (try simp only [List.length_append,yaz,yba]);omega,?_,?_,?_,i4⟩
    ·simpa [cx,Nat.add_assoc] using i1
    ·simpa [cx,Nat.add_assoc] using i2
    ·simpa [cx,Nat.add_assoc] using i3
   refine ⟨(_,_,_,_,_),hI,by dsimp only;omega,by simp only [eN,zla,zlb];omega,?_,eX hcl hI _,?_,?_⟩
   ·simp only [eN,List.length_append,yaz,yba]
    repeat first|exact .refl _|refine .push ?_ _
   ·simp [ltF,eN,znj,znb,zla,zlb,aY cC]
    omega
   ·simp [aI,wk2,wk1,wkM,Fr.get]
  ·have hp1:(0<cv b (w+t.keys.length) 4)=False:=eq_false (by have h:=of_decide_eq_false h1;simp only [cp,Nat.add_zero] at h;omega)
   have hp2:(cv b (w+(t.keys.length+1)) 2=1)=True:=eq_true (by have h:=of_decide_eq_true h2;unfold cp at h;rw [Nat.add_assoc] at h;exact h)
   rw [hd] at i1 i2 i3 i4
   simp only [cF,hp1,hp2,if_true,if_false,Nat.add_assoc,Nat.reduceAdd] at i1 i2 i3 i4
   have hI:RolI b ts R (k+1) (w+(t.keys.length+4)) (a1++[.agg [.int .i64 t.id,.bool true,.bool true,.slice .any 1 (boL (List.replicate t.keys.length true))]]) (a2) (a3++[.agg [.int .i64 t.id,.bool (decide (cv b (w+t.keys.length+2) 2=1)),.bool (decide (cv b (w+t.keys.length+3) 2=1)),.slice .any 1 (boL (List.replicate t.keys.length true))]]):=by
    refine ⟨by omega,by (try simp only [List.length_append,yaz,yba]);omega,by (try simp only [List.length_append,yaz,yba]);omega,by (try simp only [List.length_append,yaz,yba]);omega,?_,?_,?_,i4⟩
    ·simpa [cx,Nat.add_assoc] using i1
    ·simpa [cx,Nat.add_assoc] using i2
    ·simpa [cx,Nat.add_assoc] using i3
   refine ⟨(_,_,_,_,_),hI,by dsimp only;omega,by simp only [eN,zla,zlb];omega,?_,eX hcl hI _,?_,?_⟩
   ·simp only [eN,List.length_append,yaz,yba]
    repeat first|exact .refl _|refine .push ?_ _
   ·simp [ltF,eN,znj,znb,zla,zlb,aY cC]
    omega
   ·simp [aI,wk2,wk1,wkM,Fr.get]
  ·have hp1:(0<cv b (w+t.keys.length) 4)=False:=eq_false (by have h:=of_decide_eq_false h1;simp only [cp,Nat.add_zero] at h;omega)
   have hp2:(cv b (w+(t.keys.length+1)) 2=1)=False:=eq_false (by have h:=of_decide_eq_false h2;unfold cp at h;rw [Nat.add_assoc] at h;exact h)
   rw [hd] at i1 i2 i3 i4
   simp only [cF,hp1,hp2,if_true,if_false,Nat.add_assoc,Nat.reduceAdd] at i1 i2 i3 i4
   have hI:RolI b ts R (k+1) (w+(t.keys.length+2)) (a1++[.agg [.int .i64 t.id,.bool true,.bool true,.slice .any 1 (boL (List.replicate t.keys.length true))]]) (a2) (a3):=by
    refine ⟨by omega,by (try simp only [List.length_append,yaz,yba]);omega,by (try simp only [List.length_append,yaz,yba]);omega,by (try simp only [List.length_append,yaz,yba]);omega,?_,?_,?_,i4⟩
    ·simpa [cx,Nat.add_assoc] using i1
    ·simpa [cx,Nat.add_assoc] using i2
    ·simpa [cx,Nat.add_assoc] using i3
   refine ⟨(_,_,_,_,_),hI,by dsimp only;omega,by simp only [eN,zla,zlb];omega,?_,eX hcl hI _,?_,?_⟩
   ·simp only [eN,List.length_append,yaz,yba]
    repeat first|exact .refl _|refine .push ?_ _
   ·simp [ltF,eN,znj,znb,zla,zlb,aY cC]
    omega
   ·simp [aI,wk2,wk1,wkM,Fr.get]
 ·have hk':k=ts.length:=by simp at hc;omega
  subst hk'
  simp only [bhq,Nat.reduceMod,Nat.reduceDiv,aM,aL,aO,bE,aN,bD,bz,bB,bA,yaq,yar,yao,yap,go_sem,eN,rZ,lq,qY]
  (repeat with_reducible refine And.intro (by first|exact True.intro|decide|omega|(simp [zim,zgm,zgn,zgo,zgq,zgp,zgu];first|done|omega)) ?_)
  simp only [List.drop_length,cF,yaf,yaj] at i1 i2 i3 i4
  subst i4
  refine fI 4 res ?_ ?_
  ·rw [← hres]
   simp only [gk,hR]
   simp [Fr.get,eR,inL,i1,i2,i3,cp,AV.cells,hY,bG,bF,ca,dK,bZ,gt,gz,fV,wkM,qA]
  simp only [bhq,Nat.reduceMod,Nat.reduceDiv,aM,aL,aO,bE,aN,bD,bz,bB,bA,yaq,yar,yao,yap,go_sem]
  subst hres
  refine ⟨?_,?_,hcl2 _,aY kb⟩
  ·simp [wk,wk2,wk1,wkM]
  ·repeat first|exact .refl _|refine .push ?_ _
end Go.AL
open Go Go.AL Go.Proofs
namespace Go.AL
set_option linter.all false
set_option maxRecDepth 10000
/-- what a function takes from the choices does not depend on the place behind their end -/
def oN (g:List UInt8→Nat→AV × Nat):Prop:=∀ b v,(g b (min v b.length)).1=(g b v).1∧∃ c,(g b (min v b.length)).2=min v b.length+c∧(g b v).2=v+c
def onS (o:Option AObj) (g:List UInt8→Nat→AV × Nat) (K:AV→AObj→Prop):Prop:=onC o fun b v=>K (g b v).1 (dl b (g b v).2)
@[congr] theorem DR {o o':Option AObj} {g:List UInt8→Nat→AV × Nat} {K:AV→AObj→Prop} (h:o=o'):onS o g K=onS o' g K:=by rw [h]
theorem co {b:List UInt8} {v:Nat} {g:List UInt8→Nat→AV × Nat} {K:AV→AObj→Prop} (hb:b.length≤1000000) (hg:oN g):onS (some (dl b v)) g K=K (g b v).1 (dl b (g b v).2):=by
 unfold onS
 rw [bk hb]
 obtain ⟨h1,c,h2,h3⟩:=hg b v
 rw [h1,h2,h3,aU]
theorem mf {g:List UInt8→Nat→AV × Nat} {id:Nat} {H:AHeap} {K:AEnd→AHeap→Prop}:eG g [.ptr id 0] H K=onS (H.get id) g fun x o=>K (.ret x) (H.set id o):=(rfl)
def jN:List UInt8→Nat→AV × Nat:=fun b v=>(.slice .any 5 ((bu b v).1.map cy),(bu b v).2)
def iL:List UInt8→Nat→AV × Nat:=fun b v=>(.slice .any 5 ((cl b v).map bW),v+4)
def jq:List UInt8→Nat→AV × Nat:=fun b v=>(.slice .any 8 ((ce b v).map bI),v+12)
def lG (ts:List STable):List UInt8→Nat→AV × Nat:=fun b v=>(.slice .any 6 ((gk b v ts).1.map eR),(gk b v ts).2)
theorem gC:oN jN:=fun b v=>by
 have e:bu b (min v b.length)=((bu b v).1,(bu b v).2 - v+min v b.length):=by
  unfold bu
  simp only [fD,bH]
  repeat' split
  all_goals (refine Prod.ext rfl ?_;dsimp only;omega)
 have h:∃ c,(bu b v).2=v+c:=by
  unfold bu
  repeat' split
  all_goals exact ⟨_,rfl⟩
 obtain ⟨c,hc⟩:=h
 unfold jN
 dsimp only
 rw [e]
 exact ⟨rfl,c,by dsimp only;omega,hc⟩
theorem fC:oN iL:=fun b v=>by
 have e:cl b (min v b.length)=cl b v:=by unfold cl ci;simp only [fD,bH]
 unfold iL
 dsimp only
 rw [e]
 exact ⟨rfl,4,rfl,rfl⟩
theorem gF:oN jq:=fun b v=>by
 have e:ce b (min v b.length)=ce b v:=by unfold ce kl nY dO dT ci;simp only [fD,bH]
 unfold jq
 dsimp only
 rw [e]
 exact ⟨rfl,12,rfl,rfl⟩
theorem ki {b:List UInt8} {v k n:Nat}:gY b (min v b.length+k) n=gY b (v+k) n:=by
 unfold gY
 refine List.map_congr_left fun i _=>?_
 rw [Nat.add_assoc,Nat.add_assoc]
 unfold ci
 rw [fD]
theorem ge {b:List UInt8} {v:Nat}:∀ (ts:List STable) (k:Nat),(cF b ts (min v b.length+k)).1=(cF b ts (v+k)).1∧∃ c,(cF b ts (min v b.length+k)).2=min v b.length+c∧(cF b ts (v+k)).2=v+c
 |[],k=>⟨rfl,k,rfl,rfl⟩
 |t::ts,k=>by
  have hb:∀ j n,cv b (min v b.length+j) n=cv b (v+j) n:=fun j n=>fD
  by_cases h1:0<cv b (v+(k+t.keys.length)) 4
  ·by_cases h2:cv b (v+(k+t.keys.length+3)) 2=1
   ·obtain ⟨i1,c,i2,i3⟩:=ge ts (k+t.keys.length+3+3)
    simp only [Nat.add_assoc,Nat.reduceAdd] at i1 i2 i3 h1 h2
    simp only [cF,Nat.add_assoc,Nat.reduceAdd,hb,ci,h1,h2,if_true,ki]
    rw [i1]
    exact ⟨rfl,c,i2,i3⟩
   ·obtain ⟨i1,c,i2,i3⟩:=ge ts (k+t.keys.length+3+1)
    simp only [Nat.add_assoc,Nat.reduceAdd] at i1 i2 i3 h1 h2
    simp only [cF,Nat.add_assoc,Nat.reduceAdd,hb,ci,h1,h2,if_true,if_false,ki]
    rw [i1]
    exact ⟨rfl,c,i2,i3⟩
  ·by_cases h2:cv b (v+(k+t.keys.length+1)) 2=1
   ·obtain ⟨i1,c,i2,i3⟩:=ge ts (k+t.keys.length+1+3)
    simp only [Nat.add_assoc,Nat.reduceAdd] at i1 i2 i3 h1 h2
    simp only [cF,Nat.add_assoc,Nat.reduceAdd,hb,ci,h1,h2,if_true,if_false,ki]
    rw [i1]
    exact ⟨rfl,c,i2,i3⟩
   ·obtain ⟨i1,c,i2,i3⟩:=ge ts (k+t.keys.length+1+1)
    simp only [Nat.add_assoc,Nat.reduceAdd] at i1 i2 i3 h1 h2
    simp only [cF,Nat.add_assoc,Nat.reduceAdd,hb,ci,h1,h2,if_true,if_false,ki]
    rw [i1]
    exact ⟨rfl,c,i2,i3⟩
theorem jy (ts:List STable):oN (lG ts):=fun b v=>by
 obtain ⟨i1,c,i2,i3⟩:=ge (b:=b) (v:=v) ts 4
 unfold lG gk
 dsimp only
 rw [i1]
 unfold ci
 simp only [fD,bH]
 exact ⟨trivial,c,i2,i3⟩
theorem xN {b:List UInt8} {v:Nat}:(jN b v).1=.slice .any 5 ((bu b v).1.map cy):=(rfl)
theorem w7 {b:List UInt8} {v:Nat}:(jN b v).2=(bu b v).2:=(rfl)
theorem yc {b:List UInt8} {v:Nat}:(iL b v).1=.slice .any 5 ((cl b v).map bW):=(rfl)
theorem yk {b:List UInt8} {v:Nat}:(iL b v).2=cp v 4:=(rfl)
theorem yz {b:List UInt8} {v:Nat}:(jq b v).1=.slice .any 8 ((ce b v).map bI):=(rfl)
theorem wI {b:List UInt8} {v:Nat}:(jq b v).2=cp v 12:=(rfl)
theorem zI {b:List UInt8} {v:Nat} {ts:List STable}:(lG ts b v).1=.slice .any 6 ((gk b v ts).1.map eR):=(rfl)
theorem AP {b:List UInt8} {v:Nat} {ts:List STable}:(lG ts b v).2=cp (gk b v ts).2 0:=(rfl)
theorem qO {v k n:Nat}:cp (cp v k) n=cp v (k+n):=by unfold cp;omega
theorem tg2 {b:List UInt8} {w:Nat}:(List.map bI (ce b w)).getD 2 .junk=.agg [.int .i64 (dO b w).id,.str (dO b w).name,.slice .any 3 ((dO b w).keys.map cg),.slice .any 1 (inL (dO b w).actions),.int .i64 (dO b w).dflt,.slice .any 2 ((dO b w).dargs.map vv),.int .i64 (dO b w).size,.str (dO b w).restr]:=(rfl)
theorem tg3 {b:List UInt8} {w:Nat}:(List.map bI (ce b w)).getD 3 .junk=.agg [.int .i64 (dT b w).id,.str (dT b w).name,.slice .any 3 ((dT b w).keys.map cg),.slice .any 1 (inL (dT b w).actions),.int .i64 (dT b w).dflt,.slice .any 2 ((dT b w).dargs.map vv),.int .i64 (dT b w).size,.str (dT b w).restr]:=(rfl)
theorem tgl {b:List UInt8} {w:Nat}:(ce b w).length=4:=(rfl)
theorem k2l {b:List UInt8} {w:Nat}:(((dO b w).keys.length:Int)==3)=decide (cv b (cp w 5) 2=1):=by
 by_cases h:cv b (w+5) 2=1<;>simp [dO,cp,h]
theorem k3l {b:List UInt8} {w:Nat}:(((dT b w).keys.length:Int)==3)=decide (cv b (cp w 7) 2=1):=by
 by_cases h:cv b (w+7) 2=1<;>simp [dT,cp,h]
def B2 (p:Prop):Bool→Prop|true=>p|false=>¬ p
theorem mM {p:Prop} [Decidable p] {t:Bool} (h:decide p=t):B2 p t:=by
 cases t
 ·exact (of_decide_eq_false h:¬ p)
 ·exact (of_decide_eq_true h:p)
theorem zO {id:Nat} {ts:List STable} {H:AHeap} {K:AEnd→AHeap→Prop} (h1:ts.length≤100) (h2:∀ t∈ts,t.keys.length≤100) (h:onS (H.get id) (lG ts) fun x o=>K (.ret x) (H.set id o)) :
 o9 [.ptr id 0,.slice .any 8 (ts.map bI)] H K:=⟨ts,⟨rfl,h1,h2⟩,h⟩
def mh:=eG fun b v=>(mW (cM b v).1,(cM b v).2)
theorem uH:EntOk Try.prog 10 (Ent.effect mh):=by
 unfold mh
 refine EntOk.effect fun args H K h=>?_
 unfold eG at h
 split at h
 rotate_left
 ·exact h.elim
 rename_i id
 obtain ⟨b,v,hg,hb,hv,hK⟩:=jd h
 refine ⟨_,_,hK,?_⟩
 clear hK
 dsimp only
 generalize hS:(cM b v).1=S
 generalize hpos:(cM b v).2=pos
 refine ACalls.fW aD (TblOk.cons iG (TblOk.cons iB (TblOk.cons u6 (TblOk.cons tQ (TblOk.cons vq (TblOk.cons wY TblOk.nil)))))) Try.func10 [.cell 2 55] (Nat.le_refl _) (T:=az [(15,[[4]])]) (h:=fun hcl hlt=>?_)
 clear hlt
 have hid:=AHeap.get_lt hg
 have hne:=ni hid
 have hne2:=ni (show id<H.nx+1+1+1+1+1+1+1+1+1+1+1+1+1+1+1+1 by omega)
 have hgc:=jx (b:=b) hid
 have hcl2:∀ w,(H.set id (dl b w)).Closed:=fun w=>ah hcl hO
 have e8:(8:Int).toNat=8:=rfl
 have e30:(30:Int).toNat=30:=rfl
 have w1:∀ (u n:Nat) (k:Int),0<n→n≤100→0≤k→k≤100→IntKind.i64.wrap (k+((cv b u n:Nat):Int))=k+((cv b u n:Nat):Int):=fun u n k h1 h2 h3 h4=>by
  have:=jg (b:=b) (v:=u) (n:=n) h1
  rw [wrap_i64 (by omega) (by omega)]
 have a28:∀ u,IntKind.i64.wrap (2+((cv b u 8:Nat):Int))=2+((cv b u 8:Nat):Int):=fun u=>w1 u 8 2 (by decide) (by decide) (by decide) (by decide)
 have a30:∀ u,IntKind.i64.wrap (12+((cv b u 30:Nat):Int))=12+((cv b u 30:Nat):Int):=fun u=>w1 u 30 12 (by decide) (by decide) (by decide) (by decide)
 have es1:mP=eG jN:=rfl
 have es2:kY=eG iL:=rfl
 have es3:mb=eG jq:=rfl
 simp only [go_sem,bhq,Nat.reduceMod,Nat.reduceDiv,aM,aL,aO,bE,aN,bD,bz,bB,bA,yaq,yar,yao,yap,bj,bb,es1,es2,es3,mf,co hb gC,co hb fC,co hb gF,xN,w7,yc,yk,yz,wI,qO,hg,hgc,bk hb,bH,aU,bU,hne,hne2,e8,e30,a28,a30]
 (repeat with_reducible refine And.intro (by first|exact True.intro|decide|omega|(simp [zim,zgm,zgn,zgo,zgq,zgp,zgu];first|done|omega)) ?_)
 refine zO (by simp [ce]) (fun t ht=>?_) ?_
 ·simp only [ce,List.mem_cons,List.not_mem_nil,or_false] at ht
  rcases ht with rfl|rfl|rfl|rfl<;>simp only [kl,nY,dO,dT]<;>(try split)<;>simp
 simp only [cb,bM,go_sem,bhq,Nat.reduceMod,Nat.reduceDiv,aM,aL,aO,bE,aN,bD,bz,bB,bA,yaq,yar,yao,yap,bj,bb,es1,es2,es3,mf,co hb gC,co hb fC,co hb gF,xN,w7,yc,yk,yz,wI,qO,hg,hgc,bk hb,bH,aU,bU,hne,hne2,e8,e30,a28,a30,co hb (jy _),zI,AP,Int.toNat_natCast]
 refine ax (fun h1=>?_) (fun h1=>?_)
 all_goals
  simp only [cb,bM,go_sem,bhq,Nat.reduceMod,Nat.reduceDiv,aM,aL,aO,bE,aN,bD,bz,bB,bA,yaq,yar,yao,yap,bj,bb,es1,es2,es3,mf,co hb gC,co hb fC,co hb gF,xN,w7,yc,yk,yz,wI,qO,hg,hgc,bk hb,bH,aU,bU,hne,hne2,e8,e30,a28,a30,co hb (jy _),zI,AP,Int.toNat_natCast,tg2,tg3,tgl,k2l,k3l]
  try (repeat with_reducible refine And.intro (by first|exact True.intro|decide|omega|(simp [zim,zgm,zgn,zgo,zgq,zgp,zgu];first|done|omega)) ?_)
  refine ax (fun h2=>?_) (fun h2=>?_)
 all_goals
  simp only [cb,bM,go_sem,bhq,Nat.reduceMod,Nat.reduceDiv,aM,aL,aO,bE,aN,bD,bz,bB,bA,yaq,yar,yao,yap,bj,bb,es1,es2,es3,mf,co hb gC,co hb fC,co hb gF,xN,w7,yc,yk,yz,wI,qO,hg,hgc,bk hb,bH,aU,bU,hne,hne2,e8,e30,a28,a30,co hb (jy _),zI,AP,Int.toNat_natCast,tg2,tg3,tgl,k2l,k3l]
  try (repeat with_reducible refine And.intro (by first|exact True.intro|decide|omega|(simp [zim,zgm,zgn,zgo,zgq,zgp,zgu];first|done|omega)) ?_)
  refine cf (fun h3=>?_) (fun h3=>?_)
 all_goals
  try (repeat with_reducible refine And.intro (by first|exact True.intro|decide|omega|(simp [zim,zgm,zgn,zgo,zgq,zgp,zgu];first|done|omega)) ?_)
  try refine ax (fun h4=>?_) (fun h4=>?_)
 all_goals
  try simp only [cb,bM,go_sem,bhq,Nat.reduceMod,Nat.reduceDiv,aM,aL,aO,bE,aN,bD,bz,bB,bA,yaq,yar,yao,yap,bj,bb,es1,es2,es3,mf,co hb gC,co hb fC,co hb gF,xN,w7,yc,yk,yz,wI,qO,hg,hgc,bk hb,bH,aU,bU,hne,hne2,e8,e30,a28,a30,co hb (jy _),zI,AP,Int.toNat_natCast,tg2,tg3,tgl,k2l,k3l]
  try (repeat with_reducible refine And.intro (by first|exact True.intro|decide|omega|(simp [zim,zgm,zgn,zgo,zgq,zgp,zgu];first|done|omega)) ?_)
  refine cf (fun h5=>?_) (fun h5=>?_)
 all_goals
  try (repeat with_reducible refine And.intro (by first|exact True.intro|decide|omega|(simp [zim,zgm,zgn,zgo,zgq,zgp,zgu];first|done|omega)) ?_)
  try refine ax (fun h6=>?_) (fun h6=>?_)
 all_goals
  try simp only [cb,bM,go_sem,bhq,Nat.reduceMod,Nat.reduceDiv,aM,aL,aO,bE,aN,bD,bz,bB,bA,yaq,yar,yao,yap,bj,bb,es1,es2,es3,mf,co hb gC,co hb fC,co hb gF,xN,w7,yc,yk,yz,wI,qO,hg,hgc,bk hb,bH,aU,bU,hne,hne2,e8,e30,a28,a30,co hb (jy _),zI,AP,Int.toNat_natCast,tg2,tg3,tgl,k2l,k3l]
  try (repeat with_reducible refine And.intro (by first|exact True.intro|decide|omega|(simp [zim,zgm,zgn,zgo,zgq,zgp,zgu];first|done|omega)) ?_)
  replace h1:=mM h1
  replace h2:=mM h2
  replace h3:=mM h3
  replace h5:=mM h5
  try replace h4:=mM h4
  try replace h6:=mM h6
  refine fI 101 (.agg (bO S)) ?_ ?_
  ·rw [← hS]
   simp only [B2] at h1 h2 h3 h5
   try simp only [B2] at h4
   try simp only [B2] at h6
   simp [*,Fr.get,bO,cM,wi,ua,bY,eg,nG,wd,inL,AV.cells,hY,bG,bF,ca,dK,bZ,gt,gz,fV,wkM,qA]
  simp only [bhq,Nat.reduceMod,Nat.reduceDiv,aM,aL,aO,bE,aN,bD,bz,bB,bA,yaq,yar,yao,yap,go_sem,bO]
  refine ⟨?_,?_,hcl2 _,zP S⟩
  ·simp [mW,bO,wk,wk2,wkL,wk1,wkM]
  ·rw [← hpos]
   repeat first|exact .refl _|refine .push ?_ _
end Go.AL
