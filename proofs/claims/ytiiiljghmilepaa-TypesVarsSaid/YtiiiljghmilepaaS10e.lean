/- Contracts and plain laws, a part of the proof; no condition of its own. -/
import Derived.Test.YtiiiljghmilepaaS10c
set_option maxHeartbeats 32000000
open List renaming length_cons → yaz, map_cons → yae, drop_succ_cons → yao, drop_zero → yap, getD_cons_zero → yau, length_nil → yba, take_succ_cons → yaq, take_zero → yar, length_map → ybb, map_nil → yaf, append_nil → yaj
open Go Go.AL Go.Proofs
namespace Go.AL
set_option linter.all false
set_option maxRecDepth 10000
def lS:List AV→AHeap→(AEnd→AHeap→Prop)→Prop
 |[.ptr id 0,.slice .any 8 l],H,K=>∃ ts:List STable,(l=ts.map bk∧ts.length≤100∧∀ t∈ts,t.keys.length≤100)∧onC (H.get id) fun b v=>K (.ret (.slice .any 6 ((fm b v ts).1.map fT))) (H.set id (cu b (fm b v ts).2))
 |_,_,_=>False
/-- n truth values -/
def bfN (n:Nat) (f:Nat→Bool):List AV:=(List.range n).map fun i=>.bool (f i)
theorem rE {n:Nat} {f:Nat→Bool}:(bfN n f).length=n:=by simp [bfN]
theorem rU {n:Nat} {f g:Nat→Bool} {i:Nat} {b:Bool} (h:∀ j,j<n→g j=if j=i then b else f j):(bfN n f).set i (.bool b)=bfN n g:=by
 apply List.ext_getElem
 ·simp [bfN]
 ·intro j h1 h2
  have hj:j<n:=by simpa [bfN] using h2
  rw [List.getElem_set]
  simp only [bfN,List.getElem_map,List.getElem_range,h j hj]
  by_cases e:i=j
  ·subst e;simp
  ·rw [if_neg e,if_neg (fun x=>e x.symm)]
theorem wi {n:Nat}:(List.replicate n [AV.bool false]).flatten=bfN n fun _=>false:=by
 induction n with
 |zero=>rfl
 |succ n ih =>
  rw [List.replicate_succ,List.flatten_cons,ih]
  apply List.ext_getElem
  ·simp [bfN]
  ·intro j h1 h2
   cases j<;>simp [bfN]
theorem rY {n:Nat} {f:Nat→Bool}:bfN n f=boL ((List.range n).map f):=by simp [bfN,boL]
theorem rI {m n:Nat} {f:Nat→Bool}:ltL m (bfN n f)=True:=eq_true (ltL_iff.2 fun j hj=>by
 simp only [bfN,List.getElem_map]
 rw [AV.lt]<;>simp)
theorem jm:∀ (l:List Bool),aY 1 l.length (boL l)=boL l
 |[]=>rfl
 |x::l=>by
  rw [yaz,aY,if_pos rfl]
  have:=jm l
  simp only [boL,yae,yao,yap,yau,fA] at this ⊢
  rw [this]
theorem oh {α:Type} {n:Nat} {f:α→AV} {a c:List AV} {l:List α} (h:a++c=l.map f) (hf:∀ x,AV.lt n (f x)):ltL n a=True:=eq_true (ltL_iff.2 fun j hj=>by
 have:a[j]∈l.map f:=by rw [← h];exact List.mem_append_left _ (List.getElem_mem hj)
 obtain ⟨x,_,e⟩:=List.mem_map.1 this
 rw [← e];exact hf x)
def ot (i j:Nat) (g:List AV):List AV:=[.int .i64 1,.str [97,108,108],.slice (.own i) 4 g,.slice (.own j) 1 [.int .i64 1,.int .i64 2,.int .i64 3,.int .i64 4,.int .i64 5,.int .i64 6],.int .i64 40,.bool true]
def jL (b:List UInt8) (v i j:Nat) (g:List AV):List AV:=[.int .i64 2,.str [115,111,109,101],.slice (.own i) 4 g,.slice (.own j) 1 [.int .i64 1,.int .i64 2,.int .i64 (3+ci b (cp v 0) 3)],.int .i64 (1+ci b (cp v 1) 6),.bool false]
def oT (b:List UInt8) (v i j:Nat) (g:List AV):List AV:=[.int .i64 7,.str [102,101,119],.slice (.own i) 4 g,.slice (.own j) 1 [.int .i64 (1+ci b (cp v 2) 6)],.int .i64 (ci b (cp v 3) 4),.bool false]
/-- the heap at the head of the loop over the tables -/
def dz (H:AHeap) (id:Nat) (b:List UInt8) (v w:Nat) (a1 a2 a3:List AV):AHeap :=
 (((((((((((H.set id (cu b (cp w 0))).push (.buf 6 0)).push (.buf 1 6)).push (.buf 4 a1.length)).push (.cells (ot (H.nx+1+1) (H.nx+1) a1))).push (.buf 1 3)).push (.buf 4 a2.length)).push (.cells (jL b v (H.nx+1+1+1+1+1) (H.nx+1+1+1+1) a2))).push (.buf 1 1)).push (.buf 4 a3.length)).push (.cells (oT b v (H.nx+1+1+1+1+1+1+1+1) (H.nx+1+1+1+1+1+1+1) a3)))
/-- what is so at the head of that loop -/
structure RolI (b:List UInt8) (ts:List STable) (R:(List SGrant × List SGrant × List SGrant) × Nat) (k w:Nat) (a1 a2 a3:List AV):Prop where
 le:k≤ts.length
 l1:a1.length≤k
 l2:a2.length≤k
 l3:a3.length≤k
 e1:a1++(bY b (ts.drop k) w).1.1.map bV=R.1.1.map bV
 e2:a2++(bY b (ts.drop k) w).1.2.1.map bV=R.1.2.1.map bV
 e3:a3++(bY b (ts.drop k) w).1.2.2.map bV=R.1.2.2.map bV
 e4:(bY b (ts.drop k) w).2=R.2
theorem dJ {H:AHeap} {id:Nat} {b:List UInt8} {ts:List STable} {R:(List SGrant × List SGrant × List SGrant) × Nat} {v k w:Nat} {a1 a2 a3:List AV} (hcl:H.Closed) (h:RolI b ts R k w a1 a2 a3) (w':Nat):(dz H id b v w' a1 a2 a3).Closed:=by
 have q1:=fun n=>oh (n:=n) h.e1 jE
 have q2:=fun n=>oh (n:=n) h.e2 jE
 have q3:=fun n=>oh (n:=n) h.e3 jE
 unfold dz
 repeat' (first|exact ah hcl fy|refine af ?_|refine ae ?_ ?_)
 all_goals simp [ot,jL,oT,bm,zno,znp,zmz,znb,zna,zky,zkz,q1,q2,q3]
 all_goals omega
theorem tK:EntOk Try.prog 52 (Ent.effect lS):=by
 refine EntOk.effect fun args H K h=>?_
 unfold lS at h
 split at h
 rotate_left
 ·exact h.elim
 rename_i id l
 obtain ⟨ts,⟨rfl,hts,htk⟩,h⟩:=h
 obtain ⟨b,v,hg,hb,hv,hK⟩:=gr h
 refine ⟨_,_,hK,?_⟩
 clear hK
 generalize hres:AV.slice .any 6 ((fm b v ts).1.map fT)=res
 generalize hR:bY b ts (v+4)=R
 have hend:(fm b v ts).2=R.2:=by rw [← hR];rfl
 rw [hend]
 refine ACalls.fW aE (TblOk.cons gd (TblOk.cons fU TblOk.nil)) Try.func52 [.tmp 4] (Nat.le_refl _) (T:=ax [(16,[[],[],[],[],[],[],[],[],[5],[],[],[3,5,8],[1,3,5,8],[],[1,3,5,8]]),(18,[[],[],[],[],[],[],[],[5],[],[],[3,5,7],[1,3,5,7],[],[1,3,5,7]]),(1,[[7]]),(2,[[25]]),(3,[[22]]),(14,[[1]]),(20,[[16]])]) (h:=fun hcl hlt=>?_)
 clear hlt
 have hid:=AHeap.get_lt hg
 have hne:=kG hid
 have hgc:=h9 (b:=b) hid
 have hcl2:∀ w,(H.set id (cu b w)).Closed:=fun w=>ah hcl fy
 have e2:(2:Int).toNat=2:=rfl
 have e3:(3:Int).toNat=3:=rfl
 have e4:(4:Int).toNat=4:=rfl
 have e6:(6:Int).toNat=6:=rfl
 have w1:∀ (u n:Nat) (k:Int),0<n→n≤100→0≤k→k≤100→IntKind.i64.wrap (k+((cv b u n:Nat):Int))=k+((cv b u n:Nat):Int):=fun u n k h1 h2 h3 h4=>by
  have:=gT (b:=b) (v:=u) (n:=n) h1
  rw [wrap_i64 (by omega) (by omega)]
 have a33:∀ u,IntKind.i64.wrap (3+((cv b u 3:Nat):Int))=3+((cv b u 3:Nat):Int):=fun u=>w1 u 3 3 (by decide) (by decide) (by decide) (by decide)
 have a16:∀ u,IntKind.i64.wrap (1+((cv b u 6:Nat):Int))=1+((cv b u 6:Nat):Int):=fun u=>w1 u 6 1 (by decide) (by decide) (by decide) (by decide)
 simp only [go_sem,bhq,Nat.reduceMod,Nat.reduceDiv,aW,aX,aZ,bO,a8,bM,bG,bJ,bK,yaq,yar,yao,yap,aR,aL,hg,hgc,aS hb,bf,aH,bu,hne,e2,e3,e4,e6,a33,a16]
 refine jA 14 2 4 _ rfl rfl ?_
 simp only [go_sem,bhq,Nat.reduceMod,Nat.reduceDiv,aW,aX,aZ,bO,a8,bM,bG,bJ,bK,yaq,yar,yao,yap,aR,aL,hg,hgc,aS hb,bf,aH,bu,hne,e2,e3,e4,e6,a33,a16,List.set_cons_succ,List.set_cons_zero]
 (repeat with_reducible refine And.intro (by first|exact True.intro|decide|omega|(simp [zik,zgl,zgm,zgn,zgp,zgo,zgt];first|done|omega)) ?_)
 refine jA 22 2 4 _ rfl rfl ?_
 simp only [go_sem,bhq,Nat.reduceMod,Nat.reduceDiv,aW,aX,aZ,bO,a8,bM,bG,bJ,bK,yaq,yar,yao,yap,aR,aL,hg,hgc,aS hb,bf,aH,bu,hne,e2,e3,e4,e6,a33,a16,List.set_cons_succ,List.set_cons_zero]
 (repeat with_reducible refine And.intro (by first|exact True.intro|decide|omega|(simp [zik,zgl,zgm,zgn,zgp,zgo,zgt];first|done|omega)) ?_)
 refine jA 29 2 4 _ rfl rfl ?_
 simp only [go_sem,bhq,Nat.reduceMod,Nat.reduceDiv,aW,aX,aZ,bO,a8,bM,bG,bJ,bK,yaq,yar,yao,yap,aR,aL,hg,hgc,aS hb,bf,aH,bu,hne,e2,e3,e4,e6,a33,a16,List.set_cons_succ,List.set_cons_zero]
 refine az (A:=Nat × Nat × List AV × List AV × List AV) (fun x=>[(0,.ptr id 0),(5,.ptr (H.nx+1+1+1) 0),(6,.ptr (H.nx+1+1+1+1+1+1) 0),(7,.ptr (H.nx+1+1+1+1+1+1+1+1+1) 0),(30,.slice .any 8 (ts.map bk)),(31,.int .i64 (ts.length:Int)),(32,.int .i64 (x.1:Int))]) (fun x=>dz H id b v x.2.1 x.2.2.1 x.2.2.2.1 x.2.2.2.2) (fun x=>RolI b ts R x.1 x.2.1 x.2.2.1 x.2.2.2.1 x.2.2.2.2) (fun x=>ts.length - x.1) (0,v+4,[],[],[]) ⟨by omega,by simp,by simp,by simp,by rw [← hR];rfl,by rw [← hR];rfl,by rw [← hR];rfl,by rw [← hR];rfl⟩ ?_ fun x hx=>?_
 ·refine ⟨by simp only [dz,zky,zkz,zkk,zkp];omega,AHeap.Le.refl _,dJ (ts:=ts) (R:=R) (k:=0) (w:=v+4) hcl ⟨by omega,by simp,by simp,by simp,by rw [← hR];rfl,by rw [← hR];rfl,by rw [← hR];rfl,by rw [← hR];rfl⟩ _,?_,?_⟩
  ·simp [ltF,dz,znh,zmz,zky,zkz,bg ce]
   omega
  ·simp [bd,wk2,wk1,wkM,Fr.get]
 obtain ⟨k,w,a1,a2,a3⟩:=x
 dsimp only at hx ⊢
 have hclo:=fun w'=>dJ (id:=id) (v:=v) hcl hx w'
 obtain ⟨hk,l1,l2,l3,i1,i2,i3,i4⟩:=hx
 simp only [go_sem]
 refine al (fun hc=>?_) (fun hc=>?_)
 ·have hk':k<ts.length:=by simp at hc;omega
  obtain ⟨t,ht⟩:∃ t,t=ts[k]:=⟨_,rfl⟩
  have hd:ts.drop k=t::ts.drop (k+1):=by rw [ht];exact List.drop_eq_getElem_cons hk'
  have hkl:t.keys.length≤100:=htk t (by rw [ht];exact List.getElem_mem hk')
  have htg:(ts.map bk).getD k .junk=.agg [.int .i64 t.id,.str t.name,.slice .any 3 (t.keys.map bS),.slice .any 1 (inL t.actions),.int .i64 t.dflt,.slice .any 2 (t.dargs.map vv),.int .i64 t.size,.str t.restr]:=by
   rw [List.getD_eq_getElem?_getD,List.getElem?_map,List.getElem?_eq_getElem hk',← ht];rfl
  have hT:∀ n,ltL n ([.int .i64 t.id,.str t.name,.slice .any 3 (t.keys.map bS),.slice .any 1 (inL t.actions),.int .i64 t.dflt,.slice .any 2 (t.dargs.map vv),.int .i64 t.size,.str t.restr]:List AV):=fun n=>ltL_iff.2 fun j hj=>AV.lt_cells (ce t) j hj
  have hclT:∀ w',((dz H id b v w' a1 a2 a3).push (.cells [.int .i64 t.id,.str t.name,.slice .any 3 (t.keys.map bS),.slice .any 1 (inL t.actions),.int .i64 t.dflt,.slice .any 2 (t.dargs.map vv),.int .i64 t.size,.str t.restr])).Closed:=fun w'=>ae (hclo w') (hT _)
  have hclo2:∀ w' f g,((((dz H id b v w' a1 a2 a3).push (.cells [.int .i64 t.id,.str t.name,.slice .any 3 (t.keys.map bS),.slice .any 1 (inL t.actions),.int .i64 t.dflt,.slice .any 2 (t.dargs.map vv),.int .i64 t.size,.str t.restr])).push (.cells (bfN t.keys.length f))).push (.cells (bfN t.keys.length g))).Closed:=fun w' f g =>
   ae (ae (hclT w') (by simp [rI])) (by simp [rI])
  have hrn:∀ w',(dz H id b v w' a1 a2 a3).nx=(H.nx+1+1+1+1+1+1+1+1+1+1):=fun _=>rfl
  simp only [go_sem,dz,ot,jL,oT,htg,Int.toNat_natCast,ybb,wi,rE]
  (repeat with_reducible refine And.intro (by first|exact True.intro|decide|omega|(simp [zik,zgl,zgm,zgn,zgp,zgo,zgt];first|done|omega)) ?_)
  refine az (A:=Nat) (fun j=>[(0,.ptr id 0),(5,.ptr (H.nx+1+1+1) 0),(6,.ptr (H.nx+1+1+1+1+1+1) 0),(7,.ptr (H.nx+1+1+1+1+1+1+1+1+1) 0),(9,.ptr (H.nx+1+1+1+1+1+1+1+1+1+1) 0),(10,.ms (H.nx+1+1+1+1+1+1+1+1+1+1+1) 0 1 t.keys.length),(11,.ms (H.nx+1+1+1+1+1+1+1+1+1+1+1+1) 0 1 t.keys.length),(30,.slice .any 8 (ts.map bk)),(31,.int .i64 (ts.length:Int)),(32,.int .i64 (k:Int)),(45,.int .i64 (t.keys.length:Int)),(46,.int .i64 (j:Int))]) (fun j=>(((dz H id b v (w+j) a1 a2 a3).push (.cells [.int .i64 t.id,.str t.name,.slice .any 3 (t.keys.map bS),.slice .any 1 (inL t.actions),.int .i64 t.dflt,.slice .any 2 (t.dargs.map vv),.int .i64 t.size,.str t.restr])).push (.cells (bfN t.keys.length fun i=>decide (i<j)))).push (.cells (bfN t.keys.length fun i=>decide (i<j)&&decide (ci b (w+i) 4 > 0)))) (fun j=>j≤t.keys.length) (fun j=>t.keys.length - j) 0 (by omega) ?_ fun j hj=>?_
  ·simp only [Nat.not_lt_zero,decide_false,Bool.false_and]
   refine ⟨by simp only [zky,hrn,zkk,zkp];omega,AHeap.Le.refl _,hclo2 _ _ _,?_,?_⟩
   ·simp [ltF,hrn,znh,znj,zmz,zky,zkz,bg ce]
    omega
   ·simp [bd,wk2,wk1,wkM,Fr.get]
  simp only [go_sem]
  refine al (fun hc2=>?_) (fun hc2=>?_)
  ·have hj':j<t.keys.length:=by simp at hc2;omega
   have e5:IntKind.i64.wrap ((j:Int)+1)=((j+1:Nat):Int):=by rw [wrap_i64]<;>omega
   have hs1:(bfN t.keys.length fun i=>decide (i<j)).set j (.bool true)=bfN t.keys.length fun i=>decide (i<j+1):=rU fun i hi=>by
    by_cases e:i=j
    ·subst e;simp
    ·rw [if_neg e,decide_eq_decide];omega
   have hs2:(bfN t.keys.length fun i=>decide (i<j)&&decide (ci b (w+i) 4 > 0)).set j (.bool (decide (ci b (cp (w+j) 0) 4 > 0)))=bfN t.keys.length fun i=>decide (i<j+1)&&decide (ci b (w+i) 4 > 0):=rU fun i hi=>by
    by_cases e:i=j
    ·subst e;simp [cp]
    ·rw [if_neg e];congr 1;rw [decide_eq_decide];omega
   simp only [co,cl,bhq,Nat.reduceMod,Nat.reduceDiv,aW,aX,aZ,bO,a8,bM,bG,bJ,bK,yaq,yar,yao,yap,go_sem,aR,aL,hgc,aS hb,bf,aH,bu,hne,e4,dz,ot,jL,oT,List.length_append,ybb,Int.toNat_natCast,rE,ly,Nat.zero_add,Nat.mul_one,hs1,hs2,e5]
   (repeat with_reducible refine And.intro (by first|exact True.intro|decide|omega|(simp [zik,zgl,zgm,zgn,zgp,zgo,zgt];first|done|omega)) ?_)
   refine ⟨j+1,by omega,by omega,by simp only [zky,hrn,zkz,zkk,zkp];omega,AHeap.Le.refl _,hclo2 _ _ _,?_,?_⟩
   ·simp [ltF,hrn,znh,znj,zmz,zky,zkz,bg ce]
    omega
   ·simp [bd,wk2,wk1,wkM,Fr.get]
  have hj':j=t.keys.length:=by simp at hc2;omega
  subst hj'
  have y1:(bfN t.keys.length fun i=>decide (i<t.keys.length))=boL (List.replicate t.keys.length true):=by
   rw [rY];congr 1
   apply List.ext_getElem
   ·simp
   ·intro i h1 h2;simp at h1 ⊢;exact h1
  have y2:(bfN t.keys.length fun i=>decide (i<t.keys.length)&&decide (ci b (w+i) 4 > 0))=boL (fH b w t.keys.length):=by
   rw [rY];congr 1
   unfold fH
   refine List.map_congr_left fun i hi=>?_
   have:=List.mem_range.1 hi
   simp [this]
  rw [y1,y2]
  simp only [co,cl,bhq,Nat.reduceMod,Nat.reduceDiv,aW,aX,aZ,bO,a8,bM,bG,bJ,bK,yaq,yar,yao,yap,go_sem,aR,aL,hgc,aS hb,bf,aH,bu,hne,e4,dz,ot,jL,oT,List.length_append,ybb]
  refine nz [(0,.ptr id 0),(5,.ptr (H.nx+1+1+1) 0),(6,.ptr (H.nx+1+1+1+1+1+1) 0),(7,.ptr (H.nx+1+1+1+1+1+1+1+1+1) 0),(9,.ptr (H.nx+1+1+1+1+1+1+1+1+1+1) 0),(10,.slice .any 1 (boL (List.replicate t.keys.length true))),(11,.slice .any 1 (boL (fH b w t.keys.length))),(30,.slice .any 8 (ts.map bk)),(31,.int .i64 (ts.length:Int)),(32,.int .i64 (k:Int))] ((dz H id b v (w+t.keys.length) a1 a2 a3).push (.cells [.int .i64 t.id,.str t.name,.slice .any 3 (t.keys.map bS),.slice .any 1 (inL t.actions),.int .i64 t.dflt,.slice .any 2 (t.dargs.map vv),.int .i64 t.size,.str t.restr])) ⟨by simp only [zky,hrn,zkk,zkp,lX];omega,((AHeap.Le.refl _).push _).push _,hclT _,?_,?_⟩ ?_
  ·simp [ltF,hrn,znh,znj,zmz,zky,zkz,bg ce,vN]
   omega
  ·have yr1:aY 1 t.keys.length (boL (List.replicate t.keys.length true))=boL (List.replicate t.keys.length true):=by
    have:=jm (List.replicate t.keys.length true)
    rw [List.length_replicate] at this;exact this
   have yr2:aY 1 t.keys.length (boL (fH b w t.keys.length))=boL (fH b w t.keys.length):=by
    have:=jm (fH b w t.keys.length)
    rw [show (fH b w t.keys.length).length=t.keys.length by simp [fH]] at this;exact this
   have hn1:∀ w' o,((dz H id b v w' a1 a2 a3).push o).get (H.nx+1+1+1+1+1+1+1+1+1+1+1)=none:=fun w' o=>zmp (by rw [zky,hrn];omega)
   have hn2:∀ w' o,((dz H id b v w' a1 a2 a3).push o).get (H.nx+1+1+1+1+1+1+1+1+1+1+1+1)=none:=fun w' o=>zmp (by rw [zky,hrn];omega)
   simp only [bd,wk2,wk1,wkM,go_sem,yap,yr1,yr2,hn1,hn2,true_or,or_true,and_self]
  simp only [co,cl,bhq,Nat.reduceMod,Nat.reduceDiv,aW,aX,aZ,bO,a8,bM,bG,bJ,bK,yaq,yar,yao,yap,go_sem,aR,aL,hgc,aS hb,bf,aH,bu,hne,e4,dz,ot,jL,oT,ybb]
  (repeat with_reducible refine And.intro (by first|exact True.intro|decide|omega|(simp [zik,zgl,zgm,zgn,zgp,zgo,zgt];first|done|omega)) ?_)
  have e5:IntKind.i64.wrap ((k:Int)+1)=((k+1:Nat):Int):=by rw [wrap_i64]<;>omega
  refine al (fun h1=>?_) (fun h1=>?_)
  all_goals
   try simp only [co,cl,bhq,Nat.reduceMod,Nat.reduceDiv,aW,aX,aZ,bO,a8,bM,bG,bJ,bK,yaq,yar,yao,yap,go_sem,aR,aL,hgc,aS hb,bf,aH,bu,hne,e4,dz,ot,jL,oT,ybb]
   try (repeat with_reducible refine And.intro (by first|exact True.intro|decide|omega|(simp [zik,zgl,zgm,zgn,zgp,zgo,zgt];first|done|omega)) ?_)
   refine al (fun h2=>?_) (fun h2=>?_)
  all_goals
   try simp only [co,cl,bhq,Nat.reduceMod,Nat.reduceDiv,aW,aX,aZ,bO,a8,bM,bG,bJ,bK,yaq,yar,yao,yap,go_sem,aR,aL,hgc,aS hb,bf,aH,bu,hne,e4,dz,ot,jL,oT,ybb,e5]
   try (repeat with_reducible refine And.intro (by first|exact True.intro|decide|omega|(simp [zik,zgl,zgm,zgn,zgp,zgo,zgt];first|done|omega)) ?_)
  ·have hp1:(0<cv b (w+t.keys.length) 4)=True:=eq_true (by have h:=of_decide_eq_true h1;simp only [cp,Nat.add_zero] at h;omega)
   have hp2:(cv b (w+(t.keys.length+3)) 2=1)=True:=eq_true (by have h:=of_decide_eq_true h2;unfold cp at h;rw [Nat.add_assoc] at h;exact h)
   rw [hd] at i1 i2 i3 i4
   simp only [bY,hp1,hp2,if_true,if_false,Nat.add_assoc,Nat.reduceAdd] at i1 i2 i3 i4
   have hI:RolI b ts R (k+1) (w+(t.keys.length+6)) (a1++[.agg [.int .i64 t.id,.bool true,.bool true,.slice .any 1 (boL (List.replicate t.keys.length true))]]) (a2++[.agg [.int .i64 t.id,.bool (decide (0<ci b (w+t.keys.length+1) 4)),.bool (decide (cv b (w+t.keys.length+2) 2=1)),.slice .any 1 (boL (fH b w t.keys.length))]]) (a3++[.agg [.int .i64 t.id,.bool (decide (cv b (w+t.keys.length+4) 2=1)),.bool (decide (cv b (w+t.keys.length+5) 2=1)),.slice .any 1 (boL (List.replicate t.keys.length true))]]):=by
    refine ⟨by omega,by (try simp only [List.length_append,yaz,yba]);omega,by (try simp only [List.length_append,yaz,yba]);omega,by (try simp only [List.length_append,yaz,yba]);omega,?_,?_,?_,i4⟩
    ·simpa [bV,Nat.add_assoc] using i1
    ·simpa [bV,Nat.add_assoc] using i2
    ·simpa [bV,Nat.add_assoc] using i3
   refine ⟨(_,_,_,_,_),hI,by dsimp only;omega,by simp only [dz,zky,zkz];omega,?_,dJ hcl hI _,?_,?_⟩
   ·simp only [dz,List.length_append,yaz,yba]
    repeat first|exact .refl _|refine .push ?_ _
   ·simp [ltF,dz,znh,zmz,zky,zkz,bg ce]
    omega
   ·simp [bd,wk2,wk1,wkM,Fr.get]
  ·have hp1:(0<cv b (w+t.keys.length) 4)=True:=eq_true (by have h:=of_decide_eq_true h1;simp only [cp,Nat.add_zero] at h;omega)
   have hp2:(cv b (w+(t.keys.length+3)) 2=1)=False:=eq_false (by have h:=of_decide_eq_false h2;unfold cp at h;rw [Nat.add_assoc] at h;exact h)
   rw [hd] at i1 i2 i3 i4
   simp only [bY,hp1,hp2,if_true,if_false,Nat.add_assoc,Nat.reduceAdd] at i1 i2 i3 i4
   have hI:RolI b ts R (k+1) (w+(t.keys.length+4)) (a1++[.agg [.int .i64 t.id,.bool true,.bool true,.slice .any 1 (boL (List.replicate t.keys.length true))]]) (a2++[.agg [.int .i64 t.id,.bool (decide (0<ci b (w+t.keys.length+1) 4)),.bool (decide (cv b (w+t.keys.length+2) 2=1)),.slice .any 1 (boL (fH b w t.keys.length))]]) (a3):=by
    refine ⟨by omega,by (try simp only [List.length_append,yaz,yba]);omega,by (try simp only [List.length_append,yaz,yba]);omega,by (try simp only [List.length_append,yaz,yba]);omega,?_,?_,?_,i4⟩
    ·simpa [bV,Nat.add_assoc] using i1
    ·simpa [bV,Nat.add_assoc] using i2
    ·simpa [bV,Nat.add_assoc] using i3
   refine ⟨(_,_,_,_,_),hI,by dsimp only;omega,by simp only [dz,zky,zkz];omega,?_,dJ hcl hI _,?_,?_⟩
   ·simp only [dz,List.length_append,yaz,yba]
    repeat first|exact .refl _|refine .push ?_ _
   ·simp [ltF,dz,znh,zmz,zky,zkz,bg ce]
    omega
   ·simp [bd,wk2,wk1,wkM,Fr.get]
  ·have hp1:(0<cv b (w+t.keys.length) 4)=False:=eq_false (by have h:=of_decide_eq_false h1;simp only [cp,Nat.add_zero] at h;omega)
   have hp2:(cv b (w+(t.keys.length+1)) 2=1)=True:=eq_true (by have h:=of_decide_eq_true h2;unfold cp at h;rw [Nat.add_assoc] at h;exact h)
   rw [hd] at i1 i2 i3 i4
   simp only [bY,hp1,hp2,if_true,if_false,Nat.add_assoc,Nat.reduceAdd] at i1 i2 i3 i4
   have hI:RolI b ts R (k+1) (w+(t.keys.length+4)) (a1++[.agg [.int .i64 t.id,.bool true,.bool true,.slice .any 1 (boL (List.replicate t.keys.length true))]]) (a2) (a3++[.agg [.int .i64 t.id,.bool (decide (cv b (w+t.keys.length+2) 2=1)),.bool (decide (cv b (w+t.keys.length+3) 2=1)),.slice .any 1 (boL (List.replicate t.keys.length true))]]):=by
    refine ⟨by omega,by (try simp only [List.length_append,yaz,yba]);omega,by (try simp only [List.length_append,yaz,yba]);omega,by (try simp only [List.length_append,yaz,yba]);omega,?_,?_,?_,i4⟩
    ·simpa [bV,Nat.add_assoc] using i1
    ·simpa [bV,Nat.add_assoc] using i2
    ·simpa [bV,Nat.add_assoc] using i3
   refine ⟨(_,_,_,_,_),hI,by dsimp only;omega,by simp only [dz,zky,zkz];omega,?_,dJ hcl hI _,?_,?_⟩
   ·simp only [dz,List.length_append,yaz,yba]
    repeat first|exact .refl _|refine .push ?_ _
   ·simp [ltF,dz,znh,zmz,zky,zkz,bg ce]
    omega
   ·simp [bd,wk2,wk1,wkM,Fr.get]
  ·have hp1:(0<cv b (w+t.keys.length) 4)=False:=eq_false (by have h:=of_decide_eq_false h1;simp only [cp,Nat.add_zero] at h;omega)
   have hp2:(cv b (w+(t.keys.length+1)) 2=1)=False:=eq_false (by have h:=of_decide_eq_false h2;unfold cp at h;rw [Nat.add_assoc] at h;exact h)
   rw [hd] at i1 i2 i3 i4
   simp only [bY,hp1,hp2,if_true,if_false,Nat.add_assoc,Nat.reduceAdd] at i1 i2 i3 i4
   have hI:RolI b ts R (k+1) (w+(t.keys.length+2)) (a1++[.agg [.int .i64 t.id,.bool true,.bool true,.slice .any 1 (boL (List.replicate t.keys.length true))]]) (a2) (a3):=by
    refine ⟨by omega,by (try simp only [List.length_append,yaz,yba]);omega,by (try simp only [List.length_append,yaz,yba]);omega,by (try simp only [List.length_append,yaz,yba]);omega,?_,?_,?_,i4⟩
    ·simpa [bV,Nat.add_assoc] using i1
    ·simpa [bV,Nat.add_assoc] using i2
    ·simpa [bV,Nat.add_assoc] using i3
   refine ⟨(_,_,_,_,_),hI,by dsimp only;omega,by simp only [dz,zky,zkz];omega,?_,dJ hcl hI _,?_,?_⟩
   ·simp only [dz,List.length_append,yaz,yba]
    repeat first|exact .refl _|refine .push ?_ _
   ·simp [ltF,dz,znh,zmz,zky,zkz,bg ce]
    omega
   ·simp [bd,wk2,wk1,wkM,Fr.get]
 ·have hk':k=ts.length:=by simp at hc;omega
  subst hk'
  simp only [bhq,Nat.reduceMod,Nat.reduceDiv,aW,aX,aZ,bO,a8,bM,bG,bJ,bK,yaq,yar,yao,yap,go_sem,dz,ot,jL,oT]
  (repeat with_reducible refine And.intro (by first|exact True.intro|decide|omega|(simp [zik,zgl,zgm,zgn,zgp,zgo,zgt];first|done|omega)) ?_)
  simp only [List.drop_length,bY,yaf,yaj] at i1 i2 i3 i4
  subst i4
  refine eE 4 res ?_ ?_
  ·rw [← hres]
   simp only [fm,hR]
   simp [Fr.get,fT,inL,i1,i2,i3,cp,AV.cells,fN,di,dk,dT,dj,dW,fF,eX,eT,wkM,nw]
  simp only [bhq,Nat.reduceMod,Nat.reduceDiv,aW,aX,aZ,bO,a8,bM,bG,bJ,bK,yaq,yar,yao,yap,go_sem]
  subst hres
  refine ⟨?_,?_,hcl2 _,bg rj⟩
  ·simp [wk,wk2,wk1,wkM]
  ·repeat first|exact .refl _|refine .push ?_ _
end Go.AL
open Go Go.AL Go.Proofs
namespace Go.AL
set_option linter.all false
set_option maxRecDepth 10000
/-- what a function takes from the choices does not depend on the place behind their end -/
def l8 (g:List UInt8→Nat→AV × Nat):Prop:=∀ b v,(g b (min v b.length)).1=(g b v).1∧∃ c,(g b (min v b.length)).2=min v b.length+c∧(g b v).2=v+c
def onS (o:Option AObj) (g:List UInt8→Nat→AV × Nat) (K:AV→AObj→Prop):Prop:=onC o fun b v=>K (g b v).1 (cu b (g b v).2)
@[congr] theorem yv {o o':Option AObj} {g:List UInt8→Nat→AV × Nat} {K:AV→AObj→Prop} (h:o=o'):onS o g K=onS o' g K:=by rw [h]
theorem bI {b:List UInt8} {v:Nat} {g:List UInt8→Nat→AV × Nat} {K:AV→AObj→Prop} (hb:b.length≤1000000) (hg:l8 g):onS (some (cu b v)) g K=K (g b v).1 (cu b (g b v).2):=by
 unfold onS
 rw [aS hb]
 obtain ⟨h1,c,h2,h3⟩:=hg b v
 rw [h1,h2,h3,aH]
theorem kf {g:List UInt8→Nat→AV × Nat} {id:Nat} {H:AHeap} {K:AEnd→AHeap→Prop}:eG g [.ptr id 0] H K=onS (H.get id) g fun x o=>K (.ret x) (H.set id o):=(rfl)
def hM:List UInt8→Nat→AV × Nat:=fun b v=>(.slice .any 5 ((a9 b v).1.map cB),(a9 b v).2)
def gg:List UInt8→Nat→AV × Nat:=fun b v=>(.slice .any 5 ((bN b v).map bw),v+4)
def im:List UInt8→Nat→AV × Nat:=fun b v=>(.slice .any 8 ((bC b v).map bk),v+12)
def j2 (ts:List STable):List UInt8→Nat→AV × Nat:=fun b v=>(.slice .any 6 ((fm b v ts).1.map fT),(fm b v ts).2)
theorem ff:l8 hM:=fun b v=>by
 have e:a9 b (min v b.length)=((a9 b v).1,(a9 b v).2 - v+min v b.length):=by
  unfold a9
  simp only [ew,bf]
  repeat' split
  all_goals (refine Prod.ext rfl ?_;dsimp only;omega)
 have h:∃ c,(a9 b v).2=v+c:=by
  unfold a9
  repeat' split
  all_goals exact ⟨_,rfl⟩
 obtain ⟨c,hc⟩:=h
 unfold hM
 dsimp only
 rw [e]
 exact ⟨rfl,c,by dsimp only;omega,hc⟩
theorem eH:l8 gg:=fun b v=>by
 have e:bN b (min v b.length)=bN b v:=by unfold bN ci;simp only [ew,bf]
 unfold gg
 dsimp only
 rw [e]
 exact ⟨rfl,4,rfl,rfl⟩
theorem fc:l8 im:=fun b v=>by
 have e:bC b (min v b.length)=bC b v:=by unfold bC iG lj cX cZ ci;simp only [ew,bf]
 unfold im
 dsimp only
 rw [e]
 exact ⟨rfl,12,rfl,rfl⟩
theorem iE {b:List UInt8} {v k n:Nat}:fH b (min v b.length+k) n=fH b (v+k) n:=by
 unfold fH
 refine List.map_congr_left fun i _=>?_
 rw [Nat.add_assoc,Nat.add_assoc]
 unfold ci
 rw [ew]
theorem eS {b:List UInt8} {v:Nat}:∀ (ts:List STable) (k:Nat),(bY b ts (min v b.length+k)).1=(bY b ts (v+k)).1∧∃ c,(bY b ts (min v b.length+k)).2=min v b.length+c∧(bY b ts (v+k)).2=v+c
 |[],k=>⟨rfl,k,rfl,rfl⟩
 |t::ts,k=>by
  have hb:∀ j n,cv b (min v b.length+j) n=cv b (v+j) n:=fun j n=>ew
  by_cases h1:0<cv b (v+(k+t.keys.length)) 4
  ·by_cases h2:cv b (v+(k+t.keys.length+3)) 2=1
   ·obtain ⟨i1,c,i2,i3⟩:=eS ts (k+t.keys.length+3+3)
    simp only [Nat.add_assoc,Nat.reduceAdd] at i1 i2 i3 h1 h2
    simp only [bY,Nat.add_assoc,Nat.reduceAdd,hb,ci,h1,h2,if_true,iE]
    rw [i1]
    exact ⟨rfl,c,i2,i3⟩
   ·obtain ⟨i1,c,i2,i3⟩:=eS ts (k+t.keys.length+3+1)
    simp only [Nat.add_assoc,Nat.reduceAdd] at i1 i2 i3 h1 h2
    simp only [bY,Nat.add_assoc,Nat.reduceAdd,hb,ci,h1,h2,if_true,if_false,iE]
    rw [i1]
    exact ⟨rfl,c,i2,i3⟩
  ·by_cases h2:cv b (v+(k+t.keys.length+1)) 2=1
   ·obtain ⟨i1,c,i2,i3⟩:=eS ts (k+t.keys.length+1+3)
    simp only [Nat.add_assoc,Nat.reduceAdd] at i1 i2 i3 h1 h2
    simp only [bY,Nat.add_assoc,Nat.reduceAdd,hb,ci,h1,h2,if_true,if_false,iE]
    rw [i1]
    exact ⟨rfl,c,i2,i3⟩
   ·obtain ⟨i1,c,i2,i3⟩:=eS ts (k+t.keys.length+1+1)
    simp only [Nat.add_assoc,Nat.reduceAdd] at i1 i2 i3 h1 h2
    simp only [bY,Nat.add_assoc,Nat.reduceAdd,hb,ci,h1,h2,if_true,if_false,iE]
    rw [i1]
    exact ⟨rfl,c,i2,i3⟩
theorem hU (ts:List STable):l8 (j2 ts):=fun b v=>by
 obtain ⟨i1,c,i2,i3⟩:=eS (b:=b) (v:=v) ts 4
 unfold j2 fm
 dsimp only
 rw [i1]
 unfold ci
 simp only [ew,bf]
 exact ⟨trivial,c,i2,i3⟩
theorem sZ {b:List UInt8} {v:Nat}:(hM b v).1=.slice .any 5 ((a9 b v).1.map cB):=(rfl)
theorem tJ {b:List UInt8} {v:Nat}:(hM b v).2=(a9 b v).2:=(rfl)
theorem sj {b:List UInt8} {v:Nat}:(gg b v).1=.slice .any 5 ((bN b v).map bw):=(rfl)
theorem sV {b:List UInt8} {v:Nat}:(gg b v).2=cp v 4:=(rfl)
theorem tM {b:List UInt8} {v:Nat}:(im b v).1=.slice .any 8 ((bC b v).map bk):=(rfl)
theorem tf {b:List UInt8} {v:Nat}:(im b v).2=cp v 12:=(rfl)
theorem vh {b:List UInt8} {v:Nat} {ts:List STable}:(j2 ts b v).1=.slice .any 6 ((fm b v ts).1.map fT):=(rfl)
theorem vg {b:List UInt8} {v:Nat} {ts:List STable}:(j2 ts b v).2=cp (fm b v ts).2 0:=(rfl)
theorem nN {v k n:Nat}:cp (cp v k) n=cp v (k+n):=by unfold cp;omega
theorem tg2 {b:List UInt8} {w:Nat}:(List.map bk (bC b w)).getD 2 .junk=.agg [.int .i64 (cX b w).id,.str (cX b w).name,.slice .any 3 ((cX b w).keys.map bS),.slice .any 1 (inL (cX b w).actions),.int .i64 (cX b w).dflt,.slice .any 2 ((cX b w).dargs.map vv),.int .i64 (cX b w).size,.str (cX b w).restr]:=(rfl)
theorem tg3 {b:List UInt8} {w:Nat}:(List.map bk (bC b w)).getD 3 .junk=.agg [.int .i64 (cZ b w).id,.str (cZ b w).name,.slice .any 3 ((cZ b w).keys.map bS),.slice .any 1 (inL (cZ b w).actions),.int .i64 (cZ b w).dflt,.slice .any 2 ((cZ b w).dargs.map vv),.int .i64 (cZ b w).size,.str (cZ b w).restr]:=(rfl)
theorem tgl {b:List UInt8} {w:Nat}:(bC b w).length=4:=(rfl)
theorem k2l {b:List UInt8} {w:Nat}:(((cX b w).keys.length:Int)==3)=decide (cv b (cp w 5) 2=1):=by
 by_cases h:cv b (w+5) 2=1<;>simp [cX,cp,h]
theorem k3l {b:List UInt8} {w:Nat}:(((cZ b w).keys.length:Int)==3)=decide (cv b (cp w 7) 2=1):=by
 by_cases h:cv b (w+7) 2=1<;>simp [cZ,cp,h]
def xg (p:Prop):Bool→Prop|true=>p|false=>¬ p
theorem j7 {p:Prop} [Decidable p] {t:Bool} (h:decide p=t):xg p t:=by
 cases t
 ·exact (of_decide_eq_false h:¬ p)
 ·exact (of_decide_eq_true h:p)
theorem vY {id:Nat} {ts:List STable} {H:AHeap} {K:AEnd→AHeap→Prop} (h1:ts.length≤100) (h2:∀ t∈ts,t.keys.length≤100) (h:onS (H.get id) (j2 ts) fun x o=>K (.ret x) (H.set id o)) :
 lS [.ptr id 0,.slice .any 8 (ts.map bk)] H K:=⟨ts,⟨rfl,h1,h2⟩,h⟩
def kg:=eG fun b v=>(lu (dw b v).1,(dw b v).2)
theorem q8:EntOk Try.prog 27 (Ent.effect kg):=by
 unfold kg
 refine EntOk.effect fun args H K h=>?_
 unfold eG at h
 split at h
 rotate_left
 ·exact h.elim
 rename_i id
 obtain ⟨b,v,hg,hb,hv,hK⟩:=gr h
 refine ⟨_,_,hK,?_⟩
 clear hK
 dsimp only
 generalize hS:(dw b v).1=S
 generalize hpos:(dw b v).2=pos
 refine ACalls.fW aE (TblOk.cons gd (TblOk.cons fU (TblOk.cons qU (TblOk.cons qc (TblOk.cons qx (TblOk.cons tK TblOk.nil)))))) Try.func27 [.cell 2 88] (Nat.le_refl _) (T:=ax [(15,[[4]])]) (h:=fun hcl hlt=>?_)
 clear hlt
 have hid:=AHeap.get_lt hg
 have hne:=kG hid
 have hne2:=kG (show id<H.nx+1+1+1+1+1+1+1+1+1+1+1+1+1+1+1+1 by omega)
 have hgc:=h9 (b:=b) hid
 have hcl2:∀ w,(H.set id (cu b w)).Closed:=fun w=>ah hcl fy
 have e8:(8:Int).toNat=8:=rfl
 have e30:(30:Int).toNat=30:=rfl
 have w1:∀ (u n:Nat) (k:Int),0<n→n≤100→0≤k→k≤100→IntKind.i64.wrap (k+((cv b u n:Nat):Int))=k+((cv b u n:Nat):Int):=fun u n k h1 h2 h3 h4=>by
  have:=gT (b:=b) (v:=u) (n:=n) h1
  rw [wrap_i64 (by omega) (by omega)]
 have a28:∀ u,IntKind.i64.wrap (2+((cv b u 8:Nat):Int))=2+((cv b u 8:Nat):Int):=fun u=>w1 u 8 2 (by decide) (by decide) (by decide) (by decide)
 have a30:∀ u,IntKind.i64.wrap (12+((cv b u 30:Nat):Int))=12+((cv b u 30:Nat):Int):=fun u=>w1 u 30 12 (by decide) (by decide) (by decide) (by decide)
 have es1:j8=eG hM:=rfl
 have es2:jl=eG gg:=rfl
 have es3:kD=eG im:=rfl
 simp only [go_sem,bhq,Nat.reduceMod,Nat.reduceDiv,aW,aX,aZ,bO,a8,bM,bG,bJ,bK,yaq,yar,yao,yap,aR,aL,es1,es2,es3,kf,bI hb ff,bI hb eH,bI hb fc,sZ,tJ,sj,sV,tM,tf,nN,hg,hgc,aS hb,bf,aH,bu,hne,hne2,e8,e30,a28,a30]
 (repeat with_reducible refine And.intro (by first|exact True.intro|decide|omega|(simp [zik,zgl,zgm,zgn,zgp,zgo,zgt];first|done|omega)) ?_)
 refine vY (by simp [bC]) (fun t ht=>?_) ?_
 ·simp only [bC,List.mem_cons,List.not_mem_nil,or_false] at ht
  rcases ht with rfl|rfl|rfl|rfl<;>simp only [iG,lj,cX,cZ]<;>(try split)<;>simp
 simp only [co,cl,go_sem,bhq,Nat.reduceMod,Nat.reduceDiv,aW,aX,aZ,bO,a8,bM,bG,bJ,bK,yaq,yar,yao,yap,aR,aL,es1,es2,es3,kf,bI hb ff,bI hb eH,bI hb fc,sZ,tJ,sj,sV,tM,tf,nN,hg,hgc,aS hb,bf,aH,bu,hne,hne2,e8,e30,a28,a30,bI hb (hU _),vh,vg,Int.toNat_natCast]
 refine al (fun h1=>?_) (fun h1=>?_)
 all_goals
  simp only [co,cl,go_sem,bhq,Nat.reduceMod,Nat.reduceDiv,aW,aX,aZ,bO,a8,bM,bG,bJ,bK,yaq,yar,yao,yap,aR,aL,es1,es2,es3,kf,bI hb ff,bI hb eH,bI hb fc,sZ,tJ,sj,sV,tM,tf,nN,hg,hgc,aS hb,bf,aH,bu,hne,hne2,e8,e30,a28,a30,bI hb (hU _),vh,vg,Int.toNat_natCast,tg2,tg3,tgl,k2l,k3l]
  try (repeat with_reducible refine And.intro (by first|exact True.intro|decide|omega|(simp [zik,zgl,zgm,zgn,zgp,zgo,zgt];first|done|omega)) ?_)
  refine al (fun h2=>?_) (fun h2=>?_)
 all_goals
  simp only [co,cl,go_sem,bhq,Nat.reduceMod,Nat.reduceDiv,aW,aX,aZ,bO,a8,bM,bG,bJ,bK,yaq,yar,yao,yap,aR,aL,es1,es2,es3,kf,bI hb ff,bI hb eH,bI hb fc,sZ,tJ,sj,sV,tM,tf,nN,hg,hgc,aS hb,bf,aH,bu,hne,hne2,e8,e30,a28,a30,bI hb (hU _),vh,vg,Int.toNat_natCast,tg2,tg3,tgl,k2l,k3l]
  try (repeat with_reducible refine And.intro (by first|exact True.intro|decide|omega|(simp [zik,zgl,zgm,zgn,zgp,zgo,zgt];first|done|omega)) ?_)
  refine bR (fun h3=>?_) (fun h3=>?_)
 all_goals
  try (repeat with_reducible refine And.intro (by first|exact True.intro|decide|omega|(simp [zik,zgl,zgm,zgn,zgp,zgo,zgt];first|done|omega)) ?_)
  try refine al (fun h4=>?_) (fun h4=>?_)
 all_goals
  try simp only [co,cl,go_sem,bhq,Nat.reduceMod,Nat.reduceDiv,aW,aX,aZ,bO,a8,bM,bG,bJ,bK,yaq,yar,yao,yap,aR,aL,es1,es2,es3,kf,bI hb ff,bI hb eH,bI hb fc,sZ,tJ,sj,sV,tM,tf,nN,hg,hgc,aS hb,bf,aH,bu,hne,hne2,e8,e30,a28,a30,bI hb (hU _),vh,vg,Int.toNat_natCast,tg2,tg3,tgl,k2l,k3l]
  try (repeat with_reducible refine And.intro (by first|exact True.intro|decide|omega|(simp [zik,zgl,zgm,zgn,zgp,zgo,zgt];first|done|omega)) ?_)
  refine bR (fun h5=>?_) (fun h5=>?_)
 all_goals
  try (repeat with_reducible refine And.intro (by first|exact True.intro|decide|omega|(simp [zik,zgl,zgm,zgn,zgp,zgo,zgt];first|done|omega)) ?_)
  try refine al (fun h6=>?_) (fun h6=>?_)
 all_goals
  try simp only [co,cl,go_sem,bhq,Nat.reduceMod,Nat.reduceDiv,aW,aX,aZ,bO,a8,bM,bG,bJ,bK,yaq,yar,yao,yap,aR,aL,es1,es2,es3,kf,bI hb ff,bI hb eH,bI hb fc,sZ,tJ,sj,sV,tM,tf,nN,hg,hgc,aS hb,bf,aH,bu,hne,hne2,e8,e30,a28,a30,bI hb (hU _),vh,vg,Int.toNat_natCast,tg2,tg3,tgl,k2l,k3l]
  try (repeat with_reducible refine And.intro (by first|exact True.intro|decide|omega|(simp [zik,zgl,zgm,zgn,zgp,zgo,zgt];first|done|omega)) ?_)
  replace h1:=j7 h1
  replace h2:=j7 h2
  replace h3:=j7 h3
  replace h5:=j7 h5
  try replace h4:=j7 h4
  try replace h6:=j7 h6
  refine eE 101 (.agg (po S)) ?_ ?_
  ·rw [← hS]
   simp only [xg] at h1 h2 h3 h5
   try simp only [xg] at h4
   try simp only [xg] at h6
   simp [*,Fr.get,po,dw,rG,pU,iR,fV,iN,nK,inL,AV.cells,fN,di,dk,dT,dj,dW,fF,eX,eT,wkM,nw]
  simp only [bhq,Nat.reduceMod,Nat.reduceDiv,aW,aX,aZ,bO,a8,bM,bG,bJ,bK,yaq,yar,yao,yap,go_sem,po]
  refine ⟨?_,?_,hcl2 _,wg S⟩
  ·simp [lu,po,wk,wk2,wkL,wk1,wkM]
  ·rw [← hpos]
   repeat first|exact .refl _|refine .push ?_ _
end Go.AL
