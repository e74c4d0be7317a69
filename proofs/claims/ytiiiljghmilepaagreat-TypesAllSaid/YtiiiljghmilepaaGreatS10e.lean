/- Contracts and plain laws, a part of the proof; no condition of its own. -/
import Derived.Test.YtiiiljghmilepaaGreatS10c
set_option maxHeartbeats 32000000
open List renaming length_cons → yaz, map_cons → yae, drop_succ_cons → yao, drop_zero → yap, getD_cons_zero → yau, length_nil → yba, take_succ_cons → yaq, take_zero → yar, length_map → ybb, map_nil → yaf, append_nil → yaj
open Go Go.AL Go.Proofs
namespace Go.AL
set_option linter.all false
set_option maxRecDepth 10000
def qd:List AV→AHeap→(AEnd→AHeap→Prop)→Prop
 |[.ptr id 0,.slice .any 8 l],H,K=>∃ ts:List STable,(l=ts.map aU∧ts.length≤100∧∀ t∈ts,t.keys.length≤100)∧onC (H.get id) fun b v=>K (.ret (.slice .any 6 ((il b v ts).1.map fh))) (H.set id (db b (il b v ts).2))
 |_,_,_=>False
/-- n truth values -/
def bfN (n:Nat) (f:Nat→Bool):List AV:=(List.range n).map fun i=>.bool (f i)
theorem w7 {n:Nat} {f:Nat→Bool}:(bfN n f).length=n:=by simp [bfN]
theorem xn {n:Nat} {f g:Nat→Bool} {i:Nat} {b:Bool} (h:∀ j,j<n→g j=if j=i then b else f j):(bfN n f).set i (.bool b)=bfN n g:=by
 apply List.ext_getElem
 ·simp [bfN]
 ·intro j h1 h2
  have hj:j<n:=by simpa [bfN] using h2
  rw [List.getElem_set]
  simp only [bfN,List.getElem_map,List.getElem_range,h j hj]
  by_cases e:i=j
  ·subst e;simp
  ·rw [if_neg e,if_neg (fun x=>e x.symm)]
theorem CJ {n:Nat}:(List.replicate n [AV.bool false]).flatten=bfN n fun _=>false:=by
 induction n with
 |zero=>rfl
 |succ n ih =>
  rw [List.replicate_succ,List.flatten_cons,ih]
  apply List.ext_getElem
  ·simp [bfN]
  ·intro j h1 h2
   cases j<;>simp [bfN]
theorem xm {n:Nat} {f:Nat→Bool}:bfN n f=boL ((List.range n).map f):=by simp [bfN,boL]
theorem wY {m n:Nat} {f:Nat→Bool}:ltL m (bfN n f)=True:=eq_true (ltL_iff.2 fun j hj=>by
 simp only [bfN,List.getElem_map]
 rw [AV.lt]<;>simp)
theorem lT:∀ (l:List Bool),br 1 l.length (boL l)=boL l
 |[]=>rfl
 |x::l=>by
  rw [yaz,br,if_pos rfl]
  have:=lT l
  simp only [boL,yae,yao,yap,yau,iC] at this ⊢
  rw [this]
theorem tf {α:Type} {n:Nat} {f:α→AV} {a c:List AV} {l:List α} (h:a++c=l.map f) (hf:∀ x,AV.lt n (f x)):ltL n a=True:=eq_true (ltL_iff.2 fun j hj=>by
 have:a[j]∈l.map f:=by rw [← h];exact List.mem_append_left _ (List.getElem_mem hj)
 obtain ⟨x,_,e⟩:=List.mem_map.1 this
 rw [← e];exact hf x)
def s7 (i j:Nat) (g:List AV):List AV:=[.int .i64 1,.str [97,108,108],.slice (.own i) 4 g,.slice (.own j) 1 [.int .i64 1,.int .i64 2,.int .i64 3,.int .i64 4,.int .i64 5,.int .i64 6],.int .i64 40,.bool true]
def mY (b:List UInt8) (v i j:Nat) (g:List AV):List AV:=[.int .i64 2,.str [115,111,109,101],.slice (.own i) 4 g,.slice (.own j) 1 [.int .i64 1,.int .i64 2,.int .i64 (3+ci b (cp v 0) 3)],.int .i64 (1+ci b (cp v 1) 6),.bool false]
def sw (b:List UInt8) (v i j:Nat) (g:List AV):List AV:=[.int .i64 7,.str [102,101,119],.slice (.own i) 4 g,.slice (.own j) 1 [.int .i64 (1+ci b (cp v 2) 6)],.int .i64 (ci b (cp v 3) 4),.bool false]
/-- the heap at the head of the loop over the tables -/
def fx (H:AHeap) (id:Nat) (b:List UInt8) (v w:Nat) (a1 a2 a3:List AV):AHeap :=
 (((((((((((H.set id (db b (cp w 0))).push (.buf 6 0)).push (.buf 1 6)).push (.buf 4 a1.length)).push (.cells (s7 (H.nx+1+1) (H.nx+1) a1))).push (.buf 1 3)).push (.buf 4 a2.length)).push (.cells (mY b v (H.nx+1+1+1+1+1) (H.nx+1+1+1+1) a2))).push (.buf 1 1)).push (.buf 4 a3.length)).push (.cells (sw b v (H.nx+1+1+1+1+1+1+1+1) (H.nx+1+1+1+1+1+1+1) a3)))
/-- what is so at the head of that loop -/
structure RolI (b:List UInt8) (ts:List STable) (R:(List SGrant × List SGrant × List SGrant) × Nat) (k w:Nat) (a1 a2 a3:List AV):Prop where
 le:k≤ts.length
 l1:a1.length≤k
 l2:a2.length≤k
 l3:a3.length≤k
 e1:a1++(cT b (ts.drop k) w).1.1.map cQ=R.1.1.map cQ
 e2:a2++(cT b (ts.drop k) w).1.2.1.map cQ=R.1.2.1.map cQ
 e3:a3++(cT b (ts.drop k) w).1.2.2.map cQ=R.1.2.2.map cQ
 e4:(cT b (ts.drop k) w).2=R.2
theorem fJ {H:AHeap} {id:Nat} {b:List UInt8} {ts:List STable} {R:(List SGrant × List SGrant × List SGrant) × Nat} {v k w:Nat} {a1 a2 a3:List AV} (hcl:H.Closed) (h:RolI b ts R k w a1 a2 a3) (w':Nat):(fx H id b v w' a1 a2 a3).Closed:=by
 have q1:=fun n=>tf (n:=n) h.e1 nk
 have q2:=fun n=>tf (n:=n) h.e2 nk
 have q3:=fun n=>tf (n:=n) h.e3 nk
 unfold fx
 repeat' (first|exact ai hcl iI|refine af ?_|refine ae ?_ ?_)
 all_goals simp [s7,mY,sw,bf,zno,znp,zmz,znb,zna,zky,zkz,q1,q2,q3]
 all_goals omega
theorem yI:EntOk Tryz.prog 41 (Ent.effect qd):=by
 refine EntOk.effect fun args H K h=>?_
 unfold qd at h
 split at h
 rotate_left
 ·exact h.elim
 rename_i id l
 obtain ⟨ts,⟨rfl,hts,htk⟩,h⟩:=h
 obtain ⟨b,v,hg,hb,hv,hK⟩:=jA h
 refine ⟨_,_,hK,?_⟩
 clear hK
 generalize hres:AV.slice .any 6 ((il b v ts).1.map fh)=res
 generalize hR:cT b ts (v+4)=R
 have hend:(il b v ts).2=R.2:=by rw [← hR];rfl
 rw [hend]
 refine ACalls.fW aF (TblOk.cons jb (TblOk.cons i9 TblOk.nil)) Tryz.func41 [.tmp 4] (Nat.le_refl _) (T:=aD [(16,[[],[],[],[],[],[],[],[],[5],[],[],[3,5,8],[1,3,5,8],[],[1,3,5,8]]),(18,[[],[],[],[],[],[],[],[5],[],[],[3,5,7],[1,3,5,7],[],[1,3,5,7]]),(1,[[7]]),(2,[[25]]),(3,[[22]]),(14,[[1]]),(20,[[16]])]) (h:=fun hcl hlt=>?_)
 clear hlt
 have hid:=AHeap.get_lt hg
 have hne:=oq hid
 have hgc:=kC (b:=b) hid
 have hcl2:∀ w,(H.set id (db b w)).Closed:=fun w=>ai hcl iI
 have e2:(2:Int).toNat=2:=rfl
 have e3:(3:Int).toNat=3:=rfl
 have e4:(4:Int).toNat=4:=rfl
 have e6:(6:Int).toNat=6:=rfl
 have w1:∀ (u n:Nat) (k:Int),0<n→n≤100→0≤k→k≤100→IntKind.i64.wrap (k+((cv b u n:Nat):Int))=k+((cv b u n:Nat):Int):=fun u n k h1 h2 h3 h4=>by
  have:=j3 (b:=b) (v:=u) (n:=n) h1
  rw [wrap_i64 (by omega) (by omega)]
 have a33:∀ u,IntKind.i64.wrap (3+((cv b u 3:Nat):Int))=3+((cv b u 3:Nat):Int):=fun u=>w1 u 3 3 (by decide) (by decide) (by decide) (by decide)
 have a16:∀ u,IntKind.i64.wrap (1+((cv b u 6:Nat):Int))=1+((cv b u 6:Nat):Int):=fun u=>w1 u 6 1 (by decide) (by decide) (by decide) (by decide)
 simp only [go_sem,bhq,Nat.reduceMod,Nat.reduceDiv,bG,bH,bI,cD,bJ,cz,cE,cr,ct,yaq,yar,yao,yap,bC,bv,hg,hgc,bB hb,bR,bk,cd,hne,e2,e3,e4,e6,a33,a16]
 refine kq 14 2 4 _ rfl rfl ?_
 simp only [go_sem,bhq,Nat.reduceMod,Nat.reduceDiv,bG,bH,bI,cD,bJ,cz,cE,cr,ct,yaq,yar,yao,yap,bC,bv,hg,hgc,bB hb,bR,bk,cd,hne,e2,e3,e4,e6,a33,a16,List.set_cons_succ,List.set_cons_zero]
 (repeat with_reducible refine And.intro (by first|exact True.intro|decide|omega|(simp [zik,zgl,zgm,zgn,zgp,zgo,zgt];first|done|omega)) ?_)
 refine kq 22 2 4 _ rfl rfl ?_
 simp only [go_sem,bhq,Nat.reduceMod,Nat.reduceDiv,bG,bH,bI,cD,bJ,cz,cE,cr,ct,yaq,yar,yao,yap,bC,bv,hg,hgc,bB hb,bR,bk,cd,hne,e2,e3,e4,e6,a33,a16,List.set_cons_succ,List.set_cons_zero]
 (repeat with_reducible refine And.intro (by first|exact True.intro|decide|omega|(simp [zik,zgl,zgm,zgn,zgp,zgo,zgt];first|done|omega)) ?_)
 refine kq 29 2 4 _ rfl rfl ?_
 simp only [go_sem,bhq,Nat.reduceMod,Nat.reduceDiv,bG,bH,bI,cD,bJ,cz,cE,cr,ct,yaq,yar,yao,yap,bC,bv,hg,hgc,bB hb,bR,bk,cd,hne,e2,e3,e4,e6,a33,a16,List.set_cons_succ,List.set_cons_zero]
 refine av (A:=Nat × Nat × List AV × List AV × List AV) (fun x=>[(0,.ptr id 0),(5,.ptr (H.nx+1+1+1) 0),(6,.ptr (H.nx+1+1+1+1+1+1) 0),(7,.ptr (H.nx+1+1+1+1+1+1+1+1+1) 0),(30,.slice .any 8 (ts.map aU)),(31,.int .i64 (ts.length:Int)),(32,.int .i64 (x.1:Int))]) (fun x=>fx H id b v x.2.1 x.2.2.1 x.2.2.2.1 x.2.2.2.2) (fun x=>RolI b ts R x.1 x.2.1 x.2.2.1 x.2.2.2.1 x.2.2.2.2) (fun x=>ts.length - x.1) (0,v+4,[],[],[]) ⟨by omega,by simp,by simp,by simp,by rw [← hR];rfl,by rw [← hR];rfl,by rw [← hR];rfl,by rw [← hR];rfl⟩ ?_ fun x hx=>?_
 ·refine ⟨by simp only [fx,zky,zkz,zkk,zkp];omega,AHeap.Le.refl _,fJ (ts:=ts) (R:=R) (k:=0) (w:=v+4) hcl ⟨by omega,by simp,by simp,by simp,by rw [← hR];rfl,by rw [← hR];rfl,by rw [← hR];rfl,by rw [← hR];rfl⟩ _,?_,?_⟩
  ·simp [ltF,fx,znh,zmz,zky,zkz,bY da]
   omega
  ·simp [aR,wk2,wk1,wkM,Fr.get]
 obtain ⟨k,w,a1,a2,a3⟩:=x
 dsimp only at hx ⊢
 have hclo:=fun w'=>fJ (id:=id) (v:=v) hcl hx w'
 obtain ⟨hk,l1,l2,l3,i1,i2,i3,i4⟩:=hx
 simp only [go_sem]
 refine aj (fun hc=>?_) (fun hc=>?_)
 ·have hk':k<ts.length:=by simp at hc;omega
  obtain ⟨t,ht⟩:∃ t,t=ts[k]:=⟨_,rfl⟩
  have hd:ts.drop k=t::ts.drop (k+1):=by rw [ht];exact List.drop_eq_getElem_cons hk'
  have hkl:t.keys.length≤100:=htk t (by rw [ht];exact List.getElem_mem hk')
  have htg:(ts.map aU).getD k .junk=.agg [.int .i64 t.id,.str t.name,.slice .any 3 (t.keys.map dh),.slice .any 1 (inL t.actions),.int .i64 t.dflt,.slice .any 2 (t.dargs.map vv),.int .i64 t.size,.str t.restr]:=by
   rw [List.getD_eq_getElem?_getD,List.getElem?_map,List.getElem?_eq_getElem hk',← ht];rfl
  have hT:∀ n,ltL n ([.int .i64 t.id,.str t.name,.slice .any 3 (t.keys.map dh),.slice .any 1 (inL t.actions),.int .i64 t.dflt,.slice .any 2 (t.dargs.map vv),.int .i64 t.size,.str t.restr]:List AV):=fun n=>ltL_iff.2 fun j hj=>AV.lt_cells (da t) j hj
  have hclT:∀ w',((fx H id b v w' a1 a2 a3).push (.cells [.int .i64 t.id,.str t.name,.slice .any 3 (t.keys.map dh),.slice .any 1 (inL t.actions),.int .i64 t.dflt,.slice .any 2 (t.dargs.map vv),.int .i64 t.size,.str t.restr])).Closed:=fun w'=>ae (hclo w') (hT _)
  have hclo2:∀ w' f g,((((fx H id b v w' a1 a2 a3).push (.cells [.int .i64 t.id,.str t.name,.slice .any 3 (t.keys.map dh),.slice .any 1 (inL t.actions),.int .i64 t.dflt,.slice .any 2 (t.dargs.map vv),.int .i64 t.size,.str t.restr])).push (.cells (bfN t.keys.length f))).push (.cells (bfN t.keys.length g))).Closed:=fun w' f g =>
   ae (ae (hclT w') (by simp [wY])) (by simp [wY])
  have hrn:∀ w',(fx H id b v w' a1 a2 a3).nx=(H.nx+1+1+1+1+1+1+1+1+1+1):=fun _=>rfl
  simp only [go_sem,fx,s7,mY,sw,htg,Int.toNat_natCast,ybb,CJ,w7]
  (repeat with_reducible refine And.intro (by first|exact True.intro|decide|omega|(simp [zik,zgl,zgm,zgn,zgp,zgo,zgt];first|done|omega)) ?_)
  refine av (A:=Nat) (fun j=>[(0,.ptr id 0),(5,.ptr (H.nx+1+1+1) 0),(6,.ptr (H.nx+1+1+1+1+1+1) 0),(7,.ptr (H.nx+1+1+1+1+1+1+1+1+1) 0),(9,.ptr (H.nx+1+1+1+1+1+1+1+1+1+1) 0),(10,.ms (H.nx+1+1+1+1+1+1+1+1+1+1+1) 0 1 t.keys.length),(11,.ms (H.nx+1+1+1+1+1+1+1+1+1+1+1+1) 0 1 t.keys.length),(30,.slice .any 8 (ts.map aU)),(31,.int .i64 (ts.length:Int)),(32,.int .i64 (k:Int)),(45,.int .i64 (t.keys.length:Int)),(46,.int .i64 (j:Int))]) (fun j=>(((fx H id b v (w+j) a1 a2 a3).push (.cells [.int .i64 t.id,.str t.name,.slice .any 3 (t.keys.map dh),.slice .any 1 (inL t.actions),.int .i64 t.dflt,.slice .any 2 (t.dargs.map vv),.int .i64 t.size,.str t.restr])).push (.cells (bfN t.keys.length fun i=>decide (i<j)))).push (.cells (bfN t.keys.length fun i=>decide (i<j)&&decide (ci b (w+i) 4 > 0)))) (fun j=>j≤t.keys.length) (fun j=>t.keys.length - j) 0 (by omega) ?_ fun j hj=>?_
  ·simp only [Nat.not_lt_zero,decide_false,Bool.false_and]
   refine ⟨by simp only [zky,hrn,zkk,zkp];omega,AHeap.Le.refl _,hclo2 _ _ _,?_,?_⟩
   ·simp [ltF,hrn,znh,znj,zmz,zky,zkz,bY da]
    omega
   ·simp [aR,wk2,wk1,wkM,Fr.get]
  simp only [go_sem]
  refine aj (fun hc2=>?_) (fun hc2=>?_)
  ·have hj':j<t.keys.length:=by simp at hc2;omega
   have e5:IntKind.i64.wrap ((j:Int)+1)=((j+1:Nat):Int):=by rw [wrap_i64]<;>omega
   have hs1:(bfN t.keys.length fun i=>decide (i<j)).set j (.bool true)=bfN t.keys.length fun i=>decide (i<j+1):=xn fun i hi=>by
    by_cases e:i=j
    ·subst e;simp
    ·rw [if_neg e,decide_eq_decide];omega
   have hs2:(bfN t.keys.length fun i=>decide (i<j)&&decide (ci b (w+i) 4 > 0)).set j (.bool (decide (ci b (cp (w+j) 0) 4 > 0)))=bfN t.keys.length fun i=>decide (i<j+1)&&decide (ci b (w+i) 4 > 0):=xn fun i hi=>by
    by_cases e:i=j
    ·subst e;simp [cp]
    ·rw [if_neg e];congr 1;rw [decide_eq_decide];omega
   simp only [dl,dj,bhq,Nat.reduceMod,Nat.reduceDiv,bG,bH,bI,cD,bJ,cz,cE,cr,ct,yaq,yar,yao,yap,go_sem,bC,bv,hgc,bB hb,bR,bk,cd,hne,e4,fx,s7,mY,sw,List.length_append,ybb,Int.toNat_natCast,w7,ig,Nat.zero_add,Nat.mul_one,hs1,hs2,e5]
   (repeat with_reducible refine And.intro (by first|exact True.intro|decide|omega|(simp [zik,zgl,zgm,zgn,zgp,zgo,zgt];first|done|omega)) ?_)
   refine ⟨j+1,by omega,by omega,by simp only [zky,hrn,zkz,zkk,zkp];omega,AHeap.Le.refl _,hclo2 _ _ _,?_,?_⟩
   ·simp [ltF,hrn,znh,znj,zmz,zky,zkz,bY da]
    omega
   ·simp [aR,wk2,wk1,wkM,Fr.get]
  have hj':j=t.keys.length:=by simp at hc2;omega
  subst hj'
  have y1:(bfN t.keys.length fun i=>decide (i<t.keys.length))=boL (List.replicate t.keys.length true):=by
   rw [xm];congr 1
   apply List.ext_getElem
   ·simp
   ·intro i h1 h2;simp at h1 ⊢;exact h1
  have y2:(bfN t.keys.length fun i=>decide (i<t.keys.length)&&decide (ci b (w+i) 4 > 0))=boL (iy b w t.keys.length):=by
   rw [xm];congr 1
   unfold iy
   refine List.map_congr_left fun i hi=>?_
   have:=List.mem_range.1 hi
   simp [this]
  rw [y1,y2]
  simp only [dl,dj,bhq,Nat.reduceMod,Nat.reduceDiv,bG,bH,bI,cD,bJ,cz,cE,cr,ct,yaq,yar,yao,yap,go_sem,bC,bv,hgc,bB hb,bR,bk,cd,hne,e4,fx,s7,mY,sw,List.length_append,ybb]
  refine rM [(0,.ptr id 0),(5,.ptr (H.nx+1+1+1) 0),(6,.ptr (H.nx+1+1+1+1+1+1) 0),(7,.ptr (H.nx+1+1+1+1+1+1+1+1+1) 0),(9,.ptr (H.nx+1+1+1+1+1+1+1+1+1+1) 0),(10,.slice .any 1 (boL (List.replicate t.keys.length true))),(11,.slice .any 1 (boL (iy b w t.keys.length))),(30,.slice .any 8 (ts.map aU)),(31,.int .i64 (ts.length:Int)),(32,.int .i64 (k:Int))] ((fx H id b v (w+t.keys.length) a1 a2 a3).push (.cells [.int .i64 t.id,.str t.name,.slice .any 3 (t.keys.map dh),.slice .any 1 (inL t.actions),.int .i64 t.dflt,.slice .any 2 (t.dargs.map vv),.int .i64 t.size,.str t.restr])) ⟨by simp only [zky,hrn,zkk,zkp,ni];omega,((AHeap.Le.refl _).push _).push _,hclT _,?_,?_⟩ ?_
  ·simp [ltF,hrn,znh,znj,zmz,zky,zkz,bY da,zO]
   omega
  ·have yr1:br 1 t.keys.length (boL (List.replicate t.keys.length true))=boL (List.replicate t.keys.length true):=by
    have:=lT (List.replicate t.keys.length true)
    rw [List.length_replicate] at this;exact this
   have yr2:br 1 t.keys.length (boL (iy b w t.keys.length))=boL (iy b w t.keys.length):=by
    have:=lT (iy b w t.keys.length)
    rw [show (iy b w t.keys.length).length=t.keys.length by simp [iy]] at this;exact this
   have hn1:∀ w' o,((fx H id b v w' a1 a2 a3).push o).get (H.nx+1+1+1+1+1+1+1+1+1+1+1)=none:=fun w' o=>zmp (by rw [zky,hrn];omega)
   have hn2:∀ w' o,((fx H id b v w' a1 a2 a3).push o).get (H.nx+1+1+1+1+1+1+1+1+1+1+1+1)=none:=fun w' o=>zmp (by rw [zky,hrn];omega)
   simp only [aR,wk2,wk1,wkM,go_sem,yap,yr1,yr2,hn1,hn2,true_or,or_true,and_self]
  simp only [dl,dj,bhq,Nat.reduceMod,Nat.reduceDiv,bG,bH,bI,cD,bJ,cz,cE,cr,ct,yaq,yar,yao,yap,go_sem,bC,bv,hgc,bB hb,bR,bk,cd,hne,e4,fx,s7,mY,sw,ybb]
  (repeat with_reducible refine And.intro (by first|exact True.intro|decide|omega|(simp [zik,zgl,zgm,zgn,zgp,zgo,zgt];first|done|omega)) ?_)
  have e5:IntKind.i64.wrap ((k:Int)+1)=((k+1:Nat):Int):=by rw [wrap_i64]<;>omega
  refine aj (fun h1=>?_) (fun h1=>?_)
  all_goals
   try simp only [dl,dj,bhq,Nat.reduceMod,Nat.reduceDiv,bG,bH,bI,cD,bJ,cz,cE,cr,ct,yaq,yar,yao,yap,go_sem,bC,bv,hgc,bB hb,bR,bk,cd,hne,e4,fx,s7,mY,sw,ybb]
   try (repeat with_reducible refine And.intro (by first|exact True.intro|decide|omega|(simp [zik,zgl,zgm,zgn,zgp,zgo,zgt];first|done|omega)) ?_)
   refine aj (fun h2=>?_) (fun h2=>?_)
  all_goals
   try simp only [dl,dj,bhq,Nat.reduceMod,Nat.reduceDiv,bG,bH,bI,cD,bJ,cz,cE,cr,ct,yaq,yar,yao,yap,go_sem,bC,bv,hgc,bB hb,bR,bk,cd,hne,e4,fx,s7,mY,sw,ybb,e5]
   try (repeat with_reducible refine And.intro (by first|exact True.intro|decide|omega|(simp [zik,zgl,zgm,zgn,zgp,zgo,zgt];first|done|omega)) ?_)
  ·have hp1:(0<cv b (w+t.keys.length) 4)=True:=eq_true (by have h:=of_decide_eq_true h1;simp only [cp,Nat.add_zero] at h;omega)
   have hp2:(cv b (w+(t.keys.length+3)) 2=1)=True:=eq_true (by have h:=of_decide_eq_true h2;unfold cp at h;rw [Nat.add_assoc] at h;exact h)
   rw [hd] at i1 i2 i3 i4
   simp only [cT,hp1,hp2,if_true,if_false,Nat.add_assoc,Nat.reduceAdd] at i1 i2 i3 i4
   have hI:RolI b ts R (k+1) (w+(t.keys.length+6)) (a1++[.agg [.int .i64 t.id,.bool true,.bool true,.slice .any 1 (boL (List.replicate t.keys.length true))]]) (a2++[.agg [.int .i64 t.id,.bool (decide (0<ci b (w+t.keys.length+1) 4)),.bool (decide (cv b (w+t.keys.length+2) 2=1)),.slice .any 1 (boL (iy b w t.keys.length))]]) (a3++[.agg [.int .i64 t.id,.bool (decide (cv b (w+t.keys.length+4) 2=1)),.bool (decide (cv b (w+t.keys.length+5) 2=1)),.slice .any 1 (boL (List.replicate t.keys.length true))]]):=by
    refine ⟨by omega,by (try simp only [List.length_append,yaz,yba]);omega,by (try simp only [List.length_append,yaz,yba]);omega,by (try simp only [List.length_append,yaz,yba]);omega,?_,?_,?_,i4⟩
    ·simpa [cQ,Nat.add_assoc] using i1
    ·simpa [cQ,Nat.add_assoc] using i2
    ·simpa [cQ,Nat.add_assoc] using i3
   refine ⟨(_,_,_,_,_),hI,by dsimp only;omega,by simp only [fx,zky,zkz];omega,?_,fJ hcl hI _,?_,?_⟩
   ·simp only [fx,List.length_append,yaz,yba]
    repeat first|exact .refl _|refine .push ?_ _
   ·simp [ltF,fx,znh,zmz,zky,zkz,bY da]
    omega
   ·simp [aR,wk2,wk1,wkM,Fr.get]
  ·have hp1:(0<cv b (w+t.keys.length) 4)=True:=eq_true (by have h:=of_decide_eq_true h1;simp only [cp,Nat.add_zero] at h;omega)
   have hp2:(cv b (w+(t.keys.length+3)) 2=1)=False:=eq_false (by have h:=of_decide_eq_false h2;unfold cp at h;rw [Nat.add_assoc] at h;exact h)
   rw [hd] at i1 i2 i3 i4
   simp only [cT,hp1,hp2,if_true,if_false,Nat.add_assoc,Nat.reduceAdd] at i1 i2 i3 i4
   have hI:RolI b ts R (k+1) (w+(t.keys.length+4)) (a1++[.agg [.int .i64 t.id,.bool true,.bool true,.slice .any 1 (boL (List.replicate t.keys.length true))]]) (a2++[.agg [.int .i64 t.id,.bool (decide (0<ci b (w+t.keys.length+1) 4)),.bool (decide (cv b (w+t.keys.length+2) 2=1)),.slice .any 1 (boL (iy b w t.keys.length))]]) (a3):=by
    refine ⟨by omega,by (try simp only [List.length_append,yaz,yba]);omega,by (try simp only [List.length_append,yaz,yba]);omega,by (try simp only [List.length_append,yaz,yba]);omega,?_,?_,?_,i4⟩
    ·simpa [cQ,Nat.add_assoc] using i1
    ·simpa [cQ,Nat.add_assoc] using i2
    ·simpa [cQ,Nat.add_assoc] using i3
   refine ⟨(_,_,_,_,_),hI,by dsimp only;omega,by simp only [fx,zky,zkz];omega,?_,fJ hcl hI _,?_,?_⟩
   ·simp only [fx,List.length_append,yaz,yba]
    repeat first|exact .refl _|refine .push ?_ _
   ·simp [ltF,fx,znh,zmz,zky,zkz,bY da]
    omega
   ·simp [aR,wk2,wk1,wkM,Fr.get]
  ·have hp1:(0<cv b (w+t.keys.length) 4)=False:=eq_false (by have h:=of_decide_eq_false h1;simp only [cp,Nat.add_zero] at h;omega)
   have hp2:(cv b (w+(t.keys.length+1)) 2=1)=True:=eq_true (by have h:=of_decide_eq_true h2;unfold cp at h;rw [Nat.add_assoc] at h;exact h)
   rw [hd] at i1 i2 i3 i4
   simp only [cT,hp1,hp2,if_true,if_false,Nat.add_assoc,Nat.reduceAdd] at i1 i2 i3 i4
   have hI:RolI b ts R (k+1) (w+(t.keys.length+4)) (a1++[.agg [.int .i64 t.id,.bool true,.bool true,.slice .any 1 (boL (List.replicate t.keys.length true))]]) (a2) (a3++[.agg [.int .i64 t.id,.bool (decide (cv b (w+t.keys.length+2) 2=1)),.bool (decide (cv b (w+t.keys.length+3) 2=1)),.slice .any 1 (boL (List.replicate t.keys.length true))]]):=by
    refine ⟨by omega,by (try simp only [List.length_append,yaz,yba]);omega,by (try simp only [List.length_append,yaz,yba]);omega,by (try simp only [List.length_append,yaz,yba]);omega,?_,?_,?_,i4⟩
    ·simpa [cQ,Nat.add_assoc] using i1
    ·simpa [cQ,Nat.add_assoc] using i2
    ·simpa [cQ,Nat.add_assoc] using i3
   refine ⟨(_,_,_,_,_),hI,by dsimp only;omega,by simp only [fx,zky,zkz];omega,?_,fJ hcl hI _,?_,?_⟩
   ·simp only [fx,List.length_append,yaz,yba]
    repeat first|exact .refl _|refine .push ?_ _
   ·simp [ltF,fx,znh,zmz,zky,zkz,bY da]
    omega
   ·simp [aR,wk2,wk1,wkM,Fr.get]
  ·have hp1:(0<cv b (w+t.keys.length) 4)=False:=eq_false (by have h:=of_decide_eq_false h1;simp only [cp,Nat.add_zero] at h;omega)
   have hp2:(cv b (w+(t.keys.length+1)) 2=1)=False:=eq_false (by have h:=of_decide_eq_false h2;unfold cp at h;rw [Nat.add_assoc] at h;exact h)
   rw [hd] at i1 i2 i3 i4
   simp only [cT,hp1,hp2,if_true,if_false,Nat.add_assoc,Nat.reduceAdd] at i1 i2 i3 i4
   have hI:RolI b ts R (k+1) (w+(t.keys.length+2)) (a1++[.agg [.int .i64 t.id,.bool true,.bool true,.slice .any 1 (boL (List.replicate t.keys.length true))]]) (a2) (a3):=by
    refine ⟨by omega,by (try simp only [List.length_append,yaz,yba]);omega,by (try simp only [List.length_append,yaz,yba]);omega,by (try simp only [List.length_append,yaz,yba]);omega,?_,?_,?_,i4⟩
    ·simpa [cQ,Nat.add_assoc] using i1
    ·simpa [cQ,Nat.add_assoc] using i2
    ·simpa [cQ,Nat.add_assoc] using i3
   refine ⟨(_,_,_,_,_),hI,by dsimp only;omega,by simp only [fx,zky,zkz];omega,?_,fJ hcl hI _,?_,?_⟩
   ·simp only [fx,List.length_append,yaz,yba]
    repeat first|exact .refl _|refine .push ?_ _
   ·simp [ltF,fx,znh,zmz,zky,zkz,bY da]
    omega
   ·simp [aR,wk2,wk1,wkM,Fr.get]
 ·have hk':k=ts.length:=by simp at hc;omega
  subst hk'
  simp only [bhq,Nat.reduceMod,Nat.reduceDiv,bG,bH,bI,cD,bJ,cz,cE,cr,ct,yaq,yar,yao,yap,go_sem,fx,s7,mY,sw]
  (repeat with_reducible refine And.intro (by first|exact True.intro|decide|omega|(simp [zik,zgl,zgm,zgn,zgp,zgo,zgt];first|done|omega)) ?_)
  simp only [List.drop_length,cT,yaf,yaj] at i1 i2 i3 i4
  subst i4
  refine gg 4 res ?_ ?_
  ·rw [← hres]
   simp only [il,hR]
   simp [Fr.get,fh,inL,i1,i2,i3,cp,AV.cells,iS,eZ,fa,fO,e7,fY,iG,gY,gF,wkM,sa]
  simp only [bhq,Nat.reduceMod,Nat.reduceDiv,bG,bH,bI,cD,bJ,cz,cE,cr,ct,yaq,yar,yao,yap,go_sem]
  subst hres
  refine ⟨?_,?_,hcl2 _,bY wL⟩
  ·simp [wk,wk2,wk1,wkM]
  ·repeat first|exact .refl _|refine .push ?_ _
end Go.AL
open Go Go.AL Go.Proofs
namespace Go.AL
set_option linter.all false
set_option maxRecDepth 10000
/-- what a function takes from the choices does not depend on the place behind their end -/
def oO (g:List UInt8→Nat→AV × Nat):Prop:=∀ b v,(g b (min v b.length)).1=(g b v).1∧∃ c,(g b (min v b.length)).2=min v b.length+c∧(g b v).2=v+c
def onS (o:Option AObj) (g:List UInt8→Nat→AV × Nat) (K:AV→AObj→Prop):Prop:=onC o fun b v=>K (g b v).1 (db b (g b v).2)
@[congr] theorem D2 {o o':Option AObj} {g:List UInt8→Nat→AV × Nat} {K:AV→AObj→Prop} (h:o=o'):onS o g K=onS o' g K:=by rw [h]
theorem cC {b:List UInt8} {v:Nat} {g:List UInt8→Nat→AV × Nat} {K:AV→AObj→Prop} (hb:b.length≤1000000) (hg:oO g):onS (some (db b v)) g K=K (g b v).1 (db b (g b v).2):=by
 unfold onS
 rw [bB hb]
 obtain ⟨h1,c,h2,h3⟩:=hg b v
 rw [h1,h2,h3,bk]
theorem nV {g:List UInt8→Nat→AV × Nat} {id:Nat} {H:AHeap} {K:AEnd→AHeap→Prop}:eG g [.ptr id 0] H K=onS (H.get id) g fun x o=>K (.ret x) (H.set id o):=(rfl)
def km:List UInt8→Nat→AV × Nat:=fun b v=>(.slice .any 5 ((bK b v).1.map cI),(bK b v).2)
def i8:List UInt8→Nat→AV × Nat:=fun b v=>(.slice .any 5 ((cl b v).map aS),v+4)
def kg:List UInt8→Nat→AV × Nat:=fun b v=>(.slice .any 8 ((cf b v).map aU),v+12)
def mQ (ts:List STable):List UInt8→Nat→AV × Nat:=fun b v=>(.slice .any 6 ((il b v ts).1.map fh),(il b v ts).2)
theorem g9:oO km:=fun b v=>by
 have e:bK b (min v b.length)=((bK b v).1,(bK b v).2 - v+min v b.length):=by
  unfold bK
  simp only [gt,bR]
  repeat' split
  all_goals (refine Prod.ext rfl ?_;dsimp only;omega)
 have h:∃ c,(bK b v).2=v+c:=by
  unfold bK
  repeat' split
  all_goals exact ⟨_,rfl⟩
 obtain ⟨c,hc⟩:=h
 unfold km
 dsimp only
 rw [e]
 exact ⟨rfl,c,by dsimp only;omega,hc⟩
theorem ge:oO i8:=fun b v=>by
 have e:cl b (min v b.length)=cl b v:=by unfold cl ci;simp only [gt,bR]
 unfold i8
 dsimp only
 rw [e]
 exact ⟨rfl,4,rfl,rfl⟩
theorem hM:oO kg:=fun b v=>by
 have e:cf b (min v b.length)=cf b v:=by unfold cf jK mG ef ei ci;simp only [gt,bR]
 unfold kg
 dsimp only
 rw [e]
 exact ⟨rfl,12,rfl,rfl⟩
theorem k9 {b:List UInt8} {v k n:Nat}:iy b (min v b.length+k) n=iy b (v+k) n:=by
 unfold iy
 refine List.map_congr_left fun i _=>?_
 rw [Nat.add_assoc,Nat.add_assoc]
 unfold ci
 rw [gt]
theorem gD {b:List UInt8} {v:Nat}:∀ (ts:List STable) (k:Nat),(cT b ts (min v b.length+k)).1=(cT b ts (v+k)).1∧∃ c,(cT b ts (min v b.length+k)).2=min v b.length+c∧(cT b ts (v+k)).2=v+c
 |[],k=>⟨rfl,k,rfl,rfl⟩
 |t::ts,k=>by
  have hb:∀ j n,cv b (min v b.length+j) n=cv b (v+j) n:=fun j n=>gt
  by_cases h1:0<cv b (v+(k+t.keys.length)) 4
  ·by_cases h2:cv b (v+(k+t.keys.length+3)) 2=1
   ·obtain ⟨i1,c,i2,i3⟩:=gD ts (k+t.keys.length+3+3)
    simp only [Nat.add_assoc,Nat.reduceAdd] at i1 i2 i3 h1 h2
    simp only [cT,Nat.add_assoc,Nat.reduceAdd,hb,ci,h1,h2,if_true,k9]
    rw [i1]
    exact ⟨rfl,c,i2,i3⟩
   ·obtain ⟨i1,c,i2,i3⟩:=gD ts (k+t.keys.length+3+1)
    simp only [Nat.add_assoc,Nat.reduceAdd] at i1 i2 i3 h1 h2
    simp only [cT,Nat.add_assoc,Nat.reduceAdd,hb,ci,h1,h2,if_true,if_false,k9]
    rw [i1]
    exact ⟨rfl,c,i2,i3⟩
  ·by_cases h2:cv b (v+(k+t.keys.length+1)) 2=1
   ·obtain ⟨i1,c,i2,i3⟩:=gD ts (k+t.keys.length+1+3)
    simp only [Nat.add_assoc,Nat.reduceAdd] at i1 i2 i3 h1 h2
    simp only [cT,Nat.add_assoc,Nat.reduceAdd,hb,ci,h1,h2,if_true,if_false,k9]
    rw [i1]
    exact ⟨rfl,c,i2,i3⟩
   ·obtain ⟨i1,c,i2,i3⟩:=gD ts (k+t.keys.length+1+1)
    simp only [Nat.add_assoc,Nat.reduceAdd] at i1 i2 i3 h1 h2
    simp only [cT,Nat.add_assoc,Nat.reduceAdd,hb,ci,h1,h2,if_true,if_false,k9]
    rw [i1]
    exact ⟨rfl,c,i2,i3⟩
theorem kv (ts:List STable):oO (mQ ts):=fun b v=>by
 obtain ⟨i1,c,i2,i3⟩:=gD (b:=b) (v:=v) ts 4
 unfold mQ il
 dsimp only
 rw [i1]
 unfold ci
 simp only [gt,bR]
 exact ⟨trivial,c,i2,i3⟩
theorem yH {b:List UInt8} {v:Nat}:(km b v).1=.slice .any 5 ((bK b v).1.map cI):=(rfl)
theorem yE {b:List UInt8} {v:Nat}:(km b v).2=(bK b v).2:=(rfl)
theorem xv {b:List UInt8} {v:Nat}:(i8 b v).1=.slice .any 5 ((cl b v).map aS):=(rfl)
theorem y8 {b:List UInt8} {v:Nat}:(i8 b v).2=cp v 4:=(rfl)
theorem xQ {b:List UInt8} {v:Nat}:(kg b v).1=.slice .any 8 ((cf b v).map aU):=(rfl)
theorem yu {b:List UInt8} {v:Nat}:(kg b v).2=cp v 12:=(rfl)
theorem Bg {b:List UInt8} {v:Nat} {ts:List STable}:(mQ ts b v).1=.slice .any 6 ((il b v ts).1.map fh):=(rfl)
theorem Bb {b:List UInt8} {v:Nat} {ts:List STable}:(mQ ts b v).2=cp (il b v ts).2 0:=(rfl)
theorem qU {v k n:Nat}:cp (cp v k) n=cp v (k+n):=by unfold cp;omega
theorem tg2 {b:List UInt8} {w:Nat}:(List.map aU (cf b w)).getD 2 .junk=.agg [.int .i64 (ef b w).id,.str (ef b w).name,.slice .any 3 ((ef b w).keys.map dh),.slice .any 1 (inL (ef b w).actions),.int .i64 (ef b w).dflt,.slice .any 2 ((ef b w).dargs.map vv),.int .i64 (ef b w).size,.str (ef b w).restr]:=(rfl)
theorem tg3 {b:List UInt8} {w:Nat}:(List.map aU (cf b w)).getD 3 .junk=.agg [.int .i64 (ei b w).id,.str (ei b w).name,.slice .any 3 ((ei b w).keys.map dh),.slice .any 1 (inL (ei b w).actions),.int .i64 (ei b w).dflt,.slice .any 2 ((ei b w).dargs.map vv),.int .i64 (ei b w).size,.str (ei b w).restr]:=(rfl)
theorem tgl {b:List UInt8} {w:Nat}:(cf b w).length=4:=(rfl)
theorem k2l {b:List UInt8} {w:Nat}:(((ef b w).keys.length:Int)==3)=decide (cv b (cp w 5) 2=1):=by
 by_cases h:cv b (w+5) 2=1<;>simp [ef,cp,h]
theorem k3l {b:List UInt8} {w:Nat}:(((ei b w).keys.length:Int)==3)=decide (cv b (cp w 7) 2=1):=by
 by_cases h:cv b (w+7) 2=1<;>simp [ei,cp,h]
def CM (p:Prop):Bool→Prop|true=>p|false=>¬ p
theorem nJ {p:Prop} [Decidable p] {t:Bool} (h:decide p=t):CM p t:=by
 cases t
 ·exact (of_decide_eq_false h:¬ p)
 ·exact (of_decide_eq_true h:p)
theorem Bd {id:Nat} {ts:List STable} {H:AHeap} {K:AEnd→AHeap→Prop} (h1:ts.length≤100) (h2:∀ t∈ts,t.keys.length≤100) (h:onS (H.get id) (mQ ts) fun x o=>K (.ret x) (H.set id o)) :
 qd [.ptr id 0,.slice .any 8 (ts.map aU)] H K:=⟨ts,⟨rfl,h1,h2⟩,h⟩
def nL:=eG fun b v=>(n8 (fq b v).1,(fq b v).2)
theorem oR:EntOk Tryz.prog 9 (Ent.effect nL):=by
 unfold nL
 refine EntOk.effect fun args H K h=>?_
 unfold eG at h
 split at h
 rotate_left
 ·exact h.elim
 rename_i id
 obtain ⟨b,v,hg,hb,hv,hK⟩:=jA h
 refine ⟨_,_,hK,?_⟩
 clear hK
 dsimp only
 generalize hS:(fq b v).1=S
 generalize hpos:(fq b v).2=pos
 refine ACalls.fW aF (TblOk.cons jb (TblOk.cons i9 (TblOk.cons wu (TblOk.cons uT (TblOk.cons vE (TblOk.cons yI TblOk.nil)))))) Tryz.func9 [.cell 2 35] (Nat.le_refl _) (T:=aD [(15,[[4]])]) (h:=fun hcl hlt=>?_)
 clear hlt
 have hid:=AHeap.get_lt hg
 have hne:=oq hid
 have hne2:=oq (show id<H.nx+1+1+1+1+1+1+1+1+1+1+1+1+1+1+1+1 by omega)
 have hgc:=kC (b:=b) hid
 have hcl2:∀ w,(H.set id (db b w)).Closed:=fun w=>ai hcl iI
 have e8:(8:Int).toNat=8:=rfl
 have e30:(30:Int).toNat=30:=rfl
 have w1:∀ (u n:Nat) (k:Int),0<n→n≤100→0≤k→k≤100→IntKind.i64.wrap (k+((cv b u n:Nat):Int))=k+((cv b u n:Nat):Int):=fun u n k h1 h2 h3 h4=>by
  have:=j3 (b:=b) (v:=u) (n:=n) h1
  rw [wrap_i64 (by omega) (by omega)]
 have a28:∀ u,IntKind.i64.wrap (2+((cv b u 8:Nat):Int))=2+((cv b u 8:Nat):Int):=fun u=>w1 u 8 2 (by decide) (by decide) (by decide) (by decide)
 have a30:∀ u,IntKind.i64.wrap (12+((cv b u 30:Nat):Int))=12+((cv b u 30:Nat):Int):=fun u=>w1 u 30 12 (by decide) (by decide) (by decide) (by decide)
 have es1:nU=eG km:=rfl
 have es2:mf=eG i8:=rfl
 have es3:nt=eG kg:=rfl
 simp only [go_sem,bhq,Nat.reduceMod,Nat.reduceDiv,bG,bH,bI,cD,bJ,cz,cE,cr,ct,yaq,yar,yao,yap,bC,bv,es1,es2,es3,nV,cC hb g9,cC hb ge,cC hb hM,yH,yE,xv,y8,xQ,yu,qU,hg,hgc,bB hb,bR,bk,cd,hne,hne2,e8,e30,a28,a30]
 (repeat with_reducible refine And.intro (by first|exact True.intro|decide|omega|(simp [zik,zgl,zgm,zgn,zgp,zgo,zgt];first|done|omega)) ?_)
 refine Bd (by simp [cf]) (fun t ht=>?_) ?_
 ·simp only [cf,List.mem_cons,List.not_mem_nil,or_false] at ht
  rcases ht with rfl|rfl|rfl|rfl<;>simp only [jK,mG,ef,ei]<;>(try split)<;>simp
 simp only [dl,dj,go_sem,bhq,Nat.reduceMod,Nat.reduceDiv,bG,bH,bI,cD,bJ,cz,cE,cr,ct,yaq,yar,yao,yap,bC,bv,es1,es2,es3,nV,cC hb g9,cC hb ge,cC hb hM,yH,yE,xv,y8,xQ,yu,qU,hg,hgc,bB hb,bR,bk,cd,hne,hne2,e8,e30,a28,a30,cC hb (kv _),Bg,Bb,Int.toNat_natCast]
 refine aj (fun h1=>?_) (fun h1=>?_)
 all_goals
  simp only [dl,dj,go_sem,bhq,Nat.reduceMod,Nat.reduceDiv,bG,bH,bI,cD,bJ,cz,cE,cr,ct,yaq,yar,yao,yap,bC,bv,es1,es2,es3,nV,cC hb g9,cC hb ge,cC hb hM,yH,yE,xv,y8,xQ,yu,qU,hg,hgc,bB hb,bR,bk,cd,hne,hne2,e8,e30,a28,a30,cC hb (kv _),Bg,Bb,Int.toNat_natCast,tg2,tg3,tgl,k2l,k3l]
  try (repeat with_reducible refine And.intro (by first|exact True.intro|decide|omega|(simp [zik,zgl,zgm,zgn,zgp,zgo,zgt];first|done|omega)) ?_)
  refine aj (fun h2=>?_) (fun h2=>?_)
 all_goals
  simp only [dl,dj,go_sem,bhq,Nat.reduceMod,Nat.reduceDiv,bG,bH,bI,cD,bJ,cz,cE,cr,ct,yaq,yar,yao,yap,bC,bv,es1,es2,es3,nV,cC hb g9,cC hb ge,cC hb hM,yH,yE,xv,y8,xQ,yu,qU,hg,hgc,bB hb,bR,bk,cd,hne,hne2,e8,e30,a28,a30,cC hb (kv _),Bg,Bb,Int.toNat_natCast,tg2,tg3,tgl,k2l,k3l]
  try (repeat with_reducible refine And.intro (by first|exact True.intro|decide|omega|(simp [zik,zgl,zgm,zgn,zgp,zgo,zgt];first|done|omega)) ?_)
  refine bj (fun h3=>?_) (fun h3=>?_)
 all_goals
  try (repeat with_reducible refine And.intro (by first|exact True.intro|decide|omega|(simp [zik,zgl,zgm,zgn,zgp,zgo,zgt];first|done|omega)) ?_)
  try refine aj (fun h4=>?_) (fun h4=>?_)
 all_goals
  try simp only [dl,dj,go_sem,bhq,Nat.reduceMod,Nat.reduceDiv,bG,bH,bI,cD,bJ,cz,cE,cr,ct,yaq,yar,yao,yap,bC,bv,es1,es2,es3,nV,cC hb g9,cC hb ge,cC hb hM,yH,yE,xv,y8,xQ,yu,qU,hg,hgc,bB hb,bR,bk,cd,hne,hne2,e8,e30,a28,a30,cC hb (kv _),Bg,Bb,Int.toNat_natCast,tg2,tg3,tgl,k2l,k3l]
  try (repeat with_reducible refine And.intro (by first|exact True.intro|decide|omega|(simp [zik,zgl,zgm,zgn,zgp,zgo,zgt];first|done|omega)) ?_)
  refine bj (fun h5=>?_) (fun h5=>?_)
 all_goals
  try (repeat with_reducible refine And.intro (by first|exact True.intro|decide|omega|(simp [zik,zgl,zgm,zgn,zgp,zgo,zgt];first|done|omega)) ?_)
  try refine aj (fun h6=>?_) (fun h6=>?_)
 all_goals
  try simp only [dl,dj,go_sem,bhq,Nat.reduceMod,Nat.reduceDiv,bG,bH,bI,cD,bJ,cz,cE,cr,ct,yaq,yar,yao,yap,bC,bv,es1,es2,es3,nV,cC hb g9,cC hb ge,cC hb hM,yH,yE,xv,y8,xQ,yu,qU,hg,hgc,bB hb,bR,bk,cd,hne,hne2,e8,e30,a28,a30,cC hb (kv _),Bg,Bb,Int.toNat_natCast,tg2,tg3,tgl,k2l,k3l]
  try (repeat with_reducible refine And.intro (by first|exact True.intro|decide|omega|(simp [zik,zgl,zgm,zgn,zgp,zgo,zgt];first|done|omega)) ?_)
  replace h1:=nJ h1
  replace h2:=nJ h2
  replace h3:=nJ h3
  replace h5:=nJ h5
  try replace h4:=nJ h4
  try replace h6:=nJ h6
  refine gg 101 (.agg (sy S)) ?_ ?_
  ·rw [← hS]
   simp only [CM] at h1 h2 h3 h5
   try simp only [CM] at h4
   try simp only [CM] at h6
   simp [*,Fr.get,sy,fq,wV,tE,fu,eB,fm,jX,inL,AV.cells,iS,eZ,fa,fO,e7,fY,iG,gY,gF,wkM,sa]
  simp only [bhq,Nat.reduceMod,Nat.reduceDiv,bG,bH,bI,cD,bJ,cz,cE,cr,ct,yaq,yar,yao,yap,go_sem,sy]
  refine ⟨?_,?_,hcl2 _,A8 S⟩
  ·simp [n8,sy,wk,wk2,wkL,wk1,wkM]
  ·rw [← hpos]
   repeat first|exact .refl _|refine .push ?_ _
end Go.AL
