/- Contracts and plain laws, a part of the proof; no condition of its own. -/
import Derived.Test.YtokjjhidigoodaaGreatS10c
set_option maxHeartbeats 32000000
open List renaming length_cons → yaz, map_cons → yae, drop_succ_cons → yao, drop_zero → yap, getD_cons_zero → yau, length_nil → yba, take_succ_cons → yaq, take_zero → yar, length_map → ybb, map_nil → yaf, append_nil → yaj
open Go Go.AL Go.Proofs
namespace Go.AL
set_option linter.all false
set_option maxRecDepth 10000
def sT:List AV→AHeap→(AEnd→AHeap→Prop)→Prop
 |[.ptr id 0,.slice .any 8 l],H,K=>∃ ts:List STable,(l=ts.map bx∧ts.length≤100∧∀ t∈ts,t.keys.length≤100)∧onC (H.get id) fun b v=>K (.ret (.slice .any 6 ((jz b v ts).1.map fK))) (H.set id (di b (jz b v ts).2))
 |_,_,_=>False
/-- n truth values -/
def bfN (n:Nat) (f:Nat→Bool):List AV:=(List.range n).map fun i=>.bool (f i)
theorem Cj {n:Nat} {f:Nat→Bool}:(bfN n f).length=n:=by simp [bfN]
theorem B5 {n:Nat} {f g:Nat→Bool} {i:Nat} {b:Bool} (h:∀ j,j<n→g j=if j=i then b else f j):(bfN n f).set i (.bool b)=bfN n g:=by
 apply List.ext_getElem
 ·simp [bfN]
 ·intro j h1 h2
  have hj:j<n:=by simpa [bfN] using h2
  rw [List.getElem_set]
  simp only [bfN,List.getElem_map,List.getElem_range,h j hj]
  by_cases e:i=j
  ·subst e;simp
  ·rw [if_neg e,if_neg (fun x=>e x.symm)]
theorem Ip {n:Nat}:(List.replicate n [AV.bool false]).flatten=bfN n fun _=>false:=by
 induction n with
 |zero=>rfl
 |succ n ih =>
  rw [List.replicate_succ,List.flatten_cons,ih]
  apply List.ext_getElem
  ·simp [bfN]
  ·intro j h1 h2
   cases j<;>simp [bfN]
theorem BF {n:Nat} {f:Nat→Bool}:bfN n f=boL ((List.range n).map f):=by simp [bfN,boL]
theorem BT {m n:Nat} {f:Nat→Bool}:ltL m (bfN n f)=True:=eq_true (ltL_iff.2 fun j hj=>by
 simp only [bfN,List.getElem_map]
 rw [AV.lt]<;>simp)
theorem oK:∀ (l:List Bool),ca 1 l.length (boL l)=boL l
 |[]=>rfl
 |x::l=>by
  rw [yaz,ca,if_pos rfl]
  have:=oK l
  simp only [boL,yae,yao,yap,yau,kM] at this ⊢
  rw [this]
theorem ky {α:Type} {n:Nat} {f:α→AV} {a c:List AV} {l:List α} (h:a++c=l.map f) (hf:∀ x,AV.lt n (f x)):ltL n a=True:=eq_true (ltL_iff.2 fun j hj=>by
 have:a[j]∈l.map f:=by rw [← h];exact List.mem_append_left _ (List.getElem_mem hj)
 obtain ⟨x,_,e⟩:=List.mem_map.1 this
 rw [← e];exact hf x)
def xP (i j:Nat) (g:List AV):List AV:=[.int .i64 1,.str [97,108,108],.slice (.own i) 4 g,.slice (.own j) 1 [.int .i64 1,.int .i64 2,.int .i64 3,.int .i64 4,.int .i64 5,.int .i64 6],.int .i64 40,.bool true]
def px (b:List UInt8) (v i j:Nat) (g:List AV):List AV:=[.int .i64 2,.str [115,111,109,101],.slice (.own i) 4 g,.slice (.own j) 1 [.int .i64 1,.int .i64 2,.int .i64 (3+ci b (cp v 0) 3)],.int .i64 (1+ci b (cp v 1) 6),.bool false]
def w9 (b:List UInt8) (v i j:Nat) (g:List AV):List AV:=[.int .i64 7,.str [102,101,119],.slice (.own i) 4 g,.slice (.own j) 1 [.int .i64 (1+ci b (cp v 2) 6)],.int .i64 (ci b (cp v 3) 4),.bool false]
/-- the heap at the head of the loop over the tables -/
def gX (H:AHeap) (id:Nat) (b:List UInt8) (v w:Nat) (a1 a2 a3:List AV):AHeap :=
 (((((((((((H.set id (di b (cp w 0))).push (.buf 6 0)).push (.buf 1 6)).push (.buf 4 a1.length)).push (.cells (xP (H.nx+1+1) (H.nx+1) a1))).push (.buf 1 3)).push (.buf 4 a2.length)).push (.cells (px b v (H.nx+1+1+1+1+1) (H.nx+1+1+1+1) a2))).push (.buf 1 1)).push (.buf 4 a3.length)).push (.cells (w9 b v (H.nx+1+1+1+1+1+1+1+1) (H.nx+1+1+1+1+1+1+1) a3)))
/-- what is so at the head of that loop -/
structure RolI (b:List UInt8) (ts:List STable) (R:(List SGrant × List SGrant × List SGrant) × Nat) (k w:Nat) (a1 a2 a3:List AV):Prop where
 le:k≤ts.length
 l1:a1.length≤k
 l2:a2.length≤k
 l3:a3.length≤k
 e1:a1++(dK b (ts.drop k) w).1.1.map dt=R.1.1.map dt
 e2:a2++(dK b (ts.drop k) w).1.2.1.map dt=R.1.2.1.map dt
 e3:a3++(dK b (ts.drop k) w).1.2.2.map dt=R.1.2.2.map dt
 e4:(dK b (ts.drop k) w).2=R.2
theorem hU {H:AHeap} {id:Nat} {b:List UInt8} {ts:List STable} {R:(List SGrant × List SGrant × List SGrant) × Nat} {v k w:Nat} {a1 a2 a3:List AV} (hcl:H.Closed) (h:RolI b ts R k w a1 a2 a3) (w':Nat):(gX H id b v w' a1 a2 a3).Closed:=by
 have q1:=fun n=>ky (n:=n) h.e1 p6
 have q2:=fun n=>ky (n:=n) h.e2 p6
 have q3:=fun n=>ky (n:=n) h.e3 p6
 unfold gX
 repeat' (first|exact ai hcl gN|refine af ?_|refine ae ?_ ?_)
 all_goals simp [xP,px,w9,aM,znq,znr,znb,znd,znc,zla,zlb,q1,q2,q3]
 all_goals omega
theorem CS:EntOk Tryz.prog 51 (Ent.effect sT):=by
 refine EntOk.effect fun args H K h=>?_
 unfold sT at h
 split at h
 rotate_left
 ·exact h.elim
 rename_i id l
 obtain ⟨ts,⟨rfl,hts,htk⟩,h⟩:=h
 obtain ⟨b,v,hg,hb,hv,hK⟩:=jc h
 refine ⟨_,_,hK,?_⟩
 clear hK
 generalize hres:AV.slice .any 6 ((jz b v ts).1.map fK)=res
 generalize hR:dK b ts (v+4)=R
 have hend:(jz b v ts).2=R.2:=by rw [← hR];rfl
 rw [hend]
 refine ACalls.fW aB (TblOk.cons ir (TblOk.cons ls TblOk.nil)) Tryz.func51 [.tmp 4] (Nat.le_refl _) (T:=aA [(16,[[],[],[],[],[],[],[],[],[5],[],[],[3,5,8],[1,3,5,8],[],[1,3,5,8]]),(18,[[],[],[],[],[],[],[],[5],[],[],[3,5,7],[1,3,5,7],[],[1,3,5,7]]),(1,[[7]]),(2,[[25]]),(3,[[22]]),(14,[[1]]),(20,[[16]])]) (h:=fun hcl hlt=>?_)
 clear hlt
 have hid:=AHeap.get_lt hg
 have hne:=mj hid
 have hgc:=ji (b:=b) hid
 have hcl2:∀ w,(H.set id (di b w)).Closed:=fun w=>ai hcl gN
 have e2:(2:Int).toNat=2:=rfl
 have e3:(3:Int).toNat=3:=rfl
 have e4:(4:Int).toNat=4:=rfl
 have e6:(6:Int).toNat=6:=rfl
 have w1:∀ (u n:Nat) (k:Int),0<n→n≤100→0≤k→k≤100→IntKind.i64.wrap (k+((cv b u n:Nat):Int))=k+((cv b u n:Nat):Int):=fun u n k h1 h2 h3 h4=>by
  have:=dV (b:=b) (v:=u) (n:=n) h1
  rw [wrap_i64 (by omega) (by omega)]
 have a33:∀ u,IntKind.i64.wrap (3+((cv b u 3:Nat):Int))=3+((cv b u 3:Nat):Int):=fun u=>w1 u 3 3 (by decide) (by decide) (by decide) (by decide)
 have a16:∀ u,IntKind.i64.wrap (1+((cv b u 6:Nat):Int))=1+((cv b u 6:Nat):Int):=fun u=>w1 u 6 1 (by decide) (by decide) (by decide) (by decide)
 simp only [go_sem,bhq,Nat.reduceMod,Nat.reduceDiv,bc,bf,bg,bX,bh,bV,bQ,bT,bU,yaq,yar,yao,yap,aY,bM,hg,hgc,aZ hb,bw,aS,bG,hne,e2,e3,e4,e6,a33,a16]
 refine jV 14 2 4 _ rfl rfl ?_
 simp only [go_sem,bhq,Nat.reduceMod,Nat.reduceDiv,bc,bf,bg,bX,bh,bV,bQ,bT,bU,yaq,yar,yao,yap,aY,bM,hg,hgc,aZ hb,bw,aS,bG,hne,e2,e3,e4,e6,a33,a16,List.set_cons_succ,List.set_cons_zero]
 (repeat with_reducible refine And.intro (by first|exact True.intro|decide|omega|(simp [zim,zgm,zgn,zgo,zgq,zgp,zgu];first|done|omega)) ?_)
 refine jV 22 2 4 _ rfl rfl ?_
 simp only [go_sem,bhq,Nat.reduceMod,Nat.reduceDiv,bc,bf,bg,bX,bh,bV,bQ,bT,bU,yaq,yar,yao,yap,aY,bM,hg,hgc,aZ hb,bw,aS,bG,hne,e2,e3,e4,e6,a33,a16,List.set_cons_succ,List.set_cons_zero]
 (repeat with_reducible refine And.intro (by first|exact True.intro|decide|omega|(simp [zim,zgm,zgn,zgo,zgq,zgp,zgu];first|done|omega)) ?_)
 refine jV 29 2 4 _ rfl rfl ?_
 simp only [go_sem,bhq,Nat.reduceMod,Nat.reduceDiv,bc,bf,bg,bX,bh,bV,bQ,bT,bU,yaq,yar,yao,yap,aY,bM,hg,hgc,aZ hb,bw,aS,bG,hne,e2,e3,e4,e6,a33,a16,List.set_cons_succ,List.set_cons_zero]
 refine ay (A:=Nat × Nat × List AV × List AV × List AV) (fun x=>[(0,.ptr id 0),(5,.ptr (H.nx+1+1+1) 0),(6,.ptr (H.nx+1+1+1+1+1+1) 0),(7,.ptr (H.nx+1+1+1+1+1+1+1+1+1) 0),(30,.slice .any 8 (ts.map bx)),(31,.int .i64 (ts.length:Int)),(32,.int .i64 (x.1:Int))]) (fun x=>gX H id b v x.2.1 x.2.2.1 x.2.2.2.1 x.2.2.2.2) (fun x=>RolI b ts R x.1 x.2.1 x.2.2.1 x.2.2.2.1 x.2.2.2.2) (fun x=>ts.length - x.1) (0,v+4,[],[],[]) ⟨by omega,by simp,by simp,by simp,by rw [← hR];rfl,by rw [← hR];rfl,by rw [← hR];rfl,by rw [← hR];rfl⟩ ?_ fun x hx=>?_
 ·refine ⟨by simp only [gX,zla,zlb,zkm,zkr];omega,AHeap.Le.refl _,hU (ts:=ts) (R:=R) (k:=0) (w:=v+4) hcl ⟨by omega,by simp,by simp,by simp,by rw [← hR];rfl,by rw [← hR];rfl,by rw [← hR];rfl,by rw [← hR];rfl⟩ _,?_,?_⟩
  ·simp [ltF,gX,znj,znb,zla,zlb,bn dp]
   omega
  ·simp [aI,wk2,wk1,wkM,Fr.get]
 obtain ⟨k,w,a1,a2,a3⟩:=x
 dsimp only at hx ⊢
 have hclo:=fun w'=>hU (id:=id) (v:=v) hcl hx w'
 obtain ⟨hk,l1,l2,l3,i1,i2,i3,i4⟩:=hx
 simp only [go_sem]
 refine aq (fun hc=>?_) (fun hc=>?_)
 ·have hk':k<ts.length:=by simp at hc;omega
  obtain ⟨t,ht⟩:∃ t,t=ts[k]:=⟨_,rfl⟩
  have hd:ts.drop k=t::ts.drop (k+1):=by rw [ht];exact List.drop_eq_getElem_cons hk'
  have hkl:t.keys.length≤100:=htk t (by rw [ht];exact List.getElem_mem hk')
  have htg:(ts.map bx).getD k .junk=.agg [.int .i64 t.id,.str t.name,.slice .any 3 (t.keys.map ct),.slice .any 1 (inL t.actions),.int .i64 t.dflt,.slice .any 2 (t.dargs.map vv),.int .i64 t.size,.str t.restr]:=by
   rw [List.getD_eq_getElem?_getD,List.getElem?_map,List.getElem?_eq_getElem hk',← ht];rfl
  have hT:∀ n,ltL n ([.int .i64 t.id,.str t.name,.slice .any 3 (t.keys.map ct),.slice .any 1 (inL t.actions),.int .i64 t.dflt,.slice .any 2 (t.dargs.map vv),.int .i64 t.size,.str t.restr]:List AV):=fun n=>ltL_iff.2 fun j hj=>AV.lt_cells (dp t) j hj
  have hclT:∀ w',((gX H id b v w' a1 a2 a3).push (.cells [.int .i64 t.id,.str t.name,.slice .any 3 (t.keys.map ct),.slice .any 1 (inL t.actions),.int .i64 t.dflt,.slice .any 2 (t.dargs.map vv),.int .i64 t.size,.str t.restr])).Closed:=fun w'=>ae (hclo w') (hT _)
  have hclo2:∀ w' f g,((((gX H id b v w' a1 a2 a3).push (.cells [.int .i64 t.id,.str t.name,.slice .any 3 (t.keys.map ct),.slice .any 1 (inL t.actions),.int .i64 t.dflt,.slice .any 2 (t.dargs.map vv),.int .i64 t.size,.str t.restr])).push (.cells (bfN t.keys.length f))).push (.cells (bfN t.keys.length g))).Closed:=fun w' f g =>
   ae (ae (hclT w') (by simp [BT])) (by simp [BT])
  have hrn:∀ w',(gX H id b v w' a1 a2 a3).nx=(H.nx+1+1+1+1+1+1+1+1+1+1):=fun _=>rfl
  simp only [go_sem,gX,xP,px,w9,htg,Int.toNat_natCast,ybb,Ip,Cj]
  (repeat with_reducible refine And.intro (by first|exact True.intro|decide|omega|(simp [zim,zgm,zgn,zgo,zgq,zgp,zgu];first|done|omega)) ?_)
  refine ay (A:=Nat) (fun j=>[(0,.ptr id 0),(5,.ptr (H.nx+1+1+1) 0),(6,.ptr (H.nx+1+1+1+1+1+1) 0),(7,.ptr (H.nx+1+1+1+1+1+1+1+1+1) 0),(9,.ptr (H.nx+1+1+1+1+1+1+1+1+1+1) 0),(10,.ms (H.nx+1+1+1+1+1+1+1+1+1+1+1) 0 1 t.keys.length),(11,.ms (H.nx+1+1+1+1+1+1+1+1+1+1+1+1) 0 1 t.keys.length),(30,.slice .any 8 (ts.map bx)),(31,.int .i64 (ts.length:Int)),(32,.int .i64 (k:Int)),(45,.int .i64 (t.keys.length:Int)),(46,.int .i64 (j:Int))]) (fun j=>(((gX H id b v (w+j) a1 a2 a3).push (.cells [.int .i64 t.id,.str t.name,.slice .any 3 (t.keys.map ct),.slice .any 1 (inL t.actions),.int .i64 t.dflt,.slice .any 2 (t.dargs.map vv),.int .i64 t.size,.str t.restr])).push (.cells (bfN t.keys.length fun i=>decide (i<j)))).push (.cells (bfN t.keys.length fun i=>decide (i<j)&&decide (ci b (w+i) 4 > 0)))) (fun j=>j≤t.keys.length) (fun j=>t.keys.length - j) 0 (by omega) ?_ fun j hj=>?_
  ·simp only [Nat.not_lt_zero,decide_false,Bool.false_and]
   refine ⟨by simp only [zla,hrn,zkm,zkr];omega,AHeap.Le.refl _,hclo2 _ _ _,?_,?_⟩
   ·simp [ltF,hrn,znj,znl,znb,zla,zlb,bn dp]
    omega
   ·simp [aI,wk2,wk1,wkM,Fr.get]
  simp only [go_sem]
  refine aq (fun hc2=>?_) (fun hc2=>?_)
  ·have hj':j<t.keys.length:=by simp at hc2;omega
   have e5:IntKind.i64.wrap ((j:Int)+1)=((j+1:Nat):Int):=by rw [wrap_i64]<;>omega
   have hs1:(bfN t.keys.length fun i=>decide (i<j)).set j (.bool true)=bfN t.keys.length fun i=>decide (i<j+1):=B5 fun i hi=>by
    by_cases e:i=j
    ·subst e;simp
    ·rw [if_neg e,decide_eq_decide];omega
   have hs2:(bfN t.keys.length fun i=>decide (i<j)&&decide (ci b (w+i) 4 > 0)).set j (.bool (decide (ci b (cp (w+j) 0) 4 > 0)))=bfN t.keys.length fun i=>decide (i<j+1)&&decide (ci b (w+i) 4 > 0):=B5 fun i hi=>by
    by_cases e:i=j
    ·subst e;simp [cp]
    ·rw [if_neg e];congr 1;rw [decide_eq_decide];omega
   simp only [cr,bv,bhq,Nat.reduceMod,Nat.reduceDiv,bc,bf,bg,bX,bh,bV,bQ,bT,bU,yaq,yar,yao,yap,go_sem,aY,bM,hgc,aZ hb,bw,aS,bG,hne,e4,gX,xP,px,w9,List.length_append,ybb,Int.toNat_natCast,Cj,iZ,Nat.zero_add,Nat.mul_one,hs1,hs2,e5]
   (repeat with_reducible refine And.intro (by first|exact True.intro|decide|omega|(simp [zim,zgm,zgn,zgo,zgq,zgp,zgu];first|done|omega)) ?_)
   refine ⟨j+1,by omega,by omega,by simp only [zla,hrn,zlb,zkm,zkr];omega,AHeap.Le.refl _,hclo2 _ _ _,?_,?_⟩
   ·simp [ltF,hrn,znj,znl,znb,zla,zlb,bn dp]
    omega
   ·simp [aI,wk2,wk1,wkM,Fr.get]
  have hj':j=t.keys.length:=by simp at hc2;omega
  subst hj'
  have y1:(bfN t.keys.length fun i=>decide (i<t.keys.length))=boL (List.replicate t.keys.length true):=by
   rw [BF];congr 1
   apply List.ext_getElem
   ·simp
   ·intro i h1 h2;simp at h1 ⊢;exact h1
  have y2:(bfN t.keys.length fun i=>decide (i<t.keys.length)&&decide (ci b (w+i) 4 > 0))=boL (kz b w t.keys.length):=by
   rw [BF];congr 1
   unfold kz
   refine List.map_congr_left fun i hi=>?_
   have:=List.mem_range.1 hi
   simp [this]
  rw [y1,y2]
  simp only [cr,bv,bhq,Nat.reduceMod,Nat.reduceDiv,bc,bf,bg,bX,bh,bV,bQ,bT,bU,yaq,yar,yao,yap,go_sem,aY,bM,hgc,aZ hb,bw,aS,bG,hne,e4,gX,xP,px,w9,List.length_append,ybb]
  refine qD [(0,.ptr id 0),(5,.ptr (H.nx+1+1+1) 0),(6,.ptr (H.nx+1+1+1+1+1+1) 0),(7,.ptr (H.nx+1+1+1+1+1+1+1+1+1) 0),(9,.ptr (H.nx+1+1+1+1+1+1+1+1+1+1) 0),(10,.slice .any 1 (boL (List.replicate t.keys.length true))),(11,.slice .any 1 (boL (kz b w t.keys.length))),(30,.slice .any 8 (ts.map bx)),(31,.int .i64 (ts.length:Int)),(32,.int .i64 (k:Int))] ((gX H id b v (w+t.keys.length) a1 a2 a3).push (.cells [.int .i64 t.id,.str t.name,.slice .any 3 (t.keys.map ct),.slice .any 1 (inL t.actions),.int .i64 t.dflt,.slice .any 2 (t.dargs.map vv),.int .i64 t.size,.str t.restr])) ⟨by simp only [zla,hrn,zkm,zkr,gz];omega,((AHeap.Le.refl _).push _).push _,hclT _,?_,?_⟩ ?_
  ·simp [ltF,hrn,znj,znl,znb,zla,zlb,bn dp,F5]
   omega
  ·have yr1:ca 1 t.keys.length (boL (List.replicate t.keys.length true))=boL (List.replicate t.keys.length true):=by
    have:=oK (List.replicate t.keys.length true)
    rw [List.length_replicate] at this;exact this
   have yr2:ca 1 t.keys.length (boL (kz b w t.keys.length))=boL (kz b w t.keys.length):=by
    have:=oK (kz b w t.keys.length)
    rw [show (kz b w t.keys.length).length=t.keys.length by simp [kz]] at this;exact this
   have hn1:∀ w' o,((gX H id b v w' a1 a2 a3).push o).get (H.nx+1+1+1+1+1+1+1+1+1+1+1)=none:=fun w' o=>zmr (by rw [zla,hrn];omega)
   have hn2:∀ w' o,((gX H id b v w' a1 a2 a3).push o).get (H.nx+1+1+1+1+1+1+1+1+1+1+1+1)=none:=fun w' o=>zmr (by rw [zla,hrn];omega)
   simp only [aI,wk2,wk1,wkM,go_sem,yap,yr1,yr2,hn1,hn2,true_or,or_true,and_self]
  simp only [cr,bv,bhq,Nat.reduceMod,Nat.reduceDiv,bc,bf,bg,bX,bh,bV,bQ,bT,bU,yaq,yar,yao,yap,go_sem,aY,bM,hgc,aZ hb,bw,aS,bG,hne,e4,gX,xP,px,w9,ybb]
  (repeat with_reducible refine And.intro (by first|exact True.intro|decide|omega|(simp [zim,zgm,zgn,zgo,zgq,zgp,zgu];first|done|omega)) ?_)
  have e5:IntKind.i64.wrap ((k:Int)+1)=((k+1:Nat):Int):=by rw [wrap_i64]<;>omega
  refine aq (fun h1=>?_) (fun h1=>?_)
  all_goals
   try simp only [cr,bv,bhq,Nat.reduceMod,Nat.reduceDiv,bc,bf,bg,bX,bh,bV,bQ,bT,bU,yaq,yar,yao,yap,go_sem,aY,bM,hgc,aZ hb,bw,aS,bG,hne,e4,gX,xP,px,w9,ybb]
   try (repeat with_reducible refine And.intro (by first|exact True.intro|decide|omega|(simp [zim,zgm,zgn,zgo,zgq,zgp,zgu];first|done|omega)) ?_)
   refine aq (fun h2=>?_) (fun h2=>?_)
  all_goals
   try simp only [cr,bv,bhq,Nat.reduceMod,Nat.reduceDiv,bc,bf,bg,bX,bh,bV,bQ,bT,bU,yaq,yar,yao,yap,go_sem,aY,bM,hgc,aZ hb,bw,aS,bG,hne,e4,gX,xP,px,w9,ybb,e5]
   try (repeat with_reducible refine And.intro (by first|exact True.intro|decide|omega|(simp [zim,zgm,zgn,zgo,zgq,zgp,zgu];first|done|omega)) ?_)
  ·have hp1:(0<cv b (w+t.keys.length) 4)=True:=eq_true (by have h:=of_decide_eq_true h1;simp only [cp,Nat.add_zero] at h;omega)
   have hp2:(cv b (w+(t.keys.length+3)) 2=1)=True:=eq_true (by have h:=of_decide_eq_true h2;unfold cp at h;rw [Nat.add_assoc] at h;exact h)
   rw [hd] at i1 i2 i3 i4
   simp only [dK,hp1,hp2,if_true,if_false,Nat.add_assoc,Nat.reduceAdd] at i1 i2 i3 i4
   have hI:RolI b ts R (k+1) (w+(t.keys.length+6)) (a1++[.agg [.int .i64 t.id,.bool true,.bool true,.slice .any 1 (boL (List.replicate t.keys.length true))]]) (a2++[.agg [.int .i64 t.id,.bool (decide (0<ci b (w+t.keys.length+1) 4)),.bool (decide (cv b (w+t.keys.length+2) 2=1)),.slice .any 1 (boL (kz b w t.keys.length))]]) (a3++[.agg [.int .i64 t.id,.bool (decide (cv b (w+t.keys.length+4) 2=1)),.bool (decide (cv b (w+t.keys.length+5) 2=1)),.slice .any 1 (boL (List.replicate t.keys.length true))]]):=by
    refine ⟨by omega,by (try simp only [List.length_append,yaz,yba]);omega,by (try simp only [List.length_append,yaz,yba]);omega,by (try simp only [List.length_append,yaz,yba]);omega,?_,?_,?_,i4⟩
    ·simpa [dt,Nat.add_assoc] using i1
    ·simpa [dt,Nat.add_assoc] using i2
    ·simpa [dt,Nat.add_assoc] using i3
   refine ⟨(_,_,_,_,_),hI,by dsimp only;omega,by simp only [gX,zla,zlb];omega,?_,hU hcl hI _,?_,?_⟩
   ·simp only [gX,List.length_append,yaz,yba]
    repeat first|exact .refl _|refine .push ?_ _
   ·simp [ltF,gX,znj,znb,zla,zlb,bn dp]
    omega
   ·simp [aI,wk2,wk1,wkM,Fr.get]
  ·have hp1:(0<cv b (w+t.keys.length) 4)=True:=eq_true (by have h:=of_decide_eq_true h1;simp only [cp,Nat.add_zero] at h;omega)
   have hp2:(cv b (w+(t.keys.length+3)) 2=1)=False:=eq_false (by have h:=of_decide_eq_false h2;unfold cp at h;rw [Nat.add_assoc] at h;exact h)
   rw [hd] at i1 i2 i3 i4
   simp only [dK,hp1,hp2,if_true,if_false,Nat.add_assoc,Nat.reduceAdd] at i1 i2 i3 i4
   have hI:RolI b ts R (k+1) (w+(t.keys.length+4)) (a1++[.agg [.int .i64 t.id,.bool true,.bool true,.slice .any 1 (boL (List.replicate t.keys.length true))]]) (a2++[.agg [.int .i64 t.id,.bool (decide (0<ci b (w+t.keys.length+1) 4)),.bool (decide (cv b (w+t.keys.length+2) 2=1)),.slice .any 1 (boL (kz b w t.keys.length))]]) (a3):=by
    refine ⟨by omega,by (try simp only [List.length_append,yaz,yba]);omega,by (try simp only [List.length_append,yaz,yba]);omega,by (try simp only [List.length_append,yaz,yba]);omega,?_,?_,?_,i4⟩
    ·simpa [dt,Nat.add_assoc] using i1
    ·simpa [dt,Nat.add_assoc] using i2
    ·simpa [dt,Nat.add_assoc] using i3
   refine ⟨(_,_,_,_,_),hI,by dsimp only;omega,by simp only [gX,zla,zlb];omega,?_,hU hcl hI _,?_,?_⟩
   ·simp only [gX,List.length_append,yaz,yba]
    repeat first|exact .refl _|refine .push ?_ _
   ·simp [ltF,gX,znj,znb,zla,zlb,bn dp]
    omega
   ·simp [aI,wk2,wk1,wkM,Fr.get]
  ·have hp1:(0<cv b (w+t.keys.length) 4)=False:=eq_false (by have h:=of_decide_eq_false h1;simp only [cp,Nat.add_zero] at h;omega)
   have hp2:(cv b (w+(t.keys.length+1)) 2=1)=True:=eq_true (by have h:=of_decide_eq_true h2;unfold cp at h;rw [Nat.add_assoc] at h;exact h)
   rw [hd] at i1 i2 i3 i4
   simp only [dK,hp1,hp2,if_true,if_false,Nat.add_assoc,Nat.reduceAdd] at i1 i2 i3 i4
   have hI:RolI b ts R (k+1) (w+(t.keys.length+4)) (a1++[.agg [.int .i64 t.id,.bool true,.bool true,.slice .any 1 (boL (List.replicate t.keys.length true))]]) (a2) (a3++[.agg [.int .i64 t.id,.bool (decide (cv b (w+t.keys.length+2) 2=1)),.bool (decide (cv b (w+t.keys.length+3) 2=1)),.slice .any 1 (boL (List.replicate t.keys.length true))]]):=by
    refine ⟨by omega,by (try simp only [List.length_append,yaz,yba]);omega,by (try simp only [List.length_append,yaz,yba]);omega,by (try simp only [List.length_append,yaz,yba]);omega,?_,?_,?_,i4⟩
    ·simpa [dt,Nat.add_assoc] using i1
    ·simpa [dt,Nat.add_assoc] using i2
    ·simpa [dt,Nat.add_assoc] using i3
   refine ⟨(_,_,_,_,_),hI,by dsimp only;omega,by simp only [gX,zla,zlb];omega,?_,hU hcl hI _,?_,?_⟩
   ·simp only [gX,List.length_append,yaz,yba]
    repeat first|exact .refl _|refine .push ?_ _
   ·simp [ltF,gX,znj,znb,zla,zlb,bn dp]
    omega
   ·simp [aI,wk2,wk1,wkM,Fr.get]
  ·have hp1:(0<cv b (w+t.keys.length) 4)=False:=eq_false (by have h:=of_decide_eq_false h1;simp only [cp,Nat.add_zero] at h;omega)
   have hp2:(cv b (w+(t.keys.length+1)) 2=1)=False:=eq_false (by have h:=of_decide_eq_false h2;unfold cp at h;rw [Nat.add_assoc] at h;exact h)
   rw [hd] at i1 i2 i3 i4
   simp only [dK,hp1,hp2,if_true,if_false,Nat.add_assoc,Nat.reduceAdd] at i1 i2 i3 i4
   have hI:RolI b ts R (k+1) (w+(t.keys.length+2)) (a1++[.agg [.int .i64 t.id,.bool true,.bool true,.slice .any 1 (boL (List.replicate t.keys.length true))]]) (a2) (a3):=by
    refine ⟨by omega,by (try simp only [List.length_append,yaz,yba]);omega,by (try simp only [List.length_append,yaz,yba]);omega,by (try simp only [List.length_append,yaz,yba]);omega,?_,?_,?_,i4⟩
    ·simpa [dt,Nat.add_assoc] using i1
    ·simpa [dt,Nat.add_assoc] using i2
    ·simpa [dt,Nat.add_assoc] using i3
   refine ⟨(_,_,_,_,_),hI,by dsimp only;omega,by simp only [gX,zla,zlb];omega,?_,hU hcl hI _,?_,?_⟩
   ·simp only [gX,List.length_append,yaz,yba]
    repeat first|exact .refl _|refine .push ?_ _
   ·simp [ltF,gX,znj,znb,zla,zlb,bn dp]
    omega
   ·simp [aI,wk2,wk1,wkM,Fr.get]
 ·have hk':k=ts.length:=by simp at hc;omega
  subst hk'
  simp only [bhq,Nat.reduceMod,Nat.reduceDiv,bc,bf,bg,bX,bh,bV,bQ,bT,bU,yaq,yar,yao,yap,go_sem,gX,xP,px,w9]
  (repeat with_reducible refine And.intro (by first|exact True.intro|decide|omega|(simp [zim,zgm,zgn,zgo,zgq,zgp,zgu];first|done|omega)) ?_)
  simp only [List.drop_length,dK,yaf,yaj] at i1 i2 i3 i4
  subst i4
  refine hP 4 res ?_ ?_
  ·rw [← hres]
   simp only [jz,hR]
   simp [Fr.get,fK,inL,i1,i2,i3,cp,AV.cells,jG,cn,ck,cH,eW,cG,i8,jN,jk,wkM,qQ]
  simp only [bhq,Nat.reduceMod,Nat.reduceDiv,bc,bf,bg,bX,bh,bV,bQ,bT,bU,yaq,yar,yao,yap,go_sem]
  subst hres
  refine ⟨?_,?_,hcl2 _,bn nB⟩
  ·simp [wk,wk2,wk1,wkM]
  ·repeat first|exact .refl _|refine .push ?_ _
end Go.AL
open Go Go.AL Go.Proofs
namespace Go.AL
set_option linter.all false
set_option maxRecDepth 10000
/-- what a function takes from the choices does not depend on the place behind their end -/
def oD (g:List UInt8→Nat→AV × Nat):Prop:=∀ b v,(g b (min v b.length)).1=(g b v).1∧∃ c,(g b (min v b.length)).2=min v b.length+c∧(g b v).2=v+c
def onS (o:Option AObj) (g:List UInt8→Nat→AV × Nat) (K:AV→AObj→Prop):Prop:=onC o fun b v=>K (g b v).1 (di b (g b v).2)
@[congr] theorem K9 {o o':Option AObj} {g:List UInt8→Nat→AV × Nat} {K:AV→AObj→Prop} (h:o=o'):onS o g K=onS o' g K:=by rw [h]
theorem cC {b:List UInt8} {v:Nat} {g:List UInt8→Nat→AV × Nat} {K:AV→AObj→Prop} (hb:b.length≤1000000) (hg:oD g):onS (some (di b v)) g K=K (g b v).1 (di b (g b v).2):=by
 unfold onS
 rw [aZ hb]
 obtain ⟨h1,c,h2,h3⟩:=hg b v
 rw [h1,h2,h3,aS]
theorem rq {g:List UInt8→Nat→AV × Nat} {id:Nat} {H:AHeap} {K:AEnd→AHeap→Prop}:eG g [.ptr id 0] H K=onS (H.get id) g fun x o=>K (.ret x) (H.set id o):=(rfl)
def ni:List UInt8→Nat→AV × Nat:=fun b v=>(.slice .any 5 ((cd b v).1.map cV),(cd b v).2)
def lg:List UInt8→Nat→AV × Nat:=fun b v=>(.slice .any 5 ((cR b v).map a8),v+4)
def mG:List UInt8→Nat→AV × Nat:=fun b v=>(.slice .any 8 ((cw b v).map bx),v+12)
def pR (ts:List STable):List UInt8→Nat→AV × Nat:=fun b v=>(.slice .any 6 ((jz b v ts).1.map fK),(jz b v ts).2)
theorem jS:oD ni:=fun b v=>by
 have e:cd b (min v b.length)=((cd b v).1,(cd b v).2 - v+min v b.length):=by
  unfold cd
  simp only [cT,bw]
  repeat' split
  all_goals (refine Prod.ext rfl ?_;dsimp only;omega)
 have h:∃ c,(cd b v).2=v+c:=by
  unfold cd
  repeat' split
  all_goals exact ⟨_,rfl⟩
 obtain ⟨c,hc⟩:=h
 unfold ni
 dsimp only
 rw [e]
 exact ⟨rfl,c,by dsimp only;omega,hc⟩
theorem iO:oD lg:=fun b v=>by
 have e:cR b (min v b.length)=cR b v:=by unfold cR ci;simp only [cT,bw]
 unfold lg
 dsimp only
 rw [e]
 exact ⟨rfl,4,rfl,rfl⟩
theorem jQ:oD mG:=fun b v=>by
 have e:cw b (min v b.length)=cw b v:=by unfold cw i7 kO eH eJ ci;simp only [cT,bw]
 unfold mG
 dsimp only
 rw [e]
 exact ⟨rfl,12,rfl,rfl⟩
theorem nF {b:List UInt8} {v k n:Nat}:kz b (min v b.length+k) n=kz b (v+k) n:=by
 unfold kz
 refine List.map_congr_left fun i _=>?_
 rw [Nat.add_assoc,Nat.add_assoc]
 unfold ci
 rw [cT]
theorem jr {b:List UInt8} {v:Nat}:∀ (ts:List STable) (k:Nat),(dK b ts (min v b.length+k)).1=(dK b ts (v+k)).1∧∃ c,(dK b ts (min v b.length+k)).2=min v b.length+c∧(dK b ts (v+k)).2=v+c
 |[],k=>⟨rfl,k,rfl,rfl⟩
 |t::ts,k=>by
  have hb:∀ j n,cv b (min v b.length+j) n=cv b (v+j) n:=fun j n=>cT
  by_cases h1:0<cv b (v+(k+t.keys.length)) 4
  ·by_cases h2:cv b (v+(k+t.keys.length+3)) 2=1
   ·obtain ⟨i1,c,i2,i3⟩:=jr ts (k+t.keys.length+3+3)
    simp only [Nat.add_assoc,Nat.reduceAdd] at i1 i2 i3 h1 h2
    simp only [dK,Nat.add_assoc,Nat.reduceAdd,hb,ci,h1,h2,if_true,nF]
    rw [i1]
    exact ⟨rfl,c,i2,i3⟩
   ·obtain ⟨i1,c,i2,i3⟩:=jr ts (k+t.keys.length+3+1)
    simp only [Nat.add_assoc,Nat.reduceAdd] at i1 i2 i3 h1 h2
    simp only [dK,Nat.add_assoc,Nat.reduceAdd,hb,ci,h1,h2,if_true,if_false,nF]
    rw [i1]
    exact ⟨rfl,c,i2,i3⟩
  ·by_cases h2:cv b (v+(k+t.keys.length+1)) 2=1
   ·obtain ⟨i1,c,i2,i3⟩:=jr ts (k+t.keys.length+1+3)
    simp only [Nat.add_assoc,Nat.reduceAdd] at i1 i2 i3 h1 h2
    simp only [dK,Nat.add_assoc,Nat.reduceAdd,hb,ci,h1,h2,if_true,if_false,nF]
    rw [i1]
    exact ⟨rfl,c,i2,i3⟩
   ·obtain ⟨i1,c,i2,i3⟩:=jr ts (k+t.keys.length+1+1)
    simp only [Nat.add_assoc,Nat.reduceAdd] at i1 i2 i3 h1 h2
    simp only [dK,Nat.add_assoc,Nat.reduceAdd,hb,ci,h1,h2,if_true,if_false,nF]
    rw [i1]
    exact ⟨rfl,c,i2,i3⟩
theorem np (ts:List STable):oD (pR ts):=fun b v=>by
 obtain ⟨i1,c,i2,i3⟩:=jr (b:=b) (v:=v) ts 4
 unfold pR jz
 dsimp only
 rw [i1]
 unfold ci
 simp only [cT,bw]
 exact ⟨trivial,c,i2,i3⟩
theorem EP {b:List UInt8} {v:Nat}:(ni b v).1=.slice .any 5 ((cd b v).1.map cV):=(rfl)
theorem Ef {b:List UInt8} {v:Nat}:(ni b v).2=(cd b v).2:=(rfl)
theorem DX {b:List UInt8} {v:Nat}:(lg b v).1=.slice .any 5 ((cR b v).map a8):=(rfl)
theorem DT {b:List UInt8} {v:Nat}:(lg b v).2=cp v 4:=(rfl)
theorem CP {b:List UInt8} {v:Nat}:(mG b v).1=.slice .any 8 ((cw b v).map bx):=(rfl)
theorem CU {b:List UInt8} {v:Nat}:(mG b v).2=cp v 12:=(rfl)
theorem Hn {b:List UInt8} {v:Nat} {ts:List STable}:(pR ts b v).1=.slice .any 6 ((jz b v ts).1.map fK):=(rfl)
theorem HF {b:List UInt8} {v:Nat} {ts:List STable}:(pR ts b v).2=cp (jz b v ts).2 0:=(rfl)
theorem vQ {v k n:Nat}:cp (cp v k) n=cp v (k+n):=by unfold cp;omega
theorem tg2 {b:List UInt8} {w:Nat}:(List.map bx (cw b w)).getD 2 .junk=.agg [.int .i64 (eH b w).id,.str (eH b w).name,.slice .any 3 ((eH b w).keys.map ct),.slice .any 1 (inL (eH b w).actions),.int .i64 (eH b w).dflt,.slice .any 2 ((eH b w).dargs.map vv),.int .i64 (eH b w).size,.str (eH b w).restr]:=(rfl)
theorem tg3 {b:List UInt8} {w:Nat}:(List.map bx (cw b w)).getD 3 .junk=.agg [.int .i64 (eJ b w).id,.str (eJ b w).name,.slice .any 3 ((eJ b w).keys.map ct),.slice .any 1 (inL (eJ b w).actions),.int .i64 (eJ b w).dflt,.slice .any 2 ((eJ b w).dargs.map vv),.int .i64 (eJ b w).size,.str (eJ b w).restr]:=(rfl)
theorem tgl {b:List UInt8} {w:Nat}:(cw b w).length=4:=(rfl)
theorem k2l {b:List UInt8} {w:Nat}:(((eH b w).keys.length:Int)==3)=decide (cv b (cp w 5) 2=1):=by
 by_cases h:cv b (w+5) 2=1<;>simp [eH,cp,h]
theorem k3l {b:List UInt8} {w:Nat}:(((eJ b w).keys.length:Int)==3)=decide (cv b (cp w 7) 2=1):=by
 by_cases h:cv b (w+7) 2=1<;>simp [eJ,cp,h]
def IM (p:Prop):Bool→Prop|true=>p|false=>¬ p
theorem rj {p:Prop} [Decidable p] {t:Bool} (h:decide p=t):IM p t:=by
 cases t
 ·exact (of_decide_eq_false h:¬ p)
 ·exact (of_decide_eq_true h:p)
theorem Fk {id:Nat} {ts:List STable} {H:AHeap} {K:AEnd→AHeap→Prop} (h1:ts.length≤100) (h2:∀ t∈ts,t.keys.length≤100) (h:onS (H.get id) (pR ts) fun x o=>K (.ret x) (H.set id o)) :
 sT [.ptr id 0,.slice .any 8 (ts.map bx)] H K:=⟨ts,⟨rfl,h1,h2⟩,h⟩
def qS:=eG fun b v=>(rP (dM b v).1,(dM b v).2)
theorem BC:EntOk Tryz.prog 12 (Ent.effect qS):=by
 unfold qS
 refine EntOk.effect fun args H K h=>?_
 unfold eG at h
 split at h
 rotate_left
 ·exact h.elim
 rename_i id
 obtain ⟨b,v,hg,hb,hv,hK⟩:=jc h
 refine ⟨_,_,hK,?_⟩
 clear hK
 dsimp only
 generalize hS:(dM b v).1=S
 generalize hpos:(dM b v).2=pos
 refine ACalls.fW aB (TblOk.cons ir (TblOk.cons ls (TblOk.cons A4 (TblOk.cons yL (TblOk.cons Bc (TblOk.cons CS TblOk.nil)))))) Tryz.func12 [.cell 2 36] (Nat.le_refl _) (T:=aA [(15,[[4]])]) (h:=fun hcl hlt=>?_)
 clear hlt
 have hid:=AHeap.get_lt hg
 have hne:=mj hid
 have hne2:=mj (show id<H.nx+1+1+1+1+1+1+1+1+1+1+1+1+1+1+1+1 by omega)
 have hgc:=ji (b:=b) hid
 have hcl2:∀ w,(H.set id (di b w)).Closed:=fun w=>ai hcl gN
 have e8:(8:Int).toNat=8:=rfl
 have e30:(30:Int).toNat=30:=rfl
 have w1:∀ (u n:Nat) (k:Int),0<n→n≤100→0≤k→k≤100→IntKind.i64.wrap (k+((cv b u n:Nat):Int))=k+((cv b u n:Nat):Int):=fun u n k h1 h2 h3 h4=>by
  have:=dV (b:=b) (v:=u) (n:=n) h1
  rw [wrap_i64 (by omega) (by omega)]
 have a28:∀ u,IntKind.i64.wrap (2+((cv b u 8:Nat):Int))=2+((cv b u 8:Nat):Int):=fun u=>w1 u 8 2 (by decide) (by decide) (by decide) (by decide)
 have a30:∀ u,IntKind.i64.wrap (12+((cv b u 30:Nat):Int))=12+((cv b u 30:Nat):Int):=fun u=>w1 u 30 12 (by decide) (by decide) (by decide) (by decide)
 have es1:qz=eG ni:=rfl
 have es2:o9=eG lg:=rfl
 have es3:rh=eG mG:=rfl
 simp only [go_sem,bhq,Nat.reduceMod,Nat.reduceDiv,bc,bf,bg,bX,bh,bV,bQ,bT,bU,yaq,yar,yao,yap,aY,bM,es1,es2,es3,rq,cC hb jS,cC hb iO,cC hb jQ,EP,Ef,DX,DT,CP,CU,vQ,hg,hgc,aZ hb,bw,aS,bG,hne,hne2,e8,e30,a28,a30]
 (repeat with_reducible refine And.intro (by first|exact True.intro|decide|omega|(simp [zim,zgm,zgn,zgo,zgq,zgp,zgu];first|done|omega)) ?_)
 refine Fk (by simp [cw]) (fun t ht=>?_) ?_
 ·simp only [cw,List.mem_cons,List.not_mem_nil,or_false] at ht
  rcases ht with rfl|rfl|rfl|rfl<;>simp only [i7,kO,eH,eJ]<;>(try split)<;>simp
 simp only [cr,bv,go_sem,bhq,Nat.reduceMod,Nat.reduceDiv,bc,bf,bg,bX,bh,bV,bQ,bT,bU,yaq,yar,yao,yap,aY,bM,es1,es2,es3,rq,cC hb jS,cC hb iO,cC hb jQ,EP,Ef,DX,DT,CP,CU,vQ,hg,hgc,aZ hb,bw,aS,bG,hne,hne2,e8,e30,a28,a30,cC hb (np _),Hn,HF,Int.toNat_natCast]
 refine aq (fun h1=>?_) (fun h1=>?_)
 all_goals
  simp only [cr,bv,go_sem,bhq,Nat.reduceMod,Nat.reduceDiv,bc,bf,bg,bX,bh,bV,bQ,bT,bU,yaq,yar,yao,yap,aY,bM,es1,es2,es3,rq,cC hb jS,cC hb iO,cC hb jQ,EP,Ef,DX,DT,CP,CU,vQ,hg,hgc,aZ hb,bw,aS,bG,hne,hne2,e8,e30,a28,a30,cC hb (np _),Hn,HF,Int.toNat_natCast,tg2,tg3,tgl,k2l,k3l]
  try (repeat with_reducible refine And.intro (by first|exact True.intro|decide|omega|(simp [zim,zgm,zgn,zgo,zgq,zgp,zgu];first|done|omega)) ?_)
  refine aq (fun h2=>?_) (fun h2=>?_)
 all_goals
  simp only [cr,bv,go_sem,bhq,Nat.reduceMod,Nat.reduceDiv,bc,bf,bg,bX,bh,bV,bQ,bT,bU,yaq,yar,yao,yap,aY,bM,es1,es2,es3,rq,cC hb jS,cC hb iO,cC hb jQ,EP,Ef,DX,DT,CP,CU,vQ,hg,hgc,aZ hb,bw,aS,bG,hne,hne2,e8,e30,a28,a30,cC hb (np _),Hn,HF,Int.toNat_natCast,tg2,tg3,tgl,k2l,k3l]
  try (repeat with_reducible refine And.intro (by first|exact True.intro|decide|omega|(simp [zim,zgm,zgn,zgo,zgq,zgp,zgu];first|done|omega)) ?_)
  refine bD (fun h3=>?_) (fun h3=>?_)
 all_goals
  try (repeat with_reducible refine And.intro (by first|exact True.intro|decide|omega|(simp [zim,zgm,zgn,zgo,zgq,zgp,zgu];first|done|omega)) ?_)
  try refine aq (fun h4=>?_) (fun h4=>?_)
 all_goals
  try simp only [cr,bv,go_sem,bhq,Nat.reduceMod,Nat.reduceDiv,bc,bf,bg,bX,bh,bV,bQ,bT,bU,yaq,yar,yao,yap,aY,bM,es1,es2,es3,rq,cC hb jS,cC hb iO,cC hb jQ,EP,Ef,DX,DT,CP,CU,vQ,hg,hgc,aZ hb,bw,aS,bG,hne,hne2,e8,e30,a28,a30,cC hb (np _),Hn,HF,Int.toNat_natCast,tg2,tg3,tgl,k2l,k3l]
  try (repeat with_reducible refine And.intro (by first|exact True.intro|decide|omega|(simp [zim,zgm,zgn,zgo,zgq,zgp,zgu];first|done|omega)) ?_)
  refine bD (fun h5=>?_) (fun h5=>?_)
 all_goals
  try (repeat with_reducible refine And.intro (by first|exact True.intro|decide|omega|(simp [zim,zgm,zgn,zgo,zgq,zgp,zgu];first|done|omega)) ?_)
  try refine aq (fun h6=>?_) (fun h6=>?_)
 all_goals
  try simp only [cr,bv,go_sem,bhq,Nat.reduceMod,Nat.reduceDiv,bc,bf,bg,bX,bh,bV,bQ,bT,bU,yaq,yar,yao,yap,aY,bM,es1,es2,es3,rq,cC hb jS,cC hb iO,cC hb jQ,EP,Ef,DX,DT,CP,CU,vQ,hg,hgc,aZ hb,bw,aS,bG,hne,hne2,e8,e30,a28,a30,cC hb (np _),Hn,HF,Int.toNat_natCast,tg2,tg3,tgl,k2l,k3l]
  try (repeat with_reducible refine And.intro (by first|exact True.intro|decide|omega|(simp [zim,zgm,zgn,zgo,zgq,zgp,zgu];first|done|omega)) ?_)
  replace h1:=rj h1
  replace h2:=rj h2
  replace h3:=rj h3
  replace h5:=rj h5
  try replace h4:=rj h4
  try replace h6:=rj h6
  refine hP 101 (.agg (br S)) ?_ ?_
  ·rw [← hS]
   simp only [IM] at h1 h2 h3 h5
   try simp only [IM] at h4
   try simp only [IM] at h6
   simp [*,Fr.get,br,dM,gFields,yv,ce,eP,lP,sZ,inL,AV.cells,jG,cn,ck,cH,eW,cG,i8,jN,jk,wkM,qQ]
  simp only [bhq,Nat.reduceMod,Nat.reduceDiv,bc,bf,bg,bX,bh,bV,bQ,bT,bU,yaq,yar,yao,yap,go_sem,br]
  refine ⟨?_,?_,hcl2 _,qF S⟩
  ·simp [rP,br,wk,wk2,wkL,wk1,wkM]
  ·rw [← hpos]
   repeat first|exact .refl _|refine .push ?_ _
end Go.AL
