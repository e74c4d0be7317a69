/- Lemmas of the proof; no condition. -/
import Derived.Test.YthnlhjalhflgfaaGreatS10c
import Derived.Test.YthnlhjalhflgfaaGreatLEntB
set_option linter.all false
set_option maxRecDepth 10000
set_option maxHeartbeats 32000000
open Go Go.AL Go.Proofs
namespace Go.AL
def vz:ECt
 |[.ptr id 0,.slice .any 8 l],H,K=>∃ ts:List STable,(l=ts.map ax∧ts.length≤100∧∀ t∈ts,t.keys.length≤100)∧onC (H.get id) fun b v=>K (.ret (.slice .any 6 ((kT b v ts).1.map aN))) (H.set id (gI b (kT b v ts).2))
 |_,_,_=>False
def bfN (n:Nat) (f:Nat→Bool):List AV:=(List.range n).map fun i=>.bool (f i)
theorem C6 {n:Nat} {f:Nat→Bool}:(bfN n f).length=n:=by simp [bfN]
theorem Cz {n:Nat} {f g:Nat→Bool} {i:Nat} {b:Bool} (h:∀ j,j<n→g j=if j=i then b else f j):(bfN n f).set i (.bool b)=bfN n g:=by
 apply List.ext_getElem
 ·simp [bfN]
 ·intro j h1 h2
  have hj:j<n:=by simpa [bfN] using h2
  rw [List.getElem_set]
  simp only [bfN,List.getElem_map,List.getElem_range,h j hj]
  by_cases e:i=j
  ·subst e;simp
  ·rw [if_neg e,if_neg (fun x=>e x.symm)]
theorem LO {n:Nat}:(List.replicate n [AV.bool false]).flatten=bfN n fun _=>false:=by
 induction n with
 |zero=>rfl
 |succ n ih =>
  rw [List.replicate_succ,List.flatten_cons,ih]
  apply List.ext_getElem
  ·simp [bfN]
  ·intro j h1 h2
   cases j<;>simp [bfN]
theorem Dk {n:Nat} {f:Nat→Bool}:bfN n f=boL ((List.range n).map f):=by simp [bfN,boL]
theorem Di {m n:Nat} {f:Nat→Bool}:ltL m (bfN n f)=True:=eq_true (ltL_iff.2 fun j hj=>by
 simp only [bfN,List.getElem_map]
 rw [AV.lt]<;>simp)
theorem qz:∀ (l:List Bool),dJ 1 l.length (boL l)=boL l
 |[]=>rfl
 |x::l=>by
  rw [yaz,dJ,if_pos rfl]
  have:=qz l
  simp only [boL,yae,yao,yap,yau,mO] at this ⊢
  rw [this]
theorem xp {α:Type} {n:Nat} {f:α→AV} {a c:List AV} {l:List α} (h:a++c=l.map f) (hf:∀ x,AV.lt n (f x)):ltL n a=True:=eq_true (ltL_iff.2 fun j hj=>by
 have:a[j]∈l.map f:=by rw [← h];exact List.mem_append_left _ (gMq hj)
 obtain ⟨x,_,e⟩:=List.mem_map.1 this
 rw [← e];exact hf x)
def x4 (i j:Nat) (g:List AV):List AV:=[.int .i64 1,.str [97,108,108],.slice (.own i) 4 g,.slice (.own j) 1 [.int .i64 1,.int .i64 2,.int .i64 3,.int .i64 4,.int .i64 5,.int .i64 6],.int .i64 40,.bool true]
def rD (b:List UInt8) (v i j:Nat) (g:List AV):List AV:=[.int .i64 2,.str [115,111,109,101],.slice (.own i) 4 g,.slice (.own j) 1 [.int .i64 1,.int .i64 2,.int .i64 (3+ci b (cp v 0) 3)],.int .i64 (1+ci b (cp v 1) 6),.bool false]
def xN (b:List UInt8) (v i j:Nat) (g:List AV):List AV:=[.int .i64 7,.str [102,101,119],.slice (.own i) 4 g,.slice (.own j) 1 [.int .i64 (1+ci b (cp v 2) 6)],.int .i64 (ci b (cp v 3) 4),.bool false]
def j6 (H:AHeap) (id:Nat) (b:List UInt8) (v w:Nat) (a1 a2 a3:List AV):AHeap :=
 (((((((((((H.set id (gI b (cp w 0))).push (.buf 6 0)).push (.buf 1 6)).push (.buf 4 a1.length)).push (.cells (x4 (H.nx+1+1) (H.nx+1) a1))).push (.buf 1 3)).push (.buf 4 a2.length)).push (.cells (rD b v (H.nx+1+1+1+1+1) (H.nx+1+1+1+1) a2))).push (.buf 1 1)).push (.buf 4 a3.length)).push (.cells (xN b v (H.nx+1+1+1+1+1+1+1+1) (H.nx+1+1+1+1+1+1+1) a3)))
structure RolI (b:List UInt8) (ts:List STable) (R:(List SGrant × List SGrant × List SGrant) × Nat) (k w:Nat) (a1 a2 a3:List AV):Prop where
 le:k≤ts.length
 l1:a1.length≤k
 l2:a2.length≤k
 l3:a3.length≤k
 e1:a1++(fB b (ts.drop k) w).1.1.map aJ=R.1.1.map aJ
 e2:a2++(fB b (ts.drop k) w).1.2.1.map aJ=R.1.2.1.map aJ
 e3:a3++(fB b (ts.drop k) w).1.2.2.map aJ=R.1.2.2.map aJ
 e4:(fB b (ts.drop k) w).2=R.2
theorem kf {H:AHeap} {id:Nat} {b:List UInt8} {ts:List STable} {R:(List SGrant × List SGrant × List SGrant) × Nat} {v k w:Nat} {a1 a2 a3:List AV} (hcl:H.Closed) (h:RolI b ts R k w a1 a2 a3) (w':Nat):(j6 H id b v w' a1 a2 a3).Closed:=by
 have q1:=fun n=>xp (n:=n) h.e1 fV
 have q2:=fun n=>xp (n:=n) h.e2 fV
 have q3:=fun n=>xp (n:=n) h.e3 fV
 unfold j6
 repeat' (first|exact bG hcl jW|refine bc ?_|refine ah ?_ ?_)
 all_goals simp [x4,rD,xN,cC,znu,znv,znf,znh,zng,zle,zlf,q1,q2,q3]
 all_goals omega
theorem Ex:EEe 23 vz:=by
 refine Yef fun _ H K h=>?_
 unfold vz at h
 split at h<;>try exact h.elim
 rename_i id l
 obtain ⟨ts,⟨rfl,hts,htk⟩,h⟩:=h
 obtain ⟨b,v,hg,hb,hv,hK⟩:=nU h
 refine ⟨_,_,hK,?_⟩
 clear hK
 generalize hres:AV.slice .any 6 ((kT b v ts).1.map aN)=res
 generalize hR:fB b ts (v+4)=R
 have hend:(kT b v ts).2=R.2:=by rw [← hR];rfl
 rw [hend]
 refine Yfw aE (tCq nq (tCq nr tNq)) Tryz.func23 [.tmp 4] (nrq _) (T:=aB [(16,[[],[],[],[],[],[],[],[],[5],[],[],[3,5,8],[1,3,5,8],[],[1,3,5,8]]),(18,[[],[],[],[],[],[],[],[5],[],[],[3,5,7],[1,3,5,7],[],[1,3,5,7]]),(1,[[7]]),(2,[[25]]),(3,[[22]]),(14,[[1]]),(20,[[16]])]) (h:=fun hcl=>?_)
 have hid:=glq hg
 have hne:=sK hid
 have hgc:=oR (b:=b) hid
 have hcl2:∀ w,(H.set id (gI b w)).Closed:=fun w=>bG hcl jW
 have e2:(2:Int).toNat=2:=rfl
 have e3:(3:Int).toNat=3:=rfl
 have e4:(4:Int).toNat=4:=rfl
 have e6:(6:Int).toNat=6:=rfl
 have w1:∀ (u n:Nat) (k:Int),0<n→n≤100→0≤k→k≤100→IntKind.i64.wrap (k+((cv b u n:Nat):Int))=k+((cv b u n:Nat):Int):=fun u n k h1 h2 h3 h4=>by
  exact Y125
 have a33:∀ u,IntKind.i64.wrap (3+((cv b u 3:Nat):Int))=3+((cv b u 3:Nat):Int):=fun u=>w1 u 3 3 (by decide) (by decide) (by decide) (by decide)
 have a16:∀ u,IntKind.i64.wrap (1+((cv b u 6:Nat):Int))=1+((cv b u 6:Nat):Int):=fun u=>w1 u 6 1 (by decide) (by decide) (by decide) (by decide)
 simp only [go_sem,bhq,Nat.reduceMod,Nat.reduceDiv,aW,aX,aZ,bx,aY,bw,bo,bp,bv,yaq,yar,yao,yap,dn,cV,hg,hgc,cY hb,ep,cO,eN,hne,e2,e3,e4,e6,a33,a16]
 refine tH 14 2 4 _ rfl rfl ?_
 refine Tq21 ?_
 refine Tq3 ?_
 refine tH 22 2 4 _ rfl rfl ?_
 refine Tq21 ?_
 refine Tq3 ?_
 refine tH 29 2 4 _ rfl rfl ?_
 refine Tq21 ?_
 refine aC (A:=Nat × Nat × List AV × List AV × List AV) (fun x=>[(0,.ptr id 0),(5,.ptr (H.nx+1+1+1) 0),(6,.ptr (H.nx+1+1+1+1+1+1) 0),(7,.ptr (H.nx+1+1+1+1+1+1+1+1+1) 0),(30,.slice .any 8 (ts.map ax)),(31,.int .i64 (ts.length:Int)),(32,.int .i64 (x.1:Int))]) (fun x=>j6 H id b v x.2.1 x.2.2.1 x.2.2.2.1 x.2.2.2.2) (fun x=>RolI b ts R x.1 x.2.1 x.2.2.1 x.2.2.2.1 x.2.2.2.2) (fun x=>ts.length - x.1) (0,v+4,[],[],[]) ⟨by omega,by simp,by simp,by simp,by rw [← hR];rfl,by rw [← hR];rfl,by rw [← hR];rfl,by rw [← hR];rfl⟩ ?_ fun x hx=>?_
 ·refine ⟨by simp only [j6,zle,zlf,zkq,zkv];omega,lRq _,kf (ts:=ts) (R:=R) (k:=0) (w:=v+4) hcl ⟨by omega,by simp,by simp,by simp,by rw [← hR];rfl,by rw [← hR];rfl,by rw [← hR];rfl,by rw [← hR];rfl⟩ _,?_,?_⟩
  ·exact Y109
  ·exact Y13
 obtain ⟨k,w,a1,a2,a3⟩:=x
 dsimp only at hx ⊢
 have hclo:=fun w'=>kf (id:=id) (v:=v) hcl hx w'
 obtain ⟨hk,l1,l2,l3,i1,i2,i3,i4⟩:=hx
 refine Tq15 ?_
 refine au (fun hc=>?_) (fun hc=>?_)
 ·have hk':k<ts.length:=sHc
  obtain ⟨t,ht⟩:∃ t,t=ts[k]:=⟨_,rfl⟩
  have hd:ts.drop k=t::ts.drop (k+1):=by rw [ht];exact dcq hk'
  have hkl:t.keys.length≤100:=htk t (by rw [ht];exact gMq hk')
  have htg:(ts.map ax).getD k .junk=.agg [.int .i64 t.id,.str t.name,.slice .any 3 (t.keys.map ba),.slice .any 1 (inL t.actions),.int .i64 t.dflt,.slice .any 2 (t.dargs.map vv),.int .i64 t.size,.str t.restr]:=by
   rw [gEq,List.getElem?_map,gQq hk',← ht];rfl
  have hT:∀ n,ltL n ([.int .i64 t.id,.str t.name,.slice .any 3 (t.keys.map ba),.slice .any 1 (inL t.actions),.int .i64 t.dflt,.slice .any 2 (t.dargs.map vv),.int .i64 t.size,.str t.restr]:List AV):=fun n=>ltL_iff.2 fun j hj=>AV.lt_cells (cS t) j hj
  have hclT:∀ w',((j6 H id b v w' a1 a2 a3).push (.cells [.int .i64 t.id,.str t.name,.slice .any 3 (t.keys.map ba),.slice .any 1 (inL t.actions),.int .i64 t.dflt,.slice .any 2 (t.dargs.map vv),.int .i64 t.size,.str t.restr])).Closed:=fun w'=>ah (hclo w') (hT _)
  have hclo2:∀ w' f g,((((j6 H id b v w' a1 a2 a3).push (.cells [.int .i64 t.id,.str t.name,.slice .any 3 (t.keys.map ba),.slice .any 1 (inL t.actions),.int .i64 t.dflt,.slice .any 2 (t.dargs.map vv),.int .i64 t.size,.str t.restr])).push (.cells (bfN t.keys.length f))).push (.cells (bfN t.keys.length g))).Closed:=fun w' f g =>
   ah (ah (hclT w') (by simp [Di])) (by simp [Di])
  have hrn:∀ w',(j6 H id b v w' a1 a2 a3).nx=(H.nx+1+1+1+1+1+1+1+1+1+1):=fun _=>rfl
  simp only [go_sem,j6,x4,rD,xN,htg,iNq,ybb,LO,C6]
  refine Tq3 ?_
  refine aC (A:=Nat) (fun j=>[(0,.ptr id 0),(5,.ptr (H.nx+1+1+1) 0),(6,.ptr (H.nx+1+1+1+1+1+1) 0),(7,.ptr (H.nx+1+1+1+1+1+1+1+1+1) 0),(9,.ptr (H.nx+1+1+1+1+1+1+1+1+1+1) 0),(10,.ms (H.nx+1+1+1+1+1+1+1+1+1+1+1) 0 1 t.keys.length),(11,.ms (H.nx+1+1+1+1+1+1+1+1+1+1+1+1) 0 1 t.keys.length),(30,.slice .any 8 (ts.map ax)),(31,.int .i64 (ts.length:Int)),(32,.int .i64 (k:Int)),(45,.int .i64 (t.keys.length:Int)),(46,.int .i64 (j:Int))]) (fun j=>(((j6 H id b v (w+j) a1 a2 a3).push (.cells [.int .i64 t.id,.str t.name,.slice .any 3 (t.keys.map ba),.slice .any 1 (inL t.actions),.int .i64 t.dflt,.slice .any 2 (t.dargs.map vv),.int .i64 t.size,.str t.restr])).push (.cells (bfN t.keys.length fun i=>decide (i<j)))).push (.cells (bfN t.keys.length fun i=>decide (i<j)&&decide (ci b (w+i) 4 > 0)))) (fun j=>j≤t.keys.length) (fun j=>t.keys.length - j) 0 (by omega) ?_ fun j hj=>?_
  ·simp only [Nat.not_lt_zero,decide_false,Bool.false_and]
   refine ⟨by simp only [zle,hrn,zkq,zkv];omega,lRq _,hclo2 _ _ _,?_,?_⟩
   ·simp [ltF,hrn,znn,znp,znf,zle,zlf,aa cS]
    omega
   ·exact Y13
  refine Tq15 ?_
  refine au (fun hc2=>?_) (fun hc2=>?_)
  ·have hj':j<t.keys.length:=by simp at hc2;omega
   have e5:IntKind.i64.wrap ((j:Int)+1)=((j+1:Nat):Int):=by rw [wrap_i64]<;>omega
   have hs1:(bfN t.keys.length fun i=>decide (i<j)).set j (.bool true)=bfN t.keys.length fun i=>decide (i<j+1):=Cz fun i hi=>by
    by_cases e:i=j
    ·subst e;simp
    ·rw [if_neg e,decide_eq_decide];omega
   have hs2:(bfN t.keys.length fun i=>decide (i<j)&&decide (ci b (w+i) 4 > 0)).set j (.bool (decide (ci b (cp (w+j) 0) 4 > 0)))=bfN t.keys.length fun i=>decide (i<j+1)&&decide (ci b (w+i) 4 > 0):=Cz fun i hi=>by
    by_cases e:i=j
    ·subst e;simp [cp]
    ·rw [if_neg e];congr 1;rw [decide_eq_decide];omega
   simp only [bm,aD,bhq,Nat.reduceMod,Nat.reduceDiv,aW,aX,aZ,bx,aY,bw,bo,bp,bv,yaq,yar,yao,yap,go_sem,dn,cV,hgc,cY hb,ep,cO,eN,hne,e4,j6,x4,rD,xN,lAq,ybb,iNq,C6,j0,nzq,Nat.mul_one,hs1,hs2,e5]
   refine Tq3 ?_
   refine ⟨j+1,by omega,by omega,by simp only [zle,hrn,zlf,zkq,zkv];omega,lRq _,hclo2 _ _ _,?_,?_⟩
   ·simp [ltF,hrn,znn,znp,znf,zle,zlf,aa cS]
    omega
   ·exact Y13
  have hj':j=t.keys.length:=by simp at hc2;omega
  subst hj'
  have y1:(bfN t.keys.length fun i=>decide (i<t.keys.length))=boL (List.replicate t.keys.length true):=by
   rw [Dk];congr 1
   apply List.ext_getElem
   ·simp
   ·intro i h1 h2;simp at h1 ⊢;exact h1
  have y2:(bfN t.keys.length fun i=>decide (i<t.keys.length)&&decide (ci b (w+i) 4 > 0))=boL (lP b w t.keys.length):=by
   rw [Dk];congr 1
   unfold lP
   refine List.map_congr_left fun i hi=>?_
   have:=List.mem_range.1 hi
   simp [this]
  rw [y1,y2]
  simp only [bm,aD,bhq,Nat.reduceMod,Nat.reduceDiv,aW,aX,aZ,bx,aY,bw,bo,bp,bv,yaq,yar,yao,yap,go_sem,dn,cV,hgc,cY hb,ep,cO,eN,hne,e4,j6,x4,rD,xN,lAq,ybb]
  refine sg [(0,.ptr id 0),(5,.ptr (H.nx+1+1+1) 0),(6,.ptr (H.nx+1+1+1+1+1+1) 0),(7,.ptr (H.nx+1+1+1+1+1+1+1+1+1) 0),(9,.ptr (H.nx+1+1+1+1+1+1+1+1+1+1) 0),(10,.slice .any 1 (boL (List.replicate t.keys.length true))),(11,.slice .any 1 (boL (lP b w t.keys.length))),(30,.slice .any 8 (ts.map ax)),(31,.int .i64 (ts.length:Int)),(32,.int .i64 (k:Int))] ((j6 H id b v (w+t.keys.length) a1 a2 a3).push (.cells [.int .i64 t.id,.str t.name,.slice .any 3 (t.keys.map ba),.slice .any 1 (inL t.actions),.int .i64 t.dflt,.slice .any 2 (t.dargs.map vv),.int .i64 t.size,.str t.restr])) ⟨by simp only [zle,hrn,zkq,zkv,ja];omega,((lRq _).push _).push _,hclT _,?_,?_⟩ ?_
  ·simp [ltF,hrn,znn,znp,znf,zle,zlf,aa cS,JR]
   omega
  ·have yr1:dJ 1 t.keys.length (boL (List.replicate t.keys.length true))=boL (List.replicate t.keys.length true):=by
    have:=qz (List.replicate t.keys.length true)
    rw [List.length_replicate] at this;exact this
   have yr2:dJ 1 t.keys.length (boL (lP b w t.keys.length))=boL (lP b w t.keys.length):=by
    have:=qz (lP b w t.keys.length)
    rw [show (lP b w t.keys.length).length=t.keys.length by simp [lP]] at this;exact this
   have hn1:∀ w' o,((j6 H id b v w' a1 a2 a3).push o).get (H.nx+1+1+1+1+1+1+1+1+1+1+1)=none:=fun w' o=>zmv (by rw [zle,hrn];omega)
   have hn2:∀ w' o,((j6 H id b v w' a1 a2 a3).push o).get (H.nx+1+1+1+1+1+1+1+1+1+1+1+1)=none:=fun w' o=>zmv (by rw [zle,hrn];omega)
   simp only [bg,wk2,wk1,wkM,go_sem,yap,yr1,yr2,hn1,hn2,true_or,or_true,and_self]
  simp only [bm,aD,bhq,Nat.reduceMod,Nat.reduceDiv,aW,aX,aZ,bx,aY,bw,bo,bp,bv,yaq,yar,yao,yap,go_sem,dn,cV,hgc,cY hb,ep,cO,eN,hne,e4,j6,x4,rD,xN,ybb]
  refine Tq3 ?_
  have e5:=Yk5 k
  refine au (fun h1=>?_) (fun h1=>?_)
  all_goals
   try simp only [bm,aD,bhq,Nat.reduceMod,Nat.reduceDiv,aW,aX,aZ,bx,aY,bw,bo,bp,bv,yaq,yar,yao,yap,go_sem,dn,cV,hgc,cY hb,ep,cO,eN,hne,e4,j6,x4,rD,xN,ybb]
   refine Tq4 ?_
   refine au (fun h2=>?_) (fun h2=>?_)
  all_goals
   try simp only [bm,aD,bhq,Nat.reduceMod,Nat.reduceDiv,aW,aX,aZ,bx,aY,bw,bo,bp,bv,yaq,yar,yao,yap,go_sem,dn,cV,hgc,cY hb,ep,cO,eN,hne,e4,j6,x4,rD,xN,ybb,e5]
   try (repeat with_reducible refine Yq ?_)
  ·have hp1:(0<cv b (w+t.keys.length) 4)=True:=eq_true (by have h:=of_decide_eq_true h1;simp only [cp,Nat.add_zero] at h;omega)
   have hp2:(cv b (w+(t.keys.length+3)) 2=1)=True:=eq_true (by have h:=of_decide_eq_true h2;unfold cp at h;rw [Nat.add_assoc] at h;exact h)
   rw [hd] at i1 i2 i3 i4
   simp only [fB,hp1,hp2,if_true,if_false,Nat.add_assoc,Nat.reduceAdd] at i1 i2 i3 i4
   have hI:RolI b ts R (k+1) (w+(t.keys.length+6)) (a1++[.agg [.int .i64 t.id,.bool true,.bool true,.slice .any 1 (boL (List.replicate t.keys.length true))]]) (a2++[.agg [.int .i64 t.id,.bool (decide (0<ci b (w+t.keys.length+1) 4)),.bool (decide (cv b (w+t.keys.length+2) 2=1)),.slice .any 1 (boL (lP b w t.keys.length))]]) (a3++[.agg [.int .i64 t.id,.bool (decide (cv b (w+t.keys.length+4) 2=1)),.bool (decide (cv b (w+t.keys.length+5) 2=1)),.slice .any 1 (boL (List.replicate t.keys.length true))]]):=by
    exact Y36
   refine ⟨(_,_,_,_,_),hI,by dsimp only;omega,by simp only [j6,zle,zlf];omega,?_,kf hcl hI _,?_,?_⟩
   ·exact Y74
   ·exact Y109
   ·exact Y13
  ·have hp1:(0<cv b (w+t.keys.length) 4)=True:=eq_true (by have h:=of_decide_eq_true h1;simp only [cp,Nat.add_zero] at h;omega)
   have hp2:(cv b (w+(t.keys.length+3)) 2=1)=False:=eq_false (by have h:=of_decide_eq_false h2;unfold cp at h;rw [Nat.add_assoc] at h;exact h)
   rw [hd] at i1 i2 i3 i4
   simp only [fB,hp1,hp2,if_true,if_false,Nat.add_assoc,Nat.reduceAdd] at i1 i2 i3 i4
   have hI:RolI b ts R (k+1) (w+(t.keys.length+4)) (a1++[.agg [.int .i64 t.id,.bool true,.bool true,.slice .any 1 (boL (List.replicate t.keys.length true))]]) (a2++[.agg [.int .i64 t.id,.bool (decide (0<ci b (w+t.keys.length+1) 4)),.bool (decide (cv b (w+t.keys.length+2) 2=1)),.slice .any 1 (boL (lP b w t.keys.length))]]) (a3):=by
    exact Y36
   refine ⟨(_,_,_,_,_),hI,by dsimp only;omega,by simp only [j6,zle,zlf];omega,?_,kf hcl hI _,?_,?_⟩
   ·exact Y74
   ·exact Y109
   ·exact Y13
  ·have hp1:(0<cv b (w+t.keys.length) 4)=False:=eq_false (by have h:=of_decide_eq_false h1;simp only [cp,Nat.add_zero] at h;omega)
   have hp2:(cv b (w+(t.keys.length+1)) 2=1)=True:=eq_true (by have h:=of_decide_eq_true h2;unfold cp at h;rw [Nat.add_assoc] at h;exact h)
   rw [hd] at i1 i2 i3 i4
   simp only [fB,hp1,hp2,if_true,if_false,Nat.add_assoc,Nat.reduceAdd] at i1 i2 i3 i4
   have hI:RolI b ts R (k+1) (w+(t.keys.length+4)) (a1++[.agg [.int .i64 t.id,.bool true,.bool true,.slice .any 1 (boL (List.replicate t.keys.length true))]]) (a2) (a3++[.agg [.int .i64 t.id,.bool (decide (cv b (w+t.keys.length+2) 2=1)),.bool (decide (cv b (w+t.keys.length+3) 2=1)),.slice .any 1 (boL (List.replicate t.keys.length true))]]):=by
    exact Y36
   refine ⟨(_,_,_,_,_),hI,by dsimp only;omega,by simp only [j6,zle,zlf];omega,?_,kf hcl hI _,?_,?_⟩
   ·exact Y74
   ·exact Y109
   ·exact Y13
  ·have hp1:(0<cv b (w+t.keys.length) 4)=False:=eq_false (by have h:=of_decide_eq_false h1;simp only [cp,Nat.add_zero] at h;omega)
   have hp2:(cv b (w+(t.keys.length+1)) 2=1)=False:=eq_false (by have h:=of_decide_eq_false h2;unfold cp at h;rw [Nat.add_assoc] at h;exact h)
   rw [hd] at i1 i2 i3 i4
   simp only [fB,hp1,hp2,if_true,if_false,Nat.add_assoc,Nat.reduceAdd] at i1 i2 i3 i4
   have hI:RolI b ts R (k+1) (w+(t.keys.length+2)) (a1++[.agg [.int .i64 t.id,.bool true,.bool true,.slice .any 1 (boL (List.replicate t.keys.length true))]]) (a2) (a3):=by
    exact Y36
   refine ⟨(_,_,_,_,_),hI,by dsimp only;omega,by simp only [j6,zle,zlf];omega,?_,kf hcl hI _,?_,?_⟩
   ·exact Y74
   ·exact Y109
   ·exact Y13
 ·have hk':k=ts.length:=sHc
  subst hk'
  simp only [bhq,Nat.reduceMod,Nat.reduceDiv,aW,aX,aZ,bx,aY,bw,bo,bp,bv,yaq,yar,yao,yap,go_sem,j6,x4,rD,xN]
  refine Tq3 ?_
  simp only [List.drop_length,fB,yaf,yaj] at i1 i2 i3 i4
  subst i4
  refine lj 4 res ?_ ?_
  ·rw [← hres]
   simp only [kT,hR]
   simp [Fr.get,aN,inL,i1,i2,i3,cp,AV.cells,mK,dN,dO,eI,iE,eM,lX,lS,lG,wkM,rT]
  simp only [bhq,Nat.reduceMod,Nat.reduceDiv,aW,aX,aZ,bx,aY,bw,bo,bp,bv,yaq,yar,yao,yap,go_sem]
  subst hres
  refine ⟨?_,?_,hcl2 _,aa gM⟩
  ·simp [wk,wk2,wk1,wkM]
  ·repeat first|exact .refl _|refine .push ?_ _
def uR (g:List UInt8→Nat→AV × Nat):Prop:=∀ b v,(g b (min v b.length)).1=(g b v).1∧∃ c,(g b (min v b.length)).2=min v b.length+c∧(g b v).2=v+c
def onS (o:Option AObj) (g:List UInt8→Nat→AV × Nat) (K:AV→AObj→Prop):Prop:=onC o fun b v=>K (g b v).1 (gI b (g b v).2)
@[congr] theorem Q4 {o o':Option AObj} {g:List UInt8→Nat→AV × Nat} {K:AV→AObj→Prop} (h:o=o'):onS o g K=onS o' g K:=by rw [h]
theorem fN {b:List UInt8} {v:Nat} {g:List UInt8→Nat→AV × Nat} {K:AV→AObj→Prop} (hb:b.length≤1000000) (hg:uR g):onS (some (gI b v)) g K=K (g b v).1 (gI b (g b v).2):=by
 unfold onS
 rw [cY hb]
 obtain ⟨h1,c,h2,h3⟩:=hg b v
 rw [h1,h2,h3,cO]
theorem sE {g:List UInt8→Nat→AV × Nat} {id:Nat} {H:AHeap} {K:AEnd→AHeap→Prop}:eG g [.ptr id 0] H K=onS (H.get id) g fun x o=>K (.ret x) (H.set id o):=(rfl)
def oN:List UInt8→Nat→AV × Nat:=fun b v=>(.slice .any 5 ((dy b v).1.map aA),(dy b v).2)
def nm:List UInt8→Nat→AV × Nat:=fun b v=>(.slice .any 5 ((fU b v).map ap),v+4)
def oF:List UInt8→Nat→AV × Nat:=fun b v=>(.slice .any 8 ((fw b v).map ax),v+12)
def qI (ts:List STable):List UInt8→Nat→AV × Nat:=fun b v=>(.slice .any 6 ((kT b v ts).1.map aN),(kT b v ts).2)
theorem lY:uR oN:=fun b v=>by
 have e:dy b (min v b.length)=((dy b v).1,(dy b v).2 - v+min v b.length):=by
  unfold dy
  simp only [lh,ep]
  repeat' split
  all_goals (refine Prod.ext rfl ?_;dsimp only;omega)
 have h:∃ c,(dy b v).2=v+c:=by
  unfold dy
  repeat' split
  all_goals exact ⟨_,rfl⟩
 obtain ⟨c,hc⟩:=h
 unfold oN
 dsimp only
 rw [e]
 exact ⟨rfl,c,by dsimp only;omega,hc⟩
theorem kR:uR nm:=fun b v=>by
 have e:fU b (min v b.length)=fU b v:=by unfold fU ci;simp only [lh,ep]
 unfold nm
 dsimp only
 rw [e]
 exact ⟨rfl,4,rfl,rfl⟩
theorem lZ:uR oF:=fun b v=>by
 have e:fw b (min v b.length)=fw b v:=by unfold fw ln ls gu gv ci;simp only [lh,ep]
 unfold oF
 dsimp only
 rw [e]
 exact ⟨rfl,12,rfl,rfl⟩
theorem pH {b:List UInt8} {v k n:Nat}:lP b (min v b.length+k) n=lP b (v+k) n:=by
 unfold lP
 refine List.map_congr_left fun i _=>?_
 rw [Nat.add_assoc,Nat.add_assoc]
 unfold ci
 rw [lh]
theorem lI {b:List UInt8} {v:Nat}:∀ (ts:List STable) (k:Nat),(fB b ts (min v b.length+k)).1=(fB b ts (v+k)).1∧∃ c,(fB b ts (min v b.length+k)).2=min v b.length+c∧(fB b ts (v+k)).2=v+c
 |[],k=>⟨rfl,k,rfl,rfl⟩
 |t::ts,k=>by
  have hb:∀ j n,cv b (min v b.length+j) n=cv b (v+j) n:=fun j n=>lh
  by_cases h1:0<cv b (v+(k+t.keys.length)) 4
  ·by_cases h2:cv b (v+(k+t.keys.length+3)) 2=1
   ·obtain ⟨i1,c,i2,i3⟩:=lI ts (k+t.keys.length+3+3)
    simp only [Nat.add_assoc,Nat.reduceAdd] at i1 i2 i3 h1 h2
    simp only [fB,Nat.add_assoc,Nat.reduceAdd,hb,ci,h1,h2,if_true,pH]
    rw [i1]
    exact ⟨rfl,c,i2,i3⟩
   ·obtain ⟨i1,c,i2,i3⟩:=lI ts (k+t.keys.length+3+1)
    exact Y61
  ·by_cases h2:cv b (v+(k+t.keys.length+1)) 2=1
   ·obtain ⟨i1,c,i2,i3⟩:=lI ts (k+t.keys.length+1+3)
    exact Y61
   ·obtain ⟨i1,c,i2,i3⟩:=lI ts (k+t.keys.length+1+1)
    exact Y61
theorem oM (ts:List STable):uR (qI ts):=fun b v=>by
 obtain ⟨i1,c,i2,i3⟩:=lI (b:=b) (v:=v) ts 4
 unfold qI kT
 dsimp only
 rw [i1]
 unfold ci
 simp only [lh,ep]
 exact ⟨trivial,c,i2,i3⟩
theorem E2 {b:List UInt8} {v:Nat}:(oN b v).1=.slice .any 5 ((dy b v).1.map aA):=(rfl)
theorem Eq {b:List UInt8} {v:Nat}:(oN b v).2=(dy b v).2:=(rfl)
theorem E1 {b:List UInt8} {v:Nat}:(nm b v).1=.slice .any 5 ((fU b v).map ap):=(rfl)
theorem E7 {b:List UInt8} {v:Nat}:(nm b v).2=cp v 4:=(rfl)
theorem D4 {b:List UInt8} {v:Nat}:(oF b v).1=.slice .any 8 ((fw b v).map ax):=(rfl)
theorem ED {b:List UInt8} {v:Nat}:(oF b v).2=cp v 12:=(rfl)
theorem HQ {b:List UInt8} {v:Nat} {ts:List STable}:(qI ts b v).1=.slice .any 6 ((kT b v ts).1.map aN):=(rfl)
theorem Ks {b:List UInt8} {v:Nat} {ts:List STable}:(qI ts b v).2=cp (kT b v ts).2 0:=(rfl)
theorem xc {v k n:Nat}:cp (cp v k) n=cp v (k+n):=by unfold cp;omega
theorem tg2 {b:List UInt8} {w:Nat}:(List.map ax (fw b w)).getD 2 .junk=.agg [.int .i64 (gu b w).id,.str (gu b w).name,.slice .any 3 ((gu b w).keys.map ba),.slice .any 1 (inL (gu b w).actions),.int .i64 (gu b w).dflt,.slice .any 2 ((gu b w).dargs.map vv),.int .i64 (gu b w).size,.str (gu b w).restr]:=(rfl)
theorem tg3 {b:List UInt8} {w:Nat}:(List.map ax (fw b w)).getD 3 .junk=.agg [.int .i64 (gv b w).id,.str (gv b w).name,.slice .any 3 ((gv b w).keys.map ba),.slice .any 1 (inL (gv b w).actions),.int .i64 (gv b w).dflt,.slice .any 2 ((gv b w).dargs.map vv),.int .i64 (gv b w).size,.str (gv b w).restr]:=(rfl)
theorem tgl {b:List UInt8} {w:Nat}:(fw b w).length=4:=(rfl)
theorem k2l {b:List UInt8} {w:Nat}:(((gu b w).keys.length:Int)==3)=decide (cv b (cp w 5) 2=1):=by
 by_cases h:cv b (w+5) 2=1<;>simp [gu,cp,h]
theorem k3l {b:List UInt8} {w:Nat}:(((gv b w).keys.length:Int)==3)=decide (cv b (cp w 7) 2=1):=by
 by_cases h:cv b (w+7) 2=1<;>simp [gv,cp,h]
def N9 (p:Prop):Bool→Prop|true=>p|false=>¬ p
theorem r4 {p:Prop} [Decidable p] {t:Bool} (h:decide p=t):N9 p t:=by
 cases t
 ·exact (of_decide_eq_false h:¬ p)
 ·exact (of_decide_eq_true h:p)
theorem HW {id:Nat} {ts:List STable} {H:AHeap} {K:AEnd→AHeap→Prop} (h1:ts.length≤100) (h2:∀ t∈ts,t.keys.length≤100) (h:onS (H.get id) (qI ts) fun x o=>K (.ret x) (H.set id o)) :
 vz [.ptr id 0,.slice .any 8 (ts.map ax)] H K:=⟨ts,⟨rfl,h1,h2⟩,h⟩
def pF:=eG fun b v=>(eE (gL b v).1,(gL b v).2)
theorem uS:EEe 10 pF:=by
 unfold pF
 refine Yef fun _ H K h=>?_
 unfold eG at h
 split at h<;>try exact h.elim
 rename_i id
 obtain ⟨b,v,hg,hb,hv,hK⟩:=nU h
 refine ⟨_,_,hK,?_⟩
 clear hK
 dsimp only
 generalize hS:(gL b v).1=S
 generalize hpos:(gL b v).2=pos
 refine Yfw aE (tCq nq (tCq nr (tCq AM (tCq zg (tCq BD (tCq Ex tNq)))))) Tryz.func10 [.cell 2 34] (nrq _) (T:=aB [(15,[[4]])]) (h:=fun hcl=>?_)
 have hid:=glq hg
 have hne:=sK hid
 have hne2:=sK (show id<H.nx+1+1+1+1+1+1+1+1+1+1+1+1+1+1+1+1 by omega)
 have hgc:=oR (b:=b) hid
 have hcl2:∀ w,(H.set id (gI b w)).Closed:=fun w=>bG hcl jW
 have e8:(8:Int).toNat=8:=rfl
 have e30:(30:Int).toNat=30:=rfl
 have w1:∀ (u n:Nat) (k:Int),0<n→n≤100→0≤k→k≤100→IntKind.i64.wrap (k+((cv b u n:Nat):Int))=k+((cv b u n:Nat):Int):=fun u n k h1 h2 h3 h4=>by
  exact Y125
 have a28:∀ u,IntKind.i64.wrap (2+((cv b u 8:Nat):Int))=2+((cv b u 8:Nat):Int):=fun u=>w1 u 8 2 (by decide) (by decide) (by decide) (by decide)
 have a30:∀ u,IntKind.i64.wrap (12+((cv b u 30:Nat):Int))=12+((cv b u 30:Nat):Int):=fun u=>w1 u 30 12 (by decide) (by decide) (by decide) (by decide)
 have es1:r9=eG oN:=rfl
 have es2:qs=eG nm:=rfl
 have es3:rY=eG oF:=rfl
 simp only [go_sem,bhq,Nat.reduceMod,Nat.reduceDiv,aW,aX,aZ,bx,aY,bw,bo,bp,bv,yaq,yar,yao,yap,dn,cV,es1,es2,es3,sE,fN hb lY,fN hb kR,fN hb lZ,E2,Eq,E1,E7,D4,ED,xc,hg,hgc,cY hb,ep,cO,eN,hne,hne2,e8,e30,a28,a30]
 refine Tq3 ?_
 refine HW (by simp [fw]) (fun t ht=>?_) ?_
 ·simp only [fw,List.mem_cons,List.not_mem_nil,or_false] at ht
  rcases ht with rfl|rfl|rfl|rfl<;>simp only [ln,ls,gu,gv]<;>(try split)<;>simp
 simp only [bm,aD,go_sem,bhq,Nat.reduceMod,Nat.reduceDiv,aW,aX,aZ,bx,aY,bw,bo,bp,bv,yaq,yar,yao,yap,dn,cV,es1,es2,es3,sE,fN hb lY,fN hb kR,fN hb lZ,E2,Eq,E1,E7,D4,ED,xc,hg,hgc,cY hb,ep,cO,eN,hne,hne2,e8,e30,a28,a30,fN hb (oM _),HQ,Ks,iNq]
 refine au (fun h1=>?_) (fun h1=>?_)
 all_goals
  simp only [bm,aD,go_sem,bhq,Nat.reduceMod,Nat.reduceDiv,aW,aX,aZ,bx,aY,bw,bo,bp,bv,yaq,yar,yao,yap,dn,cV,es1,es2,es3,sE,fN hb lY,fN hb kR,fN hb lZ,E2,Eq,E1,E7,D4,ED,xc,hg,hgc,cY hb,ep,cO,eN,hne,hne2,e8,e30,a28,a30,fN hb (oM _),HQ,Ks,iNq,tg2,tg3,tgl,k2l,k3l]
  refine Tq4 ?_
  refine au (fun h2=>?_) (fun h2=>?_)
 all_goals
  simp only [bm,aD,go_sem,bhq,Nat.reduceMod,Nat.reduceDiv,aW,aX,aZ,bx,aY,bw,bo,bp,bv,yaq,yar,yao,yap,dn,cV,es1,es2,es3,sE,fN hb lY,fN hb kR,fN hb lZ,E2,Eq,E1,E7,D4,ED,xc,hg,hgc,cY hb,ep,cO,eN,hne,hne2,e8,e30,a28,a30,fN hb (oM _),HQ,Ks,iNq,tg2,tg3,tgl,k2l,k3l]
  refine Tq4 ?_
  refine eH (fun h3=>?_) (fun h3=>?_)
 all_goals
  try (repeat with_reducible refine Yq ?_)
  try refine au (fun h4=>?_) (fun h4=>?_)
 all_goals
  try simp only [bm,aD,go_sem,bhq,Nat.reduceMod,Nat.reduceDiv,aW,aX,aZ,bx,aY,bw,bo,bp,bv,yaq,yar,yao,yap,dn,cV,es1,es2,es3,sE,fN hb lY,fN hb kR,fN hb lZ,E2,Eq,E1,E7,D4,ED,xc,hg,hgc,cY hb,ep,cO,eN,hne,hne2,e8,e30,a28,a30,fN hb (oM _),HQ,Ks,iNq,tg2,tg3,tgl,k2l,k3l]
  refine Tq4 ?_
  refine eH (fun h5=>?_) (fun h5=>?_)
 all_goals
  try (repeat with_reducible refine Yq ?_)
  try refine au (fun h6=>?_) (fun h6=>?_)
 all_goals
  try simp only [bm,aD,go_sem,bhq,Nat.reduceMod,Nat.reduceDiv,aW,aX,aZ,bx,aY,bw,bo,bp,bv,yaq,yar,yao,yap,dn,cV,es1,es2,es3,sE,fN hb lY,fN hb kR,fN hb lZ,E2,Eq,E1,E7,D4,ED,xc,hg,hgc,cY hb,ep,cO,eN,hne,hne2,e8,e30,a28,a30,fN hb (oM _),HQ,Ks,iNq,tg2,tg3,tgl,k2l,k3l]
  refine Tq4 ?_
  replace h1:=r4 h1
  replace h2:=r4 h2
  replace h3:=r4 h3
  replace h5:=r4 h5
  try replace h4:=r4 h4
  try replace h6:=r4 h6
  refine lj 101 (.agg (aR S)) ?_ ?_
  ·rw [← hS]
   simp only [N9] at h1 h2 h3 h5
   try simp only [N9] at h4
   try simp only [N9] at h6
   simp [*,Fr.get,aR,gL,gFields,gHeaders,aG,az,aO,a9,inL,AV.cells,mK,dN,dO,eI,iE,eM,lX,lS,lG,wkM,rT]
  simp only [bhq,Nat.reduceMod,Nat.reduceDiv,aW,aX,aZ,bx,aY,bw,bo,bp,bv,yaq,yar,yao,yap,go_sem,aR]
  refine ⟨?_,?_,hcl2 _,sF S⟩
  ·simp [eE,aR,wk,wk2,wkL,wk1,wkM]
  ·rw [← hpos]
   repeat first|exact .refl _|refine .push ?_ _
theorem aV {α:Type} {f:α→AV} {l:List α} {k:Nat} {x:α} (hx:l[k]?=some x):(l.map f).getD k .junk=f x:=by
 rw [gEq,List.getElem?_map,hx];rfl
end Go.AL
