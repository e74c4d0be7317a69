/- Lemmas of the proof; no condition. -/
import Derived.Test.YthnlhjalhflgfaaGreatS10c
set_option linter.all false
set_option maxRecDepth 10000
set_option maxHeartbeats 32000000
open List renaming length_cons → yaz, map_cons → yae, drop_succ_cons → yao, drop_zero → yap, getD_cons_zero → yau, length_nil → yba, take_succ_cons → yaq, take_zero → yar, length_map → ybb, map_nil → yaf, append_nil → yaj
open Go Go.AL Go.Proofs
namespace Go.AL
def sS:List AV→AHeap→(AEnd→AHeap→Prop)→Prop
 |[.ptr id 0,.slice .any 8 l],H,K=>∃ ts:List STable,(l=ts.map aC∧ts.length≤100∧∀ t∈ts,t.keys.length≤100)∧onC (H.get id) fun b v=>K (.ret (.slice .any 6 ((iO b v ts).1.map bc))) (H.set id (ex b (iO b v ts).2))
 |_,_,_=>False
def bfN (n:Nat) (f:Nat→Bool):List AV:=(List.range n).map fun i=>.bool (f i)
theorem z8 {n:Nat} {f:Nat→Bool}:(bfN n f).length=n:=by simp [bfN]
theorem z4 {n:Nat} {f g:Nat→Bool} {i:Nat} {b:Bool} (h:∀ j,j<n→g j=if j=i then b else f j):(bfN n f).set i (.bool b)=bfN n g:=by
 apply List.ext_getElem
 ·simp [bfN]
 ·intro j h1 h2
  have hj:j<n:=by simpa [bfN] using h2
  rw [List.getElem_set]
  simp only [bfN,List.getElem_map,List.getElem_range,h j hj]
  by_cases e:i=j
  ·subst e;simp
  ·rw [if_neg e,if_neg (fun x=>e x.symm)]
theorem J2 {n:Nat}:(List.replicate n [AV.bool false]).flatten=bfN n fun _=>false:=by
 induction n with
 |zero=>rfl
 |succ n ih =>
  rw [List.replicate_succ,List.flatten_cons,ih]
  apply List.ext_getElem
  ·simp [bfN]
  ·intro j h1 h2
   cases j<;>simp [bfN]
theorem zJ {n:Nat} {f:Nat→Bool}:bfN n f=boL ((List.range n).map f):=by simp [bfN,boL]
theorem Ab {m n:Nat} {f:Nat→Bool}:ltL m (bfN n f)=True:=eq_true (ltL_iff.2 fun j hj=>by
 simp only [bfN,List.getElem_map]
 rw [AV.lt]<;>simp)
theorem ln:∀ (l:List Bool),bH 1 l.length (boL l)=boL l
 |[]=>rfl
 |x::l=>by
  rw [yaz,bH,if_pos rfl]
  have:=ln l
  simp only [boL,yae,yao,yap,yau,kw] at this ⊢
  rw [this]
theorem u7 {α:Type} {n:Nat} {f:α→AV} {a c:List AV} {l:List α} (h:a++c=l.map f) (hf:∀ x,AV.lt n (f x)):ltL n a=True:=eq_true (ltL_iff.2 fun j hj=>by
 have:a[j]∈l.map f:=by rw [← h];exact List.mem_append_left _ (gMq hj)
 obtain ⟨x,_,e⟩:=List.mem_map.1 this
 rw [← e];exact hf x)
def uN (i j:Nat) (g:List AV):List AV:=[.int .i64 1,.str [97,108,108],.slice (.own i) 4 g,.slice (.own j) 1 [.int .i64 1,.int .i64 2,.int .i64 3,.int .i64 4,.int .i64 5,.int .i64 6],.int .i64 40,.bool true]
def pk (b:List UInt8) (v i j:Nat) (g:List AV):List AV:=[.int .i64 2,.str [115,111,109,101],.slice (.own i) 4 g,.slice (.own j) 1 [.int .i64 1,.int .i64 2,.int .i64 (3+ci b (cp v 0) 3)],.int .i64 (1+ci b (cp v 1) 6),.bool false]
def ve (b:List UInt8) (v i j:Nat) (g:List AV):List AV:=[.int .i64 7,.str [102,101,119],.slice (.own i) 4 g,.slice (.own j) 1 [.int .i64 (1+ci b (cp v 2) 6)],.int .i64 (ci b (cp v 3) 4),.bool false]
def ig (H:AHeap) (id:Nat) (b:List UInt8) (v w:Nat) (a1 a2 a3:List AV):AHeap :=
 (((((((((((H.set id (ex b (cp w 0))).push (.buf 6 0)).push (.buf 1 6)).push (.buf 4 a1.length)).push (.cells (uN (H.nx+1+1) (H.nx+1) a1))).push (.buf 1 3)).push (.buf 4 a2.length)).push (.cells (pk b v (H.nx+1+1+1+1+1) (H.nx+1+1+1+1) a2))).push (.buf 1 1)).push (.buf 4 a3.length)).push (.cells (ve b v (H.nx+1+1+1+1+1+1+1+1) (H.nx+1+1+1+1+1+1+1) a3)))
structure RolI (b:List UInt8) (ts:List STable) (R:(List SGrant × List SGrant × List SGrant) × Nat) (k w:Nat) (a1 a2 a3:List AV):Prop where
 le:k≤ts.length
 l1:a1.length≤k
 l2:a2.length≤k
 l3:a3.length≤k
 e1:a1++(cQ b (ts.drop k) w).1.1.map bj=R.1.1.map bj
 e2:a2++(cQ b (ts.drop k) w).1.2.1.map bj=R.1.2.1.map bj
 e3:a3++(cQ b (ts.drop k) w).1.2.2.map bj=R.1.2.2.map bj
 e4:(cQ b (ts.drop k) w).2=R.2
theorem ik {H:AHeap} {id:Nat} {b:List UInt8} {ts:List STable} {R:(List SGrant × List SGrant × List SGrant) × Nat} {v k w:Nat} {a1 a2 a3:List AV} (hcl:H.Closed) (h:RolI b ts R k w a1 a2 a3) (w':Nat):(ig H id b v w' a1 a2 a3).Closed:=by
 have q1:=fun n=>u7 (n:=n) h.e1 j3
 have q2:=fun n=>u7 (n:=n) h.e2 j3
 have q3:=fun n=>u7 (n:=n) h.e3 j3
 unfold ig
 repeat' (first|exact ba hcl jG|refine aY ?_|refine af ?_ ?_)
 all_goals simp [uN,pk,ve,fD,znu,znv,znf,znh,zng,zle,zlf,q1,q2,q3]
 all_goals omega
theorem Ba:EntOk Tryz.prog 23 (Ent.effect sS):=by
 refine EntOk.effect fun args H K h=>?_
 unfold sS at h
 split at h
 rotate_left
 ·exact h.elim
 rename_i id l
 obtain ⟨ts,⟨rfl,hts,htk⟩,h⟩:=h
 obtain ⟨b,v,hg,hb,hv,hK⟩:=lC h
 refine ⟨_,_,hK,?_⟩
 clear hK
 generalize hres:AV.slice .any 6 ((iO b v ts).1.map bc)=res
 generalize hR:cQ b ts (v+4)=R
 have hend:(iO b v ts).2=R.2:=by rw [← hR];rfl
 rw [hend]
 refine ACalls.fW ap (tCq kN (tCq kX tNq)) Tryz.func23 [.tmp 4] (nrq _) (T:=aj [(16,[[],[],[],[],[],[],[],[],[5],[],[],[3,5,8],[1,3,5,8],[],[1,3,5,8]]),(18,[[],[],[],[],[],[],[],[5],[],[],[3,5,7],[1,3,5,7],[],[1,3,5,7]]),(1,[[7]]),(2,[[25]]),(3,[[22]]),(14,[[1]]),(20,[[16]])]) (h:=fun hcl hlt=>?_)
 clear hlt
 have hid:=glq hg
 have hne:=qv hid
 have hgc:=mj (b:=b) hid
 have hcl2:∀ w,(H.set id (ex b w)).Closed:=fun w=>ba hcl jG
 have e2:(2:Int).toNat=2:=rfl
 have e3:(3:Int).toNat=3:=rfl
 have e4:(4:Int).toNat=4:=rfl
 have e6:(6:Int).toNat=6:=rfl
 have w1:∀ (u n:Nat) (k:Int),0<n→n≤100→0≤k→k≤100→IntKind.i64.wrap (k+((cv b u n:Nat):Int))=k+((cv b u n:Nat):Int):=fun u n k h1 h2 h3 h4=>by
  have:=jA (b:=b) (v:=u) (n:=n) h1
  rw [wrap_i64 (by omega) (by omega)]
 have a33:∀ u,IntKind.i64.wrap (3+((cv b u 3:Nat):Int))=3+((cv b u 3:Nat):Int):=fun u=>w1 u 3 3 (by decide) (by decide) (by decide) (by decide)
 have a16:∀ u,IntKind.i64.wrap (1+((cv b u 6:Nat):Int))=1+((cv b u 6:Nat):Int):=fun u=>w1 u 6 1 (by decide) (by decide) (by decide) (by decide)
 simp only [go_sem,bhq,Nat.reduceMod,Nat.reduceDiv,au,aq,ay,aN,ax,aM,aJ,aK,aL,yaq,yar,yao,yap,cj,bT,hg,hgc,bW hb,cE,bK,cU,hne,e2,e3,e4,e6,a33,a16]
 refine rG 14 2 4 _ rfl rfl ?_
 simp only [go_sem,bhq,Nat.reduceMod,Nat.reduceDiv,au,aq,ay,aN,ax,aM,aJ,aK,aL,yaq,yar,yao,yap,cj,bT,hg,hgc,bW hb,cE,bK,cU,hne,e2,e3,e4,e6,a33,a16,List.set_cons_succ,List.set_cons_zero]
 (repeat with_reducible refine Yq ?_)
 refine rG 22 2 4 _ rfl rfl ?_
 simp only [go_sem,bhq,Nat.reduceMod,Nat.reduceDiv,au,aq,ay,aN,ax,aM,aJ,aK,aL,yaq,yar,yao,yap,cj,bT,hg,hgc,bW hb,cE,bK,cU,hne,e2,e3,e4,e6,a33,a16,List.set_cons_succ,List.set_cons_zero]
 (repeat with_reducible refine Yq ?_)
 refine rG 29 2 4 _ rfl rfl ?_
 simp only [go_sem,bhq,Nat.reduceMod,Nat.reduceDiv,au,aq,ay,aN,ax,aM,aJ,aK,aL,yaq,yar,yao,yap,cj,bT,hg,hgc,bW hb,cE,bK,cU,hne,e2,e3,e4,e6,a33,a16,List.set_cons_succ,List.set_cons_zero]
 refine aD (A:=Nat × Nat × List AV × List AV × List AV) (fun x=>[(0,.ptr id 0),(5,.ptr (H.nx+1+1+1) 0),(6,.ptr (H.nx+1+1+1+1+1+1) 0),(7,.ptr (H.nx+1+1+1+1+1+1+1+1+1) 0),(30,.slice .any 8 (ts.map aC)),(31,.int .i64 (ts.length:Int)),(32,.int .i64 (x.1:Int))]) (fun x=>ig H id b v x.2.1 x.2.2.1 x.2.2.2.1 x.2.2.2.2) (fun x=>RolI b ts R x.1 x.2.1 x.2.2.1 x.2.2.2.1 x.2.2.2.2) (fun x=>ts.length - x.1) (0,v+4,[],[],[]) ⟨by omega,by simp,by simp,by simp,by rw [← hR];rfl,by rw [← hR];rfl,by rw [← hR];rfl,by rw [← hR];rfl⟩ ?_ fun x hx=>?_
 ·refine ⟨by simp only [ig,zle,zlf,zkq,zkv];omega,lRq _,ik (ts:=ts) (R:=R) (k:=0) (w:=v+4) hcl ⟨by omega,by simp,by simp,by simp,by rw [← hR];rfl,by rw [← hR];rfl,by rw [← hR];rfl,by rw [← hR];rfl⟩ _,?_,?_⟩
  ·simp [ltF,ig,znn,znf,zle,zlf,aZ eb]
   omega
  ·simp [bk,wk2,wk1,wkM,Fr.get]
 obtain ⟨k,w,a1,a2,a3⟩:=x
 dsimp only at hx ⊢
 have hclo:=fun w'=>ik (id:=id) (v:=v) hcl hx w'
 obtain ⟨hk,l1,l2,l3,i1,i2,i3,i4⟩:=hx
 simp only [go_sem]
 refine ak (fun hc=>?_) (fun hc=>?_)
 ·have hk':k<ts.length:=by simp at hc;omega
  obtain ⟨t,ht⟩:∃ t,t=ts[k]:=⟨_,rfl⟩
  have hd:ts.drop k=t::ts.drop (k+1):=by rw [ht];exact dcq hk'
  have hkl:t.keys.length≤100:=htk t (by rw [ht];exact gMq hk')
  have htg:(ts.map aC).getD k .junk=.agg [.int .i64 t.id,.str t.name,.slice .any 3 (t.keys.map bE),.slice .any 1 (inL t.actions),.int .i64 t.dflt,.slice .any 2 (t.dargs.map vv),.int .i64 t.size,.str t.restr]:=by
   rw [gEq,List.getElem?_map,gQq hk',← ht];rfl
  have hT:∀ n,ltL n ([.int .i64 t.id,.str t.name,.slice .any 3 (t.keys.map bE),.slice .any 1 (inL t.actions),.int .i64 t.dflt,.slice .any 2 (t.dargs.map vv),.int .i64 t.size,.str t.restr]:List AV):=fun n=>ltL_iff.2 fun j hj=>AV.lt_cells (eb t) j hj
  have hclT:∀ w',((ig H id b v w' a1 a2 a3).push (.cells [.int .i64 t.id,.str t.name,.slice .any 3 (t.keys.map bE),.slice .any 1 (inL t.actions),.int .i64 t.dflt,.slice .any 2 (t.dargs.map vv),.int .i64 t.size,.str t.restr])).Closed:=fun w'=>af (hclo w') (hT _)
  have hclo2:∀ w' f g,((((ig H id b v w' a1 a2 a3).push (.cells [.int .i64 t.id,.str t.name,.slice .any 3 (t.keys.map bE),.slice .any 1 (inL t.actions),.int .i64 t.dflt,.slice .any 2 (t.dargs.map vv),.int .i64 t.size,.str t.restr])).push (.cells (bfN t.keys.length f))).push (.cells (bfN t.keys.length g))).Closed:=fun w' f g =>
   af (af (hclT w') (by simp [Ab])) (by simp [Ab])
  have hrn:∀ w',(ig H id b v w' a1 a2 a3).nx=(H.nx+1+1+1+1+1+1+1+1+1+1):=fun _=>rfl
  simp only [go_sem,ig,uN,pk,ve,htg,iNq,ybb,J2,z8]
  (repeat with_reducible refine Yq ?_)
  refine aD (A:=Nat) (fun j=>[(0,.ptr id 0),(5,.ptr (H.nx+1+1+1) 0),(6,.ptr (H.nx+1+1+1+1+1+1) 0),(7,.ptr (H.nx+1+1+1+1+1+1+1+1+1) 0),(9,.ptr (H.nx+1+1+1+1+1+1+1+1+1+1) 0),(10,.ms (H.nx+1+1+1+1+1+1+1+1+1+1+1) 0 1 t.keys.length),(11,.ms (H.nx+1+1+1+1+1+1+1+1+1+1+1+1) 0 1 t.keys.length),(30,.slice .any 8 (ts.map aC)),(31,.int .i64 (ts.length:Int)),(32,.int .i64 (k:Int)),(45,.int .i64 (t.keys.length:Int)),(46,.int .i64 (j:Int))]) (fun j=>(((ig H id b v (w+j) a1 a2 a3).push (.cells [.int .i64 t.id,.str t.name,.slice .any 3 (t.keys.map bE),.slice .any 1 (inL t.actions),.int .i64 t.dflt,.slice .any 2 (t.dargs.map vv),.int .i64 t.size,.str t.restr])).push (.cells (bfN t.keys.length fun i=>decide (i<j)))).push (.cells (bfN t.keys.length fun i=>decide (i<j)&&decide (ci b (w+i) 4 > 0)))) (fun j=>j≤t.keys.length) (fun j=>t.keys.length - j) 0 (by omega) ?_ fun j hj=>?_
  ·simp only [Nat.not_lt_zero,decide_false,Bool.false_and]
   refine ⟨by simp only [zle,hrn,zkq,zkv];omega,lRq _,hclo2 _ _ _,?_,?_⟩
   ·simp [ltF,hrn,znn,znp,znf,zle,zlf,aZ eb]
    omega
   ·simp [bk,wk2,wk1,wkM,Fr.get]
  simp only [go_sem]
  refine ak (fun hc2=>?_) (fun hc2=>?_)
  ·have hj':j<t.keys.length:=by simp at hc2;omega
   have e5:IntKind.i64.wrap ((j:Int)+1)=((j+1:Nat):Int):=by rw [wrap_i64]<;>omega
   have hs1:(bfN t.keys.length fun i=>decide (i<j)).set j (.bool true)=bfN t.keys.length fun i=>decide (i<j+1):=z4 fun i hi=>by
    by_cases e:i=j
    ·subst e;simp
    ·rw [if_neg e,decide_eq_decide];omega
   have hs2:(bfN t.keys.length fun i=>decide (i<j)&&decide (ci b (w+i) 4 > 0)).set j (.bool (decide (ci b (cp (w+j) 0) 4 > 0)))=bfN t.keys.length fun i=>decide (i<j+1)&&decide (ci b (w+i) 4 > 0):=z4 fun i hi=>by
    by_cases e:i=j
    ·subst e;simp [cp]
    ·rw [if_neg e];congr 1;rw [decide_eq_decide];omega
   simp only [aE,ah,bhq,Nat.reduceMod,Nat.reduceDiv,au,aq,ay,aN,ax,aM,aJ,aK,aL,yaq,yar,yao,yap,go_sem,cj,bT,hgc,bW hb,cE,bK,cU,hne,e4,ig,uN,pk,ve,lAq,ybb,iNq,z8,rM,nzq,Nat.mul_one,hs1,hs2,e5]
   (repeat with_reducible refine Yq ?_)
   refine ⟨j+1,by omega,by omega,by simp only [zle,hrn,zlf,zkq,zkv];omega,lRq _,hclo2 _ _ _,?_,?_⟩
   ·simp [ltF,hrn,znn,znp,znf,zle,zlf,aZ eb]
    omega
   ·simp [bk,wk2,wk1,wkM,Fr.get]
  have hj':j=t.keys.length:=by simp at hc2;omega
  subst hj'
  have y1:(bfN t.keys.length fun i=>decide (i<t.keys.length))=boL (List.replicate t.keys.length true):=by
   rw [zJ];congr 1
   apply List.ext_getElem
   ·simp
   ·intro i h1 h2;simp at h1 ⊢;exact h1
  have y2:(bfN t.keys.length fun i=>decide (i<t.keys.length)&&decide (ci b (w+i) 4 > 0))=boL (iU b w t.keys.length):=by
   rw [zJ];congr 1
   unfold iU
   refine List.map_congr_left fun i hi=>?_
   have:=List.mem_range.1 hi
   simp [this]
  rw [y1,y2]
  simp only [aE,ah,bhq,Nat.reduceMod,Nat.reduceDiv,au,aq,ay,aN,ax,aM,aJ,aK,aL,yaq,yar,yao,yap,go_sem,cj,bT,hgc,bW hb,cE,bK,cU,hne,e4,ig,uN,pk,ve,lAq,ybb]
  refine tA [(0,.ptr id 0),(5,.ptr (H.nx+1+1+1) 0),(6,.ptr (H.nx+1+1+1+1+1+1) 0),(7,.ptr (H.nx+1+1+1+1+1+1+1+1+1) 0),(9,.ptr (H.nx+1+1+1+1+1+1+1+1+1+1) 0),(10,.slice .any 1 (boL (List.replicate t.keys.length true))),(11,.slice .any 1 (boL (iU b w t.keys.length))),(30,.slice .any 8 (ts.map aC)),(31,.int .i64 (ts.length:Int)),(32,.int .i64 (k:Int))] ((ig H id b v (w+t.keys.length) a1 a2 a3).push (.cells [.int .i64 t.id,.str t.name,.slice .any 3 (t.keys.map bE),.slice .any 1 (inL t.actions),.int .i64 t.dflt,.slice .any 2 (t.dargs.map vv),.int .i64 t.size,.str t.restr])) ⟨by simp only [zle,hrn,zkq,zkv,pm];omega,((lRq _).push _).push _,hclT _,?_,?_⟩ ?_
  ·simp [ltF,hrn,znn,znp,znf,zle,zlf,aZ eb,EO]
   omega
  ·have yr1:bH 1 t.keys.length (boL (List.replicate t.keys.length true))=boL (List.replicate t.keys.length true):=by
    have:=ln (List.replicate t.keys.length true)
    rw [List.length_replicate] at this;exact this
   have yr2:bH 1 t.keys.length (boL (iU b w t.keys.length))=boL (iU b w t.keys.length):=by
    have:=ln (iU b w t.keys.length)
    rw [show (iU b w t.keys.length).length=t.keys.length by simp [iU]] at this;exact this
   have hn1:∀ w' o,((ig H id b v w' a1 a2 a3).push o).get (H.nx+1+1+1+1+1+1+1+1+1+1+1)=none:=fun w' o=>zmv (by rw [zle,hrn];omega)
   have hn2:∀ w' o,((ig H id b v w' a1 a2 a3).push o).get (H.nx+1+1+1+1+1+1+1+1+1+1+1+1)=none:=fun w' o=>zmv (by rw [zle,hrn];omega)
   simp only [bk,wk2,wk1,wkM,go_sem,yap,yr1,yr2,hn1,hn2,true_or,or_true,and_self]
  simp only [aE,ah,bhq,Nat.reduceMod,Nat.reduceDiv,au,aq,ay,aN,ax,aM,aJ,aK,aL,yaq,yar,yao,yap,go_sem,cj,bT,hgc,bW hb,cE,bK,cU,hne,e4,ig,uN,pk,ve,ybb]
  (repeat with_reducible refine Yq ?_)
  have e5:=Yk5 k
  refine ak (fun h1=>?_) (fun h1=>?_)
  all_goals
   try simp only [aE,ah,bhq,Nat.reduceMod,Nat.reduceDiv,au,aq,ay,aN,ax,aM,aJ,aK,aL,yaq,yar,yao,yap,go_sem,cj,bT,hgc,bW hb,cE,bK,cU,hne,e4,ig,uN,pk,ve,ybb]
   try (repeat with_reducible refine Yq ?_)
   refine ak (fun h2=>?_) (fun h2=>?_)
  all_goals
   try simp only [aE,ah,bhq,Nat.reduceMod,Nat.reduceDiv,au,aq,ay,aN,ax,aM,aJ,aK,aL,yaq,yar,yao,yap,go_sem,cj,bT,hgc,bW hb,cE,bK,cU,hne,e4,ig,uN,pk,ve,ybb,e5]
   try (repeat with_reducible refine Yq ?_)
  ·have hp1:(0<cv b (w+t.keys.length) 4)=True:=eq_true (by have h:=of_decide_eq_true h1;simp only [cp,Nat.add_zero] at h;omega)
   have hp2:(cv b (w+(t.keys.length+3)) 2=1)=True:=eq_true (by have h:=of_decide_eq_true h2;unfold cp at h;rw [Nat.add_assoc] at h;exact h)
   rw [hd] at i1 i2 i3 i4
   simp only [cQ,hp1,hp2,if_true,if_false,Nat.add_assoc,Nat.reduceAdd] at i1 i2 i3 i4
   have hI:RolI b ts R (k+1) (w+(t.keys.length+6)) (a1++[.agg [.int .i64 t.id,.bool true,.bool true,.slice .any 1 (boL (List.replicate t.keys.length true))]]) (a2++[.agg [.int .i64 t.id,.bool (decide (0<ci b (w+t.keys.length+1) 4)),.bool (decide (cv b (w+t.keys.length+2) 2=1)),.slice .any 1 (boL (iU b w t.keys.length))]]) (a3++[.agg [.int .i64 t.id,.bool (decide (cv b (w+t.keys.length+4) 2=1)),.bool (decide (cv b (w+t.keys.length+5) 2=1)),.slice .any 1 (boL (List.replicate t.keys.length true))]]):=by
    refine ⟨by omega,by (try simp only [lAq,yaz,yba]);omega,by (try simp only [lAq,yaz,yba]);omega,by (try simp only [lAq,yaz,yba]);omega,?_,?_,?_,i4⟩
    ·simpa [bj,Nat.add_assoc] using i1
    ·simpa [bj,Nat.add_assoc] using i2
    ·simpa [bj,Nat.add_assoc] using i3
   refine ⟨(_,_,_,_,_),hI,by dsimp only;omega,by simp only [ig,zle,zlf];omega,?_,ik hcl hI _,?_,?_⟩
   ·simp only [ig,lAq,yaz,yba]
    repeat first|exact .refl _|refine .push ?_ _
   ·simp [ltF,ig,znn,znf,zle,zlf,aZ eb]
    omega
   ·simp [bk,wk2,wk1,wkM,Fr.get]
  ·have hp1:(0<cv b (w+t.keys.length) 4)=True:=eq_true (by have h:=of_decide_eq_true h1;simp only [cp,Nat.add_zero] at h;omega)
   have hp2:(cv b (w+(t.keys.length+3)) 2=1)=False:=eq_false (by have h:=of_decide_eq_false h2;unfold cp at h;rw [Nat.add_assoc] at h;exact h)
   rw [hd] at i1 i2 i3 i4
   simp only [cQ,hp1,hp2,if_true,if_false,Nat.add_assoc,Nat.reduceAdd] at i1 i2 i3 i4
   have hI:RolI b ts R (k+1) (w+(t.keys.length+4)) (a1++[.agg [.int .i64 t.id,.bool true,.bool true,.slice .any 1 (boL (List.replicate t.keys.length true))]]) (a2++[.agg [.int .i64 t.id,.bool (decide (0<ci b (w+t.keys.length+1) 4)),.bool (decide (cv b (w+t.keys.length+2) 2=1)),.slice .any 1 (boL (iU b w t.keys.length))]]) (a3):=by
    refine ⟨by omega,by (try simp only [lAq,yaz,yba]);omega,by (try simp only [lAq,yaz,yba]);omega,by (try simp only [lAq,yaz,yba]);omega,?_,?_,?_,i4⟩
    ·simpa [bj,Nat.add_assoc] using i1
    ·simpa [bj,Nat.add_assoc] using i2
    ·simpa [bj,Nat.add_assoc] using i3
   refine ⟨(_,_,_,_,_),hI,by dsimp only;omega,by simp only [ig,zle,zlf];omega,?_,ik hcl hI _,?_,?_⟩
   ·simp only [ig,lAq,yaz,yba]
    repeat first|exact .refl _|refine .push ?_ _
   ·simp [ltF,ig,znn,znf,zle,zlf,aZ eb]
    omega
   ·simp [bk,wk2,wk1,wkM,Fr.get]
  ·have hp1:(0<cv b (w+t.keys.length) 4)=False:=eq_false (by have h:=of_decide_eq_false h1;simp only [cp,Nat.add_zero] at h;omega)
   have hp2:(cv b (w+(t.keys.length+1)) 2=1)=True:=eq_true (by have h:=of_decide_eq_true h2;unfold cp at h;rw [Nat.add_assoc] at h;exact h)
   rw [hd] at i1 i2 i3 i4
   simp only [cQ,hp1,hp2,if_true,if_false,Nat.add_assoc,Nat.reduceAdd] at i1 i2 i3 i4
   have hI:RolI b ts R (k+1) (w+(t.keys.length+4)) (a1++[.agg [.int .i64 t.id,.bool true,.bool true,.slice .any 1 (boL (List.replicate t.keys.length true))]]) (a2) (a3++[.agg [.int .i64 t.id,.bool (decide (cv b (w+t.keys.length+2) 2=1)),.bool (decide (cv b (w+t.keys.length+3) 2=1)),.slice .any 1 (boL (List.replicate t.keys.length true))]]):=by
    refine ⟨by omega,by (try simp only [lAq,yaz,yba]);omega,by (try simp only [lAq,yaz,yba]);omega,by (try simp only [lAq,yaz,yba]);omega,?_,?_,?_,i4⟩
    ·simpa [bj,Nat.add_assoc] using i1
    ·simpa [bj,Nat.add_assoc] using i2
    ·simpa [bj,Nat.add_assoc] using i3
   refine ⟨(_,_,_,_,_),hI,by dsimp only;omega,by simp only [ig,zle,zlf];omega,?_,ik hcl hI _,?_,?_⟩
   ·simp only [ig,lAq,yaz,yba]
    repeat first|exact .refl _|refine .push ?_ _
   ·simp [ltF,ig,znn,znf,zle,zlf,aZ eb]
    omega
   ·simp [bk,wk2,wk1,wkM,Fr.get]
  ·have hp1:(0<cv b (w+t.keys.length) 4)=False:=eq_false (by have h:=of_decide_eq_false h1;simp only [cp,Nat.add_zero] at h;omega)
   have hp2:(cv b (w+(t.keys.length+1)) 2=1)=False:=eq_false (by have h:=of_decide_eq_false h2;unfold cp at h;rw [Nat.add_assoc] at h;exact h)
   rw [hd] at i1 i2 i3 i4
   simp only [cQ,hp1,hp2,if_true,if_false,Nat.add_assoc,Nat.reduceAdd] at i1 i2 i3 i4
   have hI:RolI b ts R (k+1) (w+(t.keys.length+2)) (a1++[.agg [.int .i64 t.id,.bool true,.bool true,.slice .any 1 (boL (List.replicate t.keys.length true))]]) (a2) (a3):=by
    refine ⟨by omega,by (try simp only [lAq,yaz,yba]);omega,by (try simp only [lAq,yaz,yba]);omega,by (try simp only [lAq,yaz,yba]);omega,?_,?_,?_,i4⟩
    ·simpa [bj,Nat.add_assoc] using i1
    ·simpa [bj,Nat.add_assoc] using i2
    ·simpa [bj,Nat.add_assoc] using i3
   refine ⟨(_,_,_,_,_),hI,by dsimp only;omega,by simp only [ig,zle,zlf];omega,?_,ik hcl hI _,?_,?_⟩
   ·simp only [ig,lAq,yaz,yba]
    repeat first|exact .refl _|refine .push ?_ _
   ·simp [ltF,ig,znn,znf,zle,zlf,aZ eb]
    omega
   ·simp [bk,wk2,wk1,wkM,Fr.get]
 ·have hk':k=ts.length:=by simp at hc;omega
  subst hk'
  simp only [bhq,Nat.reduceMod,Nat.reduceDiv,au,aq,ay,aN,ax,aM,aJ,aK,aL,yaq,yar,yao,yap,go_sem,ig,uN,pk,ve]
  (repeat with_reducible refine Yq ?_)
  simp only [List.drop_length,cQ,yaf,yaj] at i1 i2 i3 i4
  subst i4
  refine i8 4 res ?_ ?_
  ·rw [← hres]
   simp only [iO,hR]
   simp [Fr.get,bc,inL,i1,i2,i3,cp,AV.cells,kB,dd,dc,dK,gh,gN,kz,jJ,jp,wkM,gg]
  simp only [bhq,Nat.reduceMod,Nat.reduceDiv,au,aq,ay,aN,ax,aM,aJ,aK,aL,yaq,yar,yao,yap,go_sem]
  subst hres
  refine ⟨?_,?_,hcl2 _,aZ lN⟩
  ·simp [wk,wk2,wk1,wkM]
  ·repeat first|exact .refl _|refine .push ?_ _
def rL (g:List UInt8→Nat→AV × Nat):Prop:=∀ b v,(g b (min v b.length)).1=(g b v).1∧∃ c,(g b (min v b.length)).2=min v b.length+c∧(g b v).2=v+c
def onS (o:Option AObj) (g:List UInt8→Nat→AV × Nat) (K:AV→AObj→Prop):Prop:=onC o fun b v=>K (g b v).1 (ex b (g b v).2)
@[congr] theorem NA {o o':Option AObj} {g:List UInt8→Nat→AV × Nat} {K:AV→AObj→Prop} (h:o=o'):onS o g K=onS o' g K:=by rw [h]
theorem du {b:List UInt8} {v:Nat} {g:List UInt8→Nat→AV × Nat} {K:AV→AObj→Prop} (hb:b.length≤1000000) (hg:rL g):onS (some (ex b v)) g K=K (g b v).1 (ex b (g b v).2):=by
 unfold onS
 rw [bW hb]
 obtain ⟨h1,c,h2,h3⟩:=hg b v
 rw [h1,h2,h3,bK]
theorem pG {g:List UInt8→Nat→AV × Nat} {id:Nat} {H:AHeap} {K:AEnd→AHeap→Prop}:eG g [.ptr id 0] H K=onS (H.get id) g fun x o=>K (.ret x) (H.set id o):=(rfl)
def mm:List UInt8→Nat→AV × Nat:=fun b v=>(.slice .any 5 ((bL b v).1.map aO),(bL b v).2)
def kQ:List UInt8→Nat→AV × Nat:=fun b v=>(.slice .any 5 ((dn b v).map aA),v+4)
def mE:List UInt8→Nat→AV × Nat:=fun b v=>(.slice .any 8 ((cN b v).map aC),v+12)
def oM (ts:List STable):List UInt8→Nat→AV × Nat:=fun b v=>(.slice .any 6 ((iO b v ts).1.map bc),(iO b v ts).2)
theorem jM:rL mm:=fun b v=>by
 have e:bL b (min v b.length)=((bL b v).1,(bL b v).2 - v+min v b.length):=by
  unfold bL
  simp only [jc,cE]
  repeat' split
  all_goals (refine Prod.ext rfl ?_;dsimp only;omega)
 have h:∃ c,(bL b v).2=v+c:=by
  unfold bL
  repeat' split
  all_goals exact ⟨_,rfl⟩
 obtain ⟨c,hc⟩:=h
 unfold mm
 dsimp only
 rw [e]
 exact ⟨rfl,c,by dsimp only;omega,hc⟩
theorem i5:rL kQ:=fun b v=>by
 have e:dn b (min v b.length)=dn b v:=by unfold dn ci;simp only [jc,cE]
 unfold kQ
 dsimp only
 rw [e]
 exact ⟨rfl,4,rfl,rfl⟩
theorem jL:rL mE:=fun b v=>by
 have e:cN b (min v b.length)=cN b v:=by unfold cN fV fX dh di ci;simp only [jc,cE]
 unfold mE
 dsimp only
 rw [e]
 exact ⟨rfl,12,rfl,rfl⟩
theorem nk {b:List UInt8} {v k n:Nat}:iU b (min v b.length+k) n=iU b (v+k) n:=by
 unfold iU
 refine List.map_congr_left fun i _=>?_
 rw [Nat.add_assoc,Nat.add_assoc]
 unfold ci
 rw [jc]
theorem jn {b:List UInt8} {v:Nat}:∀ (ts:List STable) (k:Nat),(cQ b ts (min v b.length+k)).1=(cQ b ts (v+k)).1∧∃ c,(cQ b ts (min v b.length+k)).2=min v b.length+c∧(cQ b ts (v+k)).2=v+c
 |[],k=>⟨rfl,k,rfl,rfl⟩
 |t::ts,k=>by
  have hb:∀ j n,cv b (min v b.length+j) n=cv b (v+j) n:=fun j n=>jc
  by_cases h1:0<cv b (v+(k+t.keys.length)) 4
  ·by_cases h2:cv b (v+(k+t.keys.length+3)) 2=1
   ·obtain ⟨i1,c,i2,i3⟩:=jn ts (k+t.keys.length+3+3)
    simp only [Nat.add_assoc,Nat.reduceAdd] at i1 i2 i3 h1 h2
    simp only [cQ,Nat.add_assoc,Nat.reduceAdd,hb,ci,h1,h2,if_true,nk]
    rw [i1]
    exact ⟨rfl,c,i2,i3⟩
   ·obtain ⟨i1,c,i2,i3⟩:=jn ts (k+t.keys.length+3+1)
    simp only [Nat.add_assoc,Nat.reduceAdd] at i1 i2 i3 h1 h2
    simp only [cQ,Nat.add_assoc,Nat.reduceAdd,hb,ci,h1,h2,if_true,if_false,nk]
    rw [i1]
    exact ⟨rfl,c,i2,i3⟩
  ·by_cases h2:cv b (v+(k+t.keys.length+1)) 2=1
   ·obtain ⟨i1,c,i2,i3⟩:=jn ts (k+t.keys.length+1+3)
    simp only [Nat.add_assoc,Nat.reduceAdd] at i1 i2 i3 h1 h2
    simp only [cQ,Nat.add_assoc,Nat.reduceAdd,hb,ci,h1,h2,if_true,if_false,nk]
    rw [i1]
    exact ⟨rfl,c,i2,i3⟩
   ·obtain ⟨i1,c,i2,i3⟩:=jn ts (k+t.keys.length+1+1)
    simp only [Nat.add_assoc,Nat.reduceAdd] at i1 i2 i3 h1 h2
    simp only [cQ,Nat.add_assoc,Nat.reduceAdd,hb,ci,h1,h2,if_true,if_false,nk]
    rw [i1]
    exact ⟨rfl,c,i2,i3⟩
theorem ma (ts:List STable):rL (oM ts):=fun b v=>by
 obtain ⟨i1,c,i2,i3⟩:=jn (b:=b) (v:=v) ts 4
 unfold oM iO
 dsimp only
 rw [i1]
 unfold ci
 simp only [jc,cE]
 exact ⟨trivial,c,i2,i3⟩
theorem BX {b:List UInt8} {v:Nat}:(mm b v).1=.slice .any 5 ((bL b v).1.map aO):=(rfl)
theorem Aw {b:List UInt8} {v:Nat}:(mm b v).2=(bL b v).2:=(rfl)
theorem BC {b:List UInt8} {v:Nat}:(kQ b v).1=.slice .any 5 ((dn b v).map aA):=(rfl)
theorem BT {b:List UInt8} {v:Nat}:(kQ b v).2=cp v 4:=(rfl)
theorem Bc {b:List UInt8} {v:Nat}:(mE b v).1=.slice .any 8 ((cN b v).map aC):=(rfl)
theorem A0 {b:List UInt8} {v:Nat}:(mE b v).2=cp v 12:=(rfl)
theorem G0 {b:List UInt8} {v:Nat} {ts:List STable}:(oM ts b v).1=.slice .any 6 ((iO b v ts).1.map bc):=(rfl)
theorem GH {b:List UInt8} {v:Nat} {ts:List STable}:(oM ts b v).2=cp (iO b v ts).2 0:=(rfl)
theorem tN {v k n:Nat}:cp (cp v k) n=cp v (k+n):=by unfold cp;omega
theorem tg2 {b:List UInt8} {w:Nat}:(List.map aC (cN b w)).getD 2 .junk=.agg [.int .i64 (dh b w).id,.str (dh b w).name,.slice .any 3 ((dh b w).keys.map bE),.slice .any 1 (inL (dh b w).actions),.int .i64 (dh b w).dflt,.slice .any 2 ((dh b w).dargs.map vv),.int .i64 (dh b w).size,.str (dh b w).restr]:=(rfl)
theorem tg3 {b:List UInt8} {w:Nat}:(List.map aC (cN b w)).getD 3 .junk=.agg [.int .i64 (di b w).id,.str (di b w).name,.slice .any 3 ((di b w).keys.map bE),.slice .any 1 (inL (di b w).actions),.int .i64 (di b w).dflt,.slice .any 2 ((di b w).dargs.map vv),.int .i64 (di b w).size,.str (di b w).restr]:=(rfl)
theorem tgl {b:List UInt8} {w:Nat}:(cN b w).length=4:=(rfl)
theorem k2l {b:List UInt8} {w:Nat}:(((dh b w).keys.length:Int)==3)=decide (cv b (cp w 5) 2=1):=by
 by_cases h:cv b (w+5) 2=1<;>simp [dh,cp,h]
theorem k3l {b:List UInt8} {w:Nat}:(((di b w).keys.length:Int)==3)=decide (cv b (cp w 7) 2=1):=by
 by_cases h:cv b (w+7) 2=1<;>simp [di,cp,h]
def Ko (p:Prop):Bool→Prop|true=>p|false=>¬ p
theorem pM {p:Prop} [Decidable p] {t:Bool} (h:decide p=t):Ko p t:=by
 cases t
 ·exact (of_decide_eq_false h:¬ p)
 ·exact (of_decide_eq_true h:p)
theorem H5 {id:Nat} {ts:List STable} {H:AHeap} {K:AEnd→AHeap→Prop} (h1:ts.length≤100) (h2:∀ t∈ts,t.keys.length≤100) (h:onS (H.get id) (oM ts) fun x o=>K (.ret x) (H.set id o)) :
 sS [.ptr id 0,.slice .any 8 (ts.map aC)] H K:=⟨ts,⟨rfl,h1,h2⟩,h⟩
def mU:=eG fun b v=>(gu (fU b v).1,(fU b v).2)
theorem rH:EntOk Tryz.prog 10 (Ent.effect mU):=by
 unfold mU
 refine EntOk.effect fun args H K h=>?_
 unfold eG at h
 split at h
 rotate_left
 ·exact h.elim
 rename_i id
 obtain ⟨b,v,hg,hb,hv,hK⟩:=lC h
 refine ⟨_,_,hK,?_⟩
 clear hK
 dsimp only
 generalize hS:(fU b v).1=S
 generalize hpos:(fU b v).2=pos
 refine ACalls.fW ap (tCq kN (tCq kX (tCq xp (tCq w7 (tCq yO (tCq Ba tNq)))))) Tryz.func10 [.cell 2 34] (nrq _) (T:=aj [(15,[[4]])]) (h:=fun hcl hlt=>?_)
 clear hlt
 have hid:=glq hg
 have hne:=qv hid
 have hne2:=qv (show id<H.nx+1+1+1+1+1+1+1+1+1+1+1+1+1+1+1+1 by omega)
 have hgc:=mj (b:=b) hid
 have hcl2:∀ w,(H.set id (ex b w)).Closed:=fun w=>ba hcl jG
 have e8:(8:Int).toNat=8:=rfl
 have e30:(30:Int).toNat=30:=rfl
 have w1:∀ (u n:Nat) (k:Int),0<n→n≤100→0≤k→k≤100→IntKind.i64.wrap (k+((cv b u n:Nat):Int))=k+((cv b u n:Nat):Int):=fun u n k h1 h2 h3 h4=>by
  have:=jA (b:=b) (v:=u) (n:=n) h1
  rw [wrap_i64 (by omega) (by omega)]
 have a28:∀ u,IntKind.i64.wrap (2+((cv b u 8:Nat):Int))=2+((cv b u 8:Nat):Int):=fun u=>w1 u 8 2 (by decide) (by decide) (by decide) (by decide)
 have a30:∀ u,IntKind.i64.wrap (12+((cv b u 30:Nat):Int))=12+((cv b u 30:Nat):Int):=fun u=>w1 u 30 12 (by decide) (by decide) (by decide) (by decide)
 have es1:pU=eG mm:=rfl
 have es2:n7=eG kQ:=rfl
 have es3:pH=eG mE:=rfl
 simp only [go_sem,bhq,Nat.reduceMod,Nat.reduceDiv,au,aq,ay,aN,ax,aM,aJ,aK,aL,yaq,yar,yao,yap,cj,bT,es1,es2,es3,pG,du hb jM,du hb i5,du hb jL,BX,Aw,BC,BT,Bc,A0,tN,hg,hgc,bW hb,cE,bK,cU,hne,hne2,e8,e30,a28,a30]
 (repeat with_reducible refine Yq ?_)
 refine H5 (by simp [cN]) (fun t ht=>?_) ?_
 ·simp only [cN,List.mem_cons,List.not_mem_nil,or_false] at ht
  rcases ht with rfl|rfl|rfl|rfl<;>simp only [fV,fX,dh,di]<;>(try split)<;>simp
 simp only [aE,ah,go_sem,bhq,Nat.reduceMod,Nat.reduceDiv,au,aq,ay,aN,ax,aM,aJ,aK,aL,yaq,yar,yao,yap,cj,bT,es1,es2,es3,pG,du hb jM,du hb i5,du hb jL,BX,Aw,BC,BT,Bc,A0,tN,hg,hgc,bW hb,cE,bK,cU,hne,hne2,e8,e30,a28,a30,du hb (ma _),G0,GH,iNq]
 refine ak (fun h1=>?_) (fun h1=>?_)
 all_goals
  simp only [aE,ah,go_sem,bhq,Nat.reduceMod,Nat.reduceDiv,au,aq,ay,aN,ax,aM,aJ,aK,aL,yaq,yar,yao,yap,cj,bT,es1,es2,es3,pG,du hb jM,du hb i5,du hb jL,BX,Aw,BC,BT,Bc,A0,tN,hg,hgc,bW hb,cE,bK,cU,hne,hne2,e8,e30,a28,a30,du hb (ma _),G0,GH,iNq,tg2,tg3,tgl,k2l,k3l]
  try (repeat with_reducible refine Yq ?_)
  refine ak (fun h2=>?_) (fun h2=>?_)
 all_goals
  simp only [aE,ah,go_sem,bhq,Nat.reduceMod,Nat.reduceDiv,au,aq,ay,aN,ax,aM,aJ,aK,aL,yaq,yar,yao,yap,cj,bT,es1,es2,es3,pG,du hb jM,du hb i5,du hb jL,BX,Aw,BC,BT,Bc,A0,tN,hg,hgc,bW hb,cE,bK,cU,hne,hne2,e8,e30,a28,a30,du hb (ma _),G0,GH,iNq,tg2,tg3,tgl,k2l,k3l]
  try (repeat with_reducible refine Yq ?_)
  refine cZ (fun h3=>?_) (fun h3=>?_)
 all_goals
  try (repeat with_reducible refine Yq ?_)
  try refine ak (fun h4=>?_) (fun h4=>?_)
 all_goals
  try simp only [aE,ah,go_sem,bhq,Nat.reduceMod,Nat.reduceDiv,au,aq,ay,aN,ax,aM,aJ,aK,aL,yaq,yar,yao,yap,cj,bT,es1,es2,es3,pG,du hb jM,du hb i5,du hb jL,BX,Aw,BC,BT,Bc,A0,tN,hg,hgc,bW hb,cE,bK,cU,hne,hne2,e8,e30,a28,a30,du hb (ma _),G0,GH,iNq,tg2,tg3,tgl,k2l,k3l]
  try (repeat with_reducible refine Yq ?_)
  refine cZ (fun h5=>?_) (fun h5=>?_)
 all_goals
  try (repeat with_reducible refine Yq ?_)
  try refine ak (fun h6=>?_) (fun h6=>?_)
 all_goals
  try simp only [aE,ah,go_sem,bhq,Nat.reduceMod,Nat.reduceDiv,au,aq,ay,aN,ax,aM,aJ,aK,aL,yaq,yar,yao,yap,cj,bT,es1,es2,es3,pG,du hb jM,du hb i5,du hb jL,BX,Aw,BC,BT,Bc,A0,tN,hg,hgc,bW hb,cE,bK,cU,hne,hne2,e8,e30,a28,a30,du hb (ma _),G0,GH,iNq,tg2,tg3,tgl,k2l,k3l]
  try (repeat with_reducible refine Yq ?_)
  replace h1:=pM h1
  replace h2:=pM h2
  replace h3:=pM h3
  replace h5:=pM h5
  try replace h4:=pM h4
  try replace h6:=pM h6
  refine i8 101 (.agg (aS S)) ?_ ?_
  ·rw [← hS]
   simp only [Ko] at h1 h2 h3 h5
   try simp only [Ko] at h4
   try simp only [Ko] at h6
   simp [*,Fr.get,aS,fU,gFields,gHeaders,aX,aH,bx,bU,inL,AV.cells,kB,dd,dc,dK,gh,gN,kz,jJ,jp,wkM,gg]
  simp only [bhq,Nat.reduceMod,Nat.reduceDiv,au,aq,ay,aN,ax,aM,aJ,aK,aL,yaq,yar,yao,yap,go_sem,aS]
  refine ⟨?_,?_,hcl2 _,hY S⟩
  ·simp [gu,aS,wk,wk2,wkL,wk1,wkM]
  ·rw [← hpos]
   repeat first|exact .refl _|refine .push ?_ _
end Go.AL
