/- Lemmas of the proof; no condition. -/
import Derived.Test.YtokjjhidigoodaaGreatS10c
set_option linter.all false
set_option maxRecDepth 10000
set_option maxHeartbeats 32000000
open List renaming length_cons → yaz, map_cons → yae, drop_succ_cons → yao, drop_zero → yap, getD_cons_zero → yau, length_nil → yba, take_succ_cons → yaq, take_zero → yar, length_map → ybb, map_nil → yaf, append_nil → yaj
open Go Go.AL Go.Proofs
namespace Go.AL
def vM:List AV→AHeap→(AEnd→AHeap→Prop)→Prop
 |[.ptr id 0,.slice .any 8 l],H,K=>∃ ts:List STable,(l=ts.map aV∧ts.length≤100∧∀ t∈ts,t.keys.length≤100)∧onC (H.get id) fun b v=>K (.ret (.slice .any 6 ((kD b v ts).1.map fp))) (H.set id (dZ b (kD b v ts).2))
 |_,_,_=>False
def bfN (n:Nat) (f:Nat→Bool):List AV:=(List.range n).map fun i=>.bool (f i)
theorem Fh {n:Nat} {f:Nat→Bool}:(bfN n f).length=n:=by simp [bfN]
theorem E7 {n:Nat} {f g:Nat→Bool} {i:Nat} {b:Bool} (h:∀ j,j<n→g j=if j=i then b else f j):(bfN n f).set i (.bool b)=bfN n g:=by
 apply List.ext_getElem
 ·simp [bfN]
 ·intro j h1 h2
  have hj:j<n:=by simpa [bfN] using h2
  rw [List.getElem_set]
  simp only [bfN,List.getElem_map,List.getElem_range,h j hj]
  by_cases e:i=j
  ·subst e;simp
  ·rw [if_neg e,if_neg (fun x=>e x.symm)]
theorem Ma {n:Nat}:(List.replicate n [AV.bool false]).flatten=bfN n fun _=>false:=by
 induction n with
 |zero=>rfl
 |succ n ih =>
  rw [List.replicate_succ,List.flatten_cons,ih]
  apply List.ext_getElem
  ·simp [bfN]
  ·intro j h1 h2
   cases j<;>simp [bfN]
theorem Fo {n:Nat} {f:Nat→Bool}:bfN n f=boL ((List.range n).map f):=by simp [bfN,boL]
theorem Es {m n:Nat} {f:Nat→Bool}:ltL m (bfN n f)=True:=eq_true (ltL_iff.2 fun j hj=>by
 simp only [bfN,List.getElem_map]
 rw [AV.lt]<;>simp)
theorem rg:∀ (l:List Bool),ce 1 l.length (boL l)=boL l
 |[]=>rfl
 |x::l=>by
  rw [yaz,ce,if_pos rfl]
  have:=rg l
  simp only [boL,yae,yao,yap,yau,mc] at this ⊢
  rw [this]
theorem lP {α:Type} {n:Nat} {f:α→AV} {a c:List AV} {l:List α} (h:a++c=l.map f) (hf:∀ x,AV.lt n (f x)):ltL n a=True:=eq_true (ltL_iff.2 fun j hj=>by
 have:a[j]∈l.map f:=by rw [← h];exact List.mem_append_left _ (gMq hj)
 obtain ⟨x,_,e⟩:=List.mem_map.1 this
 rw [← e];exact hf x)
def zF (i j:Nat) (g:List AV):List AV:=[.int .i64 1,.str [97,108,108],.slice (.own i) 4 g,.slice (.own j) 1 [.int .i64 1,.int .i64 2,.int .i64 3,.int .i64 4,.int .i64 5,.int .i64 6],.int .i64 40,.bool true]
def sG (b:List UInt8) (v i j:Nat) (g:List AV):List AV:=[.int .i64 2,.str [115,111,109,101],.slice (.own i) 4 g,.slice (.own j) 1 [.int .i64 1,.int .i64 2,.int .i64 (3+ci b (cp v 0) 3)],.int .i64 (1+ci b (cp v 1) 6),.bool false]
def z5 (b:List UInt8) (v i j:Nat) (g:List AV):List AV:=[.int .i64 7,.str [102,101,119],.slice (.own i) 4 g,.slice (.own j) 1 [.int .i64 (1+ci b (cp v 2) 6)],.int .i64 (ci b (cp v 3) 4),.bool false]
def iU (H:AHeap) (id:Nat) (b:List UInt8) (v w:Nat) (a1 a2 a3:List AV):AHeap :=
 (((((((((((H.set id (dZ b (cp w 0))).push (.buf 6 0)).push (.buf 1 6)).push (.buf 4 a1.length)).push (.cells (zF (H.nx+1+1) (H.nx+1) a1))).push (.buf 1 3)).push (.buf 4 a2.length)).push (.cells (sG b v (H.nx+1+1+1+1+1) (H.nx+1+1+1+1) a2))).push (.buf 1 1)).push (.buf 4 a3.length)).push (.cells (z5 b v (H.nx+1+1+1+1+1+1+1+1) (H.nx+1+1+1+1+1+1+1) a3)))
structure RolI (b:List UInt8) (ts:List STable) (R:(List SGrant × List SGrant × List SGrant) × Nat) (k w:Nat) (a1 a2 a3:List AV):Prop where
 le:k≤ts.length
 l1:a1.length≤k
 l2:a2.length≤k
 l3:a3.length≤k
 e1:a1++(eE b (ts.drop k) w).1.1.map ep=R.1.1.map ep
 e2:a2++(eE b (ts.drop k) w).1.2.1.map ep=R.1.2.1.map ep
 e3:a3++(eE b (ts.drop k) w).1.2.2.map ep=R.1.2.2.map ep
 e4:(eE b (ts.drop k) w).2=R.2
theorem jb {H:AHeap} {id:Nat} {b:List UInt8} {ts:List STable} {R:(List SGrant × List SGrant × List SGrant) × Nat} {v k w:Nat} {a1 a2 a3:List AV} (hcl:H.Closed) (h:RolI b ts R k w a1 a2 a3) (w':Nat):(iU H id b v w' a1 a2 a3).Closed:=by
 have q1:=fun n=>lP (n:=n) h.e1 rN
 have q2:=fun n=>lP (n:=n) h.e2 rN
 have q3:=fun n=>lP (n:=n) h.e3 rN
 unfold iU
 repeat' (first|exact ai hcl ji|refine ag ?_|refine ae ?_ ?_)
 all_goals simp [zF,sG,z5,aS,znq,znr,znb,znd,znc,zla,zlb,q1,q2,q3]
 all_goals omega
theorem Gc:EntOk Tryz.prog 51 (Ent.effect vM):=by
 refine EntOk.effect fun args H K h=>?_
 unfold vM at h
 split at h
 rotate_left
 ·exact h.elim
 rename_i id l
 obtain ⟨ts,⟨rfl,hts,htk⟩,h⟩:=h
 obtain ⟨b,v,hg,hb,hv,hK⟩:=kQ h
 refine ⟨_,_,hK,?_⟩
 clear hK
 generalize hres:AV.slice .any 6 ((kD b v ts).1.map fp)=res
 generalize hR:eE b ts (v+4)=R
 have hend:(kD b v ts).2=R.2:=by rw [← hR];rfl
 rw [hend]
 refine ACalls.fW ax (tCq ke (tCq m7 tNq)) Tryz.func51 [.tmp 4] (nrq _) (T:=av [(16,[[],[],[],[],[],[],[],[],[5],[],[],[3,5,8],[1,3,5,8],[],[1,3,5,8]]),(18,[[],[],[],[],[],[],[],[5],[],[],[3,5,7],[1,3,5,7],[],[1,3,5,7]]),(1,[[7]]),(2,[[25]]),(3,[[22]]),(14,[[1]]),(20,[[16]])]) (h:=fun hcl hlt=>?_)
 clear hlt
 have hid:=glq hg
 have hne:=qk hid
 have hgc:=li (b:=b) hid
 have hcl2:∀ w,(H.set id (dZ b w)).Closed:=fun w=>ai hcl ji
 have e2:(2:Int).toNat=2:=rfl
 have e3:(3:Int).toNat=3:=rfl
 have e4:(4:Int).toNat=4:=rfl
 have e6:(6:Int).toNat=6:=rfl
 have w1:∀ (u n:Nat) (k:Int),0<n→n≤100→0≤k→k≤100→IntKind.i64.wrap (k+((cv b u n:Nat):Int))=k+((cv b u n:Nat):Int):=fun u n k h1 h2 h3 h4=>by
  have:=eR (b:=b) (v:=u) (n:=n) h1
  exact Y118
 have a33:∀ u,IntKind.i64.wrap (3+((cv b u 3:Nat):Int))=3+((cv b u 3:Nat):Int):=fun u=>w1 u 3 3 (by decide) (by decide) (by decide) (by decide)
 have a16:∀ u,IntKind.i64.wrap (1+((cv b u 6:Nat):Int))=1+((cv b u 6:Nat):Int):=fun u=>w1 u 6 1 (by decide) (by decide) (by decide) (by decide)
 simp only [go_sem,bhq,Nat.reduceMod,Nat.reduceDiv,aD,aE,aF,bf,aG,bc,aZ,bb,a9,yaq,yar,yao,yap,bB,cd,hg,hgc,bu hb,bQ,bh,bW,hne,e2,e3,e4,e6,a33,a16]
 refine lJ 14 2 4 _ rfl rfl ?_
 simp only [go_sem,bhq,Nat.reduceMod,Nat.reduceDiv,aD,aE,aF,bf,aG,bc,aZ,bb,a9,yaq,yar,yao,yap,bB,cd,hg,hgc,bu hb,bQ,bh,bW,hne,e2,e3,e4,e6,a33,a16,List.set_cons_succ,List.set_cons_zero]
 (repeat with_reducible refine Yq ?_)
 refine lJ 22 2 4 _ rfl rfl ?_
 simp only [go_sem,bhq,Nat.reduceMod,Nat.reduceDiv,aD,aE,aF,bf,aG,bc,aZ,bb,a9,yaq,yar,yao,yap,bB,cd,hg,hgc,bu hb,bQ,bh,bW,hne,e2,e3,e4,e6,a33,a16,List.set_cons_succ,List.set_cons_zero]
 (repeat with_reducible refine Yq ?_)
 refine lJ 29 2 4 _ rfl rfl ?_
 simp only [go_sem,bhq,Nat.reduceMod,Nat.reduceDiv,aD,aE,aF,bf,aG,bc,aZ,bb,a9,yaq,yar,yao,yap,bB,cd,hg,hgc,bu hb,bQ,bh,bW,hne,e2,e3,e4,e6,a33,a16,List.set_cons_succ,List.set_cons_zero]
 refine az (A:=Nat × Nat × List AV × List AV × List AV) (fun x=>[(0,.ptr id 0),(5,.ptr (H.nx+1+1+1) 0),(6,.ptr (H.nx+1+1+1+1+1+1) 0),(7,.ptr (H.nx+1+1+1+1+1+1+1+1+1) 0),(30,.slice .any 8 (ts.map aV)),(31,.int .i64 (ts.length:Int)),(32,.int .i64 (x.1:Int))]) (fun x=>iU H id b v x.2.1 x.2.2.1 x.2.2.2.1 x.2.2.2.2) (fun x=>RolI b ts R x.1 x.2.1 x.2.2.1 x.2.2.2.1 x.2.2.2.2) (fun x=>ts.length - x.1) (0,v+4,[],[],[]) ⟨by omega,by simp,by simp,by simp,by rw [← hR];rfl,by rw [← hR];rfl,by rw [← hR];rfl,by rw [← hR];rfl⟩ ?_ fun x hx=>?_
 ·refine ⟨by simp only [iU,zla,zlb,zkm,zkr];omega,lRq _,jb (ts:=ts) (R:=R) (k:=0) (w:=v+4) hcl ⟨by omega,by simp,by simp,by simp,by rw [← hR];rfl,by rw [← hR];rfl,by rw [← hR];rfl,by rw [← hR];rfl⟩ _,?_,?_⟩
  ·exact Y116
  ·exact Y10
 obtain ⟨k,w,a1,a2,a3⟩:=x
 dsimp only at hx ⊢
 have hclo:=fun w'=>jb (id:=id) (v:=v) hcl hx w'
 obtain ⟨hk,l1,l2,l3,i1,i2,i3,i4⟩:=hx
 simp only [go_sem]
 refine au (fun hc=>?_) (fun hc=>?_)
 ·have hk':k<ts.length:=by simp at hc;omega
  obtain ⟨t,ht⟩:∃ t,t=ts[k]:=⟨_,rfl⟩
  have hd:ts.drop k=t::ts.drop (k+1):=by rw [ht];exact dcq hk'
  have hkl:t.keys.length≤100:=htk t (by rw [ht];exact gMq hk')
  have htg:(ts.map aV).getD k .junk=.agg [.int .i64 t.id,.str t.name,.slice .any 3 (t.keys.map bL),.slice .any 1 (inL t.actions),.int .i64 t.dflt,.slice .any 2 (t.dargs.map vv),.int .i64 t.size,.str t.restr]:=by
   rw [gEq,List.getElem?_map,gQq hk',← ht];rfl
  have hT:∀ n,ltL n ([.int .i64 t.id,.str t.name,.slice .any 3 (t.keys.map bL),.slice .any 1 (inL t.actions),.int .i64 t.dflt,.slice .any 2 (t.dargs.map vv),.int .i64 t.size,.str t.restr]:List AV):=fun n=>ltL_iff.2 fun j hj=>AV.lt_cells (cZ t) j hj
  have hclT:∀ w',((iU H id b v w' a1 a2 a3).push (.cells [.int .i64 t.id,.str t.name,.slice .any 3 (t.keys.map bL),.slice .any 1 (inL t.actions),.int .i64 t.dflt,.slice .any 2 (t.dargs.map vv),.int .i64 t.size,.str t.restr])).Closed:=fun w'=>ae (hclo w') (hT _)
  have hclo2:∀ w' f g,((((iU H id b v w' a1 a2 a3).push (.cells [.int .i64 t.id,.str t.name,.slice .any 3 (t.keys.map bL),.slice .any 1 (inL t.actions),.int .i64 t.dflt,.slice .any 2 (t.dargs.map vv),.int .i64 t.size,.str t.restr])).push (.cells (bfN t.keys.length f))).push (.cells (bfN t.keys.length g))).Closed:=fun w' f g =>
   ae (ae (hclT w') (by simp [Es])) (by simp [Es])
  have hrn:∀ w',(iU H id b v w' a1 a2 a3).nx=(H.nx+1+1+1+1+1+1+1+1+1+1):=fun _=>rfl
  simp only [go_sem,iU,zF,sG,z5,htg,iNq,ybb,Ma,Fh]
  (repeat with_reducible refine Yq ?_)
  refine az (A:=Nat) (fun j=>[(0,.ptr id 0),(5,.ptr (H.nx+1+1+1) 0),(6,.ptr (H.nx+1+1+1+1+1+1) 0),(7,.ptr (H.nx+1+1+1+1+1+1+1+1+1) 0),(9,.ptr (H.nx+1+1+1+1+1+1+1+1+1+1) 0),(10,.ms (H.nx+1+1+1+1+1+1+1+1+1+1+1) 0 1 t.keys.length),(11,.ms (H.nx+1+1+1+1+1+1+1+1+1+1+1+1) 0 1 t.keys.length),(30,.slice .any 8 (ts.map aV)),(31,.int .i64 (ts.length:Int)),(32,.int .i64 (k:Int)),(45,.int .i64 (t.keys.length:Int)),(46,.int .i64 (j:Int))]) (fun j=>(((iU H id b v (w+j) a1 a2 a3).push (.cells [.int .i64 t.id,.str t.name,.slice .any 3 (t.keys.map bL),.slice .any 1 (inL t.actions),.int .i64 t.dflt,.slice .any 2 (t.dargs.map vv),.int .i64 t.size,.str t.restr])).push (.cells (bfN t.keys.length fun i=>decide (i<j)))).push (.cells (bfN t.keys.length fun i=>decide (i<j)&&decide (ci b (w+i) 4 > 0)))) (fun j=>j≤t.keys.length) (fun j=>t.keys.length - j) 0 (by omega) ?_ fun j hj=>?_
  ·simp only [Nat.not_lt_zero,decide_false,Bool.false_and]
   refine ⟨by simp only [zla,hrn,zkm,zkr];omega,lRq _,hclo2 _ _ _,?_,?_⟩
   ·simp [ltF,hrn,znj,znl,znb,zla,zlb,bw cZ]
    omega
   ·exact Y10
  simp only [go_sem]
  refine au (fun hc2=>?_) (fun hc2=>?_)
  ·have hj':j<t.keys.length:=by simp at hc2;omega
   have e5:IntKind.i64.wrap ((j:Int)+1)=((j+1:Nat):Int):=by rw [wrap_i64]<;>omega
   have hs1:(bfN t.keys.length fun i=>decide (i<j)).set j (.bool true)=bfN t.keys.length fun i=>decide (i<j+1):=E7 fun i hi=>by
    by_cases e:i=j
    ·subst e;simp
    ·rw [if_neg e,decide_eq_decide];omega
   have hs2:(bfN t.keys.length fun i=>decide (i<j)&&decide (ci b (w+i) 4 > 0)).set j (.bool (decide (ci b (cp (w+j) 0) 4 > 0)))=bfN t.keys.length fun i=>decide (i<j+1)&&decide (ci b (w+i) 4 > 0):=E7 fun i hi=>by
    by_cases e:i=j
    ·subst e;simp [cp]
    ·rw [if_neg e];congr 1;rw [decide_eq_decide];omega
   simp only [bp,aM,bhq,Nat.reduceMod,Nat.reduceDiv,aD,aE,aF,bf,aG,bc,aZ,bb,a9,yaq,yar,yao,yap,go_sem,bB,cd,hgc,bu hb,bQ,bh,bW,hne,e4,iU,zF,sG,z5,lAq,ybb,iNq,Fh,fF,nzq,Nat.mul_one,hs1,hs2,e5]
   (repeat with_reducible refine Yq ?_)
   refine ⟨j+1,by omega,by omega,by simp only [zla,hrn,zlb,zkm,zkr];omega,lRq _,hclo2 _ _ _,?_,?_⟩
   ·simp [ltF,hrn,znj,znl,znb,zla,zlb,bw cZ]
    omega
   ·exact Y10
  have hj':j=t.keys.length:=by simp at hc2;omega
  subst hj'
  have y1:(bfN t.keys.length fun i=>decide (i<t.keys.length))=boL (List.replicate t.keys.length true):=by
   rw [Fo];congr 1
   apply List.ext_getElem
   ·simp
   ·intro i h1 h2;simp at h1 ⊢;exact h1
  have y2:(bfN t.keys.length fun i=>decide (i<t.keys.length)&&decide (ci b (w+i) 4 > 0))=boL (l4 b w t.keys.length):=by
   rw [Fo];congr 1
   unfold l4
   refine List.map_congr_left fun i hi=>?_
   have:=List.mem_range.1 hi
   simp [this]
  rw [y1,y2]
  simp only [bp,aM,bhq,Nat.reduceMod,Nat.reduceDiv,aD,aE,aF,bf,aG,bc,aZ,bb,a9,yaq,yar,yao,yap,go_sem,bB,cd,hgc,bu hb,bQ,bh,bW,hne,e4,iU,zF,sG,z5,lAq,ybb]
  refine tV [(0,.ptr id 0),(5,.ptr (H.nx+1+1+1) 0),(6,.ptr (H.nx+1+1+1+1+1+1) 0),(7,.ptr (H.nx+1+1+1+1+1+1+1+1+1) 0),(9,.ptr (H.nx+1+1+1+1+1+1+1+1+1+1) 0),(10,.slice .any 1 (boL (List.replicate t.keys.length true))),(11,.slice .any 1 (boL (l4 b w t.keys.length))),(30,.slice .any 8 (ts.map aV)),(31,.int .i64 (ts.length:Int)),(32,.int .i64 (k:Int))] ((iU H id b v (w+t.keys.length) a1 a2 a3).push (.cells [.int .i64 t.id,.str t.name,.slice .any 3 (t.keys.map bL),.slice .any 1 (inL t.actions),.int .i64 t.dflt,.slice .any 2 (t.dargs.map vv),.int .i64 t.size,.str t.restr])) ⟨by simp only [zla,hrn,zkm,zkr,iC];omega,((lRq _).push _).push _,hclT _,?_,?_⟩ ?_
  ·simp [ltF,hrn,znj,znl,znb,zla,zlb,bw cZ,IO]
   omega
  ·have yr1:ce 1 t.keys.length (boL (List.replicate t.keys.length true))=boL (List.replicate t.keys.length true):=by
    have:=rg (List.replicate t.keys.length true)
    rw [List.length_replicate] at this;exact this
   have yr2:ce 1 t.keys.length (boL (l4 b w t.keys.length))=boL (l4 b w t.keys.length):=by
    have:=rg (l4 b w t.keys.length)
    rw [show (l4 b w t.keys.length).length=t.keys.length by simp [l4]] at this;exact this
   have hn1:∀ w' o,((iU H id b v w' a1 a2 a3).push o).get (H.nx+1+1+1+1+1+1+1+1+1+1+1)=none:=fun w' o=>zmr (by rw [zla,hrn];omega)
   have hn2:∀ w' o,((iU H id b v w' a1 a2 a3).push o).get (H.nx+1+1+1+1+1+1+1+1+1+1+1+1)=none:=fun w' o=>zmr (by rw [zla,hrn];omega)
   simp only [aK,wk2,wk1,wkM,go_sem,yap,yr1,yr2,hn1,hn2,true_or,or_true,and_self]
  simp only [bp,aM,bhq,Nat.reduceMod,Nat.reduceDiv,aD,aE,aF,bf,aG,bc,aZ,bb,a9,yaq,yar,yao,yap,go_sem,bB,cd,hgc,bu hb,bQ,bh,bW,hne,e4,iU,zF,sG,z5,ybb]
  (repeat with_reducible refine Yq ?_)
  have e5:=Yk5 k
  refine au (fun h1=>?_) (fun h1=>?_)
  all_goals
   try simp only [bp,aM,bhq,Nat.reduceMod,Nat.reduceDiv,aD,aE,aF,bf,aG,bc,aZ,bb,a9,yaq,yar,yao,yap,go_sem,bB,cd,hgc,bu hb,bQ,bh,bW,hne,e4,iU,zF,sG,z5,ybb]
   try (repeat with_reducible refine Yq ?_)
   refine au (fun h2=>?_) (fun h2=>?_)
  all_goals
   try simp only [bp,aM,bhq,Nat.reduceMod,Nat.reduceDiv,aD,aE,aF,bf,aG,bc,aZ,bb,a9,yaq,yar,yao,yap,go_sem,bB,cd,hgc,bu hb,bQ,bh,bW,hne,e4,iU,zF,sG,z5,ybb,e5]
   try (repeat with_reducible refine Yq ?_)
  ·have hp1:(0<cv b (w+t.keys.length) 4)=True:=eq_true (by have h:=of_decide_eq_true h1;simp only [cp,Nat.add_zero] at h;omega)
   have hp2:(cv b (w+(t.keys.length+3)) 2=1)=True:=eq_true (by have h:=of_decide_eq_true h2;unfold cp at h;rw [Nat.add_assoc] at h;exact h)
   rw [hd] at i1 i2 i3 i4
   simp only [eE,hp1,hp2,if_true,if_false,Nat.add_assoc,Nat.reduceAdd] at i1 i2 i3 i4
   have hI:RolI b ts R (k+1) (w+(t.keys.length+6)) (a1++[.agg [.int .i64 t.id,.bool true,.bool true,.slice .any 1 (boL (List.replicate t.keys.length true))]]) (a2++[.agg [.int .i64 t.id,.bool (decide (0<ci b (w+t.keys.length+1) 4)),.bool (decide (cv b (w+t.keys.length+2) 2=1)),.slice .any 1 (boL (l4 b w t.keys.length))]]) (a3++[.agg [.int .i64 t.id,.bool (decide (cv b (w+t.keys.length+4) 2=1)),.bool (decide (cv b (w+t.keys.length+5) 2=1)),.slice .any 1 (boL (List.replicate t.keys.length true))]]):=by
    exact Y17
   refine ⟨(_,_,_,_,_),hI,by dsimp only;omega,by simp only [iU,zla,zlb];omega,?_,jb hcl hI _,?_,?_⟩
   ·exact Y80
   ·exact Y116
   ·exact Y10
  ·have hp1:(0<cv b (w+t.keys.length) 4)=True:=eq_true (by have h:=of_decide_eq_true h1;simp only [cp,Nat.add_zero] at h;omega)
   have hp2:(cv b (w+(t.keys.length+3)) 2=1)=False:=eq_false (by have h:=of_decide_eq_false h2;unfold cp at h;rw [Nat.add_assoc] at h;exact h)
   rw [hd] at i1 i2 i3 i4
   simp only [eE,hp1,hp2,if_true,if_false,Nat.add_assoc,Nat.reduceAdd] at i1 i2 i3 i4
   have hI:RolI b ts R (k+1) (w+(t.keys.length+4)) (a1++[.agg [.int .i64 t.id,.bool true,.bool true,.slice .any 1 (boL (List.replicate t.keys.length true))]]) (a2++[.agg [.int .i64 t.id,.bool (decide (0<ci b (w+t.keys.length+1) 4)),.bool (decide (cv b (w+t.keys.length+2) 2=1)),.slice .any 1 (boL (l4 b w t.keys.length))]]) (a3):=by
    exact Y17
   refine ⟨(_,_,_,_,_),hI,by dsimp only;omega,by simp only [iU,zla,zlb];omega,?_,jb hcl hI _,?_,?_⟩
   ·exact Y80
   ·exact Y116
   ·exact Y10
  ·have hp1:(0<cv b (w+t.keys.length) 4)=False:=eq_false (by have h:=of_decide_eq_false h1;simp only [cp,Nat.add_zero] at h;omega)
   have hp2:(cv b (w+(t.keys.length+1)) 2=1)=True:=eq_true (by have h:=of_decide_eq_true h2;unfold cp at h;rw [Nat.add_assoc] at h;exact h)
   rw [hd] at i1 i2 i3 i4
   simp only [eE,hp1,hp2,if_true,if_false,Nat.add_assoc,Nat.reduceAdd] at i1 i2 i3 i4
   have hI:RolI b ts R (k+1) (w+(t.keys.length+4)) (a1++[.agg [.int .i64 t.id,.bool true,.bool true,.slice .any 1 (boL (List.replicate t.keys.length true))]]) (a2) (a3++[.agg [.int .i64 t.id,.bool (decide (cv b (w+t.keys.length+2) 2=1)),.bool (decide (cv b (w+t.keys.length+3) 2=1)),.slice .any 1 (boL (List.replicate t.keys.length true))]]):=by
    exact Y17
   refine ⟨(_,_,_,_,_),hI,by dsimp only;omega,by simp only [iU,zla,zlb];omega,?_,jb hcl hI _,?_,?_⟩
   ·exact Y80
   ·exact Y116
   ·exact Y10
  ·have hp1:(0<cv b (w+t.keys.length) 4)=False:=eq_false (by have h:=of_decide_eq_false h1;simp only [cp,Nat.add_zero] at h;omega)
   have hp2:(cv b (w+(t.keys.length+1)) 2=1)=False:=eq_false (by have h:=of_decide_eq_false h2;unfold cp at h;rw [Nat.add_assoc] at h;exact h)
   rw [hd] at i1 i2 i3 i4
   simp only [eE,hp1,hp2,if_true,if_false,Nat.add_assoc,Nat.reduceAdd] at i1 i2 i3 i4
   have hI:RolI b ts R (k+1) (w+(t.keys.length+2)) (a1++[.agg [.int .i64 t.id,.bool true,.bool true,.slice .any 1 (boL (List.replicate t.keys.length true))]]) (a2) (a3):=by
    exact Y17
   refine ⟨(_,_,_,_,_),hI,by dsimp only;omega,by simp only [iU,zla,zlb];omega,?_,jb hcl hI _,?_,?_⟩
   ·exact Y80
   ·exact Y116
   ·exact Y10
 ·have hk':k=ts.length:=by simp at hc;omega
  subst hk'
  simp only [bhq,Nat.reduceMod,Nat.reduceDiv,aD,aE,aF,bf,aG,bc,aZ,bb,a9,yaq,yar,yao,yap,go_sem,iU,zF,sG,z5]
  (repeat with_reducible refine Yq ?_)
  simp only [List.drop_length,eE,yaf,yaj] at i1 i2 i3 i4
  subst i4
  refine im 4 res ?_ ?_
  ·rw [← hres]
   simp only [kD,hR]
   simp [Fr.get,fp,inL,i1,i2,i3,cp,AV.cells,j6,cw,cx,cQ,fu,cP,jg,kM,jk,wkM,tn]
  simp only [bhq,Nat.reduceMod,Nat.reduceDiv,aD,aE,aF,bf,aG,bc,aZ,bb,a9,yaq,yar,yao,yap,go_sem]
  subst hres
  refine ⟨?_,?_,hcl2 _,bw pI⟩
  ·simp [wk,wk2,wk1,wkM]
  ·repeat first|exact .refl _|refine .push ?_ _
def qz (g:List UInt8→Nat→AV × Nat):Prop:=∀ b v,(g b (min v b.length)).1=(g b v).1∧∃ c,(g b (min v b.length)).2=min v b.length+c∧(g b v).2=v+c
def onS (o:Option AObj) (g:List UInt8→Nat→AV × Nat) (K:AV→AObj→Prop):Prop:=onC o fun b v=>K (g b v).1 (dZ b (g b v).2)
@[congr] theorem N9 {o o':Option AObj} {g:List UInt8→Nat→AV × Nat} {K:AV→AObj→Prop} (h:o=o'):onS o g K=onS o' g K:=by rw [h]
theorem cT {b:List UInt8} {v:Nat} {g:List UInt8→Nat→AV × Nat} {K:AV→AObj→Prop} (hb:b.length≤1000000) (hg:qz g):onS (some (dZ b v)) g K=K (g b v).1 (dZ b (g b v).2):=by
 unfold onS
 rw [bu hb]
 obtain ⟨h1,c,h2,h3⟩:=hg b v
 rw [h1,h2,h3,bh]
theorem qZ {g:List UInt8→Nat→AV × Nat} {id:Nat} {H:AHeap} {K:AEnd→AHeap→Prop}:eG g [.ptr id 0] H K=onS (H.get id) g fun x o=>K (.ret x) (H.set id o):=(rfl)
def oh:List UInt8→Nat→AV × Nat:=fun b v=>(.slice .any 5 ((cr b v).1.map cS),(cr b v).2)
def mH:List UInt8→Nat→AV × Nat:=fun b v=>(.slice .any 5 ((c6 b v).map a8),v+4)
def oT:List UInt8→Nat→AV × Nat:=fun b v=>(.slice .any 8 ((cK b v).map aV),v+12)
def rL (ts:List STable):List UInt8→Nat→AV × Nat:=fun b v=>(.slice .any 6 ((kD b v ts).1.map fp),(kD b v ts).2)
theorem kX:qz oh:=fun b v=>by
 have e:cr b (min v b.length)=((cr b v).1,(cr b v).2 - v+min v b.length):=by
  unfold cr
  simp only [dp,bQ]
  repeat' split
  all_goals (refine Prod.ext rfl ?_;dsimp only;omega)
 have h:∃ c,(cr b v).2=v+c:=by
  unfold cr
  repeat' split
  all_goals exact ⟨_,rfl⟩
 obtain ⟨c,hc⟩:=h
 unfold oh
 dsimp only
 rw [e]
 exact ⟨rfl,c,by dsimp only;omega,hc⟩
theorem jN:qz mH:=fun b v=>by
 have e:c6 b (min v b.length)=c6 b v:=by unfold c6 ci;simp only [dp,bQ]
 unfold mH
 dsimp only
 rw [e]
 exact ⟨rfl,4,rfl,rfl⟩
theorem kW:qz oT:=fun b v=>by
 have e:cK b (min v b.length)=cK b v:=by unfold cK jZ mh fk fj ci;simp only [dp,bQ]
 unfold oT
 dsimp only
 rw [e]
 exact ⟨rfl,12,rfl,rfl⟩
theorem pT {b:List UInt8} {v k n:Nat}:l4 b (min v b.length+k) n=l4 b (v+k) n:=by
 unfold l4
 refine List.map_congr_left fun i _=>?_
 rw [Nat.add_assoc,Nat.add_assoc]
 unfold ci
 rw [dp]
theorem kh {b:List UInt8} {v:Nat}:∀ (ts:List STable) (k:Nat),(eE b ts (min v b.length+k)).1=(eE b ts (v+k)).1∧∃ c,(eE b ts (min v b.length+k)).2=min v b.length+c∧(eE b ts (v+k)).2=v+c
 |[],k=>⟨rfl,k,rfl,rfl⟩
 |t::ts,k=>by
  have hb:∀ j n,cv b (min v b.length+j) n=cv b (v+j) n:=fun j n=>dp
  by_cases h1:0<cv b (v+(k+t.keys.length)) 4
  ·by_cases h2:cv b (v+(k+t.keys.length+3)) 2=1
   ·obtain ⟨i1,c,i2,i3⟩:=kh ts (k+t.keys.length+3+3)
    simp only [Nat.add_assoc,Nat.reduceAdd] at i1 i2 i3 h1 h2
    simp only [eE,Nat.add_assoc,Nat.reduceAdd,hb,ci,h1,h2,if_true,pT]
    rw [i1]
    exact ⟨rfl,c,i2,i3⟩
   ·obtain ⟨i1,c,i2,i3⟩:=kh ts (k+t.keys.length+3+1)
    exact Y62
  ·by_cases h2:cv b (v+(k+t.keys.length+1)) 2=1
   ·obtain ⟨i1,c,i2,i3⟩:=kh ts (k+t.keys.length+1+3)
    exact Y62
   ·obtain ⟨i1,c,i2,i3⟩:=kh ts (k+t.keys.length+1+1)
    exact Y62
theorem oy (ts:List STable):qz (rL ts):=fun b v=>by
 obtain ⟨i1,c,i2,i3⟩:=kh (b:=b) (v:=v) ts 4
 unfold rL kD
 dsimp only
 rw [i1]
 unfold ci
 simp only [dp,bQ]
 exact ⟨trivial,c,i2,i3⟩
theorem G0 {b:List UInt8} {v:Nat}:(oh b v).1=.slice .any 5 ((cr b v).1.map cS):=(rfl)
theorem GY {b:List UInt8} {v:Nat}:(oh b v).2=(cr b v).2:=(rfl)
theorem G7 {b:List UInt8} {v:Nat}:(mH b v).1=.slice .any 5 ((c6 b v).map a8):=(rfl)
theorem Hx {b:List UInt8} {v:Nat}:(mH b v).2=cp v 4:=(rfl)
theorem FP {b:List UInt8} {v:Nat}:(oT b v).1=.slice .any 8 ((cK b v).map aV):=(rfl)
theorem Gl {b:List UInt8} {v:Nat}:(oT b v).2=cp v 12:=(rfl)
theorem I7 {b:List UInt8} {v:Nat} {ts:List STable}:(rL ts b v).1=.slice .any 6 ((kD b v ts).1.map fp):=(rfl)
theorem H7 {b:List UInt8} {v:Nat} {ts:List STable}:(rL ts b v).2=cp (kD b v ts).2 0:=(rfl)
theorem yB {v k n:Nat}:cp (cp v k) n=cp v (k+n):=by unfold cp;omega
theorem tg2 {b:List UInt8} {w:Nat}:(List.map aV (cK b w)).getD 2 .junk=.agg [.int .i64 (fk b w).id,.str (fk b w).name,.slice .any 3 ((fk b w).keys.map bL),.slice .any 1 (inL (fk b w).actions),.int .i64 (fk b w).dflt,.slice .any 2 ((fk b w).dargs.map vv),.int .i64 (fk b w).size,.str (fk b w).restr]:=(rfl)
theorem tg3 {b:List UInt8} {w:Nat}:(List.map aV (cK b w)).getD 3 .junk=.agg [.int .i64 (fj b w).id,.str (fj b w).name,.slice .any 3 ((fj b w).keys.map bL),.slice .any 1 (inL (fj b w).actions),.int .i64 (fj b w).dflt,.slice .any 2 ((fj b w).dargs.map vv),.int .i64 (fj b w).size,.str (fj b w).restr]:=(rfl)
theorem tgl {b:List UInt8} {w:Nat}:(cK b w).length=4:=(rfl)
theorem k2l {b:List UInt8} {w:Nat}:(((fk b w).keys.length:Int)==3)=decide (cv b (cp w 5) 2=1):=by
 by_cases h:cv b (w+5) 2=1<;>simp [fk,cp,h]
theorem k3l {b:List UInt8} {w:Nat}:(((fj b w).keys.length:Int)==3)=decide (cv b (cp w 7) 2=1):=by
 by_cases h:cv b (w+7) 2=1<;>simp [fj,cp,h]
def ML (p:Prop):Bool→Prop|true=>p|false=>¬ p
theorem tO {p:Prop} [Decidable p] {t:Bool} (h:decide p=t):ML p t:=by
 cases t
 ·exact (of_decide_eq_false h:¬ p)
 ·exact (of_decide_eq_true h:p)
theorem JB {id:Nat} {ts:List STable} {H:AHeap} {K:AEnd→AHeap→Prop} (h1:ts.length≤100) (h2:∀ t∈ts,t.keys.length≤100) (h:onS (H.get id) (rL ts) fun x o=>K (.ret x) (H.set id o)) :
 vM [.ptr id 0,.slice .any 8 (ts.map aV)] H K:=⟨ts,⟨rfl,h1,h2⟩,h⟩
def kU:=eG fun b v=>(rT (dn b v).1,(dn b v).2)
theorem wy:EntOk Tryz.prog 12 (Ent.effect kU):=by
 unfold kU
 refine EntOk.effect fun args H K h=>?_
 unfold eG at h
 split at h
 rotate_left
 ·exact h.elim
 rename_i id
 obtain ⟨b,v,hg,hb,hv,hK⟩:=kQ h
 refine ⟨_,_,hK,?_⟩
 clear hK
 dsimp only
 generalize hS:(dn b v).1=S
 generalize hpos:(dn b v).2=pos
 refine ACalls.fW ax (tCq ke (tCq m7 (tCq Df (tCq B4 (tCq CO (tCq Gc tNq)))))) Tryz.func12 [.cell 2 36] (nrq _) (T:=av [(15,[[4]])]) (h:=fun hcl hlt=>?_)
 clear hlt
 have hid:=glq hg
 have hne:=qk hid
 have hne2:=qk (show id<H.nx+1+1+1+1+1+1+1+1+1+1+1+1+1+1+1+1 by omega)
 have hgc:=li (b:=b) hid
 have hcl2:∀ w,(H.set id (dZ b w)).Closed:=fun w=>ai hcl ji
 have e8:(8:Int).toNat=8:=rfl
 have e30:(30:Int).toNat=30:=rfl
 have w1:∀ (u n:Nat) (k:Int),0<n→n≤100→0≤k→k≤100→IntKind.i64.wrap (k+((cv b u n:Nat):Int))=k+((cv b u n:Nat):Int):=fun u n k h1 h2 h3 h4=>by
  have:=eR (b:=b) (v:=u) (n:=n) h1
  exact Y118
 have a28:∀ u,IntKind.i64.wrap (2+((cv b u 8:Nat):Int))=2+((cv b u 8:Nat):Int):=fun u=>w1 u 8 2 (by decide) (by decide) (by decide) (by decide)
 have a30:∀ u,IntKind.i64.wrap (12+((cv b u 30:Nat):Int))=12+((cv b u 30:Nat):Int):=fun u=>w1 u 30 12 (by decide) (by decide) (by decide) (by decide)
 have es1:tx=eG oh:=rfl
 have es2:qy=eG mH:=rfl
 have es3:tS=eG oT:=rfl
 simp only [go_sem,bhq,Nat.reduceMod,Nat.reduceDiv,aD,aE,aF,bf,aG,bc,aZ,bb,a9,yaq,yar,yao,yap,bB,cd,es1,es2,es3,qZ,cT hb kX,cT hb jN,cT hb kW,G0,GY,G7,Hx,FP,Gl,yB,hg,hgc,bu hb,bQ,bh,bW,hne,hne2,e8,e30,a28,a30]
 (repeat with_reducible refine Yq ?_)
 refine JB (by simp [cK]) (fun t ht=>?_) ?_
 ·simp only [cK,List.mem_cons,List.not_mem_nil,or_false] at ht
  rcases ht with rfl|rfl|rfl|rfl<;>simp only [jZ,mh,fk,fj]<;>(try split)<;>simp
 simp only [bp,aM,go_sem,bhq,Nat.reduceMod,Nat.reduceDiv,aD,aE,aF,bf,aG,bc,aZ,bb,a9,yaq,yar,yao,yap,bB,cd,es1,es2,es3,qZ,cT hb kX,cT hb jN,cT hb kW,G0,GY,G7,Hx,FP,Gl,yB,hg,hgc,bu hb,bQ,bh,bW,hne,hne2,e8,e30,a28,a30,cT hb (oy _),I7,H7,iNq]
 refine au (fun h1=>?_) (fun h1=>?_)
 all_goals
  simp only [bp,aM,go_sem,bhq,Nat.reduceMod,Nat.reduceDiv,aD,aE,aF,bf,aG,bc,aZ,bb,a9,yaq,yar,yao,yap,bB,cd,es1,es2,es3,qZ,cT hb kX,cT hb jN,cT hb kW,G0,GY,G7,Hx,FP,Gl,yB,hg,hgc,bu hb,bQ,bh,bW,hne,hne2,e8,e30,a28,a30,cT hb (oy _),I7,H7,iNq,tg2,tg3,tgl,k2l,k3l]
  try (repeat with_reducible refine Yq ?_)
  refine au (fun h2=>?_) (fun h2=>?_)
 all_goals
  simp only [bp,aM,go_sem,bhq,Nat.reduceMod,Nat.reduceDiv,aD,aE,aF,bf,aG,bc,aZ,bb,a9,yaq,yar,yao,yap,bB,cd,es1,es2,es3,qZ,cT hb kX,cT hb jN,cT hb kW,G0,GY,G7,Hx,FP,Gl,yB,hg,hgc,bu hb,bQ,bh,bW,hne,hne2,e8,e30,a28,a30,cT hb (oy _),I7,H7,iNq,tg2,tg3,tgl,k2l,k3l]
  try (repeat with_reducible refine Yq ?_)
  refine bx (fun h3=>?_) (fun h3=>?_)
 all_goals
  try (repeat with_reducible refine Yq ?_)
  try refine au (fun h4=>?_) (fun h4=>?_)
 all_goals
  try simp only [bp,aM,go_sem,bhq,Nat.reduceMod,Nat.reduceDiv,aD,aE,aF,bf,aG,bc,aZ,bb,a9,yaq,yar,yao,yap,bB,cd,es1,es2,es3,qZ,cT hb kX,cT hb jN,cT hb kW,G0,GY,G7,Hx,FP,Gl,yB,hg,hgc,bu hb,bQ,bh,bW,hne,hne2,e8,e30,a28,a30,cT hb (oy _),I7,H7,iNq,tg2,tg3,tgl,k2l,k3l]
  try (repeat with_reducible refine Yq ?_)
  refine bx (fun h5=>?_) (fun h5=>?_)
 all_goals
  try (repeat with_reducible refine Yq ?_)
  try refine au (fun h6=>?_) (fun h6=>?_)
 all_goals
  try simp only [bp,aM,go_sem,bhq,Nat.reduceMod,Nat.reduceDiv,aD,aE,aF,bf,aG,bc,aZ,bb,a9,yaq,yar,yao,yap,bB,cd,es1,es2,es3,qZ,cT hb kX,cT hb jN,cT hb kW,G0,GY,G7,Hx,FP,Gl,yB,hg,hgc,bu hb,bQ,bh,bW,hne,hne2,e8,e30,a28,a30,cT hb (oy _),I7,H7,iNq,tg2,tg3,tgl,k2l,k3l]
  try (repeat with_reducible refine Yq ?_)
  replace h1:=tO h1
  replace h2:=tO h2
  replace h3:=tO h3
  replace h5:=tO h5
  try replace h4:=tO h4
  try replace h6:=tO h6
  refine im 101 (.agg (bv S)) ?_ ?_
  ·rw [← hS]
   simp only [ML] at h1 h2 h3 h5
   try simp only [ML] at h4
   try simp only [ML] at h6
   simp [*,Fr.get,bv,dn,gFields,Cl,bX,dX,jn,ph,inL,AV.cells,j6,cw,cx,cQ,fu,cP,jg,kM,jk,wkM,tn]
  simp only [bhq,Nat.reduceMod,Nat.reduceDiv,aD,aE,aF,bf,aG,bc,aZ,bb,a9,yaq,yar,yao,yap,go_sem,bv]
  refine ⟨?_,?_,hcl2 _,tf S⟩
  ·simp [rT,bv,wk,wk2,wkL,wk1,wkM]
  ·rw [← hpos]
   repeat first|exact .refl _|refine .push ?_ _
end Go.AL
