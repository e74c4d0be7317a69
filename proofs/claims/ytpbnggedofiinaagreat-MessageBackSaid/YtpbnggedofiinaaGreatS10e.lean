/- Lemmas of the proof; no condition. -/
import Derived.Test.YtpbnggedofiinaaGreatS10c
set_option linter.all false
set_option maxRecDepth 10000
set_option maxHeartbeats 32000000
open List renaming length_cons → yaz, map_cons → yae, drop_succ_cons → yao, drop_zero → yap, getD_cons_zero → yau, length_nil → yba, take_succ_cons → yaq, take_zero → yar, length_map → ybb, map_nil → yaf, append_nil → yaj
open Go Go.AL Go.Proofs
namespace Go.AL
def tw:List AV→AHeap→(AEnd→AHeap→Prop)→Prop
 |[.ptr id 0,.slice .any 8 l],H,K=>∃ ts:List STable,(l=ts.map c8∧ts.length≤100∧∀ t∈ts,t.keys.length≤100)∧onC (H.get id) fun b v=>K (.ret (.slice .any 6 ((ki b v ts).1.map nv))) (H.set id (cr b (ki b v ts).2))
 |_,_,_=>False
def bfN (n:Nat) (f:Nat→Bool):List AV:=(List.range n).map fun i=>.bool (f i)
theorem AW {n:Nat} {f:Nat→Bool}:(bfN n f).length=n:=by simp [bfN]
theorem Bj {n:Nat} {f g:Nat→Bool} {i:Nat} {b:Bool} (h:∀ j,j<n→g j=if j=i then b else f j):(bfN n f).set i (.bool b)=bfN n g:=by
 apply List.ext_getElem
 ·simp [bfN]
 ·intro j h1 h2
  have hj:j<n:=by simpa [bfN] using h2
  rw [List.getElem_set]
  simp only [bfN,List.getElem_map,List.getElem_range,h j hj]
  by_cases e:i=j
  ·subst e;simp
  ·rw [if_neg e,if_neg (fun x=>e x.symm)]
theorem F2 {n:Nat}:(List.replicate n [AV.bool false]).flatten=bfN n fun _=>false:=by
 induction n with
 |zero=>rfl
 |succ n ih =>
  rw [List.replicate_succ,List.flatten_cons,ih]
  apply List.ext_getElem
  ·simp [bfN]
  ·intro j h1 h2
   cases j<;>simp [bfN]
theorem AU {n:Nat} {f:Nat→Bool}:bfN n f=boL ((List.range n).map f):=by simp [bfN,boL]
theorem BM {m n:Nat} {f:Nat→Bool}:ltL m (bfN n f)=True:=eq_true (ltL_iff.2 fun j hj=>by
 simp only [bfN,List.getElem_map]
 rw [AV.lt]<;>simp)
theorem oW:∀ (l:List Bool),bK 1 l.length (boL l)=boL l
 |[]=>rfl
 |x::l=>by
  rw [yaz,bK,if_pos rfl]
  have:=oW l
  simp only [boL,yae,yao,yap,yau,kS] at this ⊢
  rw [this]
theorem kR {α:Type} {n:Nat} {f:α→AV} {a c:List AV} {l:List α} (h:a++c=l.map f) (hf:∀ x,AV.lt n (f x)):ltL n a=True:=eq_true (ltL_iff.2 fun j hj=>by
 have:a[j]∈l.map f:=by rw [← h];exact List.mem_append_left _ (gMq hj)
 obtain ⟨x,_,e⟩:=List.mem_map.1 this
 rw [← e];exact hf x)
def wZ (i j:Nat) (g:List AV):List AV:=[.int .i64 1,.str [97,108,108],.slice (.own i) 4 g,.slice (.own j) 1 [.int .i64 1,.int .i64 2,.int .i64 3,.int .i64 4,.int .i64 5,.int .i64 6],.int .i64 40,.bool true]
def p3 (b:List UInt8) (v i j:Nat) (g:List AV):List AV:=[.int .i64 2,.str [115,111,109,101],.slice (.own i) 4 g,.slice (.own j) 1 [.int .i64 1,.int .i64 2,.int .i64 (3+ci b (cp v 0) 3)],.int .i64 (1+ci b (cp v 1) 6),.bool false]
def wT (b:List UInt8) (v i j:Nat) (g:List AV):List AV:=[.int .i64 7,.str [102,101,119],.slice (.own i) 4 g,.slice (.own j) 1 [.int .i64 (1+ci b (cp v 2) 6)],.int .i64 (ci b (cp v 3) 4),.bool false]
def iu (H:AHeap) (id:Nat) (b:List UInt8) (v w:Nat) (a1 a2 a3:List AV):AHeap :=
 (((((((((((H.set id (cr b (cp w 0))).push (.buf 6 0)).push (.buf 1 6)).push (.buf 4 a1.length)).push (.cells (wZ (H.nx+1+1) (H.nx+1) a1))).push (.buf 1 3)).push (.buf 4 a2.length)).push (.cells (p3 b v (H.nx+1+1+1+1+1) (H.nx+1+1+1+1) a2))).push (.buf 1 1)).push (.buf 4 a3.length)).push (.cells (wT b v (H.nx+1+1+1+1+1+1+1+1) (H.nx+1+1+1+1+1+1+1) a3)))
structure RolI (b:List UInt8) (ts:List STable) (R:(List SGrant × List SGrant × List SGrant) × Nat) (k w:Nat) (a1 a2 a3:List AV):Prop where
 le:k≤ts.length
 l1:a1.length≤k
 l2:a2.length≤k
 l3:a3.length≤k
 e1:a1++(ea b (ts.drop k) w).1.1.map dX=R.1.1.map dX
 e2:a2++(ea b (ts.drop k) w).1.2.1.map dX=R.1.2.1.map dX
 e3:a3++(ea b (ts.drop k) w).1.2.2.map dX=R.1.2.2.map dX
 e4:(ea b (ts.drop k) w).2=R.2
theorem iH {H:AHeap} {id:Nat} {b:List UInt8} {ts:List STable} {R:(List SGrant × List SGrant × List SGrant) × Nat} {v k w:Nat} {a1 a2 a3:List AV} (hcl:H.Closed) (h:RolI b ts R k w a1 a2 a3) (w':Nat):(iu H id b v w' a1 a2 a3).Closed:=by
 have q1:=fun n=>kR (n:=n) h.e1 pU
 have q2:=fun n=>kR (n:=n) h.e2 pU
 have q3:=fun n=>kR (n:=n) h.e3 pU
 unfold iu
 repeat' (first|exact aP hcl fk|refine bj ?_|refine aD ?_ ?_)
 all_goals simp [wZ,p3,wT,lt_sliceL,znu,znv,znf,znh,zng,zle,zlf,q1,q2,q3]
 all_goals omega
theorem CW:EntOk Tryz.prog 28 (Ent.effect tw):=by
 refine EntOk.effect fun args H K h=>?_
 unfold tw at h
 split at h
 rotate_left
 ·exact h.elim
 rename_i id l
 obtain ⟨ts,⟨rfl,hts,htk⟩,h⟩:=h
 obtain ⟨b,v,hg,hb,hv,hK⟩:=fp h
 refine ⟨_,_,hK,?_⟩
 clear hK
 generalize hres:AV.slice .any 6 ((ki b v ts).1.map nv)=res
 generalize hR:ea b ts (v+4)=R
 have hend:(ki b v ts).2=R.2:=by rw [← hR];rfl
 rw [hend]
 refine ACalls.fW ah (tCq ff (tCq jf tNq)) Tryz.func28 [.tmp 4] (nrq _) (T:=ae [(16,[[],[],[],[],[],[],[],[],[5],[],[],[3,5,8],[1,3,5,8],[],[1,3,5,8]]),(18,[[],[],[],[],[],[],[],[5],[],[],[3,5,7],[1,3,5,7],[],[1,3,5,7]]),(1,[[7]]),(2,[[25]]),(3,[[22]]),(14,[[1]]),(20,[[16]])]) (h:=fun hcl hlt=>?_)
 clear hlt
 have hid:=glq hg
 have hne:=iJ hid
 have hgc:=fo (b:=b) hid
 have hcl2:∀ w,(H.set id (cr b w)).Closed:=fun w=>aP hcl fk
 have e2:(2:Int).toNat=2:=rfl
 have e3:(3:Int).toNat=3:=rfl
 have e4:(4:Int).toNat=4:=rfl
 have e6:(6:Int).toNat=6:=rfl
 have w1:∀ (u n:Nat) (k:Int),0<n→n≤100→0≤k→k≤100→IntKind.i64.wrap (k+((cv b u n:Nat):Int))=k+((cv b u n:Nat):Int):=fun u n k h1 h2 h3 h4=>by
  have:=cn (b:=b) (v:=u) (n:=n) h1
  rw [wrap_i64 (by omega) (by omega)]
 have a33:∀ u,IntKind.i64.wrap (3+((cv b u 3:Nat):Int))=3+((cv b u 3:Nat):Int):=fun u=>w1 u 3 3 (by decide) (by decide) (by decide) (by decide)
 have a16:∀ u,IntKind.i64.wrap (1+((cv b u 6:Nat):Int))=1+((cv b u 6:Nat):Int):=fun u=>w1 u 6 1 (by decide) (by decide) (by decide) (by decide)
 simp only [go_sem,bhq,Nat.reduceMod,Nat.reduceDiv,aA,az,aB,aZ,aC,aY,aS,aU,aV,yaq,yar,yao,yap,ay,bm,hg,hgc,av hb,aG,ap,aI,hne,e2,e3,e4,e6,a33,a16]
 refine kj 14 2 4 _ rfl rfl ?_
 simp only [go_sem,bhq,Nat.reduceMod,Nat.reduceDiv,aA,az,aB,aZ,aC,aY,aS,aU,aV,yaq,yar,yao,yap,ay,bm,hg,hgc,av hb,aG,ap,aI,hne,e2,e3,e4,e6,a33,a16,List.set_cons_succ,List.set_cons_zero]
 (repeat with_reducible refine Yq ?_)
 refine kj 22 2 4 _ rfl rfl ?_
 simp only [go_sem,bhq,Nat.reduceMod,Nat.reduceDiv,aA,az,aB,aZ,aC,aY,aS,aU,aV,yaq,yar,yao,yap,ay,bm,hg,hgc,av hb,aG,ap,aI,hne,e2,e3,e4,e6,a33,a16,List.set_cons_succ,List.set_cons_zero]
 (repeat with_reducible refine Yq ?_)
 refine kj 29 2 4 _ rfl rfl ?_
 simp only [go_sem,bhq,Nat.reduceMod,Nat.reduceDiv,aA,az,aB,aZ,aC,aY,aS,aU,aV,yaq,yar,yao,yap,ay,bm,hg,hgc,av hb,aG,ap,aI,hne,e2,e3,e4,e6,a33,a16,List.set_cons_succ,List.set_cons_zero]
 refine aK (A:=Nat × Nat × List AV × List AV × List AV) (fun x=>[(0,.ptr id 0),(5,.ptr (H.nx+1+1+1) 0),(6,.ptr (H.nx+1+1+1+1+1+1) 0),(7,.ptr (H.nx+1+1+1+1+1+1+1+1+1) 0),(30,.slice .any 8 (ts.map c8)),(31,.int .i64 (ts.length:Int)),(32,.int .i64 (x.1:Int))]) (fun x=>iu H id b v x.2.1 x.2.2.1 x.2.2.2.1 x.2.2.2.2) (fun x=>RolI b ts R x.1 x.2.1 x.2.2.1 x.2.2.2.1 x.2.2.2.2) (fun x=>ts.length - x.1) (0,v+4,[],[],[]) ⟨by omega,by simp,by simp,by simp,by rw [← hR];rfl,by rw [← hR];rfl,by rw [← hR];rfl,by rw [← hR];rfl⟩ ?_ fun x hx=>?_
 ·refine ⟨by simp only [iu,zle,zlf,zkq,zkv];omega,lRq _,iH (ts:=ts) (R:=R) (k:=0) (w:=v+4) hcl ⟨by omega,by simp,by simp,by simp,by rw [← hR];rfl,by rw [← hR];rfl,by rw [← hR];rfl,by rw [← hR];rfl⟩ _,?_,?_⟩
  ·simp [ltF,iu,znn,znf,zle,zlf,bg fy]
   omega
  ·simp [cf,wk2,wk1,wkM,Fr.get]
 obtain ⟨k,w,a1,a2,a3⟩:=x
 dsimp only at hx ⊢
 have hclo:=fun w'=>iH (id:=id) (v:=v) hcl hx w'
 obtain ⟨hk,l1,l2,l3,i1,i2,i3,i4⟩:=hx
 simp only [go_sem]
 refine af (fun hc=>?_) (fun hc=>?_)
 ·have hk':k<ts.length:=by simp at hc;omega
  obtain ⟨t,ht⟩:∃ t,t=ts[k]:=⟨_,rfl⟩
  have hd:ts.drop k=t::ts.drop (k+1):=by rw [ht];exact dcq hk'
  have hkl:t.keys.length≤100:=htk t (by rw [ht];exact gMq hk')
  have htg:(ts.map c8).getD k .junk=.agg [.int .i64 t.id,.str t.name,.slice .any 3 (t.keys.map gW),.slice .any 1 (inL t.actions),.int .i64 t.dflt,.slice .any 2 (t.dargs.map vv),.int .i64 t.size,.str t.restr]:=by
   rw [gEq,List.getElem?_map,gQq hk',← ht];rfl
  have hT:∀ n,ltL n ([.int .i64 t.id,.str t.name,.slice .any 3 (t.keys.map gW),.slice .any 1 (inL t.actions),.int .i64 t.dflt,.slice .any 2 (t.dargs.map vv),.int .i64 t.size,.str t.restr]:List AV):=fun n=>ltL_iff.2 fun j hj=>AV.lt_cells (fy t) j hj
  have hclT:∀ w',((iu H id b v w' a1 a2 a3).push (.cells [.int .i64 t.id,.str t.name,.slice .any 3 (t.keys.map gW),.slice .any 1 (inL t.actions),.int .i64 t.dflt,.slice .any 2 (t.dargs.map vv),.int .i64 t.size,.str t.restr])).Closed:=fun w'=>aD (hclo w') (hT _)
  have hclo2:∀ w' f g,((((iu H id b v w' a1 a2 a3).push (.cells [.int .i64 t.id,.str t.name,.slice .any 3 (t.keys.map gW),.slice .any 1 (inL t.actions),.int .i64 t.dflt,.slice .any 2 (t.dargs.map vv),.int .i64 t.size,.str t.restr])).push (.cells (bfN t.keys.length f))).push (.cells (bfN t.keys.length g))).Closed:=fun w' f g =>
   aD (aD (hclT w') (by simp [BM])) (by simp [BM])
  have hrn:∀ w',(iu H id b v w' a1 a2 a3).nx=(H.nx+1+1+1+1+1+1+1+1+1+1):=fun _=>rfl
  simp only [go_sem,iu,wZ,p3,wT,htg,iNq,ybb,F2,AW]
  (repeat with_reducible refine Yq ?_)
  refine aK (A:=Nat) (fun j=>[(0,.ptr id 0),(5,.ptr (H.nx+1+1+1) 0),(6,.ptr (H.nx+1+1+1+1+1+1) 0),(7,.ptr (H.nx+1+1+1+1+1+1+1+1+1) 0),(9,.ptr (H.nx+1+1+1+1+1+1+1+1+1+1) 0),(10,.ms (H.nx+1+1+1+1+1+1+1+1+1+1+1) 0 1 t.keys.length),(11,.ms (H.nx+1+1+1+1+1+1+1+1+1+1+1+1) 0 1 t.keys.length),(30,.slice .any 8 (ts.map c8)),(31,.int .i64 (ts.length:Int)),(32,.int .i64 (k:Int)),(45,.int .i64 (t.keys.length:Int)),(46,.int .i64 (j:Int))]) (fun j=>(((iu H id b v (w+j) a1 a2 a3).push (.cells [.int .i64 t.id,.str t.name,.slice .any 3 (t.keys.map gW),.slice .any 1 (inL t.actions),.int .i64 t.dflt,.slice .any 2 (t.dargs.map vv),.int .i64 t.size,.str t.restr])).push (.cells (bfN t.keys.length fun i=>decide (i<j)))).push (.cells (bfN t.keys.length fun i=>decide (i<j)&&decide (ci b (w+i) 4 > 0)))) (fun j=>j≤t.keys.length) (fun j=>t.keys.length - j) 0 (by omega) ?_ fun j hj=>?_
  ·simp only [Nat.not_lt_zero,decide_false,Bool.false_and]
   refine ⟨by simp only [zle,hrn,zkq,zkv];omega,lRq _,hclo2 _ _ _,?_,?_⟩
   ·simp [ltF,hrn,znn,znp,znf,zle,zlf,bg fy]
    omega
   ·simp [cf,wk2,wk1,wkM,Fr.get]
  simp only [go_sem]
  refine af (fun hc2=>?_) (fun hc2=>?_)
  ·have hj':j<t.keys.length:=by simp at hc2;omega
   have e5:IntKind.i64.wrap ((j:Int)+1)=((j+1:Nat):Int):=by rw [wrap_i64]<;>omega
   have hs1:(bfN t.keys.length fun i=>decide (i<j)).set j (.bool true)=bfN t.keys.length fun i=>decide (i<j+1):=Bj fun i hi=>by
    by_cases e:i=j
    ·subst e;simp
    ·rw [if_neg e,decide_eq_decide];omega
   have hs2:(bfN t.keys.length fun i=>decide (i<j)&&decide (ci b (w+i) 4 > 0)).set j (.bool (decide (ci b (cp (w+j) 0) 4 > 0)))=bfN t.keys.length fun i=>decide (i<j+1)&&decide (ci b (w+i) 4 > 0):=Bj fun i hi=>by
    by_cases e:i=j
    ·subst e;simp [cp]
    ·rw [if_neg e];congr 1;rw [decide_eq_decide];omega
   simp only [bk,bh,bhq,Nat.reduceMod,Nat.reduceDiv,aA,az,aB,aZ,aC,aY,aS,aU,aV,yaq,yar,yao,yap,go_sem,ay,bm,hgc,av hb,aG,ap,aI,hne,e4,iu,wZ,p3,wT,lAq,ybb,iNq,AW,ko,nzq,Nat.mul_one,hs1,hs2,e5]
   (repeat with_reducible refine Yq ?_)
   refine ⟨j+1,by omega,by omega,by simp only [zle,hrn,zlf,zkq,zkv];omega,lRq _,hclo2 _ _ _,?_,?_⟩
   ·simp [ltF,hrn,znn,znp,znf,zle,zlf,bg fy]
    omega
   ·simp [cf,wk2,wk1,wkM,Fr.get]
  have hj':j=t.keys.length:=by simp at hc2;omega
  subst hj'
  have y1:(bfN t.keys.length fun i=>decide (i<t.keys.length))=boL (List.replicate t.keys.length true):=by
   rw [AU];congr 1
   apply List.ext_getElem
   ·simp
   ·intro i h1 h2;simp at h1 ⊢;exact h1
  have y2:(bfN t.keys.length fun i=>decide (i<t.keys.length)&&decide (ci b (w+i) 4 > 0))=boL (lh b w t.keys.length):=by
   rw [AU];congr 1
   unfold lh
   refine List.map_congr_left fun i hi=>?_
   have:=List.mem_range.1 hi
   simp [this]
  rw [y1,y2]
  simp only [bk,bh,bhq,Nat.reduceMod,Nat.reduceDiv,aA,az,aB,aZ,aC,aY,aS,aU,aV,yaq,yar,yao,yap,go_sem,ay,bm,hgc,av hb,aG,ap,aI,hne,e4,iu,wZ,p3,wT,lAq,ybb]
  refine vw [(0,.ptr id 0),(5,.ptr (H.nx+1+1+1) 0),(6,.ptr (H.nx+1+1+1+1+1+1) 0),(7,.ptr (H.nx+1+1+1+1+1+1+1+1+1) 0),(9,.ptr (H.nx+1+1+1+1+1+1+1+1+1+1) 0),(10,.slice .any 1 (boL (List.replicate t.keys.length true))),(11,.slice .any 1 (boL (lh b w t.keys.length))),(30,.slice .any 8 (ts.map c8)),(31,.int .i64 (ts.length:Int)),(32,.int .i64 (k:Int))] ((iu H id b v (w+t.keys.length) a1 a2 a3).push (.cells [.int .i64 t.id,.str t.name,.slice .any 3 (t.keys.map gW),.slice .any 1 (inL t.actions),.int .i64 t.dflt,.slice .any 2 (t.dargs.map vv),.int .i64 t.size,.str t.restr])) ⟨by simp only [zle,hrn,zkq,zkv,nK];omega,((lRq _).push _).push _,hclT _,?_,?_⟩ ?_
  ·simp [ltF,hrn,znn,znp,znf,zle,zlf,bg fy,Ey]
   omega
  ·have yr1:bK 1 t.keys.length (boL (List.replicate t.keys.length true))=boL (List.replicate t.keys.length true):=by
    have:=oW (List.replicate t.keys.length true)
    rw [List.length_replicate] at this;exact this
   have yr2:bK 1 t.keys.length (boL (lh b w t.keys.length))=boL (lh b w t.keys.length):=by
    have:=oW (lh b w t.keys.length)
    rw [show (lh b w t.keys.length).length=t.keys.length by simp [lh]] at this;exact this
   have hn1:∀ w' o,((iu H id b v w' a1 a2 a3).push o).get (H.nx+1+1+1+1+1+1+1+1+1+1+1)=none:=fun w' o=>zmv (by rw [zle,hrn];omega)
   have hn2:∀ w' o,((iu H id b v w' a1 a2 a3).push o).get (H.nx+1+1+1+1+1+1+1+1+1+1+1+1)=none:=fun w' o=>zmv (by rw [zle,hrn];omega)
   simp only [cf,wk2,wk1,wkM,go_sem,yap,yr1,yr2,hn1,hn2,true_or,or_true,and_self]
  simp only [bk,bh,bhq,Nat.reduceMod,Nat.reduceDiv,aA,az,aB,aZ,aC,aY,aS,aU,aV,yaq,yar,yao,yap,go_sem,ay,bm,hgc,av hb,aG,ap,aI,hne,e4,iu,wZ,p3,wT,ybb]
  (repeat with_reducible refine Yq ?_)
  have e5:=Yk5 k
  refine af (fun h1=>?_) (fun h1=>?_)
  all_goals
   try simp only [bk,bh,bhq,Nat.reduceMod,Nat.reduceDiv,aA,az,aB,aZ,aC,aY,aS,aU,aV,yaq,yar,yao,yap,go_sem,ay,bm,hgc,av hb,aG,ap,aI,hne,e4,iu,wZ,p3,wT,ybb]
   try (repeat with_reducible refine Yq ?_)
   refine af (fun h2=>?_) (fun h2=>?_)
  all_goals
   try simp only [bk,bh,bhq,Nat.reduceMod,Nat.reduceDiv,aA,az,aB,aZ,aC,aY,aS,aU,aV,yaq,yar,yao,yap,go_sem,ay,bm,hgc,av hb,aG,ap,aI,hne,e4,iu,wZ,p3,wT,ybb,e5]
   try (repeat with_reducible refine Yq ?_)
  ·have hp1:(0<cv b (w+t.keys.length) 4)=True:=eq_true (by have h:=of_decide_eq_true h1;simp only [cp,Nat.add_zero] at h;omega)
   have hp2:(cv b (w+(t.keys.length+3)) 2=1)=True:=eq_true (by have h:=of_decide_eq_true h2;unfold cp at h;rw [Nat.add_assoc] at h;exact h)
   rw [hd] at i1 i2 i3 i4
   simp only [ea,hp1,hp2,if_true,if_false,Nat.add_assoc,Nat.reduceAdd] at i1 i2 i3 i4
   have hI:RolI b ts R (k+1) (w+(t.keys.length+6)) (a1++[.agg [.int .i64 t.id,.bool true,.bool true,.slice .any 1 (boL (List.replicate t.keys.length true))]]) (a2++[.agg [.int .i64 t.id,.bool (decide (0<ci b (w+t.keys.length+1) 4)),.bool (decide (cv b (w+t.keys.length+2) 2=1)),.slice .any 1 (boL (lh b w t.keys.length))]]) (a3++[.agg [.int .i64 t.id,.bool (decide (cv b (w+t.keys.length+4) 2=1)),.bool (decide (cv b (w+t.keys.length+5) 2=1)),.slice .any 1 (boL (List.replicate t.keys.length true))]]):=by
    refine ⟨by omega,by (try simp only [lAq,yaz,yba]);omega,by (try simp only [lAq,yaz,yba]);omega,by (try simp only [lAq,yaz,yba]);omega,?_,?_,?_,i4⟩
    ·simpa [dX,Nat.add_assoc] using i1
    ·simpa [dX,Nat.add_assoc] using i2
    ·simpa [dX,Nat.add_assoc] using i3
   refine ⟨(_,_,_,_,_),hI,by dsimp only;omega,by simp only [iu,zle,zlf];omega,?_,iH hcl hI _,?_,?_⟩
   ·simp only [iu,lAq,yaz,yba]
    repeat first|exact .refl _|refine .push ?_ _
   ·simp [ltF,iu,znn,znf,zle,zlf,bg fy]
    omega
   ·simp [cf,wk2,wk1,wkM,Fr.get]
  ·have hp1:(0<cv b (w+t.keys.length) 4)=True:=eq_true (by have h:=of_decide_eq_true h1;simp only [cp,Nat.add_zero] at h;omega)
   have hp2:(cv b (w+(t.keys.length+3)) 2=1)=False:=eq_false (by have h:=of_decide_eq_false h2;unfold cp at h;rw [Nat.add_assoc] at h;exact h)
   rw [hd] at i1 i2 i3 i4
   simp only [ea,hp1,hp2,if_true,if_false,Nat.add_assoc,Nat.reduceAdd] at i1 i2 i3 i4
   have hI:RolI b ts R (k+1) (w+(t.keys.length+4)) (a1++[.agg [.int .i64 t.id,.bool true,.bool true,.slice .any 1 (boL (List.replicate t.keys.length true))]]) (a2++[.agg [.int .i64 t.id,.bool (decide (0<ci b (w+t.keys.length+1) 4)),.bool (decide (cv b (w+t.keys.length+2) 2=1)),.slice .any 1 (boL (lh b w t.keys.length))]]) (a3):=by
    refine ⟨by omega,by (try simp only [lAq,yaz,yba]);omega,by (try simp only [lAq,yaz,yba]);omega,by (try simp only [lAq,yaz,yba]);omega,?_,?_,?_,i4⟩
    ·simpa [dX,Nat.add_assoc] using i1
    ·simpa [dX,Nat.add_assoc] using i2
    ·simpa [dX,Nat.add_assoc] using i3
   refine ⟨(_,_,_,_,_),hI,by dsimp only;omega,by simp only [iu,zle,zlf];omega,?_,iH hcl hI _,?_,?_⟩
   ·simp only [iu,lAq,yaz,yba]
    repeat first|exact .refl _|refine .push ?_ _
   ·simp [ltF,iu,znn,znf,zle,zlf,bg fy]
    omega
   ·simp [cf,wk2,wk1,wkM,Fr.get]
  ·have hp1:(0<cv b (w+t.keys.length) 4)=False:=eq_false (by have h:=of_decide_eq_false h1;simp only [cp,Nat.add_zero] at h;omega)
   have hp2:(cv b (w+(t.keys.length+1)) 2=1)=True:=eq_true (by have h:=of_decide_eq_true h2;unfold cp at h;rw [Nat.add_assoc] at h;exact h)
   rw [hd] at i1 i2 i3 i4
   simp only [ea,hp1,hp2,if_true,if_false,Nat.add_assoc,Nat.reduceAdd] at i1 i2 i3 i4
   have hI:RolI b ts R (k+1) (w+(t.keys.length+4)) (a1++[.agg [.int .i64 t.id,.bool true,.bool true,.slice .any 1 (boL (List.replicate t.keys.length true))]]) (a2) (a3++[.agg [.int .i64 t.id,.bool (decide (cv b (w+t.keys.length+2) 2=1)),.bool (decide (cv b (w+t.keys.length+3) 2=1)),.slice .any 1 (boL (List.replicate t.keys.length true))]]):=by
    refine ⟨by omega,by (try simp only [lAq,yaz,yba]);omega,by (try simp only [lAq,yaz,yba]);omega,by (try simp only [lAq,yaz,yba]);omega,?_,?_,?_,i4⟩
    ·simpa [dX,Nat.add_assoc] using i1
    ·simpa [dX,Nat.add_assoc] using i2
    ·simpa [dX,Nat.add_assoc] using i3
   refine ⟨(_,_,_,_,_),hI,by dsimp only;omega,by simp only [iu,zle,zlf];omega,?_,iH hcl hI _,?_,?_⟩
   ·simp only [iu,lAq,yaz,yba]
    repeat first|exact .refl _|refine .push ?_ _
   ·simp [ltF,iu,znn,znf,zle,zlf,bg fy]
    omega
   ·simp [cf,wk2,wk1,wkM,Fr.get]
  ·have hp1:(0<cv b (w+t.keys.length) 4)=False:=eq_false (by have h:=of_decide_eq_false h1;simp only [cp,Nat.add_zero] at h;omega)
   have hp2:(cv b (w+(t.keys.length+1)) 2=1)=False:=eq_false (by have h:=of_decide_eq_false h2;unfold cp at h;rw [Nat.add_assoc] at h;exact h)
   rw [hd] at i1 i2 i3 i4
   simp only [ea,hp1,hp2,if_true,if_false,Nat.add_assoc,Nat.reduceAdd] at i1 i2 i3 i4
   have hI:RolI b ts R (k+1) (w+(t.keys.length+2)) (a1++[.agg [.int .i64 t.id,.bool true,.bool true,.slice .any 1 (boL (List.replicate t.keys.length true))]]) (a2) (a3):=by
    refine ⟨by omega,by (try simp only [lAq,yaz,yba]);omega,by (try simp only [lAq,yaz,yba]);omega,by (try simp only [lAq,yaz,yba]);omega,?_,?_,?_,i4⟩
    ·simpa [dX,Nat.add_assoc] using i1
    ·simpa [dX,Nat.add_assoc] using i2
    ·simpa [dX,Nat.add_assoc] using i3
   refine ⟨(_,_,_,_,_),hI,by dsimp only;omega,by simp only [iu,zle,zlf];omega,?_,iH hcl hI _,?_,?_⟩
   ·simp only [iu,lAq,yaz,yba]
    repeat first|exact .refl _|refine .push ?_ _
   ·simp [ltF,iu,znn,znf,zle,zlf,bg fy]
    omega
   ·simp [cf,wk2,wk1,wkM,Fr.get]
 ·have hk':k=ts.length:=by simp at hc;omega
  subst hk'
  simp only [bhq,Nat.reduceMod,Nat.reduceDiv,aA,az,aB,aZ,aC,aY,aS,aU,aV,yaq,yar,yao,yap,go_sem,iu,wZ,p3,wT]
  (repeat with_reducible refine Yq ?_)
  simp only [List.drop_length,ea,yaf,yaj] at i1 i2 i3 i4
  subst i4
  refine gP 4 res ?_ ?_
  ·rw [← hres]
   simp only [ki,hR]
   simp [Fr.get,nv,inL,i1,i2,i3,cp,AV.cells,jv,fP,fK,gH,fM,gC,jw,jR,jB,wkM,nP]
  simp only [bhq,Nat.reduceMod,Nat.reduceDiv,aA,az,aB,aZ,aC,aY,aS,aU,aV,yaq,yar,yao,yap,go_sem]
  subst hres
  refine ⟨?_,?_,hcl2 _,bg BL⟩
  ·simp [wk,wk2,wk1,wkM]
  ·repeat first|exact .refl _|refine .push ?_ _
def pk (g:List UInt8→Nat→AV × Nat):Prop:=∀ b v,(g b (min v b.length)).1=(g b v).1∧∃ c,(g b (min v b.length)).2=min v b.length+c∧(g b v).2=v+c
def onS (o:Option AObj) (g:List UInt8→Nat→AV × Nat) (K:AV→AObj→Prop):Prop:=onC o fun b v=>K (g b v).1 (cr b (g b v).2)
@[congr] theorem Hy {o o':Option AObj} {g:List UInt8→Nat→AV × Nat} {K:AV→AObj→Prop} (h:o=o'):onS o g K=onS o' g K:=by rw [h]
theorem cz {b:List UInt8} {v:Nat} {g:List UInt8→Nat→AV × Nat} {K:AV→AObj→Prop} (hb:b.length≤1000000) (hg:pk g):onS (some (cr b v)) g K=K (g b v).1 (cr b (g b v).2):=by
 unfold onS
 rw [av hb]
 obtain ⟨h1,c,h2,h3⟩:=hg b v
 rw [h1,h2,h3,ap]
theorem qZ {g:List UInt8→Nat→AV × Nat} {id:Nat} {H:AHeap} {K:AEnd→AHeap→Prop}:eG g [.ptr id 0] H K=onS (H.get id) g fun x o=>K (.ret x) (H.set id o):=(rfl)
def nz:List UInt8→Nat→AV × Nat:=fun b v=>(.slice .any 5 ((cE b v).1.map gy),(cE b v).2)
def lV:List UInt8→Nat→AV × Nat:=fun b v=>(.slice .any 5 ((du b v).map cy),v+4)
def ng:List UInt8→Nat→AV × Nat:=fun b v=>(.slice .any 8 ((cF b v).map c8),v+12)
def pR (ts:List STable):List UInt8→Nat→AV × Nat:=fun b v=>(.slice .any 6 ((ki b v ts).1.map nv),(ki b v ts).2)
theorem kg:pk nz:=fun b v=>by
 have e:cE b (min v b.length)=((cE b v).1,(cE b v).2 - v+min v b.length):=by
  unfold cE
  simp only [cD,aG]
  repeat' split
  all_goals (refine Prod.ext rfl ?_;dsimp only;omega)
 have h:∃ c,(cE b v).2=v+c:=by
  unfold cE
  repeat' split
  all_goals exact ⟨_,rfl⟩
 obtain ⟨c,hc⟩:=h
 unfold nz
 dsimp only
 rw [e]
 exact ⟨rfl,c,by dsimp only;omega,hc⟩
theorem jn:pk lV:=fun b v=>by
 have e:du b (min v b.length)=du b v:=by unfold du ci;simp only [cD,aG]
 unfold lV
 dsimp only
 rw [e]
 exact ⟨rfl,4,rfl,rfl⟩
theorem kh:pk ng:=fun b v=>by
 have e:cF b (min v b.length)=cF b v:=by unfold cF i9 jd dW dU ci;simp only [cD,aG]
 unfold ng
 dsimp only
 rw [e]
 exact ⟨rfl,12,rfl,rfl⟩
theorem oh {b:List UInt8} {v k n:Nat}:lh b (min v b.length+k) n=lh b (v+k) n:=by
 unfold lh
 refine List.map_congr_left fun i _=>?_
 rw [Nat.add_assoc,Nat.add_assoc]
 unfold ci
 rw [cD]
theorem jH {b:List UInt8} {v:Nat}:∀ (ts:List STable) (k:Nat),(ea b ts (min v b.length+k)).1=(ea b ts (v+k)).1∧∃ c,(ea b ts (min v b.length+k)).2=min v b.length+c∧(ea b ts (v+k)).2=v+c
 |[],k=>⟨rfl,k,rfl,rfl⟩
 |t::ts,k=>by
  have hb:∀ j n,cv b (min v b.length+j) n=cv b (v+j) n:=fun j n=>cD
  by_cases h1:0<cv b (v+(k+t.keys.length)) 4
  ·by_cases h2:cv b (v+(k+t.keys.length+3)) 2=1
   ·obtain ⟨i1,c,i2,i3⟩:=jH ts (k+t.keys.length+3+3)
    simp only [Nat.add_assoc,Nat.reduceAdd] at i1 i2 i3 h1 h2
    simp only [ea,Nat.add_assoc,Nat.reduceAdd,hb,ci,h1,h2,if_true,oh]
    rw [i1]
    exact ⟨rfl,c,i2,i3⟩
   ·obtain ⟨i1,c,i2,i3⟩:=jH ts (k+t.keys.length+3+1)
    simp only [Nat.add_assoc,Nat.reduceAdd] at i1 i2 i3 h1 h2
    simp only [ea,Nat.add_assoc,Nat.reduceAdd,hb,ci,h1,h2,if_true,if_false,oh]
    rw [i1]
    exact ⟨rfl,c,i2,i3⟩
  ·by_cases h2:cv b (v+(k+t.keys.length+1)) 2=1
   ·obtain ⟨i1,c,i2,i3⟩:=jH ts (k+t.keys.length+1+3)
    simp only [Nat.add_assoc,Nat.reduceAdd] at i1 i2 i3 h1 h2
    simp only [ea,Nat.add_assoc,Nat.reduceAdd,hb,ci,h1,h2,if_true,if_false,oh]
    rw [i1]
    exact ⟨rfl,c,i2,i3⟩
   ·obtain ⟨i1,c,i2,i3⟩:=jH ts (k+t.keys.length+1+1)
    simp only [Nat.add_assoc,Nat.reduceAdd] at i1 i2 i3 h1 h2
    simp only [ea,Nat.add_assoc,Nat.reduceAdd,hb,ci,h1,h2,if_true,if_false,oh]
    rw [i1]
    exact ⟨rfl,c,i2,i3⟩
theorem nl (ts:List STable):pk (pR ts):=fun b v=>by
 obtain ⟨i1,c,i2,i3⟩:=jH (b:=b) (v:=v) ts 4
 unfold pR ki
 dsimp only
 rw [i1]
 unfold ci
 simp only [cD,aG]
 exact ⟨trivial,c,i2,i3⟩
theorem CJ {b:List UInt8} {v:Nat}:(nz b v).1=.slice .any 5 ((cE b v).1.map gy):=(rfl)
theorem B9 {b:List UInt8} {v:Nat}:(nz b v).2=(cE b v).2:=(rfl)
theorem Cc {b:List UInt8} {v:Nat}:(lV b v).1=.slice .any 5 ((du b v).map cy):=(rfl)
theorem CN {b:List UInt8} {v:Nat}:(lV b v).2=cp v 4:=(rfl)
theorem CA {b:List UInt8} {v:Nat}:(ng b v).1=.slice .any 8 ((cF b v).map c8):=(rfl)
theorem Dh {b:List UInt8} {v:Nat}:(ng b v).2=cp v 12:=(rfl)
theorem EI {b:List UInt8} {v:Nat} {ts:List STable}:(pR ts b v).1=.slice .any 6 ((ki b v ts).1.map nv):=(rfl)
theorem EV {b:List UInt8} {v:Nat} {ts:List STable}:(pR ts b v).2=cp (ki b v ts).2 0:=(rfl)
theorem uZ {v k n:Nat}:cp (cp v k) n=cp v (k+n):=by unfold cp;omega
theorem tg2 {b:List UInt8} {w:Nat}:(List.map c8 (cF b w)).getD 2 .junk=.agg [.int .i64 (dW b w).id,.str (dW b w).name,.slice .any 3 ((dW b w).keys.map gW),.slice .any 1 (inL (dW b w).actions),.int .i64 (dW b w).dflt,.slice .any 2 ((dW b w).dargs.map vv),.int .i64 (dW b w).size,.str (dW b w).restr]:=(rfl)
theorem tg3 {b:List UInt8} {w:Nat}:(List.map c8 (cF b w)).getD 3 .junk=.agg [.int .i64 (dU b w).id,.str (dU b w).name,.slice .any 3 ((dU b w).keys.map gW),.slice .any 1 (inL (dU b w).actions),.int .i64 (dU b w).dflt,.slice .any 2 ((dU b w).dargs.map vv),.int .i64 (dU b w).size,.str (dU b w).restr]:=(rfl)
theorem tgl {b:List UInt8} {w:Nat}:(cF b w).length=4:=(rfl)
theorem k2l {b:List UInt8} {w:Nat}:(((dW b w).keys.length:Int)==3)=decide (cv b (cp w 5) 2=1):=by
 by_cases h:cv b (w+5) 2=1<;>simp [dW,cp,h]
theorem k3l {b:List UInt8} {w:Nat}:(((dU b w).keys.length:Int)==3)=decide (cv b (cp w 7) 2=1):=by
 by_cases h:cv b (w+7) 2=1<;>simp [dU,cp,h]
def Gb (p:Prop):Bool→Prop|true=>p|false=>¬ p
theorem qY {p:Prop} [Decidable p] {t:Bool} (h:decide p=t):Gb p t:=by
 cases t
 ·exact (of_decide_eq_false h:¬ p)
 ·exact (of_decide_eq_true h:p)
theorem DF {id:Nat} {ts:List STable} {H:AHeap} {K:AEnd→AHeap→Prop} (h1:ts.length≤100) (h2:∀ t∈ts,t.keys.length≤100) (h:onS (H.get id) (pR ts) fun x o=>K (.ret x) (H.set id o)) :
 tw [.ptr id 0,.slice .any 8 (ts.map c8)] H K:=⟨ts,⟨rfl,h1,h2⟩,h⟩
def rn:=eG fun b v=>(vj (eL b v).1,(eL b v).2)
theorem AK:EntOk Tryz.prog 6 (Ent.effect rn):=by
 unfold rn
 refine EntOk.effect fun args H K h=>?_
 unfold eG at h
 split at h
 rotate_left
 ·exact h.elim
 rename_i id
 obtain ⟨b,v,hg,hb,hv,hK⟩:=fp h
 refine ⟨_,_,hK,?_⟩
 clear hK
 dsimp only
 generalize hS:(eL b v).1=S
 generalize hpos:(eL b v).2=pos
 refine ACalls.fW ah (tCq ff (tCq jf (tCq AA (tCq xP (tCq zV (tCq CW tNq)))))) Tryz.func6 [.cell 2 32] (nrq _) (T:=ae [(15,[[4]])]) (h:=fun hcl hlt=>?_)
 clear hlt
 have hid:=glq hg
 have hne:=iJ hid
 have hne2:=iJ (show id<H.nx+1+1+1+1+1+1+1+1+1+1+1+1+1+1+1+1 by omega)
 have hgc:=fo (b:=b) hid
 have hcl2:∀ w,(H.set id (cr b w)).Closed:=fun w=>aP hcl fk
 have e8:(8:Int).toNat=8:=rfl
 have e30:(30:Int).toNat=30:=rfl
 have w1:∀ (u n:Nat) (k:Int),0<n→n≤100→0≤k→k≤100→IntKind.i64.wrap (k+((cv b u n:Nat):Int))=k+((cv b u n:Nat):Int):=fun u n k h1 h2 h3 h4=>by
  have:=cn (b:=b) (v:=u) (n:=n) h1
  rw [wrap_i64 (by omega) (by omega)]
 have a28:∀ u,IntKind.i64.wrap (2+((cv b u 8:Nat):Int))=2+((cv b u 8:Nat):Int):=fun u=>w1 u 8 2 (by decide) (by decide) (by decide) (by decide)
 have a30:∀ u,IntKind.i64.wrap (12+((cv b u 30:Nat):Int))=12+((cv b u 30:Nat):Int):=fun u=>w1 u 30 12 (by decide) (by decide) (by decide) (by decide)
 have es1:qI=eG nz:=rfl
 have es2:oV=eG lV:=rfl
 have es3:rj=eG ng:=rfl
 simp only [go_sem,bhq,Nat.reduceMod,Nat.reduceDiv,aA,az,aB,aZ,aC,aY,aS,aU,aV,yaq,yar,yao,yap,ay,bm,es1,es2,es3,qZ,cz hb kg,cz hb jn,cz hb kh,CJ,B9,Cc,CN,CA,Dh,uZ,hg,hgc,av hb,aG,ap,aI,hne,hne2,e8,e30,a28,a30]
 (repeat with_reducible refine Yq ?_)
 refine DF (by simp [cF]) (fun t ht=>?_) ?_
 ·simp only [cF,List.mem_cons,List.not_mem_nil,or_false] at ht
  rcases ht with rfl|rfl|rfl|rfl<;>simp only [i9,jd,dW,dU]<;>(try split)<;>simp
 simp only [bk,bh,go_sem,bhq,Nat.reduceMod,Nat.reduceDiv,aA,az,aB,aZ,aC,aY,aS,aU,aV,yaq,yar,yao,yap,ay,bm,es1,es2,es3,qZ,cz hb kg,cz hb jn,cz hb kh,CJ,B9,Cc,CN,CA,Dh,uZ,hg,hgc,av hb,aG,ap,aI,hne,hne2,e8,e30,a28,a30,cz hb (nl _),EI,EV,iNq]
 refine af (fun h1=>?_) (fun h1=>?_)
 all_goals
  simp only [bk,bh,go_sem,bhq,Nat.reduceMod,Nat.reduceDiv,aA,az,aB,aZ,aC,aY,aS,aU,aV,yaq,yar,yao,yap,ay,bm,es1,es2,es3,qZ,cz hb kg,cz hb jn,cz hb kh,CJ,B9,Cc,CN,CA,Dh,uZ,hg,hgc,av hb,aG,ap,aI,hne,hne2,e8,e30,a28,a30,cz hb (nl _),EI,EV,iNq,tg2,tg3,tgl,k2l,k3l]
  try (repeat with_reducible refine Yq ?_)
  refine af (fun h2=>?_) (fun h2=>?_)
 all_goals
  simp only [bk,bh,go_sem,bhq,Nat.reduceMod,Nat.reduceDiv,aA,az,aB,aZ,aC,aY,aS,aU,aV,yaq,yar,yao,yap,ay,bm,es1,es2,es3,qZ,cz hb kg,cz hb jn,cz hb kh,CJ,B9,Cc,CN,CA,Dh,uZ,hg,hgc,av hb,aG,ap,aI,hne,hne2,e8,e30,a28,a30,cz hb (nl _),EI,EV,iNq,tg2,tg3,tgl,k2l,k3l]
  try (repeat with_reducible refine Yq ?_)
  refine bM (fun h3=>?_) (fun h3=>?_)
 all_goals
  try (repeat with_reducible refine Yq ?_)
  try refine af (fun h4=>?_) (fun h4=>?_)
 all_goals
  try simp only [bk,bh,go_sem,bhq,Nat.reduceMod,Nat.reduceDiv,aA,az,aB,aZ,aC,aY,aS,aU,aV,yaq,yar,yao,yap,ay,bm,es1,es2,es3,qZ,cz hb kg,cz hb jn,cz hb kh,CJ,B9,Cc,CN,CA,Dh,uZ,hg,hgc,av hb,aG,ap,aI,hne,hne2,e8,e30,a28,a30,cz hb (nl _),EI,EV,iNq,tg2,tg3,tgl,k2l,k3l]
  try (repeat with_reducible refine Yq ?_)
  refine bM (fun h5=>?_) (fun h5=>?_)
 all_goals
  try (repeat with_reducible refine Yq ?_)
  try refine af (fun h6=>?_) (fun h6=>?_)
 all_goals
  try simp only [bk,bh,go_sem,bhq,Nat.reduceMod,Nat.reduceDiv,aA,az,aB,aZ,aC,aY,aS,aU,aV,yaq,yar,yao,yap,ay,bm,es1,es2,es3,qZ,cz hb kg,cz hb jn,cz hb kh,CJ,B9,Cc,CN,CA,Dh,uZ,hg,hgc,av hb,aG,ap,aI,hne,hne2,e8,e30,a28,a30,cz hb (nl _),EI,EV,iNq,tg2,tg3,tgl,k2l,k3l]
  try (repeat with_reducible refine Yq ?_)
  replace h1:=qY h1
  replace h2:=qY h2
  replace h3:=qY h3
  replace h5:=qY h5
  try replace h4:=qY h4
  try replace h6:=qY h6
  refine gP 101 (.agg (cQ S)) ?_ ?_
  ·rw [← hS]
   simp only [Gb] at h1 h2 h3 h5
   try simp only [Gb] at h4
   try simp only [Gb] at h6
   simp [*,Fr.get,cQ,eL,gFields,yb,lf,p5,sl,Bl,inL,AV.cells,jv,fP,fK,gH,fM,gC,jw,jR,jB,wkM,nP]
  simp only [bhq,Nat.reduceMod,Nat.reduceDiv,aA,az,aB,aZ,aC,aY,aS,aU,aV,yaq,yar,yao,yap,go_sem,cQ]
  refine ⟨?_,?_,hcl2 _,rh S⟩
  ·simp [vj,cQ,wk,wk2,wkL,wk1,wkM]
  ·rw [← hpos]
   repeat first|exact .refl _|refine .push ?_ _
end Go.AL
