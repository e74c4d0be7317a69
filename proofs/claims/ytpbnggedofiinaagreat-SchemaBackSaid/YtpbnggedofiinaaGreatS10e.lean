/- Lemmas of the proof; no condition. -/
import Derived.Test.YtpbnggedofiinaaGreatS10c
set_option linter.all false
set_option maxRecDepth 10000
set_option maxHeartbeats 32000000
open List renaming length_cons → yaz, map_cons → yae, drop_succ_cons → yao, drop_zero → yap, getD_cons_zero → yau, length_nil → yba, take_succ_cons → yaq, take_zero → yar, length_map → ybb, map_nil → yaf, append_nil → yaj
open Go Go.AL Go.Proofs
namespace Go.AL
def rS:List AV→AHeap→(AEnd→AHeap→Prop)→Prop
 |[.ptr id 0,.slice .any 8 l],H,K=>∃ ts:List STable,(l=ts.map aH∧ts.length≤100∧∀ t∈ts,t.keys.length≤100)∧onC (H.get id) fun b v=>K (.ret (.slice .any 6 ((il b v ts).1.map bH))) (H.set id (fo b (il b v ts).2))
 |_,_,_=>False
def bfN (n:Nat) (f:Nat→Bool):List AV:=(List.range n).map fun i=>.bool (f i)
theorem za {n:Nat} {f:Nat→Bool}:(bfN n f).length=n:=by simp [bfN]
theorem yI {n:Nat} {f g:Nat→Bool} {i:Nat} {b:Bool} (h:∀ j,j<n→g j=if j=i then b else f j):(bfN n f).set i (.bool b)=bfN n g:=by
 apply List.ext_getElem
 ·simp [bfN]
 ·intro j h1 h2
  have hj:j<n:=by simpa [bfN] using h2
  rw [List.getElem_set]
  simp only [bfN,List.getElem_map,List.getElem_range,h j hj]
  by_cases e:i=j
  ·subst e;simp
  ·rw [if_neg e,if_neg (fun x=>e x.symm)]
theorem FQ {n:Nat}:(List.replicate n [AV.bool false]).flatten=bfN n fun _=>false:=by
 induction n with
 |zero=>rfl
 |succ n ih =>
  rw [List.replicate_succ,List.flatten_cons,ih]
  apply List.ext_getElem
  ·simp [bfN]
  ·intro j h1 h2
   cases j<;>simp [bfN]
theorem yX {n:Nat} {f:Nat→Bool}:bfN n f=boL ((List.range n).map f):=by simp [bfN,boL]
theorem zq {m n:Nat} {f:Nat→Bool}:ltL m (bfN n f)=True:=eq_true (ltL_iff.2 fun j hj=>by
 simp only [bfN,List.getElem_map]
 rw [AV.lt]<;>simp)
theorem nL:∀ (l:List Bool),bM 1 l.length (boL l)=boL l
 |[]=>rfl
 |x::l=>by
  rw [yaz,bM,if_pos rfl]
  have:=nL l
  simp only [boL,yae,yao,yap,yau,kX] at this ⊢
  rw [this]
theorem tO {α:Type} {n:Nat} {f:α→AV} {a c:List AV} {l:List α} (h:a++c=l.map f) (hf:∀ x,AV.lt n (f x)):ltL n a=True:=eq_true (ltL_iff.2 fun j hj=>by
 have:a[j]∈l.map f:=by rw [← h];exact List.mem_append_left _ (gMq hj)
 obtain ⟨x,_,e⟩:=List.mem_map.1 this
 rw [← e];exact hf x)
def uc (i j:Nat) (g:List AV):List AV:=[.int .i64 1,.str [97,108,108],.slice (.own i) 4 g,.slice (.own j) 1 [.int .i64 1,.int .i64 2,.int .i64 3,.int .i64 4,.int .i64 5,.int .i64 6],.int .i64 40,.bool true]
def ow (b:List UInt8) (v i j:Nat) (g:List AV):List AV:=[.int .i64 2,.str [115,111,109,101],.slice (.own i) 4 g,.slice (.own j) 1 [.int .i64 1,.int .i64 2,.int .i64 (3+ci b (cp v 0) 3)],.int .i64 (1+ci b (cp v 1) 6),.bool false]
def uB (b:List UInt8) (v i j:Nat) (g:List AV):List AV:=[.int .i64 7,.str [102,101,119],.slice (.own i) 4 g,.slice (.own j) 1 [.int .i64 (1+ci b (cp v 2) 6)],.int .i64 (ci b (cp v 3) 4),.bool false]
def iJ (H:AHeap) (id:Nat) (b:List UInt8) (v w:Nat) (a1 a2 a3:List AV):AHeap :=
 (((((((((((H.set id (fo b (cp w 0))).push (.buf 6 0)).push (.buf 1 6)).push (.buf 4 a1.length)).push (.cells (uc (H.nx+1+1) (H.nx+1) a1))).push (.buf 1 3)).push (.buf 4 a2.length)).push (.cells (ow b v (H.nx+1+1+1+1+1) (H.nx+1+1+1+1) a2))).push (.buf 1 1)).push (.buf 4 a3.length)).push (.cells (uB b v (H.nx+1+1+1+1+1+1+1+1) (H.nx+1+1+1+1+1+1+1) a3)))
structure RolI (b:List UInt8) (ts:List STable) (R:(List SGrant × List SGrant × List SGrant) × Nat) (k w:Nat) (a1 a2 a3:List AV):Prop where
 le:k≤ts.length
 l1:a1.length≤k
 l2:a2.length≤k
 l3:a3.length≤k
 e1:a1++(cL b (ts.drop k) w).1.1.map aN=R.1.1.map aN
 e2:a2++(cL b (ts.drop k) w).1.2.1.map aN=R.1.2.1.map aN
 e3:a3++(cL b (ts.drop k) w).1.2.2.map aN=R.1.2.2.map aN
 e4:(cL b (ts.drop k) w).2=R.2
theorem iQ {H:AHeap} {id:Nat} {b:List UInt8} {ts:List STable} {R:(List SGrant × List SGrant × List SGrant) × Nat} {v k w:Nat} {a1 a2 a3:List AV} (hcl:H.Closed) (h:RolI b ts R k w a1 a2 a3) (w':Nat):(iJ H id b v w' a1 a2 a3).Closed:=by
 have q1:=fun n=>tO (n:=n) h.e1 oS
 have q2:=fun n=>tO (n:=n) h.e2 oS
 have q3:=fun n=>tO (n:=n) h.e3 oS
 unfold iJ
 repeat' (first|exact cF hcl jY|refine aF ?_|refine aj ?_ ?_)
 all_goals simp [uc,ow,uB,aC,znu,znv,znf,znh,zng,zle,zlf,q1,q2,q3]
 all_goals omega
theorem zY:EntOk Tryz.prog 28 (Ent.effect rS):=by
 refine EntOk.effect fun args H K h=>?_
 unfold rS at h
 split at h
 rotate_left
 ·exact h.elim
 rename_i id l
 obtain ⟨ts,⟨rfl,hts,htk⟩,h⟩:=h
 obtain ⟨b,v,hg,hb,hv,hK⟩:=lQ h
 refine ⟨_,_,hK,?_⟩
 clear hK
 generalize hres:AV.slice .any 6 ((il b v ts).1.map bH)=res
 generalize hR:cL b ts (v+4)=R
 have hend:(il b v ts).2=R.2:=by rw [← hR];rfl
 rw [hend]
 refine ACalls.fW ag (tCq lm (tCq ll tNq)) Tryz.func28 [.tmp 4] (nrq _) (T:=af [(16,[[],[],[],[],[],[],[],[],[5],[],[],[3,5,8],[1,3,5,8],[],[1,3,5,8]]),(18,[[],[],[],[],[],[],[],[5],[],[],[3,5,7],[1,3,5,7],[],[1,3,5,7]]),(1,[[7]]),(2,[[25]]),(3,[[22]]),(14,[[1]]),(20,[[16]])]) (h:=fun hcl hlt=>?_)
 clear hlt
 have hid:=glq hg
 have hne:=pV hid
 have hgc:=ml (b:=b) hid
 have hcl2:∀ w,(H.set id (fo b w)).Closed:=fun w=>cF hcl jY
 have e2:(2:Int).toNat=2:=rfl
 have e3:(3:Int).toNat=3:=rfl
 have e4:(4:Int).toNat=4:=rfl
 have e6:(6:Int).toNat=6:=rfl
 have w1:∀ (u n:Nat) (k:Int),0<n→n≤100→0≤k→k≤100→IntKind.i64.wrap (k+((cv b u n:Nat):Int))=k+((cv b u n:Nat):Int):=fun u n k h1 h2 h3 h4=>by
  have:=eO (b:=b) (v:=u) (n:=n) h1
  rw [wrap_i64 (by omega) (by omega)]
 have a33:∀ u,IntKind.i64.wrap (3+((cv b u 3:Nat):Int))=3+((cv b u 3:Nat):Int):=fun u=>w1 u 3 3 (by decide) (by decide) (by decide) (by decide)
 have a16:∀ u,IntKind.i64.wrap (1+((cv b u 6:Nat):Int))=1+((cv b u 6:Nat):Int):=fun u=>w1 u 6 1 (by decide) (by decide) (by decide) (by decide)
 simp only [go_sem,bhq,Nat.reduceMod,Nat.reduceDiv,bh,bg,bm,cz,bk,cy,cr,cx,cu,yaq,yar,yao,yap,bR,bF,hg,hgc,bQ hb,cw,bv,cQ,hne,e2,e3,e4,e6,a33,a16]
 refine qZ 14 2 4 _ rfl rfl ?_
 simp only [go_sem,bhq,Nat.reduceMod,Nat.reduceDiv,bh,bg,bm,cz,bk,cy,cr,cx,cu,yaq,yar,yao,yap,bR,bF,hg,hgc,bQ hb,cw,bv,cQ,hne,e2,e3,e4,e6,a33,a16,List.set_cons_succ,List.set_cons_zero]
 (repeat with_reducible refine Yq ?_)
 refine qZ 22 2 4 _ rfl rfl ?_
 simp only [go_sem,bhq,Nat.reduceMod,Nat.reduceDiv,bh,bg,bm,cz,bk,cy,cr,cx,cu,yaq,yar,yao,yap,bR,bF,hg,hgc,bQ hb,cw,bv,cQ,hne,e2,e3,e4,e6,a33,a16,List.set_cons_succ,List.set_cons_zero]
 (repeat with_reducible refine Yq ?_)
 refine qZ 29 2 4 _ rfl rfl ?_
 simp only [go_sem,bhq,Nat.reduceMod,Nat.reduceDiv,bh,bg,bm,cz,bk,cy,cr,cx,cu,yaq,yar,yao,yap,bR,bF,hg,hgc,bQ hb,cw,bv,cQ,hne,e2,e3,e4,e6,a33,a16,List.set_cons_succ,List.set_cons_zero]
 refine aq (A:=Nat × Nat × List AV × List AV × List AV) (fun x=>[(0,.ptr id 0),(5,.ptr (H.nx+1+1+1) 0),(6,.ptr (H.nx+1+1+1+1+1+1) 0),(7,.ptr (H.nx+1+1+1+1+1+1+1+1+1) 0),(30,.slice .any 8 (ts.map aH)),(31,.int .i64 (ts.length:Int)),(32,.int .i64 (x.1:Int))]) (fun x=>iJ H id b v x.2.1 x.2.2.1 x.2.2.2.1 x.2.2.2.2) (fun x=>RolI b ts R x.1 x.2.1 x.2.2.1 x.2.2.2.1 x.2.2.2.2) (fun x=>ts.length - x.1) (0,v+4,[],[],[]) ⟨by omega,by simp,by simp,by simp,by rw [← hR];rfl,by rw [← hR];rfl,by rw [← hR];rfl,by rw [← hR];rfl⟩ ?_ fun x hx=>?_
 ·refine ⟨by simp only [iJ,zle,zlf,zkq,zkv];omega,lRq _,iQ (ts:=ts) (R:=R) (k:=0) (w:=v+4) hcl ⟨by omega,by simp,by simp,by simp,by rw [← hR];rfl,by rw [← hR];rfl,by rw [← hR];rfl,by rw [← hR];rfl⟩ _,?_,?_⟩
  ·simp [ltF,iJ,znn,znf,zle,zlf,aA fT]
   omega
  ·simp [aM,wk2,wk1,wkM,Fr.get]
 obtain ⟨k,w,a1,a2,a3⟩:=x
 dsimp only at hx ⊢
 have hclo:=fun w'=>iQ (id:=id) (v:=v) hcl hx w'
 obtain ⟨hk,l1,l2,l3,i1,i2,i3,i4⟩:=hx
 simp only [go_sem]
 refine ae (fun hc=>?_) (fun hc=>?_)
 ·have hk':k<ts.length:=by simp at hc;omega
  obtain ⟨t,ht⟩:∃ t,t=ts[k]:=⟨_,rfl⟩
  have hd:ts.drop k=t::ts.drop (k+1):=by rw [ht];exact dcq hk'
  have hkl:t.keys.length≤100:=htk t (by rw [ht];exact gMq hk')
  have htg:(ts.map aH).getD k .junk=.agg [.int .i64 t.id,.str t.name,.slice .any 3 (t.keys.map cH),.slice .any 1 (inL t.actions),.int .i64 t.dflt,.slice .any 2 (t.dargs.map vv),.int .i64 t.size,.str t.restr]:=by
   rw [gEq,List.getElem?_map,gQq hk',← ht];rfl
  have hT:∀ n,ltL n ([.int .i64 t.id,.str t.name,.slice .any 3 (t.keys.map cH),.slice .any 1 (inL t.actions),.int .i64 t.dflt,.slice .any 2 (t.dargs.map vv),.int .i64 t.size,.str t.restr]:List AV):=fun n=>ltL_iff.2 fun j hj=>AV.lt_cells (fT t) j hj
  have hclT:∀ w',((iJ H id b v w' a1 a2 a3).push (.cells [.int .i64 t.id,.str t.name,.slice .any 3 (t.keys.map cH),.slice .any 1 (inL t.actions),.int .i64 t.dflt,.slice .any 2 (t.dargs.map vv),.int .i64 t.size,.str t.restr])).Closed:=fun w'=>aj (hclo w') (hT _)
  have hclo2:∀ w' f g,((((iJ H id b v w' a1 a2 a3).push (.cells [.int .i64 t.id,.str t.name,.slice .any 3 (t.keys.map cH),.slice .any 1 (inL t.actions),.int .i64 t.dflt,.slice .any 2 (t.dargs.map vv),.int .i64 t.size,.str t.restr])).push (.cells (bfN t.keys.length f))).push (.cells (bfN t.keys.length g))).Closed:=fun w' f g =>
   aj (aj (hclT w') (by simp [zq])) (by simp [zq])
  have hrn:∀ w',(iJ H id b v w' a1 a2 a3).nx=(H.nx+1+1+1+1+1+1+1+1+1+1):=fun _=>rfl
  simp only [go_sem,iJ,uc,ow,uB,htg,iNq,ybb,FQ,za]
  (repeat with_reducible refine Yq ?_)
  refine aq (A:=Nat) (fun j=>[(0,.ptr id 0),(5,.ptr (H.nx+1+1+1) 0),(6,.ptr (H.nx+1+1+1+1+1+1) 0),(7,.ptr (H.nx+1+1+1+1+1+1+1+1+1) 0),(9,.ptr (H.nx+1+1+1+1+1+1+1+1+1+1) 0),(10,.ms (H.nx+1+1+1+1+1+1+1+1+1+1+1) 0 1 t.keys.length),(11,.ms (H.nx+1+1+1+1+1+1+1+1+1+1+1+1) 0 1 t.keys.length),(30,.slice .any 8 (ts.map aH)),(31,.int .i64 (ts.length:Int)),(32,.int .i64 (k:Int)),(45,.int .i64 (t.keys.length:Int)),(46,.int .i64 (j:Int))]) (fun j=>(((iJ H id b v (w+j) a1 a2 a3).push (.cells [.int .i64 t.id,.str t.name,.slice .any 3 (t.keys.map cH),.slice .any 1 (inL t.actions),.int .i64 t.dflt,.slice .any 2 (t.dargs.map vv),.int .i64 t.size,.str t.restr])).push (.cells (bfN t.keys.length fun i=>decide (i<j)))).push (.cells (bfN t.keys.length fun i=>decide (i<j)&&decide (ci b (w+i) 4 > 0)))) (fun j=>j≤t.keys.length) (fun j=>t.keys.length - j) 0 (by omega) ?_ fun j hj=>?_
  ·simp only [Nat.not_lt_zero,decide_false,Bool.false_and]
   refine ⟨by simp only [zle,hrn,zkq,zkv];omega,lRq _,hclo2 _ _ _,?_,?_⟩
   ·simp [ltF,hrn,znn,znp,znf,zle,zlf,aA fT]
    omega
   ·simp [aM,wk2,wk1,wkM,Fr.get]
  simp only [go_sem]
  refine ae (fun hc2=>?_) (fun hc2=>?_)
  ·have hj':j<t.keys.length:=by simp at hc2;omega
   have e5:IntKind.i64.wrap ((j:Int)+1)=((j+1:Nat):Int):=by rw [wrap_i64]<;>omega
   have hs1:(bfN t.keys.length fun i=>decide (i<j)).set j (.bool true)=bfN t.keys.length fun i=>decide (i<j+1):=yI fun i hi=>by
    by_cases e:i=j
    ·subst e;simp
    ·rw [if_neg e,decide_eq_decide];omega
   have hs2:(bfN t.keys.length fun i=>decide (i<j)&&decide (ci b (w+i) 4 > 0)).set j (.bool (decide (ci b (cp (w+j) 0) 4 > 0)))=bfN t.keys.length fun i=>decide (i<j+1)&&decide (ci b (w+i) 4 > 0):=yI fun i hi=>by
    by_cases e:i=j
    ·subst e;simp [cp]
    ·rw [if_neg e];congr 1;rw [decide_eq_decide];omega
   simp only [dt,du,bhq,Nat.reduceMod,Nat.reduceDiv,bh,bg,bm,cz,bk,cy,cr,cx,cu,yaq,yar,yao,yap,go_sem,bR,bF,hgc,bQ hb,cw,bv,cQ,hne,e4,iJ,uc,ow,uB,lAq,ybb,iNq,za,nK,nzq,Nat.mul_one,hs1,hs2,e5]
   (repeat with_reducible refine Yq ?_)
   refine ⟨j+1,by omega,by omega,by simp only [zle,hrn,zlf,zkq,zkv];omega,lRq _,hclo2 _ _ _,?_,?_⟩
   ·simp [ltF,hrn,znn,znp,znf,zle,zlf,aA fT]
    omega
   ·simp [aM,wk2,wk1,wkM,Fr.get]
  have hj':j=t.keys.length:=by simp at hc2;omega
  subst hj'
  have y1:(bfN t.keys.length fun i=>decide (i<t.keys.length))=boL (List.replicate t.keys.length true):=by
   rw [yX];congr 1
   apply List.ext_getElem
   ·simp
   ·intro i h1 h2;simp at h1 ⊢;exact h1
  have y2:(bfN t.keys.length fun i=>decide (i<t.keys.length)&&decide (ci b (w+i) 4 > 0))=boL (jk b w t.keys.length):=by
   rw [yX];congr 1
   unfold jk
   refine List.map_congr_left fun i hi=>?_
   have:=List.mem_range.1 hi
   simp [this]
  rw [y1,y2]
  simp only [dt,du,bhq,Nat.reduceMod,Nat.reduceDiv,bh,bg,bm,cz,bk,cy,cr,cx,cu,yaq,yar,yao,yap,go_sem,bR,bF,hgc,bQ hb,cw,bv,cQ,hne,e4,iJ,uc,ow,uB,lAq,ybb]
  refine s6 [(0,.ptr id 0),(5,.ptr (H.nx+1+1+1) 0),(6,.ptr (H.nx+1+1+1+1+1+1) 0),(7,.ptr (H.nx+1+1+1+1+1+1+1+1+1) 0),(9,.ptr (H.nx+1+1+1+1+1+1+1+1+1+1) 0),(10,.slice .any 1 (boL (List.replicate t.keys.length true))),(11,.slice .any 1 (boL (jk b w t.keys.length))),(30,.slice .any 8 (ts.map aH)),(31,.int .i64 (ts.length:Int)),(32,.int .i64 (k:Int))] ((iJ H id b v (w+t.keys.length) a1 a2 a3).push (.cells [.int .i64 t.id,.str t.name,.slice .any 3 (t.keys.map cH),.slice .any 1 (inL t.actions),.int .i64 t.dflt,.slice .any 2 (t.dargs.map vv),.int .i64 t.size,.str t.restr])) ⟨by simp only [zle,hrn,zkq,zkv,oU];omega,((lRq _).push _).push _,hclT _,?_,?_⟩ ?_
  ·simp [ltF,hrn,znn,znp,znf,zle,zlf,aA fT,CB]
   omega
  ·have yr1:bM 1 t.keys.length (boL (List.replicate t.keys.length true))=boL (List.replicate t.keys.length true):=by
    have:=nL (List.replicate t.keys.length true)
    rw [List.length_replicate] at this;exact this
   have yr2:bM 1 t.keys.length (boL (jk b w t.keys.length))=boL (jk b w t.keys.length):=by
    have:=nL (jk b w t.keys.length)
    rw [show (jk b w t.keys.length).length=t.keys.length by simp [jk]] at this;exact this
   have hn1:∀ w' o,((iJ H id b v w' a1 a2 a3).push o).get (H.nx+1+1+1+1+1+1+1+1+1+1+1)=none:=fun w' o=>zmv (by rw [zle,hrn];omega)
   have hn2:∀ w' o,((iJ H id b v w' a1 a2 a3).push o).get (H.nx+1+1+1+1+1+1+1+1+1+1+1+1)=none:=fun w' o=>zmv (by rw [zle,hrn];omega)
   simp only [aM,wk2,wk1,wkM,go_sem,yap,yr1,yr2,hn1,hn2,true_or,or_true,and_self]
  simp only [dt,du,bhq,Nat.reduceMod,Nat.reduceDiv,bh,bg,bm,cz,bk,cy,cr,cx,cu,yaq,yar,yao,yap,go_sem,bR,bF,hgc,bQ hb,cw,bv,cQ,hne,e4,iJ,uc,ow,uB,ybb]
  (repeat with_reducible refine Yq ?_)
  have e5:=Yk5 k
  refine ae (fun h1=>?_) (fun h1=>?_)
  all_goals
   try simp only [dt,du,bhq,Nat.reduceMod,Nat.reduceDiv,bh,bg,bm,cz,bk,cy,cr,cx,cu,yaq,yar,yao,yap,go_sem,bR,bF,hgc,bQ hb,cw,bv,cQ,hne,e4,iJ,uc,ow,uB,ybb]
   try (repeat with_reducible refine Yq ?_)
   refine ae (fun h2=>?_) (fun h2=>?_)
  all_goals
   try simp only [dt,du,bhq,Nat.reduceMod,Nat.reduceDiv,bh,bg,bm,cz,bk,cy,cr,cx,cu,yaq,yar,yao,yap,go_sem,bR,bF,hgc,bQ hb,cw,bv,cQ,hne,e4,iJ,uc,ow,uB,ybb,e5]
   try (repeat with_reducible refine Yq ?_)
  ·have hp1:(0<cv b (w+t.keys.length) 4)=True:=eq_true (by have h:=of_decide_eq_true h1;simp only [cp,Nat.add_zero] at h;omega)
   have hp2:(cv b (w+(t.keys.length+3)) 2=1)=True:=eq_true (by have h:=of_decide_eq_true h2;unfold cp at h;rw [Nat.add_assoc] at h;exact h)
   rw [hd] at i1 i2 i3 i4
   simp only [cL,hp1,hp2,if_true,if_false,Nat.add_assoc,Nat.reduceAdd] at i1 i2 i3 i4
   have hI:RolI b ts R (k+1) (w+(t.keys.length+6)) (a1++[.agg [.int .i64 t.id,.bool true,.bool true,.slice .any 1 (boL (List.replicate t.keys.length true))]]) (a2++[.agg [.int .i64 t.id,.bool (decide (0<ci b (w+t.keys.length+1) 4)),.bool (decide (cv b (w+t.keys.length+2) 2=1)),.slice .any 1 (boL (jk b w t.keys.length))]]) (a3++[.agg [.int .i64 t.id,.bool (decide (cv b (w+t.keys.length+4) 2=1)),.bool (decide (cv b (w+t.keys.length+5) 2=1)),.slice .any 1 (boL (List.replicate t.keys.length true))]]):=by
    refine ⟨by omega,by (try simp only [lAq,yaz,yba]);omega,by (try simp only [lAq,yaz,yba]);omega,by (try simp only [lAq,yaz,yba]);omega,?_,?_,?_,i4⟩
    ·simpa [aN,Nat.add_assoc] using i1
    ·simpa [aN,Nat.add_assoc] using i2
    ·simpa [aN,Nat.add_assoc] using i3
   refine ⟨(_,_,_,_,_),hI,by dsimp only;omega,by simp only [iJ,zle,zlf];omega,?_,iQ hcl hI _,?_,?_⟩
   ·simp only [iJ,lAq,yaz,yba]
    repeat first|exact .refl _|refine .push ?_ _
   ·simp [ltF,iJ,znn,znf,zle,zlf,aA fT]
    omega
   ·simp [aM,wk2,wk1,wkM,Fr.get]
  ·have hp1:(0<cv b (w+t.keys.length) 4)=True:=eq_true (by have h:=of_decide_eq_true h1;simp only [cp,Nat.add_zero] at h;omega)
   have hp2:(cv b (w+(t.keys.length+3)) 2=1)=False:=eq_false (by have h:=of_decide_eq_false h2;unfold cp at h;rw [Nat.add_assoc] at h;exact h)
   rw [hd] at i1 i2 i3 i4
   simp only [cL,hp1,hp2,if_true,if_false,Nat.add_assoc,Nat.reduceAdd] at i1 i2 i3 i4
   have hI:RolI b ts R (k+1) (w+(t.keys.length+4)) (a1++[.agg [.int .i64 t.id,.bool true,.bool true,.slice .any 1 (boL (List.replicate t.keys.length true))]]) (a2++[.agg [.int .i64 t.id,.bool (decide (0<ci b (w+t.keys.length+1) 4)),.bool (decide (cv b (w+t.keys.length+2) 2=1)),.slice .any 1 (boL (jk b w t.keys.length))]]) (a3):=by
    refine ⟨by omega,by (try simp only [lAq,yaz,yba]);omega,by (try simp only [lAq,yaz,yba]);omega,by (try simp only [lAq,yaz,yba]);omega,?_,?_,?_,i4⟩
    ·simpa [aN,Nat.add_assoc] using i1
    ·simpa [aN,Nat.add_assoc] using i2
    ·simpa [aN,Nat.add_assoc] using i3
   refine ⟨(_,_,_,_,_),hI,by dsimp only;omega,by simp only [iJ,zle,zlf];omega,?_,iQ hcl hI _,?_,?_⟩
   ·simp only [iJ,lAq,yaz,yba]
    repeat first|exact .refl _|refine .push ?_ _
   ·simp [ltF,iJ,znn,znf,zle,zlf,aA fT]
    omega
   ·simp [aM,wk2,wk1,wkM,Fr.get]
  ·have hp1:(0<cv b (w+t.keys.length) 4)=False:=eq_false (by have h:=of_decide_eq_false h1;simp only [cp,Nat.add_zero] at h;omega)
   have hp2:(cv b (w+(t.keys.length+1)) 2=1)=True:=eq_true (by have h:=of_decide_eq_true h2;unfold cp at h;rw [Nat.add_assoc] at h;exact h)
   rw [hd] at i1 i2 i3 i4
   simp only [cL,hp1,hp2,if_true,if_false,Nat.add_assoc,Nat.reduceAdd] at i1 i2 i3 i4
   have hI:RolI b ts R (k+1) (w+(t.keys.length+4)) (a1++[.agg [.int .i64 t.id,.bool true,.bool true,.slice .any 1 (boL (List.replicate t.keys.length true))]]) (a2) (a3++[.agg [.int .i64 t.id,.bool (decide (cv b (w+t.keys.length+2) 2=1)),.bool (decide (cv b (w+t.keys.length+3) 2=1)),.slice .any 1 (boL (List.replicate t.keys.length true))]]):=by
    refine ⟨by omega,by (try simp only [lAq,yaz,yba]);omega,by (try simp only [lAq,yaz,yba]);omega,by (try simp only [lAq,yaz,yba]);omega,?_,?_,?_,i4⟩
    ·simpa [aN,Nat.add_assoc] using i1
    ·simpa [aN,Nat.add_assoc] using i2
    ·simpa [aN,Nat.add_assoc] using i3
   refine ⟨(_,_,_,_,_),hI,by dsimp only;omega,by simp only [iJ,zle,zlf];omega,?_,iQ hcl hI _,?_,?_⟩
   ·simp only [iJ,lAq,yaz,yba]
    repeat first|exact .refl _|refine .push ?_ _
   ·simp [ltF,iJ,znn,znf,zle,zlf,aA fT]
    omega
   ·simp [aM,wk2,wk1,wkM,Fr.get]
  ·have hp1:(0<cv b (w+t.keys.length) 4)=False:=eq_false (by have h:=of_decide_eq_false h1;simp only [cp,Nat.add_zero] at h;omega)
   have hp2:(cv b (w+(t.keys.length+1)) 2=1)=False:=eq_false (by have h:=of_decide_eq_false h2;unfold cp at h;rw [Nat.add_assoc] at h;exact h)
   rw [hd] at i1 i2 i3 i4
   simp only [cL,hp1,hp2,if_true,if_false,Nat.add_assoc,Nat.reduceAdd] at i1 i2 i3 i4
   have hI:RolI b ts R (k+1) (w+(t.keys.length+2)) (a1++[.agg [.int .i64 t.id,.bool true,.bool true,.slice .any 1 (boL (List.replicate t.keys.length true))]]) (a2) (a3):=by
    refine ⟨by omega,by (try simp only [lAq,yaz,yba]);omega,by (try simp only [lAq,yaz,yba]);omega,by (try simp only [lAq,yaz,yba]);omega,?_,?_,?_,i4⟩
    ·simpa [aN,Nat.add_assoc] using i1
    ·simpa [aN,Nat.add_assoc] using i2
    ·simpa [aN,Nat.add_assoc] using i3
   refine ⟨(_,_,_,_,_),hI,by dsimp only;omega,by simp only [iJ,zle,zlf];omega,?_,iQ hcl hI _,?_,?_⟩
   ·simp only [iJ,lAq,yaz,yba]
    repeat first|exact .refl _|refine .push ?_ _
   ·simp [ltF,iJ,znn,znf,zle,zlf,aA fT]
    omega
   ·simp [aM,wk2,wk1,wkM,Fr.get]
 ·have hk':k=ts.length:=by simp at hc;omega
  subst hk'
  simp only [bhq,Nat.reduceMod,Nat.reduceDiv,bh,bg,bm,cz,bk,cy,cr,cx,cu,yaq,yar,yao,yap,go_sem,iJ,uc,ow,uB]
  (repeat with_reducible refine Yq ?_)
  simp only [List.drop_length,cL,yaf,yaj] at i1 i2 i3 i4
  subst i4
  refine iP 4 res ?_ ?_
  ·rw [← hres]
   simp only [il,hR]
   simp [Fr.get,bH,inL,i1,i2,i3,cp,AV.cells,jF,fJ,fH,gM,gu,iu,ka,jX,jH,wkM,s5]
  simp only [bhq,Nat.reduceMod,Nat.reduceDiv,bh,bg,bm,cz,bk,cy,cr,cx,cu,yaq,yar,yao,yap,go_sem]
  subst hres
  refine ⟨?_,?_,hcl2 _,aA yz⟩
  ·simp [wk,wk2,wk1,wkM]
  ·repeat first|exact .refl _|refine .push ?_ _
def sb (g:List UInt8→Nat→AV × Nat):Prop:=∀ b v,(g b (min v b.length)).1=(g b v).1∧∃ c,(g b (min v b.length)).2=min v b.length+c∧(g b v).2=v+c
def onS (o:Option AObj) (g:List UInt8→Nat→AV × Nat) (K:AV→AObj→Prop):Prop:=onC o fun b v=>K (g b v).1 (fo b (g b v).2)
@[congr] theorem HF {o o':Option AObj} {g:List UInt8→Nat→AV × Nat} {K:AV→AObj→Prop} (h:o=o'):onS o g K=onS o' g K:=by rw [h]
theorem dH {b:List UInt8} {v:Nat} {g:List UInt8→Nat→AV × Nat} {K:AV→AObj→Prop} (hb:b.length≤1000000) (hg:sb g):onS (some (fo b v)) g K=K (g b v).1 (fo b (g b v).2):=by
 unfold onS
 rw [bQ hb]
 obtain ⟨h1,c,h2,h3⟩:=hg b v
 rw [h1,h2,h3,bv]
theorem pi {g:List UInt8→Nat→AV × Nat} {id:Nat} {H:AHeap} {K:AEnd→AHeap→Prop}:eG g [.ptr id 0] H K=onS (H.get id) g fun x o=>K (.ret x) (H.set id o):=(rfl)
def mH:List UInt8→Nat→AV × Nat:=fun b v=>(.slice .any 5 ((bz b v).1.map a0),(bz b v).2)
def ly:List UInt8→Nat→AV × Nat:=fun b v=>(.slice .any 5 ((cU b v).map aI),v+4)
def mw:List UInt8→Nat→AV × Nat:=fun b v=>(.slice .any 8 ((bZ b v).map aH),v+12)
def oH (ts:List STable):List UInt8→Nat→AV × Nat:=fun b v=>(.slice .any 6 ((il b v ts).1.map bH),(il b v ts).2)
theorem kj:sb mH:=fun b v=>by
 have e:bz b (min v b.length)=((bz b v).1,(bz b v).2 - v+min v b.length):=by
  unfold bz
  simp only [jt,cw]
  repeat' split
  all_goals (refine Prod.ext rfl ?_;dsimp only;omega)
 have h:∃ c,(bz b v).2=v+c:=by
  unfold bz
  repeat' split
  all_goals exact ⟨_,rfl⟩
 obtain ⟨c,hc⟩:=h
 unfold mH
 dsimp only
 rw [e]
 exact ⟨rfl,c,by dsimp only;omega,hc⟩
theorem js:sb ly:=fun b v=>by
 have e:cU b (min v b.length)=cU b v:=by unfold cU ci;simp only [jt,cw]
 unfold ly
 dsimp only
 rw [e]
 exact ⟨rfl,4,rfl,rfl⟩
theorem kh:sb mw:=fun b v=>by
 have e:bZ b (min v b.length)=bZ b v:=by unfold bZ eK er cC cB ci;simp only [jt,cw]
 unfold mw
 dsimp only
 rw [e]
 exact ⟨rfl,12,rfl,rfl⟩
theorem nb {b:List UInt8} {v k n:Nat}:jk b (min v b.length+k) n=jk b (v+k) n:=by
 unfold jk
 refine List.map_congr_left fun i _=>?_
 rw [Nat.add_assoc,Nat.add_assoc]
 unfold ci
 rw [jt]
theorem jN {b:List UInt8} {v:Nat}:∀ (ts:List STable) (k:Nat),(cL b ts (min v b.length+k)).1=(cL b ts (v+k)).1∧∃ c,(cL b ts (min v b.length+k)).2=min v b.length+c∧(cL b ts (v+k)).2=v+c
 |[],k=>⟨rfl,k,rfl,rfl⟩
 |t::ts,k=>by
  have hb:∀ j n,cv b (min v b.length+j) n=cv b (v+j) n:=fun j n=>jt
  by_cases h1:0<cv b (v+(k+t.keys.length)) 4
  ·by_cases h2:cv b (v+(k+t.keys.length+3)) 2=1
   ·obtain ⟨i1,c,i2,i3⟩:=jN ts (k+t.keys.length+3+3)
    simp only [Nat.add_assoc,Nat.reduceAdd] at i1 i2 i3 h1 h2
    simp only [cL,Nat.add_assoc,Nat.reduceAdd,hb,ci,h1,h2,if_true,nb]
    rw [i1]
    exact ⟨rfl,c,i2,i3⟩
   ·obtain ⟨i1,c,i2,i3⟩:=jN ts (k+t.keys.length+3+1)
    simp only [Nat.add_assoc,Nat.reduceAdd] at i1 i2 i3 h1 h2
    simp only [cL,Nat.add_assoc,Nat.reduceAdd,hb,ci,h1,h2,if_true,if_false,nb]
    rw [i1]
    exact ⟨rfl,c,i2,i3⟩
  ·by_cases h2:cv b (v+(k+t.keys.length+1)) 2=1
   ·obtain ⟨i1,c,i2,i3⟩:=jN ts (k+t.keys.length+1+3)
    simp only [Nat.add_assoc,Nat.reduceAdd] at i1 i2 i3 h1 h2
    simp only [cL,Nat.add_assoc,Nat.reduceAdd,hb,ci,h1,h2,if_true,if_false,nb]
    rw [i1]
    exact ⟨rfl,c,i2,i3⟩
   ·obtain ⟨i1,c,i2,i3⟩:=jN ts (k+t.keys.length+1+1)
    simp only [Nat.add_assoc,Nat.reduceAdd] at i1 i2 i3 h1 h2
    simp only [cL,Nat.add_assoc,Nat.reduceAdd,hb,ci,h1,h2,if_true,if_false,nb]
    rw [i1]
    exact ⟨rfl,c,i2,i3⟩
theorem mt (ts:List STable):sb (oH ts):=fun b v=>by
 obtain ⟨i1,c,i2,i3⟩:=jN (b:=b) (v:=v) ts 4
 unfold oH il
 dsimp only
 rw [i1]
 unfold ci
 simp only [jt,cw]
 exact ⟨trivial,c,i2,i3⟩
theorem Ad {b:List UInt8} {v:Nat}:(mH b v).1=.slice .any 5 ((bz b v).1.map a0):=(rfl)
theorem A9 {b:List UInt8} {v:Nat}:(mH b v).2=(bz b v).2:=(rfl)
theorem AO {b:List UInt8} {v:Nat}:(ly b v).1=.slice .any 5 ((cU b v).map aI):=(rfl)
theorem Ai {b:List UInt8} {v:Nat}:(ly b v).2=cp v 4:=(rfl)
theorem Bk {b:List UInt8} {v:Nat}:(mw b v).1=.slice .any 8 ((bZ b v).map aH):=(rfl)
theorem z0 {b:List UInt8} {v:Nat}:(mw b v).2=cp v 12:=(rfl)
theorem DL {b:List UInt8} {v:Nat} {ts:List STable}:(oH ts b v).1=.slice .any 6 ((il b v ts).1.map bH):=(rfl)
theorem Cr {b:List UInt8} {v:Nat} {ts:List STable}:(oH ts b v).2=cp (il b v ts).2 0:=(rfl)
theorem sT {v k n:Nat}:cp (cp v k) n=cp v (k+n):=by unfold cp;omega
theorem tg2 {b:List UInt8} {w:Nat}:(List.map aH (bZ b w)).getD 2 .junk=.agg [.int .i64 (cC b w).id,.str (cC b w).name,.slice .any 3 ((cC b w).keys.map cH),.slice .any 1 (inL (cC b w).actions),.int .i64 (cC b w).dflt,.slice .any 2 ((cC b w).dargs.map vv),.int .i64 (cC b w).size,.str (cC b w).restr]:=(rfl)
theorem tg3 {b:List UInt8} {w:Nat}:(List.map aH (bZ b w)).getD 3 .junk=.agg [.int .i64 (cB b w).id,.str (cB b w).name,.slice .any 3 ((cB b w).keys.map cH),.slice .any 1 (inL (cB b w).actions),.int .i64 (cB b w).dflt,.slice .any 2 ((cB b w).dargs.map vv),.int .i64 (cB b w).size,.str (cB b w).restr]:=(rfl)
theorem tgl {b:List UInt8} {w:Nat}:(bZ b w).length=4:=(rfl)
theorem k2l {b:List UInt8} {w:Nat}:(((cC b w).keys.length:Int)==3)=decide (cv b (cp w 5) 2=1):=by
 by_cases h:cv b (w+5) 2=1<;>simp [cC,cp,h]
theorem k3l {b:List UInt8} {w:Nat}:(((cB b w).keys.length:Int)==3)=decide (cv b (cp w 7) 2=1):=by
 by_cases h:cv b (w+7) 2=1<;>simp [cB,cp,h]
def FF (p:Prop):Bool→Prop|true=>p|false=>¬ p
theorem pr {p:Prop} [Decidable p] {t:Bool} (h:decide p=t):FF p t:=by
 cases t
 ·exact (of_decide_eq_false h:¬ p)
 ·exact (of_decide_eq_true h:p)
theorem Cf {id:Nat} {ts:List STable} {H:AHeap} {K:AEnd→AHeap→Prop} (h1:ts.length≤100) (h2:∀ t∈ts,t.keys.length≤100) (h:onS (H.get id) (oH ts) fun x o=>K (.ret x) (H.set id o)) :
 rS [.ptr id 0,.slice .any 8 (ts.map aH)] H K:=⟨ts,⟨rfl,h1,h2⟩,h⟩
def pI:=eG fun b v=>(fL (gU b v).1,(gU b v).2)
theorem wF:EntOk Tryz.prog 6 (Ent.effect pI):=by
 unfold pI
 refine EntOk.effect fun args H K h=>?_
 unfold eG at h
 split at h
 rotate_left
 ·exact h.elim
 rename_i id
 obtain ⟨b,v,hg,hb,hv,hK⟩:=lQ h
 refine ⟨_,_,hK,?_⟩
 clear hK
 dsimp only
 generalize hS:(gU b v).1=S
 generalize hpos:(gU b v).2=pos
 refine ACalls.fW ag (tCq lm (tCq ll (tCq wM (tCq wh (tCq yk (tCq zY tNq)))))) Tryz.func6 [.cell 2 32] (nrq _) (T:=af [(15,[[4]])]) (h:=fun hcl hlt=>?_)
 clear hlt
 have hid:=glq hg
 have hne:=pV hid
 have hne2:=pV (show id<H.nx+1+1+1+1+1+1+1+1+1+1+1+1+1+1+1+1 by omega)
 have hgc:=ml (b:=b) hid
 have hcl2:∀ w,(H.set id (fo b w)).Closed:=fun w=>cF hcl jY
 have e8:(8:Int).toNat=8:=rfl
 have e30:(30:Int).toNat=30:=rfl
 have w1:∀ (u n:Nat) (k:Int),0<n→n≤100→0≤k→k≤100→IntKind.i64.wrap (k+((cv b u n:Nat):Int))=k+((cv b u n:Nat):Int):=fun u n k h1 h2 h3 h4=>by
  have:=eO (b:=b) (v:=u) (n:=n) h1
  rw [wrap_i64 (by omega) (by omega)]
 have a28:∀ u,IntKind.i64.wrap (2+((cv b u 8:Nat):Int))=2+((cv b u 8:Nat):Int):=fun u=>w1 u 8 2 (by decide) (by decide) (by decide) (by decide)
 have a30:∀ u,IntKind.i64.wrap (12+((cv b u 30:Nat):Int))=12+((cv b u 30:Nat):Int):=fun u=>w1 u 30 12 (by decide) (by decide) (by decide) (by decide)
 have es1:pB=eG mH:=rfl
 have es2:nB=eG ly:=rfl
 have es3:pF=eG mw:=rfl
 simp only [go_sem,bhq,Nat.reduceMod,Nat.reduceDiv,bh,bg,bm,cz,bk,cy,cr,cx,cu,yaq,yar,yao,yap,bR,bF,es1,es2,es3,pi,dH hb kj,dH hb js,dH hb kh,Ad,A9,AO,Ai,Bk,z0,sT,hg,hgc,bQ hb,cw,bv,cQ,hne,hne2,e8,e30,a28,a30]
 (repeat with_reducible refine Yq ?_)
 refine Cf (by simp [bZ]) (fun t ht=>?_) ?_
 ·simp only [bZ,List.mem_cons,List.not_mem_nil,or_false] at ht
  rcases ht with rfl|rfl|rfl|rfl<;>simp only [eK,er,cC,cB]<;>(try split)<;>simp
 simp only [dt,du,go_sem,bhq,Nat.reduceMod,Nat.reduceDiv,bh,bg,bm,cz,bk,cy,cr,cx,cu,yaq,yar,yao,yap,bR,bF,es1,es2,es3,pi,dH hb kj,dH hb js,dH hb kh,Ad,A9,AO,Ai,Bk,z0,sT,hg,hgc,bQ hb,cw,bv,cQ,hne,hne2,e8,e30,a28,a30,dH hb (mt _),DL,Cr,iNq]
 refine ae (fun h1=>?_) (fun h1=>?_)
 all_goals
  simp only [dt,du,go_sem,bhq,Nat.reduceMod,Nat.reduceDiv,bh,bg,bm,cz,bk,cy,cr,cx,cu,yaq,yar,yao,yap,bR,bF,es1,es2,es3,pi,dH hb kj,dH hb js,dH hb kh,Ad,A9,AO,Ai,Bk,z0,sT,hg,hgc,bQ hb,cw,bv,cQ,hne,hne2,e8,e30,a28,a30,dH hb (mt _),DL,Cr,iNq,tg2,tg3,tgl,k2l,k3l]
  try (repeat with_reducible refine Yq ?_)
  refine ae (fun h2=>?_) (fun h2=>?_)
 all_goals
  simp only [dt,du,go_sem,bhq,Nat.reduceMod,Nat.reduceDiv,bh,bg,bm,cz,bk,cy,cr,cx,cu,yaq,yar,yao,yap,bR,bF,es1,es2,es3,pi,dH hb kj,dH hb js,dH hb kh,Ad,A9,AO,Ai,Bk,z0,sT,hg,hgc,bQ hb,cw,bv,cQ,hne,hne2,e8,e30,a28,a30,dH hb (mt _),DL,Cr,iNq,tg2,tg3,tgl,k2l,k3l]
  try (repeat with_reducible refine Yq ?_)
  refine bK (fun h3=>?_) (fun h3=>?_)
 all_goals
  try (repeat with_reducible refine Yq ?_)
  try refine ae (fun h4=>?_) (fun h4=>?_)
 all_goals
  try simp only [dt,du,go_sem,bhq,Nat.reduceMod,Nat.reduceDiv,bh,bg,bm,cz,bk,cy,cr,cx,cu,yaq,yar,yao,yap,bR,bF,es1,es2,es3,pi,dH hb kj,dH hb js,dH hb kh,Ad,A9,AO,Ai,Bk,z0,sT,hg,hgc,bQ hb,cw,bv,cQ,hne,hne2,e8,e30,a28,a30,dH hb (mt _),DL,Cr,iNq,tg2,tg3,tgl,k2l,k3l]
  try (repeat with_reducible refine Yq ?_)
  refine bK (fun h5=>?_) (fun h5=>?_)
 all_goals
  try (repeat with_reducible refine Yq ?_)
  try refine ae (fun h6=>?_) (fun h6=>?_)
 all_goals
  try simp only [dt,du,go_sem,bhq,Nat.reduceMod,Nat.reduceDiv,bh,bg,bm,cz,bk,cy,cr,cx,cu,yaq,yar,yao,yap,bR,bF,es1,es2,es3,pi,dH hb kj,dH hb js,dH hb kh,Ad,A9,AO,Ai,Bk,z0,sT,hg,hgc,bQ hb,cw,bv,cQ,hne,hne2,e8,e30,a28,a30,dH hb (mt _),DL,Cr,iNq,tg2,tg3,tgl,k2l,k3l]
  try (repeat with_reducible refine Yq ?_)
  replace h1:=pr h1
  replace h2:=pr h2
  replace h3:=pr h3
  replace h5:=pr h5
  try replace h4:=pr h4
  try replace h6:=pr h6
  refine iP 101 (.agg (a9 S)) ?_ ?_
  ·rw [← hS]
   simp only [FF] at h1 h2 h3 h5
   try simp only [FF] at h4
   try simp only [FF] at h6
   simp [*,Fr.get,a9,gU,gFields,gHeaders,br,bc,bx,cP,inL,AV.cells,jF,fJ,fH,gM,gu,iu,ka,jX,jH,wkM,s5]
  simp only [bhq,Nat.reduceMod,Nat.reduceDiv,bh,bg,bm,cz,bk,cy,cr,cx,cu,yaq,yar,yao,yap,go_sem,a9]
  refine ⟨?_,?_,hcl2 _,kA S⟩
  ·simp [fL,a9,wk,wk2,wkL,wk1,wkM]
  ·rw [← hpos]
   repeat first|exact .refl _|refine .push ?_ _
end Go.AL
