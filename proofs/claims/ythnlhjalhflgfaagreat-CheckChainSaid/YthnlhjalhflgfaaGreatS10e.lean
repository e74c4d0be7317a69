/- Lemmas of the proof; no condition. -/
import Derived.Test.YthnlhjalhflgfaaGreatS10c
set_option linter.all false
set_option maxRecDepth 10000
set_option maxHeartbeats 32000000
open List renaming length_cons → yaz, map_cons → yae, drop_succ_cons → yao, drop_zero → yap, getD_cons_zero → yau, length_nil → yba, take_succ_cons → yaq, take_zero → yar, length_map → ybb, map_nil → yaf, append_nil → yaj
open Go Go.AL Go.Proofs
namespace Go.AL
def qt:List AV→AHeap→(AEnd→AHeap→Prop)→Prop
 |[.ptr id 0,.slice .any 8 l],H,K=>∃ ts:List STable,(l=ts.map az∧ts.length≤100∧∀ t∈ts,t.keys.length≤100)∧onC (H.get id) fun b v=>K (.ret (.slice .any 6 ((gV b v ts).1.map br))) (H.set id (cK b (gV b v ts).2))
 |_,_,_=>False
def bfN (n:Nat) (f:Nat→Bool):List AV:=(List.range n).map fun i=>.bool (f i)
theorem xR {n:Nat} {f:Nat→Bool}:(bfN n f).length=n:=by simp [bfN]
theorem xt {n:Nat} {f g:Nat→Bool} {i:Nat} {b:Bool} (h:∀ j,j<n→g j=if j=i then b else f j):(bfN n f).set i (.bool b)=bfN n g:=by
 apply List.ext_getElem
 ·simp [bfN]
 ·intro j h1 h2
  have hj:j<n:=by simpa [bfN] using h2
  rw [List.getElem_set]
  simp only [bfN,List.getElem_map,List.getElem_range,h j hj]
  by_cases e:i=j
  ·subst e;simp
  ·rw [if_neg e,if_neg (fun x=>e x.symm)]
theorem Ik {n:Nat}:(List.replicate n [AV.bool false]).flatten=bfN n fun _=>false:=by
 induction n with
 |zero=>rfl
 |succ n ih =>
  rw [List.replicate_succ,List.flatten_cons,ih]
  apply List.ext_getElem
  ·simp [bfN]
  ·intro j h1 h2
   cases j<;>simp [bfN]
theorem xA {n:Nat} {f:Nat→Bool}:bfN n f=boL ((List.range n).map f):=by simp [bfN,boL]
theorem x6 {m n:Nat} {f:Nat→Bool}:ltL m (bfN n f)=True:=eq_true (ltL_iff.2 fun j hj=>by
 simp only [bfN,List.getElem_map]
 rw [AV.lt]<;>simp)
theorem mn:∀ (l:List Bool),bV 1 l.length (boL l)=boL l
 |[]=>rfl
 |x::l=>by
  rw [yaz,bV,if_pos rfl]
  have:=mn l
  simp only [boL,yae,yao,yap,yau,jg] at this ⊢
  rw [this]
theorem tz {α:Type} {n:Nat} {f:α→AV} {a c:List AV} {l:List α} (h:a++c=l.map f) (hf:∀ x,AV.lt n (f x)):ltL n a=True:=eq_true (ltL_iff.2 fun j hj=>by
 have:a[j]∈l.map f:=by rw [← h];exact List.mem_append_left _ (gMq hj)
 obtain ⟨x,_,e⟩:=List.mem_map.1 this
 rw [← e];exact hf x)
def sH (i j:Nat) (g:List AV):List AV:=[.int .i64 1,.str [97,108,108],.slice (.own i) 4 g,.slice (.own j) 1 [.int .i64 1,.int .i64 2,.int .i64 3,.int .i64 4,.int .i64 5,.int .i64 6],.int .i64 40,.bool true]
def m8 (b:List UInt8) (v i j:Nat) (g:List AV):List AV:=[.int .i64 2,.str [115,111,109,101],.slice (.own i) 4 g,.slice (.own j) 1 [.int .i64 1,.int .i64 2,.int .i64 (3+ci b (cp v 0) 3)],.int .i64 (1+ci b (cp v 1) 6),.bool false]
def sM (b:List UInt8) (v i j:Nat) (g:List AV):List AV:=[.int .i64 7,.str [102,101,119],.slice (.own i) 4 g,.slice (.own j) 1 [.int .i64 (1+ci b (cp v 2) 6)],.int .i64 (ci b (cp v 3) 4),.bool false]
def fX (H:AHeap) (id:Nat) (b:List UInt8) (v w:Nat) (a1 a2 a3:List AV):AHeap :=
 (((((((((((H.set id (cK b (cp w 0))).push (.buf 6 0)).push (.buf 1 6)).push (.buf 4 a1.length)).push (.cells (sH (H.nx+1+1) (H.nx+1) a1))).push (.buf 1 3)).push (.buf 4 a2.length)).push (.cells (m8 b v (H.nx+1+1+1+1+1) (H.nx+1+1+1+1) a2))).push (.buf 1 1)).push (.buf 4 a3.length)).push (.cells (sM b v (H.nx+1+1+1+1+1+1+1+1) (H.nx+1+1+1+1+1+1+1) a3)))
structure RolI (b:List UInt8) (ts:List STable) (R:(List SGrant × List SGrant × List SGrant) × Nat) (k w:Nat) (a1 a2 a3:List AV):Prop where
 le:k≤ts.length
 l1:a1.length≤k
 l2:a2.length≤k
 l3:a3.length≤k
 e1:a1++(cL b (ts.drop k) w).1.1.map bk=R.1.1.map bk
 e2:a2++(cL b (ts.drop k) w).1.2.1.map bk=R.1.2.1.map bk
 e3:a3++(cL b (ts.drop k) w).1.2.2.map bk=R.1.2.2.map bk
 e4:(cL b (ts.drop k) w).2=R.2
theorem gk {H:AHeap} {id:Nat} {b:List UInt8} {ts:List STable} {R:(List SGrant × List SGrant × List SGrant) × Nat} {v k w:Nat} {a1 a2 a3:List AV} (hcl:H.Closed) (h:RolI b ts R k w a1 a2 a3) (w':Nat):(fX H id b v w' a1 a2 a3).Closed:=by
 have q1:=fun n=>tz (n:=n) h.e1 jJ
 have q2:=fun n=>tz (n:=n) h.e2 jJ
 have q3:=fun n=>tz (n:=n) h.e3 jJ
 unfold fX
 repeat' (first|exact bb hcl fS|refine bc ?_|refine ae ?_ ?_)
 all_goals simp [sH,m8,sM,cJ,znu,znv,znf,znh,zng,zle,zlf,q1,q2,q3]
 all_goals omega
theorem zq:EntOk Tryz.prog 23 (Ent.effect qt):=by
 refine EntOk.effect fun args H K h=>?_
 unfold qt at h
 split at h
 rotate_left
 ·exact h.elim
 rename_i id l
 obtain ⟨ts,⟨rfl,hts,htk⟩,h⟩:=h
 obtain ⟨b,v,hg,hb,hv,hK⟩:=kq h
 refine ⟨_,_,hK,?_⟩
 clear hK
 generalize hres:AV.slice .any 6 ((gV b v ts).1.map br)=res
 generalize hR:cL b ts (v+4)=R
 have hend:(gV b v ts).2=R.2:=by rw [← hR];rfl
 rw [hend]
 refine ACalls.fW ak (tCq i5 (tCq jC tNq)) Tryz.func23 [.tmp 4] (nrq _) (T:=aj [(16,[[],[],[],[],[],[],[],[],[5],[],[],[3,5,8],[1,3,5,8],[],[1,3,5,8]]),(18,[[],[],[],[],[],[],[],[5],[],[],[3,5,7],[1,3,5,7],[],[1,3,5,7]]),(1,[[7]]),(2,[[25]]),(3,[[22]]),(14,[[1]]),(20,[[16]])]) (h:=fun hcl hlt=>?_)
 clear hlt
 have hid:=glq hg
 have hne:=oB hid
 have hgc:=lc (b:=b) hid
 have hcl2:∀ w,(H.set id (cK b w)).Closed:=fun w=>bb hcl fS
 have e2:(2:Int).toNat=2:=rfl
 have e3:(3:Int).toNat=3:=rfl
 have e4:(4:Int).toNat=4:=rfl
 have e6:(6:Int).toNat=6:=rfl
 have w1:∀ (u n:Nat) (k:Int),0<n→n≤100→0≤k→k≤100→IntKind.i64.wrap (k+((cv b u n:Nat):Int))=k+((cv b u n:Nat):Int):=fun u n k h1 h2 h3 h4=>by
  have:=gS (b:=b) (v:=u) (n:=n) h1
  rw [wrap_i64 (by omega) (by omega)]
 have a33:∀ u,IntKind.i64.wrap (3+((cv b u 3:Nat):Int))=3+((cv b u 3:Nat):Int):=fun u=>w1 u 3 3 (by decide) (by decide) (by decide) (by decide)
 have a16:∀ u,IntKind.i64.wrap (1+((cv b u 6:Nat):Int))=1+((cv b u 6:Nat):Int):=fun u=>w1 u 6 1 (by decide) (by decide) (by decide) (by decide)
 simp only [go_sem,bhq,Nat.reduceMod,Nat.reduceDiv,aC,aB,aD,aT,aE,aS,aP,aQ,aR,yaq,yar,yao,yap,bH,bF,hg,hgc,bE hb,cb,bz,cq,hne,e2,e3,e4,e6,a33,a16]
 refine qE 14 2 4 _ rfl rfl ?_
 simp only [go_sem,bhq,Nat.reduceMod,Nat.reduceDiv,aC,aB,aD,aT,aE,aS,aP,aQ,aR,yaq,yar,yao,yap,bH,bF,hg,hgc,bE hb,cb,bz,cq,hne,e2,e3,e4,e6,a33,a16,List.set_cons_succ,List.set_cons_zero]
 (repeat with_reducible refine Yq ?_)
 refine qE 22 2 4 _ rfl rfl ?_
 simp only [go_sem,bhq,Nat.reduceMod,Nat.reduceDiv,aC,aB,aD,aT,aE,aS,aP,aQ,aR,yaq,yar,yao,yap,bH,bF,hg,hgc,bE hb,cb,bz,cq,hne,e2,e3,e4,e6,a33,a16,List.set_cons_succ,List.set_cons_zero]
 (repeat with_reducible refine Yq ?_)
 refine qE 29 2 4 _ rfl rfl ?_
 simp only [go_sem,bhq,Nat.reduceMod,Nat.reduceDiv,aC,aB,aD,aT,aE,aS,aP,aQ,aR,yaq,yar,yao,yap,bH,bF,hg,hgc,bE hb,cb,bz,cq,hne,e2,e3,e4,e6,a33,a16,List.set_cons_succ,List.set_cons_zero]
 refine ay (A:=Nat × Nat × List AV × List AV × List AV) (fun x=>[(0,.ptr id 0),(5,.ptr (H.nx+1+1+1) 0),(6,.ptr (H.nx+1+1+1+1+1+1) 0),(7,.ptr (H.nx+1+1+1+1+1+1+1+1+1) 0),(30,.slice .any 8 (ts.map az)),(31,.int .i64 (ts.length:Int)),(32,.int .i64 (x.1:Int))]) (fun x=>fX H id b v x.2.1 x.2.2.1 x.2.2.2.1 x.2.2.2.2) (fun x=>RolI b ts R x.1 x.2.1 x.2.2.1 x.2.2.2.1 x.2.2.2.2) (fun x=>ts.length - x.1) (0,v+4,[],[],[]) ⟨by omega,by simp,by simp,by simp,by rw [← hR];rfl,by rw [← hR];rfl,by rw [← hR];rfl,by rw [← hR];rfl⟩ ?_ fun x hx=>?_
 ·refine ⟨by simp only [fX,zle,zlf,zkq,zkv];omega,lRq _,gk (ts:=ts) (R:=R) (k:=0) (w:=v+4) hcl ⟨by omega,by simp,by simp,by simp,by rw [← hR];rfl,by rw [← hR];rfl,by rw [← hR];rfl,by rw [← hR];rfl⟩ _,?_,?_⟩
  ·simp [ltF,fX,znn,znf,zle,zlf,aU dp]
   omega
  ·simp [ba,wk2,wk1,wkM,Fr.get]
 obtain ⟨k,w,a1,a2,a3⟩:=x
 dsimp only at hx ⊢
 have hclo:=fun w'=>gk (id:=id) (v:=v) hcl hx w'
 obtain ⟨hk,l1,l2,l3,i1,i2,i3,i4⟩:=hx
 simp only [go_sem]
 refine ah (fun hc=>?_) (fun hc=>?_)
 ·have hk':k<ts.length:=by simp at hc;omega
  obtain ⟨t,ht⟩:∃ t,t=ts[k]:=⟨_,rfl⟩
  have hd:ts.drop k=t::ts.drop (k+1):=by rw [ht];exact dcq hk'
  have hkl:t.keys.length≤100:=htk t (by rw [ht];exact gMq hk')
  have htg:(ts.map az).getD k .junk=.agg [.int .i64 t.id,.str t.name,.slice .any 3 (t.keys.map bN),.slice .any 1 (inL t.actions),.int .i64 t.dflt,.slice .any 2 (t.dargs.map vv),.int .i64 t.size,.str t.restr]:=by
   rw [gEq,List.getElem?_map,gQq hk',← ht];rfl
  have hT:∀ n,ltL n ([.int .i64 t.id,.str t.name,.slice .any 3 (t.keys.map bN),.slice .any 1 (inL t.actions),.int .i64 t.dflt,.slice .any 2 (t.dargs.map vv),.int .i64 t.size,.str t.restr]:List AV):=fun n=>ltL_iff.2 fun j hj=>AV.lt_cells (dp t) j hj
  have hclT:∀ w',((fX H id b v w' a1 a2 a3).push (.cells [.int .i64 t.id,.str t.name,.slice .any 3 (t.keys.map bN),.slice .any 1 (inL t.actions),.int .i64 t.dflt,.slice .any 2 (t.dargs.map vv),.int .i64 t.size,.str t.restr])).Closed:=fun w'=>ae (hclo w') (hT _)
  have hclo2:∀ w' f g,((((fX H id b v w' a1 a2 a3).push (.cells [.int .i64 t.id,.str t.name,.slice .any 3 (t.keys.map bN),.slice .any 1 (inL t.actions),.int .i64 t.dflt,.slice .any 2 (t.dargs.map vv),.int .i64 t.size,.str t.restr])).push (.cells (bfN t.keys.length f))).push (.cells (bfN t.keys.length g))).Closed:=fun w' f g =>
   ae (ae (hclT w') (by simp [x6])) (by simp [x6])
  have hrn:∀ w',(fX H id b v w' a1 a2 a3).nx=(H.nx+1+1+1+1+1+1+1+1+1+1):=fun _=>rfl
  simp only [go_sem,fX,sH,m8,sM,htg,iNq,ybb,Ik,xR]
  (repeat with_reducible refine Yq ?_)
  refine ay (A:=Nat) (fun j=>[(0,.ptr id 0),(5,.ptr (H.nx+1+1+1) 0),(6,.ptr (H.nx+1+1+1+1+1+1) 0),(7,.ptr (H.nx+1+1+1+1+1+1+1+1+1) 0),(9,.ptr (H.nx+1+1+1+1+1+1+1+1+1+1) 0),(10,.ms (H.nx+1+1+1+1+1+1+1+1+1+1+1) 0 1 t.keys.length),(11,.ms (H.nx+1+1+1+1+1+1+1+1+1+1+1+1) 0 1 t.keys.length),(30,.slice .any 8 (ts.map az)),(31,.int .i64 (ts.length:Int)),(32,.int .i64 (k:Int)),(45,.int .i64 (t.keys.length:Int)),(46,.int .i64 (j:Int))]) (fun j=>(((fX H id b v (w+j) a1 a2 a3).push (.cells [.int .i64 t.id,.str t.name,.slice .any 3 (t.keys.map bN),.slice .any 1 (inL t.actions),.int .i64 t.dflt,.slice .any 2 (t.dargs.map vv),.int .i64 t.size,.str t.restr])).push (.cells (bfN t.keys.length fun i=>decide (i<j)))).push (.cells (bfN t.keys.length fun i=>decide (i<j)&&decide (ci b (w+i) 4 > 0)))) (fun j=>j≤t.keys.length) (fun j=>t.keys.length - j) 0 (by omega) ?_ fun j hj=>?_
  ·simp only [Nat.not_lt_zero,decide_false,Bool.false_and]
   refine ⟨by simp only [zle,hrn,zkq,zkv];omega,lRq _,hclo2 _ _ _,?_,?_⟩
   ·simp [ltF,hrn,znn,znp,znf,zle,zlf,aU dp]
    omega
   ·simp [ba,wk2,wk1,wkM,Fr.get]
  simp only [go_sem]
  refine ah (fun hc2=>?_) (fun hc2=>?_)
  ·have hj':j<t.keys.length:=by simp at hc2;omega
   have e5:IntKind.i64.wrap ((j:Int)+1)=((j+1:Nat):Int):=by rw [wrap_i64]<;>omega
   have hs1:(bfN t.keys.length fun i=>decide (i<j)).set j (.bool true)=bfN t.keys.length fun i=>decide (i<j+1):=xt fun i hi=>by
    by_cases e:i=j
    ·subst e;simp
    ·rw [if_neg e,decide_eq_decide];omega
   have hs2:(bfN t.keys.length fun i=>decide (i<j)&&decide (ci b (w+i) 4 > 0)).set j (.bool (decide (ci b (cp (w+j) 0) 4 > 0)))=bfN t.keys.length fun i=>decide (i<j+1)&&decide (ci b (w+i) 4 > 0):=xt fun i hi=>by
    by_cases e:i=j
    ·subst e;simp [cp]
    ·rw [if_neg e];congr 1;rw [decide_eq_decide];omega
   simp only [aJ,ag,bhq,Nat.reduceMod,Nat.reduceDiv,aC,aB,aD,aT,aE,aS,aP,aQ,aR,yaq,yar,yao,yap,go_sem,bH,bF,hgc,bE hb,cb,bz,cq,hne,e4,fX,sH,m8,sM,lAq,ybb,iNq,xR,gX,nzq,Nat.mul_one,hs1,hs2,e5]
   (repeat with_reducible refine Yq ?_)
   refine ⟨j+1,by omega,by omega,by simp only [zle,hrn,zlf,zkq,zkv];omega,lRq _,hclo2 _ _ _,?_,?_⟩
   ·simp [ltF,hrn,znn,znp,znf,zle,zlf,aU dp]
    omega
   ·simp [ba,wk2,wk1,wkM,Fr.get]
  have hj':j=t.keys.length:=by simp at hc2;omega
  subst hj'
  have y1:(bfN t.keys.length fun i=>decide (i<t.keys.length))=boL (List.replicate t.keys.length true):=by
   rw [xA];congr 1
   apply List.ext_getElem
   ·simp
   ·intro i h1 h2;simp at h1 ⊢;exact h1
  have y2:(bfN t.keys.length fun i=>decide (i<t.keys.length)&&decide (ci b (w+i) 4 > 0))=boL (iD b w t.keys.length):=by
   rw [xA];congr 1
   unfold iD
   refine List.map_congr_left fun i hi=>?_
   have:=List.mem_range.1 hi
   simp [this]
  rw [y1,y2]
  simp only [aJ,ag,bhq,Nat.reduceMod,Nat.reduceDiv,aC,aB,aD,aT,aE,aS,aP,aQ,aR,yaq,yar,yao,yap,go_sem,bH,bF,hgc,bE hb,cb,bz,cq,hne,e4,fX,sH,m8,sM,lAq,ybb]
  refine rj [(0,.ptr id 0),(5,.ptr (H.nx+1+1+1) 0),(6,.ptr (H.nx+1+1+1+1+1+1) 0),(7,.ptr (H.nx+1+1+1+1+1+1+1+1+1) 0),(9,.ptr (H.nx+1+1+1+1+1+1+1+1+1+1) 0),(10,.slice .any 1 (boL (List.replicate t.keys.length true))),(11,.slice .any 1 (boL (iD b w t.keys.length))),(30,.slice .any 8 (ts.map az)),(31,.int .i64 (ts.length:Int)),(32,.int .i64 (k:Int))] ((fX H id b v (w+t.keys.length) a1 a2 a3).push (.cells [.int .i64 t.id,.str t.name,.slice .any 3 (t.keys.map bN),.slice .any 1 (inL t.actions),.int .i64 t.dflt,.slice .any 2 (t.dargs.map vv),.int .i64 t.size,.str t.restr])) ⟨by simp only [zle,hrn,zkq,zkv,mw];omega,((lRq _).push _).push _,hclT _,?_,?_⟩ ?_
  ·simp [ltF,hrn,znn,znp,znf,zle,zlf,aU dp,F6]
   omega
  ·have yr1:bV 1 t.keys.length (boL (List.replicate t.keys.length true))=boL (List.replicate t.keys.length true):=by
    have:=mn (List.replicate t.keys.length true)
    rw [List.length_replicate] at this;exact this
   have yr2:bV 1 t.keys.length (boL (iD b w t.keys.length))=boL (iD b w t.keys.length):=by
    have:=mn (iD b w t.keys.length)
    rw [show (iD b w t.keys.length).length=t.keys.length by simp [iD]] at this;exact this
   have hn1:∀ w' o,((fX H id b v w' a1 a2 a3).push o).get (H.nx+1+1+1+1+1+1+1+1+1+1+1)=none:=fun w' o=>zmv (by rw [zle,hrn];omega)
   have hn2:∀ w' o,((fX H id b v w' a1 a2 a3).push o).get (H.nx+1+1+1+1+1+1+1+1+1+1+1+1)=none:=fun w' o=>zmv (by rw [zle,hrn];omega)
   simp only [ba,wk2,wk1,wkM,go_sem,yap,yr1,yr2,hn1,hn2,true_or,or_true,and_self]
  simp only [aJ,ag,bhq,Nat.reduceMod,Nat.reduceDiv,aC,aB,aD,aT,aE,aS,aP,aQ,aR,yaq,yar,yao,yap,go_sem,bH,bF,hgc,bE hb,cb,bz,cq,hne,e4,fX,sH,m8,sM,ybb]
  (repeat with_reducible refine Yq ?_)
  have e5:=Yk5 k
  refine ah (fun h1=>?_) (fun h1=>?_)
  all_goals
   try simp only [aJ,ag,bhq,Nat.reduceMod,Nat.reduceDiv,aC,aB,aD,aT,aE,aS,aP,aQ,aR,yaq,yar,yao,yap,go_sem,bH,bF,hgc,bE hb,cb,bz,cq,hne,e4,fX,sH,m8,sM,ybb]
   try (repeat with_reducible refine Yq ?_)
   refine ah (fun h2=>?_) (fun h2=>?_)
  all_goals
   try simp only [aJ,ag,bhq,Nat.reduceMod,Nat.reduceDiv,aC,aB,aD,aT,aE,aS,aP,aQ,aR,yaq,yar,yao,yap,go_sem,bH,bF,hgc,bE hb,cb,bz,cq,hne,e4,fX,sH,m8,sM,ybb,e5]
   try (repeat with_reducible refine Yq ?_)
  ·have hp1:(0<cv b (w+t.keys.length) 4)=True:=eq_true (by have h:=of_decide_eq_true h1;simp only [cp,Nat.add_zero] at h;omega)
   have hp2:(cv b (w+(t.keys.length+3)) 2=1)=True:=eq_true (by have h:=of_decide_eq_true h2;unfold cp at h;rw [Nat.add_assoc] at h;exact h)
   rw [hd] at i1 i2 i3 i4
   simp only [cL,hp1,hp2,if_true,if_false,Nat.add_assoc,Nat.reduceAdd] at i1 i2 i3 i4
   have hI:RolI b ts R (k+1) (w+(t.keys.length+6)) (a1++[.agg [.int .i64 t.id,.bool true,.bool true,.slice .any 1 (boL (List.replicate t.keys.length true))]]) (a2++[.agg [.int .i64 t.id,.bool (decide (0<ci b (w+t.keys.length+1) 4)),.bool (decide (cv b (w+t.keys.length+2) 2=1)),.slice .any 1 (boL (iD b w t.keys.length))]]) (a3++[.agg [.int .i64 t.id,.bool (decide (cv b (w+t.keys.length+4) 2=1)),.bool (decide (cv b (w+t.keys.length+5) 2=1)),.slice .any 1 (boL (List.replicate t.keys.length true))]]):=by
    refine ⟨by omega,by (try simp only [lAq,yaz,yba]);omega,by (try simp only [lAq,yaz,yba]);omega,by (try simp only [lAq,yaz,yba]);omega,?_,?_,?_,i4⟩
    ·simpa [bk,Nat.add_assoc] using i1
    ·simpa [bk,Nat.add_assoc] using i2
    ·simpa [bk,Nat.add_assoc] using i3
   refine ⟨(_,_,_,_,_),hI,by dsimp only;omega,by simp only [fX,zle,zlf];omega,?_,gk hcl hI _,?_,?_⟩
   ·simp only [fX,lAq,yaz,yba]
    repeat first|exact .refl _|refine .push ?_ _
   ·simp [ltF,fX,znn,znf,zle,zlf,aU dp]
    omega
   ·simp [ba,wk2,wk1,wkM,Fr.get]
  ·have hp1:(0<cv b (w+t.keys.length) 4)=True:=eq_true (by have h:=of_decide_eq_true h1;simp only [cp,Nat.add_zero] at h;omega)
   have hp2:(cv b (w+(t.keys.length+3)) 2=1)=False:=eq_false (by have h:=of_decide_eq_false h2;unfold cp at h;rw [Nat.add_assoc] at h;exact h)
   rw [hd] at i1 i2 i3 i4
   simp only [cL,hp1,hp2,if_true,if_false,Nat.add_assoc,Nat.reduceAdd] at i1 i2 i3 i4
   have hI:RolI b ts R (k+1) (w+(t.keys.length+4)) (a1++[.agg [.int .i64 t.id,.bool true,.bool true,.slice .any 1 (boL (List.replicate t.keys.length true))]]) (a2++[.agg [.int .i64 t.id,.bool (decide (0<ci b (w+t.keys.length+1) 4)),.bool (decide (cv b (w+t.keys.length+2) 2=1)),.slice .any 1 (boL (iD b w t.keys.length))]]) (a3):=by
    refine ⟨by omega,by (try simp only [lAq,yaz,yba]);omega,by (try simp only [lAq,yaz,yba]);omega,by (try simp only [lAq,yaz,yba]);omega,?_,?_,?_,i4⟩
    ·simpa [bk,Nat.add_assoc] using i1
    ·simpa [bk,Nat.add_assoc] using i2
    ·simpa [bk,Nat.add_assoc] using i3
   refine ⟨(_,_,_,_,_),hI,by dsimp only;omega,by simp only [fX,zle,zlf];omega,?_,gk hcl hI _,?_,?_⟩
   ·simp only [fX,lAq,yaz,yba]
    repeat first|exact .refl _|refine .push ?_ _
   ·simp [ltF,fX,znn,znf,zle,zlf,aU dp]
    omega
   ·simp [ba,wk2,wk1,wkM,Fr.get]
  ·have hp1:(0<cv b (w+t.keys.length) 4)=False:=eq_false (by have h:=of_decide_eq_false h1;simp only [cp,Nat.add_zero] at h;omega)
   have hp2:(cv b (w+(t.keys.length+1)) 2=1)=True:=eq_true (by have h:=of_decide_eq_true h2;unfold cp at h;rw [Nat.add_assoc] at h;exact h)
   rw [hd] at i1 i2 i3 i4
   simp only [cL,hp1,hp2,if_true,if_false,Nat.add_assoc,Nat.reduceAdd] at i1 i2 i3 i4
   have hI:RolI b ts R (k+1) (w+(t.keys.length+4)) (a1++[.agg [.int .i64 t.id,.bool true,.bool true,.slice .any 1 (boL (List.replicate t.keys.length true))]]) (a2) (a3++[.agg [.int .i64 t.id,.bool (decide (cv b (w+t.keys.length+2) 2=1)),.bool (decide (cv b (w+t.keys.length+3) 2=1)),.slice .any 1 (boL (List.replicate t.keys.length true))]]):=by
    refine ⟨by omega,by (try simp only [lAq,yaz,yba]);omega,by (try simp only [lAq,yaz,yba]);omega,by (try simp only [lAq,yaz,yba]);omega,?_,?_,?_,i4⟩
    ·simpa [bk,Nat.add_assoc] using i1
    ·simpa [bk,Nat.add_assoc] using i2
    ·simpa [bk,Nat.add_assoc] using i3
   refine ⟨(_,_,_,_,_),hI,by dsimp only;omega,by simp only [fX,zle,zlf];omega,?_,gk hcl hI _,?_,?_⟩
   ·simp only [fX,lAq,yaz,yba]
    repeat first|exact .refl _|refine .push ?_ _
   ·simp [ltF,fX,znn,znf,zle,zlf,aU dp]
    omega
   ·simp [ba,wk2,wk1,wkM,Fr.get]
  ·have hp1:(0<cv b (w+t.keys.length) 4)=False:=eq_false (by have h:=of_decide_eq_false h1;simp only [cp,Nat.add_zero] at h;omega)
   have hp2:(cv b (w+(t.keys.length+1)) 2=1)=False:=eq_false (by have h:=of_decide_eq_false h2;unfold cp at h;rw [Nat.add_assoc] at h;exact h)
   rw [hd] at i1 i2 i3 i4
   simp only [cL,hp1,hp2,if_true,if_false,Nat.add_assoc,Nat.reduceAdd] at i1 i2 i3 i4
   have hI:RolI b ts R (k+1) (w+(t.keys.length+2)) (a1++[.agg [.int .i64 t.id,.bool true,.bool true,.slice .any 1 (boL (List.replicate t.keys.length true))]]) (a2) (a3):=by
    refine ⟨by omega,by (try simp only [lAq,yaz,yba]);omega,by (try simp only [lAq,yaz,yba]);omega,by (try simp only [lAq,yaz,yba]);omega,?_,?_,?_,i4⟩
    ·simpa [bk,Nat.add_assoc] using i1
    ·simpa [bk,Nat.add_assoc] using i2
    ·simpa [bk,Nat.add_assoc] using i3
   refine ⟨(_,_,_,_,_),hI,by dsimp only;omega,by simp only [fX,zle,zlf];omega,?_,gk hcl hI _,?_,?_⟩
   ·simp only [fX,lAq,yaz,yba]
    repeat first|exact .refl _|refine .push ?_ _
   ·simp [ltF,fX,znn,znf,zle,zlf,aU dp]
    omega
   ·simp [ba,wk2,wk1,wkM,Fr.get]
 ·have hk':k=ts.length:=by simp at hc;omega
  subst hk'
  simp only [bhq,Nat.reduceMod,Nat.reduceDiv,aC,aB,aD,aT,aE,aS,aP,aQ,aR,yaq,yar,yao,yap,go_sem,fX,sH,m8,sM]
  (repeat with_reducible refine Yq ?_)
  simp only [List.drop_length,cL,yaf,yaj] at i1 i2 i3 i4
  subst i4
  refine gg 4 res ?_ ?_
  ·rw [← hres]
   simp only [gV,hR]
   simp [Fr.get,br,inL,i1,i2,i3,cp,AV.cells,iF,dY,dX,eK,eJ,fm,iN,iM,il,wkM,lG]
  simp only [bhq,Nat.reduceMod,Nat.reduceDiv,aC,aB,aD,aT,aE,aS,aP,aQ,aR,yaq,yar,yao,yap,go_sem]
  subst hres
  refine ⟨?_,?_,hcl2 _,aU oZ⟩
  ·simp [wk,wk2,wk1,wkM]
  ·repeat first|exact .refl _|refine .push ?_ _
def pi (g:List UInt8→Nat→AV × Nat):Prop:=∀ b v,(g b (min v b.length)).1=(g b v).1∧∃ c,(g b (min v b.length)).2=min v b.length+c∧(g b v).2=v+c
def onS (o:Option AObj) (g:List UInt8→Nat→AV × Nat) (K:AV→AObj→Prop):Prop:=onC o fun b v=>K (g b v).1 (cK b (g b v).2)
@[congr] theorem LC {o o':Option AObj} {g:List UInt8→Nat→AV × Nat} {K:AV→AObj→Prop} (h:o=o'):onS o g K=onS o' g K:=by rw [h]
theorem cQ {b:List UInt8} {v:Nat} {g:List UInt8→Nat→AV × Nat} {K:AV→AObj→Prop} (hb:b.length≤1000000) (hg:pi g):onS (some (cK b v)) g K=K (g b v).1 (cK b (g b v).2):=by
 unfold onS
 rw [bE hb]
 obtain ⟨h1,c,h2,h3⟩:=hg b v
 rw [h1,h2,h3,bz]
theorem oh {g:List UInt8→Nat→AV × Nat} {id:Nat} {H:AHeap} {K:AEnd→AHeap→Prop}:eG g [.ptr id 0] H K=onS (H.get id) g fun x o=>K (.ret x) (H.set id o):=(rfl)
def kR:List UInt8→Nat→AV × Nat:=fun b v=>(.slice .any 5 ((bR b v).1.map aL),(bR b v).2)
def jP:List UInt8→Nat→AV × Nat:=fun b v=>(.slice .any 5 ((dc b v).map ax),v+4)
def lh:List UInt8→Nat→AV × Nat:=fun b v=>(.slice .any 8 ((cD b v).map az),v+12)
def mD (ts:List STable):List UInt8→Nat→AV × Nat:=fun b v=>(.slice .any 6 ((gV b v ts).1.map br),(gV b v ts).2)
theorem iO:pi kR:=fun b v=>by
 have e:bR b (min v b.length)=((bR b v).1,(bR b v).2 - v+min v b.length):=by
  unfold bR
  simp only [g7,cb]
  repeat' split
  all_goals (refine Prod.ext rfl ?_;dsimp only;omega)
 have h:∃ c,(bR b v).2=v+c:=by
  unfold bR
  repeat' split
  all_goals exact ⟨_,rfl⟩
 obtain ⟨c,hc⟩:=h
 unfold kR
 dsimp only
 rw [e]
 exact ⟨rfl,c,by dsimp only;omega,hc⟩
theorem gW:pi jP:=fun b v=>by
 have e:dc b (min v b.length)=dc b v:=by unfold dc ci;simp only [g7,cb]
 unfold jP
 dsimp only
 rw [e]
 exact ⟨rfl,4,rfl,rfl⟩
theorem iR:pi lh:=fun b v=>by
 have e:cD b (min v b.length)=cD b v:=by unfold cD ij ia dt du ci;simp only [g7,cb]
 unfold lh
 dsimp only
 rw [e]
 exact ⟨rfl,12,rfl,rfl⟩
theorem lv {b:List UInt8} {v k n:Nat}:iD b (min v b.length+k) n=iD b (v+k) n:=by
 unfold iD
 refine List.map_congr_left fun i _=>?_
 rw [Nat.add_assoc,Nat.add_assoc]
 unfold ci
 rw [g7]
theorem im {b:List UInt8} {v:Nat}:∀ (ts:List STable) (k:Nat),(cL b ts (min v b.length+k)).1=(cL b ts (v+k)).1∧∃ c,(cL b ts (min v b.length+k)).2=min v b.length+c∧(cL b ts (v+k)).2=v+c
 |[],k=>⟨rfl,k,rfl,rfl⟩
 |t::ts,k=>by
  have hb:∀ j n,cv b (min v b.length+j) n=cv b (v+j) n:=fun j n=>g7
  by_cases h1:0<cv b (v+(k+t.keys.length)) 4
  ·by_cases h2:cv b (v+(k+t.keys.length+3)) 2=1
   ·obtain ⟨i1,c,i2,i3⟩:=im ts (k+t.keys.length+3+3)
    simp only [Nat.add_assoc,Nat.reduceAdd] at i1 i2 i3 h1 h2
    simp only [cL,Nat.add_assoc,Nat.reduceAdd,hb,ci,h1,h2,if_true,lv]
    rw [i1]
    exact ⟨rfl,c,i2,i3⟩
   ·obtain ⟨i1,c,i2,i3⟩:=im ts (k+t.keys.length+3+1)
    simp only [Nat.add_assoc,Nat.reduceAdd] at i1 i2 i3 h1 h2
    simp only [cL,Nat.add_assoc,Nat.reduceAdd,hb,ci,h1,h2,if_true,if_false,lv]
    rw [i1]
    exact ⟨rfl,c,i2,i3⟩
  ·by_cases h2:cv b (v+(k+t.keys.length+1)) 2=1
   ·obtain ⟨i1,c,i2,i3⟩:=im ts (k+t.keys.length+1+3)
    simp only [Nat.add_assoc,Nat.reduceAdd] at i1 i2 i3 h1 h2
    simp only [cL,Nat.add_assoc,Nat.reduceAdd,hb,ci,h1,h2,if_true,if_false,lv]
    rw [i1]
    exact ⟨rfl,c,i2,i3⟩
   ·obtain ⟨i1,c,i2,i3⟩:=im ts (k+t.keys.length+1+1)
    simp only [Nat.add_assoc,Nat.reduceAdd] at i1 i2 i3 h1 h2
    simp only [cL,Nat.add_assoc,Nat.reduceAdd,hb,ci,h1,h2,if_true,if_false,lv]
    rw [i1]
    exact ⟨rfl,c,i2,i3⟩
theorem lq (ts:List STable):pi (mD ts):=fun b v=>by
 obtain ⟨i1,c,i2,i3⟩:=im (b:=b) (v:=v) ts 4
 unfold mD gV
 dsimp only
 rw [i1]
 unfold ci
 simp only [g7,cb]
 exact ⟨trivial,c,i2,i3⟩
theorem yR {b:List UInt8} {v:Nat}:(kR b v).1=.slice .any 5 ((bR b v).1.map aL):=(rfl)
theorem Ar {b:List UInt8} {v:Nat}:(kR b v).2=(bR b v).2:=(rfl)
theorem Ax {b:List UInt8} {v:Nat}:(jP b v).1=.slice .any 5 ((dc b v).map ax):=(rfl)
theorem AB {b:List UInt8} {v:Nat}:(jP b v).2=cp v 4:=(rfl)
theorem Al {b:List UInt8} {v:Nat}:(lh b v).1=.slice .any 8 ((cD b v).map az):=(rfl)
theorem Ak {b:List UInt8} {v:Nat}:(lh b v).2=cp v 12:=(rfl)
theorem BG {b:List UInt8} {v:Nat} {ts:List STable}:(mD ts b v).1=.slice .any 6 ((gV b v ts).1.map br):=(rfl)
theorem Ec {b:List UInt8} {v:Nat} {ts:List STable}:(mD ts b v).2=cp (gV b v ts).2 0:=(rfl)
theorem rK {v k n:Nat}:cp (cp v k) n=cp v (k+n):=by unfold cp;omega
theorem tg2 {b:List UInt8} {w:Nat}:(List.map az (cD b w)).getD 2 .junk=.agg [.int .i64 (dt b w).id,.str (dt b w).name,.slice .any 3 ((dt b w).keys.map bN),.slice .any 1 (inL (dt b w).actions),.int .i64 (dt b w).dflt,.slice .any 2 ((dt b w).dargs.map vv),.int .i64 (dt b w).size,.str (dt b w).restr]:=(rfl)
theorem tg3 {b:List UInt8} {w:Nat}:(List.map az (cD b w)).getD 3 .junk=.agg [.int .i64 (du b w).id,.str (du b w).name,.slice .any 3 ((du b w).keys.map bN),.slice .any 1 (inL (du b w).actions),.int .i64 (du b w).dflt,.slice .any 2 ((du b w).dargs.map vv),.int .i64 (du b w).size,.str (du b w).restr]:=(rfl)
theorem tgl {b:List UInt8} {w:Nat}:(cD b w).length=4:=(rfl)
theorem k2l {b:List UInt8} {w:Nat}:(((dt b w).keys.length:Int)==3)=decide (cv b (cp w 5) 2=1):=by
 by_cases h:cv b (w+5) 2=1<;>simp [dt,cp,h]
theorem k3l {b:List UInt8} {w:Nat}:(((du b w).keys.length:Int)==3)=decide (cv b (cp w 7) 2=1):=by
 by_cases h:cv b (w+7) 2=1<;>simp [du,cp,h]
def Jh (p:Prop):Bool→Prop|true=>p|false=>¬ p
theorem nQ {p:Prop} [Decidable p] {t:Bool} (h:decide p=t):Jh p t:=by
 cases t
 ·exact (of_decide_eq_false h:¬ p)
 ·exact (of_decide_eq_true h:p)
theorem DV {id:Nat} {ts:List STable} {H:AHeap} {K:AEnd→AHeap→Prop} (h1:ts.length≤100) (h2:∀ t∈ts,t.keys.length≤100) (h:onS (H.get id) (mD ts) fun x o=>K (.ret x) (H.set id o)) :
 qt [.ptr id 0,.slice .any 8 (ts.map az)] H K:=⟨ts,⟨rfl,h1,h2⟩,h⟩
def lz:=eG fun b v=>(mI (fk b v).1,(fk b v).2)
theorem qn:EntOk Tryz.prog 10 (Ent.effect lz):=by
 unfold lz
 refine EntOk.effect fun args H K h=>?_
 unfold eG at h
 split at h
 rotate_left
 ·exact h.elim
 rename_i id
 obtain ⟨b,v,hg,hb,hv,hK⟩:=kq h
 refine ⟨_,_,hK,?_⟩
 clear hK
 dsimp only
 generalize hS:(fk b v).1=S
 generalize hpos:(fk b v).2=pos
 refine ACalls.fW ak (tCq i5 (tCq jC (tCq vP (tCq tV (tCq ws (tCq zq tNq)))))) Tryz.func10 [.cell 2 34] (nrq _) (T:=aj [(15,[[4]])]) (h:=fun hcl hlt=>?_)
 clear hlt
 have hid:=glq hg
 have hne:=oB hid
 have hne2:=oB (show id<H.nx+1+1+1+1+1+1+1+1+1+1+1+1+1+1+1+1 by omega)
 have hgc:=lc (b:=b) hid
 have hcl2:∀ w,(H.set id (cK b w)).Closed:=fun w=>bb hcl fS
 have e8:(8:Int).toNat=8:=rfl
 have e30:(30:Int).toNat=30:=rfl
 have w1:∀ (u n:Nat) (k:Int),0<n→n≤100→0≤k→k≤100→IntKind.i64.wrap (k+((cv b u n:Nat):Int))=k+((cv b u n:Nat):Int):=fun u n k h1 h2 h3 h4=>by
  have:=gS (b:=b) (v:=u) (n:=n) h1
  rw [wrap_i64 (by omega) (by omega)]
 have a28:∀ u,IntKind.i64.wrap (2+((cv b u 8:Nat):Int))=2+((cv b u 8:Nat):Int):=fun u=>w1 u 8 2 (by decide) (by decide) (by decide) (by decide)
 have a30:∀ u,IntKind.i64.wrap (12+((cv b u 30:Nat):Int))=12+((cv b u 30:Nat):Int):=fun u=>w1 u 30 12 (by decide) (by decide) (by decide) (by decide)
 have es1:nz=eG kR:=rfl
 have es2:mu=eG jP:=rfl
 have es3:n6=eG lh:=rfl
 simp only [go_sem,bhq,Nat.reduceMod,Nat.reduceDiv,aC,aB,aD,aT,aE,aS,aP,aQ,aR,yaq,yar,yao,yap,bH,bF,es1,es2,es3,oh,cQ hb iO,cQ hb gW,cQ hb iR,yR,Ar,Ax,AB,Al,Ak,rK,hg,hgc,bE hb,cb,bz,cq,hne,hne2,e8,e30,a28,a30]
 (repeat with_reducible refine Yq ?_)
 refine DV (by simp [cD]) (fun t ht=>?_) ?_
 ·simp only [cD,List.mem_cons,List.not_mem_nil,or_false] at ht
  rcases ht with rfl|rfl|rfl|rfl<;>simp only [ij,ia,dt,du]<;>(try split)<;>simp
 simp only [aJ,ag,go_sem,bhq,Nat.reduceMod,Nat.reduceDiv,aC,aB,aD,aT,aE,aS,aP,aQ,aR,yaq,yar,yao,yap,bH,bF,es1,es2,es3,oh,cQ hb iO,cQ hb gW,cQ hb iR,yR,Ar,Ax,AB,Al,Ak,rK,hg,hgc,bE hb,cb,bz,cq,hne,hne2,e8,e30,a28,a30,cQ hb (lq _),BG,Ec,iNq]
 refine ah (fun h1=>?_) (fun h1=>?_)
 all_goals
  simp only [aJ,ag,go_sem,bhq,Nat.reduceMod,Nat.reduceDiv,aC,aB,aD,aT,aE,aS,aP,aQ,aR,yaq,yar,yao,yap,bH,bF,es1,es2,es3,oh,cQ hb iO,cQ hb gW,cQ hb iR,yR,Ar,Ax,AB,Al,Ak,rK,hg,hgc,bE hb,cb,bz,cq,hne,hne2,e8,e30,a28,a30,cQ hb (lq _),BG,Ec,iNq,tg2,tg3,tgl,k2l,k3l]
  try (repeat with_reducible refine Yq ?_)
  refine ah (fun h2=>?_) (fun h2=>?_)
 all_goals
  simp only [aJ,ag,go_sem,bhq,Nat.reduceMod,Nat.reduceDiv,aC,aB,aD,aT,aE,aS,aP,aQ,aR,yaq,yar,yao,yap,bH,bF,es1,es2,es3,oh,cQ hb iO,cQ hb gW,cQ hb iR,yR,Ar,Ax,AB,Al,Ak,rK,hg,hgc,bE hb,cb,bz,cq,hne,hne2,e8,e30,a28,a30,cQ hb (lq _),BG,Ec,iNq,tg2,tg3,tgl,k2l,k3l]
  try (repeat with_reducible refine Yq ?_)
  refine cy (fun h3=>?_) (fun h3=>?_)
 all_goals
  try (repeat with_reducible refine Yq ?_)
  try refine ah (fun h4=>?_) (fun h4=>?_)
 all_goals
  try simp only [aJ,ag,go_sem,bhq,Nat.reduceMod,Nat.reduceDiv,aC,aB,aD,aT,aE,aS,aP,aQ,aR,yaq,yar,yao,yap,bH,bF,es1,es2,es3,oh,cQ hb iO,cQ hb gW,cQ hb iR,yR,Ar,Ax,AB,Al,Ak,rK,hg,hgc,bE hb,cb,bz,cq,hne,hne2,e8,e30,a28,a30,cQ hb (lq _),BG,Ec,iNq,tg2,tg3,tgl,k2l,k3l]
  try (repeat with_reducible refine Yq ?_)
  refine cy (fun h5=>?_) (fun h5=>?_)
 all_goals
  try (repeat with_reducible refine Yq ?_)
  try refine ah (fun h6=>?_) (fun h6=>?_)
 all_goals
  try simp only [aJ,ag,go_sem,bhq,Nat.reduceMod,Nat.reduceDiv,aC,aB,aD,aT,aE,aS,aP,aQ,aR,yaq,yar,yao,yap,bH,bF,es1,es2,es3,oh,cQ hb iO,cQ hb gW,cQ hb iR,yR,Ar,Ax,AB,Al,Ak,rK,hg,hgc,bE hb,cb,bz,cq,hne,hne2,e8,e30,a28,a30,cQ hb (lq _),BG,Ec,iNq,tg2,tg3,tgl,k2l,k3l]
  try (repeat with_reducible refine Yq ?_)
  replace h1:=nQ h1
  replace h2:=nQ h2
  replace h3:=nQ h3
  replace h5:=nQ h5
  try replace h4:=nQ h4
  try replace h6:=nQ h6
  refine gg 101 (.agg (aO S)) ?_ ?_
  ·rw [← hS]
   simp only [Jh] at h1 h2 h3 h5
   try simp only [Jh] at h4
   try simp only [Jh] at h6
   simp [*,Fr.get,aO,fk,gFields,gHeaders,aV,aH,cu,bZ,inL,AV.cells,iF,dY,dX,eK,eJ,fm,iN,iM,il,wkM,lG]
  simp only [bhq,Nat.reduceMod,Nat.reduceDiv,aC,aB,aD,aT,aE,aS,aP,aQ,aR,yaq,yar,yao,yap,go_sem,aO]
  refine ⟨?_,?_,hcl2 _,vO S⟩
  ·simp [mI,aO,wk,wk2,wkL,wk1,wkM]
  ·rw [← hpos]
   repeat first|exact .refl _|refine .push ?_ _
end Go.AL
