/- Contracts and plain laws, a part of the proof; no condition of its own. -/
import Derived.Test.YtiiiljghmilepaaGreatS10c
set_option maxHeartbeats 32000000
open List renaming length_cons → yaz, map_cons → yae, drop_succ_cons → yao, drop_zero → yap, getD_cons_zero → yau, length_nil → yba, take_succ_cons → yaq, take_zero → yar, length_map → ybb, map_nil → yaf, append_nil → yaj
open Go Go.AL Go.Proofs
namespace Go.AL
set_option linter.all false
set_option maxRecDepth 10000
def rf:List AV→AHeap→(AEnd→AHeap→Prop)→Prop
 |[.ptr id 0,.slice .any 8 l],H,K=>∃ ts:List STable,(l=ts.map aq∧ts.length≤100∧∀ t∈ts,t.keys.length≤100)∧onC (H.get id) fun b v=>K (.ret (.slice .any 6 ((iQ b v ts).1.map aJ))) (H.set id (f8 b (iQ b v ts).2))
 |_,_,_=>False
/-- n truth values -/
def bfN (n:Nat) (f:Nat→Bool):List AV:=(List.range n).map fun i=>.bool (f i)
theorem zk {n:Nat} {f:Nat→Bool}:(bfN n f).length=n:=by simp [bfN]
theorem yT {n:Nat} {f g:Nat→Bool} {i:Nat} {b:Bool} (h:∀ j,j<n→g j=if j=i then b else f j):(bfN n f).set i (.bool b)=bfN n g:=by
 apply List.ext_getElem
 ·simp [bfN]
 ·intro j h1 h2
  have hj:j<n:=by simpa [bfN] using h2
  rw [List.getElem_set]
  simp only [bfN,List.getElem_map,List.getElem_range,h j hj]
  by_cases e:i=j
  ·subst e;simp
  ·rw [if_neg e,if_neg (fun x=>e x.symm)]
theorem EK {n:Nat}:(List.replicate n [AV.bool false]).flatten=bfN n fun _=>false:=by
 induction n with
 |zero=>rfl
 |succ n ih =>
  rw [List.replicate_succ,List.flatten_cons,ih]
  apply List.ext_getElem
  ·simp [bfN]
  ·intro j h1 h2
   cases j<;>simp [bfN]
theorem yL {n:Nat} {f:Nat→Bool}:bfN n f=boL ((List.range n).map f):=by simp [bfN,boL]
theorem y8 {m n:Nat} {f:Nat→Bool}:ltL m (bfN n f)=True:=eq_true (ltL_iff.2 fun j hj=>by
 simp only [bfN,List.getElem_map]
 rw [AV.lt]<;>simp)
theorem n4:∀ (l:List Bool),cP 1 l.length (boL l)=boL l
 |[]=>rfl
 |x::l=>by
  rw [yaz,cP,if_pos rfl]
  have:=n4 l
  simp only [boL,yae,yao,yap,yau,kG] at this ⊢
  rw [this]
theorem uE {α:Type} {n:Nat} {f:α→AV} {a c:List AV} {l:List α} (h:a++c=l.map f) (hf:∀ x,AV.lt n (f x)):ltL n a=True:=eq_true (ltL_iff.2 fun j hj=>by
 have:a[j]∈l.map f:=by rw [← h];exact List.mem_append_left _ (List.getElem_mem hj)
 obtain ⟨x,_,e⟩:=List.mem_map.1 this
 rw [← e];exact hf x)
def ua (i j:Nat) (g:List AV):List AV:=[.int .i64 1,.str [97,108,108],.slice (.own i) 4 g,.slice (.own j) 1 [.int .i64 1,.int .i64 2,.int .i64 3,.int .i64 4,.int .i64 5,.int .i64 6],.int .i64 40,.bool true]
def ot (b:List UInt8) (v i j:Nat) (g:List AV):List AV:=[.int .i64 2,.str [115,111,109,101],.slice (.own i) 4 g,.slice (.own j) 1 [.int .i64 1,.int .i64 2,.int .i64 (3+ci b (cp v 0) 3)],.int .i64 (1+ci b (cp v 1) 6),.bool false]
def ul (b:List UInt8) (v i j:Nat) (g:List AV):List AV:=[.int .i64 7,.str [102,101,119],.slice (.own i) 4 g,.slice (.own j) 1 [.int .i64 (1+ci b (cp v 2) 6)],.int .i64 (ci b (cp v 3) 4),.bool false]
/-- the heap at the head of the loop over the tables -/
def iY (H:AHeap) (id:Nat) (b:List UInt8) (v w:Nat) (a1 a2 a3:List AV):AHeap :=
 (((((((((((H.set id (f8 b (cp w 0))).push (.buf 6 0)).push (.buf 1 6)).push (.buf 4 a1.length)).push (.cells (ua (H.nx+1+1) (H.nx+1) a1))).push (.buf 1 3)).push (.buf 4 a2.length)).push (.cells (ot b v (H.nx+1+1+1+1+1) (H.nx+1+1+1+1) a2))).push (.buf 1 1)).push (.buf 4 a3.length)).push (.cells (ul b v (H.nx+1+1+1+1+1+1+1+1) (H.nx+1+1+1+1+1+1+1) a3)))
/-- what is so at the head of that loop -/
structure RolI (b:List UInt8) (ts:List STable) (R:(List SGrant × List SGrant × List SGrant) × Nat) (k w:Nat) (a1 a2 a3:List AV):Prop where
 le:k≤ts.length
 l1:a1.length≤k
 l2:a2.length≤k
 l3:a3.length≤k
 e1:a1++(dv b (ts.drop k) w).1.1.map ax=R.1.1.map ax
 e2:a2++(dv b (ts.drop k) w).1.2.1.map ax=R.1.2.1.map ax
 e3:a3++(dv b (ts.drop k) w).1.2.2.map ax=R.1.2.2.map ax
 e4:(dv b (ts.drop k) w).2=R.2
theorem i9 {H:AHeap} {id:Nat} {b:List UInt8} {ts:List STable} {R:(List SGrant × List SGrant × List SGrant) × Nat} {v k w:Nat} {a1 a2 a3:List AV} (hcl:H.Closed) (h:RolI b ts R k w a1 a2 a3) (w':Nat):(iY H id b v w' a1 a2 a3).Closed:=by
 have q1:=fun n=>uE (n:=n) h.e1 od
 have q2:=fun n=>uE (n:=n) h.e2 od
 have q3:=fun n=>uE (n:=n) h.e3 od
 unfold iY
 repeat' (first|exact bS hcl ka|refine aP ?_|refine ag ?_ ?_)
 all_goals simp [ua,ot,ul,aH,zno,znp,zmz,znb,zna,zky,zkz,q1,q2,q3]
 all_goals omega
theorem Bj:EntOk Tryz.prog 41 (Ent.effect rf):=by
 refine EntOk.effect fun args H K h=>?_
 unfold rf at h
 split at h
 rotate_left
 ·exact h.elim
 rename_i id l
 obtain ⟨ts,⟨rfl,hts,htk⟩,h⟩:=h
 obtain ⟨b,v,hg,hb,hv,hK⟩:=lP h
 refine ⟨_,_,hK,?_⟩
 clear hK
 generalize hres:AV.slice .any 6 ((iQ b v ts).1.map aJ)=res
 generalize hR:dv b ts (v+4)=R
 have hend:(iQ b v ts).2=R.2:=by rw [← hR];rfl
 rw [hend]
 refine ACalls.fW aB (TblOk.cons li (TblOk.cons lF TblOk.nil)) Tryz.func41 [.tmp 4] (Nat.le_refl _) (T:=ay [(16,[[],[],[],[],[],[],[],[],[5],[],[],[3,5,8],[1,3,5,8],[],[1,3,5,8]]),(18,[[],[],[],[],[],[],[],[5],[],[],[3,5,7],[1,3,5,7],[],[1,3,5,7]]),(1,[[7]]),(2,[[25]]),(3,[[22]]),(14,[[1]]),(20,[[16]])]) (h:=fun hcl hlt=>?_)
 clear hlt
 have hid:=AHeap.get_lt hg
 have hne:=pX hid
 have hgc:=mH (b:=b) hid
 have hcl2:∀ w,(H.set id (f8 b w)).Closed:=fun w=>bS hcl ka
 have e2:(2:Int).toNat=2:=rfl
 have e3:(3:Int).toNat=3:=rfl
 have e4:(4:Int).toNat=4:=rfl
 have e6:(6:Int).toNat=6:=rfl
 have w1:∀ (u n:Nat) (k:Int),0<n→n≤100→0≤k→k≤100→IntKind.i64.wrap (k+((cv b u n:Nat):Int))=k+((cv b u n:Nat):Int):=fun u n k h1 h2 h3 h4=>by
  have:=fH (b:=b) (v:=u) (n:=n) h1
  rw [wrap_i64 (by omega) (by omega)]
 have a33:∀ u,IntKind.i64.wrap (3+((cv b u 3:Nat):Int))=3+((cv b u 3:Nat):Int):=fun u=>w1 u 3 3 (by decide) (by decide) (by decide) (by decide)
 have a16:∀ u,IntKind.i64.wrap (1+((cv b u 6:Nat):Int))=1+((cv b u 6:Nat):Int):=fun u=>w1 u 6 1 (by decide) (by decide) (by decide) (by decide)
 simp only [go_sem,bhq,Nat.reduceMod,Nat.reduceDiv,aY,aZ,a0,cb,a9,bY,ca,bV,bW,yaq,yar,yao,yap,cL,cA,hg,hgc,cM hb,df,co,dy,hne,e2,e3,e4,e6,a33,a16]
 refine qS 14 2 4 _ rfl rfl ?_
 simp only [go_sem,bhq,Nat.reduceMod,Nat.reduceDiv,aY,aZ,a0,cb,a9,bY,ca,bV,bW,yaq,yar,yao,yap,cL,cA,hg,hgc,cM hb,df,co,dy,hne,e2,e3,e4,e6,a33,a16,List.set_cons_succ,List.set_cons_zero]
 (repeat with_reducible refine And.intro (by first|exact True.intro|decide|omega|(simp [zik,zgl,zgm,zgn,zgp,zgo,zgt];first|done|omega)) ?_)
 refine qS 22 2 4 _ rfl rfl ?_
 simp only [go_sem,bhq,Nat.reduceMod,Nat.reduceDiv,aY,aZ,a0,cb,a9,bY,ca,bV,bW,yaq,yar,yao,yap,cL,cA,hg,hgc,cM hb,df,co,dy,hne,e2,e3,e4,e6,a33,a16,List.set_cons_succ,List.set_cons_zero]
 (repeat with_reducible refine And.intro (by first|exact True.intro|decide|omega|(simp [zik,zgl,zgm,zgn,zgp,zgo,zgt];first|done|omega)) ?_)
 refine qS 29 2 4 _ rfl rfl ?_
 simp only [go_sem,bhq,Nat.reduceMod,Nat.reduceDiv,aY,aZ,a0,cb,a9,bY,ca,bV,bW,yaq,yar,yao,yap,cL,cA,hg,hgc,cM hb,df,co,dy,hne,e2,e3,e4,e6,a33,a16,List.set_cons_succ,List.set_cons_zero]
 refine aA (A:=Nat × Nat × List AV × List AV × List AV) (fun x=>[(0,.ptr id 0),(5,.ptr (H.nx+1+1+1) 0),(6,.ptr (H.nx+1+1+1+1+1+1) 0),(7,.ptr (H.nx+1+1+1+1+1+1+1+1+1) 0),(30,.slice .any 8 (ts.map aq)),(31,.int .i64 (ts.length:Int)),(32,.int .i64 (x.1:Int))]) (fun x=>iY H id b v x.2.1 x.2.2.1 x.2.2.2.1 x.2.2.2.2) (fun x=>RolI b ts R x.1 x.2.1 x.2.2.1 x.2.2.2.1 x.2.2.2.2) (fun x=>ts.length - x.1) (0,v+4,[],[],[]) ⟨by omega,by simp,by simp,by simp,by rw [← hR];rfl,by rw [← hR];rfl,by rw [← hR];rfl,by rw [← hR];rfl⟩ ?_ fun x hx=>?_
 ·refine ⟨by simp only [iY,zky,zkz,zkk,zkp];omega,AHeap.Le.refl _,i9 (ts:=ts) (R:=R) (k:=0) (w:=v+4) hcl ⟨by omega,by simp,by simp,by simp,by rw [← hR];rfl,by rw [← hR];rfl,by rw [← hR];rfl,by rw [← hR];rfl⟩ _,?_,?_⟩
  ·simp [ltF,iY,znh,zmz,zky,zkz,aa gJ]
   omega
  ·simp [bf,wk2,wk1,wkM,Fr.get]
 obtain ⟨k,w,a1,a2,a3⟩:=x
 dsimp only at hx ⊢
 have hclo:=fun w'=>i9 (id:=id) (v:=v) hcl hx w'
 obtain ⟨hk,l1,l2,l3,i1,i2,i3,i4⟩:=hx
 simp only [go_sem]
 refine ai (fun hc=>?_) (fun hc=>?_)
 ·have hk':k<ts.length:=by simp at hc;omega
  obtain ⟨t,ht⟩:∃ t,t=ts[k]:=⟨_,rfl⟩
  have hd:ts.drop k=t::ts.drop (k+1):=by rw [ht];exact List.drop_eq_getElem_cons hk'
  have hkl:t.keys.length≤100:=htk t (by rw [ht];exact List.getElem_mem hk')
  have htg:(ts.map aq).getD k .junk=.agg [.int .i64 t.id,.str t.name,.slice .any 3 (t.keys.map aQ),.slice .any 1 (inL t.actions),.int .i64 t.dflt,.slice .any 2 (t.dargs.map vv),.int .i64 t.size,.str t.restr]:=by
   rw [List.getD_eq_getElem?_getD,List.getElem?_map,List.getElem?_eq_getElem hk',← ht];rfl
  have hT:∀ n,ltL n ([.int .i64 t.id,.str t.name,.slice .any 3 (t.keys.map aQ),.slice .any 1 (inL t.actions),.int .i64 t.dflt,.slice .any 2 (t.dargs.map vv),.int .i64 t.size,.str t.restr]:List AV):=fun n=>ltL_iff.2 fun j hj=>AV.lt_cells (gJ t) j hj
  have hclT:∀ w',((iY H id b v w' a1 a2 a3).push (.cells [.int .i64 t.id,.str t.name,.slice .any 3 (t.keys.map aQ),.slice .any 1 (inL t.actions),.int .i64 t.dflt,.slice .any 2 (t.dargs.map vv),.int .i64 t.size,.str t.restr])).Closed:=fun w'=>ag (hclo w') (hT _)
  have hclo2:∀ w' f g,((((iY H id b v w' a1 a2 a3).push (.cells [.int .i64 t.id,.str t.name,.slice .any 3 (t.keys.map aQ),.slice .any 1 (inL t.actions),.int .i64 t.dflt,.slice .any 2 (t.dargs.map vv),.int .i64 t.size,.str t.restr])).push (.cells (bfN t.keys.length f))).push (.cells (bfN t.keys.length g))).Closed:=fun w' f g =>
   ag (ag (hclT w') (by simp [y8])) (by simp [y8])
  have hrn:∀ w',(iY H id b v w' a1 a2 a3).nx=(H.nx+1+1+1+1+1+1+1+1+1+1):=fun _=>rfl
  simp only [go_sem,iY,ua,ot,ul,htg,Int.toNat_natCast,ybb,EK,zk]
  (repeat with_reducible refine And.intro (by first|exact True.intro|decide|omega|(simp [zik,zgl,zgm,zgn,zgp,zgo,zgt];first|done|omega)) ?_)
  refine aA (A:=Nat) (fun j=>[(0,.ptr id 0),(5,.ptr (H.nx+1+1+1) 0),(6,.ptr (H.nx+1+1+1+1+1+1) 0),(7,.ptr (H.nx+1+1+1+1+1+1+1+1+1) 0),(9,.ptr (H.nx+1+1+1+1+1+1+1+1+1+1) 0),(10,.ms (H.nx+1+1+1+1+1+1+1+1+1+1+1) 0 1 t.keys.length),(11,.ms (H.nx+1+1+1+1+1+1+1+1+1+1+1+1) 0 1 t.keys.length),(30,.slice .any 8 (ts.map aq)),(31,.int .i64 (ts.length:Int)),(32,.int .i64 (k:Int)),(45,.int .i64 (t.keys.length:Int)),(46,.int .i64 (j:Int))]) (fun j=>(((iY H id b v (w+j) a1 a2 a3).push (.cells [.int .i64 t.id,.str t.name,.slice .any 3 (t.keys.map aQ),.slice .any 1 (inL t.actions),.int .i64 t.dflt,.slice .any 2 (t.dargs.map vv),.int .i64 t.size,.str t.restr])).push (.cells (bfN t.keys.length fun i=>decide (i<j)))).push (.cells (bfN t.keys.length fun i=>decide (i<j)&&decide (ci b (w+i) 4 > 0)))) (fun j=>j≤t.keys.length) (fun j=>t.keys.length - j) 0 (by omega) ?_ fun j hj=>?_
  ·simp only [Nat.not_lt_zero,decide_false,Bool.false_and]
   refine ⟨by simp only [zky,hrn,zkk,zkp];omega,AHeap.Le.refl _,hclo2 _ _ _,?_,?_⟩
   ·simp [ltF,hrn,znh,znj,zmz,zky,zkz,aa gJ]
    omega
   ·simp [bf,wk2,wk1,wkM,Fr.get]
  simp only [go_sem]
  refine ai (fun hc2=>?_) (fun hc2=>?_)
  ·have hj':j<t.keys.length:=by simp at hc2;omega
   have e5:IntKind.i64.wrap ((j:Int)+1)=((j+1:Nat):Int):=by rw [wrap_i64]<;>omega
   have hs1:(bfN t.keys.length fun i=>decide (i<j)).set j (.bool true)=bfN t.keys.length fun i=>decide (i<j+1):=yT fun i hi=>by
    by_cases e:i=j
    ·subst e;simp
    ·rw [if_neg e,decide_eq_decide];omega
   have hs2:(bfN t.keys.length fun i=>decide (i<j)&&decide (ci b (w+i) 4 > 0)).set j (.bool (decide (ci b (cp (w+j) 0) 4 > 0)))=bfN t.keys.length fun i=>decide (i<j+1)&&decide (ci b (w+i) 4 > 0):=yT fun i hi=>by
    by_cases e:i=j
    ·subst e;simp [cp]
    ·rw [if_neg e];congr 1;rw [decide_eq_decide];omega
   simp only [cm,cl,bhq,Nat.reduceMod,Nat.reduceDiv,aY,aZ,a0,cb,a9,bY,ca,bV,bW,yaq,yar,yao,yap,go_sem,cL,cA,hgc,cM hb,df,co,dy,hne,e4,iY,ua,ot,ul,List.length_append,ybb,Int.toNat_natCast,zk,jD,Nat.zero_add,Nat.mul_one,hs1,hs2,e5]
   (repeat with_reducible refine And.intro (by first|exact True.intro|decide|omega|(simp [zik,zgl,zgm,zgn,zgp,zgo,zgt];first|done|omega)) ?_)
   refine ⟨j+1,by omega,by omega,by simp only [zky,hrn,zkz,zkk,zkp];omega,AHeap.Le.refl _,hclo2 _ _ _,?_,?_⟩
   ·simp [ltF,hrn,znh,znj,zmz,zky,zkz,aa gJ]
    omega
   ·simp [bf,wk2,wk1,wkM,Fr.get]
  have hj':j=t.keys.length:=by simp at hc2;omega
  subst hj'
  have y1:(bfN t.keys.length fun i=>decide (i<t.keys.length))=boL (List.replicate t.keys.length true):=by
   rw [yL];congr 1
   apply List.ext_getElem
   ·simp
   ·intro i h1 h2;simp at h1 ⊢;exact h1
  have y2:(bfN t.keys.length fun i=>decide (i<t.keys.length)&&decide (ci b (w+i) 4 > 0))=boL (jw b w t.keys.length):=by
   rw [yL];congr 1
   unfold jw
   refine List.map_congr_left fun i hi=>?_
   have:=List.mem_range.1 hi
   simp [this]
  rw [y1,y2]
  simp only [cm,cl,bhq,Nat.reduceMod,Nat.reduceDiv,aY,aZ,a0,cb,a9,bY,ca,bV,bW,yaq,yar,yao,yap,go_sem,cL,cA,hgc,cM hb,df,co,dy,hne,e4,iY,ua,ot,ul,List.length_append,ybb]
  refine s9 [(0,.ptr id 0),(5,.ptr (H.nx+1+1+1) 0),(6,.ptr (H.nx+1+1+1+1+1+1) 0),(7,.ptr (H.nx+1+1+1+1+1+1+1+1+1) 0),(9,.ptr (H.nx+1+1+1+1+1+1+1+1+1+1) 0),(10,.slice .any 1 (boL (List.replicate t.keys.length true))),(11,.slice .any 1 (boL (jw b w t.keys.length))),(30,.slice .any 8 (ts.map aq)),(31,.int .i64 (ts.length:Int)),(32,.int .i64 (k:Int))] ((iY H id b v (w+t.keys.length) a1 a2 a3).push (.cells [.int .i64 t.id,.str t.name,.slice .any 3 (t.keys.map aQ),.slice .any 1 (inL t.actions),.int .i64 t.dflt,.slice .any 2 (t.dargs.map vv),.int .i64 t.size,.str t.restr])) ⟨by simp only [zky,hrn,zkk,zkp,om];omega,((AHeap.Le.refl _).push _).push _,hclT _,?_,?_⟩ ?_
  ·simp [ltF,hrn,znh,znj,zmz,zky,zkz,aa gJ,BK]
   omega
  ·have yr1:cP 1 t.keys.length (boL (List.replicate t.keys.length true))=boL (List.replicate t.keys.length true):=by
    have:=n4 (List.replicate t.keys.length true)
    rw [List.length_replicate] at this;exact this
   have yr2:cP 1 t.keys.length (boL (jw b w t.keys.length))=boL (jw b w t.keys.length):=by
    have:=n4 (jw b w t.keys.length)
    rw [show (jw b w t.keys.length).length=t.keys.length by simp [jw]] at this;exact this
   have hn1:∀ w' o,((iY H id b v w' a1 a2 a3).push o).get (H.nx+1+1+1+1+1+1+1+1+1+1+1)=none:=fun w' o=>zmp (by rw [zky,hrn];omega)
   have hn2:∀ w' o,((iY H id b v w' a1 a2 a3).push o).get (H.nx+1+1+1+1+1+1+1+1+1+1+1+1)=none:=fun w' o=>zmp (by rw [zky,hrn];omega)
   simp only [bf,wk2,wk1,wkM,go_sem,yap,yr1,yr2,hn1,hn2,true_or,or_true,and_self]
  simp only [cm,cl,bhq,Nat.reduceMod,Nat.reduceDiv,aY,aZ,a0,cb,a9,bY,ca,bV,bW,yaq,yar,yao,yap,go_sem,cL,cA,hgc,cM hb,df,co,dy,hne,e4,iY,ua,ot,ul,ybb]
  (repeat with_reducible refine And.intro (by first|exact True.intro|decide|omega|(simp [zik,zgl,zgm,zgn,zgp,zgo,zgt];first|done|omega)) ?_)
  have e5:IntKind.i64.wrap ((k:Int)+1)=((k+1:Nat):Int):=by rw [wrap_i64]<;>omega
  refine ai (fun h1=>?_) (fun h1=>?_)
  all_goals
   try simp only [cm,cl,bhq,Nat.reduceMod,Nat.reduceDiv,aY,aZ,a0,cb,a9,bY,ca,bV,bW,yaq,yar,yao,yap,go_sem,cL,cA,hgc,cM hb,df,co,dy,hne,e4,iY,ua,ot,ul,ybb]
   try (repeat with_reducible refine And.intro (by first|exact True.intro|decide|omega|(simp [zik,zgl,zgm,zgn,zgp,zgo,zgt];first|done|omega)) ?_)
   refine ai (fun h2=>?_) (fun h2=>?_)
  all_goals
   try simp only [cm,cl,bhq,Nat.reduceMod,Nat.reduceDiv,aY,aZ,a0,cb,a9,bY,ca,bV,bW,yaq,yar,yao,yap,go_sem,cL,cA,hgc,cM hb,df,co,dy,hne,e4,iY,ua,ot,ul,ybb,e5]
   try (repeat with_reducible refine And.intro (by first|exact True.intro|decide|omega|(simp [zik,zgl,zgm,zgn,zgp,zgo,zgt];first|done|omega)) ?_)
  ·have hp1:(0<cv b (w+t.keys.length) 4)=True:=eq_true (by have h:=of_decide_eq_true h1;simp only [cp,Nat.add_zero] at h;omega)
   have hp2:(cv b (w+(t.keys.length+3)) 2=1)=True:=eq_true (by have h:=of_decide_eq_true h2;unfold cp at h;rw [Nat.add_assoc] at h;exact h)
   rw [hd] at i1 i2 i3 i4
   simp only [dv,hp1,hp2,if_true,if_false,Nat.add_assoc,Nat.reduceAdd] at i1 i2 i3 i4
   have hI:RolI b ts R (k+1) (w+(t.keys.length+6)) (a1++[.agg [.int .i64 t.id,.bool true,.bool true,.slice .any 1 (boL (List.replicate t.keys.length true))]]) (a2++[.agg [.int .i64 t.id,.bool (decide (0<ci b (w+t.keys.length+1) 4)),.bool (decide (cv b (w+t.keys.length+2) 2=1)),.slice .any 1 (boL (jw b w t.keys.length))]]) (a3++[.agg [.int .i64 t.id,.bool (decide (cv b (w+t.keys.length+4) 2=1)),.bool (decide (cv b (w+t.keys.length+5) 2=1)),.slice .any 1 (boL (List.replicate t.keys.length true))]]):=by
    refine ⟨by omega,by (try simp only [List.length_append,yaz,yba]);omega,by (try simp only [List.length_append,yaz,yba]);omega,by (try simp only [List.length_append,yaz,yba]);omega,?_,?_,?_,i4⟩
    ·simpa [ax,Nat.add_assoc] using i1
    ·simpa [ax,Nat.add_assoc] using i2
    ·simpa [ax,Nat.add_assoc] using i3
   refine ⟨(_,_,_,_,_),hI,by dsimp only;omega,by simp only [iY,zky,zkz];omega,?_,i9 hcl hI _,?_,?_⟩
   ·simp only [iY,List.length_append,yaz,yba]
    repeat first|exact .refl _|refine .push ?_ _
   ·simp [ltF,iY,znh,zmz,zky,zkz,aa gJ]
    omega
   ·simp [bf,wk2,wk1,wkM,Fr.get]
  ·have hp1:(0<cv b (w+t.keys.length) 4)=True:=eq_true (by have h:=of_decide_eq_true h1;simp only [cp,Nat.add_zero] at h;omega)
   have hp2:(cv b (w+(t.keys.length+3)) 2=1)=False:=eq_false (by have h:=of_decide_eq_false h2;unfold cp at h;rw [Nat.add_assoc] at h;exact h)
   rw [hd] at i1 i2 i3 i4
   simp only [dv,hp1,hp2,if_true,if_false,Nat.add_assoc,Nat.reduceAdd] at i1 i2 i3 i4
   have hI:RolI b ts R (k+1) (w+(t.keys.length+4)) (a1++[.agg [.int .i64 t.id,.bool true,.bool true,.slice .any 1 (boL (List.replicate t.keys.length true))]]) (a2++[.agg [.int .i64 t.id,.bool (decide (0<ci b (w+t.keys.length+1) 4)),.bool (decide (cv b (w+t.keys.length+2) 2=1)),.slice .any 1 (boL (jw b w t.keys.length))]]) (a3):=by
    refine ⟨by omega,by (try simp only [List.length_append,yaz,yba]);omega,by (try simp only [List.length_append,yaz,yba]);omega,by (try simp only [List.length_append,yaz,yba]);omega,?_,?_,?_,i4⟩
    ·simpa [ax,Nat.add_assoc] using i1
    ·simpa [ax,Nat.add_assoc] using i2
    ·simpa [ax,Nat.add_assoc] using i3
   refine ⟨(_,_,_,_,_),hI,by dsimp only;omega,by simp only [iY,zky,zkz];omega,?_,i9 hcl hI _,?_,?_⟩
   ·simp only [iY,List.length_append,yaz,yba]
    repeat first|exact .refl _|refine .push ?_ _
   ·simp [ltF,iY,znh,zmz,zky,zkz,aa gJ]
    omega
   ·simp [bf,wk2,wk1,wkM,Fr.get]
  ·have hp1:(0<cv b (w+t.keys.length) 4)=False:=eq_false (by have h:=of_decide_eq_false h1;simp only [cp,Nat.add_zero] at h;omega)
   have hp2:(cv b (w+(t.keys.length+1)) 2=1)=True:=eq_true (by have h:=of_decide_eq_true h2;unfold cp at h;rw [Nat.add_assoc] at h;exact h)
   rw [hd] at i1 i2 i3 i4
   simp only [dv,hp1,hp2,if_true,if_false,Nat.add_assoc,Nat.reduceAdd] at i1 i2 i3 i4
   have hI:RolI b ts R (k+1) (w+(t.keys.length+4)) (a1++[.agg [.int .i64 t.id,.bool true,.bool true,.slice .any 1 (boL (List.replicate t.keys.length true))]]) (a2) (a3++[.agg [.int .i64 t.id,.bool (decide (cv b (w+t.keys.length+2) 2=1)),.bool (decide (cv b (w+t.keys.length+3) 2=1)),.slice .any 1 (boL (List.replicate t.keys.length true))]]):=by
    refine ⟨by omega,by (try simp only [List.length_append,yaz,yba]);omega,by (try simp only [List.length_append,yaz,yba]);omega,by (try simp only [List.length_append,yaz,yba]);omega,?_,?_,?_,i4⟩
    ·simpa [ax,Nat.add_assoc] using i1
    ·simpa [ax,Nat.add_assoc] using i2
    ·simpa [ax,Nat.add_assoc] using i3
   refine ⟨(_,_,_,_,_),hI,by dsimp only;omega,by simp only [iY,zky,zkz];omega,?_,i9 hcl hI _,?_,?_⟩
   ·simp only [iY,List.length_append,yaz,yba]
    repeat first|exact .refl _|refine .push ?_ _
   ·simp [ltF,iY,znh,zmz,zky,zkz,aa gJ]
    omega
   ·simp [bf,wk2,wk1,wkM,Fr.get]
  ·have hp1:(0<cv b (w+t.keys.length) 4)=False:=eq_false (by have h:=of_decide_eq_false h1;simp only [cp,Nat.add_zero] at h;omega)
   have hp2:(cv b (w+(t.keys.length+1)) 2=1)=False:=eq_false (by have h:=of_decide_eq_false h2;unfold cp at h;rw [Nat.add_assoc] at h;exact h)
   rw [hd] at i1 i2 i3 i4
   simp only [dv,hp1,hp2,if_true,if_false,Nat.add_assoc,Nat.reduceAdd] at i1 i2 i3 i4
   have hI:RolI b ts R (k+1) (w+(t.keys.length+2)) (a1++[.agg [.int .i64 t.id,.bool true,.bool true,.slice .any 1 (boL (List.replicate t.keys.length true))]]) (a2) (a3):=by
    refine ⟨by omega,by (try simp only [List.length_append,yaz,yba]);omega,by (try simp only [List.length_append,yaz,yba]);omega,by (try simp only [List.length_append,yaz,yba]);omega,?_,?_,?_,i4⟩
    ·simpa [ax,Nat.add_assoc] using i1
    ·simpa [ax,Nat.add_assoc] using i2
    ·simpa [ax,Nat.add_assoc] using i3
   refine ⟨(_,_,_,_,_),hI,by dsimp only;omega,by simp only [iY,zky,zkz];omega,?_,i9 hcl hI _,?_,?_⟩
   ·simp only [iY,List.length_append,yaz,yba]
    repeat first|exact .refl _|refine .push ?_ _
   ·simp [ltF,iY,znh,zmz,zky,zkz,aa gJ]
    omega
   ·simp [bf,wk2,wk1,wkM,Fr.get]
 ·have hk':k=ts.length:=by simp at hc;omega
  subst hk'
  simp only [bhq,Nat.reduceMod,Nat.reduceDiv,aY,aZ,a0,cb,a9,bY,ca,bV,bW,yaq,yar,yao,yap,go_sem,iY,ua,ot,ul]
  (repeat with_reducible refine And.intro (by first|exact True.intro|decide|omega|(simp [zik,zgl,zgm,zgn,zgp,zgo,zgt];first|done|omega)) ?_)
  simp only [List.drop_length,dv,yaf,yaj] at i1 i2 i3 i4
  subst i4
  refine g8 4 res ?_ ?_
  ·rw [← hres]
   simp only [iQ,hR]
   simp [Fr.get,aJ,inL,i1,i2,i3,cp,AV.cells,jR,fI,fJ,gA,gH,iD,jk,ju,iR,wkM,lk]
  simp only [bhq,Nat.reduceMod,Nat.reduceDiv,aY,aZ,a0,cb,a9,bY,ca,bV,bW,yaq,yar,yao,yap,go_sem]
  subst hres
  refine ⟨?_,?_,hcl2 _,aa yB⟩
  ·simp [wk,wk2,wk1,wkM]
  ·repeat first|exact .refl _|refine .push ?_ _
end Go.AL
open Go Go.AL Go.Proofs
namespace Go.AL
set_option linter.all false
set_option maxRecDepth 10000
/-- what a function takes from the choices does not depend on the place behind their end -/
def rZ (g:List UInt8→Nat→AV × Nat):Prop:=∀ b v,(g b (min v b.length)).1=(g b v).1∧∃ c,(g b (min v b.length)).2=min v b.length+c∧(g b v).2=v+c
def onS (o:Option AObj) (g:List UInt8→Nat→AV × Nat) (K:AV→AObj→Prop):Prop:=onC o fun b v=>K (g b v).1 (f8 b (g b v).2)
@[congr] theorem Hm {o o':Option AObj} {g:List UInt8→Nat→AV × Nat} {K:AV→AObj→Prop} (h:o=o'):onS o g K=onS o' g K:=by rw [h]
theorem eB {b:List UInt8} {v:Nat} {g:List UInt8→Nat→AV × Nat} {K:AV→AObj→Prop} (hb:b.length≤1000000) (hg:rZ g):onS (some (f8 b v)) g K=K (g b v).1 (f8 b (g b v).2):=by
 unfold onS
 rw [cM hb]
 obtain ⟨h1,c,h2,h3⟩:=hg b v
 rw [h1,h2,h3,co]
theorem ph {g:List UInt8→Nat→AV × Nat} {id:Nat} {H:AHeap} {K:AEnd→AHeap→Prop}:eG g [.ptr id 0] H K=onS (H.get id) g fun x o=>K (.ret x) (H.set id o):=(rfl)
def mB:List UInt8→Nat→AV × Nat:=fun b v=>(.slice .any 5 ((cq b v).1.map ak),(cq b v).2)
def lv:List UInt8→Nat→AV × Nat:=fun b v=>(.slice .any 5 ((dW b v).map ah),v+4)
def mv:List UInt8→Nat→AV × Nat:=fun b v=>(.slice .any 8 ((cT b v).map aq),v+12)
def oF (ts:List STable):List UInt8→Nat→AV × Nat:=fun b v=>(.slice .any 6 ((iQ b v ts).1.map aJ),(iQ b v ts).2)
theorem kp:rZ mB:=fun b v=>by
 have e:cq b (min v b.length)=((cq b v).1,(cq b v).2 - v+min v b.length):=by
  unfold cq
  simp only [jH,df]
  repeat' split
  all_goals (refine Prod.ext rfl ?_;dsimp only;omega)
 have h:∃ c,(cq b v).2=v+c:=by
  unfold cq
  repeat' split
  all_goals exact ⟨_,rfl⟩
 obtain ⟨c,hc⟩:=h
 unfold mB
 dsimp only
 rw [e]
 exact ⟨rfl,c,by dsimp only;omega,hc⟩
theorem jE:rZ lv:=fun b v=>by
 have e:dW b (min v b.length)=dW b v:=by unfold dW ci;simp only [jH,df]
 unfold lv
 dsimp only
 rw [e]
 exact ⟨rfl,4,rfl,rfl⟩
theorem km:rZ mv:=fun b v=>by
 have e:cT b (min v b.length)=cT b v:=by unfold cT fC fo dj dk ci;simp only [jH,df]
 unfold mv
 dsimp only
 rw [e]
 exact ⟨rfl,12,rfl,rfl⟩
theorem nj {b:List UInt8} {v k n:Nat}:jw b (min v b.length+k) n=jw b (v+k) n:=by
 unfold jw
 refine List.map_congr_left fun i _=>?_
 rw [Nat.add_assoc,Nat.add_assoc]
 unfold ci
 rw [jH]
theorem jY {b:List UInt8} {v:Nat}:∀ (ts:List STable) (k:Nat),(dv b ts (min v b.length+k)).1=(dv b ts (v+k)).1∧∃ c,(dv b ts (min v b.length+k)).2=min v b.length+c∧(dv b ts (v+k)).2=v+c
 |[],k=>⟨rfl,k,rfl,rfl⟩
 |t::ts,k=>by
  have hb:∀ j n,cv b (min v b.length+j) n=cv b (v+j) n:=fun j n=>jH
  by_cases h1:0<cv b (v+(k+t.keys.length)) 4
  ·by_cases h2:cv b (v+(k+t.keys.length+3)) 2=1
   ·obtain ⟨i1,c,i2,i3⟩:=jY ts (k+t.keys.length+3+3)
    simp only [Nat.add_assoc,Nat.reduceAdd] at i1 i2 i3 h1 h2
    simp only [dv,Nat.add_assoc,Nat.reduceAdd,hb,ci,h1,h2,if_true,nj]
    rw [i1]
    exact ⟨rfl,c,i2,i3⟩
   ·obtain ⟨i1,c,i2,i3⟩:=jY ts (k+t.keys.length+3+1)
    simp only [Nat.add_assoc,Nat.reduceAdd] at i1 i2 i3 h1 h2
    simp only [dv,Nat.add_assoc,Nat.reduceAdd,hb,ci,h1,h2,if_true,if_false,nj]
    rw [i1]
    exact ⟨rfl,c,i2,i3⟩
  ·by_cases h2:cv b (v+(k+t.keys.length+1)) 2=1
   ·obtain ⟨i1,c,i2,i3⟩:=jY ts (k+t.keys.length+1+3)
    simp only [Nat.add_assoc,Nat.reduceAdd] at i1 i2 i3 h1 h2
    simp only [dv,Nat.add_assoc,Nat.reduceAdd,hb,ci,h1,h2,if_true,if_false,nj]
    rw [i1]
    exact ⟨rfl,c,i2,i3⟩
   ·obtain ⟨i1,c,i2,i3⟩:=jY ts (k+t.keys.length+1+1)
    simp only [Nat.add_assoc,Nat.reduceAdd] at i1 i2 i3 h1 h2
    simp only [dv,Nat.add_assoc,Nat.reduceAdd,hb,ci,h1,h2,if_true,if_false,nj]
    rw [i1]
    exact ⟨rfl,c,i2,i3⟩
theorem mC (ts:List STable):rZ (oF ts):=fun b v=>by
 obtain ⟨i1,c,i2,i3⟩:=jY (b:=b) (v:=v) ts 4
 unfold oF iQ
 dsimp only
 rw [i1]
 unfold ci
 simp only [jH,df]
 exact ⟨trivial,c,i2,i3⟩
theorem zG {b:List UInt8} {v:Nat}:(mB b v).1=.slice .any 5 ((cq b v).1.map ak):=(rfl)
theorem zT {b:List UInt8} {v:Nat}:(mB b v).2=(cq b v).2:=(rfl)
theorem Af {b:List UInt8} {v:Nat}:(lv b v).1=.slice .any 5 ((dW b v).map ah):=(rfl)
theorem Aq {b:List UInt8} {v:Nat}:(lv b v).2=cp v 4:=(rfl)
theorem Ax {b:List UInt8} {v:Nat}:(mv b v).1=.slice .any 8 ((cT b v).map aq):=(rfl)
theorem zQ {b:List UInt8} {v:Nat}:(mv b v).2=cp v 12:=(rfl)
theorem Bt {b:List UInt8} {v:Nat} {ts:List STable}:(oF ts b v).1=.slice .any 6 ((iQ b v ts).1.map aJ):=(rfl)
theorem Cn {b:List UInt8} {v:Nat} {ts:List STable}:(oF ts b v).2=cp (iQ b v ts).2 0:=(rfl)
theorem tM {v k n:Nat}:cp (cp v k) n=cp v (k+n):=by unfold cp;omega
theorem tg2 {b:List UInt8} {w:Nat}:(List.map aq (cT b w)).getD 2 .junk=.agg [.int .i64 (dj b w).id,.str (dj b w).name,.slice .any 3 ((dj b w).keys.map aQ),.slice .any 1 (inL (dj b w).actions),.int .i64 (dj b w).dflt,.slice .any 2 ((dj b w).dargs.map vv),.int .i64 (dj b w).size,.str (dj b w).restr]:=(rfl)
theorem tg3 {b:List UInt8} {w:Nat}:(List.map aq (cT b w)).getD 3 .junk=.agg [.int .i64 (dk b w).id,.str (dk b w).name,.slice .any 3 ((dk b w).keys.map aQ),.slice .any 1 (inL (dk b w).actions),.int .i64 (dk b w).dflt,.slice .any 2 ((dk b w).dargs.map vv),.int .i64 (dk b w).size,.str (dk b w).restr]:=(rfl)
theorem tgl {b:List UInt8} {w:Nat}:(cT b w).length=4:=(rfl)
theorem k2l {b:List UInt8} {w:Nat}:(((dj b w).keys.length:Int)==3)=decide (cv b (cp w 5) 2=1):=by
 by_cases h:cv b (w+5) 2=1<;>simp [dj,cp,h]
theorem k3l {b:List UInt8} {w:Nat}:(((dk b w).keys.length:Int)==3)=decide (cv b (cp w 7) 2=1):=by
 by_cases h:cv b (w+7) 2=1<;>simp [dk,cp,h]
def GA (p:Prop):Bool→Prop|true=>p|false=>¬ p
theorem o9 {p:Prop} [Decidable p] {t:Bool} (h:decide p=t):GA p t:=by
 cases t
 ·exact (of_decide_eq_false h:¬ p)
 ·exact (of_decide_eq_true h:p)
theorem B6 {id:Nat} {ts:List STable} {H:AHeap} {K:AEnd→AHeap→Prop} (h1:ts.length≤100) (h2:∀ t∈ts,t.keys.length≤100) (h:onS (H.get id) (oF ts) fun x o=>K (.ret x) (H.set id o)) :
 rf [.ptr id 0,.slice .any 8 (ts.map aq)] H K:=⟨ts,⟨rfl,h1,h2⟩,h⟩
def pu:=eG fun b v=>(cN (gT b v).1,(gT b v).2)
theorem yy:EntOk Tryz.prog 9 (Ent.effect pu):=by
 unfold pu
 refine EntOk.effect fun args H K h=>?_
 unfold eG at h
 split at h
 rotate_left
 ·exact h.elim
 rename_i id
 obtain ⟨b,v,hg,hb,hv,hK⟩:=lP h
 refine ⟨_,_,hK,?_⟩
 clear hK
 dsimp only
 generalize hS:(gT b v).1=S
 generalize hpos:(gT b v).2=pos
 refine ACalls.fW aB (TblOk.cons li (TblOk.cons lF (TblOk.cons xH (TblOk.cons vu (TblOk.cons yl (TblOk.cons Bj TblOk.nil)))))) Tryz.func9 [.cell 2 35] (Nat.le_refl _) (T:=ay [(15,[[4]])]) (h:=fun hcl hlt=>?_)
 clear hlt
 have hid:=AHeap.get_lt hg
 have hne:=pX hid
 have hne2:=pX (show id<H.nx+1+1+1+1+1+1+1+1+1+1+1+1+1+1+1+1 by omega)
 have hgc:=mH (b:=b) hid
 have hcl2:∀ w,(H.set id (f8 b w)).Closed:=fun w=>bS hcl ka
 have e8:(8:Int).toNat=8:=rfl
 have e30:(30:Int).toNat=30:=rfl
 have w1:∀ (u n:Nat) (k:Int),0<n→n≤100→0≤k→k≤100→IntKind.i64.wrap (k+((cv b u n:Nat):Int))=k+((cv b u n:Nat):Int):=fun u n k h1 h2 h3 h4=>by
  have:=fH (b:=b) (v:=u) (n:=n) h1
  rw [wrap_i64 (by omega) (by omega)]
 have a28:∀ u,IntKind.i64.wrap (2+((cv b u 8:Nat):Int))=2+((cv b u 8:Nat):Int):=fun u=>w1 u 8 2 (by decide) (by decide) (by decide) (by decide)
 have a30:∀ u,IntKind.i64.wrap (12+((cv b u 30:Nat):Int))=12+((cv b u 30:Nat):Int):=fun u=>w1 u 30 12 (by decide) (by decide) (by decide) (by decide)
 have es1:pl=eG mB:=rfl
 have es2:nT=eG lv:=rfl
 have es3:pJ=eG mv:=rfl
 simp only [go_sem,bhq,Nat.reduceMod,Nat.reduceDiv,aY,aZ,a0,cb,a9,bY,ca,bV,bW,yaq,yar,yao,yap,cL,cA,es1,es2,es3,ph,eB hb kp,eB hb jE,eB hb km,zG,zT,Af,Aq,Ax,zQ,tM,hg,hgc,cM hb,df,co,dy,hne,hne2,e8,e30,a28,a30]
 (repeat with_reducible refine And.intro (by first|exact True.intro|decide|omega|(simp [zik,zgl,zgm,zgn,zgp,zgo,zgt];first|done|omega)) ?_)
 refine B6 (by simp [cT]) (fun t ht=>?_) ?_
 ·simp only [cT,List.mem_cons,List.not_mem_nil,or_false] at ht
  rcases ht with rfl|rfl|rfl|rfl<;>simp only [fC,fo,dj,dk]<;>(try split)<;>simp
 simp only [cm,cl,go_sem,bhq,Nat.reduceMod,Nat.reduceDiv,aY,aZ,a0,cb,a9,bY,ca,bV,bW,yaq,yar,yao,yap,cL,cA,es1,es2,es3,ph,eB hb kp,eB hb jE,eB hb km,zG,zT,Af,Aq,Ax,zQ,tM,hg,hgc,cM hb,df,co,dy,hne,hne2,e8,e30,a28,a30,eB hb (mC _),Bt,Cn,Int.toNat_natCast]
 refine ai (fun h1=>?_) (fun h1=>?_)
 all_goals
  simp only [cm,cl,go_sem,bhq,Nat.reduceMod,Nat.reduceDiv,aY,aZ,a0,cb,a9,bY,ca,bV,bW,yaq,yar,yao,yap,cL,cA,es1,es2,es3,ph,eB hb kp,eB hb jE,eB hb km,zG,zT,Af,Aq,Ax,zQ,tM,hg,hgc,cM hb,df,co,dy,hne,hne2,e8,e30,a28,a30,eB hb (mC _),Bt,Cn,Int.toNat_natCast,tg2,tg3,tgl,k2l,k3l]
  try (repeat with_reducible refine And.intro (by first|exact True.intro|decide|omega|(simp [zik,zgl,zgm,zgn,zgp,zgo,zgt];first|done|omega)) ?_)
  refine ai (fun h2=>?_) (fun h2=>?_)
 all_goals
  simp only [cm,cl,go_sem,bhq,Nat.reduceMod,Nat.reduceDiv,aY,aZ,a0,cb,a9,bY,ca,bV,bW,yaq,yar,yao,yap,cL,cA,es1,es2,es3,ph,eB hb kp,eB hb jE,eB hb km,zG,zT,Af,Aq,Ax,zQ,tM,hg,hgc,cM hb,df,co,dy,hne,hne2,e8,e30,a28,a30,eB hb (mC _),Bt,Cn,Int.toNat_natCast,tg2,tg3,tgl,k2l,k3l]
  try (repeat with_reducible refine And.intro (by first|exact True.intro|decide|omega|(simp [zik,zgl,zgm,zgn,zgp,zgo,zgt];first|done|omega)) ?_)
  refine cS (fun h3=>?_) (fun h3=>?_)
 all_goals
  try (repeat with_reducible refine And.intro (by first|exact True.intro|decide|omega|(simp [zik,zgl,zgm,zgn,zgp,zgo,zgt];first|done|omega)) ?_)
  try refine ai (fun h4=>?_) (fun h4=>?_)
 all_goals
  try simp only [cm,cl,go_sem,bhq,Nat.reduceMod,Nat.reduceDiv,aY,aZ,a0,cb,a9,bY,ca,bV,bW,yaq,yar,yao,yap,cL,cA,es1,es2,es3,ph,eB hb kp,eB hb jE,eB hb km,zG,zT,Af,Aq,Ax,zQ,tM,hg,hgc,cM hb,df,co,dy,hne,hne2,e8,e30,a28,a30,eB hb (mC _),Bt,Cn,Int.toNat_natCast,tg2,tg3,tgl,k2l,k3l]
  try (repeat with_reducible refine And.intro (by first|exact True.intro|decide|omega|(simp [zik,zgl,zgm,zgn,zgp,zgo,zgt];first|done|omega)) ?_)
  refine cS (fun h5=>?_) (fun h5=>?_)
 all_goals
  try (repeat with_reducible refine And.intro (by first|exact True.intro|decide|omega|(simp [zik,zgl,zgm,zgn,zgp,zgo,zgt];first|done|omega)) ?_)
  try refine ai (fun h6=>?_) (fun h6=>?_)
 all_goals
  try simp only [cm,cl,go_sem,bhq,Nat.reduceMod,Nat.reduceDiv,aY,aZ,a0,cb,a9,bY,ca,bV,bW,yaq,yar,yao,yap,cL,cA,es1,es2,es3,ph,eB hb kp,eB hb jE,eB hb km,zG,zT,Af,Aq,Ax,zQ,tM,hg,hgc,cM hb,df,co,dy,hne,hne2,e8,e30,a28,a30,eB hb (mC _),Bt,Cn,Int.toNat_natCast,tg2,tg3,tgl,k2l,k3l]
  try (repeat with_reducible refine And.intro (by first|exact True.intro|decide|omega|(simp [zik,zgl,zgm,zgn,zgp,zgo,zgt];first|done|omega)) ?_)
  replace h1:=o9 h1
  replace h2:=o9 h2
  replace h3:=o9 h3
  replace h5:=o9 h5
  try replace h4:=o9 h4
  try replace h6:=o9 h6
  refine g8 101 (.agg (bL S)) ?_ ?_
  ·rw [← hS]
   simp only [GA] at h1 h2 h3 h5
   try simp only [GA] at h4
   try simp only [GA] at h6
   simp [*,Fr.get,bL,gT,gFields,gHeaders,ar,aj,az,aR,inL,AV.cells,jR,fI,fJ,gA,gH,iD,jk,ju,iR,wkM,lk]
  simp only [bhq,Nat.reduceMod,Nat.reduceDiv,aY,aZ,a0,cb,a9,bY,ca,bV,bW,yaq,yar,yao,yap,go_sem,bL]
  refine ⟨?_,?_,hcl2 _,ks S⟩
  ·simp [cN,bL,wk,wk2,wkL,wk1,wkM]
  ·rw [← hpos]
   repeat first|exact .refl _|refine .push ?_ _
end Go.AL
