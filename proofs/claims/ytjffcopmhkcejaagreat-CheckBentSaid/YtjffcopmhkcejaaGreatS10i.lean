/- Lemmas of the proof; no condition. -/
import Derived.Test.YtjffcopmhkcejaaGreatS10c
import Derived.Test.YtjffcopmhkcejaaGreatLEntB
set_option linter.all false
set_option maxRecDepth 10000
set_option maxHeartbeats 32000000
open Go Go.AL Go.Proofs
namespace Go.AL
def vE:ECt
 |[.ptr id 0,.slice .any 8 l],H,K=>∃ ts:List STable,(l=ts.map au∧ts.length≤100∧∀ t∈ts,t.keys.length≤100)∧onC (H.get id) fun b v=>K (.ret (.slice .any 6 ((jV b v ts).1.map aP))) (H.set id (il b (jV b v ts).2))
 |_,_,_=>False
def bfN(n:Nat)(f:Nat→Bool):Wz:=(List.range n).map fun i=>.bool (f i)
def EP{n:Nat}{f:Nat→Bool}:(bfN n f).length=n:=by simp[bfN]
def EC{n:Nat}{f g:Nat→Bool}{i:Nat}{b:Bool}(h:∀ j,j<n→g j=if j=i then b else f j):(bfN n f).set i (.bool b)=bfN n g:=by
 apply List.ext_getElem
 ·simp[bfN]
 ·intro j h1 h2
  have hj:j<n:=by simpa[bfN]using h2
  rw[List.getElem_set]
  simp only[bfN,List.getElem_map,List.getElem_range,h j hj]
  by_cases e:i=j
  ·subst e;simp
  ·rw[if_neg e,if_neg (fun x=>e x.symm)]
def NC{n:Nat}:(List.replicate n [AV.bool false]).flatten=bfN n fun _=>false:=by
 induction n with
 |zero=>rfl
 |succ n ih =>
  rw[List.replicate_succ,List.flatten_cons,ih]
  apply List.ext_getElem
  ·simp[bfN]
  ·intro j h1 h2
   cases j<;>simp[bfN]
def DP{n:Nat}{f:Nat→Bool}:bfN n f=boL ((List.range n).map f):=by simp[bfN,boL]
theorem EF{m n:Nat}{f:Nat→Bool}:ltL m (bfN n f)=True:=eq_true (ltL_iff.2 fun j hj=>by
 simp only[bfN,List.getElem_map]
 rw[AV.lt]<;>simp)
theorem pG:∀(l:List Bool),dh 1 l.length (boL l)=boL l
 |[]=>rfl
 |x::l=>by
  rw[yaz,dh,if_pos rfl]
  have:=pG l
  simp only[boL,yae,yao,yap,yau,pK]at this ⊢
  rw[this]
theorem y0{α:Type}{n:Nat}{f:α→AV}{a c:Wz}{l:List α}(h:a++c=l.map f)(hf:∀ x,AV.lt n (f x)):ltL n a=True:=eq_true (ltL_iff.2 fun j hj=>by
 have:a[j]∈l.map f:=by rw[← h];exact List.mem_append_left _ (gMq hj)
 obtain⟨x,_,e⟩:=List.mem_map.1 this
 rw[← e];exact hf x)
def zJ(i j:Nat)(g:Wz):Wz:=[.int .i64 1,.str [97,108,108],.slice (.own i) 4 g,.slice (.own j) 1 [.int .i64 1,.int .i64 2,.int .i64 3,.int .i64 4,.int .i64 5,.int .i64 6],.int .i64 40,.bool true]
def tk(b:By)(v i j:Nat)(g:Wz):Wz:=[.int .i64 2,.str [115,111,109,101],.slice (.own i) 4 g,.slice (.own j) 1 [.int .i64 1,.int .i64 2,.int .i64 (3+ci b (cp v 0) 3)],.int .i64 (1+ci b (cp v 1) 6),.bool false]
def zu(b:By)(v i j:Nat)(g:Wz):Wz:=[.int .i64 7,.str [102,101,119],.slice (.own i) 4 g,.slice (.own j) 1 [.int .i64 (1+ci b (cp v 2) 6)],.int .i64 (ci b (cp v 3) 4),.bool false]
def kM(H:AHeap)(id:Nat)(b:By)(v w:Nat)(a1 a2 a3:Wz):AHeap :=
 (((((((((((H.set id (il b (cp w 0))).push (.buf 6 0)).push (.buf 1 6)).push (.buf 4 a1.length)).push (.cells (zJ (H.nx+1+1) (H.nx+1) a1))).push (.buf 1 3)).push (.buf 4 a2.length)).push (.cells (tk b v (H.nx+1+1+1+1+1) (H.nx+1+1+1+1) a2))).push (.buf 1 1)).push (.buf 4 a3.length)).push (.cells (zu b v (H.nx+1+1+1+1+1+1+1+1) (H.nx+1+1+1+1+1+1+1) a3)))
structure RolI(b:By)(ts:List STable)(R:(List SGrant × List SGrant × List SGrant) × Nat)(k w:Nat)(a1 a2 a3:Wz):Prop where
 le:k≤ts.length
 l1:a1.length≤k
 l2:a2.length≤k
 l3:a3.length≤k
 e1:a1++(eJ b (ts.drop k) w).1.1.map aK=R.1.1.map aK
 e2:a2++(eJ b (ts.drop k) w).1.2.1.map aK=R.1.2.1.map aK
 e3:a3++(eJ b (ts.drop k) w).1.2.2.map aK=R.1.2.2.map aK
 e4:(eJ b (ts.drop k) w).2=R.2
def kN{H:AHeap}{id:Nat}{b:By}{ts:List STable}{R:(List SGrant × List SGrant × List SGrant) × Nat}{v k w:Nat}{a1 a2 a3:Wz}(hcl:H.Closed)(h:RolI b ts R k w a1 a2 a3)(w':Nat):(kM H id b v w' a1 a2 a3).Closed:=by
 have q1:=fun n=>y0 (n:=n) h.e1 gf
 have q2:=fun n=>y0 (n:=n) h.e2 gf
 have q3:=fun n=>y0 (n:=n) h.e3 gf
 unfold kM
 repeat' (first|exact bA hcl ma|refine aY ?_|refine ah ?_ ?_)
 all_goals simp[zJ,tk,zu,cI,zns,znt,znd,znf,zne,zlc,zld,q1,q2,q3]
 all_goals omega
def Gl:EEe 15 vE:=by
 refine Yef fun _ H K h=>?_
 unfold vE at h
 split at h<;>try exact h.elim
 rename_i id l
 obtain⟨ts,⟨rfl,hts,htk⟩,h⟩:=h
 obtain⟨b,v,hg,hb,hv,hK⟩:=pm h
 refine⟨_,_,hK,?_⟩
 clear hK
 generalize hres:AV.slice .any 6 ((jV b v ts).1.map aP)=res
 generalize hR:eJ b ts (v+4)=R
 have hend:(jV b v ts).2=R.2:=by rw[← hR];rfl
 rw[hend]
 refine Yfw aD (tCq oD (tCq oM tNq)) Tryz.func15 [.tmp 4] (nrq _) (T:=aC [(16,[[],[],[],[],[],[],[],[],[5],[],[],[3,5,8],[1,3,5,8],[],[1,3,5,8]]),(18,[[],[],[],[],[],[],[],[5],[],[],[3,5,7],[1,3,5,7],[],[1,3,5,7]]),(1,[[7]]),(2,[[25]]),(3,[[22]]),(14,[[1]]),(20,[[16]])]) (h:=fun hcl=>?_)
 have hid:=glq hg
 have hne:=ug hid
 have hgc:=qx (b:=b) hid
 have hcl2:∀ w,(H.set id (il b w)).Closed:=fun w=>bA hcl ma
 have e2:(2:Int).toNat=2:=rfl
 have e3:(3:Int).toNat=3:=rfl
 have e4:(4:Int).toNat=4:=rfl
 have e6:(6:Int).toNat=6:=rfl
 have w1:∀(u n:Nat)(k:Int),0<n→n≤100→0≤k→k≤100→IntKind.i64.wrap (k+((cv b u n:Nat):Int))=k+((cv b u n:Nat):Int):=fun u n k h1 h2 h3 h4=>by
  exact Y129
 have a33:∀ u,IntKind.i64.wrap (3+((cv b u 3:Nat):Int))=3+((cv b u 3:Nat):Int):=fun u=>w1 u 3 3 Xb Xb Xb Xb
 have a16:∀ u,IntKind.i64.wrap (1+((cv b u 6:Nat):Int))=1+((cv b u 6:Nat):Int):=fun u=>w1 u 6 1 Xb Xb Xb Xb
 simp only[go_sem,bhq,yaq,yar,yao,yap,dB,dj,hg,hgc,dm hb,eQ,cU,fw,hne,e2,e3,e4,e6,a33,a16]
 refine vB 14 2 4 _ rfl rfl ?_
 refine Tq27 ?_
 refine Tq7 ?_
 refine vB 22 2 4 _ rfl rfl ?_
 refine Tq27 ?_
 refine Tq7 ?_
 refine vB 29 2 4 _ rfl rfl ?_
 refine Tq27 ?_
 refine aG (A:=Nat × Nat × Wz × Wz × Wz) (fun x=>[(0,.ptr id 0),(5,.ptr (H.nx+1+1+1) 0),(6,.ptr (H.nx+1+1+1+1+1+1) 0),(7,.ptr (H.nx+1+1+1+1+1+1+1+1+1) 0),(30,.slice .any 8 (ts.map au)),(31,.int .i64 (ts.length:Int)),(32,.int .i64 (x.1:Int))]) (fun x=>kM H id b v x.2.1 x.2.2.1 x.2.2.2.1 x.2.2.2.2) (fun x=>RolI b ts R x.1 x.2.1 x.2.2.1 x.2.2.2.1 x.2.2.2.2) (fun x=>ts.length-x.1) (0,v+4,[],[],[]) ⟨Xa,Xc,Xc,Xc,by rw[← hR];rfl,by rw[← hR];rfl,by rw[← hR];rfl,by rw[← hR];rfl⟩ ?_ fun x hx=>?_
 ·refine⟨by simp only[kM,zlc,zld,zko,zkt];omega,lRq _,kN (ts:=ts) (R:=R) (k:=0) (w:=v+4) hcl ⟨Xa,Xc,Xc,Xc,by rw[← hR];rfl,by rw[← hR];rfl,by rw[← hR];rfl,by rw[← hR];rfl⟩ _,?_,?_⟩
  ·exact Y112
  ·exact Y14
 obtain⟨k,w,a1,a2,a3⟩:=x
 dsimp only at hx ⊢
 have hclo:=fun w'=>kN (id:=id) (v:=v) hcl hx w'
 obtain⟨hk,l1,l2,l3,i1,i2,i3,i4⟩:=hx
 refine Tq20 ?_
 refine ax (fun hc=>?_) (fun hc=>?_)
 ·have hk':k<ts.length:=sHc
  obtain⟨t,ht⟩:∃ t,t=ts[k]:=⟨_,rfl⟩
  have hd:ts.drop k=t::ts.drop (k+1):=by rw[ht];exact dcq hk'
  have hkl:t.keys.length≤100:=htk t (by rw[ht];exact gMq hk')
  have htg:(ts.map au).getD k .junk=.agg [.int .i64 t.id,.str t.name,.slice .any 3 (t.keys.map aZ),.slice .any 1 (inL t.actions),.int .i64 t.dflt,.slice .any 2 (t.dargs.map vv),.int .i64 t.size,.str t.restr]:=by
   rw[gEq,List.getElem?_map,gQq hk',← ht];rfl
  have hT:∀ n,ltL n ([.int .i64 t.id,.str t.name,.slice .any 3 (t.keys.map aZ),.slice .any 1 (inL t.actions),.int .i64 t.dflt,.slice .any 2 (t.dargs.map vv),.int .i64 t.size,.str t.restr]:Wz):=fun n=>ltL_iff.2 fun j hj=>AV.lt_cells (cZ t) j hj
  have hclT:∀ w',((kM H id b v w' a1 a2 a3).push (.cells [.int .i64 t.id,.str t.name,.slice .any 3 (t.keys.map aZ),.slice .any 1 (inL t.actions),.int .i64 t.dflt,.slice .any 2 (t.dargs.map vv),.int .i64 t.size,.str t.restr])).Closed:=fun w'=>ah (hclo w') (hT _)
  have hclo2:∀ w' f g,((((kM H id b v w' a1 a2 a3).push (.cells [.int .i64 t.id,.str t.name,.slice .any 3 (t.keys.map aZ),.slice .any 1 (inL t.actions),.int .i64 t.dflt,.slice .any 2 (t.dargs.map vv),.int .i64 t.size,.str t.restr])).push (.cells (bfN t.keys.length f))).push (.cells (bfN t.keys.length g))).Closed:=fun w' f g =>
   ah (ah (hclT w') (by simp[EF])) (by simp[EF])
  have hrn:∀ w',(kM H id b v w' a1 a2 a3).nx=(H.nx+1+1+1+1+1+1+1+1+1+1):=fun _=>rfl
  simp only[go_sem,kM,zJ,tk,zu,htg,iNq,ybb,NC,EP]
  refine Tq7 ?_
  refine aG (A:=Nat) (fun j=>[(0,.ptr id 0),(5,.ptr (H.nx+1+1+1) 0),(6,.ptr (H.nx+1+1+1+1+1+1) 0),(7,.ptr (H.nx+1+1+1+1+1+1+1+1+1) 0),(9,.ptr (H.nx+1+1+1+1+1+1+1+1+1+1) 0),(10,.ms (H.nx+1+1+1+1+1+1+1+1+1+1+1) 0 1 t.keys.length),(11,.ms (H.nx+1+1+1+1+1+1+1+1+1+1+1+1) 0 1 t.keys.length),(30,.slice .any 8 (ts.map au)),(31,.int .i64 (ts.length:Int)),(32,.int .i64 (k:Int)),(45,.int .i64 (t.keys.length:Int)),(46,.int .i64 (j:Int))]) (fun j=>(((kM H id b v (w+j) a1 a2 a3).push (.cells [.int .i64 t.id,.str t.name,.slice .any 3 (t.keys.map aZ),.slice .any 1 (inL t.actions),.int .i64 t.dflt,.slice .any 2 (t.dargs.map vv),.int .i64 t.size,.str t.restr])).push (.cells (bfN t.keys.length fun i=>decide (i<j)))).push (.cells (bfN t.keys.length fun i=>decide (i<j)&&decide (ci b (w+i) 4>0)))) (fun j=>j≤t.keys.length) (fun j=>t.keys.length-j) 0 Xa ?_ fun j hj=>?_
  ·simp only[Nat.not_lt_zero,decide_false,Bool.false_and]
   refine⟨by simp only[zlc,hrn,zko,zkt];omega,lRq _,hclo2 _ _ _,?_,?_⟩
   ·simp[ltF,hrn,znl,znn,znd,zlc,zld,aa cZ]
    omega
   ·exact Y14
  refine Tq20 ?_
  refine ax (fun hc2=>?_) (fun hc2=>?_)
  ·have hj':j<t.keys.length:=by simp at hc2;omega
   have e5:IntKind.i64.wrap ((j:Int)+1)=((j+1:Nat):Int):=Xe
   have hs1:(bfN t.keys.length fun i=>decide (i<j)).set j (.bool true)=bfN t.keys.length fun i=>decide (i<j+1):=EC fun i hi=>by
    by_cases e:i=j
    ·subst e;simp
    ·rw[if_neg e,decide_eq_decide];omega
   have hs2:(bfN t.keys.length fun i=>decide (i<j)&&decide (ci b (w+i) 4>0)).set j (.bool (decide (ci b (cp (w+j) 0) 4>0)))=bfN t.keys.length fun i=>decide (i<j+1)&&decide (ci b (w+i) 4>0):=EC fun i hi=>by
    by_cases e:i=j
    ·subst e;simp[cp]
    ·rw[if_neg e];congr 1;rw[decide_eq_decide];omega
   simp only[aX,aA,bhq,go_sem,dB,dj,hgc,dm hb,eQ,cU,fw,hne,e4,kM,zJ,tk,zu,lAq,ybb,iNq,EP,lS,nzq,Nat.mul_one,hs1,hs2,e5]
   refine Tq7 ?_
   refine⟨j+1,Xa,Xa,by simp only[zlc,hrn,zld,zko,zkt];omega,lRq _,hclo2 _ _ _,?_,?_⟩
   ·simp[ltF,hrn,znl,znn,znd,zlc,zld,aa cZ]
    omega
   ·exact Y14
  have hj':j=t.keys.length:=by simp at hc2;omega
  subst hj'
  have y1:(bfN t.keys.length fun i=>decide (i<t.keys.length))=boL (List.replicate t.keys.length true):=by
   rw[DP];congr 1
   apply List.ext_getElem
   ·simp
   ·intro i h1 h2;simp at h1 ⊢;exact h1
  have y2:(bfN t.keys.length fun i=>decide (i<t.keys.length)&&decide (ci b (w+i) 4>0))=boL (kT b w t.keys.length):=by
   rw[DP];congr 1
   unfold kT
   refine List.map_congr_left fun i hi=>?_
   have:=List.mem_range.1 hi
   simp[this]
  rw[y1,y2]
  simp only[aX,aA,bhq,go_sem,dB,dj,hgc,dm hb,eQ,cU,fw,hne,e4,kM,zJ,tk,zu,lAq,ybb]
  refine tW [(0,.ptr id 0),(5,.ptr (H.nx+1+1+1) 0),(6,.ptr (H.nx+1+1+1+1+1+1) 0),(7,.ptr (H.nx+1+1+1+1+1+1+1+1+1) 0),(9,.ptr (H.nx+1+1+1+1+1+1+1+1+1+1) 0),(10,.slice .any 1 (boL (List.replicate t.keys.length true))),(11,.slice .any 1 (boL (kT b w t.keys.length))),(30,.slice .any 8 (ts.map au)),(31,.int .i64 (ts.length:Int)),(32,.int .i64 (k:Int))] ((kM H id b v (w+t.keys.length) a1 a2 a3).push (.cells [.int .i64 t.id,.str t.name,.slice .any 3 (t.keys.map aZ),.slice .any 1 (inL t.actions),.int .i64 t.dflt,.slice .any 2 (t.dargs.map vv),.int .i64 t.size,.str t.restr])) ⟨by simp only[zlc,hrn,zko,zkt,jK];omega,((lRq _).push _).push _,hclT _,?_,?_⟩ ?_
  ·simp[ltF,hrn,znl,znn,znd,zlc,zld,aa cZ,La]
   omega
  ·have yr1:dh 1 t.keys.length (boL (List.replicate t.keys.length true))=boL (List.replicate t.keys.length true):=by
    have:=pG (List.replicate t.keys.length true)
    rw[List.length_replicate]at this;exact this
   have yr2:dh 1 t.keys.length (boL (kT b w t.keys.length))=boL (kT b w t.keys.length):=by
    have:=pG (kT b w t.keys.length)
    rw[show(kT b w t.keys.length).length=t.keys.length by simp[kT]]at this;exact this
   have hn1:∀ w' o,((kM H id b v w' a1 a2 a3).push o).get (H.nx+1+1+1+1+1+1+1+1+1+1+1)=none:=fun w' o=>zmt (by rw[zlc,hrn];omega)
   have hn2:∀ w' o,((kM H id b v w' a1 a2 a3).push o).get (H.nx+1+1+1+1+1+1+1+1+1+1+1+1)=none:=fun w' o=>zmt (by rw[zlc,hrn];omega)
   simp only[bg,wk2,wk1,wkM,go_sem,yap,yr1,yr2,hn1,hn2,true_or,or_true,and_self]
  simp only[aX,aA,bhq,go_sem,dB,dj,hgc,dm hb,eQ,cU,fw,hne,e4,kM,zJ,tk,zu,ybb]
  refine Tq7 ?_
  have e5:=Yk5 k
  refine ax (fun h1=>?_) (fun h1=>?_)
  all_goals
   try simp only[aX,aA,bhq,go_sem,dB,dj,hgc,dm hb,eQ,cU,fw,hne,e4,kM,zJ,tk,zu,ybb]
   refine Tq8 ?_
   refine ax (fun h2=>?_) (fun h2=>?_)
  all_goals
   try simp only[aX,aA,bhq,go_sem,dB,dj,hgc,dm hb,eQ,cU,fw,hne,e4,kM,zJ,tk,zu,ybb,e5]
   try(repeat with_reducible refine Yq ?_)
  ·have hp1:(0<cv b (w+t.keys.length) 4)=True:=eq_true (by have h:=of_decide_eq_true h1;simp only[cp,Nat.add_zero]at h;omega)
   have hp2:(cv b (w+(t.keys.length+3)) 2=1)=True:=eq_true (by have h:=of_decide_eq_true h2;unfold cp at h;rw[Nat.add_assoc]at h;exact h)
   rw[hd]at i1 i2 i3 i4
   simp only[eJ,hp1,hp2,if_true,if_false,Nat.add_assoc,Nat.reduceAdd]at i1 i2 i3 i4
   have hI:RolI b ts R (k+1) (w+(t.keys.length+6)) (a1++[.agg [.int .i64 t.id,.bool true,.bool true,.slice .any 1 (boL (List.replicate t.keys.length true))]]) (a2++[.agg [.int .i64 t.id,.bool (decide (0<ci b (w+t.keys.length+1) 4)),.bool (decide (cv b (w+t.keys.length+2) 2=1)),.slice .any 1 (boL (kT b w t.keys.length))]]) (a3++[.agg [.int .i64 t.id,.bool (decide (cv b (w+t.keys.length+4) 2=1)),.bool (decide (cv b (w+t.keys.length+5) 2=1)),.slice .any 1 (boL (List.replicate t.keys.length true))]]):=by
    exact Y36
   refine⟨(_,_,_,_,_),hI,Xd,by simp only[kM,zlc,zld];omega,?_,kN hcl hI _,?_,?_⟩
   ·exact Y77
   ·exact Y112
   ·exact Y14
  ·have hp1:(0<cv b (w+t.keys.length) 4)=True:=eq_true (by have h:=of_decide_eq_true h1;simp only[cp,Nat.add_zero]at h;omega)
   have hp2:(cv b (w+(t.keys.length+3)) 2=1)=False:=eq_false (by have h:=of_decide_eq_false h2;unfold cp at h;rw[Nat.add_assoc]at h;exact h)
   rw[hd]at i1 i2 i3 i4
   simp only[eJ,hp1,hp2,if_true,if_false,Nat.add_assoc,Nat.reduceAdd]at i1 i2 i3 i4
   have hI:RolI b ts R (k+1) (w+(t.keys.length+4)) (a1++[.agg [.int .i64 t.id,.bool true,.bool true,.slice .any 1 (boL (List.replicate t.keys.length true))]]) (a2++[.agg [.int .i64 t.id,.bool (decide (0<ci b (w+t.keys.length+1) 4)),.bool (decide (cv b (w+t.keys.length+2) 2=1)),.slice .any 1 (boL (kT b w t.keys.length))]]) (a3):=by
    exact Y36
   refine⟨(_,_,_,_,_),hI,Xd,by simp only[kM,zlc,zld];omega,?_,kN hcl hI _,?_,?_⟩
   ·exact Y77
   ·exact Y112
   ·exact Y14
  ·have hp1:(0<cv b (w+t.keys.length) 4)=False:=eq_false (by have h:=of_decide_eq_false h1;simp only[cp,Nat.add_zero]at h;omega)
   have hp2:(cv b (w+(t.keys.length+1)) 2=1)=True:=eq_true (by have h:=of_decide_eq_true h2;unfold cp at h;rw[Nat.add_assoc]at h;exact h)
   rw[hd]at i1 i2 i3 i4
   simp only[eJ,hp1,hp2,if_true,if_false,Nat.add_assoc,Nat.reduceAdd]at i1 i2 i3 i4
   have hI:RolI b ts R (k+1) (w+(t.keys.length+4)) (a1++[.agg [.int .i64 t.id,.bool true,.bool true,.slice .any 1 (boL (List.replicate t.keys.length true))]]) (a2) (a3++[.agg [.int .i64 t.id,.bool (decide (cv b (w+t.keys.length+2) 2=1)),.bool (decide (cv b (w+t.keys.length+3) 2=1)),.slice .any 1 (boL (List.replicate t.keys.length true))]]):=by
    exact Y36
   refine⟨(_,_,_,_,_),hI,Xd,by simp only[kM,zlc,zld];omega,?_,kN hcl hI _,?_,?_⟩
   ·exact Y77
   ·exact Y112
   ·exact Y14
  ·have hp1:(0<cv b (w+t.keys.length) 4)=False:=eq_false (by have h:=of_decide_eq_false h1;simp only[cp,Nat.add_zero]at h;omega)
   have hp2:(cv b (w+(t.keys.length+1)) 2=1)=False:=eq_false (by have h:=of_decide_eq_false h2;unfold cp at h;rw[Nat.add_assoc]at h;exact h)
   rw[hd]at i1 i2 i3 i4
   simp only[eJ,hp1,hp2,if_true,if_false,Nat.add_assoc,Nat.reduceAdd]at i1 i2 i3 i4
   have hI:RolI b ts R (k+1) (w+(t.keys.length+2)) (a1++[.agg [.int .i64 t.id,.bool true,.bool true,.slice .any 1 (boL (List.replicate t.keys.length true))]]) (a2) (a3):=by
    exact Y36
   refine⟨(_,_,_,_,_),hI,Xd,by simp only[kM,zlc,zld];omega,?_,kN hcl hI _,?_,?_⟩
   ·exact Y77
   ·exact Y112
   ·exact Y14
 ·have hk':k=ts.length:=sHc
  subst hk'
  simp only[bhq,go_sem,kM,zJ,tk,zu]
  refine Tq7 ?_
  simp only[List.drop_length,eJ,yaf,yaj]at i1 i2 i3 i4
  subst i4
  refine lO 4 res ?_ ?_
  ·rw[← hres]
   simp only[jV,hR]
   simp[Fr.get,aP,inL,i1,i2,i3,cp,AV.cells,nS,cY,cX,dO,jc,fq,mU,mP,mG,wkM,j6]
  simp only[bhq,go_sem]
  subst hres
  refine⟨?_,?_,hcl2 _,aa gO⟩
  ·simp[wk,wk2,wk1,wkM]
  ·repeat first|exact .refl _|refine .push ?_ _
def vR(g:By→Nat→AV × Nat):Prop:=∀ b v,(g b (min v b.length)).1=(g b v).1∧∃ c,(g b (min v b.length)).2=min v b.length+c∧(g b v).2=v+c
def onS(o:Option AObj)(g:By→Nat→AV × Nat)(K:AV→AObj→Prop):Prop:=onC o fun b v=>K (g b v).1 (il b (g b v).2)
@[congr] theorem Tt{o o':Option AObj}{g:By→Nat→AV × Nat}{K:AV→AObj→Prop}(h:o=o'):onS o g K=onS o' g K:=by rw[h]
def gu{b:By}{v:Nat}{g:By→Nat→AV × Nat}{K:AV→AObj→Prop}(hb:b.length≤1000000)(hg:vR g):onS (some (il b v)) g K=K (g b v).1 (il b (g b v).2):=by
 unfold onS
 rw[dm hb]
 obtain⟨h1,c,h2,h3⟩:=hg b v
 rw[h1,h2,h3,cU]
theorem tQ{g:By→Nat→AV × Nat}{id:Nat}{H:AHeap}{K:AEnd→AHeap→Prop}:eG g [.ptr id 0] H K=onS (H.get id) g fun x o=>K (.ret x) (H.set id o):=(rfl)
def qk:By→Nat→AV × Nat:=fun b v=>(.slice .any 5 ((bE b v).1.map aE),(bE b v).2)
def oZ:By→Nat→AV × Nat:=fun b v=>(.slice .any 5 ((dZ b v).map ap),v+4)
def qf:By→Nat→AV × Nat:=fun b v=>(.slice .any 8 ((cD b v).map au),v+12)
def sE(ts:List STable):By→Nat→AV × Nat:=fun b v=>(.slice .any 6 ((jV b v ts).1.map aP),(jV b v ts).2)
def mW:vR qk:=fun b v=>by
 have e:bE b (min v b.length)=((bE b v).1,(bE b v).2-v+min v b.length):=by
  unfold bE
  simp only[lP,eQ]
  repeat' split
  all_goals(refine Prod.ext rfl ?_;dsimp only;omega)
 have h:∃ c,(bE b v).2=v+c:=by
  unfold bE
  repeat' split
  all_goals exact⟨_,rfl⟩
 obtain⟨c,hc⟩:=h
 unfold qk
 dsimp only
 rw[e]
 exact⟨rfl,c,Xd,hc⟩
def lU:vR oZ:=fun b v=>by
 have e:dZ b (min v b.length)=dZ b v:=by unfold dZ ci;simp only[lP,eQ]
 unfold oZ
 dsimp only
 rw[e]
 exact⟨rfl,4,rfl,rfl⟩
def mZ:vR qf:=fun b v=>by
 have e:cD b (min v b.length)=cD b v:=by unfold cD iJ hG fg fe ci;simp only[lP,eQ]
 unfold qf
 dsimp only
 rw[e]
 exact⟨rfl,12,rfl,rfl⟩
def qM{b:By}{v k n:Nat}:kT b (min v b.length+k) n=kT b (v+k) n:=by
 unfold kT
 refine List.map_congr_left fun i _=>?_
 rw[Nat.add_assoc,Nat.add_assoc]
 unfold ci
 rw[lP]
theorem mm{b:By}{v:Nat}:∀(ts:List STable)(k:Nat),(eJ b ts (min v b.length+k)).1=(eJ b ts (v+k)).1∧∃ c,(eJ b ts (min v b.length+k)).2=min v b.length+c∧(eJ b ts (v+k)).2=v+c
 |[],k=>⟨rfl,k,rfl,rfl⟩
 |t::ts,k=>by
  have hb:∀ j n,cv b (min v b.length+j) n=cv b (v+j) n:=fun j n=>lP
  by_cases h1:0<cv b (v+(k+t.keys.length)) 4
  ·by_cases h2:cv b (v+(k+t.keys.length+3)) 2=1
   ·obtain⟨i1,c,i2,i3⟩:=mm ts (k+t.keys.length+3+3)
    simp only[Nat.add_assoc,Nat.reduceAdd]at i1 i2 i3 h1 h2
    simp only[eJ,Nat.add_assoc,Nat.reduceAdd,hb,ci,h1,h2,if_true,qM]
    rw[i1]
    exact⟨rfl,c,i2,i3⟩
   ·obtain⟨i1,c,i2,i3⟩:=mm ts (k+t.keys.length+3+1)
    exact Y62
  ·by_cases h2:cv b (v+(k+t.keys.length+1)) 2=1
   ·obtain⟨i1,c,i2,i3⟩:=mm ts (k+t.keys.length+1+3)
    exact Y62
   ·obtain⟨i1,c,i2,i3⟩:=mm ts (k+t.keys.length+1+1)
    exact Y62
def qC(ts:List STable):vR (sE ts):=fun b v=>by
 obtain⟨i1,c,i2,i3⟩:=mm (b:=b) (v:=v) ts 4
 unfold sE jV
 dsimp only
 rw[i1]
 unfold ci
 simp only[lP,eQ]
 exact⟨trivial,c,i2,i3⟩
theorem F3{b:By}{v:Nat}:(qk b v).1=.slice .any 5 ((bE b v).1.map aE):=(rfl)
theorem FT{b:By}{v:Nat}:(qk b v).2=(bE b v).2:=(rfl)
theorem Gj{b:By}{v:Nat}:(oZ b v).1=.slice .any 5 ((dZ b v).map ap):=(rfl)
theorem GS{b:By}{v:Nat}:(oZ b v).2=cp v 4:=(rfl)
theorem Gu{b:By}{v:Nat}:(qf b v).1=.slice .any 8 ((cD b v).map au):=(rfl)
theorem GP{b:By}{v:Nat}:(qf b v).2=cp v 12:=(rfl)
theorem G7{b:By}{v:Nat}{ts:List STable}:(sE ts b v).1=.slice .any 6 ((jV b v ts).1.map aP):=(rfl)
theorem JD{b:By}{v:Nat}{ts:List STable}:(sE ts b v).2=cp (jV b v ts).2 0:=(rfl)
def yq{v k n:Nat}:cp (cp v k) n=cp v (k+n):=by unfold cp;omega
theorem tg2{b:By}{w:Nat}:(List.map au (cD b w)).getD 2 .junk=.agg [.int .i64 (fg b w).id,.str (fg b w).name,.slice .any 3 ((fg b w).keys.map aZ),.slice .any 1 (inL (fg b w).actions),.int .i64 (fg b w).dflt,.slice .any 2 ((fg b w).dargs.map vv),.int .i64 (fg b w).size,.str (fg b w).restr]:=(rfl)
theorem tg3{b:By}{w:Nat}:(List.map au (cD b w)).getD 3 .junk=.agg [.int .i64 (fe b w).id,.str (fe b w).name,.slice .any 3 ((fe b w).keys.map aZ),.slice .any 1 (inL (fe b w).actions),.int .i64 (fe b w).dflt,.slice .any 2 ((fe b w).dargs.map vv),.int .i64 (fe b w).size,.str (fe b w).restr]:=(rfl)
theorem tgl{b:By}{w:Nat}:(cD b w).length=4:=(rfl)
def k2l{b:By}{w:Nat}:(((fg b w).keys.length:Int)==3)=decide (cv b (cp w 5) 2=1):=by
 by_cases h:cv b (w+5) 2=1<;>simp[fg,cp,h]
def k3l{b:By}{w:Nat}:(((fe b w).keys.length:Int)==3)=decide (cv b (cp w 7) 2=1):=by
 by_cases h:cv b (w+7) 2=1<;>simp[fe,cp,h]
def QX(p:Prop):Bool→Prop|true=>p|false=>¬ p
def tD{p:Prop}[Decidable p]{t:Bool}(h:decide p=t):QX p t:=by
 cases t
 ·exact(of_decide_eq_false h:¬ p)
 ·exact(of_decide_eq_true h:p)
def G9{id:Nat}{ts:List STable}{H:AHeap}{K:AEnd→AHeap→Prop}(h1:ts.length≤100)(h2:∀ t∈ts,t.keys.length≤100)(h:onS (H.get id) (sE ts) fun x o=>K (.ret x) (H.set id o)) :
 vE [.ptr id 0,.slice .any 8 (ts.map au)] H K:=⟨ts,⟨rfl,h1,h2⟩,h⟩
def qZ:=eG fun b v=>(cW (d7 b v).1,(d7 b v).2)
def vT:EEe 6 qZ:=by
 unfold qZ
 refine Yef fun _ H K h=>?_
 unfold eG at h
 split at h<;>try exact h.elim
 rename_i id
 obtain⟨b,v,hg,hb,hv,hK⟩:=pm h
 refine⟨_,_,hK,?_⟩
 clear hK
 dsimp only
 generalize hS:(d7 b v).1=S
 generalize hpos:(d7 b v).2=pos
 refine Yfw aD (tCq oD (tCq oM (tCq CP (tCq Bj (tCq CS (tCq Gl tNq)))))) Tryz.func6 [.cell 2 34] (nrq _) (T:=aC [(15,[[4]])]) (h:=fun hcl=>?_)
 have hid:=glq hg
 have hne:=ug hid
 have hne2:=ug (show id<H.nx+1+1+1+1+1+1+1+1+1+1+1+1+1+1+1+1 by omega)
 have hgc:=qx (b:=b) hid
 have hcl2:∀ w,(H.set id (il b w)).Closed:=fun w=>bA hcl ma
 have e8:(8:Int).toNat=8:=rfl
 have e30:(30:Int).toNat=30:=rfl
 have w1:∀(u n:Nat)(k:Int),0<n→n≤100→0≤k→k≤100→IntKind.i64.wrap (k+((cv b u n:Nat):Int))=k+((cv b u n:Nat):Int):=fun u n k h1 h2 h3 h4=>by
  exact Y129
 have a28:∀ u,IntKind.i64.wrap (2+((cv b u 8:Nat):Int))=2+((cv b u 8:Nat):Int):=fun u=>w1 u 8 2 Xb Xb Xb Xb
 have a30:∀ u,IntKind.i64.wrap (12+((cv b u 30:Nat):Int))=12+((cv b u 30:Nat):Int):=fun u=>w1 u 30 12 Xb Xb Xb Xb
 have es1:tR=eG qk:=rfl
 have es2:rT=eG oZ:=rfl
 have es3:tJ=eG qf:=rfl
 simp only[go_sem,bhq,yaq,yar,yao,yap,dB,dj,es1,es2,es3,tQ,gu hb mW,gu hb lU,gu hb mZ,F3,FT,Gj,GS,Gu,GP,yq,hg,hgc,dm hb,eQ,cU,fw,hne,hne2,e8,e30,a28,a30]
 refine Tq7 ?_
 refine G9 (by simp[cD]) (fun t ht=>?_) ?_
 ·simp only[cD,List.mem_cons,List.not_mem_nil,or_false]at ht
  rcases ht with rfl|rfl|rfl|rfl<;>simp only[iJ,hG,fg,fe]<;>(try split)<;>simp
 simp only[aX,aA,go_sem,bhq,yaq,yar,yao,yap,dB,dj,es1,es2,es3,tQ,gu hb mW,gu hb lU,gu hb mZ,F3,FT,Gj,GS,Gu,GP,yq,hg,hgc,dm hb,eQ,cU,fw,hne,hne2,e8,e30,a28,a30,gu hb (qC _),G7,JD,iNq]
 refine ax (fun h1=>?_) (fun h1=>?_)
 all_goals
  simp only[aX,aA,go_sem,bhq,yaq,yar,yao,yap,dB,dj,es1,es2,es3,tQ,gu hb mW,gu hb lU,gu hb mZ,F3,FT,Gj,GS,Gu,GP,yq,hg,hgc,dm hb,eQ,cU,fw,hne,hne2,e8,e30,a28,a30,gu hb (qC _),G7,JD,iNq,tg2,tg3,tgl,k2l,k3l]
  refine Tq8 ?_
  refine ax (fun h2=>?_) (fun h2=>?_)
 all_goals
  simp only[aX,aA,go_sem,bhq,yaq,yar,yao,yap,dB,dj,es1,es2,es3,tQ,gu hb mW,gu hb lU,gu hb mZ,F3,FT,Gj,GS,Gu,GP,yq,hg,hgc,dm hb,eQ,cU,fw,hne,hne2,e8,e30,a28,a30,gu hb (qC _),G7,JD,iNq,tg2,tg3,tgl,k2l,k3l]
  refine Tq8 ?_
  refine eZ (fun h3=>?_) (fun h3=>?_)
 all_goals
  try(repeat with_reducible refine Yq ?_)
  try refine ax (fun h4=>?_) (fun h4=>?_)
 all_goals
  try simp only[aX,aA,go_sem,bhq,yaq,yar,yao,yap,dB,dj,es1,es2,es3,tQ,gu hb mW,gu hb lU,gu hb mZ,F3,FT,Gj,GS,Gu,GP,yq,hg,hgc,dm hb,eQ,cU,fw,hne,hne2,e8,e30,a28,a30,gu hb (qC _),G7,JD,iNq,tg2,tg3,tgl,k2l,k3l]
  refine Tq8 ?_
  refine eZ (fun h5=>?_) (fun h5=>?_)
 all_goals
  try(repeat with_reducible refine Yq ?_)
  try refine ax (fun h6=>?_) (fun h6=>?_)
 all_goals
  try simp only[aX,aA,go_sem,bhq,yaq,yar,yao,yap,dB,dj,es1,es2,es3,tQ,gu hb mW,gu hb lU,gu hb mZ,F3,FT,Gj,GS,Gu,GP,yq,hg,hgc,dm hb,eQ,cU,fw,hne,hne2,e8,e30,a28,a30,gu hb (qC _),G7,JD,iNq,tg2,tg3,tgl,k2l,k3l]
  refine Tq8 ?_
  replace h1:=tD h1
  replace h2:=tD h2
  replace h3:=tD h3
  replace h5:=tD h5
  try replace h4:=tD h4
  try replace h6:=tD h6
  refine lO 101 (.agg (aR S)) ?_ ?_
  ·rw[← hS]
   simp only[QX]at h1 h2 h3 h5
   try simp only[QX]at h4
   try simp only[QX]at h6
   simp[*,Fr.get,aR,d7,gFields,gHeaders,aJ,az,aQ,bc,inL,AV.cells,nS,cY,cX,dO,jc,fq,mU,mP,mG,wkM,j6]
  simp only[bhq,go_sem,aR]
  refine⟨?_,?_,hcl2 _,iC S⟩
  ·simp[cW,aR,wk,wk2,wkL,wk1,wkM]
  ·rw[← hpos]
   repeat first|exact .refl _|refine .push ?_ _
def a9{α:Type}{f:α→AV}{l:List α}{k:Nat}{x:α}(hx:l[k]?=some x):(l.map f).getD k .junk=f x:=by
 rw[gEq,List.getElem?_map,hx];rfl
end Go.AL
