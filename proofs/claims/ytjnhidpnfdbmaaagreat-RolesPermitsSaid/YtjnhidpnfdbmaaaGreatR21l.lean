/- Lemmas of the proof; no condition. -/
import Derived.Test.YtjnhidpnfdbmaaaGreatLRol
import Derived.Test.YtjnhidpnfdbmaaaGreatS10e
import Derived.Test.YtjnhidpnfdbmaaaGreatS11g
set_option linter.all false
set_option maxRecDepth 10000
set_option maxHeartbeats 32000000
open List renaming take_nil → yas, headD_cons → yad
open Go Go.AL Go.Proofs
namespace Go.AL
def AHeap.hole(H:AHeap):AHeap:=⟨H.nx+1,fun i=>if i=H.nx then .none else H.f i⟩
theorem jj{H:AHeap}:H.hole.nx=H.nx+1:=(rfl)
theorem nN{H:AHeap}{i:Nat}:H.hole.get i=if i=H.nx then .none else H.get i:=by
 unfold AHeap.get AHeap.hole
 by_cases h:i=H.nx
 ·subst h;simp
 ·by_cases h2:i<H.nx
  ·simp[h,h2,Nat.lt_succ_of_lt h2]
  ·simp only[h,if_false,h2];split<;>first|omega|rfl
theorem E4{H:AHeap}{i:Nat}:aK H.hole i=if i=H.nx then .none else aK H i:=by
 unfold aK
 rw[nN]
 by_cases h:i=H.nx<;>simp[h]
theorem Ms{H:AHeap}{i:Nat}{o:AObj}:H.hole.set i o=if i=H.nx then H.push o else(H.set i o).hole:=by
 split
 ·rename_i h;subst h
  unfold AHeap.set AHeap.push AHeap.hole;congr 1;funext j;by_cases hj:j=H.nx<;>simp[hj]
 ·rename_i h
  unfold AHeap.set AHeap.hole;congr 1;funext j
  simp only
  by_cases h1:j=i
  ·subst h1;simp[h]
  ·simp[h1]
theorem bN{H:AHeap}(h:H.Closed):H.hole.Closed:=fun i cs hi j hj=>by
 rw[nN]at hi
 split at hi
 ·cases hi
 ·exact AV.lt_mono (Nat.le_succ _) _ (h i cs hi j hj)
theorem P1{A B:AHeap}{o:AObj}(h:A.Le B)(hn:A.nx=B.nx):(A.push o).Le (B.push o) :=
 ⟨by rw[AHeap.nx_push,AHeap.nx_push,hn];exact nrq _,fun i x hx=>by
  rcases AHeap.get_push_inv _ _ hx with⟨rfl,rfl⟩|⟨hl,hx⟩
  ·rw[hn];exact AHeap.get_push_new _ _
  ·rw[gPq _ _ (Xa)];exact h.get i x hx⟩
theorem P2{A B:AHeap}{o:AObj}(h:A.Le B)(hn:A.nx=B.nx):A.hole.Le (B.push o) :=
 ⟨by rw[jj,AHeap.nx_push,hn];exact nrq _,fun i x hx=>by
  rw[nN]at hx
  split at hx
  ·cases hx
  ·have:=glq hx
   rw[gPq _ _ (Xa)];exact h.get i x hx⟩
theorem RW{A B:AHeap}(h:A.Le B)(hn:A.nx=B.nx):A.hole.Le B.hole :=
 ⟨by rw[jj,jj,hn];exact nrq _,fun i x hx=>by
  rw[nN]at hx ⊢
  split at hx
  ·cases hx
  ·rename_i hi
   rw[if_neg (Xa)];exact h.get i x hx⟩
theorem pu{A B:AHeap}(h:A.Le B):A.Le B.hole :=
 ⟨Nat.le_succ_of_le h.nx,fun i x hx=>by
  have h1:=h.get i x hx
  have:=glq h1
  rw[nN,if_neg (Xa)];exact h1⟩
theorem ACalls.weak{P:Program}{f:FuncId}{args:List AV}{H H' H1:AHeap}{x y:AV}(h:ACalls P f args H (.ret x) H')(hw:af H' x H1 y)(hn:H.nx≤H1.nx):ACalls P f args H (.ret y) H1:=fun w γ vs hs hr=>by
 refine UponCall.mono (fun en w' hen=>?_) (h w γ vs hs hr)
 obtain⟨γ1,h1,he,hend⟩:=hen
 obtain⟨h2,h3,h4,h5⟩:=hw
 exact V114
theorem RR{a:Nat}:(a=a+1+1+1+1+1+1+1+1+1+1+1+1+1)=False:=eFo
theorem Sc{a:Nat}:(a+1+1+1+1+1+1+1+1+1+1+1+1+1=a)=False:=eFo
theorem RN{a:Nat}:(a=a+1+1+1+1+1+1+1+1+1+1+1+1+1+1)=False:=eFo
theorem RF{a:Nat}:(a+1+1+1+1+1+1+1+1+1+1+1+1+1+1=a)=False:=eFo
theorem RH{a:Nat}:(a=a+1+1+1+1+1+1+1+1+1+1+1+1+1+1+1)=False:=eFo
theorem SK{a:Nat}:(a+1+1+1+1+1+1+1+1+1+1+1+1+1+1+1=a)=False:=eFo
theorem RU{a:Nat}:(a=a+1+1+1+1+1+1+1+1+1+1+1+1+1+1+1+1)=False:=eFo
theorem R8{a:Nat}:(a+1+1+1+1+1+1+1+1+1+1+1+1+1+1+1+1=a)=False:=eFo
theorem SR{a:Nat}:(a=a+1+1+1+1+1+1+1+1+1+1+1+1+1+1+1+1+1)=False:=eFo
theorem SF{a:Nat}:(a+1+1+1+1+1+1+1+1+1+1+1+1+1+1+1+1+1=a)=False:=eFo
theorem RX{a:Nat}:(a=a+1+1+1+1+1+1+1+1+1+1+1+1+1+1+1+1+1+1)=False:=eFo
theorem So{a:Nat}:(a+1+1+1+1+1+1+1+1+1+1+1+1+1+1+1+1+1+1=a)=False:=eFo
theorem SG{a:Nat}:(a=a+1+1+1+1+1+1+1+1+1+1+1+1+1+1+1+1+1+1+1)=False:=eFo
theorem RC{a:Nat}:(a+1+1+1+1+1+1+1+1+1+1+1+1+1+1+1+1+1+1+1=a)=False:=eFo
theorem RK{a:Nat}:(a=a+1+1+1+1+1+1+1+1+1+1+1+1+1+1+1+1+1+1+1+1)=False:=eFo
theorem SE{a:Nat}:(a+1+1+1+1+1+1+1+1+1+1+1+1+1+1+1+1+1+1+1+1=a)=False:=eFo
theorem SD{a:Nat}:(a=a+1+1+1+1+1+1+1+1+1+1+1+1+1+1+1+1+1+1+1+1+1)=False:=eFo
theorem Sh{a:Nat}:(a+1+1+1+1+1+1+1+1+1+1+1+1+1+1+1+1+1+1+1+1+1=a)=False:=eFo
theorem SU{a:Nat}:(a=a+1+1+1+1+1+1+1+1+1+1+1+1+1+1+1+1+1+1+1+1+1+1)=False:=eFo
theorem R7{a:Nat}:(a+1+1+1+1+1+1+1+1+1+1+1+1+1+1+1+1+1+1+1+1+1+1=a)=False:=eFo
theorem SA{a:Nat}:(a=a+1+1+1+1+1+1+1+1+1+1+1+1+1+1+1+1+1+1+1+1+1+1+1)=False:=eFo
theorem Sb{a:Nat}:(a+1+1+1+1+1+1+1+1+1+1+1+1+1+1+1+1+1+1+1+1+1+1+1=a)=False:=eFo
theorem SW{a:Nat}:(a=a+1+1+1+1+1+1+1+1+1+1+1+1+1+1+1+1+1+1+1+1+1+1+1+1)=False:=eFo
theorem R2{a:Nat}:(a+1+1+1+1+1+1+1+1+1+1+1+1+1+1+1+1+1+1+1+1+1+1+1+1=a)=False:=eFo
theorem Sl{a:Nat}:(a=a+1+1+1+1+1+1+1+1+1+1+1+1+1+1+1+1+1+1+1+1+1+1+1+1+1)=False:=eFo
theorem SJ{a:Nat}:(a+1+1+1+1+1+1+1+1+1+1+1+1+1+1+1+1+1+1+1+1+1+1+1+1+1=a)=False:=eFo
theorem RJ{a:Nat}:(a=a+1+1+1+1+1+1+1+1+1+1+1+1+1+1+1+1+1+1+1+1+1+1+1+1+1+1)=False:=eFo
theorem Sw{a:Nat}:(a+1+1+1+1+1+1+1+1+1+1+1+1+1+1+1+1+1+1+1+1+1+1+1+1+1+1=a)=False:=eFo
theorem Sp{a:Nat}:(a=a+1+1+1+1+1+1+1+1+1+1+1+1+1+1+1+1+1+1+1+1+1+1+1+1+1+1+1)=False:=eFo
theorem RP{a:Nat}:(a+1+1+1+1+1+1+1+1+1+1+1+1+1+1+1+1+1+1+1+1+1+1+1+1+1+1+1=a)=False:=eFo
theorem Sn{a:Nat}:(a=a+1+1+1+1+1+1+1+1+1+1+1+1+1+1+1+1+1+1+1+1+1+1+1+1+1+1+1+1)=False:=eFo
theorem Sa{a:Nat}:(a+1+1+1+1+1+1+1+1+1+1+1+1+1+1+1+1+1+1+1+1+1+1+1+1+1+1+1+1=a)=False:=eFo
theorem Sy{a:Nat}:(a=a+1+1+1+1+1+1+1+1+1+1+1+1+1+1+1+1+1+1+1+1+1+1+1+1+1+1+1+1+1)=False:=eFo
theorem RZ{a:Nat}:(a+1+1+1+1+1+1+1+1+1+1+1+1+1+1+1+1+1+1+1+1+1+1+1+1+1+1+1+1+1=a)=False:=eFo
theorem SP{a:Nat}:(a=a+1+1+1+1+1+1+1+1+1+1+1+1+1+1+1+1+1+1+1+1+1+1+1+1+1+1+1+1+1+1)=False:=eFo
theorem RV{a:Nat}:(a+1+1+1+1+1+1+1+1+1+1+1+1+1+1+1+1+1+1+1+1+1+1+1+1+1+1+1+1+1+1=a)=False:=eFo
theorem RY{a:Nat}:(a=a+1+1+1+1+1+1+1+1+1+1+1+1+1+1+1+1+1+1+1+1+1+1+1+1+1+1+1+1+1+1+1)=False:=eFo
theorem Sm{a:Nat}:(a+1+1+1+1+1+1+1+1+1+1+1+1+1+1+1+1+1+1+1+1+1+1+1+1+1+1+1+1+1+1+1=a)=False:=eFo
theorem RI{a:Nat}:(a=a+1+1+1+1+1+1+1+1+1+1+1+1+1+1+1+1+1+1+1+1+1+1+1+1+1+1+1+1+1+1+1+1)=False:=eFo
theorem Sv{a:Nat}:(a+1+1+1+1+1+1+1+1+1+1+1+1+1+1+1+1+1+1+1+1+1+1+1+1+1+1+1+1+1+1+1+1=a)=False:=eFo
theorem Sk{a:Nat}:(a=a+1+1+1+1+1+1+1+1+1+1+1+1+1+1+1+1+1+1+1+1+1+1+1+1+1+1+1+1+1+1+1+1+1)=False:=eFo
theorem Sq{a:Nat}:(a+1+1+1+1+1+1+1+1+1+1+1+1+1+1+1+1+1+1+1+1+1+1+1+1+1+1+1+1+1+1+1+1+1=a)=False:=eFo
attribute [go_sem] jj nN E4 Ms RR Sc RN RF RH SK RU R8 SR SF RX So SG RC RK SE SD Sh SU R7 SA Sb SW R2 Sl SJ RJ Sw Sp RP Sn Sa Sy RZ SP RV RY Sm RI Sv Sk Sq
def ns(rs:List SRole):List AV:=rs.flatMap fun r=>(cG r).cells
def uJ:ECt
 |[.ptr id 0,.slice .any 8 l],H,K=>∃ ts:List STable,(l=ts.map bc∧ts.length≤100∧∀ t∈ts,t.keys.length≤100)∧onC (H.get id) fun b v=>K (.ret (.ms (H.nx+1+1+1+1+1+1+1+1+1+1) 0 6 3)) (((H.set id (dV b (gQ b v ts).2)).hole.hole.hole.hole.hole.hole.hole.hole.hole.hole).push (.cells (ns (gQ b v ts).1)))
 |_,_,_=>False
theorem Ew:EEe 28 uJ:=by
 refine Yef fun _ H K h=>?_
 unfold uJ at h
 split at h<;>try exact h.elim
 rename_i id l
 obtain⟨ts,⟨rfl,hts,htk⟩,h⟩:=h
 obtain⟨b,v,hg,hb,hv,hK⟩:=jL h
 refine⟨_,_,hK,?_⟩
 clear hK
 obtain⟨res,hres⟩:∃ res,ns (gQ b v ts).1=res:=⟨_,rfl⟩
 rw[hres]
 generalize hR:cW b ts (v+4)=R
 have hend:(gQ b v ts).2=R.2:=by rw[← hR];rfl
 rw[hend]
 refine Yfw az (tCq jG (tCq nY tNq)) Tryz.func28 [.tmp 4] (by simp only[zle,jj,zlf];omega) (T:=ay [(16,[[],[],[],[],[],[],[],[],[5],[],[],[3,5,8],[1,3,5,8],[],[1,3,5,8]]),(18,[[],[],[],[],[],[],[],[5],[],[],[3,5,7],[1,3,5,7],[],[1,3,5,7]]),(1,[[7]]),(2,[[25]]),(3,[[22]]),(14,[[1]]),(20,[[11,1]])]) (h:=fun hcl=>?_)
 have hid:=glq hg
 have hne:=gH hid
 have hgc:=lv (b:=b) hid
 have hcl2:∀ w,(H.set id (dV b w)).Closed:=fun w=>ai hcl ef
 have e2:(2:Int).toNat=2:=rfl
 have e3:(3:Int).toNat=3:=rfl
 have e4:(4:Int).toNat=4:=rfl
 have e6:(6:Int).toNat=6:=rfl
 have w1:∀(u n:Nat)(k:Int),0<n→n≤100→0≤k→k≤100→IntKind.i64.wrap (k+((cv b u n:Nat):Int))=k+((cv b u n:Nat):Int):=fun u n k h1 h2 h3 h4=>by
  have:=eW (b:=b) (v:=u) (n:=n) h1
  exact V118
 have a33:∀ u,IntKind.i64.wrap (3+((cv b u 3:Nat):Int))=3+((cv b u 3:Nat):Int):=fun u=>w1 u 3 3 Xc Xc Xc Xc
 have a16:∀ u,IntKind.i64.wrap (1+((cv b u 6:Nat):Int))=1+((cv b u 6:Nat):Int):=fun u=>w1 u 6 1 Xc Xc Xc Xc
 simp only[go_sem,bhq,yaq,yar,yao,yap,bD,co,hg,hgc,bB hb,bT,bq,ce,hne,e2,e3,e4,e6,a33,a16]
 refine me 14 2 4 _ rfl rfl ?_
 refine T15 ?_
 refine T0 ?_
 refine me 22 2 4 _ rfl rfl ?_
 refine T15 ?_
 refine T0 ?_
 refine me 29 2 4 _ rfl rfl ?_
 refine T15 ?_
 refine aA (A:=Nat × Nat × List AV × List AV × List AV) (fun x=>[(0,.ptr id 0),(5,.ptr (H.nx+1+1+1) 0),(6,.ptr (H.nx+1+1+1+1+1+1) 0),(7,.ptr (H.nx+1+1+1+1+1+1+1+1+1) 0),(30,.slice .any 8 (ts.map bc)),(31,.int .i64 (ts.length:Int)),(32,.int .i64 (x.1:Int))]) (fun x=>ju H id b v x.2.1 x.2.2.1 x.2.2.2.1 x.2.2.2.2) (fun x=>RolI b ts R x.1 x.2.1 x.2.2.1 x.2.2.2.1 x.2.2.2.2) (fun x=>ts.length-x.1) (0,v+4,[],[],[]) ⟨Xa,Xb,Xb,Xb,by rw[← hR];rfl,by rw[← hR];rfl,by rw[← hR];rfl,by rw[← hR];rfl⟩ ?_ fun x hx=>?_
 ·refine⟨by simp only[ju,zle,zlf,zkq,zkv];omega,lRq _,jB (ts:=ts) (R:=R) (k:=0) (w:=v+4) hcl ⟨Xa,Xb,Xb,Xb,by rw[← hR];rfl,by rw[← hR];rfl,by rw[← hR];rfl,by rw[← hR];rfl⟩ _,?_,?_⟩
  ·exact V116
  ·exact V8
 obtain⟨k,w,a1,a2,a3⟩:=x
 dsimp only at hx ⊢
 have hclo:=fun w'=>jB (id:=id) (v:=v) hcl hx w'
 obtain⟨hk,l1,l2,l3,i1,i2,i3,i4⟩:=hx
 refine T9 ?_
 refine aq (fun hc=>?_) (fun hc=>?_)
 ·have hk':k<ts.length:=sHc
  obtain⟨t,ht⟩:∃ t,t=ts[k]:=⟨_,rfl⟩
  have hd:ts.drop k=t::ts.drop (k+1):=by rw[ht];exact dcq hk'
  have hkl:t.keys.length≤100:=htk t (by rw[ht];exact gMq hk')
  have htg:(ts.map bc).getD k .junk=.agg [.int .i64 t.id,.str t.name,.slice .any 3 (t.keys.map bL),.slice .any 1 (inL t.actions),.int .i64 t.dflt,.slice .any 2 (t.dargs.map vv),.int .i64 t.size,.str t.restr]:=by
   rw[gEq,List.getElem?_map,gQq hk',← ht];rfl
  have hT:∀ n,ltL n ([.int .i64 t.id,.str t.name,.slice .any 3 (t.keys.map bL),.slice .any 1 (inL t.actions),.int .i64 t.dflt,.slice .any 2 (t.dargs.map vv),.int .i64 t.size,.str t.restr]:List AV):=fun n=>ltL_iff.2 fun j hj=>AV.lt_cells (dM t) j hj
  have hclT:∀ w',((ju H id b v w' a1 a2 a3).push (.cells [.int .i64 t.id,.str t.name,.slice .any 3 (t.keys.map bL),.slice .any 1 (inL t.actions),.int .i64 t.dflt,.slice .any 2 (t.dargs.map vv),.int .i64 t.size,.str t.restr])).Closed:=fun w'=>aa (hclo w') (hT _)
  have hclo2:∀ w' f g,((((ju H id b v w' a1 a2 a3).push (.cells [.int .i64 t.id,.str t.name,.slice .any 3 (t.keys.map bL),.slice .any 1 (inL t.actions),.int .i64 t.dflt,.slice .any 2 (t.dargs.map vv),.int .i64 t.size,.str t.restr])).push (.cells (bfN t.keys.length f))).push (.cells (bfN t.keys.length g))).Closed:=fun w' f g =>
   aa (aa (hclT w') (by simp[Gs])) (by simp[Gs])
  have hrn:∀ w',(ju H id b v w' a1 a2 a3).nx=(H.nx+1+1+1+1+1+1+1+1+1+1):=fun _=>rfl
  simp only[go_sem,ju,wg,oZ,wc,htg,iNq,ybb,Ot,F7]
  refine T0 ?_
  refine aA (A:=Nat) (fun j=>[(0,.ptr id 0),(5,.ptr (H.nx+1+1+1) 0),(6,.ptr (H.nx+1+1+1+1+1+1) 0),(7,.ptr (H.nx+1+1+1+1+1+1+1+1+1) 0),(9,.ptr (H.nx+1+1+1+1+1+1+1+1+1+1) 0),(10,.ms (H.nx+1+1+1+1+1+1+1+1+1+1+1) 0 1 t.keys.length),(11,.ms (H.nx+1+1+1+1+1+1+1+1+1+1+1+1) 0 1 t.keys.length),(30,.slice .any 8 (ts.map bc)),(31,.int .i64 (ts.length:Int)),(32,.int .i64 (k:Int)),(45,.int .i64 (t.keys.length:Int)),(46,.int .i64 (j:Int))]) (fun j=>(((ju H id b v (w+j) a1 a2 a3).push (.cells [.int .i64 t.id,.str t.name,.slice .any 3 (t.keys.map bL),.slice .any 1 (inL t.actions),.int .i64 t.dflt,.slice .any 2 (t.dargs.map vv),.int .i64 t.size,.str t.restr])).push (.cells (bfN t.keys.length fun i=>decide (i<j)))).push (.cells (bfN t.keys.length fun i=>decide (i<j)&&decide (ci b (w+i) 4>0)))) (fun j=>j≤t.keys.length) (fun j=>t.keys.length-j) 0 Xa ?_ fun j hj=>?_
  ·simp only[Nat.not_lt_zero,decide_false,Bool.false_and]
   refine⟨by simp only[zle,hrn,zkq,zkv];omega,lRq _,hclo2 _ _ _,?_,?_⟩
   ·simp[ltF,hrn,znn,znp,znf,zle,zlf,bk dM]
    omega
   ·exact V8
  refine T9 ?_
  refine aq (fun hc2=>?_) (fun hc2=>?_)
  ·have hj':j<t.keys.length:=by simp at hc2;omega
   have e5:IntKind.i64.wrap ((j:Int)+1)=((j+1:Nat):Int):=Xe
   have hs1:(bfN t.keys.length fun i=>decide (i<j)).set j (.bool true)=bfN t.keys.length fun i=>decide (i<j+1):=GO fun i hi=>by
    by_cases e:i=j
    ·subst e;simp
    ·rw[if_neg e,decide_eq_decide];omega
   have hs2:(bfN t.keys.length fun i=>decide (i<j)&&decide (ci b (w+i) 4>0)).set j (.bool (decide (ci b (cp (w+j) 0) 4>0)))=bfN t.keys.length fun i=>decide (i<j+1)&&decide (ci b (w+i) 4>0):=GO fun i hi=>by
    by_cases e:i=j
    ·subst e;simp[cp]
    ·rw[if_neg e];congr 1;rw[decide_eq_decide];omega
   simp only[bn,aF,bhq,go_sem,bD,co,hgc,bB hb,bT,bq,ce,hne,e4,ju,wg,oZ,wc,lAq,ybb,iNq,F7,fR,nzq,Nat.mul_one,hs1,hs2,e5]
   refine T0 ?_
   refine⟨j+1,Xa,Xa,by simp only[zle,hrn,zlf,zkq,zkv];omega,lRq _,hclo2 _ _ _,?_,?_⟩
   ·simp[ltF,hrn,znn,znp,znf,zle,zlf,bk dM]
    omega
   ·exact V8
  have hj':j=t.keys.length:=by simp at hc2;omega
  subst hj'
  have y1:(bfN t.keys.length fun i=>decide (i<t.keys.length))=boL (List.replicate t.keys.length true):=by
   rw[Hh];congr 1
   apply List.ext_getElem
   ·simp
   ·intro i h1 h2;simp at h1 ⊢;exact h1
  have y2:(bfN t.keys.length fun i=>decide (i<t.keys.length)&&decide (ci b (w+i) 4>0))=boL (ls b w t.keys.length):=by
   rw[Hh];congr 1
   unfold ls
   refine List.map_congr_left fun i hi=>?_
   have:=List.mem_range.1 hi
   simp[this]
  rw[y1,y2]
  simp only[bn,aF,bhq,go_sem,bD,co,hgc,bB hb,bT,bq,ce,hne,e4,ju,wg,oZ,wc,lAq,ybb]
  refine uU [(0,.ptr id 0),(5,.ptr (H.nx+1+1+1) 0),(6,.ptr (H.nx+1+1+1+1+1+1) 0),(7,.ptr (H.nx+1+1+1+1+1+1+1+1+1) 0),(9,.ptr (H.nx+1+1+1+1+1+1+1+1+1+1) 0),(10,.slice .any 1 (boL (List.replicate t.keys.length true))),(11,.slice .any 1 (boL (ls b w t.keys.length))),(30,.slice .any 8 (ts.map bc)),(31,.int .i64 (ts.length:Int)),(32,.int .i64 (k:Int))] ((ju H id b v (w+t.keys.length) a1 a2 a3).push (.cells [.int .i64 t.id,.str t.name,.slice .any 3 (t.keys.map bL),.slice .any 1 (inL t.actions),.int .i64 t.dflt,.slice .any 2 (t.dargs.map vv),.int .i64 t.size,.str t.restr])) ⟨by simp only[zle,hrn,zkq,zkv,jg];omega,((lRq _).push _).push _,hclT _,?_,?_⟩ ?_
  ·simp[ltF,hrn,znn,znp,znf,zle,zlf,bk dM,Cs]
   omega
  ·have yr1:cg 1 t.keys.length (boL (List.replicate t.keys.length true))=boL (List.replicate t.keys.length true):=by
    have:=sq (List.replicate t.keys.length true)
    rw[List.length_replicate]at this;exact this
   have yr2:cg 1 t.keys.length (boL (ls b w t.keys.length))=boL (ls b w t.keys.length):=by
    have:=sq (ls b w t.keys.length)
    rw[show(ls b w t.keys.length).length=t.keys.length by simp[ls]]at this;exact this
   have hn1:∀ w' o,((ju H id b v w' a1 a2 a3).push o).get (H.nx+1+1+1+1+1+1+1+1+1+1+1)=none:=fun w' o=>zmv (by rw[zle,hrn];omega)
   have hn2:∀ w' o,((ju H id b v w' a1 a2 a3).push o).get (H.nx+1+1+1+1+1+1+1+1+1+1+1+1)=none:=fun w' o=>zmv (by rw[zle,hrn];omega)
   simp only[aJ,wk2,wk1,wkM,go_sem,yap,yr1,yr2,hn1,hn2,true_or,or_true,and_self]
  simp only[bn,aF,bhq,go_sem,bD,co,hgc,bB hb,bT,bq,ce,hne,e4,ju,wg,oZ,wc,ybb]
  refine T0 ?_
  have e5:=Yk5 k
  refine aq (fun h1=>?_) (fun h1=>?_)
  all_goals
   try simp only[bn,aF,bhq,go_sem,bD,co,hgc,bB hb,bT,bq,ce,hne,e4,ju,wg,oZ,wc,ybb]
   refine T1 ?_
   refine aq (fun h2=>?_) (fun h2=>?_)
  all_goals
   try simp only[bn,aF,bhq,go_sem,bD,co,hgc,bB hb,bT,bq,ce,hne,e4,ju,wg,oZ,wc,ybb,e5]
   try(repeat with_reducible refine Yq ?_)
  ·have hp1:(0<cv b (w+t.keys.length) 4)=True:=eq_true (by have h:=of_decide_eq_true h1;simp only[cp,Nat.add_zero]at h;omega)
   have hp2:(cv b (w+(t.keys.length+3)) 2=1)=True:=eq_true (by have h:=of_decide_eq_true h2;unfold cp at h;rw[Nat.add_assoc]at h;exact h)
   rw[hd]at i1 i2 i3 i4
   simp only[cW,hp1,hp2,if_true,if_false,Nat.add_assoc,Nat.reduceAdd]at i1 i2 i3 i4
   have hI:RolI b ts R (k+1) (w+(t.keys.length+6)) (a1++[.agg [.int .i64 t.id,.bool true,.bool true,.slice .any 1 (boL (List.replicate t.keys.length true))]]) (a2++[.agg [.int .i64 t.id,.bool (decide (0<ci b (w+t.keys.length+1) 4)),.bool (decide (cv b (w+t.keys.length+2) 2=1)),.slice .any 1 (boL (ls b w t.keys.length))]]) (a3++[.agg [.int .i64 t.id,.bool (decide (cv b (w+t.keys.length+4) 2=1)),.bool (decide (cv b (w+t.keys.length+5) 2=1)),.slice .any 1 (boL (List.replicate t.keys.length true))]]):=by
    exact V17
   refine⟨(_,_,_,_,_),hI,Xf,by simp only[ju,zle,zlf];omega,?_,jB hcl hI _,?_,?_⟩
   ·exact V74
   ·exact V116
   ·exact V8
  ·have hp1:(0<cv b (w+t.keys.length) 4)=True:=eq_true (by have h:=of_decide_eq_true h1;simp only[cp,Nat.add_zero]at h;omega)
   have hp2:(cv b (w+(t.keys.length+3)) 2=1)=False:=eq_false (by have h:=of_decide_eq_false h2;unfold cp at h;rw[Nat.add_assoc]at h;exact h)
   rw[hd]at i1 i2 i3 i4
   simp only[cW,hp1,hp2,if_true,if_false,Nat.add_assoc,Nat.reduceAdd]at i1 i2 i3 i4
   have hI:RolI b ts R (k+1) (w+(t.keys.length+4)) (a1++[.agg [.int .i64 t.id,.bool true,.bool true,.slice .any 1 (boL (List.replicate t.keys.length true))]]) (a2++[.agg [.int .i64 t.id,.bool (decide (0<ci b (w+t.keys.length+1) 4)),.bool (decide (cv b (w+t.keys.length+2) 2=1)),.slice .any 1 (boL (ls b w t.keys.length))]]) (a3):=by
    exact V17
   refine⟨(_,_,_,_,_),hI,Xf,by simp only[ju,zle,zlf];omega,?_,jB hcl hI _,?_,?_⟩
   ·exact V74
   ·exact V116
   ·exact V8
  ·have hp1:(0<cv b (w+t.keys.length) 4)=False:=eq_false (by have h:=of_decide_eq_false h1;simp only[cp,Nat.add_zero]at h;omega)
   have hp2:(cv b (w+(t.keys.length+1)) 2=1)=True:=eq_true (by have h:=of_decide_eq_true h2;unfold cp at h;rw[Nat.add_assoc]at h;exact h)
   rw[hd]at i1 i2 i3 i4
   simp only[cW,hp1,hp2,if_true,if_false,Nat.add_assoc,Nat.reduceAdd]at i1 i2 i3 i4
   have hI:RolI b ts R (k+1) (w+(t.keys.length+4)) (a1++[.agg [.int .i64 t.id,.bool true,.bool true,.slice .any 1 (boL (List.replicate t.keys.length true))]]) (a2) (a3++[.agg [.int .i64 t.id,.bool (decide (cv b (w+t.keys.length+2) 2=1)),.bool (decide (cv b (w+t.keys.length+3) 2=1)),.slice .any 1 (boL (List.replicate t.keys.length true))]]):=by
    exact V17
   refine⟨(_,_,_,_,_),hI,Xf,by simp only[ju,zle,zlf];omega,?_,jB hcl hI _,?_,?_⟩
   ·exact V74
   ·exact V116
   ·exact V8
  ·have hp1:(0<cv b (w+t.keys.length) 4)=False:=eq_false (by have h:=of_decide_eq_false h1;simp only[cp,Nat.add_zero]at h;omega)
   have hp2:(cv b (w+(t.keys.length+1)) 2=1)=False:=eq_false (by have h:=of_decide_eq_false h2;unfold cp at h;rw[Nat.add_assoc]at h;exact h)
   rw[hd]at i1 i2 i3 i4
   simp only[cW,hp1,hp2,if_true,if_false,Nat.add_assoc,Nat.reduceAdd]at i1 i2 i3 i4
   have hI:RolI b ts R (k+1) (w+(t.keys.length+2)) (a1++[.agg [.int .i64 t.id,.bool true,.bool true,.slice .any 1 (boL (List.replicate t.keys.length true))]]) (a2) (a3):=by
    exact V17
   refine⟨(_,_,_,_,_),hI,Xf,by simp only[ju,zle,zlf];omega,?_,jB hcl hI _,?_,?_⟩
   ·exact V74
   ·exact V116
   ·exact V8
 ·have hk':k=ts.length:=sHc
  subst hk'
  simp only[bhq,go_sem,ju,wg,oZ,wc]
  refine T0 ?_
  simp only[List.drop_length,cW,yaf,yaj]at i1 i2 i3 i4
  subst i4
  refine eH (H.nx+1+1+1+1+1+1+1+1+1+1) res (cs:=(List.flatMap AV.cells [.agg (wg (H.nx+1+1) (H.nx+1) a1),.agg (oZ b v (H.nx+1+1+1+1+1) (H.nx+1+1+1+1) a2),.agg (wc b v (H.nx+1+1+1+1+1+1+1+1) (H.nx+1+1+1+1+1+1+1) a3)])) (by simp only[go_sem,wg,oZ,wc]) ?_ ?_
  ·rw[← hres]
   simp only[gQ,hR,ns]
   simp[cG,inL,i1,i2,i3,cp,wg,oZ,wc,AV.cells,j0,cw,cu,cL,fw,cP,jk,j5,i8,wkM,kN]
  refine T48 ?_
  refine⟨by simp[wk,wk2,wk1],P1 (by repeat(first|refine P2 ?_ rfl|exact lRq _)) rfl,aa (bN (bN (bN (bN (bN (bN (bN (bN (bN (bN (hcl2 _))))))))))) ?_,by simp only[znp,zle,jj,zlf];omega⟩
  rw[← hres]
  exact nA sU
def qm(ts:List STable):List UInt8→Nat→AV × Nat:=fun b v=>(.agg (ns (gQ b v ts).1),(gQ b v ts).2)
theorem nQ(ts:List STable):sn (qm ts):=fun b v=>by
 obtain⟨i1,c,i2,i3⟩:=kW (b:=b) (v:=v) ts 4
 unfold qm gQ
 dsimp only
 rw[i1]
 unfold ci
 simp only[dB,bT]
 exact⟨trivial,c,i2,i3⟩
theorem C6{b:List UInt8}{v:Nat}{ts:List STable}:(qm ts b v).1=.agg (ns (gQ b v ts).1):=(rfl)
theorem CZ{b:List UInt8}{v:Nat}{ts:List STable}:(qm ts b v).2=cp (gQ b v ts).2 0:=(rfl)
def RG(H:AHeap)(id:Nat)(K:AEnd→AHeap→Prop)(x:AV)(o:AObj):Prop:=match x with
 |.agg cs=>K (.ret (.ms (H.nx+1+1+1+1+1+1+1+1+1+1) 0 6 3)) (((H.set id o).hole.hole.hole.hole.hole.hole.hole.hole.hole.hole).push (.cells cs))
 |_=>False
theorem pK{H:AHeap}{id:Nat}{K:AEnd→AHeap→Prop}{cs:List AV}{o:AObj}:RG H id K (.agg cs) o=K (.ret (.ms (H.nx+1+1+1+1+1+1+1+1+1+1) 0 6 3)) (((H.set id o).hole.hole.hole.hole.hole.hole.hole.hole.hole.hole).push (.cells cs)):=(rfl)
theorem JG{id:Nat}{ts:List STable}{H:AHeap}{K:AEnd→AHeap→Prop}(h1:ts.length≤100)(h2:∀ t∈ts,t.keys.length≤100)(h:onS (H.get id) (qm ts) (RG H id K)) :
 uJ [.ptr id 0,.slice .any 8 (ts.map bc)] H K:=⟨ts,⟨rfl,h1,h2⟩,h⟩
def uM(x:Sch)(r:Nat):List AV:=[.slice .any 3 (x.fields.map cD),.slice .any 3 (x.headers.map gr),.slice .any 5 (x.states.map dY),.slice .any 5 (x.actions.map bu),.slice .any 8 (x.tables.map bc),
 .slice .any 2 (x.stages.map jh),.ms r 0 6 3,.slice .any 6 (x.refs.map pj),.int .i64 x.maxBatch,.int .i64 x.budget]
def sg:ECt
 |[.ptr id 0],H,K=>onC (H.get id) fun b v=>K (.ret (.agg (uM (bY b v).1 (H.nx+1+1+1+1+1+1+1+1+1+1+1+1+1+1+1+1+1)))) (((H.set id (dV b (bY b v).2)).hole.hole.hole.hole.hole.hole.hole.hole.hole.hole.hole.hole.hole.hole.hole.hole.hole).push (.cells (ns (bY b v).1.roles)))
 |_,_,_=>False
theorem Pc{n r:Nat}{x:Sch}(h:r<n):AV.lt n (.agg (uM x r)):=by
 simp[uM,znr,znu,znv,znf,znp,h,bk qe,bk uW,bk iF,bk kh,bk dM,bk DV,bk KC]
theorem ok_CSchemaM:EEe 8 sg:=by
 refine Yef fun _ H K h=>?_
 unfold sg at h
 split at h<;>try exact h.elim
 rename_i id
 obtain⟨b,v,hg,hb,hv,hK⟩:=jL h
 refine⟨_,_,hK,?_⟩
 clear hK
 have hrl:(bY b v).1.roles=(gQ b (cp (bM b (cp v 2)).2 16) (cm b (cp (bM b (cp v 2)).2 4))).1:=rfl
 obtain⟨S,hS⟩:∃ S,(bY b v).1=S:=⟨_,rfl⟩
 have hSr:S.roles=(gQ b (cp (bM b (cp v 2)).2 16) (cm b (cp (bM b (cp v 2)).2 4))).1:=by rw[← hS,hrl]
 rw[hS]
 generalize hpos:(bY b v).2=pos
 refine Yfw az (tCq jG (tCq nY (tCq FC (tCq CF (tCq FK (tCq Ew tNq)))))) Tryz.func8 [.cell 2 39] (by simp only[zle,jj,zlf];omega) (T:=ay [(15,[[4]])]) (h:=fun hcl=>?_)
 have hid:=glq hg
 have hne:=gH hid
 have hne3:∀ k,(id=H.nx+1+k)=False:=fun k=>eFo
 have hne2:=gH (show id<H.nx+1+1+1+1+1+1+1+1+1+1+1+1+1+1+1+1 by omega)
 have hgc:=lv (b:=b) hid
 have hcl2:∀ w,(H.set id (dV b w)).Closed:=fun w=>ai hcl ef
 have e8:(8:Int).toNat=8:=rfl
 have e30:(30:Int).toNat=30:=rfl
 have w1:∀(u n:Nat)(k:Int),0<n→n≤100→0≤k→k≤100→IntKind.i64.wrap (k+((cv b u n:Nat):Int))=k+((cv b u n:Nat):Int):=fun u n k h1 h2 h3 h4=>by
  have:=eW (b:=b) (v:=u) (n:=n) h1
  exact V118
 have a28:∀ u,IntKind.i64.wrap (2+((cv b u 8:Nat):Int))=2+((cv b u 8:Nat):Int):=fun u=>w1 u 8 2 Xc Xc Xc Xc
 have a30:∀ u,IntKind.i64.wrap (12+((cv b u 30:Nat):Int))=12+((cv b u 30:Nat):Int):=fun u=>w1 u 30 12 Xc Xc Xc Xc
 have es1:vA=eG pL:=rfl
 have es2:sE=eG nz:=rfl
 have es3:uG=eG qw:=rfl
 simp only[go_sem,bhq,yaq,yar,yao,yap,bD,co,es1,es2,es3,uu,cX hb lX,cX hb kC,cX hb lT,Hs,HX,IJ,Iz,Jz,I4,zK,hg,hgc,bB hb,bT,bq,ce,hne,hne2,e8,e30,a28,a30]
 refine T0 ?_
 refine JG (by simp[cm]) (fun t ht=>?_) ?_
 ·simp only[cm,List.mem_cons,List.not_mem_nil,or_false]at ht
  rcases ht with rfl|rfl|rfl|rfl<;>simp only[jJ,lL,fh,fk]<;>(try split)<;>simp
 simp only[bn,aF,go_sem,bhq,yaq,yar,yao,yap,bD,co,es1,es2,es3,uu,cX hb lX,cX hb kC,cX hb lT,Hs,HX,IJ,Iz,Jz,I4,zK,hg,hgc,bB hb,bT,bq,ce,hne,hne2,e8,e30,a28,a30,cX hb (nQ _),C6,CZ,pK,iNq]
 refine aq (fun h1=>?_) (fun h1=>?_)
 all_goals
  simp only[bn,aF,go_sem,bhq,yaq,yar,yao,yap,bD,co,es1,es2,es3,uu,cX hb lX,cX hb kC,cX hb lT,Hs,HX,IJ,Iz,Jz,I4,zK,hg,hgc,bB hb,bT,bq,ce,hne,hne2,e8,e30,a28,a30,cX hb (nQ _),C6,CZ,pK,iNq,tg2,tg3,tgl,k2l,k3l]
  refine T1 ?_
  refine aq (fun h2=>?_) (fun h2=>?_)
 all_goals
  simp only[bn,aF,go_sem,bhq,yaq,yar,yao,yap,bD,co,es1,es2,es3,uu,cX hb lX,cX hb kC,cX hb lT,Hs,HX,IJ,Iz,Jz,I4,zK,hg,hgc,bB hb,bT,bq,ce,hne,hne2,e8,e30,a28,a30,cX hb (nQ _),C6,CZ,pK,iNq,tg2,tg3,tgl,k2l,k3l]
  refine T1 ?_
  refine bx (fun h3=>?_) (fun h3=>?_)
 all_goals
  try(repeat with_reducible refine Yq ?_)
  try refine aq (fun h4=>?_) (fun h4=>?_)
 all_goals
  try simp only[bn,aF,go_sem,bhq,yaq,yar,yao,yap,bD,co,es1,es2,es3,uu,cX hb lX,cX hb kC,cX hb lT,Hs,HX,IJ,Iz,Jz,I4,zK,hg,hgc,bB hb,bT,bq,ce,hne,hne2,e8,e30,a28,a30,cX hb (nQ _),C6,CZ,pK,iNq,tg2,tg3,tgl,k2l,k3l]
  refine T1 ?_
  refine bx (fun h5=>?_) (fun h5=>?_)
 all_goals
  try(repeat with_reducible refine Yq ?_)
  try refine aq (fun h6=>?_) (fun h6=>?_)
 all_goals
  try simp only[bn,aF,go_sem,bhq,yaq,yar,yao,yap,bD,co,es1,es2,es3,uu,cX hb lX,cX hb kC,cX hb lT,Hs,HX,IJ,Iz,Jz,I4,zK,hg,hgc,bB hb,bT,bq,ce,hne,hne2,e8,e30,a28,a30,cX hb (nQ _),C6,CZ,pK,iNq,tg2,tg3,tgl,k2l,k3l]
  refine T1 ?_
  replace h1:=uC h1
  replace h2:=uC h2
  replace h3:=uC h3
  replace h5:=uC h5
  try replace h4:=uC h4
  try replace h6:=uC h6
  refine kO 101 (.agg (uM S (H.nx+1+1+1+1+1+1+1+1+1+1+1+1+1+1+1+1+1))) ?_ ?_
  ·rw[← hS]
   simp only[Oi]at h1 h2 h3 h5
   try simp only[Oi]at h4
   try simp only[Oi]at h6
   simp[*,Fr.get,uM,bY,gFields,D4,cD,gr,jh,pj,inL,AV.cells,j0,cw,cu,cL,fw,cP,jk,j5,i8,wkM,kN,qB]
  simp only[bhq,go_sem,uM]
  refine⟨?_,?_,aa (bN (bN (bN (bN (bN (bN (bN (bN (bN (bN (bN (bN (bN (bN (bN (bN (bN (hcl2 _)))))))))))))))))) (nA sU),Pc (by simp only[zle,jj,zlf];omega)⟩
  ·simp[uM,wk,wk2,wkL,wk1,wkM]
  ·rw[← hpos,hSr]
   repeat(with_reducible first|(refine P1 ?_ (by simp only[jj,zle,zlf]))|(refine RW ?_ (by simp only[jj,zle,zlf]))|(refine P2 ?_ (by simp only[jj,zle,zlf]))|refine lPq ?_ _)
   exact lRq _
theorem ACalls.weakC{P:Program}{f:FuncId}{args:List AV}{H H' H1:AHeap}{x y:AV}(h:ACalls P f args H (.ret x) H')(hw:H.Closed→af H' x H1 y)(hn:H.nx≤H1.nx):ACalls P f args H (.ret y) H1:=fun w γ vs hs hr=>by
 refine UponCall.mono (fun en w' hen=>?_) (h w γ vs hs hr)
 obtain⟨γ1,h1,he,hend⟩:=hen
 obtain⟨h2,h3,h4,h5⟩:=hw hs.closed
 exact V114
def sK:=eG fun b v=>(yC (bY b v).1,(bY b v).2)
theorem C8:EEe 8 sK:=by
 unfold sK
 refine Yef fun _ H K h=>?_
 unfold eG at h
 split at h<;>try exact h.elim
 rename_i id
 obtain⟨b,v,hg,hb,hv,hK⟩:=jL h
 refine⟨_,_,hK,?_⟩
 clear hK
 dsimp only
 have hid:=glq hg
 have hr3:∃ r0 r1 r2,(bY b v).1.roles=[r0,r1,r2]:=⟨_,_,_,rfl⟩
 obtain⟨r0,r1,r2,hr3⟩:=hr3
 obtain⟨x,H1,hx,hc⟩:=ok_CSchemaM.2.1 rfl [.ptr id 0] H (fun x H1=>x=.ret (.agg (uM (bY b v).1 (H.nx+1+1+1+1+1+1+1+1+1+1+1+1+1+1+1+1+1)))∧H1=((H.set id (dV b (bY b v).2)).hole.hole.hole.hole.hole.hole.hole.hole.hole.hole.hole.hole.hole.hole.hole.hole.hole).push (.cells (ns (bY b v).1.roles))) (by
  show onC (H.get id) fun b' v'=>AEnd.ret (.agg (uM (bY b' v').1 (H.nx+1+1+1+1+1+1+1+1+1+1+1+1+1+1+1+1+1)))=_∧((H.set id (dV b' (bY b' v').2)).hole.hole.hole.hole.hole.hole.hole.hole.hole.hole.hole.hole.hole.hole.hole.hole.hole).push (.cells (ns (bY b' v').1.roles))=_
  rw[hg,bB hb,show min (cp v 0) b.length=v from Nat.min_eq_left hv]
  exact⟨rfl,rfl⟩)
 obtain⟨rfl,rfl⟩:=hx
 refine hc.weakC (fun hcl=>⟨?_,?_,ai hcl ef,u7 _⟩) (by rw[zlf];exact nrq _)
 ·have hrow:cg 6 3 (ns (bY b v).1.roles)=(bY b v).1.roles.map cG:=by
   have:=lw (sz:=6) Xc (fun r:SRole=>(cG r).cells) (fun r=>rfl) (bY b v).1.roles
   rw[hr3]at this ⊢
   exact this
  simp only[yC,bb,uM,wk,wk2,wkL]
  refine⟨by simp[wk1,wkM],by simp[wk1,wkM],by simp[wk1,wkM],by simp[wk1,wkM],by simp[wk1,wkM],by simp[wk1,wkM],M4 Xk hrow (Fh (by simp only[zlf];omega)),by simp[wk1,wkM],rfl,rfl,trivial⟩
 ·exact lPq (pu (pu (pu (pu (pu (pu (pu (pu (pu (pu (pu (pu (pu (pu (pu (pu (pu (lRq _)))))))))))))))))) _
theorem JY{n0:Nat}{fr:Fr}{H:AHeap}{K:Fr→AHeap→Prop}(id j mid off sz len:Nat){cs ms:List AV}(L:List AV)(hg:H.get id=some (.cells cs))(hj:cs[j]?=some (.ms mid off sz len))(hne:id≠mid)(hm:aK H mid=some ms)(hL:cg sz len (ms.drop off)=L)(hlt:(AV.slice .any sz L).lt H.nx)
 (h:∀ H2:AHeap,H2.get id=some (.cells (cs.set j (.slice .any sz L)))→(∀ l o,l≠id→l≠mid→H.get l=some o→H2.get l=some o)→H2.nx=H.nx→K fr H2):kc n0 K fr H:=by
 refine Gp id j mid off sz len L (ax hg) hj hne hm hL hlt (h _ ?_ (fun l o h1 h2 hx=>?_) rfl)
 ·exact V159
 ·rw[AHeap.get_set_ne _ _ h1,jT,if_neg h2];exact hx
def uR:PCt
 |[],_,K=>K (.bool true)
 |_,_,_=>False
theorem FT:EPp 13 uR:=by
 refine Ype fun _ H K h=>?_
 unfold uR at h
 split at h<;>try exact h.elim
 refine⟨_,h,?_⟩
 clear h
 have q1:=QY
 have q2:=Qw
 have q3:=Q9
 have q4:=Qk
 have q5:=QM
 have q6:=QL
 obtain⟨r0,r1,r2,hr3⟩:∃ r0 r1 r2,(bY [] 0).1.roles=[r0,r1,r2]:=⟨_,_,_,rfl⟩
 obtain⟨r2',hr2'⟩:∃ r2':SRole,{r2 with grants:=[⟨1,true,false,[true]⟩]}=r2':=⟨_,rfl⟩
 have hbS:bgS={(bY [] 0).1 with roles:=[r0,r1,r2']}:=by
  unfold bgS PS
  rw[hr3,← hr2']
  rfl
 have hro:=rolOk_gen (b:=[]) (v:=0)
 have hal:=EB (sall_gen (b:=[])) (rs:=[r0,r1,r2']) Xb
 have hsr:SRol bgS:=by
  rw[hbS]
  refine⟨hal.ck.sl,fun r hr=>?_⟩
  have h0:=(hro.rl sall_gen.ck.sl).gl
  rw[hr3]at h0
  simp only[List.mem_cons,List.not_mem_nil,or_false]at hr
  rcases hr with rfl|rfl|rfl
  ·exact h0 _ Xb
  ·exact h0 _ Xb
  ·have:=(h0 r2 Xb).2.1
   rw[← hr2']
   exact⟨Xb,this,fun g hg=>by rw[List.mem_singleton.1 hg];decide⟩
 have hsp:SPer bgS:=⟨by rw[hbS];exact hal,hsr⟩
 have hbc:bb bgS=bb {(bY [] 0).1 with roles:=[r0,r1,r2']}:=by rw[hbS]
 have hea:EAll bgE:=by
  have hm:∀ m∈bgE.ms,MOk m∧m.pfx<9223372036854775808:=fun m hm=>by
   rw[List.mem_singleton.1 hm];exact⟨⟨Xc,Xc,Xc⟩,Xc⟩
  have h1:EOk bgE:=⟨Xc,Xc,fun m h=>(hm m h).1⟩
  exact⟨h1,⟨Xc,Xc⟩,⟨Xc,fun m h=>(hm m h).2,Xc,fun m h=>(hm m h).1,Xc⟩⟩
 have hrid:r2'.id=r2.id∧r2'.name=r2.name∧r2'.actions=r2.actions∧r2'.quota=r2.quota∧r2'.audit=r2.audit∧r2'.grants=[⟨1,true,false,[true]⟩]:=by rw[← hr2'];exact⟨rfl,rfl,rfl,rfl,rfl,rfl⟩
 clear hro hal
 generalize hS:(bY [] 0).1=S at *
 have hS':∀ r,AV.agg (uM (bY [] 0).1 r)=.agg (uM S r):=fun r=>by rw[hS]
 refine Yfw az (tCq Gu (tCq ok_CSchemaM (tCq FB (tCq Bm (tCq xt tNq))))) Tryz.func13 [.tmp 0] (nrq _) (T:=ay [(3,[[1,1]]),(4,[[1]])]) (h:=fun hcl=>?_)
 have hze:zod ([]:List UInt8) 0=dV [] (cp 0 0):=y5
 simp only[go_sem,uy]
 refine⟨[],⟨rfl,Xa⟩,?_⟩
 simp only[bn,aF,bhq,Nat.reduceMod,Nat.reduceDiv,aD,aE,aG,a8,aH,aZ,aW,aX,aY,yaq,yar,yao,yap,go_sem,uy,sg,yas,hze,bB (b:=[]) Xc,yba,Nat.min_zero,hS,uM,hr3,ns,cG,List.flatMap_cons,List.flatMap_nil,yal,yak]
 refine⟨⟨Xc,Xc⟩,?_⟩
 refine eH (H.nx+1+1+1+1+1+1+1+1+1+1+1+1+1+1+1+1+1+1) ((cG r0).cells++((cG r1).cells++(cG r2').cells)) Xn ?_ ?_
 ·simp[hrid,cG,inL,boL,bO,AV.cells,j0,cw,cu,cL,fw,cP,jk,j5,i8,wkM,kN,qB]
 have hrow:cg 6 3 (((cG r0).cells++((cG r1).cells++(cG r2').cells)).drop 0)=[r0,r1,r2'].map cG:=by
  have:=lw (sz:=6) Xc (fun r:SRole=>(cG r).cells) (fun r=>rfl) [r0,r1,r2']
  exact this
 refine JY (H.nx+1+1+1+1+1+1+1+1+1+1+1+1+1+1+1+1+1+1+1) 6 (H.nx+1+1+1+1+1+1+1+1+1+1+1+1+1+1+1+1+1+1) 0 6 3 ([r0,r1,r2'].map cG) Xn rfl Xa Xk hrow (bk sU) fun H2 hg2 hk2 hn2=>?_
 have hle2:H.Le H2:=⟨by rw[hn2];simp only[zle,jj,zlf];omega,fun i o ho=>by
  have hi:=glq ho
  refine hk2 i o Xa Xa ?_
  rw[AHeap.get_set_ne _ _ (Xa)]
  exact AHeap.Le.get (by repeat(with_reducible first|refine lPq ?_ _|refine pu ?_|exact lRq _)) i o ho⟩
 have hcs2:=ax hg2
 have hl2:=glq hg2
 clear hk2
 have hcs2':aK H2 (H.nx+1+1+1+1+1+1+1+1+1+1+1+1+1+1+1+1+1+1+1)=some (bb bgS):=by rw[hcs2,hbc];rfl
 have hS2:(H.nx+1+1+1+1+1+1+1+1+1+1+1+1+1+1+1+1+1+1+1)<H2.nx:=hl2
 generalize hsid:(H.nx+1+1+1+1+1+1+1+1+1+1+1+1+1+1+1+1+1+1+1)=sid at *
 have hn0:(sid=H2.nx)=False:=eFo
 have hn1:(sid=H2.nx+1)=False:=eFo
 have hn3:(sid=H2.nx+1+1)=False:=eFo
 clear hn2
 simp only[bb]at hcs2'
 have z1:(0:Nat)/2^64=0:=rfl
 have hbE:bgE.ms.map aP=[.agg [.bool true,.int .u64 0,.int .u64 0,.int .u64 0,.int .u64 0,.int .i64 0,.int .u64 0,.int .u64 0]]:=rfl
 refine T11 ?_
 refine eH (H2.nx+1) [.int .i64 1,.slice .any 8 (bgE.ms.map aP),.int .i64 0,.int .i64 2,.slice .any 2 []] Xn ?_ ?_
 ·rw[hbE]
  simp[AV.cells,j0,cw,cu,cL,fw,cP,jk,j5,i8,wkM,kN,qB]
 obtain⟨F,hF⟩:∃ F,x8 bgS 7 bgE=F:=⟨_,rfl⟩
 rw[hF]at q3 q4
 obtain⟨m,hm1,hm2⟩:∃ m,F.ms=[m]∧m.present=true:=by
  obtain⟨a1,a2⟩:=q4
  match hf:F.ms,a1 with
  |[m],_ =>
   rw[hf]at a2
   exact⟨m,rfl,by simpa using a2⟩
 simp only[bn,aF,bhq,go_sem,hcs2',hn0,hn1,hn3,uF]
 refine T1 ?_
 refine⟨bgS,bgE,⟨rfl,rfl,hsr,Xc,Xc,Xc⟩,?_⟩
 rw[hF]
 refine T35 ?_
 refine T1 ?_
 refine⟨bgS,⟨rfl,hsr⟩,?_⟩
 rw[q1]
 refine T35 ?_
 refine T1 ?_
 refine⟨bgS,⟨rfl,hsr⟩,?_⟩
 rw[q2]
 simp only[bn,aF,bhq,go_sem,hcs2',hn0,hn1,hn3,gJ,a9,q3,hm1,hm2,qS,aP,bQ,vc,yae,yaf,yal,yak,yaz,yba]
 refine bx (fun _=>?_) (fun h=>absurd h Xc)
 refine bx (fun _=>?_) (fun h=>absurd h Xc)
 refine⟨⟨Xc,Xc⟩,bgS,1,bgE,⟨rfl,rfl,hsp,hea⟩,?_⟩
 rw[q5]
 refine bx (fun _=>?_) (fun h=>absurd h Xc)
 refine⟨bgS,1,bgE,⟨rfl,rfl,hsp,hea⟩,?_⟩
 rw[q6]
 refine⟨rfl,?_,hcl,by simp[zng]⟩
 repeat(with_reducible first|refine lPq ?_ _|exact hle2)
theorem On:ti Tryz.prog 44=some ⟨.struct [(0,3,false),(1,26,false)],6,80,.agg [.int .i64 0,.int .i64 0,.slice .nil 1 [],.int .i64 0,.int .i64 0,.slice .nil 1 []]⟩:=krf
theorem LA:tSl Tryz.prog 49 44:=kSl
attribute [go_sem] On LA
theorem Sx{α:Type}(f:Int→α)(d:α)(a b c e:Int){k:Nat}(h:k<4):[f a,f b,f c,f e].getD k d=f ([a,b,c,e].getD k 0):=by
 match k,h with
 |0,_|1,_|2,_|3,_=>rfl
def gI(u:Int × SEntry):List AV:=.int .i64 u.1::a9 u.2
def nL(u:Int × SEntry):AV:=.agg (gI u)
theorem oE{n:Nat}(x:Int × SEntry):AV.lt n (nL x):=by
 have:=qq (n:=n) x.2
 simp only[gJ,znr]at this
 simp only[nL,gI,znr,znu,znf,true_and]
 exact this
def Bu(k:Nat):Int:=([1,1,2,3]:List Int).getD k 0
def pA(S:Sch)(b:List UInt8)(v:Nat):(Int × SEntry) × Nat :=
 let e:=kA S b (cp v 2) (cv b (cp v 1) 4)
 ((Bu (cv b (cp v 0) 4),if Bu (cv b (cp v 0) 4)=3 then{e.1 with act:=0,args:=[]}else e.1),e.2)
def u5:ECt
 |[.ptr id 0,.agg l],H,K=>∃ S:Sch,(l=bb S∧GenS S)∧onC (H.get id) fun b v=>K (.ret (nL (pA S b v).1)) (H.set id (dV b (pA S b v).2))
 |_,_,_=>False
theorem FA:EEe 9 u5:=by
 refine Yef fun _ H K h=>?_
 unfold u5 at h
 split at h<;>try exact h.elim
 rename_i id l
 obtain⟨S,⟨rfl,hS⟩,h⟩:=h
 obtain⟨b,v,hg,hb,hv,hK⟩:=jL h
 refine⟨_,_,hK,?_⟩
 clear hK h
 obtain⟨R,hR⟩:∃ R,pA S b v=R:=⟨_,rfl⟩
 rw[hR]
 unfold pA at hR
 refine Yfw az (tCq jG (tCq H9 tNq)) Tryz.func9 [.cell 4 44] (by simp only[zlf];omega) (T:=ay [(1,[[],[],[],[],[2],[],[],[],[2],[2,6,8],[],[],[2,4,6,8,9,11]]),(801,[[11,44],[100000]])]) (h:=fun hcl=>?_)
 have hid:=glq hg
 have hne:=gH hid
 have hgc:=lv (b:=b) hid
 have hcl2:∀ w,(H.set id (dV b w)).Closed:=fun w=>ai hcl ef
 have h4:=eW (b:=b) (v:=cp v 0) (n:=4) Xc
 have h41:=eW (b:=b) (v:=cp v 1) (n:=4) Xc
 have hL:=Sx (AV.int .i64) .junk 1 1 2 3 h4
 simp only[go_sem,byq,bD,yd,bb,hg,hgc,hne,bB hb,bT,bq,ce,hL,iNq]
 refine⟨⟨Xc,Xc⟩,⟨Xa,Xa⟩,⟨Xc,Xc⟩,S,⟨rfl,hS,Xa,Xa⟩,?_⟩
 rw[cX hb (J8 _ _)]
 unfold ua
 dsimp only at hR ⊢
 generalize kA S b (cp v 2) ((cv b (cp v 1) 4:Nat):Int)=E at *
 obtain⟨e,w⟩:=E
 dsimp only at hR ⊢
 have hk:([1,1,2,3]:List Int).getD (cv b (cp v 0) 4) 0=Bu (cv b (cp v 0) 4):=rfl
 rw[hk]
 generalize Bu (cv b (cp v 0) 4)=kd at *
 simp only[go_sem,byq,gJ,a9]
 refine aq (fun h3=>?_) (fun h3=>?_)
 ·have h3':kd=3:=by simp at h3;exact h3
  rw[if_pos h3']at hR
  subst hR
  exact V115
 ·have h3':¬ kd=3:=by simp at h3;exact h3
  rw[if_neg h3']at hR
  subst hR
  exact V115
theorem OC{S:Sch}(hR:RolOk S)(hG:GenS S){m:Int}{e:SEntry}(h:GE S (fH S m) e):iW S e.table=some (fH S m)∧e.ms≠[]∧e.ms.length≤3:=by
 have ht:=ln (S:=S) (n:=m) hG.t1
 have hk:=hR.tk _ ht
 have hl:=h.ml
 refine⟨by rw[h.tb];exact hR.tu _ ht,fun h0=>?_,Xa⟩
 rw[h0]at hl
 simp at hl
 omega
theorem Kx{S:Sch}(hG:GenS S)(hR:RolOk S){b:List UInt8}{v:Nat}:EAll (pA S b v).1.2∧(pA S b v).1.2.ms≠[]∧(pA S b v).1.2.ms.length≤3∧(pA S b v).1.2.args.length≤100∧∃ t∈S.tables,(pA S b v).1.2.table=t.id:=by
 have hE:=Io hG (b:=b) (v:=cp v 2) (n:=((cv b (cp v 1) 4:Nat):Int))
 have hA:=OX hG hE
 obtain⟨h1,h2,h3⟩:=OC hR hG hE
 have hal:=hE.al
 have hpl:=hG.pl (kA S b (cp v 2) ((cv b (cp v 1) 4:Nat):Int)).1.act
 have ht:=ln (S:=S) (n:=((cv b (cp v 1) 4:Nat):Int)) hG.t1
 have htb:=hE.tb
 unfold pA
 dsimp only
 generalize (kA S b (cp v 2) ((cv b (cp v 1) 4:Nat):Int)).1=e at *
 split
 ·exact⟨⟨⟨hA.ok.ml,Xb,hA.ok.mo⟩,⟨Xb,Xb⟩,⟨hA.ad.ml,hA.ad.pf,hA.ad.pr,hA.ad.mo,Xb⟩⟩,h2,h3,Xb,_,ht,htb⟩
 ·exact⟨hA,h2,h3,Xa,_,ht,htb⟩
theorem Ml{n0:Nat}{fr:Fr}{H:AHeap}{K:Fr→AHeap→Prop}(id j mid off sz len:Nat){cs ms:List AV}(L:List AV)(hg:H.get id=some (.cells cs))(hj:cs[j]?=some (.ms mid off sz len))(hne:id≠mid)(hm:aK H mid=some ms)(hL:cg sz len (ms.drop off)=L)(hlt:(AV.slice .any sz L).lt H.nx)(hcl:H.Closed)
 (h:∀ H2:AHeap,H2.get id=some (.cells (cs.set j (.slice .any sz L)))→(∀ l o,l≠id→l≠mid→H.get l=some o→H2.get l=some o)→H2.nx=H.nx→H2.Closed→K fr H2):kc n0 K fr H:=by
 refine Gp id j mid off sz len L (ax hg) hj hne hm hL hlt (h _ ?_ (fun l o h1 h2 hx=>?_) rfl ?_)
 ·exact V159
 ·rw[AHeap.get_set_ne _ _ h1,jT,if_neg h2];exact hx
 ·refine ai (au hcl) (ltL_iff.2 fun i hi=>?_)
  rw[List.getElem_set]
  split
  ·exact hlt
  ·exact hcl id cs hg i (by simpa using hi)
theorem k7{H:AHeap}{i:Nat}{cs:List AV}(h:aK H i=some cs):H.get i=some (.cells cs):=by
 unfold aK at h
 split at h
 ·rename_i cs' e;cases h;exact e
 ·cases h
def qn:PCt
 |[.slice _ 1 l1,.slice _ 1 l2,.agg le,.int .i64 r,.int .i64 c,.int .i64 n,.agg [.int .u64 a,.int .u64 b]],_,K=>∃ e0,(isB l1∧isB l2∧le=a9 e0∧EAll e0∧ -9223372036854775808≤r∧r≤9223372036854775807∧ -9223372036854775808≤c∧c≤9223372036854775807∧ -9223372036854775808≤n∧n≤9223372036854775807∧isV a b)∧K (.bool true)
 |_,_,_=>False
theorem ok_RolesPermits:EPp 3 qn:=by
 refine Ype fun _ H K h=>?_
 unfold qn at h
 split at h<;>try exact h.elim
 rename_i m1 l1 m2 l2 le role c n a b
 obtain⟨e0,⟨c1,c2,rfl,he0,hr1,hr2,hc1,hc2,hn1,hn2,hab⟩,hK⟩:=h
 refine⟨_,hK,?_⟩
 clear hK
 obtain⟨x1,rfl⟩:=BP c1
 obtain⟨x2,rfl⟩:=BP c2
 obtain⟨v,hv,rfl,rfl,-⟩:=wG hab
 clear c1 c2 hab
 obtain⟨B1,hB1⟩:∃ B1,x1.take (min (x1.length:Int) 120).toNat=B1:=⟨_,rfl⟩
 obtain⟨B2,hB2⟩:∃ B2,x2.take (min (x2.length:Int) 60).toNat=B2:=⟨_,rfl⟩
 have hL1:B1.length≤1000000:=by rw[← hB1,List.length_take];omega
 have hL2:B2.length≤1000000:=by rw[← hB2,List.length_take];omega
 have hG:=Gw B1 0
 have hA:=NC (b:=B1)
 have hR:=rolOk_gen (b:=B1) (v:=0)
 generalize hS:bY B1 0=SS at *
 obtain⟨S,w1⟩:=SS
 dsimp only at hG hA hR
 have hz1:zod B1 0=dV B1 (cp 0 0):=y5
 have hz2:zod B2 0=dV B2 (cp 0 0):=y5
 refine Yfw az (tCq Gu (tCq C8 (tCq FA (tCq Hj (tCq xt (tCq FU (tCq FT tNq))))))) Tryz.func3 [.tmp 14] (nrq _) (T:=ay [(7,[[],[],[],[],[3],[],[],[3,5],[],[],[3,5]]),(17,[[],[],[],[],[],[],[],[],[],[],[],[0,1,2,3,4,5,7,9]]),(23,[[],[],[],[0,2],[],[],[],[0,2,3,4,6]]),(807,[[100000],[100006]]),(1207,[[300000]]),(8,[[1,1]]),(13,[[0,9]]),(15,[[1]])]) (h:=fun hcl=>?_)
 have db:∀ b:Int,(b !=b)=false:=fun b=>Xb
 simp only[go_sem,a9,uy]
 refine⟨x1,⟨rfl,Xa⟩,?_⟩
 rw[hB1,hz1]
 have hSch:sK=eG fun b v=>(yC (bY b v).1,(bY b v).2):=rfl
 simp only[bn,aF,bhq,go_sem,uy,hSch,eG,bB hL1,Nat.zero_min,cp0,hS,yC,bb]
 refine⟨x2,⟨rfl,Xa⟩,?_⟩
 rw[hB2,hz2]
 refine T42 ?_
 obtain⟨HB,hHB⟩:∃ HB:Nat→AHeap,HB=fun w=>((((H.push (.cells (a9 e0))).push (.cells [.int .u64 ((v/2^64:Nat):Int),.int .u64 ((v%2^64:Nat):Int)])).push (dV B1 w1)).push (dV B2 (cp w 0))).push (.cells (bb S)):=⟨_,rfl⟩
 have hclB:∀ w,(HB w).Closed:=fun w=>by
  rw[hHB]
  exact aa (aa (aa (aa (aa hcl (qt e0)) Xr) ef) ef) (ne S)
 refine aA (A:=Nat × Nat) (fun k=>[(3,.int .i64 role),(4,.int .i64 c),(5,.int .i64 n),(9,.ptr H.nx 0),(13,.ptr (H.nx+1) 0),(15,.ptr (H.nx+1+1+1+1) 0),(16,.ptr (H.nx+1+1+1) 0),(17,.int .i64 (k.1:Int))]) (fun k=>HB k.2) (fun k=>k.1≤5) (fun k=>5-k.1) (0,0) (Nat.zero_le _) ?_ fun k hk=>?_
 ·refine⟨by rw[hHB];simp only[zkq,zkv,zle];omega,by rw[hHB];exact lRq _,hclB _,?_,?_⟩
  ·rw[hHB]
   exact V106
  ·exact V8
 obtain⟨k,w⟩:=k
 dsimp only at hk ⊢
 rw[hHB]
 refine T9 ?_
 refine aq (fun hc=>?_) (fun hc=>?_)
 ·have hk':k<5:=sHc
  have ei:IntKind.i64.wrap ((k:Int)+1)=((k+1:Nat):Int):=Xe
  simp only[bn,aF,bhq,go_sem,bb,u5]
  refine⟨S,⟨rfl,hG⟩,?_⟩
  rw[bB hL2]
  obtain⟨o1,o2,o3,o4,t,ht,o5⟩:=Kx hG hR (b:=B2) (v:=min (cp w 0) B2.length)
  generalize pA S B2 (min (cp w 0) B2.length)=U at *
  obtain⟨⟨kd,e⟩,w'⟩:=U
  dsimp only at o1 o2 o3 o4 o5
  have hie:(List.map aP e.ms).isEmpty=false:=by
   cases hm:e.ms with
   |nil=>exact absurd hm o2
   |cons x y=>rfl
  have hone:∀ z∈List.map aP e.ms,bG z.cells=true:=fun z hz=>by
   exact V135
  have hone2:∀ z∈List.map vv e.args,bG z.cells=true:=fun z hz=>by
   exact V135
  simp only[bn,aF,bhq,go_sem,nL,gI,a9,hie]
  obtain⟨ex,hex⟩:∃ ex:SEntry,ex={e with args:=e.args++[v]}:=⟨_,rfl⟩
  have hexA:ex.args.map vv=e.args.map vv++[.agg [.int .u64 ((v/2^64:Nat):Int),.int .u64 ((v%2^64:Nat):Int)]]:=by rw[hex];simp[vv]
  have hexC:gI (kd,ex)=[.int .i64 kd,.int .i64 e.table,.slice .any 8 (e.ms.map aP),.int .i64 e.prio,.int .i64 e.act,.slice .any 2 (ex.args.map vv)]:=by rw[hex];rfl
  have hclU:∀(u:Int × SEntry) n,ltL n (gI u):=fun u n=>by
   have:=oE (n:=n) u
   unfold nL at this
   rwa[znr]at this
  refine⟨⟨Xa,Xa,hone2⟩,?_⟩
  apply lf (α:=AHeap) (fun _=>[(3,.int .i64 role),(4,.int .i64 c),(5,.int .i64 n),(9,.ptr H.nx 0),(13,.ptr (H.nx+1) 0),(15,.ptr (H.nx+1+1+1+1) 0),(16,.ptr (H.nx+1+1+1) 0),(17,.int .i64 (k:Int)),(18,.ptr (H.nx+1+1+1+1+1) 0),(19,.ptr (H.nx+1+1+1+1+1+1) 0)]) (fun G=>G) (fun G=>G.Closed∧H.Le G∧H.nx+7≤G.nx∧aK G H.nx=some (a9 e0)∧aK G (H.nx+1)=some [.int .u64 ((v/2^64:Nat):Int),.int .u64 ((v%2^64:Nat):Int)]∧G.get (H.nx+1+1)=some (dV B1 w1)∧G.get (H.nx+1+1+1)=some (dV B2 w')∧aK G (H.nx+1+1+1+1)=some (bb S)∧aK G (H.nx+1+1+1+1+1)=some (gI (kd,e))∧aK G (H.nx+1+1+1+1+1+1)=some (gI (kd,ex)))
  ·intro J
   have hv1:∀ z∈[AV.agg [.int .u64 ((v/2^64:Nat):Int),.int .u64 ((v%2^64:Nat):Int)]],bG z.cells=true:=fun z hz=>by rw[List.mem_singleton.1 hz];rfl
   by_cases hea:e.args=[]
   ·rw[hea]at hexA
    simp only[yaf,yak]at hexA
    simp only[bn,aF,bhq,go_sem,hea,yaf,List.isEmpty_nil,List.isEmpty_cons,if_true,Bool.false_eq_true,if_false]
    refine⟨hv1,?_⟩
    refine eH (H.nx+1+1+1+1+1+1) (gI (kd,ex)) Xn ?_ ?_
    ·rw[hexC,hexA]
     simp[cu,cL,cw,wkM,nw,kN,qB]
    refine T46 ?_
    refine eU J _ ⟨ag (ag (aa (aa (aa (aa (aa (aa (aa hcl (qt e0)) Xr) ef) ef) (ne S)) Xu) (hclU _ _))),by repeat(with_reducible first|refine lPq ?_ _|exact lRq _),Xg,?_,?_,?_,?_,?_,?_,?_⟩ ⟨by show H.nx≤_;simp only[zle];omega,lRq _,ag (ag (aa (aa (aa (aa (aa (aa (aa hcl (qt e0)) Xr) ef) ef) (ne S)) Xu) (hclU _ _))),?_,?_⟩
    ·simp only[go_sem,a9]
    ·simp only[go_sem]
    ·(simp only[go_sem];rfl)
    ·(simp only[go_sem];rfl)
    ·simp only[go_sem,bb]
    ·simp only[go_sem,gI,a9,hea,yaf]
    ·simp only[go_sem]
    ·exact V106
    ·exact V8
   ·have hie2:(e.args.map vv).isEmpty=false:=by
     cases hq:e.args with
     |nil=>exact absurd hq hea
     |cons y ys=>rfl
    simp only[bn,aF,bhq,go_sem,hie2,ybb,Bool.false_eq_true,if_false]
    refine⟨⟨Xa,Xa,hv1⟩,?_⟩
    refine eH (H.nx+1+1+1+1+1+1) (gI (kd,ex)) Xn ?_ ?_
    ·rw[hexC,hexA]
     simp[cu,cL,cw,wkM,nw,kN,qB]
    refine T46 ?_
    refine eU J _ ⟨ag (aa (aa (aa (aa (aa (aa (aa hcl (qt e0)) Xr) ef) ef) (ne S)) Xu) (hclU _ _)),by repeat(with_reducible first|refine lPq ?_ _|exact lRq _),Xg,?_,?_,?_,?_,?_,?_,?_⟩ ⟨by show H.nx≤_;simp only[zle];omega,lRq _,ag (aa (aa (aa (aa (aa (aa (aa hcl (qt e0)) Xr) ef) ef) (ne S)) Xu) (hclU _ _)),?_,?_⟩
    ·simp only[go_sem,a9]
    ·simp only[go_sem]
    ·(simp only[go_sem];rfl)
    ·(simp only[go_sem];rfl)
    ·simp only[go_sem,bb]
    ·simp only[go_sem,gI,a9,hea,yaf]
    ·simp only[go_sem]
    ·exact V106
    ·exact V8
  ·rintro G ⟨g1,g2,g3,g4,g5,gc,g6,g7,g8,g9⟩
   have n0:=gH (show H.nx<G.nx by omega)
   have n1:=gH (show(H.nx+1)<G.nx by omega)
   have n3:=gH (show(H.nx+1+1+1)<G.nx by omega)
   have n4:=gH (show(H.nx+1+1+1+1)<G.nx by omega)
   have n5:=gH (show(H.nx+1+1+1+1+1)<G.nx by omega)
   have n6:=gH (show(H.nx+1+1+1+1+1+1)<G.nx by omega)
   simp only[gI,a9,bb]at g4 g7 g8 g9
   simp only[bn,aF,bhq,go_sem,g4,g5,g7,g8,g9,n0,n1,n4,n5,n6,hie]
   obtain⟨em,hem⟩:∃ em:SEntry,em={e with ms:=e.ms.set 0 {e.ms.headD cC with value:=v} }:=⟨_,rfl⟩
   have heml:em.ms.length=e.ms.length:=by rw[hem];simp
   refine⟨⟨Xa,Xa,hone⟩,by simpa using o2,fun kk=>?_⟩
   have hsp:splice (List.flatMap AV.cells (List.map aP e.ms)++List.replicate kk AV.junk) 1 [.int .u64 ((v/2^64:Nat):Int),.int .u64 ((v%2^64:Nat):Int)]=em.ms.flatMap bQ++List.replicate kk AV.junk:=by
    rw[rP,hem]
    cases hq:e.ms with
    |nil=>exact absurd hq o2
    |cons m0 ms'=>simp[bQ,vc,splice]
   have hfl3:3≤(List.flatMap AV.cells (List.map aP e.ms)++List.replicate kk AV.junk).length:=by
    rw[rP,lAq,mg]
    have:=List.length_pos_iff.2 o2
    omega
   have hrow:cg 8 e.ms.length ((em.ms.flatMap bQ++List.replicate kk AV.junk).drop 0)=em.ms.map aP:=by
    rw[yap,← heml]
    exact xY em.ms kk
   have hpos:(0:Int)<(e.ms.length:Int):=by have:=List.length_pos_iff.2 o2;omega
   rw[hsp]
   refine⟨⟨Xc,hpos⟩,hfl3,?_⟩
   refine Ml (G.nx+1+1) 2 (G.nx+1+1+1) 0 8 e.ms.length (em.ms.map aP) Xn rfl Xa Xk hrow (bk cN) (ClN.cells (ClN.cells (ClN.cells (ClN.cells (ClN.of g1 Xg) Xu) Xu) (by simp[znu,znv,znf,znp,zle,aN,gU])) (Gt (nA (f:=aP) cN) (ltL_iff.2 fun j hj=>by rw[List.getElem_replicate,AV.lt]<;>simp))) fun G2 hg2 hk2 hnx hclG2=>?_
   have hnx:G2.nx=G.nx+1+1+1+1:=hnx
   have keep:∀ i o,i<G.nx→G.get i=some o→G2.get i=some o:=fun i o hi ho=>hk2 i o Xa Xa (by
    (repeat rw[gPq _ _ (by(try simp only[zle]);omega)])
    exact ho)
   obtain⟨ey,hey⟩:∃ ey:SEntry,ey={e with act:=ul .i64 n 7}:=⟨_,rfl⟩
   obtain⟨ez,hez⟩:∃ ez:SEntry,ez={e with prio:=n}:=⟨_,rfl⟩
   obtain⟨eo,heo⟩:∃ eo:SEntry,eo={e with table:=ul .i64 n 7}:=⟨_,rfl⟩
   have a20:aK G2 G.nx=some (gI (kd,ey)):=ax (by rw[hey];exact hk2 _ _ Xa Xa (by(repeat rw[gPq _ _ (by(try simp only[zle]);omega)]);exact AHeap.get_push_new _ _))
   have a21:aK G2 (G.nx+1)=some (gI (kd,ez)):=ax (by rw[hez];exact hk2 _ _ Xa Xa (by(repeat rw[gPq _ _ (by(try simp only[zle]);omega)]);exact AHeap.get_push_new (G.push _) _))
   have a22:aK G2 (G.nx+1+1)=some (gI (kd,em)):=by rw[hem]at hg2 ⊢;exact ax hg2
   have b0:=ax (keep _ _ Xa (k7 g4))
   have b1:=ax (keep _ _ Xa (k7 g5))
   have b3:=keep _ _ Xa g6
   have b2:=keep _ _ Xa gc
   have b4:=ax (keep _ _ Xa (k7 g7))
   have b5:=ax (keep _ _ Xa (k7 g8))
   have b6:=ax (keep _ _ Xa (k7 g9))
   have hle2:H.Le G2:=⟨by have:=g2.nx;omega,fun i o ho=>keep i o (by have:=glq ho;omega) (g2.get i o ho)⟩
   have hleB:(HB w').Le G2:=by
    rw[hHB]
    refine⟨Xg,fun i o ho=>?_⟩
    rcases AHeap.get_push_inv _ _ ho with⟨rfl,rfl⟩|⟨_,ho⟩
    ·exact k7 b4
    rcases AHeap.get_push_inv _ _ ho with⟨rfl,rfl⟩|⟨_,ho⟩
    ·exact b3
    rcases AHeap.get_push_inv _ _ ho with⟨rfl,rfl⟩|⟨_,ho⟩
    ·exact b2
    rcases AHeap.get_push_inv _ _ ho with⟨rfl,rfl⟩|⟨_,ho⟩
    ·exact k7 b1
    rcases AHeap.get_push_inv _ _ ho with⟨rfl,rfl⟩|⟨_,ho⟩
    ·exact k7 b0
    exact hle2.get i o ho
   obtain⟨f1,f2,f3,f4⟩:EAll ex∧EAll ey∧EAll ez∧EAll em:=by
    have q1:=o1.ok
    have q2:=o1.ad
    refine⟨?_,?_,?_,?_⟩
    ·rw[hex]
     have har:∀ x∈e.args++[v],x<2^128:=fun x hx=>by
      rcases List.mem_append.1 hx with hx|hx
      ·exact o1.ad.ar x hx
      ·rw[List.mem_singleton.1 hx];exact hv
     exact⟨⟨q1.ml,Xd,q1.mo⟩,⟨har,Xd⟩,⟨q2.ml,q2.pf,q2.pr,q2.mo,har⟩⟩
    ·rw[hey];exact⟨⟨q1.ml,q1.al,q1.mo⟩,⟨o1.ar.ar,o1.ar.al⟩,⟨q2.ml,q2.pf,q2.pr,q2.mo,q2.ar⟩⟩
    ·rw[hez];exact⟨⟨q1.ml,q1.al,q1.mo⟩,⟨o1.ar.ar,o1.ar.al⟩,⟨q2.ml,q2.pf,by show n<_;omega,q2.mo,q2.ar⟩⟩
    ·have hmm:∀ m∈em.ms,MOk m∧m.pfx<9223372036854775808:=fun m hm=>by
      rw[hem]at hm
      dsimp only at hm
      cases hq:e.ms with
      |nil=>exact absurd hq o2
      |cons m0 ms' =>
       rw[hq]at hm
       simp only[List.set_cons_zero,yad,List.mem_cons]at hm
       rcases hm with rfl|hm
       ·have h0:=q1.mo m0 (by rw[hq];simp)
        exact⟨⟨hv,h0.k,h0.h⟩,q2.pf m0 (by rw[hq];simp)⟩
       ·exact⟨q1.mo m (by rw[hq];simp[hm]),q2.pf m (by rw[hq];simp[hm])⟩
     have e1:em.args=e.args:=by rw[hem]
     have e2:em.prio=e.prio:=by rw[hem]
     exact⟨⟨Xa,by rw[e1];exact q1.al,fun m hm=>(hmm m hm).1⟩,⟨by rw[e1];exact o1.ar.ar,by rw[e1];exact o1.ar.al⟩,⟨by rw[heml];exact q2.ml,fun m hm=>(hmm m hm).2,by rw[e2];exact q2.pr,fun m hm=>(hmm m hm).1,by rw[e1];exact q2.ar⟩⟩
   have f5:EAll eo:=by
    rw[heo];exact⟨⟨o1.ok.ml,o1.ok.al,o1.ok.mo⟩,⟨o1.ar.ar,o1.ar.al⟩,⟨o1.ad.ml,o1.ad.pf,o1.ad.pr,o1.ad.mo,o1.ad.ar⟩⟩
   have heoC:[AV.int .i64 kd,.int .i64 (ul .i64 n 7),.slice .any 8 (e.ms.map aP),.int .i64 e.prio,.int .i64 e.act,.slice .any 2 (e.args.map vv)]=gI (kd,eo):=by rw[heo];rfl
   clear hk2 keep g2 g4 g5 gc g6 g7 g8 g9 n0 n1 n3 n4 n5 n6 hg2 hsp hrow
   have n0:=gH (show H.nx<G2.nx by omega)
   have n1:=gH (show(H.nx+1)<G2.nx by omega)
   have n3:=gH (show(H.nx+1+1+1)<G2.nx by omega)
   have n4:=gH (show(H.nx+1+1+1+1)<G2.nx by omega)
   have n5:=gH (show(H.nx+1+1+1+1+1)<G2.nx by omega)
   have n6:=gH (show(H.nx+1+1+1+1+1+1)<G2.nx by omega)
   have n20:=gH (show G.nx<G2.nx by omega)
   have n21:=gH (show G.nx+1<G2.nx by omega)
   have n22:=gH (show G.nx+1+1<G2.nx by omega)
   simp only[gI,a9]at a20 a21 a22 b0 b6 heoC
   simp only[bn,aF,bhq,go_sem,a20,a21,a22,b0,b1,b4,b5,b6,n0,n1,n4,n5,n6,n20,n21,n22,heoC,jR]
   have e1c:IntKind.i64.wrap (1+c%3)=1+c%3:=Xe
   refine⟨⟨Xa,Xa,Xc,Xc⟩,?_⟩
   obtain⟨W,hW⟩:∃ W:List (Int × SEntry),W=[(kd,e),(kd,ex),(kd,ey),(kd,ez),(kd,em),(kd,eo),(1+c%3,e0)]:=⟨_,rfl⟩
   have hWl:W.length=7:=by rw[hW];rfl
   have hWo:∀ x∈W,EAll x.2:=fun x hx=>by
    rw[hW]at hx
    simp only[List.mem_cons,List.not_mem_nil,or_false]at hx
    rcases hx with rfl|rfl|rfl|rfl|rfl|rfl|rfl
    ·exact o1
    ·exact f1
    ·exact f2
    ·exact f3
    ·exact f4
    ·exact f5
    ·exact he0
   have hWm:[nL (kd,e),nL (kd,ex),nL (kd,ey),nL (kd,ez),nL (kd,em),nL (kd,eo),nL (1+c%3,e0)]=W.map nL:=by rw[hW];rfl
   simp only[nL,gI,a9]at hWm
   simp only[bn,aF,bhq,go_sem,e1c,hWm]
   have hclE:(G2.push (.cells (gI (kd,eo)))).Closed:=aa hclG2 (hclU _ _)
   refine aA (A:=Nat) (fun i=>[(3,.int .i64 role),(4,.int .i64 c),(5,.int .i64 n),(9,.ptr H.nx 0),(13,.ptr (H.nx+1) 0),(15,.ptr (H.nx+1+1+1+1) 0),(16,.ptr (H.nx+1+1+1) 0),(17,.int .i64 (k:Int)),(90,.slice .any 6 (W.map nL)),(91,.int .i64 7),(92,.int .i64 (i:Int))]) (fun _=>(G2.push (.cells (gI (kd,eo)))).push (.buf 6 7)) (fun i=>i≤7) (fun i=>7-i) 0 (Nat.zero_le _) ?_ fun i hi=>?_
   ·refine⟨Xj,by repeat first|exact .refl _|refine .push ?_ _,ag hclE,?_,?_⟩
    ·exact V110
    ·exact V8
   have hbs:∀ j,j<H.nx+1+1+1+1+1→(j=G2.nx)=False∧(j=G2.nx+1)=False∧(j=G2.nx+1+1)=False∧(j=G2.nx+1+1+1)=False:=fun j hj=>⟨eFo,eFo,eFo,eFo⟩
   have m4:=hbs (H.nx+1+1+1+1) Xa
   have ei2:IntKind.i64.wrap ((i:Int)+1)=((i+1:Nat):Int):=Xe
   refine T9 ?_
   refine aq (fun hc2=>?_) (fun hc2=>?_)
   ·have hi':i<W.length:=by simp at hc2;omega
    obtain⟨u,hu⟩:∃ u,u=W[i]:=⟨_,rfl⟩
    have hgu:=bf (f:=nL) (l:=W) (k:=i) (x:=u) (by rw[gQq hi',hu])
    have huo:=hWo u (by rw[hu];exact gMq hi')
    obtain⟨ku,eu⟩:=u
    dsimp only at huo
    simp only[bn,aF,bhq,go_sem,iNq,hgu,nL,gI,a9,ybb,hWl]
    refine⟨Xa,?_⟩
    have hclF:=ag (a:=1) (b:=4) (aa (ag (a:=6) (b:=7) hclE) (hclU (ku,eu) _))
    refine aA (A:=Nat) (fun j=>[(3,.int .i64 role),(4,.int .i64 c),(5,.int .i64 n),(9,.ptr H.nx 0),(13,.ptr (H.nx+1) 0),(15,.ptr (H.nx+1+1+1+1) 0),(16,.ptr (H.nx+1+1+1) 0),(17,.int .i64 (k:Int)),(25,.ptr (G2.nx+1+1) 0),(90,.slice .any 6 (W.map nL)),(91,.int .i64 7),(92,.int .i64 (i:Int)),(97,.slice .any 1 [.int .i64 1,.int .i64 2,.int .i64 7,.int .i64 role]),(98,.int .i64 4),(99,.int .i64 (j:Int))]) (fun _=>(((G2.push (.cells (gI (kd,eo)))).push (.buf 6 7)).push (.cells (gI (ku,eu)))).push (.buf 1 4)) (fun j=>j≤4) (fun j=>4-j) 0 (Nat.zero_le _) ?_ fun j hj=>?_
    ·refine⟨Xj,by repeat first|exact .refl _|refine .push ?_ _,hclF,?_,?_⟩
     ·exact V110
     ·exact V8
    refine T9 ?_
    refine aq (fun hc3=>?_) (fun hc3=>?_)
    ·have hj':j<4:=by simp at hc3;omega
     obtain⟨rr,hgr⟩:∃ r:Int,[AV.int .i64 1,.int .i64 2,.int .i64 7,.int .i64 role].getD j .junk=.int .i64 r:=by
      match j,hj' with
      |0,_=>exact⟨1,rfl⟩
      |1,_=>exact⟨2,rfl⟩
      |2,_=>exact⟨7,rfl⟩
      |3,_=>exact⟨role,rfl⟩
     have ei3:IntKind.i64.wrap ((j:Int)+1)=((j+1:Nat):Int):=Xe
     simp only[bn,aF,bhq,go_sem,hgr,b4,m4,gI,a9,iNq,yaz,yba,qS]
     refine⟨Xa,S,ku,eu,⟨rfl,rfl,hA.p,huo⟩,?_⟩
     try simp only[bn,aF,bhq,go_sem,b4,m4,u4]
     refine⟨S,ku,eu,⟨rfl,rfl,hA,huo⟩,?_⟩
     try simp only[bn,aF,bhq,go_sem,b4,m4,db,ei3]
     refine⟨j+1,Xa,Xa,?_⟩
     refine⟨Xj,by repeat first|exact .refl _|refine .push ?_ _,hclF,?_,?_⟩
     ·exact V110
     ·exact V8
    ·simp only[go_sem,ei2]
     refine⟨i+1,Xa,Xa,?_⟩
     refine⟨Xj,by repeat first|exact .refl _|refine .push ?_ _,ag hclE,?_,?_⟩
     ·exact V110
     ·exact V8
   ·simp only[go_sem,ei]
    refine⟨(k+1,w'),Xf,Xf,?_⟩
    have hclW:=hclB w'
    rw[hHB]at hclW hleB
    refine⟨Xj,by repeat(first|exact hleB|refine lPq ?_ _),hclW,?_,?_⟩
    ·exact V106
    ·exact V8
 ·simp only[go_sem,uR]
  exact V3
end Go.AL
