/- Lemmas of the proof; no condition. -/
import Derived.Test.YtjnhidpnfdbmaaaGreatLRol
import Derived.Test.YtjnhidpnfdbmaaaGreatS10e
import Derived.Test.YtjnhidpnfdbmaaaGreatS11g
import Derived.Test.YtjnhidpnfdbmaaaGreatS11j
set_option linter.all false
set_option maxRecDepth 10000
set_option maxHeartbeats 32000000
open List renaming length_cons → yaz, length_nil → yba, take_succ_cons → yaq, take_zero → yar, drop_succ_cons → yao, drop_zero → yap, length_map → ybb, map_nil → yaf, append_nil → yaj, take_nil → yas, cons_append → yal, nil_append → yak, map_cons → yae, take_of_length_le → ybc, drop_append → ybd, take_append → ybe, drop_eq_nil_of_le → ybf
open Go Go.AL Go.Proofs
namespace Go.AL
def AHeap.hole (H:AHeap):AHeap:=⟨H.nx+1,fun i=>if i=H.nx then .none else H.f i⟩
theorem gA {H:AHeap}:H.hole.nx=H.nx+1:=(rfl)
theorem kF {H:AHeap} {i:Nat}:H.hole.get i=if i=H.nx then .none else H.get i:=by
 unfold AHeap.get AHeap.hole
 by_cases h:i=H.nx
 ·subst h;simp
 ·by_cases h2:i<H.nx
  ·simp [h,h2,Nat.lt_succ_of_lt h2]
  ·simp only [h,if_false,h2];split<;>first|omega|rfl
theorem zY {H:AHeap} {i:Nat}:aH H.hole i=if i=H.nx then .none else aH H i:=by
 unfold aH
 rw [kF]
 by_cases h:i=H.nx<;>simp [h]
theorem GB {H:AHeap} {i:Nat} {o:AObj}:H.hole.set i o=if i=H.nx then H.push o else (H.set i o).hole:=by
 split
 ·rename_i h;subst h
  unfold AHeap.set AHeap.push AHeap.hole;congr 1;funext j;by_cases hj:j=H.nx<;>simp [hj]
 ·rename_i h
  unfold AHeap.set AHeap.hole;congr 1;funext j
  simp only
  by_cases h1:j=i
  ·subst h1;simp [h]
  ·simp [h1]
theorem bj {H:AHeap} (h:H.Closed):H.hole.Closed:=fun i cs hi j hj=>by
 rw [kF] at hi
 split at hi
 ·cases hi
 ·exact AV.lt_mono (Nat.le_succ _) _ (h i cs hi j hj)
theorem Kh {A B:AHeap} {o:AObj} (h:A.Le B) (hn:A.nx=B.nx):(A.push o).Le (B.push o) :=
 ⟨by rw [AHeap.nx_push,AHeap.nx_push,hn];exact nrq _,fun i x hx=>by
  rcases AHeap.get_push_inv _ _ hx with ⟨rfl,rfl⟩|⟨hl,hx⟩
  ·rw [hn];exact AHeap.get_push_new _ _
  ·rw [gPq _ _ (by omega)];exact h.get i x hx⟩
theorem Ks {A B:AHeap} {o:AObj} (h:A.Le B) (hn:A.nx=B.nx):A.hole.Le (B.push o) :=
 ⟨by rw [gA,AHeap.nx_push,hn];exact nrq _,fun i x hx=>by
  rw [kF] at hx
  split at hx
  ·cases hx
  ·have:=glq hx
   rw [gPq _ _ (by omega)];exact h.get i x hx⟩
theorem Mp {A B:AHeap} (h:A.Le B) (hn:A.nx=B.nx):A.hole.Le B.hole :=
 ⟨by rw [gA,gA,hn];exact nrq _,fun i x hx=>by
  rw [kF] at hx ⊢
  split at hx
  ·cases hx
  ·rename_i hi
   rw [if_neg (by omega)];exact h.get i x hx⟩
theorem l9 {A B:AHeap} (h:A.Le B):A.Le B.hole :=
 ⟨Nat.le_succ_of_le h.nx,fun i x hx=>by
  have h1:=h.get i x hx
  have:=glq h1
  rw [kF,if_neg (by omega)];exact h1⟩
theorem ACalls.weak {P:Program} {f:FuncId} {args:List AV} {H H' H1:AHeap} {x y:AV} (h:ACalls P f args H (.ret x) H') (hw:ae H' x H1 y) (hn:H.nx≤H1.nx):ACalls P f args H (.ret y) H1:=fun w γ vs hs hr=>by
 refine UponCall.mono (fun en w' hen=>?_) (h w γ vs hs hr)
 obtain ⟨γ1,h1,he,hend⟩:=hen
 obtain ⟨h2,h3,h4,h5⟩:=hw
 cases en with
 |returned v=>exact ⟨γ1,h1.drop h3 h4,he.drop0 h3 hn,qS h1 h3 (show Rel w' γ1 H' x v from hend) h2 h5⟩
 |_=>exact hend.elim
theorem Nr {a:Nat}:(a=a+1+1+1+1+1+1+1+1+1+1+1+1+1)=False:=eq_false (by omega)
theorem Np {a:Nat}:(a+1+1+1+1+1+1+1+1+1+1+1+1+1=a)=False:=eq_false (by omega)
theorem Nn {a:Nat}:(a=a+1+1+1+1+1+1+1+1+1+1+1+1+1+1)=False:=eq_false (by omega)
theorem MZ {a:Nat}:(a+1+1+1+1+1+1+1+1+1+1+1+1+1+1=a)=False:=eq_false (by omega)
theorem MW {a:Nat}:(a=a+1+1+1+1+1+1+1+1+1+1+1+1+1+1+1)=False:=eq_false (by omega)
theorem Mz {a:Nat}:(a+1+1+1+1+1+1+1+1+1+1+1+1+1+1+1=a)=False:=eq_false (by omega)
theorem MI {a:Nat}:(a=a+1+1+1+1+1+1+1+1+1+1+1+1+1+1+1+1)=False:=eq_false (by omega)
theorem Mw {a:Nat}:(a+1+1+1+1+1+1+1+1+1+1+1+1+1+1+1+1=a)=False:=eq_false (by omega)
theorem M7 {a:Nat}:(a=a+1+1+1+1+1+1+1+1+1+1+1+1+1+1+1+1+1)=False:=eq_false (by omega)
theorem Nw {a:Nat}:(a+1+1+1+1+1+1+1+1+1+1+1+1+1+1+1+1+1=a)=False:=eq_false (by omega)
theorem MY {a:Nat}:(a=a+1+1+1+1+1+1+1+1+1+1+1+1+1+1+1+1+1+1)=False:=eq_false (by omega)
theorem MR {a:Nat}:(a+1+1+1+1+1+1+1+1+1+1+1+1+1+1+1+1+1+1=a)=False:=eq_false (by omega)
theorem MH {a:Nat}:(a=a+1+1+1+1+1+1+1+1+1+1+1+1+1+1+1+1+1+1+1)=False:=eq_false (by omega)
theorem MN {a:Nat}:(a+1+1+1+1+1+1+1+1+1+1+1+1+1+1+1+1+1+1+1=a)=False:=eq_false (by omega)
theorem Mq {a:Nat}:(a=a+1+1+1+1+1+1+1+1+1+1+1+1+1+1+1+1+1+1+1+1)=False:=eq_false (by omega)
theorem Nl {a:Nat}:(a+1+1+1+1+1+1+1+1+1+1+1+1+1+1+1+1+1+1+1+1=a)=False:=eq_false (by omega)
theorem MP {a:Nat}:(a=a+1+1+1+1+1+1+1+1+1+1+1+1+1+1+1+1+1+1+1+1+1)=False:=eq_false (by omega)
theorem L9 {a:Nat}:(a+1+1+1+1+1+1+1+1+1+1+1+1+1+1+1+1+1+1+1+1+1=a)=False:=eq_false (by omega)
theorem Mf {a:Nat}:(a=a+1+1+1+1+1+1+1+1+1+1+1+1+1+1+1+1+1+1+1+1+1+1)=False:=eq_false (by omega)
theorem M9 {a:Nat}:(a+1+1+1+1+1+1+1+1+1+1+1+1+1+1+1+1+1+1+1+1+1+1=a)=False:=eq_false (by omega)
theorem MO {a:Nat}:(a=a+1+1+1+1+1+1+1+1+1+1+1+1+1+1+1+1+1+1+1+1+1+1+1)=False:=eq_false (by omega)
theorem MC {a:Nat}:(a+1+1+1+1+1+1+1+1+1+1+1+1+1+1+1+1+1+1+1+1+1+1+1=a)=False:=eq_false (by omega)
theorem Nk {a:Nat}:(a=a+1+1+1+1+1+1+1+1+1+1+1+1+1+1+1+1+1+1+1+1+1+1+1+1)=False:=eq_false (by omega)
theorem MM {a:Nat}:(a+1+1+1+1+1+1+1+1+1+1+1+1+1+1+1+1+1+1+1+1+1+1+1+1=a)=False:=eq_false (by omega)
theorem Nc {a:Nat}:(a=a+1+1+1+1+1+1+1+1+1+1+1+1+1+1+1+1+1+1+1+1+1+1+1+1+1)=False:=eq_false (by omega)
theorem Mh {a:Nat}:(a+1+1+1+1+1+1+1+1+1+1+1+1+1+1+1+1+1+1+1+1+1+1+1+1+1=a)=False:=eq_false (by omega)
theorem Nm {a:Nat}:(a=a+1+1+1+1+1+1+1+1+1+1+1+1+1+1+1+1+1+1+1+1+1+1+1+1+1+1)=False:=eq_false (by omega)
theorem Nf {a:Nat}:(a+1+1+1+1+1+1+1+1+1+1+1+1+1+1+1+1+1+1+1+1+1+1+1+1+1+1=a)=False:=eq_false (by omega)
theorem M4 {a:Nat}:(a=a+1+1+1+1+1+1+1+1+1+1+1+1+1+1+1+1+1+1+1+1+1+1+1+1+1+1+1)=False:=eq_false (by omega)
theorem MD {a:Nat}:(a+1+1+1+1+1+1+1+1+1+1+1+1+1+1+1+1+1+1+1+1+1+1+1+1+1+1+1=a)=False:=eq_false (by omega)
theorem Nx {a:Nat}:(a=a+1+1+1+1+1+1+1+1+1+1+1+1+1+1+1+1+1+1+1+1+1+1+1+1+1+1+1+1)=False:=eq_false (by omega)
theorem Me {a:Nat}:(a+1+1+1+1+1+1+1+1+1+1+1+1+1+1+1+1+1+1+1+1+1+1+1+1+1+1+1+1=a)=False:=eq_false (by omega)
theorem Na {a:Nat}:(a=a+1+1+1+1+1+1+1+1+1+1+1+1+1+1+1+1+1+1+1+1+1+1+1+1+1+1+1+1+1)=False:=eq_false (by omega)
theorem Mu {a:Nat}:(a+1+1+1+1+1+1+1+1+1+1+1+1+1+1+1+1+1+1+1+1+1+1+1+1+1+1+1+1+1=a)=False:=eq_false (by omega)
theorem Ns {a:Nat}:(a=a+1+1+1+1+1+1+1+1+1+1+1+1+1+1+1+1+1+1+1+1+1+1+1+1+1+1+1+1+1+1)=False:=eq_false (by omega)
theorem My {a:Nat}:(a+1+1+1+1+1+1+1+1+1+1+1+1+1+1+1+1+1+1+1+1+1+1+1+1+1+1+1+1+1+1=a)=False:=eq_false (by omega)
theorem M5 {a:Nat}:(a=a+1+1+1+1+1+1+1+1+1+1+1+1+1+1+1+1+1+1+1+1+1+1+1+1+1+1+1+1+1+1+1)=False:=eq_false (by omega)
theorem Mx {a:Nat}:(a+1+1+1+1+1+1+1+1+1+1+1+1+1+1+1+1+1+1+1+1+1+1+1+1+1+1+1+1+1+1+1=a)=False:=eq_false (by omega)
theorem Ng {a:Nat}:(a=a+1+1+1+1+1+1+1+1+1+1+1+1+1+1+1+1+1+1+1+1+1+1+1+1+1+1+1+1+1+1+1+1)=False:=eq_false (by omega)
theorem Mc {a:Nat}:(a+1+1+1+1+1+1+1+1+1+1+1+1+1+1+1+1+1+1+1+1+1+1+1+1+1+1+1+1+1+1+1+1=a)=False:=eq_false (by omega)
theorem MQ {a:Nat}:(a=a+1+1+1+1+1+1+1+1+1+1+1+1+1+1+1+1+1+1+1+1+1+1+1+1+1+1+1+1+1+1+1+1+1)=False:=eq_false (by omega)
theorem Ni {a:Nat}:(a+1+1+1+1+1+1+1+1+1+1+1+1+1+1+1+1+1+1+1+1+1+1+1+1+1+1+1+1+1+1+1+1+1=a)=False:=eq_false (by omega)
attribute [go_sem] gA kF zY GB Nr Np Nn MZ MW Mz MI Mw M7 Nw MY MR MH MN Mq Nl MP L9 Mf M9 MO MC Nk MM Nc Mh Nm Nf M4 MD Nx Me Na Mu Ns My M5 Mx Ng Mc MQ Ni
def kA (rs:List SRole):List AV:=rs.flatMap fun r=>(ce r).cells
def rj:List AV→AHeap→(AEnd→AHeap→Prop)→Prop
 |[.ptr id 0,.slice .any 8 l],H,K=>∃ ts:List STable,(l=ts.map ba∧ts.length≤100∧∀ t∈ts,t.keys.length≤100)∧onC (H.get id) fun b v=>K (.ret (.ms (H.nx+1+1+1+1+1+1+1+1+1+1) 0 6 3)) (((H.set id (cJ b (eZ b v ts).2)).hole.hole.hole.hole.hole.hole.hole.hole.hole.hole).push (.cells (kA (eZ b v ts).1)))
 |_,_,_=>False
theorem zJ:EntOk Tryz.prog 28 (Ent.effect rj):=by
 refine EntOk.effect fun args H K h=>?_
 unfold rj at h
 split at h
 rotate_left
 ·exact h.elim
 rename_i id l
 obtain ⟨ts,⟨rfl,hts,htk⟩,h⟩:=h
 obtain ⟨b,v,hg,hb,hv,hK⟩:=gV h
 refine ⟨_,_,hK,?_⟩
 clear hK
 obtain ⟨res,hres⟩:∃ res,kA (eZ b v ts).1=res:=⟨_,rfl⟩
 rw [hres]
 generalize hR:cr b ts (v+4)=R
 have hend:(eZ b v ts).2=R.2:=by rw [← hR];rfl
 rw [hend]
 refine ACalls.fW au (tCq ic (tCq kI tNq)) Tryz.func28 [.tmp 4] (by simp only [zle,gA,zlf];omega) (T:=aq [(16,[[],[],[],[],[],[],[],[],[5],[],[],[3,5,8],[1,3,5,8],[],[1,3,5,8]]),(18,[[],[],[],[],[],[],[],[5],[],[],[3,5,7],[1,3,5,7],[],[1,3,5,7]]),(1,[[7]]),(2,[[25]]),(3,[[22]]),(14,[[1]]),(20,[[11,1]])]) (h:=fun hcl hlt=>?_)
 clear hlt
 have hid:=glq hg
 have hne:=lW hid
 have hgc:=jd (b:=b) hid
 have hcl2:∀ w,(H.set id (cJ b w)).Closed:=fun w=>aj hcl fe
 have e2:(2:Int).toNat=2:=rfl
 have e3:(3:Int).toNat=3:=rfl
 have e4:(4:Int).toNat=4:=rfl
 have e6:(6:Int).toNat=6:=rfl
 have w1:∀ (u n:Nat) (k:Int),0<n→n≤100→0≤k→k≤100→IntKind.i64.wrap (k+((cv b u n:Nat):Int))=k+((cv b u n:Nat):Int):=fun u n k h1 h2 h3 h4=>by
  have:=dq (b:=b) (v:=u) (n:=n) h1
  rw [wrap_i64 (by omega) (by omega)]
 have a33:∀ u,IntKind.i64.wrap (3+((cv b u 3:Nat):Int))=3+((cv b u 3:Nat):Int):=fun u=>w1 u 3 3 (by decide) (by decide) (by decide) (by decide)
 have a16:∀ u,IntKind.i64.wrap (1+((cv b u 6:Nat):Int))=1+((cv b u 6:Nat):Int):=fun u=>w1 u 6 1 (by decide) (by decide) (by decide) (by decide)
 simp only [go_sem,bhq,Nat.reduceMod,Nat.reduceDiv,aB,aC,aE,aV,aD,aU,aP,aS,aT,yaq,yar,yao,yap,aW,bF,hg,hgc,aR hb,bm,aK,bv,hne,e2,e3,e4,e6,a33,a16]
 refine kH 14 2 4 _ rfl rfl ?_
 simp only [go_sem,bhq,Nat.reduceMod,Nat.reduceDiv,aB,aC,aE,aV,aD,aU,aP,aS,aT,yaq,yar,yao,yap,aW,bF,hg,hgc,aR hb,bm,aK,bv,hne,e2,e3,e4,e6,a33,a16,List.set_cons_succ,List.set_cons_zero]
 (repeat with_reducible refine Yq ?_)
 refine kH 22 2 4 _ rfl rfl ?_
 simp only [go_sem,bhq,Nat.reduceMod,Nat.reduceDiv,aB,aC,aE,aV,aD,aU,aP,aS,aT,yaq,yar,yao,yap,aW,bF,hg,hgc,aR hb,bm,aK,bv,hne,e2,e3,e4,e6,a33,a16,List.set_cons_succ,List.set_cons_zero]
 (repeat with_reducible refine Yq ?_)
 refine kH 29 2 4 _ rfl rfl ?_
 simp only [go_sem,bhq,Nat.reduceMod,Nat.reduceDiv,aB,aC,aE,aV,aD,aU,aP,aS,aT,yaq,yar,yao,yap,aW,bF,hg,hgc,aR hb,bm,aK,bv,hne,e2,e3,e4,e6,a33,a16,List.set_cons_succ,List.set_cons_zero]
 refine az (A:=Nat × Nat × List AV × List AV × List AV) (fun x=>[(0,.ptr id 0),(5,.ptr (H.nx+1+1+1) 0),(6,.ptr (H.nx+1+1+1+1+1+1) 0),(7,.ptr (H.nx+1+1+1+1+1+1+1+1+1) 0),(30,.slice .any 8 (ts.map ba)),(31,.int .i64 (ts.length:Int)),(32,.int .i64 (x.1:Int))]) (fun x=>gE H id b v x.2.1 x.2.2.1 x.2.2.2.1 x.2.2.2.2) (fun x=>RolI b ts R x.1 x.2.1 x.2.2.1 x.2.2.2.1 x.2.2.2.2) (fun x=>ts.length - x.1) (0,v+4,[],[],[]) ⟨by omega,by simp,by simp,by simp,by rw [← hR];rfl,by rw [← hR];rfl,by rw [← hR];rfl,by rw [← hR];rfl⟩ ?_ fun x hx=>?_
 ·refine ⟨by simp only [gE,zle,zlf,zkq,zkv];omega,lRq _,gN (ts:=ts) (R:=R) (k:=0) (w:=v+4) hcl ⟨by omega,by simp,by simp,by simp,by rw [← hR];rfl,by rw [← hR];rfl,by rw [← hR];rfl,by rw [← hR];rfl⟩ _,?_,?_⟩
  ·simp [ltF,gE,znn,znf,zle,zlf,aQ cT]
   omega
  ·simp [aJ,wk2,wk1,wkM,Fr.get]
 obtain ⟨k,w,a1,a2,a3⟩:=x
 dsimp only at hx ⊢
 have hclo:=fun w'=>gN (id:=id) (v:=v) hcl hx w'
 obtain ⟨hk,l1,l2,l3,i1,i2,i3,i4⟩:=hx
 simp only [go_sem]
 refine ai (fun hc=>?_) (fun hc=>?_)
 ·have hk':k<ts.length:=by simp at hc;omega
  obtain ⟨t,ht⟩:∃ t,t=ts[k]:=⟨_,rfl⟩
  have hd:ts.drop k=t::ts.drop (k+1):=by rw [ht];exact dcq hk'
  have hkl:t.keys.length≤100:=htk t (by rw [ht];exact gMq hk')
  have htg:(ts.map ba).getD k .junk=.agg [.int .i64 t.id,.str t.name,.slice .any 3 (t.keys.map bT),.slice .any 1 (inL t.actions),.int .i64 t.dflt,.slice .any 2 (t.dargs.map vv),.int .i64 t.size,.str t.restr]:=by
   rw [gEq,List.getElem?_map,gQq hk',← ht];rfl
  have hT:∀ n,ltL n ([.int .i64 t.id,.str t.name,.slice .any 3 (t.keys.map bT),.slice .any 1 (inL t.actions),.int .i64 t.dflt,.slice .any 2 (t.dargs.map vv),.int .i64 t.size,.str t.restr]:List AV):=fun n=>ltL_iff.2 fun j hj=>AV.lt_cells (cT t) j hj
  have hclT:∀ w',((gE H id b v w' a1 a2 a3).push (.cells [.int .i64 t.id,.str t.name,.slice .any 3 (t.keys.map bT),.slice .any 1 (inL t.actions),.int .i64 t.dflt,.slice .any 2 (t.dargs.map vv),.int .i64 t.size,.str t.restr])).Closed:=fun w'=>aa (hclo w') (hT _)
  have hclo2:∀ w' f g,((((gE H id b v w' a1 a2 a3).push (.cells [.int .i64 t.id,.str t.name,.slice .any 3 (t.keys.map bT),.slice .any 1 (inL t.actions),.int .i64 t.dflt,.slice .any 2 (t.dargs.map vv),.int .i64 t.size,.str t.restr])).push (.cells (bfN t.keys.length f))).push (.cells (bfN t.keys.length g))).Closed:=fun w' f g =>
   aa (aa (hclT w') (by simp [Ch])) (by simp [Ch])
  have hrn:∀ w',(gE H id b v w' a1 a2 a3).nx=(H.nx+1+1+1+1+1+1+1+1+1+1):=fun _=>rfl
  simp only [go_sem,gE,sk,l5,sq,htg,iNq,ybb,JS,Cz]
  (repeat with_reducible refine Yq ?_)
  refine az (A:=Nat) (fun j=>[(0,.ptr id 0),(5,.ptr (H.nx+1+1+1) 0),(6,.ptr (H.nx+1+1+1+1+1+1) 0),(7,.ptr (H.nx+1+1+1+1+1+1+1+1+1) 0),(9,.ptr (H.nx+1+1+1+1+1+1+1+1+1+1) 0),(10,.ms (H.nx+1+1+1+1+1+1+1+1+1+1+1) 0 1 t.keys.length),(11,.ms (H.nx+1+1+1+1+1+1+1+1+1+1+1+1) 0 1 t.keys.length),(30,.slice .any 8 (ts.map ba)),(31,.int .i64 (ts.length:Int)),(32,.int .i64 (k:Int)),(45,.int .i64 (t.keys.length:Int)),(46,.int .i64 (j:Int))]) (fun j=>(((gE H id b v (w+j) a1 a2 a3).push (.cells [.int .i64 t.id,.str t.name,.slice .any 3 (t.keys.map bT),.slice .any 1 (inL t.actions),.int .i64 t.dflt,.slice .any 2 (t.dargs.map vv),.int .i64 t.size,.str t.restr])).push (.cells (bfN t.keys.length fun i=>decide (i<j)))).push (.cells (bfN t.keys.length fun i=>decide (i<j)&&decide (ci b (w+i) 4 > 0)))) (fun j=>j≤t.keys.length) (fun j=>t.keys.length - j) 0 (by omega) ?_ fun j hj=>?_
  ·simp only [Nat.not_lt_zero,decide_false,Bool.false_and]
   refine ⟨by simp only [zle,hrn,zkq,zkv];omega,lRq _,hclo2 _ _ _,?_,?_⟩
   ·simp [ltF,hrn,znn,znp,znf,zle,zlf,aQ cT]
    omega
   ·simp [aJ,wk2,wk1,wkM,Fr.get]
  simp only [go_sem]
  refine ai (fun hc2=>?_) (fun hc2=>?_)
  ·have hj':j<t.keys.length:=by simp at hc2;omega
   have e5:IntKind.i64.wrap ((j:Int)+1)=((j+1:Nat):Int):=by rw [wrap_i64]<;>omega
   have hs1:(bfN t.keys.length fun i=>decide (i<j)).set j (.bool true)=bfN t.keys.length fun i=>decide (i<j+1):=B8 fun i hi=>by
    by_cases e:i=j
    ·subst e;simp
    ·rw [if_neg e,decide_eq_decide];omega
   have hs2:(bfN t.keys.length fun i=>decide (i<j)&&decide (ci b (w+i) 4 > 0)).set j (.bool (decide (ci b (cp (w+j) 0) 4 > 0)))=bfN t.keys.length fun i=>decide (i<j+1)&&decide (ci b (w+i) 4 > 0):=B8 fun i hi=>by
    by_cases e:i=j
    ·subst e;simp [cp]
    ·rw [if_neg e];congr 1;rw [decide_eq_decide];omega
   simp only [a9,aG,bhq,Nat.reduceMod,Nat.reduceDiv,aB,aC,aE,aV,aD,aU,aP,aS,aT,yaq,yar,yao,yap,go_sem,aW,bF,hgc,aR hb,bm,aK,bv,hne,e4,gE,sk,l5,sq,lAq,ybb,iNq,Cz,oY,nzq,Nat.mul_one,hs1,hs2,e5]
   (repeat with_reducible refine Yq ?_)
   refine ⟨j+1,by omega,by omega,by simp only [zle,hrn,zlf,zkq,zkv];omega,lRq _,hclo2 _ _ _,?_,?_⟩
   ·simp [ltF,hrn,znn,znp,znf,zle,zlf,aQ cT]
    omega
   ·simp [aJ,wk2,wk1,wkM,Fr.get]
  have hj':j=t.keys.length:=by simp at hc2;omega
  subst hj'
  have y1:(bfN t.keys.length fun i=>decide (i<t.keys.length))=boL (List.replicate t.keys.length true):=by
   rw [Cc];congr 1
   apply List.ext_getElem
   ·simp
   ·intro i h1 h2;simp at h1 ⊢;exact h1
  have y2:(bfN t.keys.length fun i=>decide (i<t.keys.length)&&decide (ci b (w+i) 4 > 0))=boL (jk b w t.keys.length):=by
   rw [Cc];congr 1
   unfold jk
   refine List.map_congr_left fun i hi=>?_
   have:=List.mem_range.1 hi
   simp [this]
  rw [y1,y2]
  simp only [a9,aG,bhq,Nat.reduceMod,Nat.reduceDiv,aB,aC,aE,aV,aD,aU,aP,aS,aT,yaq,yar,yao,yap,go_sem,aW,bF,hgc,aR hb,bm,aK,bv,hne,e4,gE,sk,l5,sq,lAq,ybb]
  refine qy [(0,.ptr id 0),(5,.ptr (H.nx+1+1+1) 0),(6,.ptr (H.nx+1+1+1+1+1+1) 0),(7,.ptr (H.nx+1+1+1+1+1+1+1+1+1) 0),(9,.ptr (H.nx+1+1+1+1+1+1+1+1+1+1) 0),(10,.slice .any 1 (boL (List.replicate t.keys.length true))),(11,.slice .any 1 (boL (jk b w t.keys.length))),(30,.slice .any 8 (ts.map ba)),(31,.int .i64 (ts.length:Int)),(32,.int .i64 (k:Int))] ((gE H id b v (w+t.keys.length) a1 a2 a3).push (.cells [.int .i64 t.id,.str t.name,.slice .any 3 (t.keys.map bT),.slice .any 1 (inL t.actions),.int .i64 t.dflt,.slice .any 2 (t.dargs.map vv),.int .i64 t.size,.str t.restr])) ⟨by simp only [zle,hrn,zkq,zkv,fV];omega,((lRq _).push _).push _,hclT _,?_,?_⟩ ?_
  ·simp [ltF,hrn,znn,znp,znf,zle,zlf,aQ cT,xW]
   omega
  ·have yr1:bD 1 t.keys.length (boL (List.replicate t.keys.length true))=boL (List.replicate t.keys.length true):=by
    have:=oJ (List.replicate t.keys.length true)
    rw [List.length_replicate] at this;exact this
   have yr2:bD 1 t.keys.length (boL (jk b w t.keys.length))=boL (jk b w t.keys.length):=by
    have:=oJ (jk b w t.keys.length)
    rw [show (jk b w t.keys.length).length=t.keys.length by simp [jk]] at this;exact this
   have hn1:∀ w' o,((gE H id b v w' a1 a2 a3).push o).get (H.nx+1+1+1+1+1+1+1+1+1+1+1)=none:=fun w' o=>zmv (by rw [zle,hrn];omega)
   have hn2:∀ w' o,((gE H id b v w' a1 a2 a3).push o).get (H.nx+1+1+1+1+1+1+1+1+1+1+1+1)=none:=fun w' o=>zmv (by rw [zle,hrn];omega)
   simp only [aJ,wk2,wk1,wkM,go_sem,yap,yr1,yr2,hn1,hn2,true_or,or_true,and_self]
  simp only [a9,aG,bhq,Nat.reduceMod,Nat.reduceDiv,aB,aC,aE,aV,aD,aU,aP,aS,aT,yaq,yar,yao,yap,go_sem,aW,bF,hgc,aR hb,bm,aK,bv,hne,e4,gE,sk,l5,sq,ybb]
  (repeat with_reducible refine Yq ?_)
  have e5:=Yk5 k
  refine ai (fun h1=>?_) (fun h1=>?_)
  all_goals
   try simp only [a9,aG,bhq,Nat.reduceMod,Nat.reduceDiv,aB,aC,aE,aV,aD,aU,aP,aS,aT,yaq,yar,yao,yap,go_sem,aW,bF,hgc,aR hb,bm,aK,bv,hne,e4,gE,sk,l5,sq,ybb]
   try (repeat with_reducible refine Yq ?_)
   refine ai (fun h2=>?_) (fun h2=>?_)
  all_goals
   try simp only [a9,aG,bhq,Nat.reduceMod,Nat.reduceDiv,aB,aC,aE,aV,aD,aU,aP,aS,aT,yaq,yar,yao,yap,go_sem,aW,bF,hgc,aR hb,bm,aK,bv,hne,e4,gE,sk,l5,sq,ybb,e5]
   try (repeat with_reducible refine Yq ?_)
  ·have hp1:(0<cv b (w+t.keys.length) 4)=True:=eq_true (by have h:=of_decide_eq_true h1;simp only [cp,Nat.add_zero] at h;omega)
   have hp2:(cv b (w+(t.keys.length+3)) 2=1)=True:=eq_true (by have h:=of_decide_eq_true h2;unfold cp at h;rw [Nat.add_assoc] at h;exact h)
   rw [hd] at i1 i2 i3 i4
   simp only [cr,hp1,hp2,if_true,if_false,Nat.add_assoc,Nat.reduceAdd] at i1 i2 i3 i4
   have hI:RolI b ts R (k+1) (w+(t.keys.length+6)) (a1++[.agg [.int .i64 t.id,.bool true,.bool true,.slice .any 1 (boL (List.replicate t.keys.length true))]]) (a2++[.agg [.int .i64 t.id,.bool (decide (0<ci b (w+t.keys.length+1) 4)),.bool (decide (cv b (w+t.keys.length+2) 2=1)),.slice .any 1 (boL (jk b w t.keys.length))]]) (a3++[.agg [.int .i64 t.id,.bool (decide (cv b (w+t.keys.length+4) 2=1)),.bool (decide (cv b (w+t.keys.length+5) 2=1)),.slice .any 1 (boL (List.replicate t.keys.length true))]]):=by
    refine ⟨by omega,by (try simp only [lAq,yaz,yba]);omega,by (try simp only [lAq,yaz,yba]);omega,by (try simp only [lAq,yaz,yba]);omega,?_,?_,?_,i4⟩
    ·simpa [bh,Nat.add_assoc] using i1
    ·simpa [bh,Nat.add_assoc] using i2
    ·simpa [bh,Nat.add_assoc] using i3
   refine ⟨(_,_,_,_,_),hI,by dsimp only;omega,by simp only [gE,zle,zlf];omega,?_,gN hcl hI _,?_,?_⟩
   ·simp only [gE,lAq,yaz,yba]
    repeat first|exact .refl _|refine .push ?_ _
   ·simp [ltF,gE,znn,znf,zle,zlf,aQ cT]
    omega
   ·simp [aJ,wk2,wk1,wkM,Fr.get]
  ·have hp1:(0<cv b (w+t.keys.length) 4)=True:=eq_true (by have h:=of_decide_eq_true h1;simp only [cp,Nat.add_zero] at h;omega)
   have hp2:(cv b (w+(t.keys.length+3)) 2=1)=False:=eq_false (by have h:=of_decide_eq_false h2;unfold cp at h;rw [Nat.add_assoc] at h;exact h)
   rw [hd] at i1 i2 i3 i4
   simp only [cr,hp1,hp2,if_true,if_false,Nat.add_assoc,Nat.reduceAdd] at i1 i2 i3 i4
   have hI:RolI b ts R (k+1) (w+(t.keys.length+4)) (a1++[.agg [.int .i64 t.id,.bool true,.bool true,.slice .any 1 (boL (List.replicate t.keys.length true))]]) (a2++[.agg [.int .i64 t.id,.bool (decide (0<ci b (w+t.keys.length+1) 4)),.bool (decide (cv b (w+t.keys.length+2) 2=1)),.slice .any 1 (boL (jk b w t.keys.length))]]) (a3):=by
    refine ⟨by omega,by (try simp only [lAq,yaz,yba]);omega,by (try simp only [lAq,yaz,yba]);omega,by (try simp only [lAq,yaz,yba]);omega,?_,?_,?_,i4⟩
    ·simpa [bh,Nat.add_assoc] using i1
    ·simpa [bh,Nat.add_assoc] using i2
    ·simpa [bh,Nat.add_assoc] using i3
   refine ⟨(_,_,_,_,_),hI,by dsimp only;omega,by simp only [gE,zle,zlf];omega,?_,gN hcl hI _,?_,?_⟩
   ·simp only [gE,lAq,yaz,yba]
    repeat first|exact .refl _|refine .push ?_ _
   ·simp [ltF,gE,znn,znf,zle,zlf,aQ cT]
    omega
   ·simp [aJ,wk2,wk1,wkM,Fr.get]
  ·have hp1:(0<cv b (w+t.keys.length) 4)=False:=eq_false (by have h:=of_decide_eq_false h1;simp only [cp,Nat.add_zero] at h;omega)
   have hp2:(cv b (w+(t.keys.length+1)) 2=1)=True:=eq_true (by have h:=of_decide_eq_true h2;unfold cp at h;rw [Nat.add_assoc] at h;exact h)
   rw [hd] at i1 i2 i3 i4
   simp only [cr,hp1,hp2,if_true,if_false,Nat.add_assoc,Nat.reduceAdd] at i1 i2 i3 i4
   have hI:RolI b ts R (k+1) (w+(t.keys.length+4)) (a1++[.agg [.int .i64 t.id,.bool true,.bool true,.slice .any 1 (boL (List.replicate t.keys.length true))]]) (a2) (a3++[.agg [.int .i64 t.id,.bool (decide (cv b (w+t.keys.length+2) 2=1)),.bool (decide (cv b (w+t.keys.length+3) 2=1)),.slice .any 1 (boL (List.replicate t.keys.length true))]]):=by
    refine ⟨by omega,by (try simp only [lAq,yaz,yba]);omega,by (try simp only [lAq,yaz,yba]);omega,by (try simp only [lAq,yaz,yba]);omega,?_,?_,?_,i4⟩
    ·simpa [bh,Nat.add_assoc] using i1
    ·simpa [bh,Nat.add_assoc] using i2
    ·simpa [bh,Nat.add_assoc] using i3
   refine ⟨(_,_,_,_,_),hI,by dsimp only;omega,by simp only [gE,zle,zlf];omega,?_,gN hcl hI _,?_,?_⟩
   ·simp only [gE,lAq,yaz,yba]
    repeat first|exact .refl _|refine .push ?_ _
   ·simp [ltF,gE,znn,znf,zle,zlf,aQ cT]
    omega
   ·simp [aJ,wk2,wk1,wkM,Fr.get]
  ·have hp1:(0<cv b (w+t.keys.length) 4)=False:=eq_false (by have h:=of_decide_eq_false h1;simp only [cp,Nat.add_zero] at h;omega)
   have hp2:(cv b (w+(t.keys.length+1)) 2=1)=False:=eq_false (by have h:=of_decide_eq_false h2;unfold cp at h;rw [Nat.add_assoc] at h;exact h)
   rw [hd] at i1 i2 i3 i4
   simp only [cr,hp1,hp2,if_true,if_false,Nat.add_assoc,Nat.reduceAdd] at i1 i2 i3 i4
   have hI:RolI b ts R (k+1) (w+(t.keys.length+2)) (a1++[.agg [.int .i64 t.id,.bool true,.bool true,.slice .any 1 (boL (List.replicate t.keys.length true))]]) (a2) (a3):=by
    refine ⟨by omega,by (try simp only [lAq,yaz,yba]);omega,by (try simp only [lAq,yaz,yba]);omega,by (try simp only [lAq,yaz,yba]);omega,?_,?_,?_,i4⟩
    ·simpa [bh,Nat.add_assoc] using i1
    ·simpa [bh,Nat.add_assoc] using i2
    ·simpa [bh,Nat.add_assoc] using i3
   refine ⟨(_,_,_,_,_),hI,by dsimp only;omega,by simp only [gE,zle,zlf];omega,?_,gN hcl hI _,?_,?_⟩
   ·simp only [gE,lAq,yaz,yba]
    repeat first|exact .refl _|refine .push ?_ _
   ·simp [ltF,gE,znn,znf,zle,zlf,aQ cT]
    omega
   ·simp [aJ,wk2,wk1,wkM,Fr.get]
 ·have hk':k=ts.length:=by simp at hc;omega
  subst hk'
  simp only [bhq,Nat.reduceMod,Nat.reduceDiv,aB,aC,aE,aV,aD,aU,aP,aS,aT,yaq,yar,yao,yap,go_sem,gE,sk,l5,sq]
  (repeat with_reducible refine Yq ?_)
  simp only [List.drop_length,cr,yaf,yaj] at i1 i2 i3 i4
  subst i4
  refine dt (H.nx+1+1+1+1+1+1+1+1+1+1) res (cs:=(List.flatMap AV.cells [.agg (sk (H.nx+1+1) (H.nx+1) a1),.agg (l5 b v (H.nx+1+1+1+1+1) (H.nx+1+1+1+1) a2),.agg (sq b v (H.nx+1+1+1+1+1+1+1+1) (H.nx+1+1+1+1+1+1+1) a3)])) (by simp only [go_sem,sk,l5,sq]) ?_ ?_
  ·rw [← hres]
   simp only [eZ,hR,kA]
   simp [ce,inL,i1,i2,i3,cp,sk,l5,sq,AV.cells,hU,bN,bO,bZ,dN,cf,gz,gX,gf,wkM,kY]
  simp only [bhq,Nat.reduceMod,Nat.reduceDiv,aB,aC,aE,aV,aD,aU,aP,aS,aT,yaq,yar,yao,yap,go_sem]
  refine ⟨by simp [wk,wk2,wk1],Kh (by repeat (first|refine Ks ?_ rfl|exact lRq _)) rfl,aa (bj (bj (bj (bj (bj (bj (bj (bj (bj (bj (hcl2 _))))))))))) ?_,by simp only [znp,zle,gA,zlf];omega⟩
  rw [← hres]
  exact mP pE
def mb (ts:List STable):List UInt8→Nat→AV × Nat:=fun b v=>(.agg (kA (eZ b v ts).1),(eZ b v ts).2)
theorem kO (ts:List STable):ov (mb ts):=fun b v=>by
 obtain ⟨i1,c,i2,i3⟩:=iV (b:=b) (v:=v) ts 4
 unfold mb eZ
 dsimp only
 rw [i1]
 unfold ci
 simp only [cH,bm]
 exact ⟨trivial,c,i2,i3⟩
theorem yP {b:List UInt8} {v:Nat} {ts:List STable}:(mb ts b v).1=.agg (kA (eZ b v ts).1):=(rfl)
theorem yn {b:List UInt8} {v:Nat} {ts:List STable}:(mb ts b v).2=cp (eZ b v ts).2 0:=(rfl)
def MX (H:AHeap) (id:Nat) (K:AEnd→AHeap→Prop) (x:AV) (o:AObj):Prop:=match x with
 |.agg cs=>K (.ret (.ms (H.nx+1+1+1+1+1+1+1+1+1+1) 0 6 3)) (((H.set id o).hole.hole.hole.hole.hole.hole.hole.hole.hole.hole).push (.cells cs))
 |_=>False
theorem nb {H:AHeap} {id:Nat} {K:AEnd→AHeap→Prop} {cs:List AV} {o:AObj}:MX H id K (.agg cs) o=K (.ret (.ms (H.nx+1+1+1+1+1+1+1+1+1+1) 0 6 3)) (((H.set id o).hole.hole.hole.hole.hole.hole.hole.hole.hole.hole).push (.cells cs)):=(rfl)
theorem DH {id:Nat} {ts:List STable} {H:AHeap} {K:AEnd→AHeap→Prop} (h1:ts.length≤100) (h2:∀ t∈ts,t.keys.length≤100) (h:onS (H.get id) (mb ts) (MX H id K)) :
 rj [.ptr id 0,.slice .any 8 (ts.map ba)] H K:=⟨ts,⟨rfl,h1,h2⟩,h⟩
def qo (x:Sch) (r:Nat):List AV:=[.slice .any 3 (x.fields.map cq),.slice .any 3 (x.headers.map i9),.slice .any 5 (x.states.map dX),.slice .any 5 (x.actions.map bf),.slice .any 8 (x.tables.map ba),
 .slice .any 2 (x.stages.map ly),.ms r 0 6 3,.slice .any 6 (x.refs.map tR),.int .i64 x.maxBatch,.int .i64 x.budget]
def oR:List AV→AHeap→(AEnd→AHeap→Prop)→Prop
 |[.ptr id 0],H,K=>onC (H.get id) fun b v=>K (.ret (.agg (qo (bw b v).1 (H.nx+1+1+1+1+1+1+1+1+1+1+1+1+1+1+1+1+1)))) (((H.set id (cJ b (bw b v).2)).hole.hole.hole.hole.hole.hole.hole.hole.hole.hole.hole.hole.hole.hole.hole.hole.hole).push (.cells (kA (bw b v).1.roles)))
 |_,_,_=>False
theorem Jx {n r:Nat} {x:Sch} (h:r<n):AV.lt n (.agg (qo x r)):=by
 simp [qo,znr,znu,znv,znf,znp,h,aQ mI,aQ qK,aQ fK,aQ iP,aQ cT,aQ zx,aQ GX]
theorem ok_CSchemaM:EntOk Tryz.prog 8 (Ent.effect oR):=by
 refine EntOk.effect fun args H K h=>?_
 unfold oR at h
 split at h
 rotate_left
 ·exact h.elim
 rename_i id
 obtain ⟨b,v,hg,hb,hv,hK⟩:=gV h
 refine ⟨_,_,hK,?_⟩
 clear hK
 have hrl:(bw b v).1.roles=(eZ b (cp (bg b (cp v 2)).2 16) (bC b (cp (bg b (cp v 2)).2 4))).1:=rfl
 obtain ⟨S,hS⟩:∃ S,(bw b v).1=S:=⟨_,rfl⟩
 have hSr:S.roles=(eZ b (cp (bg b (cp v 2)).2 16) (bC b (cp (bg b (cp v 2)).2 4))).1:=by rw [← hS,hrl]
 rw [hS]
 generalize hpos:(bw b v).2=pos
 refine ACalls.fW au (tCq ic (tCq kI (tCq BB (tCq y7 (tCq Aq (tCq zJ tNq)))))) Tryz.func8 [.cell 2 39] (by simp only [zle,gA,zlf];omega) (T:=aq [(15,[[4]])]) (h:=fun hcl hlt=>?_)
 clear hlt
 have hid:=glq hg
 have hne:=lW hid
 have hne3:∀ k,(id=H.nx+1+k)=False:=fun k=>eq_false (by omega)
 have hne2:=lW (show id<H.nx+1+1+1+1+1+1+1+1+1+1+1+1+1+1+1+1 by omega)
 have hgc:=jd (b:=b) hid
 have hcl2:∀ w,(H.set id (cJ b w)).Closed:=fun w=>aj hcl fe
 have e8:(8:Int).toNat=8:=rfl
 have e30:(30:Int).toNat=30:=rfl
 have w1:∀ (u n:Nat) (k:Int),0<n→n≤100→0≤k→k≤100→IntKind.i64.wrap (k+((cv b u n:Nat):Int))=k+((cv b u n:Nat):Int):=fun u n k h1 h2 h3 h4=>by
  have:=dq (b:=b) (v:=u) (n:=n) h1
  rw [wrap_i64 (by omega) (by omega)]
 have a28:∀ u,IntKind.i64.wrap (2+((cv b u 8:Nat):Int))=2+((cv b u 8:Nat):Int):=fun u=>w1 u 8 2 (by decide) (by decide) (by decide) (by decide)
 have a30:∀ u,IntKind.i64.wrap (12+((cv b u 30:Nat):Int))=12+((cv b u 30:Nat):Int):=fun u=>w1 u 30 12 (by decide) (by decide) (by decide) (by decide)
 have es1:qm=eG md:=rfl
 have es2:oO=eG kZ:=rfl
 have es3:qG=eG mZ:=rfl
 simp only [go_sem,bhq,Nat.reduceMod,Nat.reduceDiv,aB,aC,aE,aV,aD,aU,aP,aS,aT,yaq,yar,yao,yap,aW,bF,es1,es2,es3,qN,cn hb jC,cn hb iK,cn hb jB,Dy,Ey,Ei,Ek,D4,Ed,wr,hg,hgc,aR hb,bm,aK,bv,hne,hne2,e8,e30,a28,a30]
 (repeat with_reducible refine Yq ?_)
 refine DH (by simp [bC]) (fun t ht=>?_) ?_
 ·simp only [bC,List.mem_cons,List.not_mem_nil,or_false] at ht
  rcases ht with rfl|rfl|rfl|rfl<;>simp only [g8,ju,dB,dD]<;>(try split)<;>simp
 simp only [a9,aG,go_sem,bhq,Nat.reduceMod,Nat.reduceDiv,aB,aC,aE,aV,aD,aU,aP,aS,aT,yaq,yar,yao,yap,aW,bF,es1,es2,es3,qN,cn hb jC,cn hb iK,cn hb jB,Dy,Ey,Ei,Ek,D4,Ed,wr,hg,hgc,aR hb,bm,aK,bv,hne,hne2,e8,e30,a28,a30,cn hb (kO _),yP,yn,nb,iNq]
 refine ai (fun h1=>?_) (fun h1=>?_)
 all_goals
  simp only [a9,aG,go_sem,bhq,Nat.reduceMod,Nat.reduceDiv,aB,aC,aE,aV,aD,aU,aP,aS,aT,yaq,yar,yao,yap,aW,bF,es1,es2,es3,qN,cn hb jC,cn hb iK,cn hb jB,Dy,Ey,Ei,Ek,D4,Ed,wr,hg,hgc,aR hb,bm,aK,bv,hne,hne2,e8,e30,a28,a30,cn hb (kO _),yP,yn,nb,iNq,tg2,tg3,tgl,k2l,k3l]
  try (repeat with_reducible refine Yq ?_)
  refine ai (fun h2=>?_) (fun h2=>?_)
 all_goals
  simp only [a9,aG,go_sem,bhq,Nat.reduceMod,Nat.reduceDiv,aB,aC,aE,aV,aD,aU,aP,aS,aT,yaq,yar,yao,yap,aW,bF,es1,es2,es3,qN,cn hb jC,cn hb iK,cn hb jB,Dy,Ey,Ei,Ek,D4,Ed,wr,hg,hgc,aR hb,bm,aK,bv,hne,hne2,e8,e30,a28,a30,cn hb (kO _),yP,yn,nb,iNq,tg2,tg3,tgl,k2l,k3l]
  try (repeat with_reducible refine Yq ?_)
  refine bz (fun h3=>?_) (fun h3=>?_)
 all_goals
  try (repeat with_reducible refine Yq ?_)
  try refine ai (fun h4=>?_) (fun h4=>?_)
 all_goals
  try simp only [a9,aG,go_sem,bhq,Nat.reduceMod,Nat.reduceDiv,aB,aC,aE,aV,aD,aU,aP,aS,aT,yaq,yar,yao,yap,aW,bF,es1,es2,es3,qN,cn hb jC,cn hb iK,cn hb jB,Dy,Ey,Ei,Ek,D4,Ed,wr,hg,hgc,aR hb,bm,aK,bv,hne,hne2,e8,e30,a28,a30,cn hb (kO _),yP,yn,nb,iNq,tg2,tg3,tgl,k2l,k3l]
  try (repeat with_reducible refine Yq ?_)
  refine bz (fun h5=>?_) (fun h5=>?_)
 all_goals
  try (repeat with_reducible refine Yq ?_)
  try refine ai (fun h6=>?_) (fun h6=>?_)
 all_goals
  try simp only [a9,aG,go_sem,bhq,Nat.reduceMod,Nat.reduceDiv,aB,aC,aE,aV,aD,aU,aP,aS,aT,yaq,yar,yao,yap,aW,bF,es1,es2,es3,qN,cn hb jC,cn hb iK,cn hb jB,Dy,Ey,Ei,Ek,D4,Ed,wr,hg,hgc,aR hb,bm,aK,bv,hne,hne2,e8,e30,a28,a30,cn hb (kO _),yP,yn,nb,iNq,tg2,tg3,tgl,k2l,k3l]
  try (repeat with_reducible refine Yq ?_)
  replace h1:=qw h1
  replace h2:=qw h2
  replace h3:=qw h3
  replace h5:=qw h5
  try replace h4:=qw h4
  try replace h6:=qw h6
  refine iR 101 (.agg (qo S (H.nx+1+1+1+1+1+1+1+1+1+1+1+1+1+1+1+1+1))) ?_ ?_
  ·rw [← hS]
   simp only [JK] at h1 h2 h3 h5
   try simp only [JK] at h4
   try simp only [JK] at h6
   simp [*,Fr.get,qo,bw,gFields,zC,cq,i9,ly,tR,inL,AV.cells,hU,bN,bO,bZ,dN,cf,gz,gX,gf,wkM,kY,tE]
  simp only [bhq,Nat.reduceMod,Nat.reduceDiv,aB,aC,aE,aV,aD,aU,aP,aS,aT,yaq,yar,yao,yap,go_sem,qo]
  refine ⟨?_,?_,aa (bj (bj (bj (bj (bj (bj (bj (bj (bj (bj (bj (bj (bj (bj (bj (bj (bj (hcl2 _)))))))))))))))))) (mP pE),Jx (by simp only [zle,gA,zlf];omega)⟩
  ·simp [qo,wk,wk2,wkL,wk1,wkM]
  ·rw [← hpos,hSr]
   repeat (with_reducible first|(refine Kh ?_ (by simp only [gA,zle,zlf]))|(refine Mp ?_ (by simp only [gA,zle,zlf]))|(refine Ks ?_ (by simp only [gA,zle,zlf]))|refine lPq ?_ _)
   exact lRq _
theorem ACalls.weakC {P:Program} {f:FuncId} {args:List AV} {H H' H1:AHeap} {x y:AV} (h:ACalls P f args H (.ret x) H') (hw:H.Closed→ae H' x H1 y) (hn:H.nx≤H1.nx):ACalls P f args H (.ret y) H1:=fun w γ vs hs hr=>by
 refine UponCall.mono (fun en w' hen=>?_) (h w γ vs hs hr)
 obtain ⟨γ1,h1,he,hend⟩:=hen
 obtain ⟨h2,h3,h4,h5⟩:=hw hs.closed
 cases en with
 |returned v=>exact ⟨γ1,h1.drop h3 h4,he.drop0 h3 hn,qS h1 h3 (show Rel w' γ1 H' x v from hend) h2 h5⟩
 |_=>exact hend.elim
def oh:=eG fun b v=>(uF (bw b v).1,(bw b v).2)
theorem y3:EntOk Tryz.prog 8 (Ent.effect oh):=by
 unfold oh
 refine EntOk.effect fun args H K h=>?_
 unfold eG at h
 split at h
 rotate_left
 ·exact h.elim
 rename_i id
 obtain ⟨b,v,hg,hb,hv,hK⟩:=gV h
 refine ⟨_,_,hK,?_⟩
 clear hK
 dsimp only
 have hid:=glq hg
 have hr3:∃ r0 r1 r2,(bw b v).1.roles=[r0,r1,r2]:=⟨_,_,_,rfl⟩
 obtain ⟨r0,r1,r2,hr3⟩:=hr3
 obtain ⟨x,H1,hx,hc⟩:=ok_CSchemaM.2.1 rfl [.ptr id 0] H (fun x H1=>x=.ret (.agg (qo (bw b v).1 (H.nx+1+1+1+1+1+1+1+1+1+1+1+1+1+1+1+1+1)))∧H1=((H.set id (cJ b (bw b v).2)).hole.hole.hole.hole.hole.hole.hole.hole.hole.hole.hole.hole.hole.hole.hole.hole.hole).push (.cells (kA (bw b v).1.roles))) (by
  show onC (H.get id) fun b' v'=>AEnd.ret (.agg (qo (bw b' v').1 (H.nx+1+1+1+1+1+1+1+1+1+1+1+1+1+1+1+1+1)))=_∧((H.set id (cJ b' (bw b' v').2)).hole.hole.hole.hole.hole.hole.hole.hole.hole.hole.hole.hole.hole.hole.hole.hole.hole).push (.cells (kA (bw b' v').1.roles))=_
  rw [hg,aR hb,show min (cp v 0) b.length=v from Nat.min_eq_left hv]
  exact ⟨rfl,rfl⟩)
 obtain ⟨rfl,rfl⟩:=hx
 refine hc.weakC (fun hcl=>⟨?_,?_,aj hcl fe,ot _⟩) (by rw [zlf];exact nrq _)
 ·have hrow:bD 6 3 (kA (bw b v).1.roles)=(bw b v).1.roles.map ce:=by
   have:=jc (sz:=6) (by decide) (fun r:SRole=>(ce r).cells) (fun r=>rfl) (bw b v).1.roles
   rw [hr3] at this ⊢
   exact this
  simp only [uF,aN,qo,wk,wk2,wkL]
  refine ⟨by simp [wk1,wkM],by simp [wk1,wkM],by simp [wk1,wkM],by simp [wk1,wkM],by simp [wk1,wkM],by simp [wk1,wkM],GY (by simp only [go_sem]) hrow (AE (by simp only [zlf];omega)),by simp [wk1,wkM],rfl,rfl,trivial⟩
 ·exact lPq (l9 (l9 (l9 (l9 (l9 (l9 (l9 (l9 (l9 (l9 (l9 (l9 (l9 (l9 (l9 (l9 (l9 (lRq _)))))))))))))))))) _
theorem HV {n0:Nat} {fr:Fr} {H:AHeap} {K:Fr→AHeap→Prop} (id j mid off sz len:Nat) {cs ms:List AV} (L:List AV) (hg:H.get id=some (.cells cs)) (hj:cs[j]?=some (.ms mid off sz len)) (hne:id≠mid) (hm:aH H mid=some ms) (hL:bD sz len (ms.drop off)=L) (hlt:(AV.slice .any sz L).lt H.nx)
 (h:∀ H2:AHeap,H2.get id=some (.cells (cs.set j (.slice .any sz L)))→(∀ l o,l≠id→l≠mid→H.get l=some o→H2.get l=some o)→H2.nx=H.nx→K fr H2):je n0 K fr H:=by
 refine Jy id j mid off sz len L (ax hg) hj hne hm hL hlt (h _ ?_ (fun l o h1 h2 hx=>?_) rfl)
 ·exact AHeap.get_set_same _ _ (show id<(H.del mid).nx by rw [gO];exact glq hg)
 ·rw [AHeap.get_set_ne _ _ h1,jt,if_neg h2];exact hx
def qr:List AV→AHeap→(AV→Prop)→Prop
 |[],_,K=>K (.bool true)
 |_,_,_=>False
theorem Bh:EntOk Tryz.prog 13 (Ent.pure qr):=by
 refine Ype fun _ H K h=>?_
 unfold qr at h
 split at h
 rotate_left
 ·exact h.elim
 refine ⟨_,h,?_⟩
 clear h
 have q1:=LO
 have q2:=LM
 have q3:=Ly
 have q4:=Lg
 have q5:=Lh
 have q6:=LB
 obtain ⟨r0,r1,r2,hr3⟩:∃ r0 r1 r2,(bw [] 0).1.roles=[r0,r1,r2]:=⟨_,_,_,rfl⟩
 obtain ⟨r2',hr2'⟩:∃ r2':SRole,{ r2 with grants:=[⟨1,true,false,[true]⟩] }=r2':=⟨_,rfl⟩
 have hbS:bgS={ (bw [] 0).1 with roles:=[r0,r1,r2'] }:=by
  unfold bgS Kl
  rw [hr3,← hr2']
  rfl
 have hro:=vz (b:=[]) (v:=0)
 have hal:=AJ (sall_gen (b:=[])) (rs:=[r0,r1,r2']) (by simp)
 have hsr:SRol bgS:=by
  rw [hbS]
  refine ⟨hal.ck.sl,fun r hr=>?_⟩
  have h0:=(hro.rl sall_gen.ck.sl).gl
  rw [hr3] at h0
  simp only [List.mem_cons,List.not_mem_nil,or_false] at hr
  rcases hr with rfl|rfl|rfl
  ·exact h0 _ (by simp)
  ·exact h0 _ (by simp)
  ·have:=(h0 r2 (by simp)).2.1
   rw [← hr2']
   exact ⟨by simp,this,fun g hg=>by rw [List.mem_singleton.1 hg];decide⟩
 have hsp:SPer bgS:=⟨by rw [hbS];exact hal,hsr⟩
 have hbc:aN bgS=aN { (bw [] 0).1 with roles:=[r0,r1,r2'] }:=by rw [hbS]
 have hea:EAll bgE:=by
  have hm:∀ m∈bgE.ms,MOk m∧m.pfx<9223372036854775808:=fun m hm=>by
   rw [List.mem_singleton.1 hm];exact ⟨⟨by decide,by decide,by decide⟩,by decide⟩
  have h1:EOk bgE:=⟨by decide,by decide,fun m h=>(hm m h).1⟩
  exact ⟨h1,⟨by decide,by decide⟩,⟨by decide,fun m h=>(hm m h).2,by decide,fun m h=>(hm m h).1,by decide⟩⟩
 have hrid:r2'.id=r2.id∧r2'.name=r2.name∧r2'.actions=r2.actions∧r2'.quota=r2.quota∧r2'.audit=r2.audit∧r2'.grants=[⟨1,true,false,[true]⟩]:=by rw [← hr2'];exact ⟨rfl,rfl,rfl,rfl,rfl,rfl⟩
 clear hro hal
 generalize hS:(bw [] 0).1=S at *
 have hS':∀ r,AV.agg (qo (bw [] 0).1 r)=.agg (qo S r):=fun r=>by rw [hS]
 refine ACalls.fW au (tCq BU (tCq ok_CSchemaM (tCq sW (tCq pD (tCq z8 tNq))))) Tryz.func13 [.tmp 0] (nrq _) (T:=aq [(3,[[1,1]]),(4,[[1]])]) (h:=fun hcl hlt=>?_)
 clear hlt
 have hze:zod ([]:List UInt8) 0=cJ [] (cp 0 0):=uG
 simp only [go_sem,qX]
 refine ⟨[],⟨rfl,by omega⟩,?_⟩
 simp only [a9,aG,bhq,Nat.reduceMod,Nat.reduceDiv,aB,aC,aE,aV,aD,aU,aP,aS,aT,yaq,yar,yao,yap,go_sem,qX,oR,yas,hze,aR (b:=[]) (by decide),yba,Nat.min_zero,hS,qo,hr3,kA,ce,List.flatMap_cons,List.flatMap_nil,yal,yak]
 refine ⟨⟨by decide,by decide⟩,?_⟩
 refine dt (H.nx+1+1+1+1+1+1+1+1+1+1+1+1+1+1+1+1+1+1) ((ce r0).cells++((ce r1).cells++(ce r2').cells)) (by simp only [go_sem];rfl) ?_ ?_
 ·simp [hrid,ce,inL,boL,bh,AV.cells,hU,bN,bO,bZ,dN,cf,gz,gX,gf,wkM,kY,tE]
 have hrow:bD 6 3 (((ce r0).cells++((ce r1).cells++(ce r2').cells)).drop 0)=[r0,r1,r2'].map ce:=by
  have:=jc (sz:=6) (by decide) (fun r:SRole=>(ce r).cells) (fun r=>rfl) [r0,r1,r2']
  exact this
 refine HV (H.nx+1+1+1+1+1+1+1+1+1+1+1+1+1+1+1+1+1+1+1) 6 (H.nx+1+1+1+1+1+1+1+1+1+1+1+1+1+1+1+1+1+1) 0 6 3 ([r0,r1,r2'].map ce) (by simp only [go_sem];rfl) rfl (by omega) (by simp only [go_sem]) hrow (aQ pE) fun H2 hg2 hk2 hn2=>?_
 have hle2:H.Le H2:=⟨by rw [hn2];simp only [zle,gA,zlf];omega,fun i o ho=>by
  have hi:=glq ho
  refine hk2 i o (by omega) (by omega) ?_
  rw [AHeap.get_set_ne _ _ (by omega)]
  exact AHeap.Le.get (by repeat (with_reducible first|refine lPq ?_ _|refine l9 ?_|exact lRq _)) i o ho⟩
 have hcs2:=ax hg2
 have hl2:=glq hg2
 clear hk2
 have hcs2':aH H2 (H.nx+1+1+1+1+1+1+1+1+1+1+1+1+1+1+1+1+1+1+1)=some (aN bgS):=by rw [hcs2,hbc];rfl
 have hS2:(H.nx+1+1+1+1+1+1+1+1+1+1+1+1+1+1+1+1+1+1+1)<H2.nx:=hl2
 generalize hsid:(H.nx+1+1+1+1+1+1+1+1+1+1+1+1+1+1+1+1+1+1+1)=sid at *
 have hn0:(sid=H2.nx)=False:=eq_false (by omega)
 have hn1:(sid=H2.nx+1)=False:=eq_false (by omega)
 have hn3:(sid=H2.nx+1+1)=False:=eq_false (by omega)
 clear hn2
 simp only [aN] at hcs2'
 have z1:(0:Nat)/2^64=0:=rfl
 have hbE:bgE.ms.map aI=[.agg [.bool true,.int .u64 0,.int .u64 0,.int .u64 0,.int .u64 0,.int .i64 0,.int .u64 0,.int .u64 0]]:=rfl
 simp only [a9,aG,bhq,Nat.reduceMod,Nat.reduceDiv,aB,aC,aE,aV,aD,aU,aP,aS,aT,yaq,yar,yao,yap,go_sem]
 refine dt (H2.nx+1) [.int .i64 1,.slice .any 8 (bgE.ms.map aI),.int .i64 0,.int .i64 2,.slice .any 2 []] (by simp only [go_sem];rfl) ?_ ?_
 ·rw [hbE]
  simp [AV.cells,hU,bN,bO,bZ,dN,cf,gz,gX,gf,wkM,kY,tE]
 obtain ⟨F,hF⟩:∃ F,jm bgS 7 bgE=F:=⟨_,rfl⟩
 rw [hF] at q3 q4
 obtain ⟨m,hm1,hm2⟩:∃ m,F.ms=[m]∧m.present=true:=by
  obtain ⟨a1,a2⟩:=q4
  match hf:F.ms,a1 with
  |[m],_ =>
   rw [hf] at a2
   exact ⟨m,rfl,by simpa using a2⟩
 simp only [a9,aG,bhq,Nat.reduceMod,Nat.reduceDiv,aB,aC,aE,aV,aD,aU,aP,aS,aT,yaq,yar,yao,yap,go_sem,hcs2',hn0,hn1,hn3,nD]
 try (repeat with_reducible refine Yq ?_)
 refine ⟨bgS,bgE,⟨rfl,rfl,hsr,by decide,by decide,by decide⟩,?_⟩
 rw [hF]
 simp only [a9,aG,bhq,Nat.reduceMod,Nat.reduceDiv,aB,aC,aE,aV,aD,aU,aP,aS,aT,yaq,yar,yao,yap,go_sem,hcs2',hn0,hn1,hn3,cD,aO,fJ]
 try (repeat with_reducible refine Yq ?_)
 refine ⟨bgS,⟨rfl,hsr⟩,?_⟩
 rw [q1]
 simp only [a9,aG,bhq,Nat.reduceMod,Nat.reduceDiv,aB,aC,aE,aV,aD,aU,aP,aS,aT,yaq,yar,yao,yap,go_sem,hcs2',hn0,hn1,hn3,cD,aO,fJ]
 try (repeat with_reducible refine Yq ?_)
 refine ⟨bgS,⟨rfl,hsr⟩,?_⟩
 rw [q2]
 simp only [a9,aG,bhq,Nat.reduceMod,Nat.reduceDiv,aB,aC,aE,aV,aD,aU,aP,aS,aT,yaq,yar,yao,yap,go_sem,hcs2',hn0,hn1,hn3,cD,aO,q3,hm1,hm2,qF,aI,bx,vc,yae,yaf,yal,yak,yaz,yba]
 refine bz (fun _=>?_) (fun h=>absurd h (by decide))
 refine bz (fun _=>?_) (fun h=>absurd h (by decide))
 refine ⟨⟨by decide,by decide⟩,bgS,1,bgE,⟨rfl,rfl,hsp,hea⟩,?_⟩
 rw [q5]
 refine bz (fun _=>?_) (fun h=>absurd h (by decide))
 refine ⟨bgS,1,bgE,⟨rfl,rfl,hsp,hea⟩,?_⟩
 rw [q6]
 refine ⟨rfl,?_,hcl,by simp [zng]⟩
 repeat (with_reducible first|refine lPq ?_ _|exact hle2)
theorem z5 {S:Sch} {role t:Int} (h:mu S role t=true):∃ r g,ii S role=some r∧grF S role t=some g:=by
 unfold mu at h
 cases hg:grF S role t with
 |none=>rw [hg] at h;cases h
 |some g =>
  obtain ⟨r,h1,_⟩:=zt hg
  exact ⟨r,g,h1,rfl⟩
theorem KH {S:Sch} (hR:RolOk S) (hG:GenS S) {m:Int} {e:SEntry} (h:GE S (dd S m) e):jX S e.table=some (dd S m)∧e.ms≠[]∧e.ms.length≤3:=by
 have ht:=kw (S:=S) (n:=m) hG.t1
 have hk:=hR.tk _ ht
 have hl:=h.ml
 refine ⟨by rw [h.tb];exact hR.tu _ ht,fun h0=>?_,by omega⟩
 rw [h0] at hl
 simp at hl
 omega
def rK:List AV→AHeap→(AV→Prop)→Prop
 |[.slice _ 1 l1,.slice _ 1 l2,.int .i64 role,.int .i64 table],_,K=>(isB l1∧isB l2)∧K (.bool true)
 |_,_,_=>False
theorem ok_RolesSees:EntOk Tryz.prog 4 (Ent.pure rK):=by
 refine Ype fun _ H K h=>?_
 unfold rK at h
 split at h
 rotate_left
 ·exact h.elim
 rename_i m1 l1 m2 l2 role table
 obtain ⟨⟨c1,c2⟩,hK⟩:=h
 refine ⟨_,hK,?_⟩
 clear hK
 obtain ⟨x1,rfl⟩:=xL c1
 obtain ⟨x2,rfl⟩:=xL c2
 clear c1 c2
 obtain ⟨B1,hB1⟩:∃ B1,x1.take (min (x1.length:Int) 120).toNat=B1:=⟨_,rfl⟩
 obtain ⟨B2,hB2⟩:∃ B2,x2.take (min (x2.length:Int) 60).toNat=B2:=⟨_,rfl⟩
 have hL1:B1.length≤1000000:=by rw [← hB1,List.length_take];omega
 have hL2:B2.length≤1000000:=by rw [← hB2,List.length_take];omega
 have hG:=B0 B1 0
 have hA:=sall_gen (b:=B1)
 have hR:=vz (b:=B1) (v:=0)
 generalize hS:bw B1 0=SS at *
 obtain ⟨S,w1⟩:=SS
 dsimp only at hG hA hR
 have hsr:=hR.rl hA.ck.sl
 have hz1:zod B1 0=cJ B1 (cp 0 0):=uG
 have hz2:zod B2 0=cJ B2 (cp 0 0):=uG
 refine ACalls.fW au (tCq BU (tCq y3 (tCq yW (tCq pD (tCq xq (tCq sW (tCq Ar (tCq zL (tCq Bh tNq))))))))) Tryz.func4 [.tmp 8] (nrq _) (T:=aq [(2,[[],[],[],[0],[],[],[],[0,3,4]]),(10,[[],[],[],[],[0,3],[],[],[],[],[0,3,4,5,8]]),(12,[[],[],[],[],[0,3],[],[4],[],[4],[0,3,4,6,8],[4],[],[4],[0,3,4,6,8,9,10,12],[0,3,4,6,8,9,10,12,13]])]) (h:=fun hcl hlt=>?_)
 clear hlt
 have db:∀ b:Bool,(b==b)=true:=fun b=>by cases b<;>rfl
 have db2:(true != true)=false:=rfl
 simp only [go_sem,qX]
 refine ⟨x1,⟨rfl,by omega⟩,?_⟩
 rw [hB1,hz1]
 have hSch:oh=eG fun b v=>(uF (bw b v).1,(bw b v).2):=rfl
 simp only [a9,aG,bhq,Nat.reduceMod,Nat.reduceDiv,aB,aC,aE,aV,aD,aU,aP,aS,aT,yaq,yar,yao,yap,go_sem,qX,hSch,eG,aR hL1,Nat.zero_min,cp0,hS,uF,aN]
 refine ⟨x2,⟨rfl,by omega⟩,?_⟩
 rw [hB2,hz2]
 simp only [a9,aG,bhq,Nat.reduceMod,Nat.reduceDiv,aB,aC,aE,aV,aD,aU,aP,aS,aT,yaq,yar,yao,yap,go_sem,fJ]
 refine ⟨S,⟨rfl,hsr⟩,?_⟩
 simp only [a9,aG,bhq,Nat.reduceMod,Nat.reduceDiv,aB,aC,aE,aV,aD,aU,aP,aS,aT,yaq,yar,yao,yap,go_sem,j6]
 refine ⟨S,⟨rfl,hsr⟩,?_⟩
 try simp only [a9,aG,bhq,Nat.reduceMod,Nat.reduceDiv,aB,aC,aE,aV,aD,aU,aP,aS,aT,yaq,yar,yao,yap,go_sem,db,db2,oG]
 refine ⟨S,⟨rfl,hG,by decide,by decide⟩,?_⟩
 simp only [a9,aG,bhq,Nat.reduceMod,Nat.reduceDiv,aB,aC,aE,aV,aD,aU,aP,aS,aT,yaq,yar,yao,yap,go_sem,aR hL2,Nat.zero_min,cp0]
 intro es w2 hel hes
 try simp only [a9,aG,bhq,Nat.reduceMod,Nat.reduceDiv,aB,aC,aE,aV,aD,aU,aP,aS,aT,yaq,yar,yao,yap,go_sem,ybb]
 obtain ⟨HB,hHB⟩:∃ HB,HB=(((((H.push (cJ B1 w1)).push (cJ B2 w2)).push (.cells (aN S))).push (.cells (aN S))).push (.buf 5 0)).push (.buf 5 es.length):=⟨_,rfl⟩
 have hclB:HB.Closed:=by
  rw [hHB]
  exact ag (ag (aa (aa (aa (aa hcl fe) fe) (t7 S)) (t7 S)))
 have hBn:HB.nx=H.nx+1+1+1+1+1+1:=by rw [hHB];rfl
 have hBs:aH HB (H.nx+1+1)=some (aN S):=by rw [hHB];simp only [go_sem]
 have hle:H.Le HB:=by rw [hHB];repeat (with_reducible first|refine lPq ?_ _|exact lRq _)
 simp only [aN] at hBs
 have hn0:(H.nx+1+1=HB.nx)=False:=eq_false (by omega)
 have hn1:(H.nx+1+1=HB.nx+1)=False:=eq_false (by omega)
 have hil:es.length≤8:=by omega
 refine az (A:=Nat) (fun k=>[(9,.ptr (H.nx+1+1) 0),(31,.slice .any 5 (es.map cD)),(32,.int .i64 (es.length:Int)),(33,.int .i64 (k:Int))]) (fun _=>HB) (fun k=>k≤es.length) (fun k=>es.length - k) 0 (Nat.zero_le _) ?_ fun k hk=>?_
 ·refine ⟨by rw [hHB];simp only [zkq,zkv,zle];omega,by rw [hHB];exact lRq _,hclB,?_,?_⟩
  ·simp [ltF,hBn,znn,znf,aQ ep]
  ·simp [aJ,wk2,wk1,wkM,Fr.get]
 clear hHB
 simp only [go_sem]
 refine ai (fun hc=>?_) (fun hc=>?_)
 ·have hk':k<es.length:=by simp at hc;omega
  obtain ⟨e,he⟩:∃ e,e=es[k]:=⟨_,rfl⟩
  have hgx:=aX (f:=cD) (l:=es) (k:=k) (x:=e) (by rw [gQq hk',he])
  obtain ⟨mm,hge⟩:=hes e (by rw [he];exact gMq hk')
  obtain ⟨htf,hne,hm3⟩:=KH hR hG hge
  have heA:=JW hG hge
  have hal:=heA.ok.al
  have hals:e.args.length≤1000000:=by have:=hge.al;have:=hG.pl e.act;omega
  have ei:IntKind.i64.wrap ((k:Int)+1)=((k+1:Nat):Int):=by rw [wrap_i64]<;>omega
  have hclI:((HB.push (.cells (aO e))).push (.buf 1 3)).Closed:=ag (aa hclB (z6 e))
  simp only [a9,aG,bhq,Nat.reduceMod,Nat.reduceDiv,aB,aC,aE,aV,aD,aU,aP,aS,aT,yaq,yar,yao,yap,go_sem,cD,aO,ybb,iNq,hgx,hn0,hn1]
  refine ⟨by omega,?_⟩
  refine az (A:=Nat) (fun i=>[(9,.ptr (H.nx+1+1) 0),(12,.ptr HB.nx 0),(31,.slice .any 5 (es.map cD)),(32,.int .i64 (es.length:Int)),(33,.int .i64 (k:Int)),(37,.slice .any 1 [.int .i64 1,.int .i64 2,.int .i64 7]),(38,.int .i64 3),(39,.int .i64 (i:Int))]) (fun _=>(HB.push (.cells [.int .i64 e.table,.slice .any 8 (e.ms.map aI),.int .i64 e.prio,.int .i64 e.act,.slice .any 2 (e.args.map vv)])).push (.buf 1 3)) (fun i=>i≤3) (fun i=>3 - i) 0 (Nat.zero_le _) ?_ fun i hi=>?_
  ·refine ⟨by (try simp only [zkq,zkv,zle]);omega,by repeat first|exact .refl _|refine .push ?_ _,hclI,?_,?_⟩
   ·simp [ltF,hBn,zle,znn,znf,aQ ep,aA,znu,znv]
   ·simp [aJ,wk2,wk1,wkM,Fr.get]
  simp only [go_sem]
  refine ai (fun hc2=>?_) (fun hc2=>?_)
  ·have hi':i<3:=by simp at hc2;omega
   obtain ⟨role',hgr⟩:∃ r:Int,[AV.int .i64 1,.int .i64 2,.int .i64 7].getD i .junk=.int .i64 r:=by
    match i,hi' with
    |0,_=>exact ⟨1,rfl⟩
    |1,_=>exact ⟨2,rfl⟩
    |2,_=>exact ⟨7,rfl⟩
   have ei2:IntKind.i64.wrap ((i:Int)+1)=((i+1:Nat):Int):=by rw [wrap_i64]<;>omega
   simp only [a9,aG,bhq,Nat.reduceMod,Nat.reduceDiv,aB,aC,aE,aV,aD,aU,aP,aS,aT,yaq,yar,yao,yap,go_sem,hgr,hBs,hn0,hn1,iNq,yaz,yba,fJ]
   refine ⟨by omega,S,⟨rfl,hsr⟩,?_⟩
   try simp only [a9,aG,bhq,Nat.reduceMod,Nat.reduceDiv,aB,aC,aE,aV,aD,aU,aP,aS,aT,yaq,yar,yao,yap,go_sem,hgr,hBs,hn0,hn1,j6]
   refine ⟨S,⟨rfl,hsr⟩,?_⟩
   try simp only [a9,aG,bhq,Nat.reduceMod,Nat.reduceDiv,aB,aC,aE,aV,aD,aU,aP,aS,aT,yaq,yar,yao,yap,go_sem,db,db2,hBs,hn0,hn1,fJ]
   refine ⟨S,⟨rfl,hsr⟩,?_⟩
   cases hrb:mu S role' e.table
   ·try simp only [a9,aG,bhq,Nat.reduceMod,Nat.reduceDiv,aB,aC,aE,aV,aD,aU,aP,aS,aT,yaq,yar,yao,yap,go_sem,hBs,hn0,hn1,ei2]
    refine ⟨i+1,by omega,by omega,?_⟩
    refine ⟨by (try simp only [zkq,zkv,zle]);omega,by repeat first|exact .refl _|refine .push ?_ _,hclI,?_,?_⟩
    ·simp [ltF,hBn,zle,znn,znf,aQ ep,aA,znu,znv]
    ·simp [aJ,wk2,wk1,wkM,Fr.get]
   ·obtain ⟨r,g,hrf,hgf⟩:=z5 hrb
    have hkl:=hR.gk hgf htf
    have hml:=hge.ml
    try simp only [a9,aG,bhq,Nat.reduceMod,Nat.reduceDiv,aB,aC,aE,aV,aD,aU,aP,aS,aT,yaq,yar,yao,yap,go_sem,hBs,hn0,hn1,nD]
    refine ⟨S,e,⟨rfl,rfl,hsr,by omega,hals,hne⟩,?_⟩
    try simp only [a9,aG,bhq,Nat.reduceMod,Nat.reduceDiv,aB,aC,aE,aV,aD,aU,aP,aS,aT,yaq,yar,yao,yap,go_sem,hBs,hn0,hn1,rg]
    refine ⟨S,e,⟨rfl,rfl,hsr,by omega,hals,by rw [hrf];simp,by rw [hgf,Option.getD_some];omega⟩,?_⟩
    have hfo:=FL (S:=S) (role:=role') (e:=e) ⟨heA.ok,heA.ad.ar⟩
    generalize jm S role' e=F at *
    have hce:(As F F==0)=true:=by rw [cmpE_eq.2 rfl];rfl
    try simp only [a9,aG,bhq,Nat.reduceMod,Nat.reduceDiv,aB,aC,aE,aV,aD,aU,aP,aS,aT,yaq,yar,yao,yap,go_sem,hBs,hn0,hn1,cD,aO,qC]
    refine ⟨F,F,⟨rfl,rfl,hfo,hfo⟩,?_⟩
    rw [hce]
    try simp only [a9,aG,bhq,Nat.reduceMod,Nat.reduceDiv,aB,aC,aE,aV,aD,aU,aP,aS,aT,yaq,yar,yao,yap,go_sem,hBs,hn0,hn1,ei2]
    refine ⟨i+1,by omega,by omega,?_⟩
    refine ⟨by (try simp only [zkq,zkv,zle]);omega,by repeat first|exact .refl _|refine .push ?_ _,hclI,?_,?_⟩
    ·simp [ltF,hBn,zle,znn,znf,aQ ep,aA,znu,znv]
    ·simp [aJ,wk2,wk1,wkM,Fr.get]
  ·simp only [go_sem,ei]
   refine ⟨k+1,by omega,by omega,?_⟩
   refine ⟨by (try simp only [zkq,zkv,zle]);omega,by repeat first|exact .refl _|refine .push ?_ _,hclB,?_,?_⟩
   ·simp [ltF,hBn,znn,znf,aQ ep]
   ·simp [aJ,wk2,wk1,wkM,Fr.get]
 ·simp only [go_sem,qr]
  simp (disch:=first|exact Zd|omega) [↓zmo,beq,ybc,ybd,ybe,ae,wk,wk2,wk1,wkM,wkL,ah,ybf,hcl,hle]
end Go.AL
