/- Lemmas of the proof; no condition. -/
import Derived.Test.YtjnhidpnfdbmaaaGreatLRol
import Derived.Test.YtjnhidpnfdbmaaaGreatS10e
import Derived.Test.YtjnhidpnfdbmaaaGreatS11g
import Derived.Test.YtjnhidpnfdbmaaaGreatS11j
set_option linter.all false
set_option maxRecDepth 10000
set_option maxHeartbeats 32000000
open List renaming length_cons → yaz, length_nil → yba, take_succ_cons → yaq, take_zero → yar, drop_succ_cons → yao, drop_zero → yap, length_map → ybb, map_nil → yaf, append_nil → yaj, take_nil → yas, cons_append → yal, nil_append → yak, map_cons → yae, take_of_length_le → ybc, drop_append → ybd, take_append → ybe, drop_eq_nil_of_le → ybf
open Option renaming isSome_none → yax, isSome_some → yaw
open Go Go.AL Go.Proofs
namespace Go.AL
def AHeap.hole (H:AHeap):AHeap:=⟨H.nx+1,fun i=>if i=H.nx then .none else H.f i⟩
theorem gx {H:AHeap}:H.hole.nx=H.nx+1:=(rfl)
theorem kL {H:AHeap} {i:Nat}:H.hole.get i=if i=H.nx then .none else H.get i:=by
 unfold AHeap.get AHeap.hole
 by_cases h:i=H.nx
 ·subst h;simp
 ·by_cases h2:i<H.nx
  ·simp [h,h2,Nat.lt_succ_of_lt h2]
  ·simp only [h,if_false,h2];split<;>first|omega|rfl
theorem Aw {H:AHeap} {i:Nat}:aA H.hole i=if i=H.nx then .none else aA H i:=by
 unfold aA
 rw [kL]
 by_cases h:i=H.nx<;>simp [h]
theorem GT {H:AHeap} {i:Nat} {o:AObj}:H.hole.set i o=if i=H.nx then H.push o else (H.set i o).hole:=by
 split
 ·rename_i h;subst h
  unfold AHeap.set AHeap.push AHeap.hole;congr 1;funext j;by_cases hj:j=H.nx<;>simp [hj]
 ·rename_i h
  unfold AHeap.set AHeap.hole;congr 1;funext j
  simp only
  by_cases h1:j=i
  ·subst h1;simp [h]
  ·simp [h1]
theorem bj {H:AHeap} (h:H.Closed):H.hole.Closed:=fun i cs hi j hj=>by
 rw [kL] at hi
 split at hi
 ·cases hi
 ·exact AV.lt_mono (Nat.le_succ _) _ (h i cs hi j hj)
theorem Ko {A B:AHeap} {o:AObj} (h:A.Le B) (hn:A.nx=B.nx):(A.push o).Le (B.push o) :=
 ⟨by rw [AHeap.nx_push,AHeap.nx_push,hn];exact nrq _,fun i x hx=>by
  rcases AHeap.get_push_inv _ _ hx with ⟨rfl,rfl⟩|⟨hl,hx⟩
  ·rw [hn];exact AHeap.get_push_new _ _
  ·rw [gPq _ _ (by omega)];exact h.get i x hx⟩
theorem J7 {A B:AHeap} {o:AObj} (h:A.Le B) (hn:A.nx=B.nx):A.hole.Le (B.push o) :=
 ⟨by rw [gx,AHeap.nx_push,hn];exact nrq _,fun i x hx=>by
  rw [kL] at hx
  split at hx
  ·cases hx
  ·have:=glq hx
   rw [gPq _ _ (by omega)];exact h.get i x hx⟩
theorem Mq {A B:AHeap} (h:A.Le B) (hn:A.nx=B.nx):A.hole.Le B.hole :=
 ⟨by rw [gx,gx,hn];exact nrq _,fun i x hx=>by
  rw [kL] at hx ⊢
  split at hx
  ·cases hx
  ·rename_i hi
   rw [if_neg (by omega)];exact h.get i x hx⟩
theorem ma {A B:AHeap} (h:A.Le B):A.Le B.hole :=
 ⟨Nat.le_succ_of_le h.nx,fun i x hx=>by
  have h1:=h.get i x hx
  have:=glq h1
  rw [kL,if_neg (by omega)];exact h1⟩
theorem ACalls.weak {P:Program} {f:FuncId} {args:List AV} {H H' H1:AHeap} {x y:AV} (h:ACalls P f args H (.ret x) H') (hw:ae H' x H1 y) (hn:H.nx≤H1.nx):ACalls P f args H (.ret y) H1:=fun w γ vs hs hr=>by
 refine UponCall.mono (fun en w' hen=>?_) (h w γ vs hs hr)
 obtain ⟨γ1,h1,he,hend⟩:=hen
 obtain ⟨h2,h3,h4,h5⟩:=hw
 cases en with
 |returned v=>exact ⟨γ1,h1.drop h3 h4,he.drop0 h3 hn,qk h1 h3 (show Rel w' γ1 H' x v from hend) h2 h5⟩
 |_=>exact hend.elim
theorem MX {a:Nat}:(a=a+1+1+1+1+1+1+1+1+1+1+1+1+1)=False:=eq_false (by omega)
theorem Mu {a:Nat}:(a+1+1+1+1+1+1+1+1+1+1+1+1+1=a)=False:=eq_false (by omega)
theorem MO {a:Nat}:(a=a+1+1+1+1+1+1+1+1+1+1+1+1+1+1)=False:=eq_false (by omega)
theorem L9 {a:Nat}:(a+1+1+1+1+1+1+1+1+1+1+1+1+1+1=a)=False:=eq_false (by omega)
theorem Mm {a:Nat}:(a=a+1+1+1+1+1+1+1+1+1+1+1+1+1+1+1)=False:=eq_false (by omega)
theorem L4 {a:Nat}:(a+1+1+1+1+1+1+1+1+1+1+1+1+1+1+1=a)=False:=eq_false (by omega)
theorem MS {a:Nat}:(a=a+1+1+1+1+1+1+1+1+1+1+1+1+1+1+1+1)=False:=eq_false (by omega)
theorem MW {a:Nat}:(a+1+1+1+1+1+1+1+1+1+1+1+1+1+1+1+1=a)=False:=eq_false (by omega)
theorem Mz {a:Nat}:(a=a+1+1+1+1+1+1+1+1+1+1+1+1+1+1+1+1+1)=False:=eq_false (by omega)
theorem ME {a:Nat}:(a+1+1+1+1+1+1+1+1+1+1+1+1+1+1+1+1+1=a)=False:=eq_false (by omega)
theorem Nm {a:Nat}:(a=a+1+1+1+1+1+1+1+1+1+1+1+1+1+1+1+1+1+1)=False:=eq_false (by omega)
theorem MV {a:Nat}:(a+1+1+1+1+1+1+1+1+1+1+1+1+1+1+1+1+1+1=a)=False:=eq_false (by omega)
theorem M0 {a:Nat}:(a=a+1+1+1+1+1+1+1+1+1+1+1+1+1+1+1+1+1+1+1)=False:=eq_false (by omega)
theorem Nb {a:Nat}:(a+1+1+1+1+1+1+1+1+1+1+1+1+1+1+1+1+1+1+1=a)=False:=eq_false (by omega)
theorem Mb {a:Nat}:(a=a+1+1+1+1+1+1+1+1+1+1+1+1+1+1+1+1+1+1+1+1)=False:=eq_false (by omega)
theorem L8 {a:Nat}:(a+1+1+1+1+1+1+1+1+1+1+1+1+1+1+1+1+1+1+1+1=a)=False:=eq_false (by omega)
theorem MR {a:Nat}:(a=a+1+1+1+1+1+1+1+1+1+1+1+1+1+1+1+1+1+1+1+1+1)=False:=eq_false (by omega)
theorem L7 {a:Nat}:(a+1+1+1+1+1+1+1+1+1+1+1+1+1+1+1+1+1+1+1+1+1=a)=False:=eq_false (by omega)
theorem Mw {a:Nat}:(a=a+1+1+1+1+1+1+1+1+1+1+1+1+1+1+1+1+1+1+1+1+1+1)=False:=eq_false (by omega)
theorem Mr {a:Nat}:(a+1+1+1+1+1+1+1+1+1+1+1+1+1+1+1+1+1+1+1+1+1+1=a)=False:=eq_false (by omega)
theorem M5 {a:Nat}:(a=a+1+1+1+1+1+1+1+1+1+1+1+1+1+1+1+1+1+1+1+1+1+1+1)=False:=eq_false (by omega)
theorem MP {a:Nat}:(a+1+1+1+1+1+1+1+1+1+1+1+1+1+1+1+1+1+1+1+1+1+1+1=a)=False:=eq_false (by omega)
theorem M2 {a:Nat}:(a=a+1+1+1+1+1+1+1+1+1+1+1+1+1+1+1+1+1+1+1+1+1+1+1+1)=False:=eq_false (by omega)
theorem M7 {a:Nat}:(a+1+1+1+1+1+1+1+1+1+1+1+1+1+1+1+1+1+1+1+1+1+1+1+1=a)=False:=eq_false (by omega)
theorem MA {a:Nat}:(a=a+1+1+1+1+1+1+1+1+1+1+1+1+1+1+1+1+1+1+1+1+1+1+1+1+1)=False:=eq_false (by omega)
theorem M3 {a:Nat}:(a+1+1+1+1+1+1+1+1+1+1+1+1+1+1+1+1+1+1+1+1+1+1+1+1+1=a)=False:=eq_false (by omega)
theorem ML {a:Nat}:(a=a+1+1+1+1+1+1+1+1+1+1+1+1+1+1+1+1+1+1+1+1+1+1+1+1+1+1)=False:=eq_false (by omega)
theorem Mg {a:Nat}:(a+1+1+1+1+1+1+1+1+1+1+1+1+1+1+1+1+1+1+1+1+1+1+1+1+1+1=a)=False:=eq_false (by omega)
theorem Mt {a:Nat}:(a=a+1+1+1+1+1+1+1+1+1+1+1+1+1+1+1+1+1+1+1+1+1+1+1+1+1+1+1)=False:=eq_false (by omega)
theorem MF {a:Nat}:(a+1+1+1+1+1+1+1+1+1+1+1+1+1+1+1+1+1+1+1+1+1+1+1+1+1+1+1=a)=False:=eq_false (by omega)
theorem MC {a:Nat}:(a=a+1+1+1+1+1+1+1+1+1+1+1+1+1+1+1+1+1+1+1+1+1+1+1+1+1+1+1+1)=False:=eq_false (by omega)
theorem Nr {a:Nat}:(a+1+1+1+1+1+1+1+1+1+1+1+1+1+1+1+1+1+1+1+1+1+1+1+1+1+1+1+1=a)=False:=eq_false (by omega)
theorem M6 {a:Nat}:(a=a+1+1+1+1+1+1+1+1+1+1+1+1+1+1+1+1+1+1+1+1+1+1+1+1+1+1+1+1+1)=False:=eq_false (by omega)
theorem Ml {a:Nat}:(a+1+1+1+1+1+1+1+1+1+1+1+1+1+1+1+1+1+1+1+1+1+1+1+1+1+1+1+1+1=a)=False:=eq_false (by omega)
theorem Nf {a:Nat}:(a=a+1+1+1+1+1+1+1+1+1+1+1+1+1+1+1+1+1+1+1+1+1+1+1+1+1+1+1+1+1+1)=False:=eq_false (by omega)
theorem Ma {a:Nat}:(a+1+1+1+1+1+1+1+1+1+1+1+1+1+1+1+1+1+1+1+1+1+1+1+1+1+1+1+1+1+1=a)=False:=eq_false (by omega)
theorem Mf {a:Nat}:(a=a+1+1+1+1+1+1+1+1+1+1+1+1+1+1+1+1+1+1+1+1+1+1+1+1+1+1+1+1+1+1+1)=False:=eq_false (by omega)
theorem MY {a:Nat}:(a+1+1+1+1+1+1+1+1+1+1+1+1+1+1+1+1+1+1+1+1+1+1+1+1+1+1+1+1+1+1+1=a)=False:=eq_false (by omega)
theorem Np {a:Nat}:(a=a+1+1+1+1+1+1+1+1+1+1+1+1+1+1+1+1+1+1+1+1+1+1+1+1+1+1+1+1+1+1+1+1)=False:=eq_false (by omega)
theorem L5 {a:Nat}:(a+1+1+1+1+1+1+1+1+1+1+1+1+1+1+1+1+1+1+1+1+1+1+1+1+1+1+1+1+1+1+1+1=a)=False:=eq_false (by omega)
theorem MI {a:Nat}:(a=a+1+1+1+1+1+1+1+1+1+1+1+1+1+1+1+1+1+1+1+1+1+1+1+1+1+1+1+1+1+1+1+1+1)=False:=eq_false (by omega)
theorem MQ {a:Nat}:(a+1+1+1+1+1+1+1+1+1+1+1+1+1+1+1+1+1+1+1+1+1+1+1+1+1+1+1+1+1+1+1+1+1=a)=False:=eq_false (by omega)
attribute [go_sem] gx kL Aw GT MX Mu MO L9 Mm L4 MS MW Mz ME Nm MV M0 Nb Mb L8 MR L7 Mw Mr M5 MP M2 M7 MA M3 ML Mg Mt MF MC Nr M6 Ml Nf Ma Mf MY Np L5 MI MQ
def kw (rs:List SRole):List AV:=rs.flatMap fun r=>(bX r).cells
def qn:List AV→AHeap→(AEnd→AHeap→Prop)→Prop
 |[.ptr id 0,.slice .any 8 l],H,K=>∃ ts:List STable,(l=ts.map ba∧ts.length≤100∧∀ t∈ts,t.keys.length≤100)∧onC (H.get id) fun b v=>K (.ret (.ms (H.nx+1+1+1+1+1+1+1+1+1+1) 0 6 3)) (((H.set id (cL b (eZ b v ts).2)).hole.hole.hole.hole.hole.hole.hole.hole.hole.hole).push (.cells (kw (eZ b v ts).1)))
 |_,_,_=>False
theorem zP:EntOk Tryz.prog 28 (Ent.effect qn):=by
 refine EntOk.effect fun args H K h=>?_
 unfold qn at h
 split at h
 rotate_left
 ·exact h.elim
 rename_i id l
 obtain ⟨ts,⟨rfl,hts,htk⟩,h⟩:=h
 obtain ⟨b,v,hg,hb,hv,hK⟩:=iQ h
 refine ⟨_,_,hK,?_⟩
 clear hK
 obtain ⟨res,hres⟩:∃ res,kw (eZ b v ts).1=res:=⟨_,rfl⟩
 rw [hres]
 generalize hR:co b ts (v+4)=R
 have hend:(eZ b v ts).2=R.2:=by rw [← hR];rfl
 rw [hend]
 refine ACalls.fW au (tCq gQ (tCq kV tNq)) Tryz.func28 [.tmp 4] (by simp only [zle,gx,zlf];omega) (T:=aq [(16,[[],[],[],[],[],[],[],[],[5],[],[],[3,5,8],[1,3,5,8],[],[1,3,5,8]]),(18,[[],[],[],[],[],[],[],[5],[],[],[3,5,7],[1,3,5,7],[],[1,3,5,7]]),(1,[[7]]),(2,[[25]]),(3,[[22]]),(14,[[1]]),(20,[[11,1]])]) (h:=fun hcl hlt=>?_)
 clear hlt
 have hid:=glq hg
 have hne:=jf hid
 have hgc:=jJ (b:=b) hid
 have hcl2:∀ w,(H.set id (cL b w)).Closed:=fun w=>aj hcl eC
 have e2:(2:Int).toNat=2:=rfl
 have e3:(3:Int).toNat=3:=rfl
 have e4:(4:Int).toNat=4:=rfl
 have e6:(6:Int).toNat=6:=rfl
 have w1:∀ (u n:Nat) (k:Int),0<n→n≤100→0≤k→k≤100→IntKind.i64.wrap (k+((cv b u n:Nat):Int))=k+((cv b u n:Nat):Int):=fun u n k h1 h2 h3 h4=>by
  have:=c8 (b:=b) (v:=u) (n:=n) h1
  rw [wrap_i64 (by omega) (by omega)]
 have a33:∀ u,IntKind.i64.wrap (3+((cv b u 3:Nat):Int))=3+((cv b u 3:Nat):Int):=fun u=>w1 u 3 3 (by decide) (by decide) (by decide) (by decide)
 have a16:∀ u,IntKind.i64.wrap (1+((cv b u 6:Nat):Int))=1+((cv b u 6:Nat):Int):=fun u=>w1 u 6 1 (by decide) (by decide) (by decide) (by decide)
 simp only [go_sem,bhq,Nat.reduceMod,Nat.reduceDiv,aC,aB,aE,aS,aD,aR,aO,aP,aQ,yaq,yar,yao,yap,aV,bE,hg,hgc,aT hb,bm,aL,bx,hne,e2,e3,e4,e6,a33,a16]
 refine kY 14 2 4 _ rfl rfl ?_
 simp only [go_sem,bhq,Nat.reduceMod,Nat.reduceDiv,aC,aB,aE,aS,aD,aR,aO,aP,aQ,yaq,yar,yao,yap,aV,bE,hg,hgc,aT hb,bm,aL,bx,hne,e2,e3,e4,e6,a33,a16,List.set_cons_succ,List.set_cons_zero]
 (repeat with_reducible refine Yq ?_)
 refine kY 22 2 4 _ rfl rfl ?_
 simp only [go_sem,bhq,Nat.reduceMod,Nat.reduceDiv,aC,aB,aE,aS,aD,aR,aO,aP,aQ,yaq,yar,yao,yap,aV,bE,hg,hgc,aT hb,bm,aL,bx,hne,e2,e3,e4,e6,a33,a16,List.set_cons_succ,List.set_cons_zero]
 (repeat with_reducible refine Yq ?_)
 refine kY 29 2 4 _ rfl rfl ?_
 simp only [go_sem,bhq,Nat.reduceMod,Nat.reduceDiv,aC,aB,aE,aS,aD,aR,aO,aP,aQ,yaq,yar,yao,yap,aV,bE,hg,hgc,aT hb,bm,aL,bx,hne,e2,e3,e4,e6,a33,a16,List.set_cons_succ,List.set_cons_zero]
 refine az (A:=Nat × Nat × List AV × List AV × List AV) (fun x=>[(0,.ptr id 0),(5,.ptr (H.nx+1+1+1) 0),(6,.ptr (H.nx+1+1+1+1+1+1) 0),(7,.ptr (H.nx+1+1+1+1+1+1+1+1+1) 0),(30,.slice .any 8 (ts.map ba)),(31,.int .i64 (ts.length:Int)),(32,.int .i64 (x.1:Int))]) (fun x=>gA H id b v x.2.1 x.2.2.1 x.2.2.2.1 x.2.2.2.2) (fun x=>RolI b ts R x.1 x.2.1 x.2.2.1 x.2.2.2.1 x.2.2.2.2) (fun x=>ts.length - x.1) (0,v+4,[],[],[]) ⟨by omega,by simp,by simp,by simp,by rw [← hR];rfl,by rw [← hR];rfl,by rw [← hR];rfl,by rw [← hR];rfl⟩ ?_ fun x hx=>?_
 ·refine ⟨by simp only [gA,zle,zlf,zkq,zkv];omega,lRq _,gG (ts:=ts) (R:=R) (k:=0) (w:=v+4) hcl ⟨by omega,by simp,by simp,by simp,by rw [← hR];rfl,by rw [← hR];rfl,by rw [← hR];rfl,by rw [← hR];rfl⟩ _,?_,?_⟩
  ·simp [ltF,gA,znn,znf,zle,zlf,a8 cS]
   omega
  ·simp [aJ,wk2,wk1,wkM,Fr.get]
 obtain ⟨k,w,a1,a2,a3⟩:=x
 dsimp only at hx ⊢
 have hclo:=fun w'=>gG (id:=id) (v:=v) hcl hx w'
 obtain ⟨hk,l1,l2,l3,i1,i2,i3,i4⟩:=hx
 simp only [go_sem]
 refine ai (fun hc=>?_) (fun hc=>?_)
 ·have hk':k<ts.length:=by simp at hc;omega
  obtain ⟨t,ht⟩:∃ t,t=ts[k]:=⟨_,rfl⟩
  have hd:ts.drop k=t::ts.drop (k+1):=by rw [ht];exact dcq hk'
  have hkl:t.keys.length≤100:=htk t (by rw [ht];exact gMq hk')
  have htg:(ts.map ba).getD k .junk=.agg [.int .i64 t.id,.str t.name,.slice .any 3 (t.keys.map bU),.slice .any 1 (inL t.actions),.int .i64 t.dflt,.slice .any 2 (t.dargs.map vv),.int .i64 t.size,.str t.restr]:=by
   rw [gEq,List.getElem?_map,gQq hk',← ht];rfl
  have hT:∀ n,ltL n ([.int .i64 t.id,.str t.name,.slice .any 3 (t.keys.map bU),.slice .any 1 (inL t.actions),.int .i64 t.dflt,.slice .any 2 (t.dargs.map vv),.int .i64 t.size,.str t.restr]:List AV):=fun n=>ltL_iff.2 fun j hj=>AV.lt_cells (cS t) j hj
  have hclT:∀ w',((gA H id b v w' a1 a2 a3).push (.cells [.int .i64 t.id,.str t.name,.slice .any 3 (t.keys.map bU),.slice .any 1 (inL t.actions),.int .i64 t.dflt,.slice .any 2 (t.dargs.map vv),.int .i64 t.size,.str t.restr])).Closed:=fun w'=>aa (hclo w') (hT _)
  have hclo2:∀ w' f g,((((gA H id b v w' a1 a2 a3).push (.cells [.int .i64 t.id,.str t.name,.slice .any 3 (t.keys.map bU),.slice .any 1 (inL t.actions),.int .i64 t.dflt,.slice .any 2 (t.dargs.map vv),.int .i64 t.size,.str t.restr])).push (.cells (bfN t.keys.length f))).push (.cells (bfN t.keys.length g))).Closed:=fun w' f g =>
   aa (aa (hclT w') (by simp [Cu])) (by simp [Cu])
  have hrn:∀ w',(gA H id b v w' a1 a2 a3).nx=(H.nx+1+1+1+1+1+1+1+1+1+1):=fun _=>rfl
  simp only [go_sem,gA,rY,lV,rS,htg,iNq,ybb,Ix,Bp]
  (repeat with_reducible refine Yq ?_)
  refine az (A:=Nat) (fun j=>[(0,.ptr id 0),(5,.ptr (H.nx+1+1+1) 0),(6,.ptr (H.nx+1+1+1+1+1+1) 0),(7,.ptr (H.nx+1+1+1+1+1+1+1+1+1) 0),(9,.ptr (H.nx+1+1+1+1+1+1+1+1+1+1) 0),(10,.ms (H.nx+1+1+1+1+1+1+1+1+1+1+1) 0 1 t.keys.length),(11,.ms (H.nx+1+1+1+1+1+1+1+1+1+1+1+1) 0 1 t.keys.length),(30,.slice .any 8 (ts.map ba)),(31,.int .i64 (ts.length:Int)),(32,.int .i64 (k:Int)),(45,.int .i64 (t.keys.length:Int)),(46,.int .i64 (j:Int))]) (fun j=>(((gA H id b v (w+j) a1 a2 a3).push (.cells [.int .i64 t.id,.str t.name,.slice .any 3 (t.keys.map bU),.slice .any 1 (inL t.actions),.int .i64 t.dflt,.slice .any 2 (t.dargs.map vv),.int .i64 t.size,.str t.restr])).push (.cells (bfN t.keys.length fun i=>decide (i<j)))).push (.cells (bfN t.keys.length fun i=>decide (i<j)&&decide (ci b (w+i) 4 > 0)))) (fun j=>j≤t.keys.length) (fun j=>t.keys.length - j) 0 (by omega) ?_ fun j hj=>?_
  ·simp only [Nat.not_lt_zero,decide_false,Bool.false_and]
   refine ⟨by simp only [zle,hrn,zkq,zkv];omega,lRq _,hclo2 _ _ _,?_,?_⟩
   ·simp [ltF,hrn,znn,znp,znf,zle,zlf,a8 cS]
    omega
   ·simp [aJ,wk2,wk1,wkM,Fr.get]
  simp only [go_sem]
  refine ai (fun hc2=>?_) (fun hc2=>?_)
  ·have hj':j<t.keys.length:=by simp at hc2;omega
   have e5:IntKind.i64.wrap ((j:Int)+1)=((j+1:Nat):Int):=by rw [wrap_i64]<;>omega
   have hs1:(bfN t.keys.length fun i=>decide (i<j)).set j (.bool true)=bfN t.keys.length fun i=>decide (i<j+1):=BJ fun i hi=>by
    by_cases e:i=j
    ·subst e;simp
    ·rw [if_neg e,decide_eq_decide];omega
   have hs2:(bfN t.keys.length fun i=>decide (i<j)&&decide (ci b (w+i) 4 > 0)).set j (.bool (decide (ci b (cp (w+j) 0) 4 > 0)))=bfN t.keys.length fun i=>decide (i<j+1)&&decide (ci b (w+i) 4 > 0):=BJ fun i hi=>by
    by_cases e:i=j
    ·subst e;simp [cp]
    ·rw [if_neg e];congr 1;rw [decide_eq_decide];omega
   simp only [aZ,aH,bhq,Nat.reduceMod,Nat.reduceDiv,aC,aB,aE,aS,aD,aR,aO,aP,aQ,yaq,yar,yao,yap,go_sem,aV,bE,hgc,aT hb,bm,aL,bx,hne,e4,gA,rY,lV,rS,lAq,ybb,iNq,Bp,og,nzq,Nat.mul_one,hs1,hs2,e5]
   (repeat with_reducible refine Yq ?_)
   refine ⟨j+1,by omega,by omega,by simp only [zle,hrn,zlf,zkq,zkv];omega,lRq _,hclo2 _ _ _,?_,?_⟩
   ·simp [ltF,hrn,znn,znp,znf,zle,zlf,a8 cS]
    omega
   ·simp [aJ,wk2,wk1,wkM,Fr.get]
  have hj':j=t.keys.length:=by simp at hc2;omega
  subst hj'
  have y1:(bfN t.keys.length fun i=>decide (i<t.keys.length))=boL (List.replicate t.keys.length true):=by
   rw [BI];congr 1
   apply List.ext_getElem
   ·simp
   ·intro i h1 h2;simp at h1 ⊢;exact h1
  have y2:(bfN t.keys.length fun i=>decide (i<t.keys.length)&&decide (ci b (w+i) 4 > 0))=boL (iW b w t.keys.length):=by
   rw [BI];congr 1
   unfold iW
   refine List.map_congr_left fun i hi=>?_
   have:=List.mem_range.1 hi
   simp [this]
  rw [y1,y2]
  simp only [aZ,aH,bhq,Nat.reduceMod,Nat.reduceDiv,aC,aB,aE,aS,aD,aR,aO,aP,aQ,yaq,yar,yao,yap,go_sem,aV,bE,hgc,aT hb,bm,aL,bx,hne,e4,gA,rY,lV,rS,lAq,ybb]
  refine qe [(0,.ptr id 0),(5,.ptr (H.nx+1+1+1) 0),(6,.ptr (H.nx+1+1+1+1+1+1) 0),(7,.ptr (H.nx+1+1+1+1+1+1+1+1+1) 0),(9,.ptr (H.nx+1+1+1+1+1+1+1+1+1+1) 0),(10,.slice .any 1 (boL (List.replicate t.keys.length true))),(11,.slice .any 1 (boL (iW b w t.keys.length))),(30,.slice .any 8 (ts.map ba)),(31,.int .i64 (ts.length:Int)),(32,.int .i64 (k:Int))] ((gA H id b v (w+t.keys.length) a1 a2 a3).push (.cells [.int .i64 t.id,.str t.name,.slice .any 3 (t.keys.map bU),.slice .any 1 (inL t.actions),.int .i64 t.dflt,.slice .any 2 (t.dargs.map vv),.int .i64 t.size,.str t.restr])) ⟨by simp only [zle,hrn,zkq,zkv,gh];omega,((lRq _).push _).push _,hclT _,?_,?_⟩ ?_
  ·simp [ltF,hrn,znn,znp,znf,zle,zlf,a8 cS,tQ]
   omega
  ·have yr1:bA 1 t.keys.length (boL (List.replicate t.keys.length true))=boL (List.replicate t.keys.length true):=by
    have:=oa (List.replicate t.keys.length true)
    rw [List.length_replicate] at this;exact this
   have yr2:bA 1 t.keys.length (boL (iW b w t.keys.length))=boL (iW b w t.keys.length):=by
    have:=oa (iW b w t.keys.length)
    rw [show (iW b w t.keys.length).length=t.keys.length by simp [iW]] at this;exact this
   have hn1:∀ w' o,((gA H id b v w' a1 a2 a3).push o).get (H.nx+1+1+1+1+1+1+1+1+1+1+1)=none:=fun w' o=>zmv (by rw [zle,hrn];omega)
   have hn2:∀ w' o,((gA H id b v w' a1 a2 a3).push o).get (H.nx+1+1+1+1+1+1+1+1+1+1+1+1)=none:=fun w' o=>zmv (by rw [zle,hrn];omega)
   simp only [aJ,wk2,wk1,wkM,go_sem,yap,yr1,yr2,hn1,hn2,true_or,or_true,and_self]
  simp only [aZ,aH,bhq,Nat.reduceMod,Nat.reduceDiv,aC,aB,aE,aS,aD,aR,aO,aP,aQ,yaq,yar,yao,yap,go_sem,aV,bE,hgc,aT hb,bm,aL,bx,hne,e4,gA,rY,lV,rS,ybb]
  (repeat with_reducible refine Yq ?_)
  have e5:=Yk5 k
  refine ai (fun h1=>?_) (fun h1=>?_)
  all_goals
   try simp only [aZ,aH,bhq,Nat.reduceMod,Nat.reduceDiv,aC,aB,aE,aS,aD,aR,aO,aP,aQ,yaq,yar,yao,yap,go_sem,aV,bE,hgc,aT hb,bm,aL,bx,hne,e4,gA,rY,lV,rS,ybb]
   try (repeat with_reducible refine Yq ?_)
   refine ai (fun h2=>?_) (fun h2=>?_)
  all_goals
   try simp only [aZ,aH,bhq,Nat.reduceMod,Nat.reduceDiv,aC,aB,aE,aS,aD,aR,aO,aP,aQ,yaq,yar,yao,yap,go_sem,aV,bE,hgc,aT hb,bm,aL,bx,hne,e4,gA,rY,lV,rS,ybb,e5]
   try (repeat with_reducible refine Yq ?_)
  ·have hp1:(0<cv b (w+t.keys.length) 4)=True:=eq_true (by have h:=of_decide_eq_true h1;simp only [cp,Nat.add_zero] at h;omega)
   have hp2:(cv b (w+(t.keys.length+3)) 2=1)=True:=eq_true (by have h:=of_decide_eq_true h2;unfold cp at h;rw [Nat.add_assoc] at h;exact h)
   rw [hd] at i1 i2 i3 i4
   simp only [co,hp1,hp2,if_true,if_false,Nat.add_assoc,Nat.reduceAdd] at i1 i2 i3 i4
   have hI:RolI b ts R (k+1) (w+(t.keys.length+6)) (a1++[.agg [.int .i64 t.id,.bool true,.bool true,.slice .any 1 (boL (List.replicate t.keys.length true))]]) (a2++[.agg [.int .i64 t.id,.bool (decide (0<ci b (w+t.keys.length+1) 4)),.bool (decide (cv b (w+t.keys.length+2) 2=1)),.slice .any 1 (boL (iW b w t.keys.length))]]) (a3++[.agg [.int .i64 t.id,.bool (decide (cv b (w+t.keys.length+4) 2=1)),.bool (decide (cv b (w+t.keys.length+5) 2=1)),.slice .any 1 (boL (List.replicate t.keys.length true))]]):=by
    refine ⟨by omega,by (try simp only [lAq,yaz,yba]);omega,by (try simp only [lAq,yaz,yba]);omega,by (try simp only [lAq,yaz,yba]);omega,?_,?_,?_,i4⟩
    ·simpa [bb,Nat.add_assoc] using i1
    ·simpa [bb,Nat.add_assoc] using i2
    ·simpa [bb,Nat.add_assoc] using i3
   refine ⟨(_,_,_,_,_),hI,by dsimp only;omega,by simp only [gA,zle,zlf];omega,?_,gG hcl hI _,?_,?_⟩
   ·simp only [gA,lAq,yaz,yba]
    repeat first|exact .refl _|refine .push ?_ _
   ·simp [ltF,gA,znn,znf,zle,zlf,a8 cS]
    omega
   ·simp [aJ,wk2,wk1,wkM,Fr.get]
  ·have hp1:(0<cv b (w+t.keys.length) 4)=True:=eq_true (by have h:=of_decide_eq_true h1;simp only [cp,Nat.add_zero] at h;omega)
   have hp2:(cv b (w+(t.keys.length+3)) 2=1)=False:=eq_false (by have h:=of_decide_eq_false h2;unfold cp at h;rw [Nat.add_assoc] at h;exact h)
   rw [hd] at i1 i2 i3 i4
   simp only [co,hp1,hp2,if_true,if_false,Nat.add_assoc,Nat.reduceAdd] at i1 i2 i3 i4
   have hI:RolI b ts R (k+1) (w+(t.keys.length+4)) (a1++[.agg [.int .i64 t.id,.bool true,.bool true,.slice .any 1 (boL (List.replicate t.keys.length true))]]) (a2++[.agg [.int .i64 t.id,.bool (decide (0<ci b (w+t.keys.length+1) 4)),.bool (decide (cv b (w+t.keys.length+2) 2=1)),.slice .any 1 (boL (iW b w t.keys.length))]]) (a3):=by
    refine ⟨by omega,by (try simp only [lAq,yaz,yba]);omega,by (try simp only [lAq,yaz,yba]);omega,by (try simp only [lAq,yaz,yba]);omega,?_,?_,?_,i4⟩
    ·simpa [bb,Nat.add_assoc] using i1
    ·simpa [bb,Nat.add_assoc] using i2
    ·simpa [bb,Nat.add_assoc] using i3
   refine ⟨(_,_,_,_,_),hI,by dsimp only;omega,by simp only [gA,zle,zlf];omega,?_,gG hcl hI _,?_,?_⟩
   ·simp only [gA,lAq,yaz,yba]
    repeat first|exact .refl _|refine .push ?_ _
   ·simp [ltF,gA,znn,znf,zle,zlf,a8 cS]
    omega
   ·simp [aJ,wk2,wk1,wkM,Fr.get]
  ·have hp1:(0<cv b (w+t.keys.length) 4)=False:=eq_false (by have h:=of_decide_eq_false h1;simp only [cp,Nat.add_zero] at h;omega)
   have hp2:(cv b (w+(t.keys.length+1)) 2=1)=True:=eq_true (by have h:=of_decide_eq_true h2;unfold cp at h;rw [Nat.add_assoc] at h;exact h)
   rw [hd] at i1 i2 i3 i4
   simp only [co,hp1,hp2,if_true,if_false,Nat.add_assoc,Nat.reduceAdd] at i1 i2 i3 i4
   have hI:RolI b ts R (k+1) (w+(t.keys.length+4)) (a1++[.agg [.int .i64 t.id,.bool true,.bool true,.slice .any 1 (boL (List.replicate t.keys.length true))]]) (a2) (a3++[.agg [.int .i64 t.id,.bool (decide (cv b (w+t.keys.length+2) 2=1)),.bool (decide (cv b (w+t.keys.length+3) 2=1)),.slice .any 1 (boL (List.replicate t.keys.length true))]]):=by
    refine ⟨by omega,by (try simp only [lAq,yaz,yba]);omega,by (try simp only [lAq,yaz,yba]);omega,by (try simp only [lAq,yaz,yba]);omega,?_,?_,?_,i4⟩
    ·simpa [bb,Nat.add_assoc] using i1
    ·simpa [bb,Nat.add_assoc] using i2
    ·simpa [bb,Nat.add_assoc] using i3
   refine ⟨(_,_,_,_,_),hI,by dsimp only;omega,by simp only [gA,zle,zlf];omega,?_,gG hcl hI _,?_,?_⟩
   ·simp only [gA,lAq,yaz,yba]
    repeat first|exact .refl _|refine .push ?_ _
   ·simp [ltF,gA,znn,znf,zle,zlf,a8 cS]
    omega
   ·simp [aJ,wk2,wk1,wkM,Fr.get]
  ·have hp1:(0<cv b (w+t.keys.length) 4)=False:=eq_false (by have h:=of_decide_eq_false h1;simp only [cp,Nat.add_zero] at h;omega)
   have hp2:(cv b (w+(t.keys.length+1)) 2=1)=False:=eq_false (by have h:=of_decide_eq_false h2;unfold cp at h;rw [Nat.add_assoc] at h;exact h)
   rw [hd] at i1 i2 i3 i4
   simp only [co,hp1,hp2,if_true,if_false,Nat.add_assoc,Nat.reduceAdd] at i1 i2 i3 i4
   have hI:RolI b ts R (k+1) (w+(t.keys.length+2)) (a1++[.agg [.int .i64 t.id,.bool true,.bool true,.slice .any 1 (boL (List.replicate t.keys.length true))]]) (a2) (a3):=by
    refine ⟨by omega,by (try simp only [lAq,yaz,yba]);omega,by (try simp only [lAq,yaz,yba]);omega,by (try simp only [lAq,yaz,yba]);omega,?_,?_,?_,i4⟩
    ·simpa [bb,Nat.add_assoc] using i1
    ·simpa [bb,Nat.add_assoc] using i2
    ·simpa [bb,Nat.add_assoc] using i3
   refine ⟨(_,_,_,_,_),hI,by dsimp only;omega,by simp only [gA,zle,zlf];omega,?_,gG hcl hI _,?_,?_⟩
   ·simp only [gA,lAq,yaz,yba]
    repeat first|exact .refl _|refine .push ?_ _
   ·simp [ltF,gA,znn,znf,zle,zlf,a8 cS]
    omega
   ·simp [aJ,wk2,wk1,wkM,Fr.get]
 ·have hk':k=ts.length:=by simp at hc;omega
  subst hk'
  simp only [bhq,Nat.reduceMod,Nat.reduceDiv,aC,aB,aE,aS,aD,aR,aO,aP,aQ,yaq,yar,yao,yap,go_sem,gA,rY,lV,rS]
  (repeat with_reducible refine Yq ?_)
  simp only [List.drop_length,co,yaf,yaj] at i1 i2 i3 i4
  subst i4
  refine di (H.nx+1+1+1+1+1+1+1+1+1+1) res (cs:=(List.flatMap AV.cells [.agg (rY (H.nx+1+1) (H.nx+1) a1),.agg (lV b v (H.nx+1+1+1+1+1) (H.nx+1+1+1+1) a2),.agg (rS b v (H.nx+1+1+1+1+1+1+1+1) (H.nx+1+1+1+1+1+1+1) a3)])) (by simp only [go_sem,rY,lV,rS]) ?_ ?_
  ·rw [← hres]
   simp only [eZ,hR,kw]
   simp [bX,inL,i1,i2,i3,cp,rY,lV,rS,AV.cells,gU,bN,bO,ce,dH,bY,gr,gW,ge,wkM,ll]
  simp only [bhq,Nat.reduceMod,Nat.reduceDiv,aC,aB,aE,aS,aD,aR,aO,aP,aQ,yaq,yar,yao,yap,go_sem]
  refine ⟨by simp [wk,wk2,wk1],Ko (by repeat (first|refine J7 ?_ rfl|exact lRq _)) rfl,aa (bj (bj (bj (bj (bj (bj (bj (bj (bj (bj (hcl2 _))))))))))) ?_,by simp only [znp,zle,gx,zlf];omega⟩
  rw [← hres]
  exact kH nz
def mD (ts:List STable):List UInt8→Nat→AV × Nat:=fun b v=>(.agg (kw (eZ b v ts).1),(eZ b v ts).2)
theorem k7 (ts:List STable):oU (mD ts):=fun b v=>by
 obtain ⟨i1,c,i2,i3⟩:=i9 (b:=b) (v:=v) ts 4
 unfold mD eZ
 dsimp only
 rw [i1]
 unfold ci
 simp only [cF,bm]
 exact ⟨trivial,c,i2,i3⟩
theorem yO {b:List UInt8} {v:Nat} {ts:List STable}:(mD ts b v).1=.agg (kw (eZ b v ts).1):=(rfl)
theorem yB {b:List UInt8} {v:Nat} {ts:List STable}:(mD ts b v).2=cp (eZ b v ts).2 0:=(rfl)
def Mc (H:AHeap) (id:Nat) (K:AEnd→AHeap→Prop) (x:AV) (o:AObj):Prop:=match x with
 |.agg cs=>K (.ret (.ms (H.nx+1+1+1+1+1+1+1+1+1+1) 0 6 3)) (((H.set id o).hole.hole.hole.hole.hole.hole.hole.hole.hole.hole).push (.cells cs))
 |_=>False
theorem md {H:AHeap} {id:Nat} {K:AEnd→AHeap→Prop} {cs:List AV} {o:AObj}:Mc H id K (.agg cs) o=K (.ret (.ms (H.nx+1+1+1+1+1+1+1+1+1+1) 0 6 3)) (((H.set id o).hole.hole.hole.hole.hole.hole.hole.hole.hole.hole).push (.cells cs)):=(rfl)
theorem Ed {id:Nat} {ts:List STable} {H:AHeap} {K:AEnd→AHeap→Prop} (h1:ts.length≤100) (h2:∀ t∈ts,t.keys.length≤100) (h:onS (H.get id) (mD ts) (Mc H id K)) :
 qn [.ptr id 0,.slice .any 8 (ts.map ba)] H K:=⟨ts,⟨rfl,h1,h2⟩,h⟩
def qp (x:Sch) (r:Nat):List AV:=[.slice .any 3 (x.fields.map cn),.slice .any 3 (x.headers.map iT),.slice .any 5 (x.states.map dU),.slice .any 5 (x.actions.map bg),.slice .any 8 (x.tables.map ba),
 .slice .any 2 (x.stages.map lF),.ms r 0 6 3,.slice .any 6 (x.refs.map sZ),.int .i64 x.maxBatch,.int .i64 x.budget]
def oH:List AV→AHeap→(AEnd→AHeap→Prop)→Prop
 |[.ptr id 0],H,K=>onC (H.get id) fun b v=>K (.ret (.agg (qp (bw b v).1 (H.nx+1+1+1+1+1+1+1+1+1+1+1+1+1+1+1+1+1)))) (((H.set id (cL b (bw b v).2)).hole.hole.hole.hole.hole.hole.hole.hole.hole.hole.hole.hole.hole.hole.hole.hole.hole).push (.cells (kw (bw b v).1.roles)))
 |_,_,_=>False
theorem Js {n r:Nat} {x:Sch} (h:r<n):AV.lt n (.agg (qp x r)):=by
 simp [qp,znr,znu,znv,znf,znp,h,a8 mR,a8 qK,a8 fA,a8 iK,a8 cS,a8 xX,a8 GF]
theorem ok_CSchemaM:EntOk Tryz.prog 8 (Ent.effect oH):=by
 refine EntOk.effect fun args H K h=>?_
 unfold oH at h
 split at h
 rotate_left
 ·exact h.elim
 rename_i id
 obtain ⟨b,v,hg,hb,hv,hK⟩:=iQ h
 refine ⟨_,_,hK,?_⟩
 clear hK
 have hrl:(bw b v).1.roles=(eZ b (cp (bh b (cp v 2)).2 16) (bD b (cp (bh b (cp v 2)).2 4))).1:=rfl
 obtain ⟨S,hS⟩:∃ S,(bw b v).1=S:=⟨_,rfl⟩
 have hSr:S.roles=(eZ b (cp (bh b (cp v 2)).2 16) (bD b (cp (bh b (cp v 2)).2 4))).1:=by rw [← hS,hrl]
 rw [hS]
 generalize hpos:(bw b v).2=pos
 refine ACalls.fW au (tCq gQ (tCq kV (tCq AZ (tCq zi (tCq AN (tCq zP tNq)))))) Tryz.func8 [.cell 2 39] (by simp only [zle,gx,zlf];omega) (T:=aq [(15,[[4]])]) (h:=fun hcl hlt=>?_)
 clear hlt
 have hid:=glq hg
 have hne:=jf hid
 have hne3:∀ k,(id=H.nx+1+k)=False:=fun k=>eq_false (by omega)
 have hne2:=jf (show id<H.nx+1+1+1+1+1+1+1+1+1+1+1+1+1+1+1+1 by omega)
 have hgc:=jJ (b:=b) hid
 have hcl2:∀ w,(H.set id (cL b w)).Closed:=fun w=>aj hcl eC
 have e8:(8:Int).toNat=8:=rfl
 have e30:(30:Int).toNat=30:=rfl
 have w1:∀ (u n:Nat) (k:Int),0<n→n≤100→0≤k→k≤100→IntKind.i64.wrap (k+((cv b u n:Nat):Int))=k+((cv b u n:Nat):Int):=fun u n k h1 h2 h3 h4=>by
  have:=c8 (b:=b) (v:=u) (n:=n) h1
  rw [wrap_i64 (by omega) (by omega)]
 have a28:∀ u,IntKind.i64.wrap (2+((cv b u 8:Nat):Int))=2+((cv b u 8:Nat):Int):=fun u=>w1 u 8 2 (by decide) (by decide) (by decide) (by decide)
 have a30:∀ u,IntKind.i64.wrap (12+((cv b u 30:Nat):Int))=12+((cv b u 30:Nat):Int):=fun u=>w1 u 30 12 (by decide) (by decide) (by decide) (by decide)
 have es1:qW=eG mu:=rfl
 have es2:od=eG kF:=rfl
 have es3:ql=eG mU:=rfl
 simp only [go_sem,bhq,Nat.reduceMod,Nat.reduceDiv,aC,aB,aE,aS,aD,aR,aO,aP,aQ,yaq,yar,yao,yap,aV,bE,es1,es2,es3,qO,cm hb jx,cm hb iz,cm hb jw,Cx,CH,CQ,Du,Dy,Dn,vA,hg,hgc,aT hb,bm,aL,bx,hne,hne2,e8,e30,a28,a30]
 (repeat with_reducible refine Yq ?_)
 refine Ed (by simp [bD]) (fun t ht=>?_) ?_
 ·simp only [bD,List.mem_cons,List.not_mem_nil,or_false] at ht
  rcases ht with rfl|rfl|rfl|rfl<;>simp only [ib,jp,dn,dt]<;>(try split)<;>simp
 simp only [aZ,aH,go_sem,bhq,Nat.reduceMod,Nat.reduceDiv,aC,aB,aE,aS,aD,aR,aO,aP,aQ,yaq,yar,yao,yap,aV,bE,es1,es2,es3,qO,cm hb jx,cm hb iz,cm hb jw,Cx,CH,CQ,Du,Dy,Dn,vA,hg,hgc,aT hb,bm,aL,bx,hne,hne2,e8,e30,a28,a30,cm hb (k7 _),yO,yB,md,iNq]
 refine ai (fun h1=>?_) (fun h1=>?_)
 all_goals
  simp only [aZ,aH,go_sem,bhq,Nat.reduceMod,Nat.reduceDiv,aC,aB,aE,aS,aD,aR,aO,aP,aQ,yaq,yar,yao,yap,aV,bE,es1,es2,es3,qO,cm hb jx,cm hb iz,cm hb jw,Cx,CH,CQ,Du,Dy,Dn,vA,hg,hgc,aT hb,bm,aL,bx,hne,hne2,e8,e30,a28,a30,cm hb (k7 _),yO,yB,md,iNq,tg2,tg3,tgl,k2l,k3l]
  try (repeat with_reducible refine Yq ?_)
  refine ai (fun h2=>?_) (fun h2=>?_)
 all_goals
  simp only [aZ,aH,go_sem,bhq,Nat.reduceMod,Nat.reduceDiv,aC,aB,aE,aS,aD,aR,aO,aP,aQ,yaq,yar,yao,yap,aV,bE,es1,es2,es3,qO,cm hb jx,cm hb iz,cm hb jw,Cx,CH,CQ,Du,Dy,Dn,vA,hg,hgc,aT hb,bm,aL,bx,hne,hne2,e8,e30,a28,a30,cm hb (k7 _),yO,yB,md,iNq,tg2,tg3,tgl,k2l,k3l]
  try (repeat with_reducible refine Yq ?_)
  refine bz (fun h3=>?_) (fun h3=>?_)
 all_goals
  try (repeat with_reducible refine Yq ?_)
  try refine ai (fun h4=>?_) (fun h4=>?_)
 all_goals
  try simp only [aZ,aH,go_sem,bhq,Nat.reduceMod,Nat.reduceDiv,aC,aB,aE,aS,aD,aR,aO,aP,aQ,yaq,yar,yao,yap,aV,bE,es1,es2,es3,qO,cm hb jx,cm hb iz,cm hb jw,Cx,CH,CQ,Du,Dy,Dn,vA,hg,hgc,aT hb,bm,aL,bx,hne,hne2,e8,e30,a28,a30,cm hb (k7 _),yO,yB,md,iNq,tg2,tg3,tgl,k2l,k3l]
  try (repeat with_reducible refine Yq ?_)
  refine bz (fun h5=>?_) (fun h5=>?_)
 all_goals
  try (repeat with_reducible refine Yq ?_)
  try refine ai (fun h6=>?_) (fun h6=>?_)
 all_goals
  try simp only [aZ,aH,go_sem,bhq,Nat.reduceMod,Nat.reduceDiv,aC,aB,aE,aS,aD,aR,aO,aP,aQ,yaq,yar,yao,yap,aV,bE,es1,es2,es3,qO,cm hb jx,cm hb iz,cm hb jw,Cx,CH,CQ,Du,Dy,Dn,vA,hg,hgc,aT hb,bm,aL,bx,hne,hne2,e8,e30,a28,a30,cm hb (k7 _),yO,yB,md,iNq,tg2,tg3,tgl,k2l,k3l]
  try (repeat with_reducible refine Yq ?_)
  replace h1:=qG h1
  replace h2:=qG h2
  replace h3:=qG h3
  replace h5:=qG h5
  try replace h4:=qG h4
  try replace h6:=qG h6
  refine iq 101 (.agg (qp S (H.nx+1+1+1+1+1+1+1+1+1+1+1+1+1+1+1+1+1))) ?_ ?_
  ·rw [← hS]
   simp only [Iy] at h1 h2 h3 h5
   try simp only [Iy] at h4
   try simp only [Iy] at h6
   simp [*,Fr.get,qp,bw,gFields,yS,cn,iT,lF,sZ,inL,AV.cells,gU,bN,bO,ce,dH,bY,gr,gW,ge,wkM,ll,sX]
  simp only [bhq,Nat.reduceMod,Nat.reduceDiv,aC,aB,aE,aS,aD,aR,aO,aP,aQ,yaq,yar,yao,yap,go_sem,qp]
  refine ⟨?_,?_,aa (bj (bj (bj (bj (bj (bj (bj (bj (bj (bj (bj (bj (bj (bj (bj (bj (bj (hcl2 _)))))))))))))))))) (kH nz),Js (by simp only [zle,gx,zlf];omega)⟩
  ·simp [qp,wk,wk2,wkL,wk1,wkM]
  ·rw [← hpos,hSr]
   repeat (with_reducible first|(refine Ko ?_ (by simp only [gx,zle,zlf]))|(refine Mq ?_ (by simp only [gx,zle,zlf]))|(refine J7 ?_ (by simp only [gx,zle,zlf]))|refine lPq ?_ _)
   exact lRq _
theorem ACalls.weakC {P:Program} {f:FuncId} {args:List AV} {H H' H1:AHeap} {x y:AV} (h:ACalls P f args H (.ret x) H') (hw:H.Closed→ae H' x H1 y) (hn:H.nx≤H1.nx):ACalls P f args H (.ret y) H1:=fun w γ vs hs hr=>by
 refine UponCall.mono (fun en w' hen=>?_) (h w γ vs hs hr)
 obtain ⟨γ1,h1,he,hend⟩:=hen
 obtain ⟨h2,h3,h4,h5⟩:=hw hs.closed
 cases en with
 |returned v=>exact ⟨γ1,h1.drop h3 h4,he.drop0 h3 hn,qk h1 h3 (show Rel w' γ1 H' x v from hend) h2 h5⟩
 |_=>exact hend.elim
def oQ:=eG fun b v=>(sN (bw b v).1,(bw b v).2)
theorem y3:EntOk Tryz.prog 8 (Ent.effect oQ):=by
 unfold oQ
 refine EntOk.effect fun args H K h=>?_
 unfold eG at h
 split at h
 rotate_left
 ·exact h.elim
 rename_i id
 obtain ⟨b,v,hg,hb,hv,hK⟩:=iQ h
 refine ⟨_,_,hK,?_⟩
 clear hK
 dsimp only
 have hid:=glq hg
 have hr3:∃ r0 r1 r2,(bw b v).1.roles=[r0,r1,r2]:=⟨_,_,_,rfl⟩
 obtain ⟨r0,r1,r2,hr3⟩:=hr3
 obtain ⟨x,H1,hx,hc⟩:=ok_CSchemaM.2.1 rfl [.ptr id 0] H (fun x H1=>x=.ret (.agg (qp (bw b v).1 (H.nx+1+1+1+1+1+1+1+1+1+1+1+1+1+1+1+1+1)))∧H1=((H.set id (cL b (bw b v).2)).hole.hole.hole.hole.hole.hole.hole.hole.hole.hole.hole.hole.hole.hole.hole.hole.hole).push (.cells (kw (bw b v).1.roles))) (by
  show onC (H.get id) fun b' v'=>AEnd.ret (.agg (qp (bw b' v').1 (H.nx+1+1+1+1+1+1+1+1+1+1+1+1+1+1+1+1+1)))=_∧((H.set id (cL b' (bw b' v').2)).hole.hole.hole.hole.hole.hole.hole.hole.hole.hole.hole.hole.hole.hole.hole.hole.hole).push (.cells (kw (bw b' v').1.roles))=_
  rw [hg,aT hb,show min (cp v 0) b.length=v from Nat.min_eq_left hv]
  exact ⟨rfl,rfl⟩)
 obtain ⟨rfl,rfl⟩:=hx
 refine hc.weakC (fun hcl=>⟨?_,?_,aj hcl eC,qH _⟩) (by rw [zlf];exact nrq _)
 ·have hrow:bA 6 3 (kw (bw b v).1.roles)=(bw b v).1.roles.map bX:=by
   have:=jd (sz:=6) (by decide) (fun r:SRole=>(bX r).cells) (fun r=>rfl) (bw b v).1.roles
   rw [hr3] at this ⊢
   exact this
  simp only [sN,aW,qp,wk,wk2,wkL]
  refine ⟨by simp [wk1,wkM],by simp [wk1,wkM],by simp [wk1,wkM],by simp [wk1,wkM],by simp [wk1,wkM],by simp [wk1,wkM],HG (by simp only [go_sem]) hrow (z8 (by simp only [zlf];omega)),by simp [wk1,wkM],rfl,rfl,trivial⟩
 ·exact lPq (ma (ma (ma (ma (ma (ma (ma (ma (ma (ma (ma (ma (ma (ma (ma (ma (ma (lRq _)))))))))))))))))) _
theorem Fm {n0:Nat} {fr:Fr} {H:AHeap} {K:Fr→AHeap→Prop} (id j mid off sz len:Nat) {cs ms:List AV} (L:List AV) (hg:H.get id=some (.cells cs)) (hj:cs[j]?=some (.ms mid off sz len)) (hne:id≠mid) (hm:aA H mid=some ms) (hL:bA sz len (ms.drop off)=L) (hlt:(AV.slice .any sz L).lt H.nx)
 (h:∀ H2:AHeap,H2.get id=some (.cells (cs.set j (.slice .any sz L)))→(∀ l o,l≠id→l≠mid→H.get l=some o→H2.get l=some o)→H2.nx=H.nx→K fr H2):ii n0 K fr H:=by
 refine BZ id j mid off sz len L (ax hg) hj hne hm hL hlt (h _ ?_ (fun l o h1 h2 hx=>?_) rfl)
 ·exact AHeap.get_set_same _ _ (show id<(H.del mid).nx by rw [fB];exact glq hg)
 ·rw [AHeap.get_set_ne _ _ h1,g9,if_neg h2];exact hx
def nu:List AV→AHeap→(AV→Prop)→Prop
 |[],_,K=>K (.bool true)
 |_,_,_=>False
theorem Av:EntOk Tryz.prog 13 (Ent.pure nu):=by
 refine Ype fun _ H K h=>?_
 unfold nu at h
 split at h
 rotate_left
 ·exact h.elim
 refine ⟨_,h,?_⟩
 clear h
 have q1:=Lp
 have q2:=Ll
 have q3:=K3
 have q4:=LK
 have q5:=Lh
 have q6:=KJ
 obtain ⟨r0,r1,r2,hr3⟩:∃ r0 r1 r2,(bw [] 0).1.roles=[r0,r1,r2]:=⟨_,_,_,rfl⟩
 obtain ⟨r2',hr2'⟩:∃ r2':SRole,{ r2 with grants:=[⟨1,true,false,[true]⟩] }=r2':=⟨_,rfl⟩
 have hbS:bgS={ (bw [] 0).1 with roles:=[r0,r1,r2'] }:=by
  unfold bgS Kh
  rw [hr3,← hr2']
  rfl
 have hro:=vG (b:=[]) (v:=0)
 have hal:=AD (sall_gen (b:=[])) (rs:=[r0,r1,r2']) (by simp)
 have hsr:SRol bgS:=by
  rw [hbS]
  refine ⟨hal.ck.sl,fun r hr=>?_⟩
  have h0:=(hro.rl sall_gen.ck.sl).gl
  rw [hr3] at h0
  simp only [List.mem_cons,List.not_mem_nil,or_false] at hr
  rcases hr with rfl|rfl|rfl
  ·exact h0 _ (by simp)
  ·exact h0 _ (by simp)
  ·have:=(h0 r2 (by simp)).2.1
   rw [← hr2']
   exact ⟨by simp,this,fun g hg=>by rw [List.mem_singleton.1 hg];decide⟩
 have hsp:SPer bgS:=⟨by rw [hbS];exact hal,hsr⟩
 have hbc:aW bgS=aW { (bw [] 0).1 with roles:=[r0,r1,r2'] }:=by rw [hbS]
 have hea:EAll bgE:=by
  have hm:∀ m∈bgE.ms,MOk m∧m.pfx<9223372036854775808:=fun m hm=>by
   rw [List.mem_singleton.1 hm];exact ⟨⟨by decide,by decide,by decide⟩,by decide⟩
  have h1:EOk bgE:=⟨by decide,by decide,fun m h=>(hm m h).1⟩
  exact ⟨h1,⟨by decide,by decide⟩,⟨by decide,fun m h=>(hm m h).2,by decide,fun m h=>(hm m h).1,by decide⟩⟩
 have hrid:r2'.id=r2.id∧r2'.name=r2.name∧r2'.actions=r2.actions∧r2'.quota=r2.quota∧r2'.audit=r2.audit∧r2'.grants=[⟨1,true,false,[true]⟩]:=by rw [← hr2'];exact ⟨rfl,rfl,rfl,rfl,rfl,rfl⟩
 clear hro hal
 generalize hS:(bw [] 0).1=S at *
 have hS':∀ r,AV.agg (qp (bw [] 0).1 r)=.agg (qp S r):=fun r=>by rw [hS]
 refine ACalls.fW au (tCq Cj (tCq ok_CSchemaM (tCq uk (tCq wI (tCq zY tNq))))) Tryz.func13 [.tmp 0] (nrq _) (T:=aq [(3,[[1,1]]),(4,[[1]])]) (h:=fun hcl hlt=>?_)
 clear hlt
 have hze:zod ([]:List UInt8) 0=cL [] (cp 0 0):=ua
 simp only [go_sem,qQ]
 refine ⟨[],⟨rfl,by omega⟩,?_⟩
 simp only [aZ,aH,bhq,Nat.reduceMod,Nat.reduceDiv,aC,aB,aE,aS,aD,aR,aO,aP,aQ,yaq,yar,yao,yap,go_sem,qQ,oH,yas,hze,aT (b:=[]) (by decide),yba,Nat.min_zero,hS,qp,hr3,kw,bX,List.flatMap_cons,List.flatMap_nil,yal,yak]
 refine ⟨⟨by decide,by decide⟩,?_⟩
 refine di (H.nx+1+1+1+1+1+1+1+1+1+1+1+1+1+1+1+1+1+1) ((bX r0).cells++((bX r1).cells++(bX r2').cells)) (by simp only [go_sem];rfl) ?_ ?_
 ·simp [hrid,bX,inL,boL,bb,AV.cells,gU,bN,bO,ce,dH,bY,gr,gW,ge,wkM,ll,sX]
 have hrow:bA 6 3 (((bX r0).cells++((bX r1).cells++(bX r2').cells)).drop 0)=[r0,r1,r2'].map bX:=by
  have:=jd (sz:=6) (by decide) (fun r:SRole=>(bX r).cells) (fun r=>rfl) [r0,r1,r2']
  exact this
 refine Fm (H.nx+1+1+1+1+1+1+1+1+1+1+1+1+1+1+1+1+1+1+1) 6 (H.nx+1+1+1+1+1+1+1+1+1+1+1+1+1+1+1+1+1+1) 0 6 3 ([r0,r1,r2'].map bX) (by simp only [go_sem];rfl) rfl (by omega) (by simp only [go_sem]) hrow (a8 nz) fun H2 hg2 hk2 hn2=>?_
 have hle2:H.Le H2:=⟨by rw [hn2];simp only [zle,gx,zlf];omega,fun i o ho=>by
  have hi:=glq ho
  refine hk2 i o (by omega) (by omega) ?_
  rw [AHeap.get_set_ne _ _ (by omega)]
  exact AHeap.Le.get (by repeat (with_reducible first|refine lPq ?_ _|refine ma ?_|exact lRq _)) i o ho⟩
 have hcs2:=ax hg2
 have hl2:=glq hg2
 clear hk2
 have hcs2':aA H2 (H.nx+1+1+1+1+1+1+1+1+1+1+1+1+1+1+1+1+1+1+1)=some (aW bgS):=by rw [hcs2,hbc];rfl
 have hS2:(H.nx+1+1+1+1+1+1+1+1+1+1+1+1+1+1+1+1+1+1+1)<H2.nx:=hl2
 generalize hsid:(H.nx+1+1+1+1+1+1+1+1+1+1+1+1+1+1+1+1+1+1+1)=sid at *
 have hn0:(sid=H2.nx)=False:=eq_false (by omega)
 have hn1:(sid=H2.nx+1)=False:=eq_false (by omega)
 have hn3:(sid=H2.nx+1+1)=False:=eq_false (by omega)
 clear hn2
 simp only [aW] at hcs2'
 have z1:(0:Nat)/2^64=0:=rfl
 have hbE:bgE.ms.map aI=[.agg [.bool true,.int .u64 0,.int .u64 0,.int .u64 0,.int .u64 0,.int .i64 0,.int .u64 0,.int .u64 0]]:=rfl
 simp only [aZ,aH,bhq,Nat.reduceMod,Nat.reduceDiv,aC,aB,aE,aS,aD,aR,aO,aP,aQ,yaq,yar,yao,yap,go_sem]
 refine di (H2.nx+1) [.int .i64 1,.slice .any 8 (bgE.ms.map aI),.int .i64 0,.int .i64 2,.slice .any 2 []] (by simp only [go_sem];rfl) ?_ ?_
 ·rw [hbE]
  simp [AV.cells,gU,bN,bO,ce,dH,bY,gr,gW,ge,wkM,ll,sX]
 obtain ⟨F,hF⟩:∃ F,gd bgS 7 bgE=F:=⟨_,rfl⟩
 rw [hF] at q3 q4
 obtain ⟨m,hm1,hm2⟩:∃ m,F.ms=[m]∧m.present=true:=by
  obtain ⟨a1,a2⟩:=q4
  match hf:F.ms,a1 with
  |[m],_ =>
   rw [hf] at a2
   exact ⟨m,rfl,by simpa using a2⟩
 simp only [aZ,aH,bhq,Nat.reduceMod,Nat.reduceDiv,aC,aB,aE,aS,aD,aR,aO,aP,aQ,yaq,yar,yao,yap,go_sem,hcs2',hn0,hn1,hn3,fP]
 try (repeat with_reducible refine Yq ?_)
 refine ⟨bgS,bgE,⟨rfl,rfl,hsr,by decide,by decide,by decide⟩,?_⟩
 rw [hF]
 simp only [aZ,aH,bhq,Nat.reduceMod,Nat.reduceDiv,aC,aB,aE,aS,aD,aR,aO,aP,aQ,yaq,yar,yao,yap,go_sem,hcs2',hn0,hn1,hn3,dZ,aK,ka]
 try (repeat with_reducible refine Yq ?_)
 refine ⟨bgS,⟨rfl,hsr⟩,?_⟩
 rw [q1]
 simp only [aZ,aH,bhq,Nat.reduceMod,Nat.reduceDiv,aC,aB,aE,aS,aD,aR,aO,aP,aQ,yaq,yar,yao,yap,go_sem,hcs2',hn0,hn1,hn3,dZ,aK,ka]
 try (repeat with_reducible refine Yq ?_)
 refine ⟨bgS,⟨rfl,hsr⟩,?_⟩
 rw [q2]
 simp only [aZ,aH,bhq,Nat.reduceMod,Nat.reduceDiv,aC,aB,aE,aS,aD,aR,aO,aP,aQ,yaq,yar,yao,yap,go_sem,hcs2',hn0,hn1,hn3,dZ,aK,q3,hm1,hm2,qs,aI,bq,vc,yae,yaf,yal,yak,yaz,yba]
 refine bz (fun _=>?_) (fun h=>absurd h (by decide))
 refine bz (fun _=>?_) (fun h=>absurd h (by decide))
 refine ⟨⟨by decide,by decide⟩,bgS,1,bgE,⟨rfl,rfl,hsp,hea⟩,?_⟩
 rw [q5]
 refine bz (fun _=>?_) (fun h=>absurd h (by decide))
 refine ⟨bgS,1,bgE,⟨rfl,rfl,hsp,hea⟩,?_⟩
 rw [q6]
 refine ⟨rfl,?_,hcl,by simp [zng]⟩
 repeat (with_reducible first|refine lPq ?_ _|exact hle2)
theorem Iu:ti Tryz.prog 44=some ⟨.struct [(0,3,false),(1,26,false)],6,80,.agg [.int .i64 0,.int .i64 0,.slice .nil 1 [],.int .i64 0,.int .i64 0,.slice .nil 1 []]⟩:=by kernel_rfl
theorem Gz:ti Tryz.prog 49=some ⟨.slice 44,1,24,.slice .nil 1 []⟩:=by kernel_rfl
attribute [go_sem] Iu Gz
theorem Br {S:Sch} (hR:RolOk S) (hG:GenS S) {m:Int} {e:SEntry} (h:GE S (dT S m) e):jT S e.table=some (dT S m)∧e.ms≠[]∧e.ms.length≤3:=by
 have ht:=kh (S:=S) (n:=m) hG.t1
 have hk:=hR.tk _ ht
 have hl:=h.ml
 refine ⟨by rw [h.tb];exact hR.tu _ ht,fun h0=>?_,by omega⟩
 rw [h0] at hl
 simp at hl
 omega
theorem FV {n0:Nat} {fr:Fr} {H:AHeap} {K:Fr→AHeap→Prop} (id j mid off sz len:Nat) {cs ms:List AV} (L:List AV) (hg:H.get id=some (.cells cs)) (hj:cs[j]?=some (.ms mid off sz len)) (hne:id≠mid) (hm:aA H mid=some ms) (hL:bA sz len (ms.drop off)=L) (hlt:(AV.slice .any sz L).lt H.nx) (hcl:H.Closed)
 (h:∀ H2:AHeap,H2.get id=some (.cells (cs.set j (.slice .any sz L)))→(∀ l o,l≠id→l≠mid→H.get l=some o→H2.get l=some o)→H2.nx=H.nx→H2.Closed→K fr H2):ii n0 K fr H:=by
 refine BZ id j mid off sz len L (ax hg) hj hne hm hL hlt (h _ ?_ (fun l o h1 h2 hx=>?_) rfl ?_)
 ·exact AHeap.get_set_same _ _ (show id<(H.del mid).nx by rw [fB];exact glq hg)
 ·rw [AHeap.get_set_ne _ _ h1,g9,if_neg h2];exact hx
 ·refine aj (ay hcl) (ltL_iff.2 fun i hi=>?_)
  rw [List.getElem_set]
  split
  ·exact hlt
  ·exact hcl id cs hg i (by simpa using hi)
theorem th {H:AHeap} {i:Nat} {cs:List AV} (h:aA H i=some cs):H.get i=some (.cells cs):=by
 unfold aA at h
 split at h
 ·rename_i cs' e;cases h;exact e
 ·cases h
theorem ED:ti Tryz.prog 36=some ⟨.slice 65,1,24,.slice .nil 1 []⟩:=by kernel_rfl
attribute [go_sem] ED
def bmT (ks:List Bool) (a b:List SMatch) (k:Nat):List SMatch:=b.mapIdx fun i m=>if i<k∧n9 ks i=true then a.getD i m else m
theorem sc {ks:List Bool} {a b:List SMatch} {k:Nat}:(bmT ks a b k).length=b.length:=by simp [bmT]
theorem GY {ks:List Bool} {a b:List SMatch}:bmT ks a b 0=b:=by
 apply List.ext_getElem
 ·simp [bmT]
 ·intro i h1 h2;simp [bmT]
theorem Hl {ks:List Bool} {a b:List SMatch} {k:Nat} (h:n9 ks k=false):bmT ks a b (k+1)=bmT ks a b k:=by
 apply List.ext_getElem
 ·simp [bmT]
 ·intro i h1 h2
  simp only [bmT,List.getElem_mapIdx]
  by_cases e:i=k
  ·subst e;simp [h]
  ·have:(i<k+1)=(i<k):=propext ⟨fun _=>by omega,fun _=>by omega⟩
   simp only [this]
theorem Jl {ks:List Bool} {a b:List SMatch} {k:Nat} {m:SMatch} (h:n9 ks k=true) (ha:a[k]?=some m):(bmT ks a b k).set k m=bmT ks a b (k+1):=by
 apply List.ext_getElem
 ·simp [bmT]
 ·intro i h1 h2
  rw [List.getElem_set]
  simp only [bmT,List.getElem_mapIdx]
  by_cases e:k=i
  ·subst e;simp [h,gEq,ha]
  ·rw [if_neg e]
   have:(i<k+1)=(i<k):=propext ⟨fun _=>by omega,fun _=>by omega⟩
   simp only [this]
theorem Ib {ks:List Bool} {a b:List SMatch} (hl:a.length=b.length):iB ks (bmT ks a b b.length) (bmT ks a b b.length).length=iB ks a a.length:=by
 apply List.ext_getElem
 ·simp [iB,bmT,hl]
 ·intro i h1 h2
  have hi:i<b.length:=by simpa [iB,bmT] using h1
  simp only [iB,List.getElem_mapIdx,bmT,List.length_mapIdx]
  cases hv:n9 ks i
  ·simp [hi,hl]
  ·simp [hi,hl,gEq,gQq (show i<a.length by omega)]
theorem vu {S:Sch} {role:Int} {r:SRole} {e f x:SEntry} (hr:gL S role=some r) (hl:e.ms.length=f.ms.length) (ht:x.table=e.table) (hp:x.prio=e.prio) (hm:x.ms=bmT ((grF S role e.table).getD eT).keys e.ms f.ms f.ms.length)
 (ha:x.act=if (r.actions.contains e.act||r.actions.contains f.act)=true then e.act else f.act) (hg:x.args=if (r.actions.contains e.act||r.actions.contains f.act)=true then e.args else f.args):gd S role x=gd S role e:=by
 have hy:∀ n,tn S role n=r.actions.contains n:=fun n=>by unfold tn;rw [hr]
 unfold gd
 rw [ht,hp,hm,Ib hl,hy,hy]
 cases h1:r.actions.contains e.act
 ·cases h2:r.actions.contains f.act
  ·rw [h1,h2] at ha
   rw [show x.act=f.act from ha,h2]
   simp
  ·rw [h1,h2] at ha
   rw [show x.act=e.act from ha,h1]
   try simp
 ·rw [h1] at ha hg
  rw [show x.act=e.act from ha,show x.args=e.args from hg,h1]
  try simp
def uV (l:List Int) (k:Nat) (n:Int):Bool:=(l.take k).contains n
def pd:List AV→AHeap→(AV→Prop)→Prop
 |[.slice _ 1 l1,.slice _ 1 l2],_,K=>(isB l1∧isB l2)∧K (.bool true)
 |_,_,_=>False
theorem ok_RolesBlind:EntOk Tryz.prog 5 (Ent.pure pd):=by
 refine Ype fun _ H K h=>?_
 unfold pd at h
 split at h
 rotate_left
 ·exact h.elim
 rename_i m1 l1 m2 l2
 obtain ⟨⟨c1,c2⟩,hK⟩:=h
 refine ⟨_,hK,?_⟩
 clear hK
 obtain ⟨x1,rfl⟩:=wy c1
 obtain ⟨x2,rfl⟩:=wy c2
 clear c1 c2
 obtain ⟨B1,hB1⟩:∃ B1,x1.take (min (x1.length:Int) 120).toNat=B1:=⟨_,rfl⟩
 obtain ⟨B2,hB2⟩:∃ B2,x2.take (min (x2.length:Int) 80).toNat=B2:=⟨_,rfl⟩
 have hL1:B1.length≤1000000:=by rw [← hB1,List.length_take];omega
 have hL2:B2.length≤1000000:=by rw [← hB2,List.length_take];omega
 have hG:=Bz B1 0
 have hA:=sall_gen (b:=B1)
 have hR:=vG (b:=B1) (v:=0)
 obtain ⟨r0,r1,r2,hr3,hi0,hi1,hi2⟩:∃ r0 r1 r2,(bw B1 0).1.roles=[r0,r1,r2]∧r0.id=1∧r1.id=2∧r2.id=7:=⟨_,_,_,rfl,rfl,rfl,rfl⟩
 generalize hS:bw B1 0=SS at *
 obtain ⟨S,w1⟩:=SS
 dsimp only at hG hA hR hr3
 have hsr:=hR.rl hA.ck.sl
 have hz1:zod B1 0=cL B1 (cp 0 0):=ua
 have hz2:zod B2 0=cL B2 (cp 0 0):=ua
 refine ACalls.fW au (tCq Cj (tCq y3 (tCq yJ (tCq gQ (tCq En (tCq ur (tCq D8 (tCq uk (tCq AF (tCq Av tNq)))))))))) Tryz.func5 [.tmp 4] (nrq _) (T:=aq [(6,[[],[],[],[1],[],[],[],[1,3,5],[],[],[1,3,5,7,8,9],[1,3,5,7,8,9]]),(11,[[],[],[],[],[2],[],[4],[],[1,2,4,6]]),(20,[[],[],[],[],[],[],[],[],[],[1,4,7]]),(29,[[],[],[],[],[],[1],[],[1,3]]),(30,[[],[],[],[0,2],[],[],[],[0,2,3,4,6],[0,2,3,4,6,7]]),(806,[[8,26],[9,26]]),(15,[[0,6]]),(22,[[1]])]) (h:=fun hcl hlt=>?_)
 clear hlt
 simp only [go_sem,qQ]
 refine ⟨x1,⟨rfl,by omega⟩,?_⟩
 rw [hB1,hz1]
 have hSch:oQ=eG fun b v=>(sN (bw b v).1,(bw b v).2):=rfl
 simp only [aZ,aH,bhq,Nat.reduceMod,Nat.reduceDiv,aC,aB,aE,aS,aD,aR,aO,aP,aQ,yaq,yar,yao,yap,go_sem,qQ,hSch,eG,aT hL1,Nat.zero_min,cp0,hS,sN,aW]
 refine ⟨x2,⟨rfl,by omega⟩,?_⟩
 rw [hB2,hz2]
 try simp only [aZ,aH,bhq,Nat.reduceMod,Nat.reduceDiv,aC,aB,aE,aS,aD,aR,aO,aP,aQ,yaq,yar,yao,yap,go_sem]
 obtain ⟨HB,hHB⟩:∃ HB:Nat→AHeap,HB=fun w=>((H.push (cL B1 w1)).push (cL B2 (cp w 0))).push (.cells (aW S)):=⟨_,rfl⟩
 have hclB:∀ w,(HB w).Closed:=fun w=>by
  rw [hHB]
  exact aa (aa (aa hcl eC) eC) (wH S)
 refine az (A:=Nat × Nat) (fun k=>[(5,.ptr (H.nx+1+1) 0),(6,.ptr (H.nx+1) 0),(7,.int .i64 (k.1:Int))]) (fun k=>HB k.2) (fun k=>k.1≤6) (fun k=>6 - k.1) (0,0) (Nat.zero_le _) ?_ fun k hk=>?_
 ·refine ⟨by rw [hHB];simp only [zkq,zkv,zle];omega,by rw [hHB];exact lRq _,hclB _,?_,?_⟩
  ·rw [hHB]
   simp [ltF,zle,znn,znf]
   try omega
  ·simp [aJ,wk2,wk1,wkM,Fr.get]
 obtain ⟨k,w⟩:=k
 dsimp only at hk ⊢
 have hHw:HB w=((H.push (cL B1 w1)).push (cL B2 (cp w 0))).push (.cells (aW S)):=by rw [hHB]
 rw [hHw]
 by_cases hk6:k<6
 rotate_left
 ·have d:decide ((k:Int)<6)=false:=dfq (by omega)
  simp only [aZ,aH,bhq,Nat.reduceMod,Nat.reduceDiv,aC,aB,aE,aS,aD,aR,aO,aP,aQ,yaq,yar,yao,yap,go_sem,d,nu]
  simp (disch:=first|exact Zd|omega) [↓zmo,beq,ybc,ybd,ybe,ae,wk,wk2,wk1,wkM,wkL,ah,ybf,hcl]
  first|done|repeat first|exact .refl _|refine .push ?_ _
 have d:decide ((k:Int)<6)=true:=dtq (by omega)
 have ei:IntKind.i64.wrap ((k:Int)+1)=((k+1:Nat):Int):=by rw [wrap_i64]<;>omega
 simp only [aZ,aH,bhq,Nat.reduceMod,Nat.reduceDiv,aC,aB,aE,aS,aD,aR,aO,aP,aQ,yaq,yar,yao,yap,go_sem,d,sv]
 refine ⟨B2,((min w B2.length:Nat):Int),rfl,?_⟩
 refine ai (fun hcc=>?_) (fun hcc=>?_)
 rotate_left
 ·simp only [aZ,aH,bhq,Nat.reduceMod,Nat.reduceDiv,aC,aB,aE,aS,aD,aR,aO,aP,aQ,yaq,yar,yao,yap,go_sem,nu]
  simp (disch:=first|exact Zd|omega) [↓zmo,beq,ybc,ybd,ybe,ae,wk,wk2,wk1,wkM,wkL,ah,ybf,hcl]
  first|done|repeat first|exact .refl _|refine .push ?_ _
 clear hcc
 have e4:(4:Int).toNat=4:=rfl
 have hcv:=c8 (b:=B2) (v:=cp w 0) (n:=4) (by decide)
 simp only [aZ,aH,bhq,Nat.reduceMod,Nat.reduceDiv,aC,aB,aE,aS,aD,aR,aO,aP,aQ,yaq,yar,yao,yap,go_sem,aV,aT hL2,e4,aW,bm,aL,bx,cp0]
 refine ⟨⟨by decide,by decide⟩,?_⟩
 try simp only [aZ,aH,bhq,Nat.reduceMod,Nat.reduceDiv,aC,aB,aE,aS,aD,aR,aO,aP,aQ,yaq,yar,yao,yap,go_sem,aV,aT hL2,e4,aW,bm,aL,bx,cp0,tO]
 have hcv:cv B2 w 4<4:=c8 (by decide)
 generalize cv B2 w 4=q at *
 have hst:∀ m v,(pp S m B2 v)=(dZ (iw S B2 v m).1,(iw S B2 v m).2):=fun _ _=>rfl
 refine ⟨S,⟨rfl,hG,by omega,by omega⟩,?_⟩
 rw [cm hL2 (x9 _ _),hst]
 have hE1:=wm hG (b:=B2) (v:=w+1) (n:=(q:Int))
 generalize iw S B2 (w+1) (q:Int)=U1 at *
 obtain ⟨e,v1⟩:=U1
 dsimp only at hE1
 try simp only [aZ,aH,bhq,Nat.reduceMod,Nat.reduceDiv,aC,aB,aE,aS,aD,aR,aO,aP,aQ,yaq,yar,yao,yap,go_sem,dZ,aK]
 refine ⟨S,⟨rfl,hG,by omega,by omega⟩,?_⟩
 rw [cm hL2 (x9 _ _),hst]
 have hE2:=wm hG (b:=B2) (v:=v1) (n:=(q:Int))
 generalize iw S B2 v1 (q:Int)=U2 at *
 obtain ⟨f0,v2⟩:=U2
 dsimp only at hE2
 obtain ⟨f,hf⟩:∃ f:SEntry,f={ f0 with prio:=e.prio }:=⟨_,rfl⟩
 have hfC:[AV.int .i64 f0.table,.slice .any 8 (f0.ms.map aI),.int .i64 e.prio,.int .i64 f0.act,.slice .any 2 (f0.args.map vv)]=aK f:=by rw [hf];rfl
 simp only [aK] at hfC
 simp only [aZ,aH,bhq,Nat.reduceMod,Nat.reduceDiv,aC,aB,aE,aS,aD,aR,aO,aP,aQ,yaq,yar,yao,yap,go_sem,dZ,aK,hfC]
 obtain ⟨HI,hHI⟩:∃ HI,HI=((((((H.push (cL B1 w1)).push (cL B2 v2)).push (.cells (aW S))).push (.cells (aK e))).push (.cells (aK f))).push (.buf 1 2)):=⟨_,rfl⟩
 have hclI:HI.Closed:=by
  rw [hHI]
  exact ag (aa (aa (aa (aa (aa hcl eC) eC) (wH S)) (zM e)) (zM f))
 have hIn:HI.nx=H.nx+1+1+1+1+1+1:=by rw [hHI];rfl
 have hI2:aA HI (H.nx+1+1)=some (aW S):=by rw [hHI];simp only [go_sem]
 have hI3:aA HI (H.nx+1+1+1)=some (aK e):=by rw [hHI];simp only [go_sem]
 have hI4:aA HI (H.nx+1+1+1+1)=some (aK f):=by rw [hHI];simp only [go_sem]
 have hleI:H.Le HI:=by rw [hHI];repeat (with_reducible first|refine lPq ?_ _|exact lRq _)
 have hleB:(HB v2).Le HI:=by rw [hHB,hHI];exact lPq (lPq (lPq (lRq _) _) _) _
 have hclW:=hclB v2
 refine az (A:=Nat) (fun i=>[(5,.ptr (H.nx+1+1) 0),(6,.ptr (H.nx+1) 0),(7,.int .i64 (k:Int)),(9,.ptr (H.nx+1+1+1) 0),(10,.ptr (H.nx+1+1+1+1) 0),(48,.slice .any 1 [.int .i64 2,.int .i64 7]),(49,.int .i64 2),(50,.int .i64 (i:Int))]) (fun _=>HI) (fun i=>i≤2) (fun i=>2 - i) 0 (Nat.zero_le _) ?_ fun i hi=>?_
 ·refine ⟨by rw [hHI];simp only [zkq,zkv,zle];omega,by rw [hHI];exact lRq _,hclI,?_,?_⟩
  ·simp [ltF,hIn,znn,znf,aF,znu,znv]
   try omega
  ·simp [aJ,wk2,wk1,wkM,Fr.get]
 clear hHI
 simp only [aK,aW] at hI2 hI3 hI4
 simp only [go_sem]
 refine ai (fun hc2=>?_) (fun hc2=>?_)
 rotate_left
 ·simp only [go_sem,ei]
  refine ⟨(k+1,v2),by dsimp only;omega,by dsimp only;omega,?_⟩
  refine ⟨by rw [hHB];simp only [zkq,zkv,zle];omega,hleB,hclW,?_,?_⟩
  ·rw [hHB]
   simp [ltF,zle,znn,znf]
   try omega
  ·simp [aJ,wk2,wk1,wkM,Fr.get]
 have hi':i<2:=by simp at hc2;omega
 have ei2:IntKind.i64.wrap ((i:Int)+1)=((i+1:Nat):Int):=by rw [wrap_i64]<;>omega
 obtain ⟨role,rr,hgr,hrf⟩:∃ (role:Int) (rr:SRole),[AV.int .i64 2,.int .i64 7].getD i .junk=.int .i64 role∧gL S role=some rr:=by
  match i,hi' with
  |0,_=>exact ⟨2,r1,rfl,by simp [gL,hr3,hi0,hi1]⟩
  |1,_=>exact ⟨7,r2,rfl,by simp [gL,hr3,hi0,hi1,hi2]⟩
 have n2:=jf (show H.nx+1+1<HI.nx by omega)
 have n3:=jf (show H.nx+1+1+1<HI.nx by omega)
 have n4:=jf (show H.nx+1+1+1+1<HI.nx by omega)
 simp only [aZ,aH,bhq,Nat.reduceMod,Nat.reduceDiv,aC,aB,aE,aS,aD,aR,aO,aP,aQ,yaq,yar,yao,yap,go_sem,hgr,hI2,hI3,hI4,n2,n3,n4,iNq,yaz,yba,ne]
 refine ⟨by omega,S,⟨rfl,hA.ck.sl⟩,?_⟩
 rcases gg (q:=fun x:SRole=>x.id==role) (l:=S.roles) with ⟨b1,b2⟩|⟨j,rr',b1,hjl,b3,b2,_⟩
 ·have:gL S role=none:=b2
  rw [hrf] at this;cases this
 have:rr'=rr:=by
  have h0:gL S role=some rr':=b2
  rw [hrf] at h0;cases h0;rfl
 subst this
 rw [b1]
 have hgR:=aU (f:=bX) (l:=S.roles) (k:=j) (x:=rr') b3
 try simp only [aZ,aH,bhq,Nat.reduceMod,Nat.reduceDiv,aC,aB,aE,aS,aD,aR,aO,aP,aQ,yaq,yar,yao,yap,go_sem,hgR,hI2,hI3,hI4,n2,n3,n4,iNq,ybb,bX,oV]
 refine ⟨⟨by omega,by omega⟩,.inr ⟨S,⟨rfl,hA.ck.sl⟩,by rw [b1]⟩,?_⟩
 try simp only [aZ,aH,bhq,Nat.reduceMod,Nat.reduceDiv,aC,aB,aE,aS,aD,aR,aO,aP,aQ,yaq,yar,yao,yap,go_sem,hI2,hI3,hI4,n2,n3,n4,oV]
 refine ⟨S,⟨rfl,hsr⟩,?_⟩
 have hel:=hE1.ml
 have hfl':=hE2.ml
 have hfm:f.ms=f0.ms:=by rw [hf]
 have hft:f.table=e.table:=by rw [hf];exact hE2.tb.trans hE1.tb.symm
 obtain ⟨t1,t2,t3⟩:=Br hR hG hE1
 have heA:=Cm hG hE1
 have hfA:=Cm hG hE2
 have hlen:e.ms.length=f.ms.length:=by rw [hfm,hel,hfl']
 have hfne:f.ms≠[]:=by rw [hfm];exact (Br hR hG hE2).2.1
 cases hgr':grF S role e.table with
 |none =>
  try simp only [aZ,aH,bhq,Nat.reduceMod,Nat.reduceDiv,aC,aB,aE,aS,aD,aR,aO,aP,aQ,yaq,yar,yao,yap,go_sem,Option.getD_none,yax,bb,eT,Bool.not_false,ei2]
  refine ⟨i+1,by omega,by omega,?_⟩
  refine ⟨by (try simp only [zkq,zkv]);omega,by repeat first|exact .refl _|refine .push ?_ _,hclI,?_,?_⟩
  ·simp [ltF,hIn,znn,znf,aF,znu,znv]
   try omega
  ·simp [aJ,wk2,wk1,wkM,Fr.get]
 |some g =>
 have hkl:=hR.gk hgr' t1
 try simp only [aZ,aH,bhq,Nat.reduceMod,Nat.reduceDiv,aC,aB,aE,aS,aD,aR,aO,aP,aQ,yaq,yar,yao,yap,go_sem,Option.getD_some,yaw,bb,Bool.not_true]
 cases hgR':g.read
 ·try simp only [aZ,aH,bhq,Nat.reduceMod,Nat.reduceDiv,aC,aB,aE,aS,aD,aR,aO,aP,aQ,yaq,yar,yao,yap,go_sem,Bool.not_false,ei2]
  refine ⟨i+1,by omega,by omega,?_⟩
  refine ⟨by (try simp only [zkq,zkv]);omega,by repeat first|exact .refl _|refine .push ?_ _,hclI,?_,?_⟩
  ·simp [ltF,hIn,znn,znf,aF,znu,znv]
   try omega
  ·simp [aJ,wk2,wk1,wkM,Fr.get]
 have hie:(List.map aI f.ms).isEmpty=false:=by
  cases hm:f.ms with
  |nil=>exact absurd hm hfne
  |cons x y=>rfl
 have hone:∀ z∈List.map aI f.ms,bf z.cells=true:=fun z hz=>by
  obtain ⟨x,_,rfl⟩:=List.mem_map.1 hz;rfl
 simp only [aZ,aH,bhq,Nat.reduceMod,Nat.reduceDiv,aC,aB,aE,aS,aD,aR,aO,aP,aQ,yaq,yar,yao,yap,go_sem,hI2,hI3,hI4,n2,n3,n4,Bool.not_true,hie,ybb]
 refine ⟨⟨by omega,by omega,hone⟩,by simpa using hfne,fun kk=>?_⟩
 obtain ⟨J,hJ⟩:∃ J,J=List.replicate kk AV.junk:=⟨_,rfl⟩
 have hJl:∀ n,ltL n J:=fun n=>by
  rw [hJ]
  exact ltL_iff.2 fun j hj=>by rw [List.getElem_replicate,AV.lt]<;>simp
 obtain ⟨HL,hHL⟩:∃ HL:Nat→AHeap,HL=fun k=>(((HI.push (.cells [.int .i64 rr'.id,.str rr'.name,.slice .any 4 (rr'.grants.map bb),.slice .any 1 (inL rr'.actions),.int .i64 rr'.quota,.bool rr'.audit])).push (.cells [.int .i64 g.table,.bool true,.bool g.write,.slice .any 1 (boL g.keys)])).push (.cells [.int .i64 f.table,.ms (HI.nx+1+1+1) 0 8 f.ms.length,.int .i64 f.prio,.int .i64 f.act,.slice .any 2 (f.args.map vv)])).push (.cells ((bmT g.keys e.ms f.ms k).flatMap bq++J)):=⟨_,rfl⟩
 have hLn:∀ k,(HL k).nx=HI.nx+1+1+1+1:=fun k=>by rw [hHL];rfl
 have hclL:∀ k,(HL k).Closed:=fun k=>by
  have h2:=hLn k
  unfold AHeap.Closed
  rw [h2,hHL]
  refine ClN.cells (ClN.cells (ClN.cells (ClN.cells (ClN.of hclI (by omega)) (IB rr')) ?_) ?_) (BF (kH (f:=aI) dO) (hJl _))
  ·simp [znu,znv,znf,zng,tQ]
  ·simp [znu,znv,znf,znp,aF,kD]
 have hfl:List.flatMap AV.cells (List.map aI f.ms)=(bmT g.keys e.ms f.ms 0).flatMap bq:=by rw [GY];exact tI f.ms
 rw [hfl,← hJ]
 refine az (A:=Nat) (fun j=>[(5,.ptr (H.nx+1+1) 0),(6,.ptr (H.nx+1) 0),(7,.int .i64 (k:Int)),(9,.ptr (H.nx+1+1+1) 0),(10,.ptr (H.nx+1+1+1+1) 0),(12,.int .i64 role),(13,.ptr HI.nx 0),(14,.ptr (HI.nx+1) 0),(16,.ptr (HI.nx+1+1) 0),(48,.slice .any 1 [.int .i64 2,.int .i64 7]),(49,.int .i64 2),(50,.int .i64 (i:Int)),(84,.int .i64 (f.ms.length:Int)),(85,.int .i64 (j:Int))]) HL (fun j=>j≤f.ms.length) (fun j=>f.ms.length - j) 0 (Nat.zero_le _) ?_ fun z hz=>?_
 ·refine ⟨by rw [hLn];(try simp only [zkq,zkv]);omega,by rw [hHL];exact lRq _,hclL _,?_,?_⟩
  ·simp [ltF,hLn,hIn,znn,znf,aF,znu,znv]
   try omega
  ·simp [aJ,wk2,wk1,wkM,Fr.get]
 have hHz:HL z=(((HI.push (.cells [.int .i64 rr'.id,.str rr'.name,.slice .any 4 (rr'.grants.map bb),.slice .any 1 (inL rr'.actions),.int .i64 rr'.quota,.bool rr'.audit])).push (.cells [.int .i64 g.table,.bool true,.bool g.write,.slice .any 1 (boL g.keys)])).push (.cells [.int .i64 f.table,.ms (HI.nx+1+1+1) 0 8 f.ms.length,.int .i64 f.prio,.int .i64 f.act,.slice .any 2 (f.args.map vv)])).push (.cells ((bmT g.keys e.ms f.ms z).flatMap bq++J)):=by rw [hHL]
 rw [hHz]
 simp only [go_sem]
 refine ai (fun hc3=>?_) (fun hc3=>?_)
 ·have hz':z<f.ms.length:=by simp at hc3;omega
  have ei3:IntKind.i64.wrap ((z:Int)+1)=((z+1:Nat):Int):=by rw [wrap_i64]<;>omega
  have hkg:z<g.keys.length:=by omega
  obtain ⟨b,hb⟩:∃ b,n9 g.keys z=b:=⟨_,rfl⟩
  have hbl:(boL g.keys).length=g.keys.length:=by simp [boL]
  have hgb:(boL g.keys).getD z .junk=.bool b:=by
   refine aU (f:=AV.bool) (l:=g.keys) (k:=z) (x:=b) ?_
   rw [← hb,gQq hkg]
   unfold n9
   rw [gEq,gQq hkg,Option.getD_some]
  have hclN:=hclL (z+1)
  have hlz:z*8+8≤((bmT g.keys e.ms f.ms z).flatMap bq++J).length:=by rw [lAq,jB,sc];omega
  simp only [aZ,aH,bhq,Nat.reduceMod,Nat.reduceDiv,aC,aB,aE,aS,aD,aR,aO,aP,aQ,yaq,yar,yao,yap,go_sem,hI2,hI3,hI4,n2,n3,n4,hgb,hbl,iNq]
  refine ⟨by omega,?_⟩
  cases b
  ·have hH1:HL (z+1)=HL z:=by rw [hHL];dsimp only;rw [Hl hb]
   try simp only [aZ,aH,bhq,Nat.reduceMod,Nat.reduceDiv,aC,aB,aE,aS,aD,aR,aO,aP,aQ,yaq,yar,yao,yap,go_sem,ei3]
   refine ⟨z+1,by omega,by omega,?_⟩
   refine ⟨by rw [hLn];(try simp only [zkq,zkv]);omega,by rw [hH1,hHz];exact lRq _,hclN,?_,?_⟩
   ·simp [ltF,hLn,hIn,znn,znf,aF,znu,znv]
    try omega
   ·simp [aJ,wk2,wk1,wkM,Fr.get]
  ·obtain ⟨m,hm⟩:∃ m,m=e.ms[z]:=⟨_,rfl⟩
   have hzm:e.ms[z]?=some m:=by rw [gQq (by omega),hm]
   have hgm:=aU (f:=aI) (l:=e.ms) (k:=z) (x:=m) hzm
   have hsp:=tg (f:=bq) tE m J (bmT g.keys e.ms f.ms z) z (by rw [sc];exact hz')
   rw [Jl hb hzm] at hsp
   simp only [bq,vc,yal,yak] at hsp
   have hH1:HL (z+1)=(((HI.push (.cells [.int .i64 rr'.id,.str rr'.name,.slice .any 4 (rr'.grants.map bb),.slice .any 1 (inL rr'.actions),.int .i64 rr'.quota,.bool rr'.audit])).push (.cells [.int .i64 g.table,.bool true,.bool g.write,.slice .any 1 (boL g.keys)])).push (.cells [.int .i64 f.table,.ms (HI.nx+1+1+1) 0 8 f.ms.length,.int .i64 f.prio,.int .i64 f.act,.slice .any 2 (f.args.map vv)])).push (.cells ((bmT g.keys e.ms f.ms (z+1)).flatMap bq++J)):=by rw [hHL]
   try simp only [aZ,aH,bhq,Nat.reduceMod,Nat.reduceDiv,aC,aB,aE,aS,aD,aR,aO,aP,aQ,yaq,yar,yao,yap,go_sem,hI2,hI3,hI4,n2,n3,n4,hgm,aI,bq,vc,yal,yak,ybb,iNq,nzq,ei3]
   rw [hsp]
   refine ⟨⟨by omega,by omega⟩,⟨by omega,by omega⟩,hlz,z+1,by omega,by omega,?_⟩
   refine ⟨by rw [hLn];(try simp only [zkq,zkv]);omega,by rw [hH1];exact lRq _,hclN,?_,?_⟩
   ·simp [ltF,hLn,hIn,znn,znf,aF,znu,znv]
    try omega
   ·simp [aJ,wk2,wk1,wkM,Fr.get]
 have hz':z=f.ms.length:=by simp at hc3;omega
 subst hz'
 clear hc3
 obtain ⟨x0,hx0⟩:∃ x0:SEntry,x0={ f with ms:=bmT g.keys e.ms f.ms f.ms.length }:=⟨_,rfl⟩
 have hrow:bA 8 f.ms.length (((bmT g.keys e.ms f.ms f.ms.length).flatMap bq++J).drop 0)=x0.ms.map aI:=by
  have:=uh (bmT g.keys e.ms f.ms f.ms.length) kk
  rw [sc] at this
  rw [yap,hJ,hx0]
  exact this
 simp only [aZ,aH,bhq,Nat.reduceMod,Nat.reduceDiv,aC,aB,aE,aS,aD,aR,aO,aP,aQ,yaq,yar,yao,yap,go_sem]
 have hclN:=hclL f.ms.length
 rw [hHz] at hclN
 refine FV (HI.nx+1+1) 1 (HI.nx+1+1+1) 0 8 f.ms.length (x0.ms.map aI) (by simp only [go_sem];rfl) rfl (by omega) (by simp only [go_sem]) hrow (a8 dO) hclN fun G2 hg2 hk2 hnx hclG2=>?_
 have hnx:G2.nx=HI.nx+1+1+1+1:=hnx
 have keep:∀ i o,i<HI.nx→HI.get i=some o→G2.get i=some o:=fun i o hi ho=>hk2 i o (by omega) (by omega) (by
  (repeat rw [gPq _ _ (by (try simp only [zle]);omega)])
  exact ho)
 have b13:aA G2 HI.nx=some [.int .i64 rr'.id,.str rr'.name,.slice .any 4 (rr'.grants.map bb),.slice .any 1 (inL rr'.actions),.int .i64 rr'.quota,.bool rr'.audit]:=ax (hk2 _ _ (by omega) (by omega) (by (repeat rw [gPq _ _ (by (try simp only [zle]);omega)]);exact AHeap.get_push_new _ _))
 have b16:aA G2 (HI.nx+1+1)=some (aK x0):=by rw [hx0] at hg2 ⊢;exact ax hg2
 have g2:=ax (keep _ _ (by omega) (th hI2))
 have g3:=ax (keep _ _ (by omega) (th hI3))
 have g4:=ax (keep _ _ (by omega) (th hI4))
 have hleG:HI.Le G2:=⟨by omega,fun i o ho=>keep i o (glq ho) ho⟩
 clear hk2 hg2 keep n2 n3 n4 hclN
 have n2:=jf (show H.nx+1+1<G2.nx by omega)
 have n3:=jf (show H.nx+1+1+1<G2.nx by omega)
 have n4:=jf (show H.nx+1+1+1+1<G2.nx by omega)
 have n16:=jf (show HI.nx+1+1<G2.nx by omega)
 have hsx:∀ cs j,aA (G2.set (HI.nx+1+1) (.cells cs)) j=if j=HI.nx+1+1 then some cs else aA G2 j:=fun cs j=>fI (by omega)
 have q2:(H.nx+1+1=HI.nx+1+1)=False:=eq_false (by omega)
 have q3:(H.nx+1+1+1=HI.nx+1+1)=False:=eq_false (by omega)
 have q4:(H.nx+1+1+1+1=HI.nx+1+1)=False:=eq_false (by omega)
 have hleS:∀ o,HI.Le (G2.set (HI.nx+1+1) o):=fun o=>⟨by rw [zlf];omega,fun i o' ho=>by
  have:=glq ho
  rw [AHeap.get_set_ne _ _ (by omega)]
  exact hleG.get i o' ho⟩
 have hil:∀ l:List Int,(inL l).length=l.length:=fun l=>by simp [inL]
 have hal:=(hR.gl rr' (List.mem_of_getElem? b3)).2
 simp only [aK] at b16
 have hL27:∀ n,AV.lt n (.slice .any 1 [.int .i64 2,.int .i64 7]):=fun n=>by simp [aF,znu,znv,znf]
 simp only [aZ,aH,bhq,Nat.reduceMod,Nat.reduceDiv,aC,aB,aE,aS,aD,aR,aO,aP,aQ,yaq,yar,yao,yap,go_sem,b13,hil]
 refine az (A:=Nat) (fun j=>[(5,.ptr (H.nx+1+1) 0),(6,.ptr (H.nx+1) 0),(7,.int .i64 (k:Int)),(9,.ptr (H.nx+1+1+1) 0),(10,.ptr (H.nx+1+1+1+1) 0),(12,.int .i64 role),(16,.ptr (HI.nx+1+1) 0),(18,.bool (uV rr'.actions j e.act)),(19,.bool (uV rr'.actions j f.act)),(48,.slice .any 1 [.int .i64 2,.int .i64 7]),(49,.int .i64 2),(50,.int .i64 (i:Int)),(104,.slice .any 1 (inL rr'.actions)),(105,.int .i64 (rr'.actions.length:Int)),(106,.int .i64 (j:Int))]) (fun _=>G2) (fun j=>j≤rr'.actions.length) (fun j=>rr'.actions.length - j) 0 (Nat.zero_le _) ?_ fun z hz=>?_
 ·refine ⟨by (try simp only [zkq,zkv]);omega,lRq _,hclG2,?_,?_⟩
  ·simp [ltF,hnx,hIn,znn,znf,zng,hL27,lB]
   try omega
  ·simp [aJ,wk2,wk1,wkM,Fr.get,uV]
 simp only [go_sem]
 refine ai (fun hc3=>?_) (fun hc3=>?_)
 ·have hz':z<rr'.actions.length:=by simp at hc3;omega
  have ei3:IntKind.i64.wrap ((z:Int)+1)=((z+1:Nat):Int):=by rw [wrap_i64]<;>omega
  obtain ⟨a,ha⟩:∃ a,a=rr'.actions[z]:=⟨_,rfl⟩
  have hga:(inL rr'.actions).getD z .junk=.int .i64 a:=aU (f:=AV.int .i64) (l:=rr'.actions) (k:=z) (x:=a) (by rw [gQq hz',ha])
  have htk:∀ n,uV rr'.actions (z+1) n=(uV rr'.actions z n||(a==n)):=fun n=>by
   unfold uV
   rw [List.take_succ_eq_append_getElem hz',List.contains_append,← ha,List.contains_cons,List.contains_nil,Bool.or_false]
   congr 1
   by_cases h:n=a
   ·subst h;rfl
   ·rw [beq_eq_false_iff_ne.2 h,beq_eq_false_iff_ne.2 (Ne.symm h)]
  have t1:=htk e.act
  have t2:=htk f.act
  generalize uV rr'.actions z e.act=A at *
  generalize uV rr'.actions z f.act=B at *
  cases A<;>cases B
  all_goals
   simp only [aZ,aH,bhq,Nat.reduceMod,Nat.reduceDiv,aC,aB,aE,aS,aD,aR,aO,aP,aQ,yaq,yar,yao,yap,go_sem,g2,g3,g4,n2,n3,n4,hga,hil,iNq,ei3]
   refine ⟨⟨by omega,by omega⟩,z+1,by omega,by omega,?_⟩
   refine ⟨by (try simp only [zkq,zkv]);omega,lRq _,hclG2,?_,?_⟩
   ·simp [ltF,hnx,hIn,znn,znf,zng,hL27,lB]
    try omega
   ·simp [aJ,wk2,wk1,wkM,Fr.get,t1,t2]
 have hz':z=rr'.actions.length:=by simp at hc3;omega
 subst hz'
 clear hc3
 have hTl:∀ n,uV rr'.actions rr'.actions.length n=rr'.actions.contains n:=fun n=>by unfold uV;rw [List.take_length]
 rw [hTl,hTl]
 have t2':=t2
 have hals:e.args.length≤1000000:=by have:=hE1.al;have:=hG.pl e.act;omega
 have half:f.args.length≤1000000:=by have:=hE2.al;have:=hG.pl f0.act;rw [hf];show f0.args.length≤_;omega
 have hfo:=E7 (S:=S) (role:=role) (e:=e) ⟨heA.ok,heA.ad.ar⟩
 have hce:(zX (gd S role e) (gd S role e)==0)=true:=by rw [cmpE_eq.2 rfl];rfl
 have hx0l:x0.ms.length=f.ms.length:=by rw [hx0];exact sc
 have hx0t:x0.table=e.table:=by rw [hx0];exact hft
 have hx0p:x0.prio=e.prio:=by rw [hx0,hf]
 have hx0m:x0.ms=bmT ((grF S role e.table).getD eT).keys e.ms f.ms f.ms.length:=by rw [hx0,hgr'];rfl
 have hx0a:x0.act=f.act∧x0.args=f.args:=by rw [hx0];exact ⟨rfl,rfl⟩
 obtain ⟨A,hAA⟩:∃ A,rr'.actions.contains e.act=A:=⟨_,rfl⟩
 obtain ⟨B,hBB⟩:∃ B,rr'.actions.contains f.act=B:=⟨_,rfl⟩
 rw [hAA,hBB]
 by_cases hAB:(A||B)=true
 ·obtain ⟨x,hx⟩:∃ x:SEntry,x={ x0 with act:=e.act,args:=e.args }:=⟨_,rfl⟩
  have hlaw:gd S role x=gd S role e:=vu (f:=f) hrf hlen (by rw [hx];exact hx0t) (by rw [hx];exact hx0p) (by rw [hx];exact hx0m) (by rw [hAA,hBB,if_pos hAB,hx]) (by rw [hAA,hBB,if_pos hAB,hx])
  have hxl:x.ms.length=f.ms.length:=by rw [hx];exact hx0l
  have hxne:x.ms≠[]:=fun h0=>hfne (List.length_eq_zero_iff.1 (by rw [← hxl,h0];rfl))
  have hxa:x.args.length≤1000000:=by rw [hx];exact hals
  have hxC:[AV.int .i64 x0.table,.slice .any 8 (x0.ms.map aI),.int .i64 x0.prio,.int .i64 e.act,.slice .any 2 (e.args.map vv)]=aK x:=by rw [hx];rfl
  cases A
  ·cases B
   ·cases hAB
   simp only [aZ,aH,bhq,Nat.reduceMod,Nat.reduceDiv,aC,aB,aE,aS,aD,aR,aO,aP,aQ,yaq,yar,yao,yap,go_sem,g2,g3,g4,b16,n2,n3,n4,n16,hsx,q2,q3,q4,fP]
   refine ⟨S,e,⟨rfl,rfl,hsr,by omega,by omega,t2'⟩,?_⟩
   try simp only [aZ,aH,bhq,Nat.reduceMod,Nat.reduceDiv,aC,aB,aE,aS,aD,aR,aO,aP,aQ,yaq,yar,yao,yap,go_sem,g2,g3,g4,b16,hsx,q2,q3,q4,fP]
   refine ⟨S,x,⟨rfl,hxC,hsr,by omega,by omega,hxne⟩,?_⟩
   rw [hlaw]
   try simp only [aZ,aH,bhq,Nat.reduceMod,Nat.reduceDiv,aC,aB,aE,aS,aD,aR,aO,aP,aQ,yaq,yar,yao,yap,go_sem,dZ,aK,kN]
   refine ⟨_,_,⟨rfl,rfl,hfo,hfo⟩,?_⟩
   rw [hce]
   try simp only [aZ,aH,bhq,Nat.reduceMod,Nat.reduceDiv,aC,aB,aE,aS,aD,aR,aO,aP,aQ,yaq,yar,yao,yap,go_sem,Bool.not_true,ei2]
   refine ⟨i+1,by omega,by omega,?_⟩
   refine ⟨by (try simp only [zkq,zkv]);omega,by (repeat (first|exact hleG|exact hleS _|refine lPq ?_ _)),hclI,?_,?_⟩
   ·simp [ltF,hIn,znn,znf,hL27]
    try omega
   ·simp [aJ,wk2,wk1,wkM,Fr.get]
  ·cases B
   all_goals
    simp only [aZ,aH,bhq,Nat.reduceMod,Nat.reduceDiv,aC,aB,aE,aS,aD,aR,aO,aP,aQ,yaq,yar,yao,yap,go_sem,g2,g3,g4,b16,n2,n3,n4,n16,hsx,q2,q3,q4,fP]
    refine ⟨S,e,⟨rfl,rfl,hsr,by omega,by omega,t2'⟩,?_⟩
    try simp only [aZ,aH,bhq,Nat.reduceMod,Nat.reduceDiv,aC,aB,aE,aS,aD,aR,aO,aP,aQ,yaq,yar,yao,yap,go_sem,g2,g3,g4,b16,hsx,q2,q3,q4,fP]
    refine ⟨S,x,⟨rfl,hxC,hsr,by omega,by omega,hxne⟩,?_⟩
    rw [hlaw]
    try simp only [aZ,aH,bhq,Nat.reduceMod,Nat.reduceDiv,aC,aB,aE,aS,aD,aR,aO,aP,aQ,yaq,yar,yao,yap,go_sem,dZ,aK,kN]
    refine ⟨_,_,⟨rfl,rfl,hfo,hfo⟩,?_⟩
    rw [hce]
    try simp only [aZ,aH,bhq,Nat.reduceMod,Nat.reduceDiv,aC,aB,aE,aS,aD,aR,aO,aP,aQ,yaq,yar,yao,yap,go_sem,Bool.not_true,ei2]
    refine ⟨i+1,by omega,by omega,?_⟩
    refine ⟨by (try simp only [zkq,zkv]);omega,by (repeat (first|exact hleG|exact hleS _|refine lPq ?_ _)),hclI,?_,?_⟩
    ·simp [ltF,hIn,znn,znf,hL27]
     try omega
    ·simp [aJ,wk2,wk1,wkM,Fr.get]
 ·have hxC:[AV.int .i64 x0.table,.slice .any 8 (x0.ms.map aI),.int .i64 x0.prio,.int .i64 x0.act,.slice .any 2 (x0.args.map vv)]=aK x0:=rfl
  have hAf:A=false:=by cases A;rfl;exact absurd rfl hAB
  have hBf:B=false:=by cases B;rfl;cases A<;>exact absurd rfl hAB
  have hlaw:gd S role x0=gd S role e:=vu (f:=f) hrf hlen hx0t hx0p hx0m (by rw [hAA,hBB,if_neg hAB];exact hx0a.1) (by rw [hAA,hBB,if_neg hAB];exact hx0a.2)
  have hx0ne:x0.ms≠[]:=fun h0=>hfne (List.length_eq_zero_iff.1 (by rw [← hx0l,h0];rfl))
  have hx0g:x0.args.length≤1000000:=by rw [hx0a.2];exact half
  subst hAf
  subst hBf
  simp only [aZ,aH,bhq,Nat.reduceMod,Nat.reduceDiv,aC,aB,aE,aS,aD,aR,aO,aP,aQ,yaq,yar,yao,yap,go_sem,g2,g3,g4,b16,n2,n3,n4,n16,hsx,q2,q3,q4,fP]
  refine ⟨S,e,⟨rfl,rfl,hsr,by omega,by omega,t2'⟩,?_⟩
  try simp only [aZ,aH,bhq,Nat.reduceMod,Nat.reduceDiv,aC,aB,aE,aS,aD,aR,aO,aP,aQ,yaq,yar,yao,yap,go_sem,g2,g3,g4,b16,hsx,q2,q3,q4,fP]
  refine ⟨S,x0,⟨rfl,hxC,hsr,by omega,by omega,hx0ne⟩,?_⟩
  rw [hlaw]
  try simp only [aZ,aH,bhq,Nat.reduceMod,Nat.reduceDiv,aC,aB,aE,aS,aD,aR,aO,aP,aQ,yaq,yar,yao,yap,go_sem,dZ,aK,kN]
  refine ⟨_,_,⟨rfl,rfl,hfo,hfo⟩,?_⟩
  rw [hce]
  try simp only [aZ,aH,bhq,Nat.reduceMod,Nat.reduceDiv,aC,aB,aE,aS,aD,aR,aO,aP,aQ,yaq,yar,yao,yap,go_sem,Bool.not_true,ei2]
  refine ⟨i+1,by omega,by omega,?_⟩
  refine ⟨by (try simp only [zkq,zkv]);omega,by (repeat (first|exact hleG|exact hleS _|refine lPq ?_ _)),hclI,?_,?_⟩
  ·simp [ltF,hIn,znn,znf,hL27]
   try omega
  ·simp [aJ,wk2,wk1,wkM,Fr.get]
end Go.AL
