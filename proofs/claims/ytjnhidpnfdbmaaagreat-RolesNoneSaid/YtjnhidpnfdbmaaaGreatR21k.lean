/- Lemmas of the proof; no condition. -/
import Derived.Test.YtjnhidpnfdbmaaaGreatLRol
import Derived.Test.YtjnhidpnfdbmaaaGreatS10e
import Derived.Test.YtjnhidpnfdbmaaaGreatS11g
set_option linter.all false
set_option maxRecDepth 10000
set_option maxHeartbeats 32000000
open List renaming length_cons → yaz, length_nil → yba, take_succ_cons → yaq, take_zero → yar, drop_succ_cons → yao, drop_zero → yap, length_map → ybb, map_nil → yaf, append_nil → yaj, take_nil → yas, cons_append → yal, nil_append → yak, map_cons → yae, take_of_length_le → ybc, drop_append → ybd, take_append → ybe, drop_eq_nil_of_le → ybf
open Go Go.AL Go.Proofs
namespace Go.AL
def AHeap.hole (H:AHeap):AHeap:=⟨H.nx+1,fun i=>if i=H.nx then .none else H.f i⟩
theorem eo {H:AHeap}:H.hole.nx=H.nx+1:=(rfl)
theorem kD {H:AHeap} {i:Nat}:H.hole.get i=if i=H.nx then .none else H.get i:=by
 unfold AHeap.get AHeap.hole
 by_cases h:i=H.nx
 ·subst h;simp
 ·by_cases h2:i<H.nx
  ·simp [h,h2,Nat.lt_succ_of_lt h2]
  ·simp only [h,if_false,h2];split<;>first|omega|rfl
theorem A3 {H:AHeap} {i:Nat}:ay H.hole i=if i=H.nx then .none else ay H i:=by
 unfold ay
 rw [kD]
 by_cases h:i=H.nx<;>simp [h]
theorem Ff {H:AHeap} {i:Nat} {o:AObj}:H.hole.set i o=if i=H.nx then H.push o else (H.set i o).hole:=by
 split
 ·rename_i h;subst h
  unfold AHeap.set AHeap.push AHeap.hole;congr 1;funext j;by_cases hj:j=H.nx<;>simp [hj]
 ·rename_i h
  unfold AHeap.set AHeap.hole;congr 1;funext j
  simp only
  by_cases h1:j=i
  ·subst h1;simp [h]
  ·simp [h1]
theorem aA {H:AHeap} (h:H.Closed):H.hole.Closed:=fun i cs hi j hj=>by
 rw [kD] at hi
 split at hi
 ·cases hi
 ·exact AV.lt_mono (Nat.le_succ _) _ (h i cs hi j hj)
theorem JC {A B:AHeap} {o:AObj} (h:A.Le B) (hn:A.nx=B.nx):(A.push o).Le (B.push o) :=
 ⟨by rw [AHeap.nx_push,AHeap.nx_push,hn];exact nrq _,fun i x hx=>by
  rcases AHeap.get_push_inv _ _ hx with ⟨rfl,rfl⟩|⟨hl,hx⟩
  ·rw [hn];exact AHeap.get_push_new _ _
  ·rw [gPq _ _ (by omega)];exact h.get i x hx⟩
theorem JU {A B:AHeap} {o:AObj} (h:A.Le B) (hn:A.nx=B.nx):A.hole.Le (B.push o) :=
 ⟨by rw [eo,AHeap.nx_push,hn];exact nrq _,fun i x hx=>by
  rw [kD] at hx
  split at hx
  ·cases hx
  ·have:=glq hx
   rw [gPq _ _ (by omega)];exact h.get i x hx⟩
theorem MY {A B:AHeap} (h:A.Le B) (hn:A.nx=B.nx):A.hole.Le B.hole :=
 ⟨by rw [eo,eo,hn];exact nrq _,fun i x hx=>by
  rw [kD] at hx ⊢
  split at hx
  ·cases hx
  ·rename_i hi
   rw [if_neg (by omega)];exact h.get i x hx⟩
theorem J2 {A B:AHeap} (h:A.Le B):A.Le B.hole :=
 ⟨Nat.le_succ_of_le h.nx,fun i x hx=>by
  have h1:=h.get i x hx
  have:=glq h1
  rw [kD,if_neg (by omega)];exact h1⟩
theorem ACalls.weak {P:Program} {f:FuncId} {args:List AV} {H H' H1:AHeap} {x y:AV} (h:ACalls P f args H (.ret x) H') (hw:ae H' x H1 y) (hn:H.nx≤H1.nx):ACalls P f args H (.ret y) H1:=fun w γ vs hs hr=>by
 refine UponCall.mono (fun en w' hen=>?_) (h w γ vs hs hr)
 obtain ⟨γ1,h1,he,hend⟩:=hen
 obtain ⟨h2,h3,h4,h5⟩:=hw
 cases en with
 |returned v=>exact ⟨γ1,h1.drop h3 h4,he.drop0 h3 hn,sx h1 h3 (show Rel w' γ1 H' x v from hend) h2 h5⟩
 |_=>exact hend.elim
theorem Mb {a:Nat}:(a=a+1+1+1+1+1+1+1+1+1+1+1+1+1)=False:=eq_false (by omega)
theorem LX {a:Nat}:(a+1+1+1+1+1+1+1+1+1+1+1+1+1=a)=False:=eq_false (by omega)
theorem LN {a:Nat}:(a=a+1+1+1+1+1+1+1+1+1+1+1+1+1+1)=False:=eq_false (by omega)
theorem MV {a:Nat}:(a+1+1+1+1+1+1+1+1+1+1+1+1+1+1=a)=False:=eq_false (by omega)
theorem ML {a:Nat}:(a=a+1+1+1+1+1+1+1+1+1+1+1+1+1+1+1)=False:=eq_false (by omega)
theorem LK {a:Nat}:(a+1+1+1+1+1+1+1+1+1+1+1+1+1+1+1=a)=False:=eq_false (by omega)
theorem Mc {a:Nat}:(a=a+1+1+1+1+1+1+1+1+1+1+1+1+1+1+1+1)=False:=eq_false (by omega)
theorem ME {a:Nat}:(a+1+1+1+1+1+1+1+1+1+1+1+1+1+1+1+1=a)=False:=eq_false (by omega)
theorem MB {a:Nat}:(a=a+1+1+1+1+1+1+1+1+1+1+1+1+1+1+1+1+1)=False:=eq_false (by omega)
theorem LV {a:Nat}:(a+1+1+1+1+1+1+1+1+1+1+1+1+1+1+1+1+1=a)=False:=eq_false (by omega)
theorem MC {a:Nat}:(a=a+1+1+1+1+1+1+1+1+1+1+1+1+1+1+1+1+1+1)=False:=eq_false (by omega)
theorem MA {a:Nat}:(a+1+1+1+1+1+1+1+1+1+1+1+1+1+1+1+1+1+1=a)=False:=eq_false (by omega)
theorem M3 {a:Nat}:(a=a+1+1+1+1+1+1+1+1+1+1+1+1+1+1+1+1+1+1+1)=False:=eq_false (by omega)
theorem Mn {a:Nat}:(a+1+1+1+1+1+1+1+1+1+1+1+1+1+1+1+1+1+1+1=a)=False:=eq_false (by omega)
theorem L9 {a:Nat}:(a=a+1+1+1+1+1+1+1+1+1+1+1+1+1+1+1+1+1+1+1+1)=False:=eq_false (by omega)
theorem Mt {a:Nat}:(a+1+1+1+1+1+1+1+1+1+1+1+1+1+1+1+1+1+1+1+1=a)=False:=eq_false (by omega)
theorem Mr {a:Nat}:(a=a+1+1+1+1+1+1+1+1+1+1+1+1+1+1+1+1+1+1+1+1+1)=False:=eq_false (by omega)
theorem Ml {a:Nat}:(a+1+1+1+1+1+1+1+1+1+1+1+1+1+1+1+1+1+1+1+1+1=a)=False:=eq_false (by omega)
theorem Mq {a:Nat}:(a=a+1+1+1+1+1+1+1+1+1+1+1+1+1+1+1+1+1+1+1+1+1+1)=False:=eq_false (by omega)
theorem Mo {a:Nat}:(a+1+1+1+1+1+1+1+1+1+1+1+1+1+1+1+1+1+1+1+1+1+1=a)=False:=eq_false (by omega)
theorem MM {a:Nat}:(a=a+1+1+1+1+1+1+1+1+1+1+1+1+1+1+1+1+1+1+1+1+1+1+1)=False:=eq_false (by omega)
theorem L2 {a:Nat}:(a+1+1+1+1+1+1+1+1+1+1+1+1+1+1+1+1+1+1+1+1+1+1+1=a)=False:=eq_false (by omega)
theorem L8 {a:Nat}:(a=a+1+1+1+1+1+1+1+1+1+1+1+1+1+1+1+1+1+1+1+1+1+1+1+1)=False:=eq_false (by omega)
theorem Mi {a:Nat}:(a+1+1+1+1+1+1+1+1+1+1+1+1+1+1+1+1+1+1+1+1+1+1+1+1=a)=False:=eq_false (by omega)
theorem Mk {a:Nat}:(a=a+1+1+1+1+1+1+1+1+1+1+1+1+1+1+1+1+1+1+1+1+1+1+1+1+1)=False:=eq_false (by omega)
theorem Mx {a:Nat}:(a+1+1+1+1+1+1+1+1+1+1+1+1+1+1+1+1+1+1+1+1+1+1+1+1+1=a)=False:=eq_false (by omega)
theorem LQ {a:Nat}:(a=a+1+1+1+1+1+1+1+1+1+1+1+1+1+1+1+1+1+1+1+1+1+1+1+1+1+1)=False:=eq_false (by omega)
theorem LO {a:Nat}:(a+1+1+1+1+1+1+1+1+1+1+1+1+1+1+1+1+1+1+1+1+1+1+1+1+1+1=a)=False:=eq_false (by omega)
theorem Mj {a:Nat}:(a=a+1+1+1+1+1+1+1+1+1+1+1+1+1+1+1+1+1+1+1+1+1+1+1+1+1+1+1)=False:=eq_false (by omega)
theorem L1 {a:Nat}:(a+1+1+1+1+1+1+1+1+1+1+1+1+1+1+1+1+1+1+1+1+1+1+1+1+1+1+1=a)=False:=eq_false (by omega)
theorem Mh {a:Nat}:(a=a+1+1+1+1+1+1+1+1+1+1+1+1+1+1+1+1+1+1+1+1+1+1+1+1+1+1+1+1)=False:=eq_false (by omega)
theorem Mm {a:Nat}:(a+1+1+1+1+1+1+1+1+1+1+1+1+1+1+1+1+1+1+1+1+1+1+1+1+1+1+1+1=a)=False:=eq_false (by omega)
theorem Me {a:Nat}:(a=a+1+1+1+1+1+1+1+1+1+1+1+1+1+1+1+1+1+1+1+1+1+1+1+1+1+1+1+1+1)=False:=eq_false (by omega)
theorem L6 {a:Nat}:(a+1+1+1+1+1+1+1+1+1+1+1+1+1+1+1+1+1+1+1+1+1+1+1+1+1+1+1+1+1=a)=False:=eq_false (by omega)
theorem LM {a:Nat}:(a=a+1+1+1+1+1+1+1+1+1+1+1+1+1+1+1+1+1+1+1+1+1+1+1+1+1+1+1+1+1+1)=False:=eq_false (by omega)
theorem L3 {a:Nat}:(a+1+1+1+1+1+1+1+1+1+1+1+1+1+1+1+1+1+1+1+1+1+1+1+1+1+1+1+1+1+1=a)=False:=eq_false (by omega)
theorem MT {a:Nat}:(a=a+1+1+1+1+1+1+1+1+1+1+1+1+1+1+1+1+1+1+1+1+1+1+1+1+1+1+1+1+1+1+1)=False:=eq_false (by omega)
theorem M0 {a:Nat}:(a+1+1+1+1+1+1+1+1+1+1+1+1+1+1+1+1+1+1+1+1+1+1+1+1+1+1+1+1+1+1+1=a)=False:=eq_false (by omega)
theorem MP {a:Nat}:(a=a+1+1+1+1+1+1+1+1+1+1+1+1+1+1+1+1+1+1+1+1+1+1+1+1+1+1+1+1+1+1+1+1)=False:=eq_false (by omega)
theorem Mu {a:Nat}:(a+1+1+1+1+1+1+1+1+1+1+1+1+1+1+1+1+1+1+1+1+1+1+1+1+1+1+1+1+1+1+1+1=a)=False:=eq_false (by omega)
theorem LJ {a:Nat}:(a=a+1+1+1+1+1+1+1+1+1+1+1+1+1+1+1+1+1+1+1+1+1+1+1+1+1+1+1+1+1+1+1+1+1)=False:=eq_false (by omega)
theorem MQ {a:Nat}:(a+1+1+1+1+1+1+1+1+1+1+1+1+1+1+1+1+1+1+1+1+1+1+1+1+1+1+1+1+1+1+1+1+1=a)=False:=eq_false (by omega)
attribute [go_sem] eo kD A3 Ff Mb LX LN MV ML LK Mc ME MB LV MC MA M3 Mn L9 Mt Mr Ml Mq Mo MM L2 L8 Mi Mk Mx LQ LO Mj L1 Mh Mm Me L6 LM L3 MT M0 MP Mu LJ MQ
def i8 (rs:List SRole):List AV:=rs.flatMap fun r=>(bZ r).cells
def pY:List AV→AHeap→(AEnd→AHeap→Prop)→Prop
 |[.ptr id 0,.slice .any 8 l],H,K=>∃ ts:List STable,(l=ts.map bc∧ts.length≤100∧∀ t∈ts,t.keys.length≤100)∧onC (H.get id) fun b v=>K (.ret (.ms (H.nx+1+1+1+1+1+1+1+1+1+1) 0 6 3)) (((H.set id (co b (eS b v ts).2)).hole.hole.hole.hole.hole.hole.hole.hole.hole.hole).push (.cells (i8 (eS b v ts).1)))
 |_,_,_=>False
theorem zO:EntOk Tryz.prog 28 (Ent.effect pY):=by
 refine EntOk.effect fun args H K h=>?_
 unfold pY at h
 split at h
 rotate_left
 ·exact h.elim
 rename_i id l
 obtain ⟨ts,⟨rfl,hts,htk⟩,h⟩:=h
 obtain ⟨b,v,hg,hb,hv,hK⟩:=iF h
 refine ⟨_,_,hK,?_⟩
 clear hK
 obtain ⟨res,hres⟩:∃ res,i8 (eS b v ts).1=res:=⟨_,rfl⟩
 rw [hres]
 generalize hR:cq b ts (v+4)=R
 have hend:(eS b v ts).2=R.2:=by rw [← hR];rfl
 rw [hend]
 refine ACalls.fW ax (tCq gI (tCq kM tNq)) Tryz.func28 [.tmp 4] (by simp only [zle,eo,zlf];omega) (T:=aq [(16,[[],[],[],[],[],[],[],[],[5],[],[],[3,5,8],[1,3,5,8],[],[1,3,5,8]]),(18,[[],[],[],[],[],[],[],[5],[],[],[3,5,7],[1,3,5,7],[],[1,3,5,7]]),(1,[[7]]),(2,[[25]]),(3,[[22]]),(14,[[1]]),(20,[[11,1]])]) (h:=fun hcl hlt=>?_)
 clear hlt
 have hid:=glq hg
 have hne:=eX hid
 have hgc:=iK (b:=b) hid
 have hcl2:∀ w,(H.set id (co b w)).Closed:=fun w=>ai hcl dB
 have e2:(2:Int).toNat=2:=rfl
 have e3:(3:Int).toNat=3:=rfl
 have e4:(4:Int).toNat=4:=rfl
 have e6:(6:Int).toNat=6:=rfl
 have w1:∀ (u n:Nat) (k:Int),0<n→n≤100→0≤k→k≤100→IntKind.i64.wrap (k+((cv b u n:Nat):Int))=k+((cv b u n:Nat):Int):=fun u n k h1 h2 h3 h4=>by
  have:=c7 (b:=b) (v:=u) (n:=n) h1
  rw [wrap_i64 (by omega) (by omega)]
 have a33:∀ u,IntKind.i64.wrap (3+((cv b u 3:Nat):Int))=3+((cv b u 3:Nat):Int):=fun u=>w1 u 3 3 (by decide) (by decide) (by decide) (by decide)
 have a16:∀ u,IntKind.i64.wrap (1+((cv b u 6:Nat):Int))=1+((cv b u 6:Nat):Int):=fun u=>w1 u 6 1 (by decide) (by decide) (by decide) (by decide)
 simp only [go_sem,bhq,Nat.reduceMod,Nat.reduceDiv,aC,aB,aD,aR,aF,aQ,aN,aO,aP,yaq,yar,yao,yap,aX,bF,hg,hgc,aU hb,bq,aL,bx,hne,e2,e3,e4,e6,a33,a16]
 refine kF 14 2 4 _ rfl rfl ?_
 simp only [go_sem,bhq,Nat.reduceMod,Nat.reduceDiv,aC,aB,aD,aR,aF,aQ,aN,aO,aP,yaq,yar,yao,yap,aX,bF,hg,hgc,aU hb,bq,aL,bx,hne,e2,e3,e4,e6,a33,a16,List.set_cons_succ,List.set_cons_zero]
 (repeat with_reducible refine Yq ?_)
 refine kF 22 2 4 _ rfl rfl ?_
 simp only [go_sem,bhq,Nat.reduceMod,Nat.reduceDiv,aC,aB,aD,aR,aF,aQ,aN,aO,aP,yaq,yar,yao,yap,aX,bF,hg,hgc,aU hb,bq,aL,bx,hne,e2,e3,e4,e6,a33,a16,List.set_cons_succ,List.set_cons_zero]
 (repeat with_reducible refine Yq ?_)
 refine kF 29 2 4 _ rfl rfl ?_
 simp only [go_sem,bhq,Nat.reduceMod,Nat.reduceDiv,aC,aB,aD,aR,aF,aQ,aN,aO,aP,yaq,yar,yao,yap,aX,bF,hg,hgc,aU hb,bq,aL,bx,hne,e2,e3,e4,e6,a33,a16,List.set_cons_succ,List.set_cons_zero]
 refine aE (A:=Nat × Nat × List AV × List AV × List AV) (fun x=>[(0,.ptr id 0),(5,.ptr (H.nx+1+1+1) 0),(6,.ptr (H.nx+1+1+1+1+1+1) 0),(7,.ptr (H.nx+1+1+1+1+1+1+1+1+1) 0),(30,.slice .any 8 (ts.map bc)),(31,.int .i64 (ts.length:Int)),(32,.int .i64 (x.1:Int))]) (fun x=>gh H id b v x.2.1 x.2.2.1 x.2.2.2.1 x.2.2.2.2) (fun x=>RolI b ts R x.1 x.2.1 x.2.2.1 x.2.2.2.1 x.2.2.2.2) (fun x=>ts.length - x.1) (0,v+4,[],[],[]) ⟨by omega,by simp,by simp,by simp,by rw [← hR];rfl,by rw [← hR];rfl,by rw [← hR];rfl,by rw [← hR];rfl⟩ ?_ fun x hx=>?_
 ·refine ⟨by simp only [gh,zle,zlf,zkq,zkv];omega,lRq _,gz (ts:=ts) (R:=R) (k:=0) (w:=v+4) hcl ⟨by omega,by simp,by simp,by simp,by rw [← hR];rfl,by rw [← hR];rfl,by rw [← hR];rfl,by rw [← hR];rfl⟩ _,?_,?_⟩
  ·simp [ltF,gh,znn,znf,zle,zlf,aW cR]
   omega
  ·simp [aK,wk2,wk1,wkM,Fr.get]
 obtain ⟨k,w,a1,a2,a3⟩:=x
 dsimp only at hx ⊢
 have hclo:=fun w'=>gz (id:=id) (v:=v) hcl hx w'
 obtain ⟨hk,l1,l2,l3,i1,i2,i3,i4⟩:=hx
 simp only [go_sem]
 refine aj (fun hc=>?_) (fun hc=>?_)
 ·have hk':k<ts.length:=by simp at hc;omega
  obtain ⟨t,ht⟩:∃ t,t=ts[k]:=⟨_,rfl⟩
  have hd:ts.drop k=t::ts.drop (k+1):=by rw [ht];exact dcq hk'
  have hkl:t.keys.length≤100:=htk t (by rw [ht];exact gMq hk')
  have htg:(ts.map bc).getD k .junk=.agg [.int .i64 t.id,.str t.name,.slice .any 3 (t.keys.map bT),.slice .any 1 (inL t.actions),.int .i64 t.dflt,.slice .any 2 (t.dargs.map vv),.int .i64 t.size,.str t.restr]:=by
   rw [gEq,List.getElem?_map,gQq hk',← ht];rfl
  have hT:∀ n,ltL n ([.int .i64 t.id,.str t.name,.slice .any 3 (t.keys.map bT),.slice .any 1 (inL t.actions),.int .i64 t.dflt,.slice .any 2 (t.dargs.map vv),.int .i64 t.size,.str t.restr]:List AV):=fun n=>ltL_iff.2 fun j hj=>AV.lt_cells (cR t) j hj
  have hclT:∀ w',((gh H id b v w' a1 a2 a3).push (.cells [.int .i64 t.id,.str t.name,.slice .any 3 (t.keys.map bT),.slice .any 1 (inL t.actions),.int .i64 t.dflt,.slice .any 2 (t.dargs.map vv),.int .i64 t.size,.str t.restr])).Closed:=fun w'=>aa (hclo w') (hT _)
  have hclo2:∀ w' f g,((((gh H id b v w' a1 a2 a3).push (.cells [.int .i64 t.id,.str t.name,.slice .any 3 (t.keys.map bT),.slice .any 1 (inL t.actions),.int .i64 t.dflt,.slice .any 2 (t.dargs.map vv),.int .i64 t.size,.str t.restr])).push (.cells (bfN t.keys.length f))).push (.cells (bfN t.keys.length g))).Closed:=fun w' f g =>
   aa (aa (hclT w') (by simp [BU])) (by simp [BU])
  have hrn:∀ w',(gh H id b v w' a1 a2 a3).nx=(H.nx+1+1+1+1+1+1+1+1+1+1):=fun _=>rfl
  simp only [go_sem,gh,rO,lG,rQ,htg,iNq,ybb,IC,B7]
  (repeat with_reducible refine Yq ?_)
  refine aE (A:=Nat) (fun j=>[(0,.ptr id 0),(5,.ptr (H.nx+1+1+1) 0),(6,.ptr (H.nx+1+1+1+1+1+1) 0),(7,.ptr (H.nx+1+1+1+1+1+1+1+1+1) 0),(9,.ptr (H.nx+1+1+1+1+1+1+1+1+1+1) 0),(10,.ms (H.nx+1+1+1+1+1+1+1+1+1+1+1) 0 1 t.keys.length),(11,.ms (H.nx+1+1+1+1+1+1+1+1+1+1+1+1) 0 1 t.keys.length),(30,.slice .any 8 (ts.map bc)),(31,.int .i64 (ts.length:Int)),(32,.int .i64 (k:Int)),(45,.int .i64 (t.keys.length:Int)),(46,.int .i64 (j:Int))]) (fun j=>(((gh H id b v (w+j) a1 a2 a3).push (.cells [.int .i64 t.id,.str t.name,.slice .any 3 (t.keys.map bT),.slice .any 1 (inL t.actions),.int .i64 t.dflt,.slice .any 2 (t.dargs.map vv),.int .i64 t.size,.str t.restr])).push (.cells (bfN t.keys.length fun i=>decide (i<j)))).push (.cells (bfN t.keys.length fun i=>decide (i<j)&&decide (ci b (w+i) 4 > 0)))) (fun j=>j≤t.keys.length) (fun j=>t.keys.length - j) 0 (by omega) ?_ fun j hj=>?_
  ·simp only [Nat.not_lt_zero,decide_false,Bool.false_and]
   refine ⟨by simp only [zle,hrn,zkq,zkv];omega,lRq _,hclo2 _ _ _,?_,?_⟩
   ·simp [ltF,hrn,znn,znp,znf,zle,zlf,aW cR]
    omega
   ·simp [aK,wk2,wk1,wkM,Fr.get]
  simp only [go_sem]
  refine aj (fun hc2=>?_) (fun hc2=>?_)
  ·have hj':j<t.keys.length:=by simp at hc2;omega
   have e5:IntKind.i64.wrap ((j:Int)+1)=((j+1:Nat):Int):=by rw [wrap_i64]<;>omega
   have hs1:(bfN t.keys.length fun i=>decide (i<j)).set j (.bool true)=bfN t.keys.length fun i=>decide (i<j+1):=BE fun i hi=>by
    by_cases e:i=j
    ·subst e;simp
    ·rw [if_neg e,decide_eq_decide];omega
   have hs2:(bfN t.keys.length fun i=>decide (i<j)&&decide (ci b (w+i) 4 > 0)).set j (.bool (decide (ci b (cp (w+j) 0) 4 > 0)))=bfN t.keys.length fun i=>decide (i<j+1)&&decide (ci b (w+i) 4 > 0):=BE fun i hi=>by
    by_cases e:i=j
    ·subst e;simp [cp]
    ·rw [if_neg e];congr 1;rw [decide_eq_decide];omega
   simp only [aV,aG,bhq,Nat.reduceMod,Nat.reduceDiv,aC,aB,aD,aR,aF,aQ,aN,aO,aP,yaq,yar,yao,yap,go_sem,aX,bF,hgc,aU hb,bq,aL,bx,hne,e4,gh,rO,lG,rQ,lAq,ybb,iNq,B7,sQ,nzq,Nat.mul_one,hs1,hs2,e5]
   (repeat with_reducible refine Yq ?_)
   refine ⟨j+1,by omega,by omega,by simp only [zle,hrn,zlf,zkq,zkv];omega,lRq _,hclo2 _ _ _,?_,?_⟩
   ·simp [ltF,hrn,znn,znp,znf,zle,zlf,aW cR]
    omega
   ·simp [aK,wk2,wk1,wkM,Fr.get]
  have hj':j=t.keys.length:=by simp at hc2;omega
  subst hj'
  have y1:(bfN t.keys.length fun i=>decide (i<t.keys.length))=boL (List.replicate t.keys.length true):=by
   rw [BF];congr 1
   apply List.ext_getElem
   ·simp
   ·intro i h1 h2;simp at h1 ⊢;exact h1
  have y2:(bfN t.keys.length fun i=>decide (i<t.keys.length)&&decide (ci b (w+i) 4 > 0))=boL (iR b w t.keys.length):=by
   rw [BF];congr 1
   unfold iR
   refine List.map_congr_left fun i hi=>?_
   have:=List.mem_range.1 hi
   simp [this]
  rw [y1,y2]
  simp only [aV,aG,bhq,Nat.reduceMod,Nat.reduceDiv,aC,aB,aD,aR,aF,aQ,aN,aO,aP,yaq,yar,yao,yap,go_sem,aX,bF,hgc,aU hb,bq,aL,bx,hne,e4,gh,rO,lG,rQ,lAq,ybb]
  refine ik [(0,.ptr id 0),(5,.ptr (H.nx+1+1+1) 0),(6,.ptr (H.nx+1+1+1+1+1+1) 0),(7,.ptr (H.nx+1+1+1+1+1+1+1+1+1) 0),(9,.ptr (H.nx+1+1+1+1+1+1+1+1+1+1) 0),(10,.slice .any 1 (boL (List.replicate t.keys.length true))),(11,.slice .any 1 (boL (iR b w t.keys.length))),(30,.slice .any 8 (ts.map bc)),(31,.int .i64 (ts.length:Int)),(32,.int .i64 (k:Int))] ((gh H id b v (w+t.keys.length) a1 a2 a3).push (.cells [.int .i64 t.id,.str t.name,.slice .any 3 (t.keys.map bT),.slice .any 1 (inL t.actions),.int .i64 t.dflt,.slice .any 2 (t.dargs.map vv),.int .i64 t.size,.str t.restr])) ⟨by simp only [zle,hrn,zkq,zkv,fY];omega,((lRq _).push _).push _,hclT _,?_,?_⟩ ?_
  ·simp [ltF,hrn,znn,znp,znf,zle,zlf,aW cR,AK]
   omega
  ·have yr1:bz 1 t.keys.length (boL (List.replicate t.keys.length true))=boL (List.replicate t.keys.length true):=by
    have:=oK (List.replicate t.keys.length true)
    rw [List.length_replicate] at this;exact this
   have yr2:bz 1 t.keys.length (boL (iR b w t.keys.length))=boL (iR b w t.keys.length):=by
    have:=oK (iR b w t.keys.length)
    rw [show (iR b w t.keys.length).length=t.keys.length by simp [iR]] at this;exact this
   have hn1:∀ w' o,((gh H id b v w' a1 a2 a3).push o).get (H.nx+1+1+1+1+1+1+1+1+1+1+1)=none:=fun w' o=>zmv (by rw [zle,hrn];omega)
   have hn2:∀ w' o,((gh H id b v w' a1 a2 a3).push o).get (H.nx+1+1+1+1+1+1+1+1+1+1+1+1)=none:=fun w' o=>zmv (by rw [zle,hrn];omega)
   simp only [aK,wk2,wk1,wkM,go_sem,yap,yr1,yr2,hn1,hn2,true_or,or_true,and_self]
  simp only [aV,aG,bhq,Nat.reduceMod,Nat.reduceDiv,aC,aB,aD,aR,aF,aQ,aN,aO,aP,yaq,yar,yao,yap,go_sem,aX,bF,hgc,aU hb,bq,aL,bx,hne,e4,gh,rO,lG,rQ,ybb]
  (repeat with_reducible refine Yq ?_)
  have e5:=Yk5 k
  refine aj (fun h1=>?_) (fun h1=>?_)
  all_goals
   try simp only [aV,aG,bhq,Nat.reduceMod,Nat.reduceDiv,aC,aB,aD,aR,aF,aQ,aN,aO,aP,yaq,yar,yao,yap,go_sem,aX,bF,hgc,aU hb,bq,aL,bx,hne,e4,gh,rO,lG,rQ,ybb]
   try (repeat with_reducible refine Yq ?_)
   refine aj (fun h2=>?_) (fun h2=>?_)
  all_goals
   try simp only [aV,aG,bhq,Nat.reduceMod,Nat.reduceDiv,aC,aB,aD,aR,aF,aQ,aN,aO,aP,yaq,yar,yao,yap,go_sem,aX,bF,hgc,aU hb,bq,aL,bx,hne,e4,gh,rO,lG,rQ,ybb,e5]
   try (repeat with_reducible refine Yq ?_)
  ·have hp1:(0<cv b (w+t.keys.length) 4)=True:=eq_true (by have h:=of_decide_eq_true h1;simp only [cp,Nat.add_zero] at h;omega)
   have hp2:(cv b (w+(t.keys.length+3)) 2=1)=True:=eq_true (by have h:=of_decide_eq_true h2;unfold cp at h;rw [Nat.add_assoc] at h;exact h)
   rw [hd] at i1 i2 i3 i4
   simp only [cq,hp1,hp2,if_true,if_false,Nat.add_assoc,Nat.reduceAdd] at i1 i2 i3 i4
   have hI:RolI b ts R (k+1) (w+(t.keys.length+6)) (a1++[.agg [.int .i64 t.id,.bool true,.bool true,.slice .any 1 (boL (List.replicate t.keys.length true))]]) (a2++[.agg [.int .i64 t.id,.bool (decide (0<ci b (w+t.keys.length+1) 4)),.bool (decide (cv b (w+t.keys.length+2) 2=1)),.slice .any 1 (boL (iR b w t.keys.length))]]) (a3++[.agg [.int .i64 t.id,.bool (decide (cv b (w+t.keys.length+4) 2=1)),.bool (decide (cv b (w+t.keys.length+5) 2=1)),.slice .any 1 (boL (List.replicate t.keys.length true))]]):=by
    refine ⟨by omega,by (try simp only [lAq,yaz,yba]);omega,by (try simp only [lAq,yaz,yba]);omega,by (try simp only [lAq,yaz,yba]);omega,?_,?_,?_,i4⟩
    ·simpa [a9,Nat.add_assoc] using i1
    ·simpa [a9,Nat.add_assoc] using i2
    ·simpa [a9,Nat.add_assoc] using i3
   refine ⟨(_,_,_,_,_),hI,by dsimp only;omega,by simp only [gh,zle,zlf];omega,?_,gz hcl hI _,?_,?_⟩
   ·simp only [gh,lAq,yaz,yba]
    repeat first|exact .refl _|refine .push ?_ _
   ·simp [ltF,gh,znn,znf,zle,zlf,aW cR]
    omega
   ·simp [aK,wk2,wk1,wkM,Fr.get]
  ·have hp1:(0<cv b (w+t.keys.length) 4)=True:=eq_true (by have h:=of_decide_eq_true h1;simp only [cp,Nat.add_zero] at h;omega)
   have hp2:(cv b (w+(t.keys.length+3)) 2=1)=False:=eq_false (by have h:=of_decide_eq_false h2;unfold cp at h;rw [Nat.add_assoc] at h;exact h)
   rw [hd] at i1 i2 i3 i4
   simp only [cq,hp1,hp2,if_true,if_false,Nat.add_assoc,Nat.reduceAdd] at i1 i2 i3 i4
   have hI:RolI b ts R (k+1) (w+(t.keys.length+4)) (a1++[.agg [.int .i64 t.id,.bool true,.bool true,.slice .any 1 (boL (List.replicate t.keys.length true))]]) (a2++[.agg [.int .i64 t.id,.bool (decide (0<ci b (w+t.keys.length+1) 4)),.bool (decide (cv b (w+t.keys.length+2) 2=1)),.slice .any 1 (boL (iR b w t.keys.length))]]) (a3):=by
    refine ⟨by omega,by (try simp only [lAq,yaz,yba]);omega,by (try simp only [lAq,yaz,yba]);omega,by (try simp only [lAq,yaz,yba]);omega,?_,?_,?_,i4⟩
    ·simpa [a9,Nat.add_assoc] using i1
    ·simpa [a9,Nat.add_assoc] using i2
    ·simpa [a9,Nat.add_assoc] using i3
   refine ⟨(_,_,_,_,_),hI,by dsimp only;omega,by simp only [gh,zle,zlf];omega,?_,gz hcl hI _,?_,?_⟩
   ·simp only [gh,lAq,yaz,yba]
    repeat first|exact .refl _|refine .push ?_ _
   ·simp [ltF,gh,znn,znf,zle,zlf,aW cR]
    omega
   ·simp [aK,wk2,wk1,wkM,Fr.get]
  ·have hp1:(0<cv b (w+t.keys.length) 4)=False:=eq_false (by have h:=of_decide_eq_false h1;simp only [cp,Nat.add_zero] at h;omega)
   have hp2:(cv b (w+(t.keys.length+1)) 2=1)=True:=eq_true (by have h:=of_decide_eq_true h2;unfold cp at h;rw [Nat.add_assoc] at h;exact h)
   rw [hd] at i1 i2 i3 i4
   simp only [cq,hp1,hp2,if_true,if_false,Nat.add_assoc,Nat.reduceAdd] at i1 i2 i3 i4
   have hI:RolI b ts R (k+1) (w+(t.keys.length+4)) (a1++[.agg [.int .i64 t.id,.bool true,.bool true,.slice .any 1 (boL (List.replicate t.keys.length true))]]) (a2) (a3++[.agg [.int .i64 t.id,.bool (decide (cv b (w+t.keys.length+2) 2=1)),.bool (decide (cv b (w+t.keys.length+3) 2=1)),.slice .any 1 (boL (List.replicate t.keys.length true))]]):=by
    refine ⟨by omega,by (try simp only [lAq,yaz,yba]);omega,by (try simp only [lAq,yaz,yba]);omega,by (try simp only [lAq,yaz,yba]);omega,?_,?_,?_,i4⟩
    ·simpa [a9,Nat.add_assoc] using i1
    ·simpa [a9,Nat.add_assoc] using i2
    ·simpa [a9,Nat.add_assoc] using i3
   refine ⟨(_,_,_,_,_),hI,by dsimp only;omega,by simp only [gh,zle,zlf];omega,?_,gz hcl hI _,?_,?_⟩
   ·simp only [gh,lAq,yaz,yba]
    repeat first|exact .refl _|refine .push ?_ _
   ·simp [ltF,gh,znn,znf,zle,zlf,aW cR]
    omega
   ·simp [aK,wk2,wk1,wkM,Fr.get]
  ·have hp1:(0<cv b (w+t.keys.length) 4)=False:=eq_false (by have h:=of_decide_eq_false h1;simp only [cp,Nat.add_zero] at h;omega)
   have hp2:(cv b (w+(t.keys.length+1)) 2=1)=False:=eq_false (by have h:=of_decide_eq_false h2;unfold cp at h;rw [Nat.add_assoc] at h;exact h)
   rw [hd] at i1 i2 i3 i4
   simp only [cq,hp1,hp2,if_true,if_false,Nat.add_assoc,Nat.reduceAdd] at i1 i2 i3 i4
   have hI:RolI b ts R (k+1) (w+(t.keys.length+2)) (a1++[.agg [.int .i64 t.id,.bool true,.bool true,.slice .any 1 (boL (List.replicate t.keys.length true))]]) (a2) (a3):=by
    refine ⟨by omega,by (try simp only [lAq,yaz,yba]);omega,by (try simp only [lAq,yaz,yba]);omega,by (try simp only [lAq,yaz,yba]);omega,?_,?_,?_,i4⟩
    ·simpa [a9,Nat.add_assoc] using i1
    ·simpa [a9,Nat.add_assoc] using i2
    ·simpa [a9,Nat.add_assoc] using i3
   refine ⟨(_,_,_,_,_),hI,by dsimp only;omega,by simp only [gh,zle,zlf];omega,?_,gz hcl hI _,?_,?_⟩
   ·simp only [gh,lAq,yaz,yba]
    repeat first|exact .refl _|refine .push ?_ _
   ·simp [ltF,gh,znn,znf,zle,zlf,aW cR]
    omega
   ·simp [aK,wk2,wk1,wkM,Fr.get]
 ·have hk':k=ts.length:=by simp at hc;omega
  subst hk'
  simp only [bhq,Nat.reduceMod,Nat.reduceDiv,aC,aB,aD,aR,aF,aQ,aN,aO,aP,yaq,yar,yao,yap,go_sem,gh,rO,lG,rQ]
  (repeat with_reducible refine Yq ?_)
  simp only [List.drop_length,cq,yaf,yaj] at i1 i2 i3 i4
  subst i4
  refine cY (H.nx+1+1+1+1+1+1+1+1+1+1) res (cs:=(List.flatMap AV.cells [.agg (rO (H.nx+1+1) (H.nx+1) a1),.agg (lG b v (H.nx+1+1+1+1+1) (H.nx+1+1+1+1) a2),.agg (rQ b v (H.nx+1+1+1+1+1+1+1+1) (H.nx+1+1+1+1+1+1+1) a3)])) (by simp only [go_sem,rO,lG,rQ]) ?_ ?_
  ·rw [← hres]
   simp only [eS,hR,i8]
   simp [bZ,inL,i1,i2,i3,cp,rO,lG,rQ,AV.cells,gW,bM,bN,cd,dv,ce,fC,ge,fp,wkM,jo]
  simp only [bhq,Nat.reduceMod,Nat.reduceDiv,aC,aB,aD,aR,aF,aQ,aN,aO,aP,yaq,yar,yao,yap,go_sem]
  refine ⟨by simp [wk,wk2,wk1],JC (by repeat (first|refine JU ?_ rfl|exact lRq _)) rfl,aa (aA (aA (aA (aA (aA (aA (aA (aA (aA (aA (hcl2 _))))))))))) ?_,by simp only [znp,zle,eo,zlf];omega⟩
  rw [← hres]
  exact iJ ji
def mM (ts:List STable):List UInt8→Nat→AV × Nat:=fun b v=>(.agg (i8 (eS b v ts).1),(eS b v ts).2)
theorem kR (ts:List STable):oB (mM ts):=fun b v=>by
 obtain ⟨i1,c,i2,i3⟩:=iY (b:=b) (v:=v) ts 4
 unfold mM eS
 dsimp only
 rw [i1]
 unfold ci
 simp only [cI,bq]
 exact ⟨trivial,c,i2,i3⟩
theorem zf {b:List UInt8} {v:Nat} {ts:List STable}:(mM ts b v).1=.agg (i8 (eS b v ts).1):=(rfl)
theorem yu {b:List UInt8} {v:Nat} {ts:List STable}:(mM ts b v).2=cp (eS b v ts).2 0:=(rfl)
def Mg (H:AHeap) (id:Nat) (K:AEnd→AHeap→Prop) (x:AV) (o:AObj):Prop:=match x with
 |.agg cs=>K (.ret (.ms (H.nx+1+1+1+1+1+1+1+1+1+1) 0 6 3)) (((H.set id o).hole.hole.hole.hole.hole.hole.hole.hole.hole.hole).push (.cells cs))
 |_=>False
theorem mJ {H:AHeap} {id:Nat} {K:AEnd→AHeap→Prop} {cs:List AV} {o:AObj}:Mg H id K (.agg cs) o=K (.ret (.ms (H.nx+1+1+1+1+1+1+1+1+1+1) 0 6 3)) (((H.set id o).hole.hole.hole.hole.hole.hole.hole.hole.hole.hole).push (.cells cs)):=(rfl)
theorem Dw {id:Nat} {ts:List STable} {H:AHeap} {K:AEnd→AHeap→Prop} (h1:ts.length≤100) (h2:∀ t∈ts,t.keys.length≤100) (h:onS (H.get id) (mM ts) (Mg H id K)) :
 pY [.ptr id 0,.slice .any 8 (ts.map bc)] H K:=⟨ts,⟨rfl,h1,h2⟩,h⟩
def kC (x:Sch) (r:Nat):List AV:=[.slice .any 3 (x.fields.map cB),.slice .any 3 (x.headers.map jC),.slice .any 5 (x.states.map dT),.slice .any 5 (x.actions.map bj),.slice .any 8 (x.tables.map bc),
 .slice .any 2 (x.stages.map ng),.ms r 0 6 3,.slice .any 6 (x.refs.map uV),.int .i64 x.maxBatch,.int .i64 x.budget]
def gk:List AV→AHeap→(AEnd→AHeap→Prop)→Prop
 |[.ptr id 0],H,K=>onC (H.get id) fun b v=>K (.ret (.agg (kC (bW b v).1 (H.nx+1+1+1+1+1+1+1+1+1+1+1+1+1+1+1+1+1)))) (((H.set id (co b (bW b v).2)).hole.hole.hole.hole.hole.hole.hole.hole.hole.hole.hole.hole.hole.hole.hole.hole.hole).push (.cells (i8 (bW b v).1.roles)))
 |_,_,_=>False
theorem xx {n r:Nat} {x:Sch} (h:r<n):AV.lt n (.agg (kC x r)):=by
 simp [kC,znr,znu,znv,znf,znp,h,aW mv,aW qm,aW fu,aW ij,aW cR,aW yR,aW EM]
theorem mH:EntOk Tryz.prog 8 (Ent.effect gk):=by
 refine EntOk.effect fun args H K h=>?_
 unfold gk at h
 split at h
 rotate_left
 ·exact h.elim
 rename_i id
 obtain ⟨b,v,hg,hb,hv,hK⟩:=iF h
 refine ⟨_,_,hK,?_⟩
 clear hK
 have hrl:(bW b v).1.roles=(eS b (cp (bh b (cp v 2)).2 16) (bD b (cp (bh b (cp v 2)).2 4))).1:=rfl
 obtain ⟨S,hS⟩:∃ S,(bW b v).1=S:=⟨_,rfl⟩
 have hSr:S.roles=(eS b (cp (bh b (cp v 2)).2 16) (bD b (cp (bh b (cp v 2)).2 4))).1:=by rw [← hS,hrl]
 rw [hS]
 generalize hpos:(bW b v).2=pos
 refine ACalls.fW ax (tCq gI (tCq kM (tCq zD (tCq xN (tCq zX (tCq zO tNq)))))) Tryz.func8 [.cell 2 39] (by simp only [zle,eo,zlf];omega) (T:=aq [(15,[[4]])]) (h:=fun hcl hlt=>?_)
 clear hlt
 have hid:=glq hg
 have hne:=eX hid
 have hne3:∀ k,(id=H.nx+1+k)=False:=fun k=>eq_false (by omega)
 have hne2:=eX (show id<H.nx+1+1+1+1+1+1+1+1+1+1+1+1+1+1+1+1 by omega)
 have hgc:=iK (b:=b) hid
 have hcl2:∀ w,(H.set id (co b w)).Closed:=fun w=>ai hcl dB
 have e8:(8:Int).toNat=8:=rfl
 have e30:(30:Int).toNat=30:=rfl
 have w1:∀ (u n:Nat) (k:Int),0<n→n≤100→0≤k→k≤100→IntKind.i64.wrap (k+((cv b u n:Nat):Int))=k+((cv b u n:Nat):Int):=fun u n k h1 h2 h3 h4=>by
  have:=c7 (b:=b) (v:=u) (n:=n) h1
  rw [wrap_i64 (by omega) (by omega)]
 have a28:∀ u,IntKind.i64.wrap (2+((cv b u 8:Nat):Int))=2+((cv b u 8:Nat):Int):=fun u=>w1 u 8 2 (by decide) (by decide) (by decide) (by decide)
 have a30:∀ u,IntKind.i64.wrap (12+((cv b u 30:Nat):Int))=12+((cv b u 30:Nat):Int):=fun u=>w1 u 30 12 (by decide) (by decide) (by decide) (by decide)
 have es1:p8=eG mr:=rfl
 have es2:oq=eG kH:=rfl
 have es3:qM=eG mu:=rfl
 simp only [go_sem,bhq,Nat.reduceMod,Nat.reduceDiv,aC,aB,aD,aR,aF,aQ,aN,aO,aP,yaq,yar,yao,yap,aX,bF,es1,es2,es3,qg,cr hb jm,cr hb ig,cr hb js,Cm,CB,C3,Cv,CP,Em,vD,hg,hgc,aU hb,bq,aL,bx,hne,hne2,e8,e30,a28,a30]
 (repeat with_reducible refine Yq ?_)
 refine Dw (by simp [bD]) (fun t ht=>?_) ?_
 ·simp only [bD,List.mem_cons,List.not_mem_nil,or_false] at ht
  rcases ht with rfl|rfl|rfl|rfl<;>simp only [gU,jd,dk,dm]<;>(try split)<;>simp
 simp only [aV,aG,go_sem,bhq,Nat.reduceMod,Nat.reduceDiv,aC,aB,aD,aR,aF,aQ,aN,aO,aP,yaq,yar,yao,yap,aX,bF,es1,es2,es3,qg,cr hb jm,cr hb ig,cr hb js,Cm,CB,C3,Cv,CP,Em,vD,hg,hgc,aU hb,bq,aL,bx,hne,hne2,e8,e30,a28,a30,cr hb (kR _),zf,yu,mJ,iNq]
 refine aj (fun h1=>?_) (fun h1=>?_)
 all_goals
  simp only [aV,aG,go_sem,bhq,Nat.reduceMod,Nat.reduceDiv,aC,aB,aD,aR,aF,aQ,aN,aO,aP,yaq,yar,yao,yap,aX,bF,es1,es2,es3,qg,cr hb jm,cr hb ig,cr hb js,Cm,CB,C3,Cv,CP,Em,vD,hg,hgc,aU hb,bq,aL,bx,hne,hne2,e8,e30,a28,a30,cr hb (kR _),zf,yu,mJ,iNq,tg2,tg3,tgl,k2l,k3l]
  try (repeat with_reducible refine Yq ?_)
  refine aj (fun h2=>?_) (fun h2=>?_)
 all_goals
  simp only [aV,aG,go_sem,bhq,Nat.reduceMod,Nat.reduceDiv,aC,aB,aD,aR,aF,aQ,aN,aO,aP,yaq,yar,yao,yap,aX,bF,es1,es2,es3,qg,cr hb jm,cr hb ig,cr hb js,Cm,CB,C3,Cv,CP,Em,vD,hg,hgc,aU hb,bq,aL,bx,hne,hne2,e8,e30,a28,a30,cr hb (kR _),zf,yu,mJ,iNq,tg2,tg3,tgl,k2l,k3l]
  try (repeat with_reducible refine Yq ?_)
  refine bB (fun h3=>?_) (fun h3=>?_)
 all_goals
  try (repeat with_reducible refine Yq ?_)
  try refine aj (fun h4=>?_) (fun h4=>?_)
 all_goals
  try simp only [aV,aG,go_sem,bhq,Nat.reduceMod,Nat.reduceDiv,aC,aB,aD,aR,aF,aQ,aN,aO,aP,yaq,yar,yao,yap,aX,bF,es1,es2,es3,qg,cr hb jm,cr hb ig,cr hb js,Cm,CB,C3,Cv,CP,Em,vD,hg,hgc,aU hb,bq,aL,bx,hne,hne2,e8,e30,a28,a30,cr hb (kR _),zf,yu,mJ,iNq,tg2,tg3,tgl,k2l,k3l]
  try (repeat with_reducible refine Yq ?_)
  refine bB (fun h5=>?_) (fun h5=>?_)
 all_goals
  try (repeat with_reducible refine Yq ?_)
  try refine aj (fun h6=>?_) (fun h6=>?_)
 all_goals
  try simp only [aV,aG,go_sem,bhq,Nat.reduceMod,Nat.reduceDiv,aC,aB,aD,aR,aF,aQ,aN,aO,aP,yaq,yar,yao,yap,aX,bF,es1,es2,es3,qg,cr hb jm,cr hb ig,cr hb js,Cm,CB,C3,Cv,CP,Em,vD,hg,hgc,aU hb,bq,aL,bx,hne,hne2,e8,e30,a28,a30,cr hb (kR _),zf,yu,mJ,iNq,tg2,tg3,tgl,k2l,k3l]
  try (repeat with_reducible refine Yq ?_)
  replace h1:=qr h1
  replace h2:=qr h2
  replace h3:=qr h3
  replace h5:=qr h5
  try replace h4:=qr h4
  try replace h6:=qr h6
  refine im 101 (.agg (kC S (H.nx+1+1+1+1+1+1+1+1+1+1+1+1+1+1+1+1+1))) ?_ ?_
  ·rw [← hS]
   simp only [H4] at h1 h2 h3 h5
   try simp only [H4] at h4
   try simp only [H4] at h6
   simp [*,Fr.get,kC,bW,gFields,y5,cB,jC,ng,uV,inL,AV.cells,gW,bM,bN,cd,dv,ce,fC,ge,fp,wkM,jo,pt]
  simp only [bhq,Nat.reduceMod,Nat.reduceDiv,aC,aB,aD,aR,aF,aQ,aN,aO,aP,yaq,yar,yao,yap,go_sem,kC]
  refine ⟨?_,?_,aa (aA (aA (aA (aA (aA (aA (aA (aA (aA (aA (aA (aA (aA (aA (aA (aA (aA (hcl2 _)))))))))))))))))) (iJ ji),xx (by simp only [zle,eo,zlf];omega)⟩
  ·simp [kC,wk,wk2,wkL,wk1,wkM]
  ·rw [← hpos,hSr]
   repeat (with_reducible first|(refine JC ?_ (by simp only [eo,zle,zlf]))|(refine MY ?_ (by simp only [eo,zle,zlf]))|(refine JU ?_ (by simp only [eo,zle,zlf]))|refine lPq ?_ _)
   exact lRq _
theorem EF {n0:Nat} {fr:Fr} {H:AHeap} {K:Fr→AHeap→Prop} (id j mid off sz len:Nat) {cs ms:List AV} (L:List AV) (hg:H.get id=some (.cells cs)) (hj:cs[j]?=some (.ms mid off sz len)) (hne:id≠mid) (hm:ay H mid=some ms) (hL:bz sz len (ms.drop off)=L) (hlt:(AV.slice .any sz L).lt H.nx)
 (h:∀ H2:AHeap,H2.get id=some (.cells (cs.set j (.slice .any sz L)))→(∀ l o,l≠id→l≠mid→H.get l=some o→H2.get l=some o)→H2.nx=H.nx→K fr H2):gE n0 K fr H:=by
 refine BB id j mid off sz len L (au hg) hj hne hm hL hlt (h _ ?_ (fun l o h1 h2 hx=>?_) rfl)
 ·exact AHeap.get_set_same _ _ (show id<(H.del mid).nx by rw [fy];exact glq hg)
 ·rw [AHeap.get_set_ne _ _ h1,gH,if_neg h2];exact hx
def mU:List AV→AHeap→(AV→Prop)→Prop
 |[],_,K=>K (.bool true)
 |_,_,_=>False
theorem t9:EntOk Tryz.prog 13 (Ent.pure mU):=by
 refine Ype fun _ H K h=>?_
 unfold mU at h
 split at h
 rotate_left
 ·exact h.elim
 refine ⟨_,h,?_⟩
 clear h
 have q1:=J8
 have q2:=KM
 have q3:=Ka
 have q4:=K3
 have q5:=Ld
 have q6:=Lk
 obtain ⟨r0,r1,r2,hr3⟩:∃ r0 r1 r2,(bW [] 0).1.roles=[r0,r1,r2]:=⟨_,_,_,rfl⟩
 obtain ⟨r2',hr2'⟩:∃ r2':SRole,{ r2 with grants:=[⟨1,true,false,[true]⟩] }=r2':=⟨_,rfl⟩
 have hbS:bgS={ (bW [] 0).1 with roles:=[r0,r1,r2'] }:=by
  unfold bgS J0
  rw [hr3,← hr2']
  rfl
 have hro:=vy (b:=[]) (v:=0)
 have hal:=t7 (sall_gen (b:=[])) (rs:=[r0,r1,r2']) (by simp)
 have hsr:SRol bgS:=by
  rw [hbS]
  refine ⟨hal.ck.sl,fun r hr=>?_⟩
  have h0:=(hro.rl sall_gen.ck.sl).gl
  rw [hr3] at h0
  simp only [List.mem_cons,List.not_mem_nil,or_false] at hr
  rcases hr with rfl|rfl|rfl
  ·exact h0 _ (by simp)
  ·exact h0 _ (by simp)
  ·have:=(h0 r2 (by simp)).2.1
   rw [← hr2']
   exact ⟨by simp,this,fun g hg=>by rw [List.mem_singleton.1 hg];decide⟩
 have hsp:SPer bgS:=⟨by rw [hbS];exact hal,hsr⟩
 have hbc:aY bgS=aY { (bW [] 0).1 with roles:=[r0,r1,r2'] }:=by rw [hbS]
 have hea:EAll bgE:=by
  have hm:∀ m∈bgE.ms,MOk m∧m.pfx<9223372036854775808:=fun m hm=>by
   rw [List.mem_singleton.1 hm];exact ⟨⟨by decide,by decide,by decide⟩,by decide⟩
  have h1:EOk bgE:=⟨by decide,by decide,fun m h=>(hm m h).1⟩
  exact ⟨h1,⟨by decide,by decide⟩,⟨by decide,fun m h=>(hm m h).2,by decide,fun m h=>(hm m h).1,by decide⟩⟩
 have hrid:r2'.id=r2.id∧r2'.name=r2.name∧r2'.actions=r2.actions∧r2'.quota=r2.quota∧r2'.audit=r2.audit∧r2'.grants=[⟨1,true,false,[true]⟩]:=by rw [← hr2'];exact ⟨rfl,rfl,rfl,rfl,rfl,rfl⟩
 clear hro hal
 generalize hS:(bW [] 0).1=S at *
 have hS':∀ r,AV.agg (kC (bW [] 0).1 r)=.agg (kC S r):=fun r=>by rw [hS]
 refine ACalls.fW ax (tCq xu (tCq mH (tCq A8 (tCq xI (tCq n5 tNq))))) Tryz.func13 [.tmp 0] (nrq _) (T:=aq [(3,[[1,1]]),(4,[[1]])]) (h:=fun hcl hlt=>?_)
 clear hlt
 have hze:zod ([]:List UInt8) 0=co [] (cp 0 0):=s9
 simp only [go_sem,mw]
 refine ⟨[],⟨rfl,by omega⟩,?_⟩
 simp only [aV,aG,bhq,Nat.reduceMod,Nat.reduceDiv,aC,aB,aD,aR,aF,aQ,aN,aO,aP,yaq,yar,yao,yap,go_sem,mw,gk,yas,hze,aU (b:=[]) (by decide),yba,Nat.min_zero,hS,kC,hr3,i8,bZ,List.flatMap_cons,List.flatMap_nil,yal,yak]
 refine ⟨⟨by decide,by decide⟩,?_⟩
 refine cY (H.nx+1+1+1+1+1+1+1+1+1+1+1+1+1+1+1+1+1+1) ((bZ r0).cells++((bZ r1).cells++(bZ r2').cells)) (by simp only [go_sem];rfl) ?_ ?_
 ·simp [hrid,bZ,inL,boL,a9,AV.cells,gW,bM,bN,cd,dv,ce,fC,ge,fp,wkM,jo,pt]
 have hrow:bz 6 3 (((bZ r0).cells++((bZ r1).cells++(bZ r2').cells)).drop 0)=[r0,r1,r2'].map bZ:=by
  have:=jT (sz:=6) (by decide) (fun r:SRole=>(bZ r).cells) (fun r=>rfl) [r0,r1,r2']
  exact this
 refine EF (H.nx+1+1+1+1+1+1+1+1+1+1+1+1+1+1+1+1+1+1+1) 6 (H.nx+1+1+1+1+1+1+1+1+1+1+1+1+1+1+1+1+1+1) 0 6 3 ([r0,r1,r2'].map bZ) (by simp only [go_sem];rfl) rfl (by omega) (by simp only [go_sem]) hrow (aW ji) fun H2 hg2 hk2 hn2=>?_
 have hle2:H.Le H2:=⟨by rw [hn2];simp only [zle,eo,zlf];omega,fun i o ho=>by
  have hi:=glq ho
  refine hk2 i o (by omega) (by omega) ?_
  rw [AHeap.get_set_ne _ _ (by omega)]
  exact AHeap.Le.get (by repeat (with_reducible first|refine lPq ?_ _|refine J2 ?_|exact lRq _)) i o ho⟩
 have hcs2:=au hg2
 have hl2:=glq hg2
 clear hk2
 have hcs2':ay H2 (H.nx+1+1+1+1+1+1+1+1+1+1+1+1+1+1+1+1+1+1+1)=some (aY bgS):=by rw [hcs2,hbc];rfl
 have hS2:(H.nx+1+1+1+1+1+1+1+1+1+1+1+1+1+1+1+1+1+1+1)<H2.nx:=hl2
 generalize hsid:(H.nx+1+1+1+1+1+1+1+1+1+1+1+1+1+1+1+1+1+1+1)=sid at *
 have hn0:(sid=H2.nx)=False:=eq_false (by omega)
 have hn1:(sid=H2.nx+1)=False:=eq_false (by omega)
 have hn3:(sid=H2.nx+1+1)=False:=eq_false (by omega)
 clear hn2
 simp only [aY] at hcs2'
 have z1:(0:Nat)/2^64=0:=rfl
 have hbE:bgE.ms.map aT=[.agg [.bool true,.int .u64 0,.int .u64 0,.int .u64 0,.int .u64 0,.int .i64 0,.int .u64 0,.int .u64 0]]:=rfl
 simp only [aV,aG,bhq,Nat.reduceMod,Nat.reduceDiv,aC,aB,aD,aR,aF,aQ,aN,aO,aP,yaq,yar,yao,yap,go_sem]
 refine cY (H2.nx+1) [.int .i64 1,.slice .any 8 (bgE.ms.map aT),.int .i64 0,.int .i64 2,.slice .any 2 []] (by simp only [go_sem];rfl) ?_ ?_
 ·rw [hbE]
  simp [AV.cells,gW,bM,bN,cd,dv,ce,fC,ge,fp,wkM,jo,pt]
 obtain ⟨F,hF⟩:∃ F,uf bgS 7 bgE=F:=⟨_,rfl⟩
 rw [hF] at q3 q4
 obtain ⟨m,hm1,hm2⟩:∃ m,F.ms=[m]∧m.present=true:=by
  obtain ⟨a1,a2⟩:=q4
  match hf:F.ms,a1 with
  |[m],_ =>
   rw [hf] at a2
   exact ⟨m,rfl,by simpa using a2⟩
 simp only [aV,aG,bhq,Nat.reduceMod,Nat.reduceDiv,aC,aB,aD,aR,aF,aQ,aN,aO,aP,yaq,yar,yao,yap,go_sem,hcs2',hn0,hn1,hn3,pW]
 try (repeat with_reducible refine Yq ?_)
 refine ⟨bgS,bgE,⟨rfl,rfl,hsr,by decide,by decide,by decide⟩,?_⟩
 rw [hF]
 simp only [aV,aG,bhq,Nat.reduceMod,Nat.reduceDiv,aC,aB,aD,aR,aF,aQ,aN,aO,aP,yaq,yar,yao,yap,go_sem,hcs2',hn0,hn1,hn3,eQ,aJ,jP]
 try (repeat with_reducible refine Yq ?_)
 refine ⟨bgS,⟨rfl,hsr⟩,?_⟩
 rw [q1]
 simp only [aV,aG,bhq,Nat.reduceMod,Nat.reduceDiv,aC,aB,aD,aR,aF,aQ,aN,aO,aP,yaq,yar,yao,yap,go_sem,hcs2',hn0,hn1,hn3,eQ,aJ,jP]
 try (repeat with_reducible refine Yq ?_)
 refine ⟨bgS,⟨rfl,hsr⟩,?_⟩
 rw [q2]
 simp only [aV,aG,bhq,Nat.reduceMod,Nat.reduceDiv,aC,aB,aD,aR,aF,aQ,aN,aO,aP,yaq,yar,yao,yap,go_sem,hcs2',hn0,hn1,hn3,eQ,aJ,q3,hm1,hm2,eD,aT,bP,vc,yae,yaf,yal,yak,yaz,yba]
 refine bB (fun _=>?_) (fun h=>absurd h (by decide))
 refine bB (fun _=>?_) (fun h=>absurd h (by decide))
 refine ⟨⟨by decide,by decide⟩,bgS,1,bgE,⟨rfl,rfl,hsp,hea⟩,?_⟩
 rw [q5]
 refine bB (fun _=>?_) (fun h=>absurd h (by decide))
 refine ⟨bgS,1,bgE,⟨rfl,rfl,hsp,hea⟩,?_⟩
 rw [q6]
 refine ⟨rfl,?_,hcl,by simp [zng]⟩
 repeat (with_reducible first|refine lPq ?_ _|exact hle2)
theorem Jz:ti Tryz.prog 44=some ⟨.struct [(0,3,false),(1,26,false)],6,80,.agg [.int .i64 0,.int .i64 0,.slice .nil 1 [],.int .i64 0,.int .i64 0,.slice .nil 1 []]⟩:=by kernel_rfl
theorem FK:ti Tryz.prog 49=some ⟨.slice 44,1,24,.slice .nil 1 []⟩:=by kernel_rfl
attribute [go_sem] Jz FK
theorem MW {α:Type} (f:Int→α) (d:α) (a b c e:Int) {k:Nat} (h:k<4):[f a,f b,f c,f e].getD k d=f ([a,b,c,e].getD k 0):=by
 match k,h with
 |0,_|1,_|2,_|3,_=>rfl
def lL (u:Int × SEntry):List AV:=.int .i64 u.1::aJ u.2
def xF (u:Int × SEntry):AV:=.agg (lL u)
theorem Bd {n:Nat} (x:Int × SEntry):AV.lt n (xF x):=by
 have:=mL (n:=n) x.2
 simp only [eQ,znr] at this
 simp only [xF,lL,znr,znu,znf,true_and]
 exact this
def xa (k:Nat):Int:=([1,1,2,3]:List Int).getD k 0
def lN (S:Sch) (b:List UInt8) (v:Nat):(Int × SEntry) × Nat :=
 let e:=ir S b (cp v 2) (cv b (cp v 1) 4)
 ((xa (cv b (cp v 0) 4),if xa (cv b (cp v 0) 4)=3 then { e.1 with act:=0,args:=[] } else e.1),e.2)
def mT:List AV→AHeap→(AEnd→AHeap→Prop)→Prop
 |[.ptr id 0,.agg l],H,K=>∃ S:Sch,(l=aY S∧GenS S)∧onC (H.get id) fun b v=>K (.ret (xF (lN S b v).1)) (H.set id (co b (lN S b v).2))
 |_,_,_=>False
theorem sq:EntOk Tryz.prog 9 (Ent.effect mT):=by
 refine EntOk.effect fun args H K h=>?_
 unfold mT at h
 split at h
 rotate_left
 ·exact h.elim
 rename_i id l
 obtain ⟨S,⟨rfl,hS⟩,h⟩:=h
 obtain ⟨b,v,hg,hb,hv,hK⟩:=iF h
 refine ⟨_,_,hK,?_⟩
 clear hK h
 obtain ⟨R,hR⟩:∃ R,lN S b v=R:=⟨_,rfl⟩
 rw [hR]
 unfold lN at hR
 refine ACalls.fW ax (tCq gI (tCq Dn tNq)) Tryz.func9 [.cell 4 44] (by simp only [zlf];omega) (T:=aq [(1,[[],[],[],[],[2],[],[],[],[2],[2,6,8],[],[],[2,4,6,8,9,11]]),(801,[[11,44],[100000]])]) (h:=fun hcl hlt=>?_)
 clear hlt
 have hid:=glq hg
 have hne:=eX hid
 have hgc:=iK (b:=b) hid
 have hcl2:∀ w,(H.set id (co b w)).Closed:=fun w=>ai hcl dB
 have h4:=c7 (b:=b) (v:=cp v 0) (n:=4) (by decide)
 have h41:=c7 (b:=b) (v:=cp v 1) (n:=4) (by decide)
 have hL:=MW (AV.int .i64) .junk 1 1 2 3 h4
 simp only [go_sem,byq,aX,sZ,aY,hg,hgc,hne,aU hb,bq,aL,bx,hL,iNq]
 refine ⟨⟨by decide,by decide⟩,⟨by omega,by omega⟩,⟨by decide,by decide⟩,S,⟨rfl,hS,by omega,by omega⟩,?_⟩
 rw [cr hb (ET _ _)]
 unfold oS
 dsimp only at hR ⊢
 generalize ir S b (cp v 2) ((cv b (cp v 1) 4:Nat):Int)=E at *
 obtain ⟨e,w⟩:=E
 dsimp only at hR ⊢
 have hk:([1,1,2,3]:List Int).getD (cv b (cp v 0) 4) 0=xa (cv b (cp v 0) 4):=rfl
 rw [hk]
 generalize xa (cv b (cp v 0) 4)=kd at *
 simp only [go_sem,byq,eQ,aJ]
 refine aj (fun h3=>?_) (fun h3=>?_)
 ·have h3':kd=3:=by simp at h3;exact h3
  rw [if_pos h3'] at hR
  subst hR
  simp only [go_sem,byq,eQ,aJ]
  refine ⟨?_,by repeat first|exact .refl _|refine .push ?_ _,hcl2 _,Bd _⟩
  simp [wk,wk2,wkL,wk1,wkM,xF,lL,aJ]
 ·have h3':¬ kd=3:=by simp at h3;exact h3
  rw [if_neg h3'] at hR
  subst hR
  simp only [go_sem,byq,eQ,aJ]
  refine ⟨?_,by repeat first|exact .refl _|refine .push ?_ _,hcl2 _,Bd _⟩
  simp [wk,wk2,wkL,wk1,wkM,xF,lL,aJ]
theorem I9 {S:Sch} (hR:RolOk S) (hG:GenS S) {m:Int} {e:SEntry} (h:GE S (dD S m) e):jb S e.table=some (dD S m)∧e.ms≠[]∧e.ms.length≤3:=by
 have ht:=iT (S:=S) (n:=m) hG.t1
 have hk:=hR.tk _ ht
 have hl:=h.ml
 refine ⟨by rw [h.tb];exact hR.tu _ ht,fun h0=>?_,by omega⟩
 rw [h0] at hl
 simp at hl
 omega
theorem yt {S:Sch} (hG:GenS S) (hR:RolOk S) {b:List UInt8} {v:Nat}:EAll (lN S b v).1.2∧(lN S b v).1.2.ms≠[]∧(lN S b v).1.2.ms.length≤3∧(lN S b v).1.2.args.length≤100∧∃ t∈S.tables,(lN S b v).1.2.table=t.id:=by
 have hE:=D5 hG (b:=b) (v:=cp v 2) (n:=((cv b (cp v 1) 4:Nat):Int))
 have hA:=In hG hE
 obtain ⟨h1,h2,h3⟩:=I9 hR hG hE
 have hal:=hE.al
 have hpl:=hG.pl (ir S b (cp v 2) ((cv b (cp v 1) 4:Nat):Int)).1.act
 have ht:=iT (S:=S) (n:=((cv b (cp v 1) 4:Nat):Int)) hG.t1
 have htb:=hE.tb
 unfold lN
 dsimp only
 generalize (ir S b (cp v 2) ((cv b (cp v 1) 4:Nat):Int)).1=e at *
 split
 ·exact ⟨⟨⟨hA.ok.ml,by simp,hA.ok.mo⟩,⟨by simp,by simp⟩,⟨hA.ad.ml,hA.ad.pf,hA.ad.pr,hA.ad.mo,by simp⟩⟩,h2,h3,by simp,_,ht,htb⟩
 ·exact ⟨hA,h2,h3,by omega,_,ht,htb⟩
theorem tf {n0:Nat} {fr:Fr} {H:AHeap} {K:Fr→AHeap→Prop} (id j mid off sz len:Nat) {cs ms:List AV} (L:List AV) (hg:H.get id=some (.cells cs)) (hj:cs[j]?=some (.ms mid off sz len)) (hne:id≠mid) (hm:ay H mid=some ms) (hL:bz sz len (ms.drop off)=L) (hlt:(AV.slice .any sz L).lt H.nx) (hcl:H.Closed)
 (h:∀ H2:AHeap,H2.get id=some (.cells (cs.set j (.slice .any sz L)))→(∀ l o,l≠id→l≠mid→H.get l=some o→H2.get l=some o)→H2.nx=H.nx→H2.Closed→K fr H2):gE n0 K fr H:=by
 refine BB id j mid off sz len L (au hg) hj hne hm hL hlt (h _ ?_ (fun l o h1 h2 hx=>?_) rfl ?_)
 ·exact AHeap.get_set_same _ _ (show id<(H.del mid).nx by rw [fy];exact glq hg)
 ·rw [AHeap.get_set_ne _ _ h1,gH,if_neg h2];exact hx
 ·refine ai (az hcl) (ltL_iff.2 fun i hi=>?_)
  rw [List.getElem_set]
  split
  ·exact hlt
  ·exact hcl id cs hg i (by simpa using hi)
theorem iQ {H:AHeap} {i:Nat} {cs:List AV} (h:ay H i=some cs):H.get i=some (.cells cs):=by
 unfold ay at h
 split at h
 ·rename_i cs' e;cases h;exact e
 ·cases h
def fh (x:SGrant):List AV:=[.int .i64 x.table,.bool x.read,.bool x.write,.slice .any 1 (boL x.keys)]
theorem tt {α:Type} {sz:Nat} (h1:sz≠1) (f:α→List AV) (hf:∀ x,(f x).length=sz) (J:List AV):∀ l:List α,bz sz l.length (l.flatMap f++J)=l.map fun x=>.agg (f x)
 |[]=>rfl
 |x::l=>by
  rw [yaz,List.flatMap_cons,List.append_assoc,bz,if_neg h1,yae,show (f x++(l.flatMap f++J)).drop sz=l.flatMap f++J by rw [← hf x,List.drop_left],tt h1 f hf J l]
  congr 2
  apply List.ext_getElem
  ·simp [hf]
  ·intro j a1 a2
   simp only [List.getElem_map,List.getElem_range]
   rw [gEq,List.getElem?_append_left a2,gQq a2];rfl
def unW (t:Int) (g:SGrant):SGrant:=if g.table=t then { g with write:=false } else g
theorem unW_t {t:Int} {g:SGrant}:(unW t g).table=g.table∧(unW t g).keys=g.keys:=by unfold unW;split<;>exact ⟨rfl,rfl⟩
def gsK (t:Int) (gs:List SGrant) (k:Nat):List SGrant:=(gs.take k).map (unW t)++gs.drop k
theorem FA {t:Int} {gs:List SGrant}:gsK t gs 0=gs:=by simp [gsK]
theorem Jm {t:Int} {gs:List SGrant}:gsK t gs gs.length=gs.map (unW t):=by simp [gsK]
theorem Kz {t:Int} {gs:List SGrant} {k:Nat} (h:k<gs.length):gsK t gs k=(gs.take k).map (unW t)++gs[k]::gs.drop (k+1)∧gsK t gs (k+1)=(gs.take k).map (unW t)++unW t gs[k]::gs.drop (k+1):=by
 unfold gsK
 refine ⟨by rw [← dcq h],?_⟩
 rw [List.take_succ_eq_append_getElem h,List.map_append,List.append_assoc];rfl
def uN (S:Sch) (r0 r1 r2:SRole) (t:Int):Sch:={ S with roles:=[r0,{ r1 with grants:=r1.grants.map (unW t) },r2] }
theorem zy {S:Sch} {r0 r1 r2:SRole} {t:Int} (h0:r0.id=1) (h1:r1.id=2):ki (uN S r0 r1 r2 t) 2 t=false:=by
 have hr:g7 (uN S r0 r1 r2 t) 2=some { r1 with grants:=r1.grants.map (unW t) }:=by simp [g7,uN,h0,h1]
 unfold ki grF
 rw [hr]
 dsimp only
 cases hf:(r1.grants.map (unW t)).find? fun g=>g.table==t with
 |none=>rfl
 |some g =>
  have hm:=List.mem_of_find?_eq_some hf
  have ht:=List.find?_some hf
  obtain ⟨x,_,rfl⟩:=List.mem_map.1 hm
  have ht:(unW t x).table=t:=by simpa using ht
  rw [unW_t.1] at ht
  dsimp only
  unfold unW
  rw [if_pos ht]
theorem Da {S:Sch} {r0 r1 r2:SRole} {t:Int} (h0:r0.id=1) (h1:r1.id=2):∃ r,g7 (uN S r0 r1 r2 t) 2=some r:=⟨{ r1 with grants:=r1.grants.map (unW t) },by simp [g7,uN,h0,h1]⟩
theorem HM {S:Sch} {r0 r1 r2:SRole} {t:Int} (h:RolOk S) (hr:S.roles=[r0,r1,r2]):RolOk (uN S r0 r1 r2 t):=by
 have m0:r0∈S.roles:=by rw [hr];simp
 have m1:r1∈S.roles:=by rw [hr];simp
 have m2:r2∈S.roles:=by rw [hr];simp
 refine ⟨by simp [uN],fun r hm=>?_,fun r hm g hg=>?_,h.tu,h.tk⟩
 ·simp only [uN,List.mem_cons,List.not_mem_nil,or_false] at hm
  rcases hm with rfl|rfl|rfl
  ·exact h.gl _ m0
  ·have:=h.gl _ m1;exact ⟨by rw [ybb];exact this.1,this.2⟩
  ·exact h.gl _ m2
 ·simp only [uN,List.mem_cons,List.not_mem_nil,or_false] at hm
  rcases hm with rfl|rfl|rfl
  ·exact h.gt _ m0 g hg
  ·obtain ⟨x,hx,rfl⟩:=List.mem_map.1 hg
   obtain ⟨a,b,c,d⟩:=h.gt _ m1 x hx
   exact ⟨a,b,by rw [unW_t.1];exact c,by rw [unW_t.2];exact d⟩
  ·exact h.gt _ m2 g hg
theorem uh {β:Type} {F:AHeap × β→Fr} {I:AHeap × β→Prop} {n0:Nat} {K:Fr→AHeap→Prop} {fr:Fr} {H:AHeap} (J:JnT F (fun x=>x.1) I K) (y:β) (hx:I (H,y)) (hn:n0≤H.nx) (hc:H.Closed) (hl:ltF H.nx (F (H,y))) (hw:aK H H (F (H,y)) fr):gE n0 K fr H :=
 ik _ _ ⟨hn,lRq _,hc,hl,hw⟩ (J (H,y) hx)
def rt:List AV→AHeap→(AV→Prop)→Prop
 |[.slice _ 1 l1,.slice _ 1 l2,.agg le,.int .i64 n,.int .i64 c],_,K=>∃ e0,(isB l1∧isB l2∧le=aJ e0∧EAll e0 ∧ -9223372036854775808≤n∧n≤9223372036854775807 ∧ -9223372036854775808≤c∧c≤9223372036854775807)∧K (.bool true)
 |_,_,_=>False
theorem ok_RolesNone:EntOk Tryz.prog 6 (Ent.pure rt):=by
 refine Ype fun _ H K h=>?_
 unfold rt at h
 split at h
 rotate_left
 ·exact h.elim
 rename_i m1 l1 m2 l2 le n role
 obtain ⟨e0,⟨c1,c2,rfl,he0,hn1,hn2,hc1,hc2⟩,hK⟩:=h
 refine ⟨_,hK,?_⟩
 clear hK
 obtain ⟨x1,rfl⟩:=wb c1
 obtain ⟨x2,rfl⟩:=wb c2
 clear c1 c2
 obtain ⟨B1,hB1⟩:∃ B1,x1.take (min (x1.length:Int) 120).toNat=B1:=⟨_,rfl⟩
 obtain ⟨B2,hB2⟩:∃ B2,x2.take (min (x2.length:Int) 60).toNat=B2:=⟨_,rfl⟩
 have hL1:B1.length≤1000000:=by rw [← hB1,List.length_take];omega
 have hL2:B2.length≤1000000:=by rw [← hB2,List.length_take];omega
 have hG:=Bg B1 0
 have hA:=sall_gen (b:=B1)
 have hR:=vy (b:=B1) (v:=0)
 obtain ⟨t,ht⟩:∃ t,t=1+n % 4:=⟨_,rfl⟩
 have htb:∃ tb,jb (bW B1 0).1 t=some tb:=by
  have:t=1∨t=2∨t=3∨t=4:=by omega
  rcases this with h|h|h|h<;>rw [h]<;>exact ⟨_,rfl⟩
 have e1t:IntKind.i64.wrap (1+n % 4)=t:=by rw [wrap_i64]<;>omega
 obtain ⟨r0,r1,r2,hr3,hi0,hi1⟩:∃ r0 r1 r2,(bW B1 0).1.roles=[r0,r1,r2]∧r0.id=1∧r1.id=2:=⟨_,_,_,rfl,rfl,rfl⟩
 generalize hS:bW B1 0=SS at *
 obtain ⟨S,w1⟩:=SS
 dsimp only at hG hA hR htb hr3
 obtain ⟨tb,htb⟩:=htb
 obtain ⟨S',hS'⟩:∃ S',S'=uN S r0 r1 r2 t:=⟨_,rfl⟩
 have hR':RolOk S':=by rw [hS'];exact HM hR hr3
 have hA':SAll S':=by rw [hS'];exact t7 hA (by simp)
 have hG':GenS S':=by rw [hS'];exact zE hG _
 have hP':SPer S':=⟨hA',hR'.rl hA'.ck.sl⟩
 have htb':jb S' t=some tb:=by rw [hS'];exact htb
 have hwr:ki S' 2 t=false:=by rw [hS'];exact zy hi0 hi1
 obtain ⟨rr,hrr⟩:∃ r,g7 S' 2=some r:=by rw [hS'];exact Da hi0 hi1
 have hp21:∀ kd (e:SEntry),e.table=t→nD S' 2 kd e=21:=fun kd e he=>Ll hrr (by rw [he];exact htb') (by rw [he];exact hwr)
 have hz1:zod B1 0=co B1 (cp 0 0):=s9
 have hz2:zod B2 0=co B2 (cp 0 0):=s9
 have hSch:gk=gk:=rfl
 have hrc:i8 [r0,r1,r2]=(bZ r0).cells++((bZ r1).cells++((bZ r2).cells++[])):=rfl
 by_cases hge:r1.grants=[]
 ·skip
  refine ACalls.fW ax (tCq xu (tCq mH (tCq wt (tCq sq (tCq n5 (tCq tA (tCq t9 tNq))))))) Tryz.func6 [.tmp 10] (nrq _) (T:=aq [(3,[[1]]),(11,[[1,1,1]]),(12,[[1]])]) (h:=fun hcl hlt=>?_)
  clear hlt
  simp only [go_sem,aJ,mw]
  refine ⟨x1,⟨rfl,by omega⟩,?_⟩
  rw [hB1,hz1]
  simp only [aV,aG,bhq,Nat.reduceMod,Nat.reduceDiv,aC,aB,aD,aR,aF,aQ,aN,aO,aP,yaq,yar,yao,yap,go_sem,mw,gk,aU hL1,Nat.zero_min,cp0,hS,kC]
  refine ⟨x2,⟨rfl,by omega⟩,?_⟩
  rw [hB2,hz2]
  apply gM (α:=AHeap × Nat × Nat × Nat) (fun x=>[(4,.int .i64 role),(7,.ptr H.nx 0),(11,.ptr x.2.2.2 0),(12,.ptr x.2.2.1 0),(13,.int .i64 t)]) (fun x=>x.1) (fun x=>x.1.Closed∧H.Le x.1∧ay x.1 H.nx=some (aJ e0)∧ay x.1 x.2.1=some (i8 [r0,r1,r2])∧x.1.get x.2.2.1=some (co B2 0)∧ay x.1 x.2.2.2=some (kC S x.2.1)∧H.nx<x.2.1∧x.2.1<x.2.2.1∧x.2.2.1<x.2.2.2)
  ·intro J
   try simp only [aV,aG,bhq,Nat.reduceMod,Nat.reduceDiv,aC,aB,aD,aR,aF,aQ,aN,aO,aP,yaq,yar,yao,yap,go_sem,gu]
   refine ⟨⟨by omega,by omega,by decide,by decide⟩,?_⟩
   try simp only [aV,aG,bhq,Nat.reduceMod,Nat.reduceDiv,aC,aB,aD,aR,aF,aQ,aN,aO,aP,yaq,yar,yao,yap,go_sem,e1t]
   have hcl9:=aa (aa (aa (aA (aA (aA (aA (aA (aA (aA (aA (aA (aA (aA (aA (aA (aA (aA (aA (aA (aa (aa hcl (tm e0)) (dB (b:=B1) (v:=w1)))))))))))))))))))) (iJ (f:=bZ) (l:=[r0,r1,r2]) ji)) (dB (b:=B2) (v:=0))) (cs:=kC S (H.nx+1+1+1+1+1+1+1+1+1+1+1+1+1+1+1+1+1+1+1)) (by have:=xx (n:=(H.nx+1+1+1+1+1+1+1+1+1+1+1+1+1+1+1+1+1+1+1+1+1+1)) (r:=(H.nx+1+1+1+1+1+1+1+1+1+1+1+1+1+1+1+1+1+1+1)) (x:=S) (by omega);rwa [znr] at this)
   refine uh J ((H.nx+1+1+1+1+1+1+1+1+1+1+1+1+1+1+1+1+1+1+1),(H.nx+1+1+1+1+1+1+1+1+1+1+1+1+1+1+1+1+1+1+1+1),(H.nx+1+1+1+1+1+1+1+1+1+1+1+1+1+1+1+1+1+1+1+1+1)) ⟨?_,?_,?_,?_,?_,?_,by dsimp only;omega,by dsimp only;omega,by dsimp only;omega⟩ ?_ ?_ ?_ ?_
   ·rw [hr3];exact hcl9
   ·dsimp only
    repeat (with_reducible first|refine lPq ?_ _|refine J2 ?_|exact lRq _)
   ·simp only [go_sem,aJ]
   ·rw [← hr3]
    simp only [go_sem]
   ·(simp only [go_sem];rfl)
   ·simp only [go_sem,kC]
   ·show H.nx≤_
    simp only [zle,eo]
    omega
   ·rw [hr3];exact hcl9
   ·simp [ltF,zle,eo,znn,znf]
    try omega
   ·simp [aK,wk2,wk1,wkM,Fr.get]
  ·rintro ⟨G,r,c,s⟩ ⟨g1,g2,g3,g4,g5,g6,o1,o2,o3⟩
   dsimp only at g1 g2 g3 g4 g5 g6 o1 o2 o3
   have hsl:=glq (iQ g6)
   have n0:=eX (show H.nx<G.nx by omega)
   have nr:=eX (show r<G.nx by omega)
   have nc:=eX (show c<G.nx by omega)
   have ns:=eX (show s<G.nx by omega)
   have hrl:r<G.nx:=by omega
   have nrs:(s=r)=False:=eq_false (by omega)
   have nrc:(c=r)=False:=eq_false (by omega)
   have nr0:(H.nx=r)=False:=eq_false (by omega)
   simp only [kC] at g6
   simp only [i8,bZ,List.flatMap_cons,List.flatMap_nil,yal,yak,AV.cells] at g4
   have hone:∀ z∈List.map a9 r1.grants,bg z.cells=true:=fun z hz=>by
    obtain ⟨x,_,rfl⟩:=List.mem_map.1 hz;rfl
   have hg4:=(hR.gl r1 (by rw [hr3];simp)).1
   have hs1:∀ cs,ay (G.set r (.cells cs)) r=some cs:=fun cs=>by rw [dM hrl,if_pos rfl]
   have hs2:∀ cs,ay (G.set r (.cells cs)) s=ay G s:=fun cs=>by rw [dM hrl,if_neg (by omega)]
   have hsn:∀ cs,(G.set r (.cells cs)).nx=G.nx:=fun cs=>rfl
   obtain ⟨rc,hrc2⟩:∃ rc:AV→List AV,rc=fun x=>[.int .i64 r0.id,.str r0.name,.slice .any 4 (r0.grants.map a9),.slice .any 1 (inL r0.actions),.int .i64 r0.quota,.bool r0.audit,.int .i64 r1.id,.str r1.name,x,.slice .any 1 (inL r1.actions),.int .i64 r1.quota,.bool r1.audit,.int .i64 r2.id,.str r2.name,.slice .any 4 (r2.grants.map a9),.slice .any 1 (inL r2.actions),.int .i64 r2.quota,.bool r2.audit]:=⟨_,rfl⟩
   have hrcl:∀ n x,AV.lt n x→ltL n (rc x):=fun n x hx=>by
    rw [hrc2]
    simp [znu,znv,znf,znh,zng,hx,aW fU,ot]
   simp only [aV,aG,bhq,Nat.reduceMod,Nat.reduceDiv,aC,aB,aD,aR,aF,aQ,aN,aO,aP,yaq,yar,yao,yap,go_sem,g4,g6,n0,nr,nc,ns,hrl,nrs,nrc,nr0,hge,hs1,hs2,hsn,yaf,yba]
   have hlo:∀ n,G.nx<n→AV.lt n (.slice (.own G.nx) 4 []):=fun n hn=>by rw [aI];exact ⟨fun k e=>(by cases e;exact hn),by simp [znv]⟩
   obtain ⟨HB,hHB⟩:∃ HB:AV→AHeap,HB=fun x=>(G.set r (.cells (rc x))).push (.buf 4 0):=⟨_,rfl⟩
   have hclB:∀ x,AV.lt (G.nx+1) x→(HB x).Closed:=fun x hx=>by
    rw [hHB]
    show ClN (G.nx+1) _
    refine ClN.buf (fun i cs hi j hj=>?_)
    rcases AHeap.get_set_inv _ _ hi with ⟨_,e,_⟩|⟨_,hi⟩
    ·cases e
     exact ltL_iff.1 (hrcl _ _ hx) j hj
    ·exact AV.lt_mono (Nat.le_succ _) _ (g1 i cs hi j hj)
   have hclO:=hclB (.slice (.own G.nx) 4 []) (hlo _ (by omega))
   refine ⟨⟨by decide,by decide⟩,by simp,?_⟩
   have hBO:HB (.slice (.own G.nx) 4 [])=(G.set r (.cells (rc (.slice (.own G.nx) 4 [])))).push (.buf 4 0):=by rw [hHB]
   refine aE (A:=Nat) (fun _=>[(4,.int .i64 role),(7,.ptr H.nx 0),(11,.ptr s 0),(12,.ptr c 0),(13,.int .i64 t),(14,.ptr r 6),(42,.int .i64 0),(43,.int .i64 0)]) (fun _=>HB (.slice (.own G.nx) 4 [])) (fun _=>True) (fun _=>0) 0 trivial ?_ fun k hk=>?_
   ·refine ⟨by rw [hBO];simp only [zkq,zkv,zle,zlf];omega,by rw [hBO,hrc2];exact lRq _,hclO,?_,?_⟩
    ·rw [hBO]
     simp [ltF,zle,zlf,znn,znf]
     try omega
    ·simp [aK,wk2,wk1,wkM,Fr.get]
   rw [hBO]
   have dz:decide ((0:Int)<0)=false:=rfl
   simp only [aV,aG,bhq,Nat.reduceMod,Nat.reduceDiv,aC,aB,aD,aR,aF,aQ,aN,aO,aP,yaq,yar,yao,yap,go_sem,dz]
   refine cY r (rc (.slice .any 4 ((r1.grants.map (unW t)).map a9))) (by simp only [go_sem,hs1,hsn,nr];rfl) ?_ ?_
   ·rw [hrc2,hge]
    simp [bN,cd,fC,ge,fp,bM,wkM,me,jo,pt]
   obtain ⟨G1,hG1⟩:∃ G1,G1=HB (.slice .any 4 ((r1.grants.map (unW t)).map a9)):=⟨_,rfl⟩
   have hBN:HB (.slice .any 4 ((r1.grants.map (unW t)).map a9))=(G.set r (.cells (rc (.slice .any 4 ((r1.grants.map (unW t)).map a9))))).push (.buf 4 0):=by rw [hHB]
   have hc1:G1.Closed:=by rw [hG1];exact hclB _ (aW fU)
   have hn1:G1.nx=G.nx+1:=by rw [hG1,hBN];rfl
   refine ik [(4,.int .i64 role),(7,.ptr H.nx 0),(11,.ptr s 0),(12,.ptr c 0),(13,.int .i64 t)] G1 ⟨by show H.nx≤_;omega,?_,hc1,?_,?_⟩ ?_
   ·rw [hG1,hBN,zli,if_neg (by rw [hsn];omega),zlj]
    exact lRq _
   ·simp [ltF,znn,znf]
    omega
   ·simp [aK,wk2,wk1,wkM,Fr.get]
   have hg1:G1.get r=some (.cells (rc (.slice .any 4 ((r1.grants.map (unW t)).map a9)))):=by
    rw [hG1,hBN,gPq _ _ (by exact hrl)];exact AHeap.get_set_same _ _ hrl
   have hkp:∀ i o,i<G.nx→i≠r→G.get i=some o→G1.get i=some o:=fun i o h1 h2 h3=>by
    rw [hG1,hBN,gPq _ _ (by exact h1),AHeap.get_set_ne _ _ h2];exact h3
   rw [hrc2] at hg1
   refine tf s 6 r 0 6 3 (S'.roles.map bZ) (hkp s _ hsl (by omega) (iQ g6)) rfl (by omega) (au hg1) (by rw [hS'];rfl) (aW ji) hc1 fun G2 hg2 hk2 hn2 hc2'=>?_
   have h2s:ay G2 s=some (aY S'):=by rw [au hg2,hS'];rfl
   have h20:=hk2 H.nx _ (by omega) (by omega) (hkp _ _ (by omega) (by omega) (iQ g3))
   have h2c:=hk2 c _ (by omega) (by omega) (hkp _ _ (by omega) (by omega) g5)
   have hle2:H.Le G2:=⟨by have:=glq h2c;omega,fun i o ho=>by
    have hi:=glq ho
    exact hk2 i o (by omega) (by omega) (hkp i o (by omega) (by omega) (g2.get i o ho))⟩
   have h2l:=glq h20
   have hsl2:=glq hg2
   clear hk2 hg2 hkp
   obtain ⟨et,het⟩:∃ et:SEntry,et={ e0 with table:=t }:=⟨_,rfl⟩
   have hetA:EAll et:=by rw [het];exact ⟨⟨he0.ok.ml,he0.ok.al,he0.ok.mo⟩,⟨he0.ar.ar,he0.ar.al⟩,⟨he0.ad.ml,he0.ad.pf,he0.ad.pr,he0.ad.mo,he0.ad.ar⟩⟩
   have hett:et.table=t:=by rw [het]
   have hetC:aJ et=[.int .i64 t,.slice .any 8 (e0.ms.map aT),.int .i64 e0.prio,.int .i64 e0.act,.slice .any 2 (e0.args.map vv)]:=by rw [het];rfl
   obtain ⟨G3,hG3⟩:∃ G3,G3=G2.set H.nx (.cells (aJ et)):=⟨_,rfl⟩
   have h20':=au h20
   simp only [aJ] at h20'
   simp only [aV,aG,bhq,Nat.reduceMod,Nat.reduceDiv,aC,aB,aD,aR,aF,aQ,aN,aO,aP,yaq,yar,yao,yap,go_sem,h20']
   have h3n:G3.nx=G2.nx:=by rw [hG3];rfl
   have h3cl:G3.Closed:=by rw [hG3];exact ai hc2' (tm et)
   have h3s:G3.get s=some (.cells (aY S')):=by rw [hG3,AHeap.get_set_ne _ _ (by omega)];exact iQ h2s
   have h30:G3.get H.nx=some (.cells (aJ et)):=by rw [hG3];exact AHeap.get_set_same _ _ h2l
   have h3c:G3.get c=some (co B2 0):=by rw [hG3,AHeap.get_set_ne _ _ (by omega)];exact h2c
   have hle3:H.Le G3:=⟨by omega,fun i o ho=>by
    have hi:=glq ho
    rw [hG3,AHeap.get_set_ne _ _ (by omega)]
    exact hle2.get i o ho⟩
   have h3cl':=glq h3c
   refine ik [(4,.int .i64 role),(7,.ptr H.nx 0),(11,.ptr s 0),(12,.ptr c 0),(13,.int .i64 t)] G3 ⟨by show H.nx≤_;omega,by rw [hG3,hetC];exact lRq _,h3cl,?_,?_⟩ ?_
   ·simp [ltF,znn,znf]
    omega
   ·simp [aK,wk2,wk1,wkM,Fr.get]
   have m0:=eX (show H.nx<G3.nx by omega)
   have mc:=eX (show c<G3.nx by omega)
   have ms:=eX (show s<G3.nx by omega)
   have w3s:∀ w,ay (G3.set c (co B2 w)) s=some (aY S'):=fun w=>au (by rw [AHeap.get_set_ne _ _ (by omega)];exact h3s)
   have w30:∀ w,ay (G3.set c (co B2 w)) H.nx=some (aJ et):=fun w=>au (by rw [AHeap.get_set_ne _ _ (by omega)];exact h30)
   have w3c:∀ w,(G3.set c (co B2 w)).get c=some (co B2 w):=fun w=>AHeap.get_set_same _ _ h3cl'
   have w3n:∀ w,(G3.set c (co B2 w)).nx=G3.nx:=fun w=>rfl
   have w3cl:∀ w,(G3.set c (co B2 w)).Closed:=fun w=>ai h3cl dB
   have w3le:∀ w,H.Le (G3.set c (co B2 w)):=fun w=>⟨by rw [w3n];omega,fun i o ho=>by
    have hi:=glq ho
    rw [AHeap.get_set_ne _ _ (by omega)]
    exact hle3.get i o ho⟩
   clear hG3 h20' h2s h20 h2c hle2
   simp only [aY] at w3s
   simp only [aJ] at w30
   simp only [aV,aG,bhq,Nat.reduceMod,Nat.reduceDiv,aC,aB,aD,aR,aF,aQ,aN,aO,aP,yaq,yar,yao,yap,go_sem]
   refine aE (A:=Nat × Nat) (fun k=>[(4,.int .i64 role),(7,.ptr H.nx 0),(11,.ptr s 0),(12,.ptr c 0),(13,.int .i64 t),(16,.int .i64 (k.1:Int))]) (fun k=>G3.set c (co B2 k.2)) (fun k=>k.1≤5) (fun k=>5 - k.1) (0,0) (Nat.zero_le _) ?_ fun k hk=>?_
   ·refine ⟨by (try simp only [zkq,zkv]);rw [w3n];omega,⟨nrq _,fun i o ho=>?_⟩,w3cl _,?_,?_⟩
    ·rcases AHeap.get_set_inv _ _ ho with ⟨rfl,rfl,_⟩|⟨_,ho⟩
     ·exact h3c
     ·exact ho
    ·simp [ltF,w3n,znn,znf]
     omega
    ·simp [aK,wk2,wk1,wkM,Fr.get]
   obtain ⟨k,w⟩:=k
   dsimp only at hk ⊢
   have d21:((21:Int) != 21)=false:=rfl
   have d21':((21:Int)==21)=true:=rfl
   have dneg:decide ((-1:Int)<0)=true:=rfl
   simp only [go_sem]
   refine aj (fun hcc=>?_) (fun hcc=>?_)
   ·have hk5:k<5:=by simp at hcc;omega
    have ei:IntKind.i64.wrap ((k:Int)+1)=((k+1:Nat):Int):=by rw [wrap_i64]<;>omega
    simp only [aV,aG,bhq,Nat.reduceMod,Nat.reduceDiv,aC,aB,aD,aR,aF,aQ,aN,aO,aP,yaq,yar,yao,yap,go_sem,w3s,w30,w3c,w3n,m0,mc,ms,mT]
    refine ⟨S',⟨rfl,hG'⟩,?_⟩
    rw [aU hL2]
    obtain ⟨o1,o2,o3,o4,-⟩:=yt hG' hR' (b:=B2) (v:=min w B2.length)
    generalize lN S' B2 (min w B2.length)=U at *
    obtain ⟨⟨kd,e⟩,w'⟩:=U
    dsimp only at o1 o2 o3 o4
    by_cases hq:e.table=t
    ·have dq:(e.table==t)=true:=by simp [hq]
     simp only [aV,aG,bhq,Nat.reduceMod,Nat.reduceDiv,aC,aB,aD,aR,aF,aQ,aN,aO,aP,yaq,yar,yao,yap,go_sem,w3s,w30,w3c,w3n,m0,mc,ms,xF,lL,aJ,dq,eD]
     refine ⟨S',kd,e,⟨rfl,rfl,hP',o1⟩,?_⟩
     rw [hp21 kd e hq]
     try simp only [aV,aG,bhq,Nat.reduceMod,Nat.reduceDiv,aC,aB,aD,aR,aF,aQ,aN,aO,aP,yaq,yar,yao,yap,go_sem,w3s,w30,w3c,w3n,m0,mc,ms,d21]
     try simp only [aV,aG,bhq,Nat.reduceMod,Nat.reduceDiv,aC,aB,aD,aR,aF,aQ,aN,aO,aP,yaq,yar,yao,yap,go_sem,w3s,w30,w3c,w3n,m0,mc,ms,jp]
     refine ⟨S',⟨rfl,hP'.rl.sl⟩,?_⟩
     rcases fa (q:=fun x:SRole=>x.id==role) (l:=S'.roles) with ⟨b1,b2⟩|⟨i,x,b1,_,_,b2,_⟩
     ·rw [b1]
      try simp only [aV,aG,bhq,Nat.reduceMod,Nat.reduceDiv,aC,aB,aD,aR,aF,aQ,aN,aO,aP,yaq,yar,yao,yap,go_sem,w3s,w30,w3c,w3n,m0,mc,ms,dneg,eD,lL,aJ]
      refine ⟨S',kd,e,⟨rfl,rfl,hP',o1⟩,?_⟩
      rw [wa b2]
      try simp only [aV,aG,bhq,Nat.reduceMod,Nat.reduceDiv,aC,aB,aD,aR,aF,aQ,aN,aO,aP,yaq,yar,yao,yap,go_sem,w3s,w30,w3c,w3n,m0,mc,ms,d21,ei]
      refine ⟨(k+1,w'),by dsimp only;omega,by dsimp only;omega,?_⟩
      refine ⟨by (try simp only [zkq,zkv,zle,w3n]);omega,by repeat first|exact .refl _|refine .push ?_ _,w3cl _,?_,?_⟩
      ·simp [ltF,w3n,znn,znf]
       omega
      ·simp [aK,wk2,wk1,wkM,Fr.get]
     ·rw [b1]
      have dpos:decide ((i:Int)<0)=false:=by simp
      try simp only [aV,aG,bhq,Nat.reduceMod,Nat.reduceDiv,aC,aB,aD,aR,aF,aQ,aN,aO,aP,yaq,yar,yao,yap,go_sem,w3s,w30,w3c,w3n,m0,mc,ms,dpos,ei]
      refine ⟨(k+1,w'),by dsimp only;omega,by dsimp only;omega,?_⟩
      refine ⟨by (try simp only [zkq,zkv,zle,w3n]);omega,by repeat first|exact .refl _|refine .push ?_ _,w3cl _,?_,?_⟩
      ·simp [ltF,w3n,znn,znf]
       omega
      ·simp [aK,wk2,wk1,wkM,Fr.get]
    ·have dq:(e.table==t)=false:=by simp [hq]
     simp only [aV,aG,bhq,Nat.reduceMod,Nat.reduceDiv,aC,aB,aD,aR,aF,aQ,aN,aO,aP,yaq,yar,yao,yap,go_sem,w3s,w30,w3c,w3n,m0,mc,ms,xF,lL,aJ,dq]
     try simp only [aV,aG,bhq,Nat.reduceMod,Nat.reduceDiv,aC,aB,aD,aR,aF,aQ,aN,aO,aP,yaq,yar,yao,yap,go_sem,w3s,w30,w3c,w3n,m0,mc,ms,jp]
     refine ⟨S',⟨rfl,hP'.rl.sl⟩,?_⟩
     rcases fa (q:=fun x:SRole=>x.id==role) (l:=S'.roles) with ⟨b1,b2⟩|⟨i,x,b1,_,_,b2,_⟩
     ·rw [b1]
      try simp only [aV,aG,bhq,Nat.reduceMod,Nat.reduceDiv,aC,aB,aD,aR,aF,aQ,aN,aO,aP,yaq,yar,yao,yap,go_sem,w3s,w30,w3c,w3n,m0,mc,ms,dneg,eD,lL,aJ]
      refine ⟨S',kd,e,⟨rfl,rfl,hP',o1⟩,?_⟩
      rw [wa b2]
      try simp only [aV,aG,bhq,Nat.reduceMod,Nat.reduceDiv,aC,aB,aD,aR,aF,aQ,aN,aO,aP,yaq,yar,yao,yap,go_sem,w3s,w30,w3c,w3n,m0,mc,ms,d21,ei]
      refine ⟨(k+1,w'),by dsimp only;omega,by dsimp only;omega,?_⟩
      refine ⟨by (try simp only [zkq,zkv,zle,w3n]);omega,by repeat first|exact .refl _|refine .push ?_ _,w3cl _,?_,?_⟩
      ·simp [ltF,w3n,znn,znf]
       omega
      ·simp [aK,wk2,wk1,wkM,Fr.get]
     ·rw [b1]
      have dpos:decide ((i:Int)<0)=false:=by simp
      try simp only [aV,aG,bhq,Nat.reduceMod,Nat.reduceDiv,aC,aB,aD,aR,aF,aQ,aN,aO,aP,yaq,yar,yao,yap,go_sem,w3s,w30,w3c,w3n,m0,mc,ms,dpos,ei]
      refine ⟨(k+1,w'),by dsimp only;omega,by dsimp only;omega,?_⟩
      refine ⟨by (try simp only [zkq,zkv,zle,w3n]);omega,by repeat first|exact .refl _|refine .push ?_ _,w3cl _,?_,?_⟩
      ·simp [ltF,w3n,znn,znf]
       omega
      ·simp [aK,wk2,wk1,wkM,Fr.get]
   ·simp only [aV,aG,bhq,Nat.reduceMod,Nat.reduceDiv,aC,aB,aD,aR,aF,aQ,aN,aO,aP,yaq,yar,yao,yap,go_sem,w3s,w30,w3c,w3n,m0,mc,ms,eD]
    refine ⟨S',1,et,⟨rfl,rfl,hP',hetA⟩,?_⟩
    rw [hp21 1 et hett]
    simp only [aV,aG,bhq,Nat.reduceMod,Nat.reduceDiv,aC,aB,aD,aR,aF,aQ,aN,aO,aP,yaq,yar,yao,yap,go_sem,w3s,w30,w3c,w3n,m0,mc,ms,d21',mU]
    exact Z31
 have hie:(r1.grants.map a9).isEmpty=false:=by
  cases hq:r1.grants with
  |nil=>exact absurd hq hge
  |cons x y=>rfl
 refine ACalls.fW ax (tCq xu (tCq mH (tCq wt (tCq sq (tCq n5 (tCq tA (tCq t9 tNq))))))) Tryz.func6 [.tmp 10] (nrq _) (T:=aq [(3,[[1]]),(4,[[3,12]]),(11,[[1,1]]),(12,[[1]])]) (h:=fun hcl hlt=>?_)
 clear hlt
 simp only [go_sem,aJ,mw]
 refine ⟨x1,⟨rfl,by omega⟩,?_⟩
 rw [hB1,hz1]
 simp only [aV,aG,bhq,Nat.reduceMod,Nat.reduceDiv,aC,aB,aD,aR,aF,aQ,aN,aO,aP,yaq,yar,yao,yap,go_sem,mw,gk,aU hL1,Nat.zero_min,cp0,hS,kC]
 refine ⟨x2,⟨rfl,by omega⟩,?_⟩
 rw [hB2,hz2]
 apply gM (α:=AHeap × Nat × Nat × Nat) (fun x=>[(4,.int .i64 role),(7,.ptr H.nx 0),(11,.ptr x.2.2.2 0),(12,.ptr x.2.2.1 0),(13,.int .i64 t)]) (fun x=>x.1) (fun x=>x.1.Closed∧H.Le x.1∧ay x.1 H.nx=some (aJ e0)∧ay x.1 x.2.1=some (i8 [r0,r1,r2])∧x.1.get x.2.2.1=some (co B2 0)∧ay x.1 x.2.2.2=some (kC S x.2.1)∧H.nx<x.2.1∧x.2.1<x.2.2.1∧x.2.2.1<x.2.2.2)
 ·intro J
  try simp only [aV,aG,bhq,Nat.reduceMod,Nat.reduceDiv,aC,aB,aD,aR,aF,aQ,aN,aO,aP,yaq,yar,yao,yap,go_sem,gu]
  refine ⟨⟨by omega,by omega,by decide,by decide⟩,?_⟩
  try simp only [aV,aG,bhq,Nat.reduceMod,Nat.reduceDiv,aC,aB,aD,aR,aF,aQ,aN,aO,aP,yaq,yar,yao,yap,go_sem,e1t]
  have hcl9:=aa (aa (aa (aA (aA (aA (aA (aA (aA (aA (aA (aA (aA (aA (aA (aA (aA (aA (aA (aA (aa (aa hcl (tm e0)) (dB (b:=B1) (v:=w1)))))))))))))))))))) (iJ (f:=bZ) (l:=[r0,r1,r2]) ji)) (dB (b:=B2) (v:=0))) (cs:=kC S (H.nx+1+1+1+1+1+1+1+1+1+1+1+1+1+1+1+1+1+1+1)) (by have:=xx (n:=(H.nx+1+1+1+1+1+1+1+1+1+1+1+1+1+1+1+1+1+1+1+1+1+1)) (r:=(H.nx+1+1+1+1+1+1+1+1+1+1+1+1+1+1+1+1+1+1+1)) (x:=S) (by omega);rwa [znr] at this)
  refine uh J ((H.nx+1+1+1+1+1+1+1+1+1+1+1+1+1+1+1+1+1+1+1),(H.nx+1+1+1+1+1+1+1+1+1+1+1+1+1+1+1+1+1+1+1+1),(H.nx+1+1+1+1+1+1+1+1+1+1+1+1+1+1+1+1+1+1+1+1+1)) ⟨?_,?_,?_,?_,?_,?_,by dsimp only;omega,by dsimp only;omega,by dsimp only;omega⟩ ?_ ?_ ?_ ?_
  ·rw [hr3];exact hcl9
  ·dsimp only
   repeat (with_reducible first|refine lPq ?_ _|refine J2 ?_|exact lRq _)
  ·simp only [go_sem,aJ]
  ·rw [← hr3]
   simp only [go_sem]
  ·(simp only [go_sem];rfl)
  ·simp only [go_sem,kC]
  ·show H.nx≤_
   simp only [zle,eo]
   omega
  ·rw [hr3];exact hcl9
  ·simp [ltF,zle,eo,znn,znf]
   try omega
  ·simp [aK,wk2,wk1,wkM,Fr.get]
 ·rintro ⟨G,r,c,s⟩ ⟨g1,g2,g3,g4,g5,g6,o1,o2,o3⟩
  dsimp only at g1 g2 g3 g4 g5 g6 o1 o2 o3
  have hsl:=glq (iQ g6)
  have n0:=eX (show H.nx<G.nx by omega)
  have nr:=eX (show r<G.nx by omega)
  have nc:=eX (show c<G.nx by omega)
  have ns:=eX (show s<G.nx by omega)
  have hrl:r<G.nx:=by omega
  have nrs:(s=r)=False:=eq_false (by omega)
  have nrc:(c=r)=False:=eq_false (by omega)
  have nr0:(H.nx=r)=False:=eq_false (by omega)
  simp only [kC] at g6
  simp only [i8,bZ,List.flatMap_cons,List.flatMap_nil,yal,yak,AV.cells] at g4
  have hone:∀ z∈List.map a9 r1.grants,bg z.cells=true:=fun z hz=>by
   obtain ⟨x,_,rfl⟩:=List.mem_map.1 hz;rfl
  have hg4:=(hR.gl r1 (by rw [hr3];simp)).1
  have hs1:∀ cs,ay (G.set r (.cells cs)) r=some cs:=fun cs=>by rw [dM hrl,if_pos rfl]
  have hs2:∀ cs,ay (G.set r (.cells cs)) s=ay G s:=fun cs=>by rw [dM hrl,if_neg (by omega)]
  have hsn:∀ cs,(G.set r (.cells cs)).nx=G.nx:=fun cs=>rfl
  obtain ⟨rc,hrc2⟩:∃ rc:AV→List AV,rc=fun x=>[.int .i64 r0.id,.str r0.name,.slice .any 4 (r0.grants.map a9),.slice .any 1 (inL r0.actions),.int .i64 r0.quota,.bool r0.audit,.int .i64 r1.id,.str r1.name,x,.slice .any 1 (inL r1.actions),.int .i64 r1.quota,.bool r1.audit,.int .i64 r2.id,.str r2.name,.slice .any 4 (r2.grants.map a9),.slice .any 1 (inL r2.actions),.int .i64 r2.quota,.bool r2.audit]:=⟨_,rfl⟩
  have hrcl:∀ n x,AV.lt n x→ltL n (rc x):=fun n x hx=>by
   rw [hrc2]
   simp [znu,znv,znf,znh,zng,hx,aW fU,ot]
  simp only [aV,aG,bhq,Nat.reduceMod,Nat.reduceDiv,aC,aB,aD,aR,aF,aQ,aN,aO,aP,yaq,yar,yao,yap,go_sem,g4,g6,n0,nr,nc,ns,hrl,nrs,nrc,nr0,hie,hs1,hs2,hsn,ybb]
  refine ⟨⟨by decide,by decide⟩,⟨by omega,by omega,hone⟩,by simpa using hge,fun kk=>?_⟩
  obtain ⟨J,hJ⟩:∃ J,J=List.replicate kk AV.junk:=⟨_,rfl⟩
  have hJl:∀ n,ltL n J:=fun n=>by
   rw [hJ]
   exact ltL_iff.2 fun j hj=>by rw [List.getElem_replicate,AV.lt]<;>simp
  obtain ⟨HL,hHL⟩:∃ HL:Nat→AHeap,HL=fun k=>(G.set r (.cells (rc (.ms G.nx 0 4 r1.grants.length)))).push (.cells ((gsK t r1.grants k).flatMap fh++J)):=⟨_,rfl⟩
  have hlm:∀ n,G.nx<n→AV.lt n (.ms G.nx 0 4 r1.grants.length):=fun n hn=>by rw [znp];exact hn
  have hcG:∀ k,ClN (G.nx+1) (HL k):=fun k=>by
   rw [hHL]
   refine ClN.cells (fun i cs hi j hj=>?_) (BX (iJ (f:=a9) fU) (hJl _))
   rcases AHeap.get_set_inv _ _ hi with ⟨_,e,_⟩|⟨_,hi⟩
   ·cases e
    exact ltL_iff.1 (hrcl _ _ (hlm _ (by omega))) j hj
   ·exact AV.lt_mono (Nat.le_succ _) _ (g1 i cs hi j hj)
  have hclL:∀ k,(HL k).Closed:=fun k=>by
   have h1:=hcG k
   have h2:(HL k).nx=G.nx+1:=by rw [hHL];rfl
   unfold AHeap.Closed
   rw [h2]
   exact h1
  have hfl:List.flatMap AV.cells (r1.grants.map a9)=(gsK t r1.grants 0).flatMap fh:=by rw [FA,List.flatMap_map];rfl
  rw [hfl,← hJ]
  refine aE (A:=Nat) (fun k=>[(4,.int .i64 role),(7,.ptr H.nx 0),(11,.ptr s 0),(12,.ptr c 0),(13,.int .i64 t),(14,.ptr r 6),(42,.int .i64 (r1.grants.length:Int)),(43,.int .i64 (k:Int))]) HL (fun k=>k≤r1.grants.length) (fun k=>r1.grants.length - k) 0 (Nat.zero_le _) ?_ fun k hk=>?_
  ·refine ⟨by rw [hHL];simp only [zkq,zkv,zle,zlf];omega,by rw [hHL,hrc2];exact lRq _,hclL _,?_,?_⟩
   ·rw [hHL]
    simp [ltF,zle,zlf,znn,znf]
    try omega
   ·simp [aK,wk2,wk1,wkM,Fr.get]
  have hHk:HL k=(G.set r (.cells (rc (.ms G.nx 0 4 r1.grants.length)))).push (.cells ((gsK t r1.grants k).flatMap fh++J)):=by rw [hHL]
  rw [hHk,hrc2]
  simp only [go_sem]
  refine aj (fun hc=>?_) (fun hc=>?_)
  ·have hk':k<r1.grants.length:=by simp at hc;omega
   have ei:IntKind.i64.wrap ((k:Int)+1)=((k+1:Nat):Int):=by rw [wrap_i64]<;>omega
   obtain ⟨a1,a2⟩:=Kz (t:=t) hk'
   obtain ⟨g,hgd⟩:∃ g,g=r1.grants[k]:=⟨_,rfl⟩
   rw [← hgd] at a1 a2
   obtain ⟨C0,hC0⟩:∃ C0,C0=((r1.grants.take k).map (unW t)).flatMap fh:=⟨_,rfl⟩
   obtain ⟨Z,hZ⟩:∃ Z,Z=(r1.grants.drop (k+1)).flatMap fh++J:=⟨_,rfl⟩
   have hC:k*4=C0.length:=by
    rw [hC0]
    have:∀ l:List SGrant,(l.flatMap fh).length=l.length*4:=fun l=>by
     induction l with
     |nil=>rfl
     |cons x l ih=>rw [List.flatMap_cons,lAq,ih,yaz];show 4+_=_;omega
    rw [this,ybb,List.length_take];congr 1;omega
   have hf1:(gsK t r1.grants k).flatMap fh++J=C0++(fh g++Z):=by rw [a1,List.flatMap_append,List.flatMap_cons,hC0,hZ];simp [List.append_assoc]
   have hf2:(gsK t r1.grants (k+1)).flatMap fh++J=C0++(fh (unW t g)++Z):=by rw [a2,List.flatMap_append,List.flatMap_cons,hC0,hZ];simp [List.append_assoc]
   have hclN:=hclL (k+1)
   have hHk1:HL (k+1)=(G.set r (.cells (rc (.ms G.nx 0 4 r1.grants.length)))).push (.cells (C0++(fh (unW t g)++Z))):=by rw [hHL];dsimp only;rw [hf2]
   have hln:C0.length+4≤(C0++(fh g++Z)).length:=by simp only [lAq,fh,yaz,yba];omega
   simp only [aV,aG,bhq,Nat.reduceMod,Nat.reduceDiv,aC,aB,aD,aR,aF,aQ,aN,aO,aP,yaq,yar,yao,yap,go_sem,hs1,hs2,hsn,g6,n0,nr,nc,ns,hrl,nrs,nrc,nr0,iNq,nzq,hC,hf1,ye,DT,fh,yal,yak]
   refine ⟨⟨by omega,by omega⟩,by simp,?_⟩
   refine aj (fun hq=>?_) (fun hq=>?_)
   ·have hgt':g.table=t:=by simpa using hq
    have hw:fh (unW t g)=[.int .i64 g.table,.bool g.read,.bool false,.slice .any 1 (boL g.keys)]:=by unfold unW;rw [if_pos hgt'];rfl
    rw [hw] at hHk1
    simp only [aV,aG,bhq,Nat.reduceMod,Nat.reduceDiv,aC,aB,aD,aR,aF,aQ,aN,aO,aP,yaq,yar,yao,yap,go_sem,hs1,hs2,hsn,g6,n0,nr,nc,ns,hrl,nrs,nrc,nr0,iNq,nzq,hC,hf1,ox,yL,fh,yal,yak,splice,ei]
    refine ⟨⟨by omega,by omega⟩,by (simp only [lAq,yaz];omega),k+1,by omega,by omega,?_⟩
    refine ⟨by rw [hHL];simp only [zkq,zkv,zle,zlf];omega,by rw [hHk1,hrc2];exact lRq _,hclN,?_,?_⟩
    ·rw [hHL]
     simp [ltF,zle,zlf,znn,znf]
     try omega
    ·simp [aK,wk2,wk1,wkM,Fr.get]
   ·have hgt':¬ g.table=t:=by simpa using hq
    have hw:unW t g=g:=by unfold unW;rw [if_neg hgt']
    rw [hw] at hHk1
    simp only [aV,aG,bhq,Nat.reduceMod,Nat.reduceDiv,aC,aB,aD,aR,aF,aQ,aN,aO,aP,yaq,yar,yao,yap,go_sem,ei]
    refine ⟨k+1,by omega,by omega,?_⟩
    refine ⟨by rw [hHL];simp only [zkq,zkv,zle,zlf];omega,by rw [hHk1,hrc2];exact lRq _,hclN,?_,?_⟩
    ·rw [hHL]
     simp [ltF,zle,zlf,znn,znf]
     try omega
    ·simp [aK,wk2,wk1,wkM,Fr.get]
  have hk':k=r1.grants.length:=by simp at hc;omega
  subst hk'
  clear hc
  have hrow:bz 4 r1.grants.length (((gsK t r1.grants r1.grants.length).flatMap fh++J).drop 0)=(r1.grants.map (unW t)).map a9:=by
   have:=tt (sz:=4) (by decide) fh (fun x=>rfl) J (r1.grants.map (unW t))
   rw [ybb] at this
   rw [yap,Jm]
   exact this
  simp only [aV,aG,bhq,Nat.reduceMod,Nat.reduceDiv,aC,aB,aD,aR,aF,aQ,aN,aO,aP,yaq,yar,yao,yap,go_sem]
  have hclN:=hclL r1.grants.length
  rw [hHk,hrc2] at hclN
  refine tf r 8 G.nx 0 4 r1.grants.length ((r1.grants.map (unW t)).map a9) (by rw [gPq _ _ (by exact hrl)];exact AHeap.get_set_same _ _ hrl) rfl (by omega) (by simp only [go_sem,hsn]) hrow (aW fU) hclN fun G1 hg1 hk1 hn1 hc1=>?_
  have hkp:∀ i o,i<G.nx→i≠r→G.get i=some o→G1.get i=some o:=fun i o h1 h2 h3=>hk1 i o h2 (by omega) (by
   rw [gPq _ _ (by exact h1),AHeap.get_set_ne _ _ h2];exact h3)
  refine tf s 6 r 0 6 3 (S'.roles.map bZ) (hkp s _ hsl (by omega) (iQ g6)) rfl (by omega) (au hg1) (by rw [hS'];rfl) (aW ji) hc1 fun G2 hg2 hk2 hn2 hc2'=>?_
  have h2s:ay G2 s=some (aY S'):=by rw [au hg2,hS'];rfl
  have h20:=hk2 H.nx _ (by omega) (by omega) (hkp _ _ (by omega) (by omega) (iQ g3))
  have h2c:=hk2 c _ (by omega) (by omega) (hkp _ _ (by omega) (by omega) g5)
  have hle2:H.Le G2:=⟨by have:=glq h2c;omega,fun i o ho=>by
   have hi:=glq ho
   exact hk2 i o (by omega) (by omega) (hkp i o (by omega) (by omega) (g2.get i o ho))⟩
  have h2l:=glq h20
  have hsl2:=glq hg2
  clear hk2 hg2 hkp
  obtain ⟨et,het⟩:∃ et:SEntry,et={ e0 with table:=t }:=⟨_,rfl⟩
  have hetA:EAll et:=by rw [het];exact ⟨⟨he0.ok.ml,he0.ok.al,he0.ok.mo⟩,⟨he0.ar.ar,he0.ar.al⟩,⟨he0.ad.ml,he0.ad.pf,he0.ad.pr,he0.ad.mo,he0.ad.ar⟩⟩
  have hett:et.table=t:=by rw [het]
  have hetC:aJ et=[.int .i64 t,.slice .any 8 (e0.ms.map aT),.int .i64 e0.prio,.int .i64 e0.act,.slice .any 2 (e0.args.map vv)]:=by rw [het];rfl
  obtain ⟨G3,hG3⟩:∃ G3,G3=G2.set H.nx (.cells (aJ et)):=⟨_,rfl⟩
  have h20':=au h20
  simp only [aJ] at h20'
  simp only [aV,aG,bhq,Nat.reduceMod,Nat.reduceDiv,aC,aB,aD,aR,aF,aQ,aN,aO,aP,yaq,yar,yao,yap,go_sem,h20']
  have h3n:G3.nx=G2.nx:=by rw [hG3];rfl
  have h3cl:G3.Closed:=by rw [hG3];exact ai hc2' (tm et)
  have h3s:G3.get s=some (.cells (aY S')):=by rw [hG3,AHeap.get_set_ne _ _ (by omega)];exact iQ h2s
  have h30:G3.get H.nx=some (.cells (aJ et)):=by rw [hG3];exact AHeap.get_set_same _ _ h2l
  have h3c:G3.get c=some (co B2 0):=by rw [hG3,AHeap.get_set_ne _ _ (by omega)];exact h2c
  have hle3:H.Le G3:=⟨by omega,fun i o ho=>by
   have hi:=glq ho
   rw [hG3,AHeap.get_set_ne _ _ (by omega)]
   exact hle2.get i o ho⟩
  have h3cl':=glq h3c
  refine ik [(4,.int .i64 role),(7,.ptr H.nx 0),(11,.ptr s 0),(12,.ptr c 0),(13,.int .i64 t)] G3 ⟨by show H.nx≤_;omega,by rw [hG3,hetC];exact lRq _,h3cl,?_,?_⟩ ?_
  ·simp [ltF,znn,znf]
   omega
  ·simp [aK,wk2,wk1,wkM,Fr.get]
  have m0:=eX (show H.nx<G3.nx by omega)
  have mc:=eX (show c<G3.nx by omega)
  have ms:=eX (show s<G3.nx by omega)
  have w3s:∀ w,ay (G3.set c (co B2 w)) s=some (aY S'):=fun w=>au (by rw [AHeap.get_set_ne _ _ (by omega)];exact h3s)
  have w30:∀ w,ay (G3.set c (co B2 w)) H.nx=some (aJ et):=fun w=>au (by rw [AHeap.get_set_ne _ _ (by omega)];exact h30)
  have w3c:∀ w,(G3.set c (co B2 w)).get c=some (co B2 w):=fun w=>AHeap.get_set_same _ _ h3cl'
  have w3n:∀ w,(G3.set c (co B2 w)).nx=G3.nx:=fun w=>rfl
  have w3cl:∀ w,(G3.set c (co B2 w)).Closed:=fun w=>ai h3cl dB
  have w3le:∀ w,H.Le (G3.set c (co B2 w)):=fun w=>⟨by rw [w3n];omega,fun i o ho=>by
   have hi:=glq ho
   rw [AHeap.get_set_ne _ _ (by omega)]
   exact hle3.get i o ho⟩
  clear hG3 h20' h2s h20 h2c hle2
  simp only [aY] at w3s
  simp only [aJ] at w30
  simp only [aV,aG,bhq,Nat.reduceMod,Nat.reduceDiv,aC,aB,aD,aR,aF,aQ,aN,aO,aP,yaq,yar,yao,yap,go_sem]
  refine aE (A:=Nat × Nat) (fun k=>[(4,.int .i64 role),(7,.ptr H.nx 0),(11,.ptr s 0),(12,.ptr c 0),(13,.int .i64 t),(16,.int .i64 (k.1:Int))]) (fun k=>G3.set c (co B2 k.2)) (fun k=>k.1≤5) (fun k=>5 - k.1) (0,0) (Nat.zero_le _) ?_ fun k hk=>?_
  ·refine ⟨by (try simp only [zkq,zkv]);rw [w3n];omega,⟨nrq _,fun i o ho=>?_⟩,w3cl _,?_,?_⟩
   ·rcases AHeap.get_set_inv _ _ ho with ⟨rfl,rfl,_⟩|⟨_,ho⟩
    ·exact h3c
    ·exact ho
   ·simp [ltF,w3n,znn,znf]
    omega
   ·simp [aK,wk2,wk1,wkM,Fr.get]
  obtain ⟨k,w⟩:=k
  dsimp only at hk ⊢
  have d21:((21:Int) != 21)=false:=rfl
  have d21':((21:Int)==21)=true:=rfl
  have dneg:decide ((-1:Int)<0)=true:=rfl
  simp only [go_sem]
  refine aj (fun hcc=>?_) (fun hcc=>?_)
  ·have hk5:k<5:=by simp at hcc;omega
   have ei:IntKind.i64.wrap ((k:Int)+1)=((k+1:Nat):Int):=by rw [wrap_i64]<;>omega
   simp only [aV,aG,bhq,Nat.reduceMod,Nat.reduceDiv,aC,aB,aD,aR,aF,aQ,aN,aO,aP,yaq,yar,yao,yap,go_sem,w3s,w30,w3c,w3n,m0,mc,ms,mT]
   refine ⟨S',⟨rfl,hG'⟩,?_⟩
   rw [aU hL2]
   obtain ⟨o1,o2,o3,o4,-⟩:=yt hG' hR' (b:=B2) (v:=min w B2.length)
   generalize lN S' B2 (min w B2.length)=U at *
   obtain ⟨⟨kd,e⟩,w'⟩:=U
   dsimp only at o1 o2 o3 o4
   by_cases hq:e.table=t
   ·have dq:(e.table==t)=true:=by simp [hq]
    simp only [aV,aG,bhq,Nat.reduceMod,Nat.reduceDiv,aC,aB,aD,aR,aF,aQ,aN,aO,aP,yaq,yar,yao,yap,go_sem,w3s,w30,w3c,w3n,m0,mc,ms,xF,lL,aJ,dq,eD]
    refine ⟨S',kd,e,⟨rfl,rfl,hP',o1⟩,?_⟩
    rw [hp21 kd e hq]
    try simp only [aV,aG,bhq,Nat.reduceMod,Nat.reduceDiv,aC,aB,aD,aR,aF,aQ,aN,aO,aP,yaq,yar,yao,yap,go_sem,w3s,w30,w3c,w3n,m0,mc,ms,d21]
    try simp only [aV,aG,bhq,Nat.reduceMod,Nat.reduceDiv,aC,aB,aD,aR,aF,aQ,aN,aO,aP,yaq,yar,yao,yap,go_sem,w3s,w30,w3c,w3n,m0,mc,ms,jp]
    refine ⟨S',⟨rfl,hP'.rl.sl⟩,?_⟩
    rcases fa (q:=fun x:SRole=>x.id==role) (l:=S'.roles) with ⟨b1,b2⟩|⟨i,x,b1,_,_,b2,_⟩
    ·rw [b1]
     try simp only [aV,aG,bhq,Nat.reduceMod,Nat.reduceDiv,aC,aB,aD,aR,aF,aQ,aN,aO,aP,yaq,yar,yao,yap,go_sem,w3s,w30,w3c,w3n,m0,mc,ms,dneg,eD,lL,aJ]
     refine ⟨S',kd,e,⟨rfl,rfl,hP',o1⟩,?_⟩
     rw [wa b2]
     try simp only [aV,aG,bhq,Nat.reduceMod,Nat.reduceDiv,aC,aB,aD,aR,aF,aQ,aN,aO,aP,yaq,yar,yao,yap,go_sem,w3s,w30,w3c,w3n,m0,mc,ms,d21,ei]
     refine ⟨(k+1,w'),by dsimp only;omega,by dsimp only;omega,?_⟩
     refine ⟨by (try simp only [zkq,zkv,zle,w3n]);omega,by repeat first|exact .refl _|refine .push ?_ _,w3cl _,?_,?_⟩
     ·simp [ltF,w3n,znn,znf]
      omega
     ·simp [aK,wk2,wk1,wkM,Fr.get]
    ·rw [b1]
     have dpos:decide ((i:Int)<0)=false:=by simp
     try simp only [aV,aG,bhq,Nat.reduceMod,Nat.reduceDiv,aC,aB,aD,aR,aF,aQ,aN,aO,aP,yaq,yar,yao,yap,go_sem,w3s,w30,w3c,w3n,m0,mc,ms,dpos,ei]
     refine ⟨(k+1,w'),by dsimp only;omega,by dsimp only;omega,?_⟩
     refine ⟨by (try simp only [zkq,zkv,zle,w3n]);omega,by repeat first|exact .refl _|refine .push ?_ _,w3cl _,?_,?_⟩
     ·simp [ltF,w3n,znn,znf]
      omega
     ·simp [aK,wk2,wk1,wkM,Fr.get]
   ·have dq:(e.table==t)=false:=by simp [hq]
    simp only [aV,aG,bhq,Nat.reduceMod,Nat.reduceDiv,aC,aB,aD,aR,aF,aQ,aN,aO,aP,yaq,yar,yao,yap,go_sem,w3s,w30,w3c,w3n,m0,mc,ms,xF,lL,aJ,dq]
    try simp only [aV,aG,bhq,Nat.reduceMod,Nat.reduceDiv,aC,aB,aD,aR,aF,aQ,aN,aO,aP,yaq,yar,yao,yap,go_sem,w3s,w30,w3c,w3n,m0,mc,ms,jp]
    refine ⟨S',⟨rfl,hP'.rl.sl⟩,?_⟩
    rcases fa (q:=fun x:SRole=>x.id==role) (l:=S'.roles) with ⟨b1,b2⟩|⟨i,x,b1,_,_,b2,_⟩
    ·rw [b1]
     try simp only [aV,aG,bhq,Nat.reduceMod,Nat.reduceDiv,aC,aB,aD,aR,aF,aQ,aN,aO,aP,yaq,yar,yao,yap,go_sem,w3s,w30,w3c,w3n,m0,mc,ms,dneg,eD,lL,aJ]
     refine ⟨S',kd,e,⟨rfl,rfl,hP',o1⟩,?_⟩
     rw [wa b2]
     try simp only [aV,aG,bhq,Nat.reduceMod,Nat.reduceDiv,aC,aB,aD,aR,aF,aQ,aN,aO,aP,yaq,yar,yao,yap,go_sem,w3s,w30,w3c,w3n,m0,mc,ms,d21,ei]
     refine ⟨(k+1,w'),by dsimp only;omega,by dsimp only;omega,?_⟩
     refine ⟨by (try simp only [zkq,zkv,zle,w3n]);omega,by repeat first|exact .refl _|refine .push ?_ _,w3cl _,?_,?_⟩
     ·simp [ltF,w3n,znn,znf]
      omega
     ·simp [aK,wk2,wk1,wkM,Fr.get]
    ·rw [b1]
     have dpos:decide ((i:Int)<0)=false:=by simp
     try simp only [aV,aG,bhq,Nat.reduceMod,Nat.reduceDiv,aC,aB,aD,aR,aF,aQ,aN,aO,aP,yaq,yar,yao,yap,go_sem,w3s,w30,w3c,w3n,m0,mc,ms,dpos,ei]
     refine ⟨(k+1,w'),by dsimp only;omega,by dsimp only;omega,?_⟩
     refine ⟨by (try simp only [zkq,zkv,zle,w3n]);omega,by repeat first|exact .refl _|refine .push ?_ _,w3cl _,?_,?_⟩
     ·simp [ltF,w3n,znn,znf]
      omega
     ·simp [aK,wk2,wk1,wkM,Fr.get]
  ·simp only [aV,aG,bhq,Nat.reduceMod,Nat.reduceDiv,aC,aB,aD,aR,aF,aQ,aN,aO,aP,yaq,yar,yao,yap,go_sem,w3s,w30,w3c,w3n,m0,mc,ms,eD]
   refine ⟨S',1,et,⟨rfl,rfl,hP',hetA⟩,?_⟩
   rw [hp21 1 et hett]
   simp only [aV,aG,bhq,Nat.reduceMod,Nat.reduceDiv,aC,aB,aD,aR,aF,aQ,aN,aO,aP,yaq,yar,yao,yap,go_sem,w3s,w30,w3c,w3n,m0,mc,ms,d21',mU]
   exact Z31
end Go.AL
