/- Lemmas of the proof; no condition. -/
import Derived.Test.YtpbnggedofiinaaGreatCG
import Derived.Test.YtpbnggedofiinaaGreatLBack
set_option linter.all false
set_option maxRecDepth 10000
open List renaming length_cons → yaz, length_nil → yba, take_of_length_le → ybc, drop_append → ybd, take_append → ybe, drop_eq_nil_of_le → ybf, drop_zero → yap
open Go Go.AL Go.Proofs
namespace Go.AL
def lu:List AV→AHeap→(AEnd→AHeap→Prop)→Prop
 |[.ptr id 0],H,K=>onR H id fun m l e=>True∧K (.ret (vv (dx (m,l,e)).1)) (H.set id (.cells (az (dx (m,l,e)).2)))
 |_,_,_=>False
theorem pL:EntOk Tryz.prog 117 (Ent.effect lu):=by
 refine EntOk.effect fun args H K h=>?_
 unfold lu at h
 split at h
 rotate_left
 ·exact h.elim
 rename_i id
 obtain ⟨m,l,e,hid,hle,h⟩:=bB h
 obtain ⟨hpre,hK⟩:=h
 refine ⟨_,_,hK,?_⟩
 clear hK
 have hl0:=glq hid
 have hne:=aL hl0
 have hss:=bd hid
 have hcs:=ax hid
 have hcm:=fun cs=>@al H id cs hl0
 have hgm:=fun o=>@aB H id o hl0
 have v0:vv 0=.agg [.int .u64 0,.int .u64 0]:=rfl
 by_cases h0:e=0
 case neg =>
  have d0:(e != 0)=true:=by simpa using h0
  rw [show dx (m,l,e)=(0,m,l,e) by simp [dx,h0]]
  dsimp only [az]
  try rw [hss]
  refine ACalls.fW ag (tCq cG (tCq dd (tCq cq (tCq jv tNq)))) Tryz.func117 [.cell 2 38] (by simp [zlf]) (T:=af []) (h:=fun hcl hlt=>?_)
  clear hlt
  have hcl1:=fun l' e'=>ap hid hcl m (.inl rfl) l' e'
  have hcl2:=fun l' e'=>ap hid hcl .any (.inr rfl) l' e' 
  simp only [go_sem,zav,byq,hne,hid,hcs,hcm,hgm,onR,ah,ar,zmb,zlz,zlk,and_true,true_and,hid,cY,d0,v0]
  simp (disch:=first|exact Zd|omega) [↓zmo,beq,ybc,ybd,ybe,aa,wk,wk2,wk1,wkM,wkL,ak,ybf,hss,hl0,hcl,hcl1,hcl2,hle]
  try omega
 subst h0
 have d0:((0:Int) != 0)=false:=rfl
 by_cases h1:l.length<1
 ·have d1:(l.length:Int)<1:=by omega
  rw [show dx (m,l,0)=(0,m,l,1) by simp [dx,h1]]
  dsimp only [az]
  try rw [hss]
  refine ACalls.fW ag (tCq cG (tCq dd (tCq cq (tCq jv tNq)))) Tryz.func117 [.cell 2 38] (by simp [zlf]) (T:=af []) (h:=fun hcl hlt=>?_)
  clear hlt
  have hcl1:=fun l' e'=>ap hid hcl m (.inl rfl) l' e'
  have hcl2:=fun l' e'=>ap hid hcl .any (.inr rfl) l' e' 
  simp only [go_sem,zav,byq,hne,hid,hcs,hcm,hgm,onR,ah,ar,zmb,zlz,zlk,and_true,true_and,hid,cY,fP,d0,if_pos d1,v0]
  simp (disch:=first|exact Zd|omega) [↓zmo,beq,ybc,ybd,ybe,aa,wk,wk2,wk1,wkM,wkL,ak,ybf,hss,hl0,hcl,hcl1,hcl2,hle]
  try omega
 have d1:¬ (l.length:Int)<1:=by omega
 have d6:(l.take 1).length=1:=by rw [List.length_take];omega
 have d7:List.take (l.length:Int).toNat l=l:=by simp
 have d8:(bys (l.take 1)).getD 0 .junk=aO (b0 l):=C9 l 1 (by omega) (by omega)
 have hbl:=UInt8.toNat_lt (b0 l)
 have d9:IntKind.i64.wrap (((b0 l).toNat:Nat):Int)=(((b0 l).toNat:Nat):Int):=jW _ (by omega)
 by_cases h2:(b0 l).toNat<1
 ·have d2:decide (((b0 l).toNat:Int)<1)=true:=by simp;omega
  rw [show dx (m,l,0)=(0,m,l,2) by simp [dx,h1,h2]]
  dsimp only [az]
  try rw [hss]
  refine ACalls.fW ag (tCq cG (tCq dd (tCq cq (tCq jv tNq)))) Tryz.func117 [.cell 2 38] (by simp [zlf]) (T:=af []) (h:=fun hcl hlt=>?_)
  clear hlt
  have hcl1:=fun l' e'=>ap hid hcl m (.inl rfl) l' e'
  have hcl2:=fun l' e'=>ap hid hcl .any (.inr rfl) l' e' 
  simp only [go_sem,zav,byq,hne,hid,hcs,hcm,hgm,onR,ah,ar,zmb,zlz,zlk,and_true,true_and,hid,cY,fP,f6,d0,if_neg d1,d2,d6,d7,d8,d9,yap,aO,v0]
  simp (disch:=first|exact Zd|omega) [↓zmo,beq,ybc,ybd,ybe,aa,wk,wk2,wk1,wkM,wkL,ak,ybf,hss,hl0,hcl,hcl1,hcl2,hle]
  try omega
 have d2:decide (((b0 l).toNat:Int)<1)=false:=by simp;omega
 by_cases h3:16<(b0 l).toNat
 ·have d3:decide (((b0 l).toNat:Int) > 16)=true:=by simp;omega
  rw [show dx (m,l,0)=(0,m,l,2) by simp [dx,h1,h2,h3]]
  dsimp only [az]
  try rw [hss]
  refine ACalls.fW ag (tCq cG (tCq dd (tCq cq (tCq jv tNq)))) Tryz.func117 [.cell 2 38] (by simp [zlf]) (T:=af []) (h:=fun hcl hlt=>?_)
  clear hlt
  have hcl1:=fun l' e'=>ap hid hcl m (.inl rfl) l' e'
  have hcl2:=fun l' e'=>ap hid hcl .any (.inr rfl) l' e' 
  simp only [go_sem,zav,byq,hne,hid,hcs,hcm,hgm,onR,ah,ar,zmb,zlz,zlk,and_true,true_and,hid,cY,fP,f6,d0,if_neg d1,d2,d3,d6,d7,d8,d9,yap,aO,v0]
  simp (disch:=first|exact Zd|omega) [↓zmo,beq,ybc,ybd,ybe,aa,wk,wk2,wk1,wkM,wkL,ak,ybf,hss,hl0,hcl,hcl1,hcl2,hle]
  try omega
 have d3:decide (((b0 l).toNat:Int) > 16)=false:=by simp;omega
 by_cases h4:l.length<1+(b0 l).toNat
 ·have d4:(l.length:Int)<1+(((b0 l).toNat:Nat):Int):=by omega
  rw [show dx (m,l,0)=(0,m,l,1) by simp [dx,h1,h2,h3,h4]]
  dsimp only [az]
  try rw [hss]
  refine ACalls.fW ag (tCq cG (tCq dd (tCq cq (tCq jv tNq)))) Tryz.func117 [.cell 2 38] (by simp [zlf]) (T:=af []) (h:=fun hcl hlt=>?_)
  clear hlt
  have hcl1:=fun l' e'=>ap hid hcl m (.inl rfl) l' e'
  have hcl2:=fun l' e'=>ap hid hcl .any (.inr rfl) l' e' 
  simp only [go_sem,zav,byq,hne,hid,hcs,hcm,hgm,onR,ah,ar,zmb,zlz,zlk,and_true,true_and,hid,cY,fP,f6,d0,if_neg d1,if_pos d4,d2,d3,d6,d7,d8,d9,yap,aO,v0]
  simp (disch:=first|exact Zd|omega) [↓zmo,beq,ybc,ybd,ybe,aa,wk,wk2,wk1,wkM,wkL,ak,ybf,hss,hl0,hcl,hcl1,hcl2,hle]
  try omega
 have d4:¬ (l.length:Int)<1+(((b0 l).toNat:Nat):Int):=by omega
 have d5:(1+(((b0 l).toNat:Nat):Int)).toNat=1+(b0 l).toNat:=by omega
 have w1:IntKind.i64.wrap (1+(((b0 l).toNat:Nat):Int))=((1+(b0 l).toNat:Nat):Int):=by rw [wrap_i64]<;>omega
 have hpl:((l.take (1+(b0 l).toNat)).drop 1).length≤140737488355328:=by simp;omega
 have v1:∀ v,vv v=.agg [.int .u64 ((v/2^64:Nat):Int),.int .u64 ((v % 2^64:Nat):Int)]:=fun _=>rfl
 by_cases h5:(ey ((l.take (1+(b0 l).toNat)).drop 1)).2=0
 ·have dp:ey ((l.take (1+(b0 l).toNat)).drop 1)=((ey ((l.take (1+(b0 l).toNat)).drop 1)).1,0):=by rw [← h5]
  generalize (ey ((l.take (1+(b0 l).toNat)).drop 1)).1=q at *
  rw [show dx (m,l,0)=(q,Mark.any,l.drop (1+(b0 l).toNat),(0:Int)) by simp only [dx];rw [if_neg (by simp),if_neg h1,if_neg (by omega),if_neg h4,dp,if_neg (by simp)]]
  dsimp only [az]
  refine ACalls.fW ag (tCq cG (tCq dd (tCq cq (tCq jv tNq)))) Tryz.func117 [.cell 2 38] (by simp [zlf]) (T:=af []) (h:=fun hcl hlt=>?_)
  clear hlt
  have hcl1:=fun l' e'=>ap hid hcl m (.inl rfl) l' e'
  have hcl2:=fun l' e'=>ap hid hcl .any (.inr rfl) l' e' 
  simp only [go_sem,zav,byq,hne,hid,hcs,hcm,hgm,onR,ah,ar,zmb,zlz,zlk,and_true,true_and,hid,cY,fP,f6,oo,d0,if_neg d1,if_neg d4,d2,d3,d5,d6,d7,d8,d9,w1,dp,hpl,iNq,yap,aO,v1]
  simp (disch:=first|exact Zd|omega) [↓zmo,beq,ybc,ybd,ybe,aa,wk,wk2,wk1,wkM,wkL,ak,ybf,hss,hl0,hcl,hcl1,hcl2,hle]
  try omega
 ·have d10:((ey ((l.take (1+(b0 l).toNat)).drop 1)).2 != 0)=true:=by simpa using h5
  rw [show dx (m,l,0)=(0,m,l,5) by simp only [dx];rw [if_neg (by simp),if_neg h1,if_neg (by omega),if_neg h4,if_pos h5]]
  generalize hq:ey ((l.take (1+(b0 l).toNat)).drop 1)=q at *
  dsimp only [az]
  refine ACalls.fW ag (tCq cG (tCq dd (tCq cq (tCq jv tNq)))) Tryz.func117 [.cell 2 38] (by simp [zlf]) (T:=af []) (h:=fun hcl hlt=>?_)
  clear hlt
  have hcl1:=fun l' e'=>ap hid hcl m (.inl rfl) l' e'
  have hcl2:=fun l' e'=>ap hid hcl .any (.inr rfl) l' e' 
  simp only [go_sem,zav,byq,hne,hid,hcs,hcm,hgm,onR,ah,ar,zmb,zlz,zlk,and_true,true_and,hid,cY,fP,f6,oo,d0,if_neg d1,if_neg d4,d2,d3,d5,d6,d7,d8,d9,d10,w1,hq,hpl,iNq,yap,aO,v1]
  simp (disch:=first|exact Zd|omega) [↓zmo,beq,ybc,ybd,ybe,aa,wk,wk2,wk1,wkM,wkL,ak,ybf,hss,hl0,hcl,hcl1,hcl2,hle]
  try omega
theorem EntOk.eff {P:Program} {f:FuncId} {p:List AV→AHeap→(AV→Prop)→Prop} (h:EntOk P f (Ent.pure p)):EntOk P f (Ent.effect fun args H K=>p args H fun v=>K (.ret v) H) :=
 EntOk.effect fun args H K hh=>by
  obtain ⟨x,hx,hc⟩:=h.1 rfl args H (fun v=>K (.ret v) H) hh
  exact ⟨_,_,hx,hc⟩
def cg (args:List AV) (H:AHeap) (K:AEnd→AHeap→Prop):Prop:=cA args H fun v=>K (.ret v) H
def nQ (args:List AV) (H:AHeap) (K:AEnd→AHeap→Prop):Prop:=ln args H fun v=>K (.ret v) H
theorem eJ:EntOk Tryz.prog 136 (Ent.effect cg):=ok_RErr.eff
theorem pU:EntOk Tryz.prog 50 (Ent.effect nQ):=ok_RFinish.eff
end Go.AL
