/- Lemmas of the proof; no condition. -/
import Derived.Test.YtpbnggedofiinaaGreatS10v
import Derived.Test.YtpbnggedofiinaaGreatLBack
set_option linter.all false
set_option maxRecDepth 10000
open List renaming length_cons → yaz, length_nil → yba, take_of_length_le → ybc, drop_append → ybd, take_append → ybe, drop_eq_nil_of_le → ybf, drop_zero → yap, take_succ_cons → yaq, drop_succ_cons → yao
open Go Go.AL Go.Proofs
namespace Go.AL
def lW:List AV→AHeap→(AEnd→AHeap→Prop)→Prop
 |[.ptr id 0],H,K=>onR H id fun m l e=>True∧K (.ret (vv (bn (m,l,e)).1)) (H.set id (.cells (aJ (bn (m,l,e)).2)))
 |_,_,_=>False
theorem lC:EntOk Tryz.prog 117 (Ent.effect lW):=by
 refine EntOk.effect fun args H K h=>?_
 unfold lW at h
 split at h
 rotate_left
 ·exact h.elim
 rename_i id
 obtain ⟨m,l,e,hid,hle,h⟩:=dw h
 obtain ⟨hpre,hK⟩:=h
 refine ⟨_,_,hK,?_⟩
 clear hK
 have hl0:=glq hid
 have hne:=dd hl0
 have hss:=cL hid
 have hcs:=aM hid
 have hcm:=fun cs=>@bd H id cs hl0
 have hgm:=fun o=>@bA H id o hl0
 have v0:vv 0=.agg [.int .u64 0,.int .u64 0]:=rfl
 by_cases h0:e=0
 case neg =>
  have d0:(e != 0)=true:=by simpa using h0
  rw [show bn (m,l,e)=(0,m,l,e) by simp [bn,h0]]
  dsimp only [aJ]
  try rw [hss]
  refine ACalls.fW ah (tCq cJ (tCq c7 (tCq cS (tCq jk tNq)))) Tryz.func117 [.cell 2 38] (by simp [zlf]) (T:=ae []) (h:=fun hcl hlt=>?_)
  clear hlt
  have hcl1:=fun l' e'=>ax hid hcl m (.inl rfl) l' e'
  have hcl2:=fun l' e'=>ax hid hcl .any (.inr rfl) l' e' 
  simp only [go_sem,zav,byq,hne,hid,hcs,hcm,hgm,onR,aj,aE,zmb,zlz,zlk,and_true,true_and,hid,di,d0,v0]
  simp (disch:=first|exact Zd|omega) [↓zmo,beq,ybc,ybd,ybe,ag,wk,wk2,wk1,wkM,wkL,ak,ybf,hss,hl0,hcl,hcl1,hcl2,hle]
  try omega
 subst h0
 have d0:((0:Int) != 0)=false:=rfl
 by_cases h1:l.length<1
 ·have d1:(l.length:Int)<1:=by omega
  rw [show bn (m,l,0)=(0,m,l,1) by simp [bn,h1]]
  dsimp only [aJ]
  try rw [hss]
  refine ACalls.fW ah (tCq cJ (tCq c7 (tCq cS (tCq jk tNq)))) Tryz.func117 [.cell 2 38] (by simp [zlf]) (T:=ae []) (h:=fun hcl hlt=>?_)
  clear hlt
  have hcl1:=fun l' e'=>ax hid hcl m (.inl rfl) l' e'
  have hcl2:=fun l' e'=>ax hid hcl .any (.inr rfl) l' e' 
  simp only [go_sem,zav,byq,hne,hid,hcs,hcm,hgm,onR,aj,aE,zmb,zlz,zlk,and_true,true_and,hid,di,fQ,d0,if_pos d1,v0]
  simp (disch:=first|exact Zd|omega) [↓zmo,beq,ybc,ybd,ybe,ag,wk,wk2,wk1,wkM,wkL,ak,ybf,hss,hl0,hcl,hcl1,hcl2,hle]
  try omega
 have d1:¬ (l.length:Int)<1:=by omega
 have d6:(l.take 1).length=1:=by rw [List.length_take];omega
 have d7:List.take (l.length:Int).toNat l=l:=by simp
 have d8:(bys (l.take 1)).getD 0 .junk=aL (b0 l):=DY l 1 (by omega) (by omega)
 have hbl:=UInt8.toNat_lt (b0 l)
 have d9:IntKind.i64.wrap (((b0 l).toNat:Nat):Int)=(((b0 l).toNat:Nat):Int):=jY _ (by omega)
 by_cases h2:(b0 l).toNat<1
 ·have d2:decide (((b0 l).toNat:Int)<1)=true:=by simp;omega
  rw [show bn (m,l,0)=(0,m,l,2) by simp [bn,h1,h2]]
  dsimp only [aJ]
  try rw [hss]
  refine ACalls.fW ah (tCq cJ (tCq c7 (tCq cS (tCq jk tNq)))) Tryz.func117 [.cell 2 38] (by simp [zlf]) (T:=ae []) (h:=fun hcl hlt=>?_)
  clear hlt
  have hcl1:=fun l' e'=>ax hid hcl m (.inl rfl) l' e'
  have hcl2:=fun l' e'=>ax hid hcl .any (.inr rfl) l' e' 
  simp only [go_sem,zav,byq,hne,hid,hcs,hcm,hgm,onR,aj,aE,zmb,zlz,zlk,and_true,true_and,hid,di,fQ,gv,d0,if_neg d1,d2,d6,d7,d8,d9,yap,aL,v0]
  simp (disch:=first|exact Zd|omega) [↓zmo,beq,ybc,ybd,ybe,ag,wk,wk2,wk1,wkM,wkL,ak,ybf,hss,hl0,hcl,hcl1,hcl2,hle]
  try omega
 have d2:decide (((b0 l).toNat:Int)<1)=false:=by simp;omega
 by_cases h3:16<(b0 l).toNat
 ·have d3:decide (((b0 l).toNat:Int) > 16)=true:=by simp;omega
  rw [show bn (m,l,0)=(0,m,l,2) by simp [bn,h1,h2,h3]]
  dsimp only [aJ]
  try rw [hss]
  refine ACalls.fW ah (tCq cJ (tCq c7 (tCq cS (tCq jk tNq)))) Tryz.func117 [.cell 2 38] (by simp [zlf]) (T:=ae []) (h:=fun hcl hlt=>?_)
  clear hlt
  have hcl1:=fun l' e'=>ax hid hcl m (.inl rfl) l' e'
  have hcl2:=fun l' e'=>ax hid hcl .any (.inr rfl) l' e' 
  simp only [go_sem,zav,byq,hne,hid,hcs,hcm,hgm,onR,aj,aE,zmb,zlz,zlk,and_true,true_and,hid,di,fQ,gv,d0,if_neg d1,d2,d3,d6,d7,d8,d9,yap,aL,v0]
  simp (disch:=first|exact Zd|omega) [↓zmo,beq,ybc,ybd,ybe,ag,wk,wk2,wk1,wkM,wkL,ak,ybf,hss,hl0,hcl,hcl1,hcl2,hle]
  try omega
 have d3:decide (((b0 l).toNat:Int) > 16)=false:=by simp;omega
 by_cases h4:l.length<1+(b0 l).toNat
 ·have d4:(l.length:Int)<1+(((b0 l).toNat:Nat):Int):=by omega
  rw [show bn (m,l,0)=(0,m,l,1) by simp [bn,h1,h2,h3,h4]]
  dsimp only [aJ]
  try rw [hss]
  refine ACalls.fW ah (tCq cJ (tCq c7 (tCq cS (tCq jk tNq)))) Tryz.func117 [.cell 2 38] (by simp [zlf]) (T:=ae []) (h:=fun hcl hlt=>?_)
  clear hlt
  have hcl1:=fun l' e'=>ax hid hcl m (.inl rfl) l' e'
  have hcl2:=fun l' e'=>ax hid hcl .any (.inr rfl) l' e' 
  simp only [go_sem,zav,byq,hne,hid,hcs,hcm,hgm,onR,aj,aE,zmb,zlz,zlk,and_true,true_and,hid,di,fQ,gv,d0,if_neg d1,if_pos d4,d2,d3,d6,d7,d8,d9,yap,aL,v0]
  simp (disch:=first|exact Zd|omega) [↓zmo,beq,ybc,ybd,ybe,ag,wk,wk2,wk1,wkM,wkL,ak,ybf,hss,hl0,hcl,hcl1,hcl2,hle]
  try omega
 have d4:¬ (l.length:Int)<1+(((b0 l).toNat:Nat):Int):=by omega
 have d5:(1+(((b0 l).toNat:Nat):Int)).toNat=1+(b0 l).toNat:=by omega
 have w1:IntKind.i64.wrap (1+(((b0 l).toNat:Nat):Int))=((1+(b0 l).toNat:Nat):Int):=by rw [wrap_i64]<;>omega
 have hpl:((l.take (1+(b0 l).toNat)).drop 1).length≤140737488355328:=by simp;omega
 have v1:∀ v,vv v=.agg [.int .u64 ((v/2^64:Nat):Int),.int .u64 ((v % 2^64:Nat):Int)]:=fun _=>rfl
 by_cases h5:(ep ((l.take (1+(b0 l).toNat)).drop 1)).2=0
 ·have dp:ep ((l.take (1+(b0 l).toNat)).drop 1)=((ep ((l.take (1+(b0 l).toNat)).drop 1)).1,0):=by rw [← h5]
  generalize (ep ((l.take (1+(b0 l).toNat)).drop 1)).1=q at *
  rw [show bn (m,l,0)=(q,Mark.any,l.drop (1+(b0 l).toNat),(0:Int)) by simp only [bn];rw [if_neg (by simp),if_neg h1,if_neg (by omega),if_neg h4,dp,if_neg (by simp)]]
  dsimp only [aJ]
  refine ACalls.fW ah (tCq cJ (tCq c7 (tCq cS (tCq jk tNq)))) Tryz.func117 [.cell 2 38] (by simp [zlf]) (T:=ae []) (h:=fun hcl hlt=>?_)
  clear hlt
  have hcl1:=fun l' e'=>ax hid hcl m (.inl rfl) l' e'
  have hcl2:=fun l' e'=>ax hid hcl .any (.inr rfl) l' e' 
  simp only [go_sem,zav,byq,hne,hid,hcs,hcm,hgm,onR,aj,aE,zmb,zlz,zlk,and_true,true_and,hid,di,fQ,gv,pJ,d0,if_neg d1,if_neg d4,d2,d3,d5,d6,d7,d8,d9,w1,dp,hpl,iNq,yap,aL,v1]
  simp (disch:=first|exact Zd|omega) [↓zmo,beq,ybc,ybd,ybe,ag,wk,wk2,wk1,wkM,wkL,ak,ybf,hss,hl0,hcl,hcl1,hcl2,hle]
  try omega
 ·have d10:((ep ((l.take (1+(b0 l).toNat)).drop 1)).2 != 0)=true:=by simpa using h5
  rw [show bn (m,l,0)=(0,m,l,5) by simp only [bn];rw [if_neg (by simp),if_neg h1,if_neg (by omega),if_neg h4,if_pos h5]]
  generalize hq:ep ((l.take (1+(b0 l).toNat)).drop 1)=q at *
  dsimp only [aJ]
  refine ACalls.fW ah (tCq cJ (tCq c7 (tCq cS (tCq jk tNq)))) Tryz.func117 [.cell 2 38] (by simp [zlf]) (T:=ae []) (h:=fun hcl hlt=>?_)
  clear hlt
  have hcl1:=fun l' e'=>ax hid hcl m (.inl rfl) l' e'
  have hcl2:=fun l' e'=>ax hid hcl .any (.inr rfl) l' e' 
  simp only [go_sem,zav,byq,hne,hid,hcs,hcm,hgm,onR,aj,aE,zmb,zlz,zlk,and_true,true_and,hid,di,fQ,gv,pJ,d0,if_neg d1,if_neg d4,d2,d3,d5,d6,d7,d8,d9,d10,w1,hq,hpl,iNq,yap,aL,v1]
  simp (disch:=first|exact Zd|omega) [↓zmo,beq,ybc,ybd,ybe,ag,wk,wk2,wk1,wkM,wkL,ak,ybf,hss,hl0,hcl,hcl1,hcl2,hle]
  try omega
theorem EntOk.eff {P:Program} {f:FuncId} {p:List AV→AHeap→(AV→Prop)→Prop} (h:EntOk P f (Ent.pure p)):EntOk P f (Ent.effect fun args H K=>p args H fun v=>K (.ret v) H) :=
 EntOk.effect fun args H K hh=>by
  obtain ⟨x,hx,hc⟩:=h.1 rfl args H (fun v=>K (.ret v) H) hh
  exact ⟨_,_,hx,hc⟩
theorem DM (m w:Nat) (hm:m<2^63) (hw:w≤8):be (m:Int) w=beN m w:=by
 unfold be kD beN
 rw [Nat.sub_zero]
 refine List.map_congr_left fun i hi=>?_
 have hi:=List.mem_range.1 hi
 unfold ut tk
 have e:((2:Int)^min (8*((w - 1 - i:Nat):Int)).toNat IntKind.i64.bits)=((2^(8*(w - 1 - i)):Nat):Int):=by
  have h1:(8*((w - 1 - i:Nat):Int)).toNat=8*(w - 1 - i):=by omega
  have h2:min (8*(w - 1 - i)) IntKind.i64.bits=8*(w - 1 - i):=Nat.min_eq_left (by simp [IntKind.bits];omega)
  rw [h1,h2];push_cast;rfl
 rw [e,Int.fdiv_eq_ediv_of_nonneg _ (Int.natCast_nonneg _),← Int.natCast_ediv,← Nat.shiftRight_eq_div_pow]
 generalize m >>> (8*(w - 1 - i))=q
 rw [UInt8.ofNat_eq_iff_mod_eq_toNat,UInt8.toNat_ofNat']
 omega
theorem Af (m w:Nat) (r:List UInt8) (h1:1≤w) (h4:w≤4) (hm:m<256^w):aq (.any,be (m:Int) w++r,0) (w:Int)=((m:Int),.any,r,0):=by
 have h63:m<2^63:=Nat.lt_of_lt_of_le hm (Nat.le_trans (Nat.pow_le_pow_right (by decide) h4) (by decide))
 rw [DM m w h63 (by omega)]
 have hl:=dH m w
 unfold aq
 dsimp only
 rw [if_neg (by simp),if_neg (by omega),if_neg (by simp;omega),iNq,List.take_append_of_le_length (by omega),ybc (by omega),ot,Nat.mod_eq_of_lt hm,List.drop_append_of_le_length (by omega),List.drop_of_length_le (by omega)]
 rfl
theorem yA (v:Nat) (r:List UInt8) (h:v<2^128):bn (.any,bx v++r,0)=(v,.any,r,0):=by
 have h16:=qp h
 have h1:=yQ v
 have hl:=mE v
 have hb:(b0 (bx v++r)).toNat=eC v:=by
  show (UInt8.ofNat (eC v)).toNat=eC v
  rw [UInt8.toNat_ofNat'];exact Nat.mod_eq_of_lt (by omega)
 have hd:((bx v++r).take (1+eC v)).drop 1=fe v:=by
  show ((UInt8.ofNat (eC v)::(fe v++r)).take (1+eC v)).drop 1=_
  rw [Nat.add_comm,yaq,yao,yap,List.take_append_of_le_length (by omega),ybc (by omega)]
 have hr:(bx v++r).drop (1+eC v)=r:=by
  show (UInt8.ofNat (eC v)::(fe v++r)).drop (1+eC v)=_
  rw [Nat.add_comm,yao,List.drop_append_of_le_length (by omega),List.drop_of_length_le (by omega)];rfl
 have hlen:(bx v++r).length=1+eC v+r.length:=by simp [bx,hl];omega
 unfold bn
 dsimp only
 rw [if_neg (by simp),if_neg (by omega),hb,if_neg (by omega),if_neg (by omega),hd,xA h,if_neg (by simp),hr]
end Go.AL
