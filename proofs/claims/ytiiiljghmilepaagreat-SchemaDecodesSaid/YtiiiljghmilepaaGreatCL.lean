/- Contracts and plain laws, a part of the proof; no condition of its own. -/
import Derived.Test.YtiiiljghmilepaaGreatCG
import Derived.Test.YtiiiljghmilepaaGreatLRd2
open List renaming length_cons → yaz, length_nil → yba, take_of_length_le → ybc, drop_append → ybd, take_append → ybe, drop_eq_nil_of_le → ybf, drop_zero → yap, take_zero → yar
open Go Go.AL Go.Proofs
namespace Go.AL
set_option linter.all false
set_option maxRecDepth 10000
def lD:List AV→AHeap→(AEnd→AHeap→Prop)→Prop
 |[.ptr id 0],H,K=>onR H id fun m l e=>True∧K (.ret (vv (cO (m,l,e)).1)) (H.set id (.cells (aE (cO (m,l,e)).2)))
 |_,_,_=>False
theorem pI:EntOk Tryz.prog 234 (Ent.effect lD):=by
 refine EntOk.effect fun args H K h=>?_
 unfold lD at h
 split at h
 rotate_left
 ·exact h.elim
 rename_i id
 obtain ⟨m,l,e,hid,hle,h⟩:=bU h
 obtain ⟨hpre,hK⟩:=h
 refine ⟨_,_,hK,?_⟩
 clear hK
 have hl0:=AHeap.get_lt hid
 have hne:=aU hl0
 have hss:=bo hid
 have hcs:=aI hid
 have hcm:=fun cs=>@av H id cs hl0
 have hgm:=fun o=>@aN H id o hl0
 have v0:vv 0=.agg [.int .u64 0,.int .u64 0]:=rfl
 by_cases h0:e=0
 case neg =>
  have d0:(e != 0)=true:=by simpa using h0
  rw [show cO (m,l,e)=(0,m,l,e) by simp [cO,h0]]
  dsimp only [aE]
  try rw [hss]
  refine ACalls.fW aB (TblOk.cons dn (TblOk.cons eA (TblOk.cons da (TblOk.cons jQ TblOk.nil)))) Tryz.func234 [.cell 2 212] (by simp [zkz]) (T:=ay []) (h:=fun hcl hlt=>?_)
  clear hlt
  have hcl1:=fun l' e'=>am hid hcl m (.inl rfl) l' e'
  have hcl2:=fun l' e'=>am hid hcl .any (.inr rfl) l' e' 
  simp only [go_sem,zav,byq,hne,hid,hcs,hcm,hgm,onR,ae,au,zlv,zlt,zle,and_true,true_and,hid,ei,d0,v0]
  simp (disch:=first|assumption|omega|(simp;done)|(simp;omega)|(simp only [bt,and_true];first|done|omega|(simp;done))) [↓zmi,beq,ybc,ybd,ybe,al,wk,wk2,wk1,wkM,wkL,aG,ybf,hss,hl0,hcl,hcl1,hcl2,hle]
  try omega
 subst h0
 have d0:((0:Int) != 0)=false:=rfl
 by_cases h1:l.length<1
 ·have d1:(l.length:Int)<1:=by omega
  rw [show cO (m,l,0)=(0,m,l,1) by simp [cO,h1]]
  dsimp only [aE]
  try rw [hss]
  refine ACalls.fW aB (TblOk.cons dn (TblOk.cons eA (TblOk.cons da (TblOk.cons jQ TblOk.nil)))) Tryz.func234 [.cell 2 212] (by simp [zkz]) (T:=ay []) (h:=fun hcl hlt=>?_)
  clear hlt
  have hcl1:=fun l' e'=>am hid hcl m (.inl rfl) l' e'
  have hcl2:=fun l' e'=>am hid hcl .any (.inr rfl) l' e' 
  simp only [go_sem,zav,byq,hne,hid,hcs,hcm,hgm,onR,ae,au,zlv,zlt,zle,and_true,true_and,hid,ei,gB,d0,if_pos d1,v0]
  simp (disch:=first|assumption|omega|(simp;done)|(simp;omega)|(simp only [bt,and_true];first|done|omega|(simp;done))) [↓zmi,beq,ybc,ybd,ybe,al,wk,wk2,wk1,wkM,wkL,aG,ybf,hss,hl0,hcl,hcl1,hcl2,hle]
  try omega
 have d1:¬ (l.length:Int)<1:=by omega
 have d6:(l.take 1).length=1:=by rw [List.length_take];omega
 have d7:List.take (l.length:Int).toNat l=l:=by simp
 have d8:(bys (l.take 1)).getD 0 .junk=bd (b0 l):=D7 l 1 (by omega) (by omega)
 have hbl:=UInt8.toNat_lt (b0 l)
 have d9:IntKind.i64.wrap (((b0 l).toNat:Nat):Int)=(((b0 l).toNat:Nat):Int):=f6 _ (by omega)
 by_cases h2:(b0 l).toNat<1
 ·have d2:decide (((b0 l).toNat:Int)<1)=true:=by simp;omega
  rw [show cO (m,l,0)=(0,m,l,2) by simp [cO,h1,h2]]
  dsimp only [aE]
  try rw [hss]
  refine ACalls.fW aB (TblOk.cons dn (TblOk.cons eA (TblOk.cons da (TblOk.cons jQ TblOk.nil)))) Tryz.func234 [.cell 2 212] (by simp [zkz]) (T:=ay []) (h:=fun hcl hlt=>?_)
  clear hlt
  have hcl1:=fun l' e'=>am hid hcl m (.inl rfl) l' e'
  have hcl2:=fun l' e'=>am hid hcl .any (.inr rfl) l' e' 
  simp only [go_sem,zav,byq,hne,hid,hcs,hcm,hgm,onR,ae,au,zlv,zlt,zle,and_true,true_and,hid,ei,gB,gP,d0,if_neg d1,d2,d6,d7,d8,d9,yap,bd,v0]
  simp (disch:=first|assumption|omega|(simp;done)|(simp;omega)|(simp only [bt,and_true];first|done|omega|(simp;done))) [↓zmi,beq,ybc,ybd,ybe,al,wk,wk2,wk1,wkM,wkL,aG,ybf,hss,hl0,hcl,hcl1,hcl2,hle]
  try omega
 have d2:decide (((b0 l).toNat:Int)<1)=false:=by simp;omega
 by_cases h3:16<(b0 l).toNat
 ·have d3:decide (((b0 l).toNat:Int) > 16)=true:=by simp;omega
  rw [show cO (m,l,0)=(0,m,l,2) by simp [cO,h1,h2,h3]]
  dsimp only [aE]
  try rw [hss]
  refine ACalls.fW aB (TblOk.cons dn (TblOk.cons eA (TblOk.cons da (TblOk.cons jQ TblOk.nil)))) Tryz.func234 [.cell 2 212] (by simp [zkz]) (T:=ay []) (h:=fun hcl hlt=>?_)
  clear hlt
  have hcl1:=fun l' e'=>am hid hcl m (.inl rfl) l' e'
  have hcl2:=fun l' e'=>am hid hcl .any (.inr rfl) l' e' 
  simp only [go_sem,zav,byq,hne,hid,hcs,hcm,hgm,onR,ae,au,zlv,zlt,zle,and_true,true_and,hid,ei,gB,gP,d0,if_neg d1,d2,d3,d6,d7,d8,d9,yap,bd,v0]
  simp (disch:=first|assumption|omega|(simp;done)|(simp;omega)|(simp only [bt,and_true];first|done|omega|(simp;done))) [↓zmi,beq,ybc,ybd,ybe,al,wk,wk2,wk1,wkM,wkL,aG,ybf,hss,hl0,hcl,hcl1,hcl2,hle]
  try omega
 have d3:decide (((b0 l).toNat:Int) > 16)=false:=by simp;omega
 by_cases h4:l.length<1+(b0 l).toNat
 ·have d4:(l.length:Int)<1+(((b0 l).toNat:Nat):Int):=by omega
  rw [show cO (m,l,0)=(0,m,l,1) by simp [cO,h1,h2,h3,h4]]
  dsimp only [aE]
  try rw [hss]
  refine ACalls.fW aB (TblOk.cons dn (TblOk.cons eA (TblOk.cons da (TblOk.cons jQ TblOk.nil)))) Tryz.func234 [.cell 2 212] (by simp [zkz]) (T:=ay []) (h:=fun hcl hlt=>?_)
  clear hlt
  have hcl1:=fun l' e'=>am hid hcl m (.inl rfl) l' e'
  have hcl2:=fun l' e'=>am hid hcl .any (.inr rfl) l' e' 
  simp only [go_sem,zav,byq,hne,hid,hcs,hcm,hgm,onR,ae,au,zlv,zlt,zle,and_true,true_and,hid,ei,gB,gP,d0,if_neg d1,if_pos d4,d2,d3,d6,d7,d8,d9,yap,bd,v0]
  simp (disch:=first|assumption|omega|(simp;done)|(simp;omega)|(simp only [bt,and_true];first|done|omega|(simp;done))) [↓zmi,beq,ybc,ybd,ybe,al,wk,wk2,wk1,wkM,wkL,aG,ybf,hss,hl0,hcl,hcl1,hcl2,hle]
  try omega
 have d4:¬ (l.length:Int)<1+(((b0 l).toNat:Nat):Int):=by omega
 have d5:(1+(((b0 l).toNat:Nat):Int)).toNat=1+(b0 l).toNat:=by omega
 have w1:IntKind.i64.wrap (1+(((b0 l).toNat:Nat):Int))=((1+(b0 l).toNat:Nat):Int):=by rw [wrap_i64]<;>omega
 have hpl:((l.take (1+(b0 l).toNat)).drop 1).length≤140737488355328:=by simp;omega
 have v1:∀ v,vv v=.agg [.int .u64 ((v/2^64:Nat):Int),.int .u64 ((v % 2^64:Nat):Int)]:=fun _=>rfl
 by_cases h5:(dD ((l.take (1+(b0 l).toNat)).drop 1)).2=0
 ·have dp:dD ((l.take (1+(b0 l).toNat)).drop 1)=((dD ((l.take (1+(b0 l).toNat)).drop 1)).1,0):=by rw [← h5]
  generalize (dD ((l.take (1+(b0 l).toNat)).drop 1)).1=q at *
  rw [show cO (m,l,0)=(q,Mark.any,l.drop (1+(b0 l).toNat),(0:Int)) by simp only [cO];rw [if_neg (by simp),if_neg h1,if_neg (by omega),if_neg h4,dp,if_neg (by simp)]]
  dsimp only [aE]
  refine ACalls.fW aB (TblOk.cons dn (TblOk.cons eA (TblOk.cons da (TblOk.cons jQ TblOk.nil)))) Tryz.func234 [.cell 2 212] (by simp [zkz]) (T:=ay []) (h:=fun hcl hlt=>?_)
  clear hlt
  have hcl1:=fun l' e'=>am hid hcl m (.inl rfl) l' e'
  have hcl2:=fun l' e'=>am hid hcl .any (.inr rfl) l' e' 
  simp only [go_sem,zav,byq,hne,hid,hcs,hcm,hgm,onR,ae,au,zlv,zlt,zle,and_true,true_and,hid,ei,gB,gP,oE,d0,if_neg d1,if_neg d4,d2,d3,d5,d6,d7,d8,d9,w1,dp,hpl,Int.toNat_natCast,yap,bd,v1]
  simp (disch:=first|assumption|omega|(simp;done)|(simp;omega)|(simp only [bt,and_true];first|done|omega|(simp;done))) [↓zmi,beq,ybc,ybd,ybe,al,wk,wk2,wk1,wkM,wkL,aG,ybf,hss,hl0,hcl,hcl1,hcl2,hle]
  try omega
 ·have d10:((dD ((l.take (1+(b0 l).toNat)).drop 1)).2 != 0)=true:=by simpa using h5
  rw [show cO (m,l,0)=(0,m,l,5) by simp only [cO];rw [if_neg (by simp),if_neg h1,if_neg (by omega),if_neg h4,if_pos h5]]
  generalize hq:dD ((l.take (1+(b0 l).toNat)).drop 1)=q at *
  dsimp only [aE]
  refine ACalls.fW aB (TblOk.cons dn (TblOk.cons eA (TblOk.cons da (TblOk.cons jQ TblOk.nil)))) Tryz.func234 [.cell 2 212] (by simp [zkz]) (T:=ay []) (h:=fun hcl hlt=>?_)
  clear hlt
  have hcl1:=fun l' e'=>am hid hcl m (.inl rfl) l' e'
  have hcl2:=fun l' e'=>am hid hcl .any (.inr rfl) l' e' 
  simp only [go_sem,zav,byq,hne,hid,hcs,hcm,hgm,onR,ae,au,zlv,zlt,zle,and_true,true_and,hid,ei,gB,gP,oE,d0,if_neg d1,if_neg d4,d2,d3,d5,d6,d7,d8,d9,d10,w1,hq,hpl,Int.toNat_natCast,yap,bd,v1]
  simp (disch:=first|assumption|omega|(simp;done)|(simp;omega)|(simp only [bt,and_true];first|done|omega|(simp;done))) [↓zmi,beq,ybc,ybd,ybe,al,wk,wk2,wk1,wkM,wkL,aG,ybf,hss,hl0,hcl,hcl1,hcl2,hle]
  try omega
def eP:List AV→AHeap→(AEnd→AHeap→Prop)→Prop
 |[.ptr id 0,.int .i64 x],H,K=>onR H id fun m l e=>True∧K (.ret (.tup [])) (H.set id (.cells [.slice m 1 (bys l),.int .i64 x]))
 |_,_,_=>False
theorem cX:EntOk Tryz.prog 177 (Ent.effect eP):=by
 refine EntOk.effect fun args H K h=>?_
 unfold eP at h
 split at h
 rotate_left
 ·exact h.elim
 rename_i id x
 obtain ⟨m,l,e,hid,hle,h⟩:=bU h
 obtain ⟨hpre,hK⟩:=h
 refine ⟨_,_,hK,?_⟩
 clear hK
 have hl0:=AHeap.get_lt hid
 have hne:=aU hl0
 have hss:=bo hid
 have hcs:=aI hid
 have hcm:=fun cs=>@av H id cs hl0
 have hgm:=fun o=>@aN H id o hl0
 refine ACalls.fW aB TblOk.nil Tryz.func177 [] (Nat.le_refl _) (T:=ay []) (h:=fun hcl hlt=>?_)
 clear hlt
 have hcl1:=fun l' e'=>am hid hcl m (.inl rfl) l' e'
 have hcl2:=fun l' e'=>am hid hcl .any (.inr rfl) l' e' 
 simp only [go_sem,zav,byq,hne,hid,hcs,hcm,hgm,onR,ae,au,zlv,zlt,zle,and_true,true_and]
 simp (disch:=first|assumption|omega|(simp;done)|(simp;omega)|(simp only [bt,and_true];first|done|omega|(simp;done))) [↓zmi,beq,ybc,ybd,ybe,al,wk,wk2,wk1,wkM,wkL,aG,ybf,hss,hl0,hcl1,hcl2,zlv,zlt,zle]
def jT:List AV→AHeap→(AEnd→AHeap→Prop)→Prop
 |[.ptr id 0],H,K=>onR H id fun m l e=>True∧K (.ret (.bool (fu (m,l,e)).1)) (H.set id (.cells (aE (fu (m,l,e)).2)))
 |_,_,_=>False
theorem DU:EntOk Tryz.prog 181 (Ent.effect jT):=by
 refine EntOk.effect fun args H K h=>?_
 unfold jT at h
 split at h
 rotate_left
 ·exact h.elim
 rename_i id
 obtain ⟨m,l,e,hid,hle,h⟩:=bU h
 obtain ⟨hpre,hK⟩:=h
 refine ⟨_,_,hK,?_⟩
 clear hK
 have hl0:=AHeap.get_lt hid
 have hne:=aU hl0
 have hss:=bo hid
 have hcs:=aI hid
 have hcm:=fun cs=>@av H id cs hl0
 have hgm:=fun o=>@aN H id o hl0
 by_cases h0:e=0
 case neg =>
  have d0:(e != 0)=true:=by simpa using h0
  rw [show fu (m,l,e)=(false,m,l,e) by simp [fu,h0]]
  dsimp only [aE]
  try rw [hss]
  refine ACalls.fW aB (TblOk.cons cX TblOk.nil) Tryz.func181 [.tmp 2] (by simp [zkz]) (T:=ay []) (h:=fun hcl hlt=>?_)
  clear hlt
  have hcl1:=fun l' e'=>am hid hcl m (.inl rfl) l' e'
  have hcl2:=fun l' e'=>am hid hcl .any (.inr rfl) l' e' 
  simp only [go_sem,zav,byq,hne,hid,hcs,hcm,hgm,onR,ae,au,zlv,zlt,zle,and_true,true_and,hid,d0]
  simp (disch:=first|assumption|omega|(simp;done)|(simp;omega)|(simp only [bt,and_true];first|done|omega|(simp;done))) [↓zmi,beq,ybc,ybd,ybe,al,wk,wk2,wk1,wkM,wkL,aG,ybf,hss,hl0,hcl,hcl1,hcl2,hle]
  try omega
 subst h0
 have d0:((0:Int) != 0)=false:=rfl
 by_cases h1:l.length<1
 ·have d1:((l.length:Int)==0)=true:=by simp;exact List.eq_nil_of_length_eq_zero (by omega)
  rw [show fu (m,l,0)=(false,m,l,1) by simp [fu,h1]]
  dsimp only [aE]
  try rw [hss]
  refine ACalls.fW aB (TblOk.cons cX TblOk.nil) Tryz.func181 [.tmp 2] (by simp [zkz]) (T:=ay []) (h:=fun hcl hlt=>?_)
  clear hlt
  have hcl1:=fun l' e'=>am hid hcl m (.inl rfl) l' e'
  have hcl2:=fun l' e'=>am hid hcl .any (.inr rfl) l' e' 
  simp only [go_sem,zav,byq,hne,hid,hcs,hcm,hgm,onR,ae,au,zlv,zlt,zle,and_true,true_and,hid,eP,d0,d1]
  simp (disch:=first|assumption|omega|(simp;done)|(simp;omega)|(simp only [bt,and_true];first|done|omega|(simp;done))) [↓zmi,beq,ybc,ybd,ybe,al,wk,wk2,wk1,wkM,wkL,aG,ybf,hss,hl0,hcl,hcl1,hcl2,hle]
  try omega
 have d1:((l.length:Int)==0)=false:=by simp;intro e;exact h1 (by rw [e];simp)
 have d7:List.take (l.length:Int).toNat l=l:=by simp
 have d8:(bys l).getD 0 .junk=bd (b0 l):=qG l (by omega)
 by_cases h2:1<(b0 l).toNat
 ·have d2:decide (((b0 l).toNat:Int) > 1)=true:=by simp;omega
  rw [show fu (m,l,0)=(false,m,l,2) by simp [fu,h1,h2]]
  dsimp only [aE]
  try rw [hss]
  refine ACalls.fW aB (TblOk.cons cX TblOk.nil) Tryz.func181 [.tmp 2] (by simp [zkz]) (T:=ay []) (h:=fun hcl hlt=>?_)
  clear hlt
  have hcl1:=fun l' e'=>am hid hcl m (.inl rfl) l' e'
  have hcl2:=fun l' e'=>am hid hcl .any (.inr rfl) l' e' 
  simp only [go_sem,zav,byq,hne,hid,hcs,hcm,hgm,onR,ae,au,zlv,zlt,zle,and_true,true_and,hid,eP,d0,d1,d2,d7,d8,bd]
  simp (disch:=first|assumption|omega|(simp;done)|(simp;omega)|(simp only [bt,and_true];first|done|omega|(simp;done))) [↓zmi,beq,ybc,ybd,ybe,al,wk,wk2,wk1,wkM,wkL,aG,ybf,hss,hl0,hcl,hcl1,hcl2,hle]
  try omega
 ·have d2:decide (((b0 l).toNat:Int) > 1)=false:=by simp;omega
  have d3:((((b0 l).toNat:Nat):Int)==1)=((b0 l).toNat==1):=by rw [Bool.eq_iff_iff];simp;omega
  rw [show fu (m,l,0)=((b0 l).toNat==1,Mark.any,l.drop 1,(0:Int)) by simp [fu,h1,h2]]
  dsimp only [aE]
  try rw [hss]
  refine ACalls.fW aB (TblOk.cons cX TblOk.nil) Tryz.func181 [.tmp 2] (by simp [zkz]) (T:=ay []) (h:=fun hcl hlt=>?_)
  clear hlt
  have hcl1:=fun l' e'=>am hid hcl m (.inl rfl) l' e'
  have hcl2:=fun l' e'=>am hid hcl .any (.inr rfl) l' e' 
  simp only [go_sem,zav,byq,hne,hid,hcs,hcm,hgm,onR,ae,au,zlv,zlt,zle,and_true,true_and,hid,eP,d0,d1,d2,d3,d7,d8,bd]
  simp (disch:=first|assumption|omega|(simp;done)|(simp;omega)|(simp only [bt,and_true];first|done|omega|(simp;done))) [↓zmi,beq,ybc,ybd,ybe,al,wk,wk2,wk1,wkM,wkL,aG,ybf,hss,hl0,hcl,hcl1,hcl2,hle]
  try omega
theorem Bg (l:List UInt8) (h:2≤l.length):bT (l.take 2)=(l.getD 0 0).toNat*256+(l.getD 1 0).toNat:=by
 match l,h with
 |a::b::t,_=>simp [bT]
def oQ:List AV→AHeap→(AEnd→AHeap→Prop)→Prop
 |[.ptr id 0,.int .i64 most],H,K=>onR H id fun m l e=>True∧K (.ret (.slice .any 1 (bys (dq (m,l,e) most).1))) (H.set id (.cells (aE (dq (m,l,e) most).2)))
 |_,_,_=>False
theorem tK:EntOk Tryz.prog 247 (Ent.effect oQ):=by
 refine EntOk.effect fun args H K h=>?_
 unfold oQ at h
 split at h
 rotate_left
 ·exact h.elim
 rename_i id most
 obtain ⟨m,l,e,hid,hle,h⟩:=bU h
 obtain ⟨hpre,hK⟩:=h
 refine ⟨_,_,hK,?_⟩
 clear hK
 have hl0:=AHeap.get_lt hid
 have hne:=aU hl0
 have hss:=bo hid
 have hcs:=aI hid
 have hcm:=fun cs=>@av H id cs hl0
 have hgm:=fun o=>@aN H id o hl0
 by_cases h0:e=0
 case neg =>
  have d0:(e != 0)=true:=by simpa using h0
  rw [show dq (m,l,e) most=([],m,l,e) by simp [dq,h0]]
  dsimp only [aE]
  try rw [hss]
  refine ACalls.fW aB (TblOk.cons cX TblOk.nil) Tryz.func247 [.tmp 4] (by simp [zkz]) (T:=ay []) (h:=fun hcl hlt=>?_)
  clear hlt
  have hcl1:=fun l' e'=>am hid hcl m (.inl rfl) l' e'
  have hcl2:=fun l' e'=>am hid hcl .any (.inr rfl) l' e' 
  simp only [go_sem,zav,byq,hne,hid,hcs,hcm,hgm,onR,ae,au,zlv,zlt,zle,and_true,true_and,hid,d0]
  simp (disch:=first|assumption|omega|(simp;done)|(simp;omega)|(simp only [bt,and_true];first|done|omega|(simp;done))) [↓zmi,beq,ybc,ybd,ybe,al,wk,wk2,wk1,wkM,wkL,aG,ybf,hss,hl0,hcl,hcl1,hcl2,hle]
  try omega
 subst h0
 have d0:((0:Int) != 0)=false:=rfl
 by_cases h1:l.length<2
 ·have d1:decide ((l.length:Int)<2)=true:=by simp;omega
  rw [show dq (m,l,0) most=([],m,l,1) by simp [dq,h1]]
  dsimp only [aE]
  try rw [hss]
  refine ACalls.fW aB (TblOk.cons cX TblOk.nil) Tryz.func247 [.tmp 4] (by simp [zkz]) (T:=ay []) (h:=fun hcl hlt=>?_)
  clear hlt
  have hcl1:=fun l' e'=>am hid hcl m (.inl rfl) l' e'
  have hcl2:=fun l' e'=>am hid hcl .any (.inr rfl) l' e' 
  simp only [go_sem,zav,byq,hne,hid,hcs,hcm,hgm,onR,ae,au,zlv,zlt,zle,and_true,true_and,hid,eP,d0,d1]
  simp (disch:=first|assumption|omega|(simp;done)|(simp;omega)|(simp only [bt,and_true];first|done|omega|(simp;done))) [↓zmi,beq,ybc,ybd,ybe,al,wk,wk2,wk1,wkM,wkL,aG,ybf,hss,hl0,hcl,hcl1,hcl2,hle]
  try omega
 have d1:decide ((l.length:Int)<2)=false:=by simp;omega
 have d2:(bys l).getD 0 .junk=.int .u8 (((l.getD 0 0).toNat:Nat):Int):=iG (by omega)
 have d3:(bys l).getD 1 .junk=.int .u8 (((l.getD 1 0).toNat:Nat):Int):=iG (by omega)
 have hv:=Bg l (by omega)
 have b1:=UInt8.toNat_lt (l.getD 0 0)
 have b2:=UInt8.toNat_lt (l.getD 1 0)
 generalize (l.getD 0 0).toNat=x at *
 generalize (l.getD 1 0).toNat=y at *
 have w1:IntKind.i64.wrap (x:Int)=(x:Int):=f6 _ (by omega)
 have w2:IntKind.i64.wrap (y:Int)=(y:Int):=f6 _ (by omega)
 have w3:IntKind.i64.wrap ((x:Int)*256)=((x*256:Nat):Int):=by rw [wrap_i64]<;>omega
 have w4:IntKind.i64.wrap (((x*256:Nat):Int)+(y:Int))=((bT (l.take 2):Nat):Int):=by rw [wrap_i64]<;>omega
 have hb:bT (l.take 2)<65536:=by omega
 clear hv
 generalize hn:bT (l.take 2)=n at *
 have w5:IntKind.i64.wrap (2+(n:Int))=((2+n:Nat):Int):=by rw [wrap_i64]<;>omega
 by_cases h2:most<(n:Int)
 ·have d4:decide ((n:Int) > most)=true:=by simpa using h2
  rw [show dq (m,l,0) most=([],m,l,3) by simp [dq,hn,h1,h2]]
  dsimp only [aE]
  try rw [hss]
  refine ACalls.fW aB (TblOk.cons cX TblOk.nil) Tryz.func247 [.tmp 4] (by simp [zkz]) (T:=ay []) (h:=fun hcl hlt=>?_)
  clear hlt
  have hcl1:=fun l' e'=>am hid hcl m (.inl rfl) l' e'
  have hcl2:=fun l' e'=>am hid hcl .any (.inr rfl) l' e' 
  simp only [go_sem,zav,byq,hne,hid,hcs,hcm,hgm,onR,ae,au,zlv,zlt,zle,and_true,true_and,hid,eP,d0,d1,d2,d3,d4,w1,w2,w3,w4]
  simp (disch:=first|assumption|omega|(simp;done)|(simp;omega)|(simp only [bt,and_true];first|done|omega|(simp;done))) [↓zmi,beq,ybc,ybd,ybe,al,wk,wk2,wk1,wkM,wkL,aG,ybf,hss,hl0,hcl,hcl1,hcl2,hle]
  try omega
 have d4:decide ((n:Int) > most)=false:=by simpa using h2
 by_cases h3:l.length<2+n
 ·have d5:decide ((l.length:Int)<((2+n:Nat):Int))=true:=by simp;omega
  rw [show dq (m,l,0) most=([],m,l,1) by simp [dq,hn,h1,h2,h3]]
  dsimp only [aE]
  try rw [hss]
  refine ACalls.fW aB (TblOk.cons cX TblOk.nil) Tryz.func247 [.tmp 4] (by simp [zkz]) (T:=ay []) (h:=fun hcl hlt=>?_)
  clear hlt
  have hcl1:=fun l' e'=>am hid hcl m (.inl rfl) l' e'
  have hcl2:=fun l' e'=>am hid hcl .any (.inr rfl) l' e' 
  simp only [go_sem,zav,byq,hne,hid,hcs,hcm,hgm,onR,ae,au,zlv,zlt,zle,and_true,true_and,hid,eP,d0,d1,d2,d3,d4,d5,w1,w2,w3,w4,w5]
  simp (disch:=first|assumption|omega|(simp;done)|(simp;omega)|(simp only [bt,and_true];first|done|omega|(simp;done))) [↓zmi,beq,ybc,ybd,ybe,al,wk,wk2,wk1,wkM,wkL,aG,ybf,hss,hl0,hcl,hcl1,hcl2,hle]
  try omega
 ·have d5:decide ((l.length:Int)<((2+n:Nat):Int))=false:=by simp;omega
  have d7:List.take (l.length:Int).toNat l=l:=by simp
  have d8:((l.take (2+n)).drop 2).length≤140737488355328:=by simp;omega
  rw [show dq (m,l,0) most=((l.take (2+n)).drop 2,Mark.any,l.drop (2+n),(0:Int)) by simp [dq,hn,h1,h2,h3]]
  dsimp only [aE]
  try rw [hss]
  refine ACalls.fW aB (TblOk.cons cX TblOk.nil) Tryz.func247 [.tmp 4] (by simp [zkz]) (T:=ay []) (h:=fun hcl hlt=>?_)
  clear hlt
  have hcl1:=fun l' e'=>am hid hcl m (.inl rfl) l' e'
  have hcl2:=fun l' e'=>am hid hcl .any (.inr rfl) l' e' 
  simp only [go_sem,zav,byq,hne,hid,hcs,hcm,hgm,onR,ae,au,zlv,zlt,zle,and_true,true_and,hid,eP,d0,d1,d2,d3,d4,d5,d7,d8,w1,w2,w3,w4,w5,Int.toNat_natCast]
  simp (disch:=first|assumption|omega|(simp;done)|(simp;omega)|(simp only [bt,and_true];first|done|omega|(simp;done))) [↓zmi,beq,ybc,ybd,ybe,al,wk,wk2,wk1,wkM,wkL,aG,ybf,hss,hl0,hcl,hcl1,hcl2,hle]
  try omega
theorem wH (l:List UInt8) (k:Nat) (h:k<l.length):eN (l.drop k)=(!(decide ((l.getD k 0).toNat<32)||decide (126<(l.getD k 0).toNat))&&eN (l.drop (k+1))):=by
 rw [List.drop_eq_getElem_cons h]
 have:l.getD k 0=l[k]:=by simp [List.getD_eq_getElem?_getD,h]
 rw [this];rfl
def mq:List AV→AHeap→(AV→Prop)→Prop
 |[.str s],_,K=>(s.length≤140737488355328)∧K (.bool (eN s))
 |_,_,_=>False
theorem oY:EntOk Tryz.prog 222 (Ent.pure mq):=by
 refine EntOk.pure fun args H K h=>?_
 unfold mq at h
 split at h
 rotate_left
 ·exact h.elim
 rename_i s
 obtain ⟨hle,hK⟩:=h
 refine ⟨_,hK,?_⟩
 refine ACalls.fW aB TblOk.nil Tryz.func222 [.tmp 2] (Nat.le_refl _) (T:=ay []) (h:=fun hcl hlt=>?_)
 clear hK hlt
 simp only [go_sem,byq]
 refine eE (A:=Nat) (fun k=>[(3,.int .i64 (k:Int)),(0,.str s)])
  (fun k=>H) (fun k=>k≤s.length∧eN (s.drop k)=eN s) (fun k=>s.length - k) 0 ⟨by omega,by simp⟩ ?_ fun k hk=>?_
 ·simp only [bnq,enter,iz,ltF,ne_eq,Nat.reduceEqDiff,reduceCtorEq,true_or,and_true]
 obtain ⟨hk,hb⟩:=hk
 simp only [go_sem,byq]
 refine ai (fun hc=>?_) (fun hc=>?_)
 ·have hk:k<s.length:=by simp at hc;omega
  have e1:IntKind.i64.wrap ((k:Int)+1)=((k+1:Nat):Int):=by rw [wrap_i64]<;>omega
  have hst:=wH s k hk
  have fin1:∀ c:Nat,(decide ((c:Int)<32))=decide (c<32):=fun c=>by rw [Bool.eq_iff_iff];simp;omega
  have fin2:∀ c:Nat,(decide ((c:Int) > 126))=decide (126<c):=fun c=>by rw [Bool.eq_iff_iff];simp;omega
  by_cases c1:(s.getD k 0).toNat<32
  ·have c1':decide ((s.getD k 0).toNat<32)=true:=by simpa using c1
   rw [c1'] at hst
   have hf:eN s=false:=by rw [← hb,hst];rfl
   rw [hf]
   simp only [go_sem,zav,byq,e1,Int.toNat_natCast,fin1,c1']
   refine ⟨by omega,?_⟩
   simp (disch:=first|assumption|omega|(simp;done)|(simp;omega)|(simp only [bt,and_true];first|done|omega|(simp;done))) [↓zmi,beq,ybc,ybd,ybe,al,wk,wk2,wk1,wkM,wkL,aG,ybf,hcl]
  ·have c1':decide ((s.getD k 0).toNat<32)=false:=by simpa using c1
   rw [c1'] at hst
   by_cases c2:126<(s.getD k 0).toNat
   ·have c2':decide (126<(s.getD k 0).toNat)=true:=by simpa using c2
    rw [c2'] at hst
    have hf:eN s=false:=by rw [← hb,hst];rfl
    rw [hf]
    simp only [go_sem,zav,byq,e1,Int.toNat_natCast,fin1,fin2,c1',c2']
    refine ⟨by omega,by omega,?_⟩
    simp (disch:=first|assumption|omega|(simp;done)|(simp;omega)|(simp only [bt,and_true];first|done|omega|(simp;done))) [↓zmi,beq,ybc,ybd,ybe,al,wk,wk2,wk1,wkM,wkL,aG,ybf,hcl]
   ·have c2':decide (126<(s.getD k 0).toNat)=false:=by simpa using c2
    rw [c2'] at hst
    have hf:eN (s.drop (k+1))=eN s:=by rw [← hb,hst];simp
    simp only [go_sem,zau,byq,e1,Int.toNat_natCast,fin1,fin2,c1',c2']
    refine ⟨by omega,by omega,k+1,⟨by omega,hf⟩,by omega,?_⟩
    simp only [bnq,enter,iz,ltF,ne_eq,Nat.reduceEqDiff,reduceCtorEq,true_or,and_self]
 ·have hk:k=s.length:=by simp at hc;omega
  subst hk
  rw [List.drop_length] at hb
  rw [← hb]
  simp only [go_sem,byq]
  simp (disch:=first|assumption|omega|(simp;done)|(simp;omega)|(simp only [bt,and_true];first|done|omega|(simp;done))) [↓zmi,beq,ybc,ybd,ybe,al,wk,wk2,wk1,wkM,wkL,aG,ybf,hcl,eN]
def dN:List AV→AHeap→(AEnd→AHeap→Prop)→Prop
 |[.ptr id 0,.int .i64 most],H,K=>onR H id fun m l e=>True∧K (.ret (.str (dM (m,l,e) most).1)) (H.set id (.cells (aE (dM (m,l,e) most).2)))
 |_,_,_=>False
theorem xN (s:RS) (most:Int):(dq s most).1.length≤s.2.1.length:=by
 unfold dq
 repeat' split
 all_goals simp
 all_goals omega
theorem u9 (s:RS) (most:Int):(dq s most).2.1=s.1∨(dq s most).2.1=.any:=by
 unfold dq
 repeat' split
 all_goals simp
theorem oK:EntOk Tryz.prog 178 (Ent.effect dN):=by
 refine EntOk.effect fun args H K h=>?_
 unfold dN at h
 split at h
 rotate_left
 ·exact h.elim
 rename_i id most
 obtain ⟨m,l,e,hid,hle,h⟩:=bU h
 obtain ⟨hpre,hK⟩:=h
 refine ⟨_,_,hK,?_⟩
 clear hK
 have hl0:=AHeap.get_lt hid
 have hne:=aU hl0
 have hss:=bo hid
 have hcs:=aI hid
 have hcm:=fun cs=>@av H id cs hl0
 have hgm:=fun o=>@aN H id o hl0
 have hbl:=xN (m,l,e) most
 have hbm:=u9 (m,l,e) most
 have hpl:(dq (m,l,e) most).1.length≤140737488355328:=by dsimp only at hbl;omega
 by_cases h4:eN (dq (m,l,e) most).1=true
 ·rw [show dM (m,l,e) most=dq (m,l,e) most by simp [dM,h4]]
  generalize hq:dq (m,l,e) most=q at *
  refine ACalls.fW aB (TblOk.cons tK (TblOk.cons oY (TblOk.cons cX TblOk.nil))) Tryz.func178 [.tmp 4] (by simp [zkz]) (T:=ay []) (h:=fun hcl hlt=>?_)
  clear hlt
  have hcl1:=am hid hcl q.2.1 hbm q.2.2.1 q.2.2.2
  simp only [go_sem,zav,byq,hne,hid,hcs,hcm,hgm,onR,ae,au,zlv,zlt,zle,and_true,true_and,oQ,mq,eP,hid,aE,hq,h4,hpl]
  simp (disch:=first|assumption|omega|(simp;done)|(simp;omega)|(simp only [bt,and_true];first|done|omega|(simp;done))) [↓zmi,beq,ybc,ybd,ybe,al,wk,wk2,wk1,wkM,wkL,aG,ybf,hcl1,hl0,hle]
 ·have h5:eN (dq (m,l,e) most).1=false:=by simpa using h4
  rw [show dM (m,l,e) most=([],m,l,2) by simp [dM,h5]]
  generalize hq:dq (m,l,e) most=q at *
  refine ACalls.fW aB (TblOk.cons tK (TblOk.cons oY (TblOk.cons cX TblOk.nil))) Tryz.func178 [.tmp 4] (by simp [zkz]) (T:=ay []) (h:=fun hcl hlt=>?_)
  clear hlt
  have hcl1:=fun l' e'=>am hid hcl m (.inl rfl) l' e'
  simp only [go_sem,zav,byq,hne,hid,hcs,hcm,hgm,onR,ae,au,zlv,zlt,zle,and_true,true_and,oQ,mq,eP,hid,aE,hq,h5,hpl]
  simp (disch:=first|assumption|omega|(simp;done)|(simp;omega)|(simp only [bt,and_true];first|done|omega|(simp;done))) [↓zmi,beq,ybc,ybd,ybe,al,wk,wk2,wk1,wkM,wkL,aG,ybf,hcl1,hl0,hle]
theorem z7 (m:Mark) (l:List UInt8) (e:Int):bB (m,l,e) 2=if e≠0 then (0,m,l,e) else if l.length<2 then (0,m,l,1) else (((bT (l.take 2):Nat):Int),.any,l.drop 2,0):=by
 unfold bB
 by_cases h:e=0
 ·subst h
  by_cases h2:l.length<2
  ·rw [if_neg (by simp),if_neg (by decide),if_pos (by simp;omega),if_neg (by simp),if_pos h2]
  ·rw [if_neg (by simp),if_neg (by decide),if_neg (by simp;omega),if_neg (by simp),if_neg h2];rfl
 ·rw [if_pos h,if_pos h]
def bR:List AV→AHeap→(AEnd→AHeap→Prop)→Prop
 |[.ptr id 0,.int .i64 w],H,K=>onR H id fun m l e=>True∧K (.ret (.int .i64 (bB (m,l,e) w).1)) (H.set id (.cells (aE (bB (m,l,e) w).2)))
 |_,_,_=>False
theorem iC:EntOk Tryz.prog 62 (Ent.effect bR):=by
 refine EntOk.effect fun args H K h=>?_
 unfold bR at h
 split at h
 rotate_left
 ·exact h.elim
 rename_i id w
 obtain ⟨m,l,e,hid,hle,h⟩:=bU h
 obtain ⟨hpre,hK⟩:=h
 refine ⟨_,_,hK,?_⟩
 clear hK
 have hl0:=AHeap.get_lt hid
 have hne:=aU hl0
 have hss:=bo hid
 have hcs:=aI hid
 have hcm:=fun cs=>@av H id cs hl0
 have hgm:=fun o=>@aN H id o hl0
 by_cases h0:e=0
 case neg =>
  have d0:(e != 0)=true:=by simpa using h0
  rw [show bB (m,l,e) w=(0,m,l,e) by simp [bB,h0]]
  dsimp only [aE]
  try rw [hss]
  refine ACalls.fW aB (TblOk.cons cX TblOk.nil) Tryz.func62 [.tmp 4] (by simp [zkz]) (T:=ay []) (h:=fun hcl hlt=>?_)
  clear hlt
  have hcl1:=fun l' e'=>am hid hcl m (.inl rfl) l' e'
  have hcl2:=fun l' e'=>am hid hcl .any (.inr rfl) l' e' 
  simp only [go_sem,zav,byq,hne,hid,hcs,hcm,hgm,onR,ae,au,zlv,zlt,zle,and_true,true_and,hid,d0]
  simp (disch:=first|assumption|omega|(simp;done)|(simp;omega)|(simp only [bt,and_true];first|done|omega|(simp;done))) [↓zmi,beq,ybc,ybd,ybe,al,wk,wk2,wk1,wkM,wkL,aG,ybf,hss,hl0,hcl,hcl1,hcl2,hle]
  try omega
 subst h0
 have d0:((0:Int) != 0)=false:=rfl
 by_cases h1:w<1
 ·have d1:decide (w<1)=true:=by simpa using h1
  rw [show bB (m,l,0) w=(0,m,l,4) by simp [bB,h1]]
  dsimp only [aE]
  try rw [hss]
  refine ACalls.fW aB (TblOk.cons cX TblOk.nil) Tryz.func62 [.tmp 4] (by simp [zkz]) (T:=ay []) (h:=fun hcl hlt=>?_)
  clear hlt
  have hcl1:=fun l' e'=>am hid hcl m (.inl rfl) l' e'
  have hcl2:=fun l' e'=>am hid hcl .any (.inr rfl) l' e' 
  simp only [go_sem,zav,byq,hne,hid,hcs,hcm,hgm,onR,ae,au,zlv,zlt,zle,and_true,true_and,hid,eP,d0,d1]
  simp (disch:=first|assumption|omega|(simp;done)|(simp;omega)|(simp only [bt,and_true];first|done|omega|(simp;done))) [↓zmi,beq,ybc,ybd,ybe,al,wk,wk2,wk1,wkM,wkL,aG,ybf,hss,hl0,hcl,hcl1,hcl2,hle]
  try omega
 have d1:decide (w<1)=false:=by simpa using h1
 by_cases h2:4<w
 ·have d2:decide (w > 4)=true:=by simpa using h2
  rw [show bB (m,l,0) w=(0,m,l,4) by simp [bB,h2]]
  dsimp only [aE]
  try rw [hss]
  refine ACalls.fW aB (TblOk.cons cX TblOk.nil) Tryz.func62 [.tmp 4] (by simp [zkz]) (T:=ay []) (h:=fun hcl hlt=>?_)
  clear hlt
  have hcl1:=fun l' e'=>am hid hcl m (.inl rfl) l' e'
  have hcl2:=fun l' e'=>am hid hcl .any (.inr rfl) l' e' 
  simp only [go_sem,zav,byq,hne,hid,hcs,hcm,hgm,onR,ae,au,zlv,zlt,zle,and_true,true_and,hid,eP,d0,d1,d2]
  simp (disch:=first|assumption|omega|(simp;done)|(simp;omega)|(simp only [bt,and_true];first|done|omega|(simp;done))) [↓zmi,beq,ybc,ybd,ybe,al,wk,wk2,wk1,wkM,wkL,aG,ybf,hss,hl0,hcl,hcl1,hcl2,hle]
  try omega
 have d2:decide (w > 4)=false:=by simp;omega
 by_cases h3:(l.length:Int)<w
 ·have d3:decide ((l.length:Int)<w)=true:=by simpa using h3
  rw [show bB (m,l,0) w=(0,m,l,1) by simp [bB,h1,h2,h3]]
  dsimp only [aE]
  try rw [hss]
  refine ACalls.fW aB (TblOk.cons cX TblOk.nil) Tryz.func62 [.tmp 4] (by simp [zkz]) (T:=ay []) (h:=fun hcl hlt=>?_)
  clear hlt
  have hcl1:=fun l' e'=>am hid hcl m (.inl rfl) l' e'
  have hcl2:=fun l' e'=>am hid hcl .any (.inr rfl) l' e' 
  simp only [go_sem,zav,byq,hne,hid,hcs,hcm,hgm,onR,ae,au,zlv,zlt,zle,and_true,true_and,hid,eP,d0,d1,d2,d3]
  simp (disch:=first|assumption|omega|(simp;done)|(simp;omega)|(simp only [bt,and_true];first|done|omega|(simp;done))) [↓zmi,beq,ybc,ybd,ybe,al,wk,wk2,wk1,wkM,wkL,aG,ybf,hss,hl0,hcl,hcl1,hcl2,hle]
  try omega
 ·have d3:decide ((l.length:Int)<w)=false:=by simpa using h3
  have d6:(l.take w.toNat).length=w.toNat:=by rw [List.length_take];omega
  have d7:List.take (l.length:Int).toNat l=l:=by simp
  rw [show bB (m,l,0) w=(((bT (l.take w.toNat):Nat):Int),Mark.any,l.drop w.toNat,(0:Int)) by simp [bB,h1,h2,h3]]
  dsimp only [aE]
  refine ACalls.fW aB (TblOk.cons cX TblOk.nil) Tryz.func62 [.tmp 4] (by simp [zkz]) (T:=ay []) (h:=fun hcl hlt=>?_)
  clear hlt
  have hcl1:=fun l' e'=>am hid hcl m (.inl rfl) l' e'
  have hcl2:=fun l' e'=>am hid hcl .any (.inr rfl) l' e' 
  simp only [go_sem,zat,zau,byq,hne,hid,hcs,hcm,hgm,onR,ae,au,zlv,zlt,zle,and_true,true_and,hid,d0,d1,d2,d3,d6,d7,yap]
  refine ⟨by omega,?_⟩
  have hw:w.toNat≤4:=by omega
  generalize hll:l.take w.toNat=ll at *
  refine eE (A:=Nat) (fun k=>[(40,.int .i64 (k:Int)),(39,.int .i64 (w.toNat:Int)),(38,.slice .any 1 (bys ll)),(5,.int .i64 (bT (ll.take k):Nat)),(0,.ptr id 0),(1,.int .i64 w)])
   (fun k=>H) (fun k=>k≤w.toNat) (fun k=>w.toNat - k) 0 (by omega) ?_ fun k hk=>?_
  ·simp only [bnq,enter,iz,ltF,ne_eq,Nat.reduceEqDiff,reduceCtorEq,yar,pG,true_or,and_true]
  simp only [go_sem,byq]
  refine ai (fun hc=>?_) (fun hc=>?_)
  ·have hk:k<w.toNat:=by simp at hc;omega
   have e1:IntKind.i64.wrap ((k:Int)+1)=((k+1:Nat):Int):=by rw [wrap_i64]<;>omega
   have hb:bT (ll.take k)<256^6:=iU ll k 6 (by omega)
   have hx:(bys ll).getD k .junk=bd (ll.getD k 0):=iG (by omega)
   have hxl:=UInt8.toNat_lt (ll.getD k 0)
   have e2:IntKind.i64.wrap (((ll.getD k 0).toNat:Nat):Int)=(((ll.getD k 0).toNat:Nat):Int):=f6 _ (by omega)
   have e3:IntKind.i64.wrap (((bT (ll.take k):Nat):Int)*256)=((bT (ll.take k)*256:Nat):Int):=by rw [wrap_i64]<;>omega
   have e4:=nL ll k (by omega)
   have e5:IntKind.i64.wrap (((bT (ll.take k)*256:Nat):Int)+(((ll.getD k 0).toNat:Nat):Int))=((bT (ll.take (k+1)):Nat):Int):=by rw [wrap_i64]<;>omega
   simp only [go_sem,byq,Int.toNat_natCast,hx,e1,zle,bd,e2,e3,e5,d6]
   refine ⟨by omega,k+1,by omega,by omega,?_⟩
   simp only [bnq,enter,iz,ltF,ne_eq,Nat.reduceEqDiff,reduceCtorEq,true_or,and_self]
  ·have hk:k=w.toNat:=by simp at hc;omega
   subst hk
   have et:ll.take w.toNat=ll:=ybc (by omega)
   simp only [go_sem,byq,hne,hid,hcs,hcm,hgm,onR,ae,au,zlv,zlt,zle,and_true,true_and,et,d7]
   simp (disch:=first|assumption|omega|(simp;done)|(simp;omega)|(simp only [bt,and_true];first|done|omega|(simp;done))) [↓zmi,beq,ybc,ybd,ybe,al,wk,wk2,wk1,wkM,wkL,aG,ybf,hss,hl0,hcl,hcl1,hcl2,hle]
   try omega
end Go.AL
open Go Go.AL Go.Proofs
namespace Go.AL
set_option linter.all false
set_option maxRecDepth 10000
def bj:List AV→AHeap→(AEnd→AHeap→Prop)→Prop
 |[.ptr id 0,.int .i64 most],H,K=>onR H id fun m l e=>True∧K (.ret (.int .i64 (aX (m,l,e) most).1)) (H.set id (.cells (aE (aX (m,l,e) most).2)))
 |_,_,_=>False
theorem jO:EntOk Tryz.prog 64 (Ent.effect bj):=by
 refine EntOk.effect fun args H K h=>?_
 unfold bj at h
 split at h
 rotate_left
 ·exact h.elim
 rename_i id most
 obtain ⟨m,l,e,hid,hle,h⟩:=bU h
 obtain ⟨hpre,hK⟩:=h
 refine ⟨_,_,hK,?_⟩
 clear hK
 have hl0:=AHeap.get_lt hid
 have hne:=aU hl0
 have hss:=bo hid
 have hcs:=aI hid
 have hcm:=fun cs=>@av H id cs hl0
 have hgm:=fun o=>@aN H id o hl0
 have hu:=z7 m l e
 by_cases h0:e=0
 case neg =>
  have d0:(e==0)=false:=by simpa using h0
  rw [if_pos h0] at hu
  rw [show aX (m,l,e) most=(0,m,l,e) by simp [aX,h0]]
  dsimp only [aE]
  try rw [hss]
  refine ACalls.fW aB (TblOk.cons iC (TblOk.cons cX TblOk.nil)) Tryz.func64 [.tmp 4] (by simp [zkz]) (T:=ay []) (h:=fun hcl hlt=>?_)
  clear hlt
  have hcl1:=fun l' e'=>am hid hcl m (.inl rfl) l' e'
  have hcl2:=fun l' e'=>am hid hcl .any (.inr rfl) l' e' 
  simp only [go_sem,zav,byq,hne,hid,hcs,hcm,hgm,onR,ae,au,zlv,zlt,zle,and_true,true_and,hid,bR,aE,hu,d0]
  simp (disch:=first|assumption|omega|(simp;done)|(simp;omega)|(simp only [bt,and_true];first|done|omega|(simp;done))) [↓zmi,beq,ybc,ybd,ybe,al,wk,wk2,wk1,wkM,wkL,aG,ybf,hss,hl0,hcl,hcl1,hcl2,hle]
  try omega
 subst h0
 rw [if_neg (by simp)] at hu
 have d0:((0:Int)==0)=true:=rfl
 by_cases h1:l.length<2
 ·rw [if_pos h1] at hu
  have d1:((1:Int)==0)=false:=rfl
  rw [show aX (m,l,0) most=(0,m,l,1) by simp [aX,h1]]
  dsimp only [aE]
  try rw [hss]
  refine ACalls.fW aB (TblOk.cons iC (TblOk.cons cX TblOk.nil)) Tryz.func64 [.tmp 4] (by simp [zkz]) (T:=ay []) (h:=fun hcl hlt=>?_)
  clear hlt
  have hcl1:=fun l' e'=>am hid hcl m (.inl rfl) l' e'
  have hcl2:=fun l' e'=>am hid hcl .any (.inr rfl) l' e' 
  simp only [go_sem,zav,byq,hne,hid,hcs,hcm,hgm,onR,ae,au,zlv,zlt,zle,and_true,true_and,hid,bR,aE,hu,d0,d1]
  simp (disch:=first|assumption|omega|(simp;done)|(simp;omega)|(simp only [bt,and_true];first|done|omega|(simp;done))) [↓zmi,beq,ybc,ybd,ybe,al,wk,wk2,wk1,wkM,wkL,aG,ybf,hss,hl0,hcl,hcl1,hcl2,hle]
  try omega
 rw [if_neg h1] at hu
 have hb:bT (l.take 2)<65536:=by have:=iU (l.take 2) 2 2 (by rw [List.length_take];omega);rw [List.take_take] at this;simpa using this
 generalize hn:bT (l.take 2)=n at *
 by_cases h2:most<(n:Int)
 ·have d4:decide ((n:Int) > most)=true:=by simpa using h2
  rw [show aX (m,l,0) most=(0,m,l,3) by simp [aX,hn,h1,h2]]
  dsimp only [aE]
  try rw [hss]
  refine ACalls.fW aB (TblOk.cons iC (TblOk.cons cX TblOk.nil)) Tryz.func64 [.tmp 4] (by simp [zkz]) (T:=ay []) (h:=fun hcl hlt=>?_)
  clear hlt
  have hcl1:=fun l' e'=>am hid hcl m (.inl rfl) l' e'
  have hcl2:=fun l' e'=>am hid hcl .any (.inr rfl) l' e' 
  simp only [go_sem,zav,byq,hne,hid,hcs,hcm,hgm,onR,ae,au,zlv,zlt,zle,and_true,true_and,hid,bR,eP,aE,hu,d0,d4]
  simp (disch:=first|assumption|omega|(simp;done)|(simp;omega)|(simp only [bt,and_true];first|done|omega|(simp;done))) [↓zmi,beq,ybc,ybd,ybe,al,wk,wk2,wk1,wkM,wkL,aG,ybf,hss,hl0,hcl,hcl1,hcl2,hle]
  try omega
 ·have d4:decide ((n:Int) > most)=false:=by simpa using h2
  rw [show aX (m,l,0) most=((n:Int),Mark.any,l.drop 2,(0:Int)) by simp [aX,hn,h1,h2]]
  dsimp only [aE]
  try rw [hss]
  refine ACalls.fW aB (TblOk.cons iC (TblOk.cons cX TblOk.nil)) Tryz.func64 [.tmp 4] (by simp [zkz]) (T:=ay []) (h:=fun hcl hlt=>?_)
  clear hlt
  have hcl1:=fun l' e'=>am hid hcl m (.inl rfl) l' e'
  have hcl2:=fun l' e'=>am hid hcl .any (.inr rfl) l' e' 
  simp only [go_sem,zav,byq,hne,hid,hcs,hcm,hgm,onR,ae,au,zlv,zlt,zle,and_true,true_and,hid,bR,eP,aE,hu,d0,d4]
  simp (disch:=first|assumption|omega|(simp;done)|(simp;omega)|(simp only [bt,and_true];first|done|omega|(simp;done))) [↓zmi,beq,ybc,ybd,ybe,al,wk,wk2,wk1,wkM,wkL,aG,ybf,hss,hl0,hcl,hcl1,hcl2,hle]
  try omega
def kn:List AV→AHeap→(AV→Prop)→Prop
 |[.ptr id 0],H,K=>onR H id fun m l e=>K (.int .i64 (fj (m,l,e)))
 |_,_,_=>False
theorem sm:EntOk Tryz.prog 68 (Ent.pure kn):=by
 refine EntOk.pure fun args H K h=>?_
 unfold kn at h
 split at h
 rotate_left
 ·exact h.elim
 rename_i id
 obtain ⟨m,l,e,hid,hle,hK⟩:=bU h
 refine ⟨_,hK,?_⟩
 have hcs:=aI hid
 by_cases h0:e=0
 ·subst h0
  have d0:((0:Int)==0)=true:=rfl
  by_cases h1:0<l.length
  ·have d1:decide ((l.length:Int) > 0)=true:=by simpa using h1
   rw [show fj (m,l,0)=2 by simp [fj,h1]]
   refine ACalls.fW aB TblOk.nil Tryz.func68 [.tmp 2] (Nat.le_refl _) (T:=ay []) (h:=fun hcl hlt=>?_)
   clear h hK hlt
   simp only [go_sem,zav,byq,hcs,hid,d0,d1]
   simp (disch:=first|assumption|omega|(simp;done)|(simp;omega)|(simp only [bt,and_true];first|done|omega|(simp;done))) [↓zmi,beq,ybc,ybd,ybe,al,wk,wk2,wk1,wkM,wkL,aG,ybf,hcl,hle,zlv,zle]
  ·have hl:l=[]:=List.eq_nil_of_length_eq_zero (by omega)
   subst hl
   have d1:decide ((([]:List UInt8).length:Int) > 0)=false:=rfl
   rw [show fj (m,[],0)=0 by simp [fj]]
   refine ACalls.fW aB TblOk.nil Tryz.func68 [.tmp 2] (Nat.le_refl _) (T:=ay []) (h:=fun hcl hlt=>?_)
   clear h hK hlt
   simp only [go_sem,zav,byq,hcs,hid,d0,d1]
   simp (disch:=first|assumption|omega|(simp;done)|(simp;omega)|(simp only [bt,and_true];first|done|omega|(simp;done))) [↓zmi,beq,ybc,ybd,ybe,al,wk,wk2,wk1,wkM,wkL,aG,ybf,hcl,zlv,zlw,zle,lU]
 ·have d0:(e==0)=false:=by simpa using h0
  rw [show fj (m,l,e)=e by simp [fj,h0]]
  refine ACalls.fW aB TblOk.nil Tryz.func68 [.tmp 2] (Nat.le_refl _) (T:=ay []) (h:=fun hcl hlt=>?_)
  clear h hK hlt
  simp only [go_sem,zav,byq,hcs,hid,d0,zlt]
  simp (disch:=first|assumption|omega|(simp;done)|(simp;omega)|(simp only [bt,and_true];first|done|omega|(simp;done))) [↓zmi,beq,ybc,ybd,ybe,al,wk,wk2,wk1,wkM,wkL,aG,ybf,hcl,hle,zlv,zle]
def mn:List AV→AHeap→(AEnd→AHeap→Prop)→Prop
 |[.ptr id 0],H,K=>onR H id fun m l e=>True∧K (.ret (vv (cO (m,l,e)).1)) (H.set id (.cells (aE (cO (m,l,e)).2)))
 |_,_,_=>False
theorem pA:EntOk Tryz.prog 180 (Ent.effect mn):=by
 refine EntOk.effect fun args H K h=>?_
 unfold mn at h
 split at h
 rotate_left
 ·exact h.elim
 rename_i id
 obtain ⟨m,l,e,hid,hle,h⟩:=bU h
 obtain ⟨hpre,hK⟩:=h
 refine ⟨_,_,hK,?_⟩
 clear hK
 have hl0:=AHeap.get_lt hid
 have hne:=aU hl0
 have hss:=bo hid
 have hcs:=aI hid
 have hcm:=fun cs=>@av H id cs hl0
 have hgm:=fun o=>@aN H id o hl0
 have v0:vv 0=.agg [.int .u64 0,.int .u64 0]:=rfl
 by_cases h0:e=0
 case neg =>
  have d0:(e != 0)=true:=by simpa using h0
  rw [show cO (m,l,e)=(0,m,l,e) by simp [cO,h0]]
  dsimp only [aE]
  try rw [hss]
  refine ACalls.fW aB (TblOk.cons cX (TblOk.cons jI TblOk.nil)) Tryz.func180 [.cell 2 212] (by simp [zkz]) (T:=ay []) (h:=fun hcl hlt=>?_)
  clear hlt
  have hcl1:=fun l' e'=>am hid hcl m (.inl rfl) l' e'
  have hcl2:=fun l' e'=>am hid hcl .any (.inr rfl) l' e' 
  simp only [go_sem,zav,byq,hne,hid,hcs,hcm,hgm,onR,ae,au,zlv,zlt,zle,and_true,true_and,hid,d0,v0]
  simp (disch:=first|assumption|omega|(simp;done)|(simp;omega)|(simp only [bt,and_true];first|done|omega|(simp;done))) [↓zmi,beq,ybc,ybd,ybe,al,wk,wk2,wk1,wkM,wkL,aG,ybf,hss,hl0,hcl,hcl1,hcl2,hle]
  try omega
 subst h0
 have d0:((0:Int) != 0)=false:=rfl
 by_cases h1:l.length<1
 ·have d1:((l.length:Int)==0)=true:=by simp;exact List.eq_nil_of_length_eq_zero (by omega)
  rw [show cO (m,l,0)=(0,m,l,1) by simp [cO,h1]]
  dsimp only [aE]
  try rw [hss]
  refine ACalls.fW aB (TblOk.cons cX (TblOk.cons jI TblOk.nil)) Tryz.func180 [.cell 2 212] (by simp [zkz]) (T:=ay []) (h:=fun hcl hlt=>?_)
  clear hlt
  have hcl1:=fun l' e'=>am hid hcl m (.inl rfl) l' e'
  have hcl2:=fun l' e'=>am hid hcl .any (.inr rfl) l' e' 
  simp only [go_sem,zav,byq,hne,hid,hcs,hcm,hgm,onR,ae,au,zlv,zlt,zle,and_true,true_and,hid,eP,d0,d1,v0]
  simp (disch:=first|assumption|omega|(simp;done)|(simp;omega)|(simp only [bt,and_true];first|done|omega|(simp;done))) [↓zmi,beq,ybc,ybd,ybe,al,wk,wk2,wk1,wkM,wkL,aG,ybf,hss,hl0,hcl,hcl1,hcl2,hle]
  try omega
 have d1:((l.length:Int)==0)=false:=by simp;intro e;exact h1 (by rw [e];simp)
 have d7:List.take (l.length:Int).toNat l=l:=by simp
 have d8:(bys l).getD 0 .junk=bd (b0 l):=qG l (by omega)
 have hbl:=UInt8.toNat_lt (b0 l)
 have d9:IntKind.i64.wrap (((b0 l).toNat:Nat):Int)=(((b0 l).toNat:Nat):Int):=f6 _ (by omega)
 by_cases h2:(b0 l).toNat<1
 ·have d2:decide (((b0 l).toNat:Int)<1)=true:=by simp;omega
  rw [show cO (m,l,0)=(0,m,l,2) by simp [cO,h1,h2]]
  dsimp only [aE]
  try rw [hss]
  refine ACalls.fW aB (TblOk.cons cX (TblOk.cons jI TblOk.nil)) Tryz.func180 [.cell 2 212] (by simp [zkz]) (T:=ay []) (h:=fun hcl hlt=>?_)
  clear hlt
  have hcl1:=fun l' e'=>am hid hcl m (.inl rfl) l' e'
  have hcl2:=fun l' e'=>am hid hcl .any (.inr rfl) l' e' 
  simp only [go_sem,zav,byq,hne,hid,hcs,hcm,hgm,onR,ae,au,zlv,zlt,zle,and_true,true_and,hid,eP,d0,d1,d2,d7,d8,d9,bd,v0]
  simp (disch:=first|assumption|omega|(simp;done)|(simp;omega)|(simp only [bt,and_true];first|done|omega|(simp;done))) [↓zmi,beq,ybc,ybd,ybe,al,wk,wk2,wk1,wkM,wkL,aG,ybf,hss,hl0,hcl,hcl1,hcl2,hle]
  try omega
 have d2:decide (((b0 l).toNat:Int)<1)=false:=by simp;omega
 by_cases h3:16<(b0 l).toNat
 ·have d3:decide (((b0 l).toNat:Int) > 16)=true:=by simp;omega
  rw [show cO (m,l,0)=(0,m,l,2) by simp [cO,h1,h2,h3]]
  dsimp only [aE]
  try rw [hss]
  refine ACalls.fW aB (TblOk.cons cX (TblOk.cons jI TblOk.nil)) Tryz.func180 [.cell 2 212] (by simp [zkz]) (T:=ay []) (h:=fun hcl hlt=>?_)
  clear hlt
  have hcl1:=fun l' e'=>am hid hcl m (.inl rfl) l' e'
  have hcl2:=fun l' e'=>am hid hcl .any (.inr rfl) l' e' 
  simp only [go_sem,zav,byq,hne,hid,hcs,hcm,hgm,onR,ae,au,zlv,zlt,zle,and_true,true_and,hid,eP,d0,d1,d2,d3,d7,d8,d9,bd,v0]
  simp (disch:=first|assumption|omega|(simp;done)|(simp;omega)|(simp only [bt,and_true];first|done|omega|(simp;done))) [↓zmi,beq,ybc,ybd,ybe,al,wk,wk2,wk1,wkM,wkL,aG,ybf,hss,hl0,hcl,hcl1,hcl2,hle]
  try omega
 have d3:decide (((b0 l).toNat:Int) > 16)=false:=by simp;omega
 have w1:IntKind.i64.wrap (1+(((b0 l).toNat:Nat):Int))=((1+(b0 l).toNat:Nat):Int):=by rw [wrap_i64]<;>omega
 by_cases h4:l.length<1+(b0 l).toNat
 ·have d4:decide ((l.length:Int)<((1+(b0 l).toNat:Nat):Int))=true:=by simp;omega
  rw [show cO (m,l,0)=(0,m,l,1) by simp [cO,h1,h2,h3,h4]]
  dsimp only [aE]
  try rw [hss]
  refine ACalls.fW aB (TblOk.cons cX (TblOk.cons jI TblOk.nil)) Tryz.func180 [.cell 2 212] (by simp [zkz]) (T:=ay []) (h:=fun hcl hlt=>?_)
  clear hlt
  have hcl1:=fun l' e'=>am hid hcl m (.inl rfl) l' e'
  have hcl2:=fun l' e'=>am hid hcl .any (.inr rfl) l' e' 
  simp only [go_sem,zav,byq,hne,hid,hcs,hcm,hgm,onR,ae,au,zlv,zlt,zle,and_true,true_and,hid,eP,d0,d1,d2,d3,d4,d7,d8,d9,w1,bd,v0]
  simp (disch:=first|assumption|omega|(simp;done)|(simp;omega)|(simp only [bt,and_true];first|done|omega|(simp;done))) [↓zmi,beq,ybc,ybd,ybe,al,wk,wk2,wk1,wkM,wkL,aG,ybf,hss,hl0,hcl,hcl1,hcl2,hle]
  try omega
 have d4:decide ((l.length:Int)<((1+(b0 l).toNat:Nat):Int))=false:=by simp;omega
 have hpl:((l.take (1+(b0 l).toNat)).drop 1).length≤140737488355328:=by simp;omega
 have v1:∀ v,vv v=.agg [.int .u64 ((v/2^64:Nat):Int),.int .u64 ((v % 2^64:Nat):Int)]:=fun _=>rfl
 by_cases h5:(dD ((l.take (1+(b0 l).toNat)).drop 1)).2=0
 ·have dp:dD ((l.take (1+(b0 l).toNat)).drop 1)=((dD ((l.take (1+(b0 l).toNat)).drop 1)).1,0):=by rw [← h5]
  generalize (dD ((l.take (1+(b0 l).toNat)).drop 1)).1=q at *
  rw [show cO (m,l,0)=(q,Mark.any,l.drop (1+(b0 l).toNat),(0:Int)) by simp only [cO];rw [if_neg (by simp),if_neg h1,if_neg (by omega),if_neg h4,dp,if_neg (by simp)]]
  dsimp only [aE]
  refine ACalls.fW aB (TblOk.cons cX (TblOk.cons jI TblOk.nil)) Tryz.func180 [.cell 2 212] (by simp [zkz]) (T:=ay []) (h:=fun hcl hlt=>?_)
  clear hlt
  have hcl1:=fun l' e'=>am hid hcl m (.inl rfl) l' e'
  have hcl2:=fun l' e'=>am hid hcl .any (.inr rfl) l' e' 
  simp only [go_sem,zav,byq,hne,hid,hcs,hcm,hgm,onR,ae,au,zlv,zlt,zle,and_true,true_and,hid,eP,oS,d0,d1,d2,d3,d4,d7,d8,d9,w1,dp,hpl,Int.toNat_natCast,bd,v1]
  simp (disch:=first|assumption|omega|(simp;done)|(simp;omega)|(simp only [bt,and_true];first|done|omega|(simp;done))) [↓zmi,beq,ybc,ybd,ybe,al,wk,wk2,wk1,wkM,wkL,aG,ybf,hss,hl0,hcl,hcl1,hcl2,hle]
  try omega
 ·have d10:((dD ((l.take (1+(b0 l).toNat)).drop 1)).2 != 0)=true:=by simpa using h5
  rw [show cO (m,l,0)=(0,m,l,5) by simp only [cO];rw [if_neg (by simp),if_neg h1,if_neg (by omega),if_neg h4,if_pos h5]]
  generalize hq:dD ((l.take (1+(b0 l).toNat)).drop 1)=q at *
  dsimp only [aE]
  refine ACalls.fW aB (TblOk.cons cX (TblOk.cons jI TblOk.nil)) Tryz.func180 [.cell 2 212] (by simp [zkz]) (T:=ay []) (h:=fun hcl hlt=>?_)
  clear hlt
  have hcl1:=fun l' e'=>am hid hcl m (.inl rfl) l' e'
  have hcl2:=fun l' e'=>am hid hcl .any (.inr rfl) l' e' 
  simp only [go_sem,zav,byq,hne,hid,hcs,hcm,hgm,onR,ae,au,zlv,zlt,zle,and_true,true_and,hid,eP,oS,d0,d1,d2,d3,d4,d7,d8,d9,d10,w1,hq,hpl,Int.toNat_natCast,bd,v1]
  simp (disch:=first|assumption|omega|(simp;done)|(simp;omega)|(simp only [bt,and_true];first|done|omega|(simp;done))) [↓zmi,beq,ybc,ybd,ybe,al,wk,wk2,wk1,wkM,wkL,aG,ybf,hss,hl0,hcl,hcl1,hcl2,hle]
  try omega
end Go.AL
open Go Go.AL Go.Proofs
namespace Go.AL
set_option linter.all false
set_option maxRecDepth 10000
end Go.AL
open Go Go.AL Go.Proofs
namespace Go.AL
set_option linter.all false
set_option maxRecDepth 10000
theorem EntOk.eff {P:Program} {f:FuncId} {p:List AV→AHeap→(AV→Prop)→Prop} (h:EntOk P f (Ent.pure p)):EntOk P f (Ent.effect fun args H K=>p args H fun v=>K (.ret v) H) :=
 EntOk.effect fun args H K hh=>by
  obtain ⟨x,hx,hc⟩:=h.1 rfl args H (fun v=>K (.ret v) H) hh
  exact ⟨_,_,hx,hc⟩
def cW (args:List AV) (H:AHeap) (K:AEnd→AHeap→Prop):Prop:=di args H fun v=>K (.ret v) H
def nN (args:List AV) (H:AHeap) (K:AEnd→AHeap→Prop):Prop:=lj args H fun v=>K (.ret v) H
theorem fv:EntOk Tryz.prog 135 (Ent.effect cW):=ok_RErr.eff
theorem pV:EntOk Tryz.prog 61 (Ent.effect nN):=ok_RFinish.eff
end Go.AL
