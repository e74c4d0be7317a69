/- Lemmas of the proof; no condition. -/
import Derived.Test.YtpbnggedofiinaaGreatCW
import Derived.Test.YtpbnggedofiinaaGreatLGen
set_option linter.all false
set_option maxRecDepth 10000
open List renaming length_cons → yaz, length_nil → yba, take_of_length_le → ybc, drop_append → ybd, take_append → ybe, drop_eq_nil_of_le → ybf, take_zero → yar, drop_zero → yap
open Go Go.AL Go.Proofs
namespace Go.AL
theorem B8:ti Tryz.prog 244=some ⟨.struct [(0,22,false),(1,43,false)],2,32,.agg [.slice .nil 1 [],.int .i64 0]⟩:=by kernel_rfl
theorem y9:ti Tryz.prog 43=some ⟨.int .i64,1,8,.int .i64 0⟩:=by kernel_rfl
theorem z9:ti Tryz.prog 112=some ⟨.ptr 244,1,8,.nilp⟩:=by kernel_rfl
attribute [go_sem] B8 y9 z9
def sn:List AV→AHeap→(AV→Prop)→Prop
 |[.slice _ 1 l],_,K=>(isB l∧l.length≤140737488355328)∧K (.slice .any 1 (bys (unb l)))
 |_,_,_=>False
theorem lR:EntOk Tryz.prog 137 (Ent.pure sn):=by
 refine Ype fun _ H K h=>?_
 unfold sn at h
 split at h
 rotate_left
 ·exact h.elim
 rename_i m l
 obtain ⟨⟨c1,hle⟩,hK⟩:=h
 refine ⟨_,hK,?_⟩
 obtain ⟨xs,rfl⟩:=fY c1
 simp only [zlz,zlk] at *
 refine ACalls.fW ah tNq Tryz.func137 [.tmp 2] (nrq _) (T:=ae []) (h:=fun hcl hlt=>?_)
 clear hK hlt
 simp only [go_sem,zav,byq]
 intro b hb
 refine bM (fun h1=>?_) (fun h1=>?_)
 ·subst h1
  have:xs=[]:=by
   cases xs with
   |nil=>rfl
   |cons a t=>simp [bys] at hb
  subst this
  exact Z2
 ·refine ⟨by omega,?_⟩
  exact Z2
def yG:List AV→AHeap→(AEnd→AHeap→Prop)→Prop
 |[.slice _ 1 l],H,K=>(isB l∧l.length≤140737488355328)∧K (.ret (.ptr H.nx 0)) (H.push (.cells [.slice .any 1 (bys (unb l)),.int .i64 0]))
 |_,_,_=>False
theorem wE:EntOk Tryz.prog 39 (Ent.effect yG):=by
 refine EntOk.effect fun args H K h=>?_
 unfold yG at h
 split at h
 rotate_left
 ·exact h.elim
 rename_i m l
 obtain ⟨⟨c1,hle⟩,hK⟩:=h
 refine ⟨_,_,hK,?_⟩
 obtain ⟨xs,rfl⟩:=fY c1
 simp only [zlz,zlk] at *
 refine ACalls.fW ah (tCq lR tNq) Tryz.func39 [.tmp 2] (by simp only [zle];omega) (T:=ae []) (h:=fun hcl hlt=>?_)
 clear hK hlt
 simp only [go_sem,zav,byq,sn]
 refine ⟨by omega,?_⟩
 have hc:(H.push (.cells [.slice .any 1 (bys xs),.int .i64 0])).Closed:=aD hcl (by simp [ltL,zms,znf])
 simp (disch:=first|exact Zd|omega) [↓zmo,beq,ybc,ybd,ybe,ag,wk,wk2,wk1,wkM,wkL,ak,ybf,hc]
def di:List AV→AHeap→(AV→Prop)→Prop
 |[.nilp],_,K=>K (.bool true)
 |[.ptr id 0],H,K=>onR H id fun m l e=>K (.bool (e != 0))
 |_,_,_=>False
theorem cJ:EntOk Tryz.prog 142 (Ent.pure di):=by
 refine Ype fun _ H K h=>?_
 unfold di at h
 split at h
 ·refine ⟨_,h,?_⟩
  refine ACalls.fW ah tNq Tryz.func142 [.tmp 2] (nrq _) (T:=ae []) (h:=fun hcl hlt=>?_)
  clear h hlt
  simp only [go_sem,zav,byq]
  exact Z2
 ·rename_i id
  obtain ⟨m,l,e,hid,hle,hK⟩:=dw h
  refine ⟨_,hK,?_⟩
  have hcs:=aM hid
  refine ACalls.fW ah tNq Tryz.func142 [.tmp 2] (nrq _) (T:=ae []) (h:=fun hcl hlt=>?_)
  clear h hK hlt
  simp only [go_sem,zav,byq,hcs]
  exact Z2
 ·exact h.elim
def gv:List AV→AHeap→(AEnd→AHeap→Prop)→Prop
 |[.ptr id 0,.int .i64 x],H,K=>onR H id fun m l e=>True∧K (.ret (.tup [])) (H.set id (.cells [.slice m 1 (bys l),.int .i64 x]))
 |_,_,_=>False
theorem cS:EntOk Tryz.prog 143 (Ent.effect gv):=by
 refine EntOk.effect fun args H K h=>?_
 unfold gv at h
 split at h
 rotate_left
 ·exact h.elim
 rename_i id x
 obtain ⟨m,l,e,hid,hle,h⟩:=dw h
 obtain ⟨hpre,hK⟩:=h
 refine ⟨_,_,hK,?_⟩
 clear hK
 have hl0:=glq hid
 have hne:=dd hl0
 have hss:=cL hid
 have hcs:=aM hid
 have hcm:=fun cs=>@bd H id cs hl0
 have hgm:=fun o=>@bA H id o hl0
 refine ACalls.fW ah tNq Tryz.func143 [] (nrq _) (T:=ae []) (h:=fun hcl hlt=>?_)
 clear hlt
 have hcl1:=fun l' e'=>ax hid hcl m (.inl rfl) l' e'
 have hcl2:=fun l' e'=>ax hid hcl .any (.inr rfl) l' e' 
 simp only [go_sem,zav,byq,hne,hid,hcs,hcm,hgm,onR,aj,aE,zmb,zlz,zlk,and_true,true_and]
 simp (disch:=first|exact Zd|omega) [↓zmo,beq,ybc,ybd,ybe,ag,wk,wk2,wk1,wkM,wkL,ak,ybf,hss,hl0,hcl1,hcl2,zmb,zlz,zlk]
def fQ:List AV→AHeap→(AEnd→AHeap→Prop)→Prop
 |[.ptr id 0,.int .i64 a,.int .i64 n],H,K=>onR H id fun m l e=>(0≤a∧a≤100000∧0≤n∧n≤100000) ∧
   (if (l.length:Int)<a+n then K (.ret (.tup [.slice .any 1 [],.bool false])) (H.set id (.cells [.slice m 1 (bys l),.int .i64 1]))
    else K (.ret (.tup [.slice .any 1 (bys ((l.take (a+n).toNat).drop a.toNat)),.bool true])) H)
 |_,_,_=>False
theorem c7:EntOk Tryz.prog 144 (Ent.effect fQ):=by
 refine EntOk.effect fun args H K h=>?_
 unfold fQ at h
 split at h
 rotate_left
 ·exact h.elim
 rename_i id a n
 obtain ⟨m,l,e,hid,hle,h⟩:=dw h
 obtain ⟨hpre,hK⟩:=h
 have hl0:=glq hid
 have hne:=dd hl0
 have hss:=cL hid
 have hcs:=aM hid
 have hcm:=fun cs=>@bd H id cs hl0
 have hgm:=fun o=>@bA H id o hl0
 have hw:IntKind.i64.wrap (a+n)=a+n:=by rw [wrap_i64]<;>omega
 split at hK
 ·rename_i hlt0
  refine ⟨_,_,hK,?_⟩
  refine ACalls.fW ah (tCq cS tNq) Tryz.func144 [.tmp 6,.tmp 7] (nrq _) (T:=ae []) (h:=fun hcl hlt=>?_)
  clear hlt hK
  have hcl1:=fun l' e'=>ax hid hcl m (.inl rfl) l' e'
  have hd:decide ((l.length:Int)<a+n)=true:=by simpa using hlt0
  simp only [go_sem,zav,byq,hne,hid,hcs,hcm,hgm,onR,aj,aE,zmb,zlz,zlk,and_true,true_and,gv,hw,hd]
  refine ⟨by omega,?_⟩
  simp (disch:=first|exact Zd|omega) [↓zmo,beq,ybc,ybd,ybe,ag,wk,wk2,wk1,wkM,wkL,ak,ybf,hss,hl0,hcl1]
 ·rename_i hlt0
  refine ⟨_,_,hK,?_⟩
  refine ACalls.fW ah (tCq cS tNq) Tryz.func144 [.tmp 6,.tmp 7] (nrq _) (T:=ae []) (h:=fun hcl hlt=>?_)
  clear hlt hK
  have hd:decide ((l.length:Int)<a+n)=false:=by simpa using hlt0
  simp only [go_sem,zav,byq,hne,hid,hcs,hcm,hgm,onR,aj,aE,zmb,zlz,zlk,and_true,true_and,gv,hw,hd]
  refine ⟨by omega,?_⟩
  exact Z2
def gF:List AV→AHeap→(AV→Prop)→Prop
 |[.slice _ 1 l],_,K=>(isB l∧l.length≤6)∧K (.int .i64 (aO (unb l):Nat))
 |_,_,_=>False
theorem cY:EntOk Tryz.prog 145 (Ent.pure gF):=by
 refine Ype fun _ H K h=>?_
 unfold gF at h
 split at h
 rotate_left
 ·exact h.elim
 rename_i m l
 obtain ⟨⟨c1,hle⟩,hK⟩:=h
 refine ⟨_,hK,?_⟩
 obtain ⟨xs,rfl⟩:=fY c1
 simp only [zlz,zlk] at *
 refine ACalls.fW ah tNq Tryz.func145 [.tmp 2] (nrq _) (T:=ae []) (h:=fun hcl hlt=>?_)
 clear hK hlt
 simp only [go_sem,byq]
 refine jr (A:=Nat) (fun k=>[(8,.int .i64 (k:Int)),(7,.int .i64 (xs.length:Int)),(6,.slice m 1 (bys xs)),(3,.int .i64 (aO (xs.take k):Nat))])
  (fun k=>H) (fun k=>k≤xs.length) (fun k=>xs.length - k) 0 (by omega) ?_ fun k hk=>?_
 ·simp only [bnq,enter,pC,ltF,ne_eq,Nat.reduceEqDiff,reduceCtorEq,yar,vq,true_or,and_true]
 simp only [go_sem,byq]
 refine af (fun hc=>?_) (fun hc=>?_)
 ·have hk:k<xs.length:=by simp at hc;omega
  have e1:IntKind.i64.wrap ((k:Int)+1)=((k+1:Nat):Int):=by rw [wrap_i64]<;>omega
  have hb:aO (xs.take k)<256^6:=oO xs k 6 hle
  have hx:(bys xs).getD k .junk=aL (xs.getD k 0):=nO hk
  have e2:IntKind.i64.wrap (((xs.getD k 0).toNat:Nat):Int)=(((xs.getD k 0).toNat:Nat):Int):=jY _ (by have:=UInt8.toNat_lt (xs.getD k 0);omega)
  have e3:=Fl (aO (xs.take k)) (xs.getD k 0).toNat (by omega) (UInt8.toNat_lt _)
  rw [← tT xs k hk] at e3
  simp only [go_sem,byq,iNq,hx,e1,zlk,aL,e2,e3]
  refine ⟨by omega,by decide,k+1,by omega,by omega,?_⟩
  exact Z3
 ·have hk:k=xs.length:=by simp at hc;omega
  subst hk
  simp only [go_sem,byq,List.take_length]
  exact Z2
def fE:List AV→AHeap→(AEnd→AHeap→Prop)→Prop
 |[.ptr id 0,.int .i64 w],H,K=>onR H id fun m l e=>True∧K (.ret (.int .i64 (aq (m,l,e) w).1)) (H.set id (.cells (aJ (aq (m,l,e) w).2)))
 |_,_,_=>False
theorem iM:EntOk Tryz.prog 44 (Ent.effect fE):=by
 refine EntOk.effect fun args H K h=>?_
 unfold fE at h
 split at h
 rotate_left
 ·exact h.elim
 rename_i id w
 obtain ⟨m,l,e,hid,hle,h⟩:=dw h
 obtain ⟨hpre,hK⟩:=h
 refine ⟨_,_,hK,?_⟩
 clear hK
 have hl0:=glq hid
 have hne:=dd hl0
 have hss:=cL hid
 have hcs:=aM hid
 have hcm:=fun cs=>@bd H id cs hl0
 have hgm:=fun o=>@bA H id o hl0
 by_cases h0:e=0
 case neg =>
  have d0:(e != 0)=true:=by simpa using h0
  rw [show aq (m,l,e) w=(0,m,l,e) by simp [aq,h0]]
  dsimp only [aJ]
  try rw [hss]
  refine ACalls.fW ah (tCq cJ (tCq cS (tCq c7 (tCq cY tNq)))) Tryz.func44 [.tmp 4] (by simp [zlf]) (T:=ae []) (h:=fun hcl hlt=>?_)
  clear hlt
  have hcl1:=fun l' e'=>ax hid hcl m (.inl rfl) l' e'
  have hcl2:=fun l' e'=>ax hid hcl .any (.inr rfl) l' e' 
  simp only [go_sem,zav,byq,hne,hid,hcs,hcm,hgm,onR,aj,aE,zmb,zlz,zlk,and_true,true_and,hid,di,d0]
  simp (disch:=first|exact Zd|omega) [↓zmo,beq,ybc,ybd,ybe,ag,wk,wk2,wk1,wkM,wkL,ak,ybf,hss,hl0,hcl,hcl1,hcl2,hle]
  try omega
 subst h0
 have d0:((0:Int) != 0)=false:=rfl
 by_cases h1:w<1
 ·have d1:decide (w<1)=true:=by simpa using h1
  rw [show aq (m,l,0) w=(0,m,l,4) by simp [aq,h1]]
  dsimp only [aJ]
  try rw [hss]
  refine ACalls.fW ah (tCq cJ (tCq cS (tCq c7 (tCq cY tNq)))) Tryz.func44 [.tmp 4] (by simp [zlf]) (T:=ae []) (h:=fun hcl hlt=>?_)
  clear hlt
  have hcl1:=fun l' e'=>ax hid hcl m (.inl rfl) l' e'
  have hcl2:=fun l' e'=>ax hid hcl .any (.inr rfl) l' e' 
  simp only [go_sem,zav,byq,hne,hid,hcs,hcm,hgm,onR,aj,aE,zmb,zlz,zlk,and_true,true_and,hid,di,gv,d0,d1]
  simp (disch:=first|exact Zd|omega) [↓zmo,beq,ybc,ybd,ybe,ag,wk,wk2,wk1,wkM,wkL,ak,ybf,hss,hl0,hcl,hcl1,hcl2,hle]
  try omega
 have d1:decide (w<1)=false:=by simpa using h1
 by_cases h2:4<w
 ·have d2:decide (w > 4)=true:=by simpa using h2
  rw [show aq (m,l,0) w=(0,m,l,4) by simp [aq,h2]]
  dsimp only [aJ]
  try rw [hss]
  refine ACalls.fW ah (tCq cJ (tCq cS (tCq c7 (tCq cY tNq)))) Tryz.func44 [.tmp 4] (by simp [zlf]) (T:=ae []) (h:=fun hcl hlt=>?_)
  clear hlt
  have hcl1:=fun l' e'=>ax hid hcl m (.inl rfl) l' e'
  have hcl2:=fun l' e'=>ax hid hcl .any (.inr rfl) l' e' 
  simp only [go_sem,zav,byq,hne,hid,hcs,hcm,hgm,onR,aj,aE,zmb,zlz,zlk,and_true,true_and,hid,di,gv,d0,d1,d2]
  simp (disch:=first|exact Zd|omega) [↓zmo,beq,ybc,ybd,ybe,ag,wk,wk2,wk1,wkM,wkL,ak,ybf,hss,hl0,hcl,hcl1,hcl2,hle]
  try omega
 have d2:decide (w > 4)=false:=by simp;omega
 by_cases h3:(l.length:Int)<w
 ·have d3:(l.length:Int)<0+w:=by omega
  rw [show aq (m,l,0) w=(0,m,l,1) by simp [aq,h1,h2,h3]]
  dsimp only [aJ]
  try rw [hss]
  refine ACalls.fW ah (tCq cJ (tCq cS (tCq c7 (tCq cY tNq)))) Tryz.func44 [.tmp 4] (by simp [zlf]) (T:=ae []) (h:=fun hcl hlt=>?_)
  clear hlt
  have hcl1:=fun l' e'=>ax hid hcl m (.inl rfl) l' e'
  have hcl2:=fun l' e'=>ax hid hcl .any (.inr rfl) l' e' 
  simp only [go_sem,zav,byq,hne,hid,hcs,hcm,hgm,onR,aj,aE,zmb,zlz,zlk,and_true,true_and,hid,di,fQ,d0,d1,d2,if_pos d3]
  simp (disch:=first|exact Zd|omega) [↓zmo,beq,ybc,ybd,ybe,ag,wk,wk2,wk1,wkM,wkL,ak,ybf,hss,hl0,hcl,hcl1,hcl2,hle]
  try omega
 ·have d3:¬ (l.length:Int)<0+w:=by omega
  have d4:(0+w).toNat=w.toNat:=by omega
  have d5:Int.toNat 0=0:=rfl
  have d6:(l.take w.toNat).length=w.toNat:=by rw [List.length_take];omega
  have d7:List.take (l.length:Int).toNat l=l:=by simp
  rw [show aq (m,l,0) w=(((aO (l.take w.toNat):Nat):Int),Mark.any,l.drop w.toNat,(0:Int)) by simp [aq,h1,h2,h3]]
  dsimp only [aJ]
  try rw [hss]
  refine ACalls.fW ah (tCq cJ (tCq cS (tCq c7 (tCq cY tNq)))) Tryz.func44 [.tmp 4] (by simp [zlf]) (T:=ae []) (h:=fun hcl hlt=>?_)
  clear hlt
  have hcl1:=fun l' e'=>ax hid hcl m (.inl rfl) l' e'
  have hcl2:=fun l' e'=>ax hid hcl .any (.inr rfl) l' e' 
  simp only [go_sem,zav,byq,hne,hid,hcs,hcm,hgm,onR,aj,aE,zmb,zlz,zlk,and_true,true_and,hid,di,fQ,d0,d1,d2,if_neg d3,d4,d5,yap,gF,d6,d7]
  simp (disch:=first|exact Zd|omega) [↓zmo,beq,ybc,ybd,ybe,ag,wk,wk2,wk1,wkM,wkL,ak,ybf,hss,hl0,hcl,hcl1,hcl2,hle]
  try omega
def iP:List AV→AHeap→(AEnd→AHeap→Prop)→Prop
 |[.ptr id 0],H,K=>onR H id fun m l e=>True∧K (.ret (.bool (dq (m,l,e)).1)) (H.set id (.cells (aJ (dq (m,l,e)).2)))
 |_,_,_=>False
theorem tc:EntOk Tryz.prog 45 (Ent.effect iP):=by
 refine EntOk.effect fun args H K h=>?_
 unfold iP at h
 split at h
 rotate_left
 ·exact h.elim
 rename_i id
 obtain ⟨m,l,e,hid,hle,h⟩:=dw h
 obtain ⟨hpre,hK⟩:=h
 refine ⟨_,_,hK,?_⟩
 clear hK
 have hl0:=glq hid
 have hne:=dd hl0
 have hss:=cL hid
 have hcs:=aM hid
 have hcm:=fun cs=>@bd H id cs hl0
 have hgm:=fun o=>@bA H id o hl0
 by_cases h0:e=0
 case neg =>
  have d0:(e != 0)=true:=by simpa using h0
  rw [show dq (m,l,e)=(false,m,l,e) by simp [dq,h0]]
  dsimp only [aJ]
  try rw [hss]
  refine ACalls.fW ah (tCq cJ (tCq cS (tCq c7 tNq))) Tryz.func45 [.tmp 2] (by simp [zlf]) (T:=ae []) (h:=fun hcl hlt=>?_)
  clear hlt
  have hcl1:=fun l' e'=>ax hid hcl m (.inl rfl) l' e'
  have hcl2:=fun l' e'=>ax hid hcl .any (.inr rfl) l' e' 
  simp only [go_sem,zav,byq,hne,hid,hcs,hcm,hgm,onR,aj,aE,zmb,zlz,zlk,and_true,true_and,hid,di,d0]
  simp (disch:=first|exact Zd|omega) [↓zmo,beq,ybc,ybd,ybe,ag,wk,wk2,wk1,wkM,wkL,ak,ybf,hss,hl0,hcl,hcl1,hcl2,hle]
  try omega
 subst h0
 have d0:((0:Int) != 0)=false:=rfl
 by_cases h1:l.length<1
 ·have d1:(l.length:Int)<1:=by omega
  rw [show dq (m,l,0)=(false,m,l,1) by simp [dq,h1]]
  dsimp only [aJ]
  try rw [hss]
  refine ACalls.fW ah (tCq cJ (tCq cS (tCq c7 tNq))) Tryz.func45 [.tmp 2] (by simp [zlf]) (T:=ae []) (h:=fun hcl hlt=>?_)
  clear hlt
  have hcl1:=fun l' e'=>ax hid hcl m (.inl rfl) l' e'
  have hcl2:=fun l' e'=>ax hid hcl .any (.inr rfl) l' e' 
  simp only [go_sem,zav,byq,hne,hid,hcs,hcm,hgm,onR,aj,aE,zmb,zlz,zlk,and_true,true_and,hid,di,fQ,d0,if_pos d1]
  simp (disch:=first|exact Zd|omega) [↓zmo,beq,ybc,ybd,ybe,ag,wk,wk2,wk1,wkM,wkL,ak,ybf,hss,hl0,hcl,hcl1,hcl2,hle]
  try omega
 have d1:¬ (l.length:Int)<1:=by omega
 have d5:Int.toNat 0=0:=rfl
 have d6:(l.take 1).length=1:=by rw [List.length_take];omega
 have d7:List.take (l.length:Int).toNat l=l:=by simp
 have d8:(bys (l.take 1)).getD 0 .junk=aL (b0 l):=DY l 1 (by omega) (by omega)
 have d9:Int.toNat (0+1)=1:=rfl
 have d10:Int.toNat 1=1:=rfl
 by_cases h2:1<(b0 l).toNat
 ·have d2:decide (((b0 l).toNat:Int) > 1)=true:=by simp;omega
  rw [show dq (m,l,0)=(false,m,l,2) by simp [dq,h1,h2]]
  dsimp only [aJ]
  try rw [hss]
  refine ACalls.fW ah (tCq cJ (tCq cS (tCq c7 tNq))) Tryz.func45 [.tmp 2] (by simp [zlf]) (T:=ae []) (h:=fun hcl hlt=>?_)
  clear hlt
  have hcl1:=fun l' e'=>ax hid hcl m (.inl rfl) l' e'
  have hcl2:=fun l' e'=>ax hid hcl .any (.inr rfl) l' e' 
  simp only [go_sem,zav,byq,hne,hid,hcs,hcm,hgm,onR,aj,aE,zmb,zlz,zlk,and_true,true_and,hid,di,fQ,gv,d0,if_neg d1,d2,d5,d6,d7,d8,d9,d10,yap,aL]
  simp (disch:=first|exact Zd|omega) [↓zmo,beq,ybc,ybd,ybe,ag,wk,wk2,wk1,wkM,wkL,ak,ybf,hss,hl0,hcl,hcl1,hcl2,hle]
  try omega
 ·have d2:decide (((b0 l).toNat:Int) > 1)=false:=by simp;omega
  have d3:((((b0 l).toNat:Nat):Int)==1)=((b0 l).toNat==1):=by rw [Bool.eq_iff_iff];simp;omega
  rw [show dq (m,l,0)=((b0 l).toNat==1,Mark.any,l.drop 1,(0:Int)) by simp [dq,h1,h2]]
  dsimp only [aJ]
  try rw [hss]
  refine ACalls.fW ah (tCq cJ (tCq cS (tCq c7 tNq))) Tryz.func45 [.tmp 2] (by simp [zlf]) (T:=ae []) (h:=fun hcl hlt=>?_)
  clear hlt
  have hcl1:=fun l' e'=>ax hid hcl m (.inl rfl) l' e'
  have hcl2:=fun l' e'=>ax hid hcl .any (.inr rfl) l' e' 
  simp only [go_sem,zav,byq,hne,hid,hcs,hcm,hgm,onR,aj,aE,zmb,zlz,zlk,and_true,true_and,hid,di,fQ,gv,d0,if_neg d1,d2,d3,d5,d6,d7,d8,d9,d10,yap,aL]
  simp (disch:=first|exact Zd|omega) [↓zmo,beq,ybc,ybd,ybe,ag,wk,wk2,wk1,wkM,wkL,ak,ybf,hss,hl0,hcl,hcl1,hcl2,hle]
  try omega
def c6 (s:RS) (most:Int):List UInt8 × Int × Bool × Int :=
 if s.2.1.length<2 then ([],0,false,1) else if most<(aO (s.2.1.take 2):Nat) then ([],0,false,3)
 else if s.2.1.length<2+aO (s.2.1.take 2) then ([],((2+aO (s.2.1.take 2):Nat):Int),false,1)
 else ((s.2.1.take (2+aO (s.2.1.take 2))).drop 2,((2+aO (s.2.1.take 2):Nat):Int),true,s.2.2)
def ka:List AV→AHeap→(AEnd→AHeap→Prop)→Prop
 |[.ptr id 0,.int .i64 most],H,K=>onR H id fun m l e=>True∧K (.ret (.tup [.slice .any 1 (bys (c6 (m,l,e) most).1),.int .i64 (c6 (m,l,e) most).2.1,.bool (c6 (m,l,e) most).2.2.1])) (H.set id (.cells (aJ (m,l,(c6 (m,l,e) most).2.2.2))))
 |_,_,_=>False
theorem kC:EntOk Tryz.prog 147 (Ent.effect ka):=by
 refine EntOk.effect fun args H K h=>?_
 unfold ka at h
 split at h
 rotate_left
 ·exact h.elim
 rename_i id most
 obtain ⟨m,l,e,hid,hle,h⟩:=dw h
 obtain ⟨hpre,hK⟩:=h
 refine ⟨_,_,hK,?_⟩
 clear hK
 have hl0:=glq hid
 have hne:=dd hl0
 have hss:=cL hid
 have hcs:=aM hid
 have hcm:=fun cs=>@bd H id cs hl0
 have hgm:=fun o=>@bA H id o hl0
 by_cases h1:l.length<2
 ·have d1:(l.length:Int)<2:=by omega
  rw [show c6 (m,l,e) most=([],0,false,1) by simp [c6,h1]]
  dsimp only [aJ]
  try rw [hss]
  refine ACalls.fW ah (tCq cS (tCq c7 (tCq cY tNq))) Tryz.func147 [.tmp 4,.tmp 5,.tmp 6] (by simp [zlf]) (T:=ae []) (h:=fun hcl hlt=>?_)
  clear hlt
  have hcl1:=fun l' e'=>ax hid hcl m (.inl rfl) l' e'
  have hcl2:=fun l' e'=>ax hid hcl .any (.inr rfl) l' e' 
  simp only [go_sem,zav,byq,hne,hid,hcs,hcm,hgm,onR,aj,aE,zmb,zlz,zlk,and_true,true_and,hid,fQ,if_pos d1]
  simp (disch:=first|exact Zd|omega) [↓zmo,beq,ybc,ybd,ybe,ag,wk,wk2,wk1,wkM,wkL,ak,ybf,hss,hl0,hcl,hcl1,hcl2,hle]
  try omega
 have d1:¬ (l.length:Int)<2:=by omega
 have d5:Int.toNat 0=0:=rfl
 have d9:Int.toNat (0+2)=2:=rfl
 have d6:(l.take 2).length=2:=by rw [List.length_take];omega
 have hb:aO (l.take 2)<256^2:=by have:=lI (l.take 2);rwa [d6] at this
 by_cases h2:most<(aO (l.take 2):Nat)
 ·have d2:decide (((aO (l.take 2):Nat):Int) > most)=true:=by simpa using h2
  rw [show c6 (m,l,e) most=([],0,false,3) by simp [c6,h1,h2]]
  dsimp only [aJ]
  try rw [hss]
  refine ACalls.fW ah (tCq cS (tCq c7 (tCq cY tNq))) Tryz.func147 [.tmp 4,.tmp 5,.tmp 6] (by simp [zlf]) (T:=ae []) (h:=fun hcl hlt=>?_)
  clear hlt
  have hcl1:=fun l' e'=>ax hid hcl m (.inl rfl) l' e'
  have hcl2:=fun l' e'=>ax hid hcl .any (.inr rfl) l' e' 
  simp only [go_sem,zav,byq,hne,hid,hcs,hcm,hgm,onR,aj,aE,zmb,zlz,zlk,and_true,true_and,hid,fQ,gF,gv,if_neg d1,d2,d5,d6,d9,yap]
  simp (disch:=first|exact Zd|omega) [↓zmo,beq,ybc,ybd,ybe,ag,wk,wk2,wk1,wkM,wkL,ak,ybf,hss,hl0,hcl,hcl1,hcl2,hle]
  try omega
 have d2:decide (((aO (l.take 2):Nat):Int) > most)=false:=by simpa using h2
 have w1:IntKind.i64.wrap (2+((aO (l.take 2):Nat):Int))=((2+aO (l.take 2):Nat):Int):=by rw [wrap_i64]<;>omega
 by_cases h3:l.length<2+aO (l.take 2)
 ·have d3:(l.length:Int)<2+((aO (l.take 2):Nat):Int):=by omega
  rw [show c6 (m,l,e) most=([],((2+aO (l.take 2):Nat):Int),false,1) by simp [c6,h1,h2,h3]]
  dsimp only [aJ]
  try rw [hss]
  refine ACalls.fW ah (tCq cS (tCq c7 (tCq cY tNq))) Tryz.func147 [.tmp 4,.tmp 5,.tmp 6] (by simp [zlf]) (T:=ae []) (h:=fun hcl hlt=>?_)
  clear hlt
  have hcl1:=fun l' e'=>ax hid hcl m (.inl rfl) l' e'
  have hcl2:=fun l' e'=>ax hid hcl .any (.inr rfl) l' e' 
  simp only [go_sem,zav,byq,hne,hid,hcs,hcm,hgm,onR,aj,aE,zmb,zlz,zlk,and_true,true_and,hid,fQ,gF,gv,if_neg d1,if_pos d3,d2,d5,d6,d9,w1,yap]
  simp (disch:=first|exact Zd|omega) [↓zmo,beq,ybc,ybd,ybe,ag,wk,wk2,wk1,wkM,wkL,ak,ybf,hss,hl0,hcl,hcl1,hcl2,hle]
  try omega
 ·have d3:¬ (l.length:Int)<2+((aO (l.take 2):Nat):Int):=by omega
  have d4:(2+((aO (l.take 2):Nat):Int)).toNat=2+aO (l.take 2):=by omega
  have d8:Int.toNat 2=2:=rfl
  rw [show c6 (m,l,e) most=((l.take (2+aO (l.take 2))).drop 2,((2+aO (l.take 2):Nat):Int),true,e) by simp [c6,h1,h2,h3]]
  dsimp only [aJ]
  try rw [hss]
  refine ACalls.fW ah (tCq cS (tCq c7 (tCq cY tNq))) Tryz.func147 [.tmp 4,.tmp 5,.tmp 6] (by simp [zlf]) (T:=ae []) (h:=fun hcl hlt=>?_)
  clear hlt
  have hcl1:=fun l' e'=>ax hid hcl m (.inl rfl) l' e'
  have hcl2:=fun l' e'=>ax hid hcl .any (.inr rfl) l' e' 
  simp only [go_sem,zav,byq,hne,hid,hcs,hcm,hgm,onR,aj,aE,zmb,zlz,zlk,and_true,true_and,hid,fQ,gF,gv,if_neg d1,if_neg d3,d2,d4,d5,d6,d8,d9,w1,yap]
  simp (disch:=first|exact Zd|omega) [↓zmo,beq,ybc,ybd,ybe,ag,wk,wk2,wk1,wkM,wkL,ak,ybf,hss,hl0,hcl,hcl1,hcl2,hle]
  try omega
def il:List AV→AHeap→(AEnd→AHeap→Prop)→Prop
 |[.ptr id 0,.int .i64 most],H,K=>onR H id fun m l e=>True∧K (.ret (.slice .any 1 (bys (cW (m,l,e) most).1))) (H.set id (.cells (aJ (cW (m,l,e) most).2)))
 |_,_,_=>False
theorem u4:EntOk Tryz.prog 49 (Ent.effect il):=by
 refine EntOk.effect fun args H K h=>?_
 unfold il at h
 split at h
 rotate_left
 ·exact h.elim
 rename_i id most
 obtain ⟨m,l,e,hid,hle,h⟩:=dw h
 obtain ⟨hpre,hK⟩:=h
 refine ⟨_,_,hK,?_⟩
 clear hK
 have hl0:=glq hid
 have hne:=dd hl0
 have hss:=cL hid
 have hcs:=aM hid
 have hcm:=fun cs=>@bd H id cs hl0
 have hgm:=fun o=>@bA H id o hl0
 by_cases h0:e=0
 case neg =>
  have d0:(e != 0)=true:=by simpa using h0
  rw [show cW (m,l,e) most=([],m,l,e) by simp [cW,h0]]
  dsimp only [aJ]
  try rw [hss]
  refine ACalls.fW ah (tCq cJ (tCq kC (tCq lR tNq))) Tryz.func49 [.tmp 4] (by simp [zlf]) (T:=ae []) (h:=fun hcl hlt=>?_)
  clear hlt
  have hcl1:=fun l' e'=>ax hid hcl m (.inl rfl) l' e'
  have hcl2:=fun l' e'=>ax hid hcl .any (.inr rfl) l' e' 
  simp only [go_sem,zav,byq,hne,hid,hcs,hcm,hgm,onR,aj,aE,zmb,zlz,zlk,and_true,true_and,hid,di,d0]
  simp (disch:=first|exact Zd|omega) [↓zmo,beq,ybc,ybd,ybe,ag,wk,wk2,wk1,wkM,wkL,ak,ybf,hss,hl0,hcl,hcl1,hcl2,hle]
  try omega
 subst h0
 have d0:((0:Int) != 0)=false:=rfl
 by_cases h1:l.length<2
 ·have dc:c6 (m,l,0) most=([],0,false,1):=by simp [c6,h1]
  rw [show cW (m,l,0) most=([],m,l,1) by simp [cW,h1]]
  dsimp only [aJ]
  try rw [hss]
  refine ACalls.fW ah (tCq cJ (tCq kC (tCq lR tNq))) Tryz.func49 [.tmp 4] (by simp [zlf]) (T:=ae []) (h:=fun hcl hlt=>?_)
  clear hlt
  have hcl1:=fun l' e'=>ax hid hcl m (.inl rfl) l' e'
  have hcl2:=fun l' e'=>ax hid hcl .any (.inr rfl) l' e' 
  simp only [go_sem,zav,byq,hne,hid,hcs,hcm,hgm,onR,aj,aE,zmb,zlz,zlk,and_true,true_and,hid,di,ka,aJ,d0,dc]
  simp (disch:=first|exact Zd|omega) [↓zmo,beq,ybc,ybd,ybe,ag,wk,wk2,wk1,wkM,wkL,ak,ybf,hss,hl0,hcl,hcl1,hcl2,hle]
  try omega
 by_cases h2:most<(aO (l.take 2):Nat)
 ·have dc:c6 (m,l,0) most=([],0,false,3):=by simp [c6,h1,h2]
  rw [show cW (m,l,0) most=([],m,l,3) by simp [cW,h1,h2]]
  dsimp only [aJ]
  try rw [hss]
  refine ACalls.fW ah (tCq cJ (tCq kC (tCq lR tNq))) Tryz.func49 [.tmp 4] (by simp [zlf]) (T:=ae []) (h:=fun hcl hlt=>?_)
  clear hlt
  have hcl1:=fun l' e'=>ax hid hcl m (.inl rfl) l' e'
  have hcl2:=fun l' e'=>ax hid hcl .any (.inr rfl) l' e' 
  simp only [go_sem,zav,byq,hne,hid,hcs,hcm,hgm,onR,aj,aE,zmb,zlz,zlk,and_true,true_and,hid,di,ka,aJ,d0,dc]
  simp (disch:=first|exact Zd|omega) [↓zmo,beq,ybc,ybd,ybe,ag,wk,wk2,wk1,wkM,wkL,ak,ybf,hss,hl0,hcl,hcl1,hcl2,hle]
  try omega
 have d6:(l.take 2).length=2:=by rw [List.length_take];omega
 have hb:aO (l.take 2)<256^2:=by have:=lI (l.take 2);rwa [d6] at this
 by_cases h3:l.length<2+aO (l.take 2)
 ·have dc:c6 (m,l,0) most=([],((2+aO (l.take 2):Nat):Int),false,1):=by simp [c6,h1,h2,h3]
  rw [show cW (m,l,0) most=([],m,l,1) by simp [cW,h1,h2,h3]]
  dsimp only [aJ]
  try rw [hss]
  refine ACalls.fW ah (tCq cJ (tCq kC (tCq lR tNq))) Tryz.func49 [.tmp 4] (by simp [zlf]) (T:=ae []) (h:=fun hcl hlt=>?_)
  clear hlt
  have hcl1:=fun l' e'=>ax hid hcl m (.inl rfl) l' e'
  have hcl2:=fun l' e'=>ax hid hcl .any (.inr rfl) l' e' 
  simp only [go_sem,zav,byq,hne,hid,hcs,hcm,hgm,onR,aj,aE,zmb,zlz,zlk,and_true,true_and,hid,di,ka,aJ,d0,dc]
  simp (disch:=first|exact Zd|omega) [↓zmo,beq,ybc,ybd,ybe,ag,wk,wk2,wk1,wkM,wkL,ak,ybf,hss,hl0,hcl,hcl1,hcl2,hle]
  try omega
 ·have dc:c6 (m,l,0) most=((l.take (2+aO (l.take 2))).drop 2,((2+aO (l.take 2):Nat):Int),true,0):=by simp [c6,h1,h2,h3]
  have d7:List.take (l.length:Int).toNat l=l:=by simp
  have d8:((l.take (2+aO (l.take 2))).drop 2).length≤140737488355328:=by simp;omega
  rw [show cW (m,l,0) most=((l.take (2+aO (l.take 2))).drop 2,Mark.any,l.drop (2+aO (l.take 2)),(0:Int)) by simp [cW,h1,h2,h3]]
  dsimp only [aJ]
  try rw [hss]
  refine ACalls.fW ah (tCq cJ (tCq kC (tCq lR tNq))) Tryz.func49 [.tmp 4] (by simp [zlf]) (T:=ae []) (h:=fun hcl hlt=>?_)
  clear hlt
  have hcl1:=fun l' e'=>ax hid hcl m (.inl rfl) l' e'
  have hcl2:=fun l' e'=>ax hid hcl .any (.inr rfl) l' e' 
  simp only [go_sem,zav,byq,hne,hid,hcs,hcm,hgm,onR,aj,aE,zmb,zlz,zlk,and_true,true_and,hid,di,ka,sn,aJ,d0,dc,d7,d8,iNq]
  simp (disch:=first|exact Zd|omega) [↓zmo,beq,ybc,ybd,ybe,ag,wk,wk2,wk1,wkM,wkL,ak,ybf,hss,hl0,hcl,hcl1,hcl2,hle]
  try omega
def fC:List AV→AHeap→(AEnd→AHeap→Prop)→Prop
 |[.ptr id 0,.int .i64 most],H,K=>onR H id fun m l e=>True∧K (.ret (.int .i64 (bf (m,l,e) most).1)) (H.set id (.cells (aJ (bf (m,l,e) most).2)))
 |_,_,_=>False
theorem rz:EntOk Tryz.prog 46 (Ent.effect fC):=by
 refine EntOk.effect fun args H K h=>?_
 unfold fC at h
 split at h
 rotate_left
 ·exact h.elim
 rename_i id most
 obtain ⟨m,l,e,hid,hle,h⟩:=dw h
 obtain ⟨hpre,hK⟩:=h
 refine ⟨_,_,hK,?_⟩
 clear hK
 have hl0:=glq hid
 have hne:=dd hl0
 have hss:=cL hid
 have hcs:=aM hid
 have hcm:=fun cs=>@bd H id cs hl0
 have hgm:=fun o=>@bA H id o hl0
 by_cases h0:e=0
 case neg =>
  have d0:(e != 0)=true:=by simpa using h0
  rw [show bf (m,l,e) most=(0,m,l,e) by simp [bf,h0]]
  dsimp only [aJ]
  try rw [hss]
  refine ACalls.fW ah (tCq cJ (tCq c7 (tCq cY (tCq cS tNq)))) Tryz.func46 [.tmp 4] (by simp [zlf]) (T:=ae []) (h:=fun hcl hlt=>?_)
  clear hlt
  have hcl1:=fun l' e'=>ax hid hcl m (.inl rfl) l' e'
  have hcl2:=fun l' e'=>ax hid hcl .any (.inr rfl) l' e' 
  simp only [go_sem,zav,byq,hne,hid,hcs,hcm,hgm,onR,aj,aE,zmb,zlz,zlk,and_true,true_and,hid,di,d0]
  simp (disch:=first|exact Zd|omega) [↓zmo,beq,ybc,ybd,ybe,ag,wk,wk2,wk1,wkM,wkL,ak,ybf,hss,hl0,hcl,hcl1,hcl2,hle]
  try omega
 subst h0
 have d0:((0:Int) != 0)=false:=rfl
 by_cases h1:l.length<2
 ·have d1:(l.length:Int)<2:=by omega
  rw [show bf (m,l,0) most=(0,m,l,1) by simp [bf,h1]]
  dsimp only [aJ]
  try rw [hss]
  refine ACalls.fW ah (tCq cJ (tCq c7 (tCq cY (tCq cS tNq)))) Tryz.func46 [.tmp 4] (by simp [zlf]) (T:=ae []) (h:=fun hcl hlt=>?_)
  clear hlt
  have hcl1:=fun l' e'=>ax hid hcl m (.inl rfl) l' e'
  have hcl2:=fun l' e'=>ax hid hcl .any (.inr rfl) l' e' 
  simp only [go_sem,zav,byq,hne,hid,hcs,hcm,hgm,onR,aj,aE,zmb,zlz,zlk,and_true,true_and,hid,di,fQ,d0,if_pos d1]
  simp (disch:=first|exact Zd|omega) [↓zmo,beq,ybc,ybd,ybe,ag,wk,wk2,wk1,wkM,wkL,ak,ybf,hss,hl0,hcl,hcl1,hcl2,hle]
  try omega
 have d1:¬ (l.length:Int)<2:=by omega
 have d5:Int.toNat 0=0:=rfl
 have d9:Int.toNat (0+2)=2:=rfl
 have d10:Int.toNat 2=2:=rfl
 have d6:(l.take 2).length=2:=by rw [List.length_take];omega
 have d7:List.take (l.length:Int).toNat l=l:=by simp
 by_cases h2:most<(aO (l.take 2):Nat)
 ·have d2:decide (((aO (l.take 2):Nat):Int) > most)=true:=by simpa using h2
  rw [show bf (m,l,0) most=(0,m,l,3) by simp [bf,h1,h2]]
  dsimp only [aJ]
  try rw [hss]
  refine ACalls.fW ah (tCq cJ (tCq c7 (tCq cY (tCq cS tNq)))) Tryz.func46 [.tmp 4] (by simp [zlf]) (T:=ae []) (h:=fun hcl hlt=>?_)
  clear hlt
  have hcl1:=fun l' e'=>ax hid hcl m (.inl rfl) l' e'
  have hcl2:=fun l' e'=>ax hid hcl .any (.inr rfl) l' e' 
  simp only [go_sem,zav,byq,hne,hid,hcs,hcm,hgm,onR,aj,aE,zmb,zlz,zlk,and_true,true_and,hid,di,fQ,gF,gv,d0,if_neg d1,d2,d5,d6,d7,d9,d10,yap]
  simp (disch:=first|exact Zd|omega) [↓zmo,beq,ybc,ybd,ybe,ag,wk,wk2,wk1,wkM,wkL,ak,ybf,hss,hl0,hcl,hcl1,hcl2,hle]
  try omega
 ·have d2:decide (((aO (l.take 2):Nat):Int) > most)=false:=by simpa using h2
  rw [show bf (m,l,0) most=(((aO (l.take 2):Nat):Int),Mark.any,l.drop 2,(0:Int)) by simp [bf,h1,h2]]
  dsimp only [aJ]
  try rw [hss]
  refine ACalls.fW ah (tCq cJ (tCq c7 (tCq cY (tCq cS tNq)))) Tryz.func46 [.tmp 4] (by simp [zlf]) (T:=ae []) (h:=fun hcl hlt=>?_)
  clear hlt
  have hcl1:=fun l' e'=>ax hid hcl m (.inl rfl) l' e'
  have hcl2:=fun l' e'=>ax hid hcl .any (.inr rfl) l' e' 
  simp only [go_sem,zav,byq,hne,hid,hcs,hcm,hgm,onR,aj,aE,zmb,zlz,zlk,and_true,true_and,hid,di,fQ,gF,gv,d0,if_neg d1,d2,d5,d6,d7,d9,d10,yap]
  simp (disch:=first|exact Zd|omega) [↓zmo,beq,ybc,ybd,ybe,ag,wk,wk2,wk1,wkM,wkL,ak,ybf,hss,hl0,hcl,hcl1,hcl2,hle]
  try omega
def cK:List AV→AHeap→(AV→Prop)→Prop
 |[.nilp],_,K=>K (.int .i64 0)
 |[.ptr id 0],H,K=>onR H id fun m l e=>K (.int .i64 e)
 |_,_,_=>False
theorem gx:EntOk Tryz.prog 136 (Ent.pure cK):=by
 refine Ype fun _ H K h=>?_
 unfold cK at h
 split at h
 ·refine ⟨_,h,?_⟩
  refine ACalls.fW ah tNq Tryz.func136 [.tmp 2] (nrq _) (T:=ae []) (h:=fun hcl hlt=>?_)
  clear h hlt
  simp only [go_sem,zav,byq]
  exact Z2
 ·rename_i id
  obtain ⟨m,l,e,hid,hle,hK⟩:=dw h
  refine ⟨_,hK,?_⟩
  have hcs:=aM hid
  refine ACalls.fW ah tNq Tryz.func136 [.tmp 2] (nrq _) (T:=ae []) (h:=fun hcl hlt=>?_)
  clear h hK hlt
  simp only [go_sem,zav,byq,hcs]
  exact Z2
 ·exact h.elim
def bv:List AV→AHeap→(AV→Prop)→Prop
 |[.ptr id 0],H,K=>onR H id fun m l e=>K (.int .i64 (gO (m,l,e)))
 |_,_,_=>False
theorem fD:EntOk Tryz.prog 50 (Ent.pure bv):=by
 refine Ype fun _ H K h=>?_
 unfold bv at h
 split at h
 rotate_left
 ·exact h.elim
 rename_i id
 obtain ⟨m,l,e,hid,hle,hK⟩:=dw h
 refine ⟨_,hK,?_⟩
 have hcs:=aM hid
 by_cases h0:e=0
 ·subst h0
  have d0:((0:Int) != 0)=false:=rfl
  by_cases h1:0<l.length
  ·have d1:decide ((l.length:Int) > 0)=true:=by simpa using h1
   rw [show gO (m,l,0)=2 by simp [gO,h1]]
   refine ACalls.fW ah (tCq cJ (tCq gx tNq)) Tryz.func50 [.tmp 2] (nrq _) (T:=ae []) (h:=fun hcl hlt=>?_)
   clear h hK hlt
   simp only [go_sem,zav,byq,hcs,hid,di,cK,onR,aj,aE,d0,d1]
   exact Z4
  ·have hl:l=[]:=List.eq_nil_of_length_eq_zero (by omega)
   subst hl
   have d1:decide ((([]:List UInt8).length:Int) > 0)=false:=rfl
   rw [show gO (m,[],0)=0 by simp [gO]]
   refine ACalls.fW ah (tCq cJ (tCq gx tNq)) Tryz.func50 [.tmp 2] (nrq _) (T:=ae []) (h:=fun hcl hlt=>?_)
   clear h hK hlt
   simp only [go_sem,zav,byq,hcs,hid,di,cK,onR,aj,aE,d0,d1]
   simp (disch:=first|exact Zd|omega) [↓zmo,beq,ybc,ybd,ybe,ag,wk,wk2,wk1,wkM,wkL,ak,ybf,hcl,zmb,zmc,zlk,mV]
 ·have d0:(e != 0)=true:=by simpa using h0
  rw [show gO (m,l,e)=e by simp [gO,h0]]
  refine ACalls.fW ah (tCq cJ (tCq gx tNq)) Tryz.func50 [.tmp 2] (nrq _) (T:=ae []) (h:=fun hcl hlt=>?_)
  clear h hK hlt
  simp only [go_sem,zav,byq,hcs,hid,di,cK,onR,aj,aE,d0,zlz]
  exact Z4
end Go.AL
