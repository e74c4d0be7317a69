/- Contracts and plain laws, a part of the proof; no condition of its own. -/
import Derived.Test.YtiiiljghmilepaaGreatCW
import Derived.Test.YtiiiljghmilepaaGreatLGen
open List renaming length_cons → yaz, length_nil → yba, take_of_length_le → ybc, drop_append → ybd, take_append → ybe, drop_eq_nil_of_le → ybf, take_zero → yar, drop_zero → yap
open Go Go.AL Go.Proofs
namespace Go.AL
set_option linter.all false
set_option maxRecDepth 10000
theorem Bb:ti Tryz.prog 256=some ⟨.struct [(0,22,false),(1,23,false)],2,32,.agg [.slice .nil 1 [],.int .i64 0]⟩:=by kernel_rfl
theorem CV:ti Tryz.prog 23=some ⟨.int .i64,1,8,.int .i64 0⟩:=by kernel_rfl
theorem xK:ti Tryz.prog 102=some ⟨.ptr 256,1,8,.nilp⟩:=by kernel_rfl
attribute [go_sem] Bb CV xK
def uw:List AV→AHeap→(AV→Prop)→Prop
 |[.slice _ 1 l],_,K=>(isB l∧l.length≤140737488355328)∧K (.slice .any 1 (bys (unb l)))
 |_,_,_=>False
theorem B9:EntOk Tryz.prog 129 (Ent.pure uw):=by
 refine EntOk.pure fun args H K h=>?_
 unfold uw at h
 split at h
 rotate_left
 ·exact h.elim
 rename_i m l
 obtain ⟨⟨c1,hle⟩,hK⟩:=h
 refine ⟨_,hK,?_⟩
 obtain ⟨xs,rfl⟩:=dO c1
 simp only [zlt,zle] at *
 refine ACalls.fW aB TblOk.nil Tryz.func129 [.tmp 2] (Nat.le_refl _) (T:=ay []) (h:=fun hcl hlt=>?_)
 clear hK hlt
 simp only [go_sem,zav,byq]
 intro b hb
 refine cS (fun h1=>?_) (fun h1=>?_)
 ·subst h1
  have:xs=[]:=by
   cases xs with
   |nil=>rfl
   |cons a t=>simp [bys] at hb
  subst this
  simp (disch:=first|assumption|omega|(simp;done)|(simp;omega)|(simp only [bt,and_true];first|done|omega|(simp;done))) [↓zmi,beq,ybc,ybd,ybe,al,wk,wk2,wk1,wkM,wkL,aG,ybf,hcl]
 ·refine ⟨by omega,?_⟩
  simp (disch:=first|assumption|omega|(simp;done)|(simp;omega)|(simp only [bt,and_true];first|done|omega|(simp;done))) [↓zmi,beq,ybc,ybd,ybe,al,wk,wk2,wk1,wkM,wkL,aG,ybf,hcl]
def yE:List AV→AHeap→(AEnd→AHeap→Prop)→Prop
 |[.slice _ 1 l],H,K=>(isB l∧l.length≤140737488355328)∧K (.ret (.ptr H.nx 0)) (H.push (.cells [.slice .any 1 (bys (unb l)),.int .i64 0]))
 |_,_,_=>False
theorem BW:EntOk Tryz.prog 43 (Ent.effect yE):=by
 refine EntOk.effect fun args H K h=>?_
 unfold yE at h
 split at h
 rotate_left
 ·exact h.elim
 rename_i m l
 obtain ⟨⟨c1,hle⟩,hK⟩:=h
 refine ⟨_,_,hK,?_⟩
 obtain ⟨xs,rfl⟩:=dO c1
 simp only [zlt,zle] at *
 refine ACalls.fW aB (TblOk.cons B9 TblOk.nil) Tryz.func43 [.tmp 2] (by simp only [zky];omega) (T:=ay []) (h:=fun hcl hlt=>?_)
 clear hK hlt
 simp only [go_sem,zav,byq,uw]
 refine ⟨by omega,?_⟩
 have hc:(H.push (.cells [.slice .any 1 (bys xs),.int .i64 0])).Closed:=ag hcl (by simp [ltL,zmm,zmz])
 simp (disch:=first|assumption|omega|(simp;done)|(simp;omega)|(simp only [bt,and_true];first|done|omega|(simp;done))) [↓zmi,beq,ybc,ybd,ybe,al,wk,wk2,wk1,wkM,wkL,aG,ybf,hc]
def ei:List AV→AHeap→(AV→Prop)→Prop
 |[.nilp],_,K=>K (.bool true)
 |[.ptr id 0],H,K=>onR H id fun m l e=>K (.bool (e != 0))
 |_,_,_=>False
theorem dn:EntOk Tryz.prog 130 (Ent.pure ei):=by
 refine EntOk.pure fun args H K h=>?_
 unfold ei at h
 split at h
 ·refine ⟨_,h,?_⟩
  refine ACalls.fW aB TblOk.nil Tryz.func130 [.tmp 2] (Nat.le_refl _) (T:=ay []) (h:=fun hcl hlt=>?_)
  clear h hlt
  simp only [go_sem,zav,byq]
  simp (disch:=first|assumption|omega|(simp;done)|(simp;omega)|(simp only [bt,and_true];first|done|omega|(simp;done))) [↓zmi,beq,ybc,ybd,ybe,al,wk,wk2,wk1,wkM,wkL,aG,ybf,hcl]
 ·rename_i id
  obtain ⟨m,l,e,hid,hle,hK⟩:=bU h
  refine ⟨_,hK,?_⟩
  have hcs:=aI hid
  refine ACalls.fW aB TblOk.nil Tryz.func130 [.tmp 2] (Nat.le_refl _) (T:=ay []) (h:=fun hcl hlt=>?_)
  clear h hK hlt
  simp only [go_sem,zav,byq,hcs]
  simp (disch:=first|assumption|omega|(simp;done)|(simp;omega)|(simp only [bt,and_true];first|done|omega|(simp;done))) [↓zmi,beq,ybc,ybd,ybe,al,wk,wk2,wk1,wkM,wkL,aG,ybf,hcl]
 ·exact h.elim
def gP:List AV→AHeap→(AEnd→AHeap→Prop)→Prop
 |[.ptr id 0,.int .i64 x],H,K=>onR H id fun m l e=>True∧K (.ret (.tup [])) (H.set id (.cells [.slice m 1 (bys l),.int .i64 x]))
 |_,_,_=>False
theorem da:EntOk Tryz.prog 131 (Ent.effect gP):=by
 refine EntOk.effect fun args H K h=>?_
 unfold gP at h
 split at h
 rotate_left
 ·exact h.elim
 rename_i id x
 obtain ⟨m,l,e,hid,hle,h⟩:=bU h
 obtain ⟨hpre,hK⟩:=h
 refine ⟨_,_,hK,?_⟩
 clear hK
 have hl0:=AHeap.get_lt hid
 have hne:=aU hl0
 have hss:=bo hid
 have hcs:=aI hid
 have hcm:=fun cs=>@av H id cs hl0
 have hgm:=fun o=>@aN H id o hl0
 refine ACalls.fW aB TblOk.nil Tryz.func131 [] (Nat.le_refl _) (T:=ay []) (h:=fun hcl hlt=>?_)
 clear hlt
 have hcl1:=fun l' e'=>am hid hcl m (.inl rfl) l' e'
 have hcl2:=fun l' e'=>am hid hcl .any (.inr rfl) l' e' 
 simp only [go_sem,zav,byq,hne,hid,hcs,hcm,hgm,onR,ae,au,zlv,zlt,zle,and_true,true_and]
 simp (disch:=first|assumption|omega|(simp;done)|(simp;omega)|(simp only [bt,and_true];first|done|omega|(simp;done))) [↓zmi,beq,ybc,ybd,ybe,al,wk,wk2,wk1,wkM,wkL,aG,ybf,hss,hl0,hcl1,hcl2,zlv,zlt,zle]
def gB:List AV→AHeap→(AEnd→AHeap→Prop)→Prop
 |[.ptr id 0,.int .i64 a,.int .i64 n],H,K=>onR H id fun m l e=>(0≤a∧a≤100000∧0≤n∧n≤100000) ∧
   (if (l.length:Int)<a+n then K (.ret (.tup [.slice .any 1 [],.bool false])) (H.set id (.cells [.slice m 1 (bys l),.int .i64 1]))
    else K (.ret (.tup [.slice .any 1 (bys ((l.take (a+n).toNat).drop a.toNat)),.bool true])) H)
 |_,_,_=>False
theorem eA:EntOk Tryz.prog 132 (Ent.effect gB):=by
 refine EntOk.effect fun args H K h=>?_
 unfold gB at h
 split at h
 rotate_left
 ·exact h.elim
 rename_i id a n
 obtain ⟨m,l,e,hid,hle,h⟩:=bU h
 obtain ⟨hpre,hK⟩:=h
 have hl0:=AHeap.get_lt hid
 have hne:=aU hl0
 have hss:=bo hid
 have hcs:=aI hid
 have hcm:=fun cs=>@av H id cs hl0
 have hgm:=fun o=>@aN H id o hl0
 have hw:IntKind.i64.wrap (a+n)=a+n:=by rw [wrap_i64]<;>omega
 split at hK
 ·rename_i hlt0
  refine ⟨_,_,hK,?_⟩
  refine ACalls.fW aB (TblOk.cons da TblOk.nil) Tryz.func132 [.tmp 6,.tmp 7] (Nat.le_refl _) (T:=ay []) (h:=fun hcl hlt=>?_)
  clear hlt hK
  have hcl1:=fun l' e'=>am hid hcl m (.inl rfl) l' e'
  have hd:decide ((l.length:Int)<a+n)=true:=by simpa using hlt0
  simp only [go_sem,zav,byq,hne,hid,hcs,hcm,hgm,onR,ae,au,zlv,zlt,zle,and_true,true_and,gP,hw,hd]
  refine ⟨by omega,?_⟩
  simp (disch:=first|assumption|omega|(simp;done)|(simp;omega)|(simp only [bt,and_true];first|done|omega|(simp;done))) [↓zmi,beq,ybc,ybd,ybe,al,wk,wk2,wk1,wkM,wkL,aG,ybf,hss,hl0,hcl1]
 ·rename_i hlt0
  refine ⟨_,_,hK,?_⟩
  refine ACalls.fW aB (TblOk.cons da TblOk.nil) Tryz.func132 [.tmp 6,.tmp 7] (Nat.le_refl _) (T:=ay []) (h:=fun hcl hlt=>?_)
  clear hlt hK
  have hd:decide ((l.length:Int)<a+n)=false:=by simpa using hlt0
  simp only [go_sem,zav,byq,hne,hid,hcs,hcm,hgm,onR,ae,au,zlv,zlt,zle,and_true,true_and,gP,hw,hd]
  refine ⟨by omega,?_⟩
  simp (disch:=first|assumption|omega|(simp;done)|(simp;omega)|(simp only [bt,and_true];first|done|omega|(simp;done))) [↓zmi,beq,ybc,ybd,ybe,al,wk,wk2,wk1,wkM,wkL,aG,ybf,hcl]
def iB:List AV→AHeap→(AV→Prop)→Prop
 |[.slice _ 1 l],_,K=>(isB l∧l.length≤6)∧K (.int .i64 (bT (unb l):Nat))
 |_,_,_=>False
theorem ek:EntOk Tryz.prog 133 (Ent.pure iB):=by
 refine EntOk.pure fun args H K h=>?_
 unfold iB at h
 split at h
 rotate_left
 ·exact h.elim
 rename_i m l
 obtain ⟨⟨c1,hle⟩,hK⟩:=h
 refine ⟨_,hK,?_⟩
 obtain ⟨xs,rfl⟩:=dO c1
 simp only [zlt,zle] at *
 refine ACalls.fW aB TblOk.nil Tryz.func133 [.tmp 2] (Nat.le_refl _) (T:=ay []) (h:=fun hcl hlt=>?_)
 clear hK hlt
 simp only [go_sem,byq]
 refine eE (A:=Nat) (fun k=>[(8,.int .i64 (k:Int)),(7,.int .i64 (xs.length:Int)),(6,.slice m 1 (bys xs)),(3,.int .i64 (bT (xs.take k):Nat))])
  (fun k=>H) (fun k=>k≤xs.length) (fun k=>xs.length - k) 0 (by omega) ?_ fun k hk=>?_
 ·simp only [bnq,enter,iz,ltF,ne_eq,Nat.reduceEqDiff,reduceCtorEq,yar,pG,true_or,and_true]
 simp only [go_sem,byq]
 refine ai (fun hc=>?_) (fun hc=>?_)
 ·have hk:k<xs.length:=by simp at hc;omega
  have e1:IntKind.i64.wrap ((k:Int)+1)=((k+1:Nat):Int):=by rw [wrap_i64]<;>omega
  have hb:bT (xs.take k)<256^6:=iU xs k 6 hle
  have hx:(bys xs).getD k .junk=bd (xs.getD k 0):=iG hk
  have e2:IntKind.i64.wrap (((xs.getD k 0).toNat:Nat):Int)=(((xs.getD k 0).toNat:Nat):Int):=f6 _ (by have:=UInt8.toNat_lt (xs.getD k 0);omega)
  have e3:=Fo (bT (xs.take k)) (xs.getD k 0).toNat (by omega) (UInt8.toNat_lt _)
  rw [← nL xs k hk] at e3
  simp only [go_sem,byq,Int.toNat_natCast,hx,e1,zle,bd,e2,e3]
  refine ⟨by omega,by decide,k+1,by omega,by omega,?_⟩
  simp only [bnq,enter,iz,ltF,ne_eq,Nat.reduceEqDiff,reduceCtorEq,true_or,and_self]
 ·have hk:k=xs.length:=by simp at hc;omega
  subst hk
  simp only [go_sem,byq,List.take_length]
  simp (disch:=first|assumption|omega|(simp;done)|(simp;omega)|(simp only [bt,and_true];first|done|omega|(simp;done))) [↓zmi,beq,ybc,ybd,ybe,al,wk,wk2,wk1,wkM,wkL,aG,ybf,hcl]
end Go.AL
open Go Go.AL Go.Proofs
namespace Go.AL
set_option linter.all false
set_option maxRecDepth 10000
def hM:List AV→AHeap→(AEnd→AHeap→Prop)→Prop
 |[.ptr id 0,.int .i64 w],H,K=>onR H id fun m l e=>True∧K (.ret (.int .i64 (bB (m,l,e) w).1)) (H.set id (.cells (aE (bB (m,l,e) w).2)))
 |_,_,_=>False
theorem gy:EntOk Tryz.prog 44 (Ent.effect hM):=by
 refine EntOk.effect fun args H K h=>?_
 unfold hM at h
 split at h
 rotate_left
 ·exact h.elim
 rename_i id w
 obtain ⟨m,l,e,hid,hle,h⟩:=bU h
 obtain ⟨hpre,hK⟩:=h
 refine ⟨_,_,hK,?_⟩
 clear hK
 have hl0:=AHeap.get_lt hid
 have hne:=aU hl0
 have hss:=bo hid
 have hcs:=aI hid
 have hcm:=fun cs=>@av H id cs hl0
 have hgm:=fun o=>@aN H id o hl0
 by_cases h0:e=0
 case neg =>
  have d0:(e != 0)=true:=by simpa using h0
  rw [show bB (m,l,e) w=(0,m,l,e) by simp [bB,h0]]
  dsimp only [aE]
  try rw [hss]
  refine ACalls.fW aB (TblOk.cons dn (TblOk.cons da (TblOk.cons eA (TblOk.cons ek TblOk.nil)))) Tryz.func44 [.tmp 4] (by simp [zkz]) (T:=ay []) (h:=fun hcl hlt=>?_)
  clear hlt
  have hcl1:=fun l' e'=>am hid hcl m (.inl rfl) l' e'
  have hcl2:=fun l' e'=>am hid hcl .any (.inr rfl) l' e' 
  simp only [go_sem,zav,byq,hne,hid,hcs,hcm,hgm,onR,ae,au,zlv,zlt,zle,and_true,true_and,hid,ei,d0]
  simp (disch:=first|assumption|omega|(simp;done)|(simp;omega)|(simp only [bt,and_true];first|done|omega|(simp;done))) [↓zmi,beq,ybc,ybd,ybe,al,wk,wk2,wk1,wkM,wkL,aG,ybf,hss,hl0,hcl,hcl1,hcl2,hle]
  try omega
 subst h0
 have d0:((0:Int) != 0)=false:=rfl
 by_cases h1:w<1
 ·have d1:decide (w<1)=true:=by simpa using h1
  rw [show bB (m,l,0) w=(0,m,l,4) by simp [bB,h1]]
  dsimp only [aE]
  try rw [hss]
  refine ACalls.fW aB (TblOk.cons dn (TblOk.cons da (TblOk.cons eA (TblOk.cons ek TblOk.nil)))) Tryz.func44 [.tmp 4] (by simp [zkz]) (T:=ay []) (h:=fun hcl hlt=>?_)
  clear hlt
  have hcl1:=fun l' e'=>am hid hcl m (.inl rfl) l' e'
  have hcl2:=fun l' e'=>am hid hcl .any (.inr rfl) l' e' 
  simp only [go_sem,zav,byq,hne,hid,hcs,hcm,hgm,onR,ae,au,zlv,zlt,zle,and_true,true_and,hid,ei,gP,d0,d1]
  simp (disch:=first|assumption|omega|(simp;done)|(simp;omega)|(simp only [bt,and_true];first|done|omega|(simp;done))) [↓zmi,beq,ybc,ybd,ybe,al,wk,wk2,wk1,wkM,wkL,aG,ybf,hss,hl0,hcl,hcl1,hcl2,hle]
  try omega
 have d1:decide (w<1)=false:=by simpa using h1
 by_cases h2:4<w
 ·have d2:decide (w > 4)=true:=by simpa using h2
  rw [show bB (m,l,0) w=(0,m,l,4) by simp [bB,h2]]
  dsimp only [aE]
  try rw [hss]
  refine ACalls.fW aB (TblOk.cons dn (TblOk.cons da (TblOk.cons eA (TblOk.cons ek TblOk.nil)))) Tryz.func44 [.tmp 4] (by simp [zkz]) (T:=ay []) (h:=fun hcl hlt=>?_)
  clear hlt
  have hcl1:=fun l' e'=>am hid hcl m (.inl rfl) l' e'
  have hcl2:=fun l' e'=>am hid hcl .any (.inr rfl) l' e' 
  simp only [go_sem,zav,byq,hne,hid,hcs,hcm,hgm,onR,ae,au,zlv,zlt,zle,and_true,true_and,hid,ei,gP,d0,d1,d2]
  simp (disch:=first|assumption|omega|(simp;done)|(simp;omega)|(simp only [bt,and_true];first|done|omega|(simp;done))) [↓zmi,beq,ybc,ybd,ybe,al,wk,wk2,wk1,wkM,wkL,aG,ybf,hss,hl0,hcl,hcl1,hcl2,hle]
  try omega
 have d2:decide (w > 4)=false:=by simp;omega
 by_cases h3:(l.length:Int)<w
 ·have d3:(l.length:Int)<0+w:=by omega
  rw [show bB (m,l,0) w=(0,m,l,1) by simp [bB,h1,h2,h3]]
  dsimp only [aE]
  try rw [hss]
  refine ACalls.fW aB (TblOk.cons dn (TblOk.cons da (TblOk.cons eA (TblOk.cons ek TblOk.nil)))) Tryz.func44 [.tmp 4] (by simp [zkz]) (T:=ay []) (h:=fun hcl hlt=>?_)
  clear hlt
  have hcl1:=fun l' e'=>am hid hcl m (.inl rfl) l' e'
  have hcl2:=fun l' e'=>am hid hcl .any (.inr rfl) l' e' 
  simp only [go_sem,zav,byq,hne,hid,hcs,hcm,hgm,onR,ae,au,zlv,zlt,zle,and_true,true_and,hid,ei,gB,d0,d1,d2,if_pos d3]
  simp (disch:=first|assumption|omega|(simp;done)|(simp;omega)|(simp only [bt,and_true];first|done|omega|(simp;done))) [↓zmi,beq,ybc,ybd,ybe,al,wk,wk2,wk1,wkM,wkL,aG,ybf,hss,hl0,hcl,hcl1,hcl2,hle]
  try omega
 ·have d3:¬ (l.length:Int)<0+w:=by omega
  have d4:(0+w).toNat=w.toNat:=by omega
  have d5:Int.toNat 0=0:=rfl
  have d6:(l.take w.toNat).length=w.toNat:=by rw [List.length_take];omega
  have d7:List.take (l.length:Int).toNat l=l:=by simp
  rw [show bB (m,l,0) w=(((bT (l.take w.toNat):Nat):Int),Mark.any,l.drop w.toNat,(0:Int)) by simp [bB,h1,h2,h3]]
  dsimp only [aE]
  try rw [hss]
  refine ACalls.fW aB (TblOk.cons dn (TblOk.cons da (TblOk.cons eA (TblOk.cons ek TblOk.nil)))) Tryz.func44 [.tmp 4] (by simp [zkz]) (T:=ay []) (h:=fun hcl hlt=>?_)
  clear hlt
  have hcl1:=fun l' e'=>am hid hcl m (.inl rfl) l' e'
  have hcl2:=fun l' e'=>am hid hcl .any (.inr rfl) l' e' 
  simp only [go_sem,zav,byq,hne,hid,hcs,hcm,hgm,onR,ae,au,zlv,zlt,zle,and_true,true_and,hid,ei,gB,d0,d1,d2,if_neg d3,d4,d5,yap,iB,d6,d7]
  simp (disch:=first|assumption|omega|(simp;done)|(simp;omega)|(simp only [bt,and_true];first|done|omega|(simp;done))) [↓zmi,beq,ybc,ybd,ybe,al,wk,wk2,wk1,wkM,wkL,aG,ybf,hss,hl0,hcl,hcl1,hcl2,hle]
  try omega
def mR:List AV→AHeap→(AEnd→AHeap→Prop)→Prop
 |[.ptr id 0],H,K=>onR H id fun m l e=>True∧K (.ret (.bool (fu (m,l,e)).1)) (H.set id (.cells (aE (fu (m,l,e)).2)))
 |_,_,_=>False
theorem ra:EntOk Tryz.prog 174 (Ent.effect mR):=by
 refine EntOk.effect fun args H K h=>?_
 unfold mR at h
 split at h
 rotate_left
 ·exact h.elim
 rename_i id
 obtain ⟨m,l,e,hid,hle,h⟩:=bU h
 obtain ⟨hpre,hK⟩:=h
 refine ⟨_,_,hK,?_⟩
 clear hK
 have hl0:=AHeap.get_lt hid
 have hne:=aU hl0
 have hss:=bo hid
 have hcs:=aI hid
 have hcm:=fun cs=>@av H id cs hl0
 have hgm:=fun o=>@aN H id o hl0
 by_cases h0:e=0
 case neg =>
  have d0:(e != 0)=true:=by simpa using h0
  rw [show fu (m,l,e)=(false,m,l,e) by simp [fu,h0]]
  dsimp only [aE]
  try rw [hss]
  refine ACalls.fW aB (TblOk.cons dn (TblOk.cons da (TblOk.cons eA TblOk.nil))) Tryz.func174 [.tmp 2] (by simp [zkz]) (T:=ay []) (h:=fun hcl hlt=>?_)
  clear hlt
  have hcl1:=fun l' e'=>am hid hcl m (.inl rfl) l' e'
  have hcl2:=fun l' e'=>am hid hcl .any (.inr rfl) l' e' 
  simp only [go_sem,zav,byq,hne,hid,hcs,hcm,hgm,onR,ae,au,zlv,zlt,zle,and_true,true_and,hid,ei,d0]
  simp (disch:=first|assumption|omega|(simp;done)|(simp;omega)|(simp only [bt,and_true];first|done|omega|(simp;done))) [↓zmi,beq,ybc,ybd,ybe,al,wk,wk2,wk1,wkM,wkL,aG,ybf,hss,hl0,hcl,hcl1,hcl2,hle]
  try omega
 subst h0
 have d0:((0:Int) != 0)=false:=rfl
 by_cases h1:l.length<1
 ·have d1:(l.length:Int)<1:=by omega
  rw [show fu (m,l,0)=(false,m,l,1) by simp [fu,h1]]
  dsimp only [aE]
  try rw [hss]
  refine ACalls.fW aB (TblOk.cons dn (TblOk.cons da (TblOk.cons eA TblOk.nil))) Tryz.func174 [.tmp 2] (by simp [zkz]) (T:=ay []) (h:=fun hcl hlt=>?_)
  clear hlt
  have hcl1:=fun l' e'=>am hid hcl m (.inl rfl) l' e'
  have hcl2:=fun l' e'=>am hid hcl .any (.inr rfl) l' e' 
  simp only [go_sem,zav,byq,hne,hid,hcs,hcm,hgm,onR,ae,au,zlv,zlt,zle,and_true,true_and,hid,ei,gB,d0,if_pos d1]
  simp (disch:=first|assumption|omega|(simp;done)|(simp;omega)|(simp only [bt,and_true];first|done|omega|(simp;done))) [↓zmi,beq,ybc,ybd,ybe,al,wk,wk2,wk1,wkM,wkL,aG,ybf,hss,hl0,hcl,hcl1,hcl2,hle]
  try omega
 have d1:¬ (l.length:Int)<1:=by omega
 have d5:Int.toNat 0=0:=rfl
 have d6:(l.take 1).length=1:=by rw [List.length_take];omega
 have d7:List.take (l.length:Int).toNat l=l:=by simp
 have d8:(bys (l.take 1)).getD 0 .junk=bd (b0 l):=D7 l 1 (by omega) (by omega)
 have d9:Int.toNat (0+1)=1:=rfl
 have d10:Int.toNat 1=1:=rfl
 by_cases h2:1<(b0 l).toNat
 ·have d2:decide (((b0 l).toNat:Int) > 1)=true:=by simp;omega
  rw [show fu (m,l,0)=(false,m,l,2) by simp [fu,h1,h2]]
  dsimp only [aE]
  try rw [hss]
  refine ACalls.fW aB (TblOk.cons dn (TblOk.cons da (TblOk.cons eA TblOk.nil))) Tryz.func174 [.tmp 2] (by simp [zkz]) (T:=ay []) (h:=fun hcl hlt=>?_)
  clear hlt
  have hcl1:=fun l' e'=>am hid hcl m (.inl rfl) l' e'
  have hcl2:=fun l' e'=>am hid hcl .any (.inr rfl) l' e' 
  simp only [go_sem,zav,byq,hne,hid,hcs,hcm,hgm,onR,ae,au,zlv,zlt,zle,and_true,true_and,hid,ei,gB,gP,d0,if_neg d1,d2,d5,d6,d7,d8,d9,d10,yap,bd]
  simp (disch:=first|assumption|omega|(simp;done)|(simp;omega)|(simp only [bt,and_true];first|done|omega|(simp;done))) [↓zmi,beq,ybc,ybd,ybe,al,wk,wk2,wk1,wkM,wkL,aG,ybf,hss,hl0,hcl,hcl1,hcl2,hle]
  try omega
 ·have d2:decide (((b0 l).toNat:Int) > 1)=false:=by simp;omega
  have d3:((((b0 l).toNat:Nat):Int)==1)=((b0 l).toNat==1):=by rw [Bool.eq_iff_iff];simp;omega
  rw [show fu (m,l,0)=((b0 l).toNat==1,Mark.any,l.drop 1,(0:Int)) by simp [fu,h1,h2]]
  dsimp only [aE]
  try rw [hss]
  refine ACalls.fW aB (TblOk.cons dn (TblOk.cons da (TblOk.cons eA TblOk.nil))) Tryz.func174 [.tmp 2] (by simp [zkz]) (T:=ay []) (h:=fun hcl hlt=>?_)
  clear hlt
  have hcl1:=fun l' e'=>am hid hcl m (.inl rfl) l' e'
  have hcl2:=fun l' e'=>am hid hcl .any (.inr rfl) l' e' 
  simp only [go_sem,zav,byq,hne,hid,hcs,hcm,hgm,onR,ae,au,zlv,zlt,zle,and_true,true_and,hid,ei,gB,gP,d0,if_neg d1,d2,d3,d5,d6,d7,d8,d9,d10,yap,bd]
  simp (disch:=first|assumption|omega|(simp;done)|(simp;omega)|(simp only [bt,and_true];first|done|omega|(simp;done))) [↓zmi,beq,ybc,ybd,ybe,al,wk,wk2,wk1,wkM,wkL,aG,ybf,hss,hl0,hcl,hcl1,hcl2,hle]
  try omega
/-- the pieces of a counted row -/
def er (s:RS) (most:Int):List UInt8 × Int × Bool × Int :=
 if s.2.1.length<2 then ([],0,false,1) else if most<(bT (s.2.1.take 2):Nat) then ([],0,false,3)
 else if s.2.1.length<2+bT (s.2.1.take 2) then ([],((2+bT (s.2.1.take 2):Nat):Int),false,1)
 else ((s.2.1.take (2+bT (s.2.1.take 2))).drop 2,((2+bT (s.2.1.take 2):Nat):Int),true,s.2.2)
def jz:List AV→AHeap→(AEnd→AHeap→Prop)→Prop
 |[.ptr id 0,.int .i64 most],H,K=>onR H id fun m l e=>True∧K (.ret (.tup [.slice .any 1 (bys (er (m,l,e) most).1),.int .i64 (er (m,l,e) most).2.1,.bool (er (m,l,e) most).2.2.1])) (H.set id (.cells (aE (m,l,(er (m,l,e) most).2.2.2))))
 |_,_,_=>False
theorem jM:EntOk Tryz.prog 227 (Ent.effect jz):=by
 refine EntOk.effect fun args H K h=>?_
 unfold jz at h
 split at h
 rotate_left
 ·exact h.elim
 rename_i id most
 obtain ⟨m,l,e,hid,hle,h⟩:=bU h
 obtain ⟨hpre,hK⟩:=h
 refine ⟨_,_,hK,?_⟩
 clear hK
 have hl0:=AHeap.get_lt hid
 have hne:=aU hl0
 have hss:=bo hid
 have hcs:=aI hid
 have hcm:=fun cs=>@av H id cs hl0
 have hgm:=fun o=>@aN H id o hl0
 by_cases h1:l.length<2
 ·have d1:(l.length:Int)<2:=by omega
  rw [show er (m,l,e) most=([],0,false,1) by simp [er,h1]]
  dsimp only [aE]
  try rw [hss]
  refine ACalls.fW aB (TblOk.cons da (TblOk.cons eA (TblOk.cons ek TblOk.nil))) Tryz.func227 [.tmp 4,.tmp 5,.tmp 6] (by simp [zkz]) (T:=ay []) (h:=fun hcl hlt=>?_)
  clear hlt
  have hcl1:=fun l' e'=>am hid hcl m (.inl rfl) l' e'
  have hcl2:=fun l' e'=>am hid hcl .any (.inr rfl) l' e' 
  simp only [go_sem,zav,byq,hne,hid,hcs,hcm,hgm,onR,ae,au,zlv,zlt,zle,and_true,true_and,hid,gB,if_pos d1]
  simp (disch:=first|assumption|omega|(simp;done)|(simp;omega)|(simp only [bt,and_true];first|done|omega|(simp;done))) [↓zmi,beq,ybc,ybd,ybe,al,wk,wk2,wk1,wkM,wkL,aG,ybf,hss,hl0,hcl,hcl1,hcl2,hle]
  try omega
 have d1:¬ (l.length:Int)<2:=by omega
 have d5:Int.toNat 0=0:=rfl
 have d9:Int.toNat (0+2)=2:=rfl
 have d6:(l.take 2).length=2:=by rw [List.length_take];omega
 have hb:bT (l.take 2)<256^2:=by have:=lC (l.take 2);rwa [d6] at this
 by_cases h2:most<(bT (l.take 2):Nat)
 ·have d2:decide (((bT (l.take 2):Nat):Int) > most)=true:=by simpa using h2
  rw [show er (m,l,e) most=([],0,false,3) by simp [er,h1,h2]]
  dsimp only [aE]
  try rw [hss]
  refine ACalls.fW aB (TblOk.cons da (TblOk.cons eA (TblOk.cons ek TblOk.nil))) Tryz.func227 [.tmp 4,.tmp 5,.tmp 6] (by simp [zkz]) (T:=ay []) (h:=fun hcl hlt=>?_)
  clear hlt
  have hcl1:=fun l' e'=>am hid hcl m (.inl rfl) l' e'
  have hcl2:=fun l' e'=>am hid hcl .any (.inr rfl) l' e' 
  simp only [go_sem,zav,byq,hne,hid,hcs,hcm,hgm,onR,ae,au,zlv,zlt,zle,and_true,true_and,hid,gB,iB,gP,if_neg d1,d2,d5,d6,d9,yap]
  simp (disch:=first|assumption|omega|(simp;done)|(simp;omega)|(simp only [bt,and_true];first|done|omega|(simp;done))) [↓zmi,beq,ybc,ybd,ybe,al,wk,wk2,wk1,wkM,wkL,aG,ybf,hss,hl0,hcl,hcl1,hcl2,hle]
  try omega
 have d2:decide (((bT (l.take 2):Nat):Int) > most)=false:=by simpa using h2
 have w1:IntKind.i64.wrap (2+((bT (l.take 2):Nat):Int))=((2+bT (l.take 2):Nat):Int):=by rw [wrap_i64]<;>omega
 by_cases h3:l.length<2+bT (l.take 2)
 ·have d3:(l.length:Int)<2+((bT (l.take 2):Nat):Int):=by omega
  rw [show er (m,l,e) most=([],((2+bT (l.take 2):Nat):Int),false,1) by simp [er,h1,h2,h3]]
  dsimp only [aE]
  try rw [hss]
  refine ACalls.fW aB (TblOk.cons da (TblOk.cons eA (TblOk.cons ek TblOk.nil))) Tryz.func227 [.tmp 4,.tmp 5,.tmp 6] (by simp [zkz]) (T:=ay []) (h:=fun hcl hlt=>?_)
  clear hlt
  have hcl1:=fun l' e'=>am hid hcl m (.inl rfl) l' e'
  have hcl2:=fun l' e'=>am hid hcl .any (.inr rfl) l' e' 
  simp only [go_sem,zav,byq,hne,hid,hcs,hcm,hgm,onR,ae,au,zlv,zlt,zle,and_true,true_and,hid,gB,iB,gP,if_neg d1,if_pos d3,d2,d5,d6,d9,w1,yap]
  simp (disch:=first|assumption|omega|(simp;done)|(simp;omega)|(simp only [bt,and_true];first|done|omega|(simp;done))) [↓zmi,beq,ybc,ybd,ybe,al,wk,wk2,wk1,wkM,wkL,aG,ybf,hss,hl0,hcl,hcl1,hcl2,hle]
  try omega
 ·have d3:¬ (l.length:Int)<2+((bT (l.take 2):Nat):Int):=by omega
  have d4:(2+((bT (l.take 2):Nat):Int)).toNat=2+bT (l.take 2):=by omega
  have d8:Int.toNat 2=2:=rfl
  rw [show er (m,l,e) most=((l.take (2+bT (l.take 2))).drop 2,((2+bT (l.take 2):Nat):Int),true,e) by simp [er,h1,h2,h3]]
  dsimp only [aE]
  try rw [hss]
  refine ACalls.fW aB (TblOk.cons da (TblOk.cons eA (TblOk.cons ek TblOk.nil))) Tryz.func227 [.tmp 4,.tmp 5,.tmp 6] (by simp [zkz]) (T:=ay []) (h:=fun hcl hlt=>?_)
  clear hlt
  have hcl1:=fun l' e'=>am hid hcl m (.inl rfl) l' e'
  have hcl2:=fun l' e'=>am hid hcl .any (.inr rfl) l' e' 
  simp only [go_sem,zav,byq,hne,hid,hcs,hcm,hgm,onR,ae,au,zlv,zlt,zle,and_true,true_and,hid,gB,iB,gP,if_neg d1,if_neg d3,d2,d4,d5,d6,d8,d9,w1,yap]
  simp (disch:=first|assumption|omega|(simp;done)|(simp;omega)|(simp only [bt,and_true];first|done|omega|(simp;done))) [↓zmi,beq,ybc,ybd,ybe,al,wk,wk2,wk1,wkM,wkL,aG,ybf,hss,hl0,hcl,hcl1,hcl2,hle]
  try omega
def lV:List AV→AHeap→(AV→Prop)→Prop
 |[.int .u8 c],_,K=>(0≤c∧c<256)∧K (.bool (decide (c<32)||decide (126<c)))
 |_,_,_=>False
theorem sL:EntOk Tryz.prog 279 (Ent.pure lV):=by
 refine EntOk.pure fun args H K h=>?_
 unfold lV at h
 split at h
 rotate_left
 ·exact h.elim
 rename_i c
 obtain ⟨hc,hK⟩:=h
 refine ⟨_,hK,?_⟩
 clear hK
 by_cases h1:c<32
 ·have d1:decide (c<32)=true:=by simpa using h1
  refine ACalls.fW aB TblOk.nil Tryz.func279 [.tmp 2] (Nat.le_refl _) (T:=ay []) (h:=fun hcl hlt=>?_)
  clear hlt
  simp only [go_sem,zav,byq,d1,Bool.true_or]
  simp (disch:=first|assumption|omega|(simp;done)|(simp;omega)|(simp only [bt,and_true];first|done|omega|(simp;done))) [↓zmi,beq,ybc,ybd,ybe,al,wk,wk2,wk1,wkM,wkL,aG,ybf,hcl]
 ·have d1:decide (c<32)=false:=by simpa using h1
  refine ACalls.fW aB TblOk.nil Tryz.func279 [.tmp 2] (Nat.le_refl _) (T:=ay []) (h:=fun hcl hlt=>?_)
  clear hlt
  simp only [go_sem,zav,byq,d1,Bool.false_or]
  simp (disch:=first|assumption|omega|(simp;done)|(simp;omega)|(simp only [bt,and_true];first|done|omega|(simp;done))) [↓zmi,beq,ybc,ybd,ybe,al,wk,wk2,wk1,wkM,wkL,aG,ybf,hcl]
/-- where the first byte that may not stand in a text is -/
def nu:List UInt8→Nat→Int
 |[],_ => -1
 |c::t,k=>if (decide (c.toNat<32)||decide (126<c.toNat))=true then k else nu t (k+1)
theorem p7:∀ (l:List UInt8) (k:Nat),decide (nu l k ≥ 0)=!eN l
 |[],k=>by simp [nu,eN]
 |c::t,k=>by
  unfold nu
  split
  ·rename_i h
   have:eN (c::t)=false:=by simp only [eN,List.all_cons,h];rfl
   rw [this];simp
  ·rename_i h
   have:eN (c::t)=eN t:=by simp only [eN,List.all_cons,Bool.eq_false_iff.2 h];rfl
   rw [this];exact p7 t (k+1)
theorem yg (l:List UInt8) (k:Nat) (h:k<l.length):nu (l.drop k) k=if (decide ((l.getD k 0).toNat<32)||decide (126<(l.getD k 0).toNat))=true then (k:Int) else nu (l.drop (k+1)) (k+1):=by
 rw [List.drop_eq_getElem_cons h]
 have:l.getD k 0=l[k]:=by simp [List.getD_eq_getElem?_getD,h]
 rw [this];rfl
def mI:List AV→AHeap→(AV→Prop)→Prop
 |[.slice _ 1 l,.func (.func 279) [] []],_,K=>(isB l∧l.length≤140737488355328)∧K (.int .i64 (nu (unb l) 0))
 |_,_,_=>False
theorem tR:EntOk Tryz.prog 297 (Ent.pure mI):=by
 refine EntOk.pure fun args H K h=>?_
 unfold mI at h
 split at h
 rotate_left
 ·exact h.elim
 rename_i m l
 obtain ⟨⟨c1,hle⟩,hK⟩:=h
 refine ⟨_,hK,?_⟩
 obtain ⟨xs,rfl⟩:=dO c1
 simp only [zlt,zle] at *
 refine ACalls.fW aB (TblOk.cons sL TblOk.nil) Tryz.func297 [.tmp 4] (Nat.le_refl _) (T:=ay []) (h:=fun hcl hlt=>?_)
 clear hK hlt
 simp only [go_sem,byq]
 refine eE (A:=Nat) (fun k=>[(8,.int .i64 (k:Int)),(7,.int .i64 (xs.length:Int)),(1,.func (.func 279) [] []),(0,.slice m 1 (bys xs))])
  (fun k=>H) (fun k=>k≤xs.length∧nu (xs.drop k) k=nu xs 0) (fun k=>xs.length - k) 0 ⟨by omega,by simp⟩ ?_ fun k hk=>?_
 ·simp only [bnq,enter,iz,ltF,ne_eq,Nat.reduceEqDiff,reduceCtorEq,true_or,and_true]
 obtain ⟨hk,hb⟩:=hk
 simp only [go_sem,byq]
 refine ai (fun hc=>?_) (fun hc=>?_)
 ·have hk:k<xs.length:=by simp at hc;omega
  have e1:IntKind.i64.wrap ((k:Int)+1)=((k+1:Nat):Int):=by rw [wrap_i64]<;>omega
  have hx:(bys xs).getD k .junk=bd (xs.getD k 0):=iG hk
  have hst:=yg xs k hk
  have hlt:=UInt8.toNat_lt (xs.getD k 0)
  simp only [go_sem,byq,Int.toNat_natCast,hx,e1,zle,bd,lV]
  refine ⟨by omega,by omega,ai (fun hc2=>?_) (fun hc2=>?_)⟩
  ·have hc3:(decide ((xs.getD k 0).toNat<32)||decide (126<(xs.getD k 0).toNat))=true:=by
    generalize (xs.getD k 0).toNat=q at hc2 ⊢;simp at hc2 ⊢;omega
   rw [if_pos hc3] at hst
   rw [← hb,hst]
   simp only [go_sem,zav,byq,e1]
   simp (disch:=first|assumption|omega|(simp;done)|(simp;omega)|(simp only [bt,and_true];first|done|omega|(simp;done))) [↓zmi,beq,ybc,ybd,ybe,al,wk,wk2,wk1,wkM,wkL,aG,ybf,hcl]
  ·have hc3:¬ (decide ((xs.getD k 0).toNat<32)||decide (126<(xs.getD k 0).toNat))=true:=by
    generalize (xs.getD k 0).toNat=q at hc2 ⊢;simp at hc2 ⊢;omega
   rw [if_neg hc3] at hst
   simp only [go_sem,byq,e1]
   refine ⟨k+1,⟨by omega,hst.symm.trans hb⟩,by omega,?_⟩
   simp only [bnq,enter,iz,ltF,ne_eq,Nat.reduceEqDiff,reduceCtorEq,true_or,and_self]
 ·have hk:k=xs.length:=by simp at hc;omega
  subst hk
  rw [List.drop_length] at hb
  rw [← hb]
  simp only [go_sem,byq]
  simp (disch:=first|assumption|omega|(simp;done)|(simp;omega)|(simp only [bt,and_true];first|done|omega|(simp;done))) [↓zmi,beq,ybc,ybd,ybe,al,wk,wk2,wk1,wkM,wkL,aG,ybf,hcl,nu]
def kx:List AV→AHeap→(AV→Prop)→Prop
 |[.slice _ 1 l,.func (.func 279) [] []],_,K=>(isB l∧l.length≤140737488355328)∧K (.bool (!eN (unb l)))
 |_,_,_=>False
theorem p9:EntOk Tryz.prog 278 (Ent.pure kx):=by
 refine EntOk.pure fun args H K h=>?_
 unfold kx at h
 split at h
 rotate_left
 ·exact h.elim
 rename_i m l
 obtain ⟨⟨c1,hle⟩,hK⟩:=h
 refine ⟨_,hK,?_⟩
 obtain ⟨xs,rfl⟩:=dO c1
 simp only [zlt,zle] at *
 refine ACalls.fW aB (TblOk.cons tR TblOk.nil) Tryz.func278 [.tmp 4] (Nat.le_refl _) (T:=ay []) (h:=fun hcl hlt=>?_)
 clear hK hlt
 simp only [go_sem,zav,byq,mI,p7]
 refine ⟨hle,?_⟩
 simp (disch:=first|assumption|omega|(simp;done)|(simp;omega)|(simp only [bt,and_true];first|done|omega|(simp;done))) [↓zmi,beq,ybc,ybd,ybe,al,wk,wk2,wk1,wkM,wkL,aG,ybf,hcl]
def kM:List AV→AHeap→(AV→Prop)→Prop
 |[.slice _ 1 l],_,K=>(isB l∧l.length≤140737488355328)∧K (.bool (eN (unb l)))
 |_,_,_=>False
theorem iJ:EntOk Tryz.prog 228 (Ent.pure kM):=by
 refine EntOk.pure fun args H K h=>?_
 unfold kM at h
 split at h
 rotate_left
 ·exact h.elim
 rename_i m l
 obtain ⟨⟨c1,hle⟩,hK⟩:=h
 refine ⟨_,hK,?_⟩
 obtain ⟨xs,rfl⟩:=dO c1
 simp only [zlt,zle] at *
 refine ACalls.fW aB (TblOk.cons p9 TblOk.nil) Tryz.func228 [.tmp 2] (Nat.le_refl _) (T:=ay []) (h:=fun hcl hlt=>?_)
 clear hK hlt
 simp only [go_sem,zav,byq,kx,Bool.not_not]
 refine ⟨hle,?_⟩
 simp (disch:=first|assumption|omega|(simp;done)|(simp;omega)|(simp only [bt,and_true];first|done|omega|(simp;done))) [↓zmi,beq,ybc,ybd,ybe,al,wk,wk2,wk1,wkM,wkL,aG,ybf,hcl]
def kf:List AV→AHeap→(AEnd→AHeap→Prop)→Prop
 |[.ptr id 0,.int .i64 most],H,K=>onR H id fun m l e=>True∧K (.ret (.str (dM (m,l,e) most).1)) (H.set id (.cells (aE (dM (m,l,e) most).2)))
 |_,_,_=>False
theorem kq:EntOk Tryz.prog 139 (Ent.effect kf):=by
 refine EntOk.effect fun args H K h=>?_
 unfold kf at h
 split at h
 rotate_left
 ·exact h.elim
 rename_i id most
 obtain ⟨m,l,e,hid,hle,h⟩:=bU h
 obtain ⟨hpre,hK⟩:=h
 refine ⟨_,_,hK,?_⟩
 clear hK
 have hl0:=AHeap.get_lt hid
 have hne:=aU hl0
 have hss:=bo hid
 have hcs:=aI hid
 have hcm:=fun cs=>@av H id cs hl0
 have hgm:=fun o=>@aN H id o hl0
 have pn:eN []=true:=rfl
 by_cases h0:e=0
 case neg =>
  have d0:(e != 0)=true:=by simpa using h0
  rw [show dM (m,l,e) most=([],m,l,e) by simp [dM,dq,h0,pn]]
  dsimp only [aE]
  try rw [hss]
  refine ACalls.fW aB (TblOk.cons dn (TblOk.cons jM (TblOk.cons iJ (TblOk.cons da TblOk.nil)))) Tryz.func139 [.tmp 4] (by simp [zkz]) (T:=ay []) (h:=fun hcl hlt=>?_)
  clear hlt
  have hcl1:=fun l' e'=>am hid hcl m (.inl rfl) l' e'
  have hcl2:=fun l' e'=>am hid hcl .any (.inr rfl) l' e' 
  simp only [go_sem,zav,byq,hne,hid,hcs,hcm,hgm,onR,ae,au,zlv,zlt,zle,and_true,true_and,hid,ei,d0]
  simp (disch:=first|assumption|omega|(simp;done)|(simp;omega)|(simp only [bt,and_true];first|done|omega|(simp;done))) [↓zmi,beq,ybc,ybd,ybe,al,wk,wk2,wk1,wkM,wkL,aG,ybf,hss,hl0,hcl,hcl1,hcl2,hle]
  try omega
 subst h0
 have d0:((0:Int) != 0)=false:=rfl
 by_cases h1:l.length<2
 ·have dc:er (m,l,0) most=([],0,false,1):=by simp [er,h1]
  rw [show dM (m,l,0) most=([],m,l,1) by simp [dM,dq,h1,pn]]
  dsimp only [aE]
  try rw [hss]
  refine ACalls.fW aB (TblOk.cons dn (TblOk.cons jM (TblOk.cons iJ (TblOk.cons da TblOk.nil)))) Tryz.func139 [.tmp 4] (by simp [zkz]) (T:=ay []) (h:=fun hcl hlt=>?_)
  clear hlt
  have hcl1:=fun l' e'=>am hid hcl m (.inl rfl) l' e'
  have hcl2:=fun l' e'=>am hid hcl .any (.inr rfl) l' e' 
  simp only [go_sem,zav,byq,hne,hid,hcs,hcm,hgm,onR,ae,au,zlv,zlt,zle,and_true,true_and,hid,ei,jz,aE,d0,dc]
  simp (disch:=first|assumption|omega|(simp;done)|(simp;omega)|(simp only [bt,and_true];first|done|omega|(simp;done))) [↓zmi,beq,ybc,ybd,ybe,al,wk,wk2,wk1,wkM,wkL,aG,ybf,hss,hl0,hcl,hcl1,hcl2,hle]
  try omega
 by_cases h2:most<(bT (l.take 2):Nat)
 ·have dc:er (m,l,0) most=([],0,false,3):=by simp [er,h1,h2]
  rw [show dM (m,l,0) most=([],m,l,3) by simp [dM,dq,h1,h2,pn]]
  dsimp only [aE]
  try rw [hss]
  refine ACalls.fW aB (TblOk.cons dn (TblOk.cons jM (TblOk.cons iJ (TblOk.cons da TblOk.nil)))) Tryz.func139 [.tmp 4] (by simp [zkz]) (T:=ay []) (h:=fun hcl hlt=>?_)
  clear hlt
  have hcl1:=fun l' e'=>am hid hcl m (.inl rfl) l' e'
  have hcl2:=fun l' e'=>am hid hcl .any (.inr rfl) l' e' 
  simp only [go_sem,zav,byq,hne,hid,hcs,hcm,hgm,onR,ae,au,zlv,zlt,zle,and_true,true_and,hid,ei,jz,aE,d0,dc]
  simp (disch:=first|assumption|omega|(simp;done)|(simp;omega)|(simp only [bt,and_true];first|done|omega|(simp;done))) [↓zmi,beq,ybc,ybd,ybe,al,wk,wk2,wk1,wkM,wkL,aG,ybf,hss,hl0,hcl,hcl1,hcl2,hle]
  try omega
 have d6:(l.take 2).length=2:=by rw [List.length_take];omega
 have hb:bT (l.take 2)<256^2:=by have:=lC (l.take 2);rwa [d6] at this
 by_cases h3:l.length<2+bT (l.take 2)
 ·have dc:er (m,l,0) most=([],((2+bT (l.take 2):Nat):Int),false,1):=by simp [er,h1,h2,h3]
  rw [show dM (m,l,0) most=([],m,l,1) by simp [dM,dq,h1,h2,h3,pn]]
  dsimp only [aE]
  try rw [hss]
  refine ACalls.fW aB (TblOk.cons dn (TblOk.cons jM (TblOk.cons iJ (TblOk.cons da TblOk.nil)))) Tryz.func139 [.tmp 4] (by simp [zkz]) (T:=ay []) (h:=fun hcl hlt=>?_)
  clear hlt
  have hcl1:=fun l' e'=>am hid hcl m (.inl rfl) l' e'
  have hcl2:=fun l' e'=>am hid hcl .any (.inr rfl) l' e' 
  simp only [go_sem,zav,byq,hne,hid,hcs,hcm,hgm,onR,ae,au,zlv,zlt,zle,and_true,true_and,hid,ei,jz,aE,d0,dc]
  simp (disch:=first|assumption|omega|(simp;done)|(simp;omega)|(simp only [bt,and_true];first|done|omega|(simp;done))) [↓zmi,beq,ybc,ybd,ybe,al,wk,wk2,wk1,wkM,wkL,aG,ybf,hss,hl0,hcl,hcl1,hcl2,hle]
  try omega
 have dc:er (m,l,0) most=((l.take (2+bT (l.take 2))).drop 2,((2+bT (l.take 2):Nat):Int),true,0):=by simp [er,h1,h2,h3]
 have d7:List.take (l.length:Int).toNat l=l:=by simp
 have d8:((l.take (2+bT (l.take 2))).drop 2).length≤140737488355328:=by simp;omega
 have db:dq (m,l,0) most=((l.take (2+bT (l.take 2))).drop 2,Mark.any,l.drop (2+bT (l.take 2)),(0:Int)):=by simp [dq,h1,h2,h3]
 generalize hbb:(l.take (2+bT (l.take 2))).drop 2=bb at *
 by_cases h4:eN bb=true
 ·skip
  rw [show dM (m,l,0) most=(bb,Mark.any,l.drop (2+bT (l.take 2)),(0:Int)) by simp [dM,db,h4]]
  dsimp only [aE]
  try rw [hss]
  refine ACalls.fW aB (TblOk.cons dn (TblOk.cons jM (TblOk.cons iJ (TblOk.cons da TblOk.nil)))) Tryz.func139 [.tmp 4] (by simp [zkz]) (T:=ay []) (h:=fun hcl hlt=>?_)
  clear hlt
  have hcl1:=fun l' e'=>am hid hcl m (.inl rfl) l' e'
  have hcl2:=fun l' e'=>am hid hcl .any (.inr rfl) l' e' 
  simp only [go_sem,zav,byq,hne,hid,hcs,hcm,hgm,onR,ae,au,zlv,zlt,zle,and_true,true_and,hid,ei,jz,kM,aE,d0,dc,d7,d8,h4,Int.toNat_natCast]
  simp (disch:=first|assumption|omega|(simp;done)|(simp;omega)|(simp only [bt,and_true];first|done|omega|(simp;done))) [↓zmi,beq,ybc,ybd,ybe,al,wk,wk2,wk1,wkM,wkL,aG,ybf,hss,hl0,hcl,hcl1,hcl2,hle]
  try omega
 ·have h5:eN bb=false:=by simpa using h4
  rw [show dM (m,l,0) most=([],m,l,2) by simp [dM,db,h5]]
  dsimp only [aE]
  try rw [hss]
  refine ACalls.fW aB (TblOk.cons dn (TblOk.cons jM (TblOk.cons iJ (TblOk.cons da TblOk.nil)))) Tryz.func139 [.tmp 4] (by simp [zkz]) (T:=ay []) (h:=fun hcl hlt=>?_)
  clear hlt
  have hcl1:=fun l' e'=>am hid hcl m (.inl rfl) l' e'
  have hcl2:=fun l' e'=>am hid hcl .any (.inr rfl) l' e' 
  simp only [go_sem,zav,byq,hne,hid,hcs,hcm,hgm,onR,ae,au,zlv,zlt,zle,and_true,true_and,hid,ei,jz,gP,kM,aE,d0,dc,d7,d8,h5,Int.toNat_natCast]
  simp (disch:=first|assumption|omega|(simp;done)|(simp;omega)|(simp only [bt,and_true];first|done|omega|(simp;done))) [↓zmi,beq,ybc,ybd,ybe,al,wk,wk2,wk1,wkM,wkL,aG,ybf,hss,hl0,hcl,hcl1,hcl2,hle]
  try omega
def eQ:List AV→AHeap→(AEnd→AHeap→Prop)→Prop
 |[.ptr id 0,.int .i64 most],H,K=>onR H id fun m l e=>True∧K (.ret (.int .i64 (aX (m,l,e) most).1)) (H.set id (.cells (aE (aX (m,l,e) most).2)))
 |_,_,_=>False
theorem eJ:EntOk Tryz.prog 134 (Ent.effect eQ):=by
 refine EntOk.effect fun args H K h=>?_
 unfold eQ at h
 split at h
 rotate_left
 ·exact h.elim
 rename_i id most
 obtain ⟨m,l,e,hid,hle,h⟩:=bU h
 obtain ⟨hpre,hK⟩:=h
 refine ⟨_,_,hK,?_⟩
 clear hK
 have hl0:=AHeap.get_lt hid
 have hne:=aU hl0
 have hss:=bo hid
 have hcs:=aI hid
 have hcm:=fun cs=>@av H id cs hl0
 have hgm:=fun o=>@aN H id o hl0
 by_cases h0:e=0
 case neg =>
  have d0:(e != 0)=true:=by simpa using h0
  rw [show aX (m,l,e) most=(0,m,l,e) by simp [aX,h0]]
  dsimp only [aE]
  try rw [hss]
  refine ACalls.fW aB (TblOk.cons dn (TblOk.cons eA (TblOk.cons ek (TblOk.cons da TblOk.nil)))) Tryz.func134 [.tmp 4] (by simp [zkz]) (T:=ay []) (h:=fun hcl hlt=>?_)
  clear hlt
  have hcl1:=fun l' e'=>am hid hcl m (.inl rfl) l' e'
  have hcl2:=fun l' e'=>am hid hcl .any (.inr rfl) l' e' 
  simp only [go_sem,zav,byq,hne,hid,hcs,hcm,hgm,onR,ae,au,zlv,zlt,zle,and_true,true_and,hid,ei,d0]
  simp (disch:=first|assumption|omega|(simp;done)|(simp;omega)|(simp only [bt,and_true];first|done|omega|(simp;done))) [↓zmi,beq,ybc,ybd,ybe,al,wk,wk2,wk1,wkM,wkL,aG,ybf,hss,hl0,hcl,hcl1,hcl2,hle]
  try omega
 subst h0
 have d0:((0:Int) != 0)=false:=rfl
 by_cases h1:l.length<2
 ·have d1:(l.length:Int)<2:=by omega
  rw [show aX (m,l,0) most=(0,m,l,1) by simp [aX,h1]]
  dsimp only [aE]
  try rw [hss]
  refine ACalls.fW aB (TblOk.cons dn (TblOk.cons eA (TblOk.cons ek (TblOk.cons da TblOk.nil)))) Tryz.func134 [.tmp 4] (by simp [zkz]) (T:=ay []) (h:=fun hcl hlt=>?_)
  clear hlt
  have hcl1:=fun l' e'=>am hid hcl m (.inl rfl) l' e'
  have hcl2:=fun l' e'=>am hid hcl .any (.inr rfl) l' e' 
  simp only [go_sem,zav,byq,hne,hid,hcs,hcm,hgm,onR,ae,au,zlv,zlt,zle,and_true,true_and,hid,ei,gB,d0,if_pos d1]
  simp (disch:=first|assumption|omega|(simp;done)|(simp;omega)|(simp only [bt,and_true];first|done|omega|(simp;done))) [↓zmi,beq,ybc,ybd,ybe,al,wk,wk2,wk1,wkM,wkL,aG,ybf,hss,hl0,hcl,hcl1,hcl2,hle]
  try omega
 have d1:¬ (l.length:Int)<2:=by omega
 have d5:Int.toNat 0=0:=rfl
 have d9:Int.toNat (0+2)=2:=rfl
 have d10:Int.toNat 2=2:=rfl
 have d6:(l.take 2).length=2:=by rw [List.length_take];omega
 have d7:List.take (l.length:Int).toNat l=l:=by simp
 by_cases h2:most<(bT (l.take 2):Nat)
 ·have d2:decide (((bT (l.take 2):Nat):Int) > most)=true:=by simpa using h2
  rw [show aX (m,l,0) most=(0,m,l,3) by simp [aX,h1,h2]]
  dsimp only [aE]
  try rw [hss]
  refine ACalls.fW aB (TblOk.cons dn (TblOk.cons eA (TblOk.cons ek (TblOk.cons da TblOk.nil)))) Tryz.func134 [.tmp 4] (by simp [zkz]) (T:=ay []) (h:=fun hcl hlt=>?_)
  clear hlt
  have hcl1:=fun l' e'=>am hid hcl m (.inl rfl) l' e'
  have hcl2:=fun l' e'=>am hid hcl .any (.inr rfl) l' e' 
  simp only [go_sem,zav,byq,hne,hid,hcs,hcm,hgm,onR,ae,au,zlv,zlt,zle,and_true,true_and,hid,ei,gB,iB,gP,d0,if_neg d1,d2,d5,d6,d7,d9,d10,yap]
  simp (disch:=first|assumption|omega|(simp;done)|(simp;omega)|(simp only [bt,and_true];first|done|omega|(simp;done))) [↓zmi,beq,ybc,ybd,ybe,al,wk,wk2,wk1,wkM,wkL,aG,ybf,hss,hl0,hcl,hcl1,hcl2,hle]
  try omega
 ·have d2:decide (((bT (l.take 2):Nat):Int) > most)=false:=by simpa using h2
  rw [show aX (m,l,0) most=(((bT (l.take 2):Nat):Int),Mark.any,l.drop 2,(0:Int)) by simp [aX,h1,h2]]
  dsimp only [aE]
  try rw [hss]
  refine ACalls.fW aB (TblOk.cons dn (TblOk.cons eA (TblOk.cons ek (TblOk.cons da TblOk.nil)))) Tryz.func134 [.tmp 4] (by simp [zkz]) (T:=ay []) (h:=fun hcl hlt=>?_)
  clear hlt
  have hcl1:=fun l' e'=>am hid hcl m (.inl rfl) l' e'
  have hcl2:=fun l' e'=>am hid hcl .any (.inr rfl) l' e' 
  simp only [go_sem,zav,byq,hne,hid,hcs,hcm,hgm,onR,ae,au,zlv,zlt,zle,and_true,true_and,hid,ei,gB,iB,gP,d0,if_neg d1,d2,d5,d6,d7,d9,d10,yap]
  simp (disch:=first|assumption|omega|(simp;done)|(simp;omega)|(simp only [bt,and_true];first|done|omega|(simp;done))) [↓zmi,beq,ybc,ybd,ybe,al,wk,wk2,wk1,wkM,wkL,aG,ybf,hss,hl0,hcl,hcl1,hcl2,hle]
  try omega
def di:List AV→AHeap→(AV→Prop)→Prop
 |[.nilp],_,K=>K (.int .i64 0)
 |[.ptr id 0],H,K=>onR H id fun m l e=>K (.int .i64 e)
 |_,_,_=>False
theorem ok_RErr:EntOk Tryz.prog 135 (Ent.pure di):=by
 refine EntOk.pure fun args H K h=>?_
 unfold di at h
 split at h
 ·refine ⟨_,h,?_⟩
  refine ACalls.fW aB TblOk.nil Tryz.func135 [.tmp 2] (Nat.le_refl _) (T:=ay []) (h:=fun hcl hlt=>?_)
  clear h hlt
  simp only [go_sem,zav,byq]
  simp (disch:=first|assumption|omega|(simp;done)|(simp;omega)|(simp only [bt,and_true];first|done|omega|(simp;done))) [↓zmi,beq,ybc,ybd,ybe,al,wk,wk2,wk1,wkM,wkL,aG,ybf,hcl]
 ·rename_i id
  obtain ⟨m,l,e,hid,hle,hK⟩:=bU h
  refine ⟨_,hK,?_⟩
  have hcs:=aI hid
  refine ACalls.fW aB TblOk.nil Tryz.func135 [.tmp 2] (Nat.le_refl _) (T:=ay []) (h:=fun hcl hlt=>?_)
  clear h hK hlt
  simp only [go_sem,zav,byq,hcs]
  simp (disch:=first|assumption|omega|(simp;done)|(simp;omega)|(simp only [bt,and_true];first|done|omega|(simp;done))) [↓zmi,beq,ybc,ybd,ybe,al,wk,wk2,wk1,wkM,wkL,aG,ybf,hcl]
 ·exact h.elim
def lj:List AV→AHeap→(AV→Prop)→Prop
 |[.ptr id 0],H,K=>onR H id fun m l e=>K (.int .i64 (fj (m,l,e)))
 |_,_,_=>False
theorem ok_RFinish:EntOk Tryz.prog 61 (Ent.pure lj):=by
 refine EntOk.pure fun args H K h=>?_
 unfold lj at h
 split at h
 rotate_left
 ·exact h.elim
 rename_i id
 obtain ⟨m,l,e,hid,hle,hK⟩:=bU h
 refine ⟨_,hK,?_⟩
 have hcs:=aI hid
 by_cases h0:e=0
 ·subst h0
  have d0:((0:Int) != 0)=false:=rfl
  by_cases h1:0<l.length
  ·have d1:decide ((l.length:Int) > 0)=true:=by simpa using h1
   rw [show fj (m,l,0)=2 by simp [fj,h1]]
   refine ACalls.fW aB (TblOk.cons dn (TblOk.cons ok_RErr TblOk.nil)) Tryz.func61 [.tmp 2] (Nat.le_refl _) (T:=ay []) (h:=fun hcl hlt=>?_)
   clear h hK hlt
   simp only [go_sem,zav,byq,hcs,hid,ei,di,onR,ae,au,d0,d1]
   simp (disch:=first|assumption|omega|(simp;done)|(simp;omega)|(simp only [bt,and_true];first|done|omega|(simp;done))) [↓zmi,beq,ybc,ybd,ybe,al,wk,wk2,wk1,wkM,wkL,aG,ybf,hcl,hle,zlv,zle]
  ·have hl:l=[]:=List.eq_nil_of_length_eq_zero (by omega)
   subst hl
   have d1:decide ((([]:List UInt8).length:Int) > 0)=false:=rfl
   rw [show fj (m,[],0)=0 by simp [fj]]
   refine ACalls.fW aB (TblOk.cons dn (TblOk.cons ok_RErr TblOk.nil)) Tryz.func61 [.tmp 2] (Nat.le_refl _) (T:=ay []) (h:=fun hcl hlt=>?_)
   clear h hK hlt
   simp only [go_sem,zav,byq,hcs,hid,ei,di,onR,ae,au,d0,d1]
   simp (disch:=first|assumption|omega|(simp;done)|(simp;omega)|(simp only [bt,and_true];first|done|omega|(simp;done))) [↓zmi,beq,ybc,ybd,ybe,al,wk,wk2,wk1,wkM,wkL,aG,ybf,hcl,zlv,zlw,zle,lU]
 ·have d0:(e != 0)=true:=by simpa using h0
  rw [show fj (m,l,e)=e by simp [fj,h0]]
  refine ACalls.fW aB (TblOk.cons dn (TblOk.cons ok_RErr TblOk.nil)) Tryz.func61 [.tmp 2] (Nat.le_refl _) (T:=ay []) (h:=fun hcl hlt=>?_)
  clear h hK hlt
  simp only [go_sem,zav,byq,hcs,hid,ei,di,onR,ae,au,d0,zlt]
  simp (disch:=first|assumption|omega|(simp;done)|(simp;omega)|(simp only [bt,and_true];first|done|omega|(simp;done))) [↓zmi,beq,ybc,ybd,ybe,al,wk,wk2,wk1,wkM,wkL,aG,ybf,hcl,hle,zlv,zle]
end Go.AL
