/- Lemmas of the proof; no condition. -/
import Derived.Test.YtpbnggedofiinaaGreatCW
import Derived.Test.YtpbnggedofiinaaGreatLGen
set_option linter.all false
set_option maxRecDepth 10000
open List renaming length_cons → yaz, length_nil → yba, take_of_length_le → ybc, drop_append → ybd, take_append → ybe, drop_eq_nil_of_le → ybf, take_zero → yar, drop_zero → yap
open Go Go.AL Go.Proofs
namespace Go.AL
theorem zA:ti Tryz.prog 244=some ⟨.struct [(0,22,false),(1,43,false)],2,32,.agg [.slice .nil 1 [],.int .i64 0]⟩:=by kernel_rfl
theorem Cu:ti Tryz.prog 43=some ⟨.int .i64,1,8,.int .i64 0⟩:=by kernel_rfl
theorem xh:ti Tryz.prog 112=some ⟨.ptr 244,1,8,.nilp⟩:=by kernel_rfl
attribute [go_sem] zA Cu xh
def uz:List AV→AHeap→(AV→Prop)→Prop
 |[.slice _ 1 l],_,K=>(isB l∧l.length≤140737488355328)∧K (.slice .any 1 (bys (unb l)))
 |_,_,_=>False
theorem B5:EntOk Tryz.prog 137 (Ent.pure uz):=by
 refine Ype fun _ H K h=>?_
 unfold uz at h
 split at h
 rotate_left
 ·exact h.elim
 rename_i m l
 obtain ⟨⟨c1,hle⟩,hK⟩:=h
 refine ⟨_,hK,?_⟩
 obtain ⟨xs,rfl⟩:=eU c1
 simp only [zlz,zlk] at *
 refine ACalls.fW ag tNq Tryz.func137 [.tmp 2] (nrq _) (T:=af []) (h:=fun hcl hlt=>?_)
 clear hK hlt
 simp only [go_sem,zav,byq]
 intro b hb
 refine bK (fun h1=>?_) (fun h1=>?_)
 ·subst h1
  have:xs=[]:=by
   cases xs with
   |nil=>rfl
   |cons a t=>simp [bys] at hb
  subst this
  exact Z2
 ·refine ⟨by omega,?_⟩
  exact Z2
def zm:List AV→AHeap→(AEnd→AHeap→Prop)→Prop
 |[.slice _ 1 l],H,K=>(isB l∧l.length≤140737488355328)∧K (.ret (.ptr H.nx 0)) (H.push (.cells [.slice .any 1 (bys (unb l)),.int .i64 0]))
 |_,_,_=>False
theorem BX:EntOk Tryz.prog 39 (Ent.effect zm):=by
 refine EntOk.effect fun args H K h=>?_
 unfold zm at h
 split at h
 rotate_left
 ·exact h.elim
 rename_i m l
 obtain ⟨⟨c1,hle⟩,hK⟩:=h
 refine ⟨_,_,hK,?_⟩
 obtain ⟨xs,rfl⟩:=eU c1
 simp only [zlz,zlk] at *
 refine ACalls.fW ag (tCq B5 tNq) Tryz.func39 [.tmp 2] (by simp only [zle];omega) (T:=af []) (h:=fun hcl hlt=>?_)
 clear hK hlt
 simp only [go_sem,zav,byq,uz]
 refine ⟨by omega,?_⟩
 have hc:(H.push (.cells [.slice .any 1 (bys xs),.int .i64 0])).Closed:=aj hcl (by simp [ltL,zms,znf])
 simp (disch:=first|exact Zd|omega) [↓zmo,beq,ybc,ybd,ybe,aa,wk,wk2,wk1,wkM,wkL,ak,ybf,hc]
def cY:List AV→AHeap→(AV→Prop)→Prop
 |[.nilp],_,K=>K (.bool true)
 |[.ptr id 0],H,K=>onR H id fun m l e=>K (.bool (e != 0))
 |_,_,_=>False
theorem cG:EntOk Tryz.prog 142 (Ent.pure cY):=by
 refine Ype fun _ H K h=>?_
 unfold cY at h
 split at h
 ·refine ⟨_,h,?_⟩
  refine ACalls.fW ag tNq Tryz.func142 [.tmp 2] (nrq _) (T:=af []) (h:=fun hcl hlt=>?_)
  clear h hlt
  simp only [go_sem,zav,byq]
  exact Z2
 ·rename_i id
  obtain ⟨m,l,e,hid,hle,hK⟩:=bB h
  refine ⟨_,hK,?_⟩
  have hcs:=ax hid
  refine ACalls.fW ag tNq Tryz.func142 [.tmp 2] (nrq _) (T:=af []) (h:=fun hcl hlt=>?_)
  clear h hK hlt
  simp only [go_sem,zav,byq,hcs]
  exact Z2
 ·exact h.elim
def f6:List AV→AHeap→(AEnd→AHeap→Prop)→Prop
 |[.ptr id 0,.int .i64 x],H,K=>onR H id fun m l e=>True∧K (.ret (.tup [])) (H.set id (.cells [.slice m 1 (bys l),.int .i64 x]))
 |_,_,_=>False
theorem cq:EntOk Tryz.prog 143 (Ent.effect f6):=by
 refine EntOk.effect fun args H K h=>?_
 unfold f6 at h
 split at h
 rotate_left
 ·exact h.elim
 rename_i id x
 obtain ⟨m,l,e,hid,hle,h⟩:=bB h
 obtain ⟨hpre,hK⟩:=h
 refine ⟨_,_,hK,?_⟩
 clear hK
 have hl0:=glq hid
 have hne:=aL hl0
 have hss:=bd hid
 have hcs:=ax hid
 have hcm:=fun cs=>@al H id cs hl0
 have hgm:=fun o=>@aB H id o hl0
 refine ACalls.fW ag tNq Tryz.func143 [] (nrq _) (T:=af []) (h:=fun hcl hlt=>?_)
 clear hlt
 have hcl1:=fun l' e'=>ap hid hcl m (.inl rfl) l' e'
 have hcl2:=fun l' e'=>ap hid hcl .any (.inr rfl) l' e' 
 simp only [go_sem,zav,byq,hne,hid,hcs,hcm,hgm,onR,ah,ar,zmb,zlz,zlk,and_true,true_and]
 simp (disch:=first|exact Zd|omega) [↓zmo,beq,ybc,ybd,ybe,aa,wk,wk2,wk1,wkM,wkL,ak,ybf,hss,hl0,hcl1,hcl2,zmb,zlz,zlk]
def fP:List AV→AHeap→(AEnd→AHeap→Prop)→Prop
 |[.ptr id 0,.int .i64 a,.int .i64 n],H,K=>onR H id fun m l e=>(0≤a∧a≤100000∧0≤n∧n≤100000) ∧
   (if (l.length:Int)<a+n then K (.ret (.tup [.slice .any 1 [],.bool false])) (H.set id (.cells [.slice m 1 (bys l),.int .i64 1]))
    else K (.ret (.tup [.slice .any 1 (bys ((l.take (a+n).toNat).drop a.toNat)),.bool true])) H)
 |_,_,_=>False
theorem dd:EntOk Tryz.prog 144 (Ent.effect fP):=by
 refine EntOk.effect fun args H K h=>?_
 unfold fP at h
 split at h
 rotate_left
 ·exact h.elim
 rename_i id a n
 obtain ⟨m,l,e,hid,hle,h⟩:=bB h
 obtain ⟨hpre,hK⟩:=h
 have hl0:=glq hid
 have hne:=aL hl0
 have hss:=bd hid
 have hcs:=ax hid
 have hcm:=fun cs=>@al H id cs hl0
 have hgm:=fun o=>@aB H id o hl0
 have hw:IntKind.i64.wrap (a+n)=a+n:=by rw [wrap_i64]<;>omega
 split at hK
 ·rename_i hlt0
  refine ⟨_,_,hK,?_⟩
  refine ACalls.fW ag (tCq cq tNq) Tryz.func144 [.tmp 6,.tmp 7] (nrq _) (T:=af []) (h:=fun hcl hlt=>?_)
  clear hlt hK
  have hcl1:=fun l' e'=>ap hid hcl m (.inl rfl) l' e'
  have hd:decide ((l.length:Int)<a+n)=true:=by simpa using hlt0
  simp only [go_sem,zav,byq,hne,hid,hcs,hcm,hgm,onR,ah,ar,zmb,zlz,zlk,and_true,true_and,f6,hw,hd]
  refine ⟨by omega,?_⟩
  simp (disch:=first|exact Zd|omega) [↓zmo,beq,ybc,ybd,ybe,aa,wk,wk2,wk1,wkM,wkL,ak,ybf,hss,hl0,hcl1]
 ·rename_i hlt0
  refine ⟨_,_,hK,?_⟩
  refine ACalls.fW ag (tCq cq tNq) Tryz.func144 [.tmp 6,.tmp 7] (nrq _) (T:=af []) (h:=fun hcl hlt=>?_)
  clear hlt hK
  have hd:decide ((l.length:Int)<a+n)=false:=by simpa using hlt0
  simp only [go_sem,zav,byq,hne,hid,hcs,hcm,hgm,onR,ah,ar,zmb,zlz,zlk,and_true,true_and,f6,hw,hd]
  refine ⟨by omega,?_⟩
  exact Z2
def gH:List AV→AHeap→(AV→Prop)→Prop
 |[.slice _ 1 l],_,K=>(isB l∧l.length≤6)∧K (.int .i64 (aQ (unb l):Nat))
 |_,_,_=>False
theorem c8:EntOk Tryz.prog 145 (Ent.pure gH):=by
 refine Ype fun _ H K h=>?_
 unfold gH at h
 split at h
 rotate_left
 ·exact h.elim
 rename_i m l
 obtain ⟨⟨c1,hle⟩,hK⟩:=h
 refine ⟨_,hK,?_⟩
 obtain ⟨xs,rfl⟩:=eU c1
 simp only [zlz,zlk] at *
 refine ACalls.fW ag tNq Tryz.func145 [.tmp 2] (nrq _) (T:=af []) (h:=fun hcl hlt=>?_)
 clear hK hlt
 simp only [go_sem,byq]
 refine kx (A:=Nat) (fun k=>[(8,.int .i64 (k:Int)),(7,.int .i64 (xs.length:Int)),(6,.slice m 1 (bys xs)),(3,.int .i64 (aQ (xs.take k):Nat))])
  (fun k=>H) (fun k=>k≤xs.length) (fun k=>xs.length - k) 0 (by omega) ?_ fun k hk=>?_
 ·simp only [bnq,enter,pf,ltF,ne_eq,Nat.reduceEqDiff,reduceCtorEq,yar,sX,true_or,and_true]
 simp only [go_sem,byq]
 refine ae (fun hc=>?_) (fun hc=>?_)
 ·have hk:k<xs.length:=by simp at hc;omega
  have e1:IntKind.i64.wrap ((k:Int)+1)=((k+1:Nat):Int):=by rw [wrap_i64]<;>omega
  have hb:aQ (xs.take k)<256^6:=nv xs k 6 hle
  have hx:(bys xs).getD k .junk=aO (xs.getD k 0):=kJ hk
  have e2:IntKind.i64.wrap (((xs.getD k 0).toNat:Nat):Int)=(((xs.getD k 0).toNat:Nat):Int):=jW _ (by have:=UInt8.toNat_lt (xs.getD k 0);omega)
  have e3:=Gh (aQ (xs.take k)) (xs.getD k 0).toNat (by omega) (UInt8.toNat_lt _)
  rw [← qL xs k hk] at e3
  simp only [go_sem,byq,iNq,hx,e1,zlk,aO,e2,e3]
  refine ⟨by omega,by decide,k+1,by omega,by omega,?_⟩
  exact Z3
 ·have hk:k=xs.length:=by simp at hc;omega
  subst hk
  simp only [go_sem,byq,List.take_length]
  exact Z2
def gv:List AV→AHeap→(AEnd→AHeap→Prop)→Prop
 |[.ptr id 0,.int .i64 w],H,K=>onR H id fun m l e=>True∧K (.ret (.int .i64 (cm (m,l,e) w).1)) (H.set id (.cells (az (cm (m,l,e) w).2)))
 |_,_,_=>False
theorem fG:EntOk Tryz.prog 44 (Ent.effect gv):=by
 refine EntOk.effect fun args H K h=>?_
 unfold gv at h
 split at h
 rotate_left
 ·exact h.elim
 rename_i id w
 obtain ⟨m,l,e,hid,hle,h⟩:=bB h
 obtain ⟨hpre,hK⟩:=h
 refine ⟨_,_,hK,?_⟩
 clear hK
 have hl0:=glq hid
 have hne:=aL hl0
 have hss:=bd hid
 have hcs:=ax hid
 have hcm:=fun cs=>@al H id cs hl0
 have hgm:=fun o=>@aB H id o hl0
 by_cases h0:e=0
 case neg =>
  have d0:(e != 0)=true:=by simpa using h0
  rw [show cm (m,l,e) w=(0,m,l,e) by simp [cm,h0]]
  dsimp only [az]
  try rw [hss]
  refine ACalls.fW ag (tCq cG (tCq cq (tCq dd (tCq c8 tNq)))) Tryz.func44 [.tmp 4] (by simp [zlf]) (T:=af []) (h:=fun hcl hlt=>?_)
  clear hlt
  have hcl1:=fun l' e'=>ap hid hcl m (.inl rfl) l' e'
  have hcl2:=fun l' e'=>ap hid hcl .any (.inr rfl) l' e' 
  simp only [go_sem,zav,byq,hne,hid,hcs,hcm,hgm,onR,ah,ar,zmb,zlz,zlk,and_true,true_and,hid,cY,d0]
  simp (disch:=first|exact Zd|omega) [↓zmo,beq,ybc,ybd,ybe,aa,wk,wk2,wk1,wkM,wkL,ak,ybf,hss,hl0,hcl,hcl1,hcl2,hle]
  try omega
 subst h0
 have d0:((0:Int) != 0)=false:=rfl
 by_cases h1:w<1
 ·have d1:decide (w<1)=true:=by simpa using h1
  rw [show cm (m,l,0) w=(0,m,l,4) by simp [cm,h1]]
  dsimp only [az]
  try rw [hss]
  refine ACalls.fW ag (tCq cG (tCq cq (tCq dd (tCq c8 tNq)))) Tryz.func44 [.tmp 4] (by simp [zlf]) (T:=af []) (h:=fun hcl hlt=>?_)
  clear hlt
  have hcl1:=fun l' e'=>ap hid hcl m (.inl rfl) l' e'
  have hcl2:=fun l' e'=>ap hid hcl .any (.inr rfl) l' e' 
  simp only [go_sem,zav,byq,hne,hid,hcs,hcm,hgm,onR,ah,ar,zmb,zlz,zlk,and_true,true_and,hid,cY,f6,d0,d1]
  simp (disch:=first|exact Zd|omega) [↓zmo,beq,ybc,ybd,ybe,aa,wk,wk2,wk1,wkM,wkL,ak,ybf,hss,hl0,hcl,hcl1,hcl2,hle]
  try omega
 have d1:decide (w<1)=false:=by simpa using h1
 by_cases h2:4<w
 ·have d2:decide (w > 4)=true:=by simpa using h2
  rw [show cm (m,l,0) w=(0,m,l,4) by simp [cm,h2]]
  dsimp only [az]
  try rw [hss]
  refine ACalls.fW ag (tCq cG (tCq cq (tCq dd (tCq c8 tNq)))) Tryz.func44 [.tmp 4] (by simp [zlf]) (T:=af []) (h:=fun hcl hlt=>?_)
  clear hlt
  have hcl1:=fun l' e'=>ap hid hcl m (.inl rfl) l' e'
  have hcl2:=fun l' e'=>ap hid hcl .any (.inr rfl) l' e' 
  simp only [go_sem,zav,byq,hne,hid,hcs,hcm,hgm,onR,ah,ar,zmb,zlz,zlk,and_true,true_and,hid,cY,f6,d0,d1,d2]
  simp (disch:=first|exact Zd|omega) [↓zmo,beq,ybc,ybd,ybe,aa,wk,wk2,wk1,wkM,wkL,ak,ybf,hss,hl0,hcl,hcl1,hcl2,hle]
  try omega
 have d2:decide (w > 4)=false:=by simp;omega
 by_cases h3:(l.length:Int)<w
 ·have d3:(l.length:Int)<0+w:=by omega
  rw [show cm (m,l,0) w=(0,m,l,1) by simp [cm,h1,h2,h3]]
  dsimp only [az]
  try rw [hss]
  refine ACalls.fW ag (tCq cG (tCq cq (tCq dd (tCq c8 tNq)))) Tryz.func44 [.tmp 4] (by simp [zlf]) (T:=af []) (h:=fun hcl hlt=>?_)
  clear hlt
  have hcl1:=fun l' e'=>ap hid hcl m (.inl rfl) l' e'
  have hcl2:=fun l' e'=>ap hid hcl .any (.inr rfl) l' e' 
  simp only [go_sem,zav,byq,hne,hid,hcs,hcm,hgm,onR,ah,ar,zmb,zlz,zlk,and_true,true_and,hid,cY,fP,d0,d1,d2,if_pos d3]
  simp (disch:=first|exact Zd|omega) [↓zmo,beq,ybc,ybd,ybe,aa,wk,wk2,wk1,wkM,wkL,ak,ybf,hss,hl0,hcl,hcl1,hcl2,hle]
  try omega
 ·have d3:¬ (l.length:Int)<0+w:=by omega
  have d4:(0+w).toNat=w.toNat:=by omega
  have d5:Int.toNat 0=0:=rfl
  have d6:(l.take w.toNat).length=w.toNat:=by rw [List.length_take];omega
  have d7:List.take (l.length:Int).toNat l=l:=by simp
  rw [show cm (m,l,0) w=(((aQ (l.take w.toNat):Nat):Int),Mark.any,l.drop w.toNat,(0:Int)) by simp [cm,h1,h2,h3]]
  dsimp only [az]
  try rw [hss]
  refine ACalls.fW ag (tCq cG (tCq cq (tCq dd (tCq c8 tNq)))) Tryz.func44 [.tmp 4] (by simp [zlf]) (T:=af []) (h:=fun hcl hlt=>?_)
  clear hlt
  have hcl1:=fun l' e'=>ap hid hcl m (.inl rfl) l' e'
  have hcl2:=fun l' e'=>ap hid hcl .any (.inr rfl) l' e' 
  simp only [go_sem,zav,byq,hne,hid,hcs,hcm,hgm,onR,ah,ar,zmb,zlz,zlk,and_true,true_and,hid,cY,fP,d0,d1,d2,if_neg d3,d4,d5,yap,gH,d6,d7]
  simp (disch:=first|exact Zd|omega) [↓zmo,beq,ybc,ybd,ybe,aa,wk,wk2,wk1,wkM,wkL,ak,ybf,hss,hl0,hcl,hcl1,hcl2,hle]
  try omega
def mX:List AV→AHeap→(AEnd→AHeap→Prop)→Prop
 |[.ptr id 0],H,K=>onR H id fun m l e=>True∧K (.ret (.bool (ic (m,l,e)).1)) (H.set id (.cells (az (ic (m,l,e)).2)))
 |_,_,_=>False
theorem rc:EntOk Tryz.prog 45 (Ent.effect mX):=by
 refine EntOk.effect fun args H K h=>?_
 unfold mX at h
 split at h
 rotate_left
 ·exact h.elim
 rename_i id
 obtain ⟨m,l,e,hid,hle,h⟩:=bB h
 obtain ⟨hpre,hK⟩:=h
 refine ⟨_,_,hK,?_⟩
 clear hK
 have hl0:=glq hid
 have hne:=aL hl0
 have hss:=bd hid
 have hcs:=ax hid
 have hcm:=fun cs=>@al H id cs hl0
 have hgm:=fun o=>@aB H id o hl0
 by_cases h0:e=0
 case neg =>
  have d0:(e != 0)=true:=by simpa using h0
  rw [show ic (m,l,e)=(false,m,l,e) by simp [ic,h0]]
  dsimp only [az]
  try rw [hss]
  refine ACalls.fW ag (tCq cG (tCq cq (tCq dd tNq))) Tryz.func45 [.tmp 2] (by simp [zlf]) (T:=af []) (h:=fun hcl hlt=>?_)
  clear hlt
  have hcl1:=fun l' e'=>ap hid hcl m (.inl rfl) l' e'
  have hcl2:=fun l' e'=>ap hid hcl .any (.inr rfl) l' e' 
  simp only [go_sem,zav,byq,hne,hid,hcs,hcm,hgm,onR,ah,ar,zmb,zlz,zlk,and_true,true_and,hid,cY,d0]
  simp (disch:=first|exact Zd|omega) [↓zmo,beq,ybc,ybd,ybe,aa,wk,wk2,wk1,wkM,wkL,ak,ybf,hss,hl0,hcl,hcl1,hcl2,hle]
  try omega
 subst h0
 have d0:((0:Int) != 0)=false:=rfl
 by_cases h1:l.length<1
 ·have d1:(l.length:Int)<1:=by omega
  rw [show ic (m,l,0)=(false,m,l,1) by simp [ic,h1]]
  dsimp only [az]
  try rw [hss]
  refine ACalls.fW ag (tCq cG (tCq cq (tCq dd tNq))) Tryz.func45 [.tmp 2] (by simp [zlf]) (T:=af []) (h:=fun hcl hlt=>?_)
  clear hlt
  have hcl1:=fun l' e'=>ap hid hcl m (.inl rfl) l' e'
  have hcl2:=fun l' e'=>ap hid hcl .any (.inr rfl) l' e' 
  simp only [go_sem,zav,byq,hne,hid,hcs,hcm,hgm,onR,ah,ar,zmb,zlz,zlk,and_true,true_and,hid,cY,fP,d0,if_pos d1]
  simp (disch:=first|exact Zd|omega) [↓zmo,beq,ybc,ybd,ybe,aa,wk,wk2,wk1,wkM,wkL,ak,ybf,hss,hl0,hcl,hcl1,hcl2,hle]
  try omega
 have d1:¬ (l.length:Int)<1:=by omega
 have d5:Int.toNat 0=0:=rfl
 have d6:(l.take 1).length=1:=by rw [List.length_take];omega
 have d7:List.take (l.length:Int).toNat l=l:=by simp
 have d8:(bys (l.take 1)).getD 0 .junk=aO (b0 l):=C9 l 1 (by omega) (by omega)
 have d9:Int.toNat (0+1)=1:=rfl
 have d10:Int.toNat 1=1:=rfl
 by_cases h2:1<(b0 l).toNat
 ·have d2:decide (((b0 l).toNat:Int) > 1)=true:=by simp;omega
  rw [show ic (m,l,0)=(false,m,l,2) by simp [ic,h1,h2]]
  dsimp only [az]
  try rw [hss]
  refine ACalls.fW ag (tCq cG (tCq cq (tCq dd tNq))) Tryz.func45 [.tmp 2] (by simp [zlf]) (T:=af []) (h:=fun hcl hlt=>?_)
  clear hlt
  have hcl1:=fun l' e'=>ap hid hcl m (.inl rfl) l' e'
  have hcl2:=fun l' e'=>ap hid hcl .any (.inr rfl) l' e' 
  simp only [go_sem,zav,byq,hne,hid,hcs,hcm,hgm,onR,ah,ar,zmb,zlz,zlk,and_true,true_and,hid,cY,fP,f6,d0,if_neg d1,d2,d5,d6,d7,d8,d9,d10,yap,aO]
  simp (disch:=first|exact Zd|omega) [↓zmo,beq,ybc,ybd,ybe,aa,wk,wk2,wk1,wkM,wkL,ak,ybf,hss,hl0,hcl,hcl1,hcl2,hle]
  try omega
 ·have d2:decide (((b0 l).toNat:Int) > 1)=false:=by simp;omega
  have d3:((((b0 l).toNat:Nat):Int)==1)=((b0 l).toNat==1):=by rw [Bool.eq_iff_iff];simp;omega
  rw [show ic (m,l,0)=((b0 l).toNat==1,Mark.any,l.drop 1,(0:Int)) by simp [ic,h1,h2]]
  dsimp only [az]
  try rw [hss]
  refine ACalls.fW ag (tCq cG (tCq cq (tCq dd tNq))) Tryz.func45 [.tmp 2] (by simp [zlf]) (T:=af []) (h:=fun hcl hlt=>?_)
  clear hlt
  have hcl1:=fun l' e'=>ap hid hcl m (.inl rfl) l' e'
  have hcl2:=fun l' e'=>ap hid hcl .any (.inr rfl) l' e' 
  simp only [go_sem,zav,byq,hne,hid,hcs,hcm,hgm,onR,ah,ar,zmb,zlz,zlk,and_true,true_and,hid,cY,fP,f6,d0,if_neg d1,d2,d3,d5,d6,d7,d8,d9,d10,yap,aO]
  simp (disch:=first|exact Zd|omega) [↓zmo,beq,ybc,ybd,ybe,aa,wk,wk2,wk1,wkM,wkL,ak,ybf,hss,hl0,hcl,hcl1,hcl2,hle]
  try omega
def da (s:RS) (most:Int):List UInt8 × Int × Bool × Int :=
 if s.2.1.length<2 then ([],0,false,1) else if most<(aQ (s.2.1.take 2):Nat) then ([],0,false,3)
 else if s.2.1.length<2+aQ (s.2.1.take 2) then ([],((2+aQ (s.2.1.take 2):Nat):Int),false,1)
 else ((s.2.1.take (2+aQ (s.2.1.take 2))).drop 2,((2+aQ (s.2.1.take 2):Nat):Int),true,s.2.2)
def jA:List AV→AHeap→(AEnd→AHeap→Prop)→Prop
 |[.ptr id 0,.int .i64 most],H,K=>onR H id fun m l e=>True∧K (.ret (.tup [.slice .any 1 (bys (da (m,l,e) most).1),.int .i64 (da (m,l,e) most).2.1,.bool (da (m,l,e) most).2.2.1])) (H.set id (.cells (az (m,l,(da (m,l,e) most).2.2.2))))
 |_,_,_=>False
theorem jp:EntOk Tryz.prog 147 (Ent.effect jA):=by
 refine EntOk.effect fun args H K h=>?_
 unfold jA at h
 split at h
 rotate_left
 ·exact h.elim
 rename_i id most
 obtain ⟨m,l,e,hid,hle,h⟩:=bB h
 obtain ⟨hpre,hK⟩:=h
 refine ⟨_,_,hK,?_⟩
 clear hK
 have hl0:=glq hid
 have hne:=aL hl0
 have hss:=bd hid
 have hcs:=ax hid
 have hcm:=fun cs=>@al H id cs hl0
 have hgm:=fun o=>@aB H id o hl0
 by_cases h1:l.length<2
 ·have d1:(l.length:Int)<2:=by omega
  rw [show da (m,l,e) most=([],0,false,1) by simp [da,h1]]
  dsimp only [az]
  try rw [hss]
  refine ACalls.fW ag (tCq cq (tCq dd (tCq c8 tNq))) Tryz.func147 [.tmp 4,.tmp 5,.tmp 6] (by simp [zlf]) (T:=af []) (h:=fun hcl hlt=>?_)
  clear hlt
  have hcl1:=fun l' e'=>ap hid hcl m (.inl rfl) l' e'
  have hcl2:=fun l' e'=>ap hid hcl .any (.inr rfl) l' e' 
  simp only [go_sem,zav,byq,hne,hid,hcs,hcm,hgm,onR,ah,ar,zmb,zlz,zlk,and_true,true_and,hid,fP,if_pos d1]
  simp (disch:=first|exact Zd|omega) [↓zmo,beq,ybc,ybd,ybe,aa,wk,wk2,wk1,wkM,wkL,ak,ybf,hss,hl0,hcl,hcl1,hcl2,hle]
  try omega
 have d1:¬ (l.length:Int)<2:=by omega
 have d5:Int.toNat 0=0:=rfl
 have d9:Int.toNat (0+2)=2:=rfl
 have d6:(l.take 2).length=2:=by rw [List.length_take];omega
 have hb:aQ (l.take 2)<256^2:=by have:=kB (l.take 2);rwa [d6] at this
 by_cases h2:most<(aQ (l.take 2):Nat)
 ·have d2:decide (((aQ (l.take 2):Nat):Int) > most)=true:=by simpa using h2
  rw [show da (m,l,e) most=([],0,false,3) by simp [da,h1,h2]]
  dsimp only [az]
  try rw [hss]
  refine ACalls.fW ag (tCq cq (tCq dd (tCq c8 tNq))) Tryz.func147 [.tmp 4,.tmp 5,.tmp 6] (by simp [zlf]) (T:=af []) (h:=fun hcl hlt=>?_)
  clear hlt
  have hcl1:=fun l' e'=>ap hid hcl m (.inl rfl) l' e'
  have hcl2:=fun l' e'=>ap hid hcl .any (.inr rfl) l' e' 
  simp only [go_sem,zav,byq,hne,hid,hcs,hcm,hgm,onR,ah,ar,zmb,zlz,zlk,and_true,true_and,hid,fP,gH,f6,if_neg d1,d2,d5,d6,d9,yap]
  simp (disch:=first|exact Zd|omega) [↓zmo,beq,ybc,ybd,ybe,aa,wk,wk2,wk1,wkM,wkL,ak,ybf,hss,hl0,hcl,hcl1,hcl2,hle]
  try omega
 have d2:decide (((aQ (l.take 2):Nat):Int) > most)=false:=by simpa using h2
 have w1:IntKind.i64.wrap (2+((aQ (l.take 2):Nat):Int))=((2+aQ (l.take 2):Nat):Int):=by rw [wrap_i64]<;>omega
 by_cases h3:l.length<2+aQ (l.take 2)
 ·have d3:(l.length:Int)<2+((aQ (l.take 2):Nat):Int):=by omega
  rw [show da (m,l,e) most=([],((2+aQ (l.take 2):Nat):Int),false,1) by simp [da,h1,h2,h3]]
  dsimp only [az]
  try rw [hss]
  refine ACalls.fW ag (tCq cq (tCq dd (tCq c8 tNq))) Tryz.func147 [.tmp 4,.tmp 5,.tmp 6] (by simp [zlf]) (T:=af []) (h:=fun hcl hlt=>?_)
  clear hlt
  have hcl1:=fun l' e'=>ap hid hcl m (.inl rfl) l' e'
  have hcl2:=fun l' e'=>ap hid hcl .any (.inr rfl) l' e' 
  simp only [go_sem,zav,byq,hne,hid,hcs,hcm,hgm,onR,ah,ar,zmb,zlz,zlk,and_true,true_and,hid,fP,gH,f6,if_neg d1,if_pos d3,d2,d5,d6,d9,w1,yap]
  simp (disch:=first|exact Zd|omega) [↓zmo,beq,ybc,ybd,ybe,aa,wk,wk2,wk1,wkM,wkL,ak,ybf,hss,hl0,hcl,hcl1,hcl2,hle]
  try omega
 ·have d3:¬ (l.length:Int)<2+((aQ (l.take 2):Nat):Int):=by omega
  have d4:(2+((aQ (l.take 2):Nat):Int)).toNat=2+aQ (l.take 2):=by omega
  have d8:Int.toNat 2=2:=rfl
  rw [show da (m,l,e) most=((l.take (2+aQ (l.take 2))).drop 2,((2+aQ (l.take 2):Nat):Int),true,e) by simp [da,h1,h2,h3]]
  dsimp only [az]
  try rw [hss]
  refine ACalls.fW ag (tCq cq (tCq dd (tCq c8 tNq))) Tryz.func147 [.tmp 4,.tmp 5,.tmp 6] (by simp [zlf]) (T:=af []) (h:=fun hcl hlt=>?_)
  clear hlt
  have hcl1:=fun l' e'=>ap hid hcl m (.inl rfl) l' e'
  have hcl2:=fun l' e'=>ap hid hcl .any (.inr rfl) l' e' 
  simp only [go_sem,zav,byq,hne,hid,hcs,hcm,hgm,onR,ah,ar,zmb,zlz,zlk,and_true,true_and,hid,fP,gH,f6,if_neg d1,if_neg d3,d2,d4,d5,d6,d8,d9,w1,yap]
  simp (disch:=first|exact Zd|omega) [↓zmo,beq,ybc,ybd,ybe,aa,wk,wk2,wk1,wkM,wkL,ak,ybf,hss,hl0,hcl,hcl1,hcl2,hle]
  try omega
def lP:List AV→AHeap→(AV→Prop)→Prop
 |[.int .u8 c],_,K=>(0≤c∧c<256)∧K (.bool (decide (c<32)||decide (126<c)))
 |_,_,_=>False
theorem sg:EntOk Tryz.prog 246 (Ent.pure lP):=by
 refine Ype fun _ H K h=>?_
 unfold lP at h
 split at h
 rotate_left
 ·exact h.elim
 rename_i c
 obtain ⟨hc,hK⟩:=h
 refine ⟨_,hK,?_⟩
 clear hK
 by_cases h1:c<32
 ·have d1:decide (c<32)=true:=by simpa using h1
  refine ACalls.fW ag tNq Tryz.func246 [.tmp 2] (nrq _) (T:=af []) (h:=fun hcl hlt=>?_)
  clear hlt
  simp only [go_sem,zav,byq,d1,Bool.true_or]
  exact Z2
 ·have d1:decide (c<32)=false:=by simpa using h1
  refine ACalls.fW ag tNq Tryz.func246 [.tmp 2] (nrq _) (T:=af []) (h:=fun hcl hlt=>?_)
  clear hlt
  simp only [go_sem,zav,byq,d1,Bool.false_or]
  exact Z2
def ns:List UInt8→Nat→Int
 |[],_ => -1
 |c::t,k=>if (decide (c.toNat<32)||decide (126<c.toNat))=true then k else ns t (k+1)
theorem pZ:∀ (l:List UInt8) (k:Nat),decide (ns l k ≥ 0)=!ij l
 |[],k=>by simp [ns,ij]
 |c::t,k=>by
  unfold ns
  split
  ·rename_i h
   have:ij (c::t)=false:=by simp only [ij,List.all_cons,h];rfl
   rw [this];simp
  ·rename_i h
   have:ij (c::t)=ij t:=by simp only [ij,List.all_cons,Bool.eq_false_iff.2 h];rfl
   rw [this];exact pZ t (k+1)
theorem xg (l:List UInt8) (k:Nat) (h:k<l.length):ns (l.drop k) k=if (decide ((l.getD k 0).toNat<32)||decide (126<(l.getD k 0).toNat))=true then (k:Int) else ns (l.drop (k+1)) (k+1):=by
 rw [dcq h]
 have:l.getD k 0=l[k]:=by simp [gEq,h]
 rw [this];rfl
def mj:List AV→AHeap→(AV→Prop)→Prop
 |[.slice _ 1 l,.func (.func 246) [] []],_,K=>(isB l∧l.length≤140737488355328)∧K (.int .i64 (ns (unb l) 0))
 |_,_,_=>False
theorem uZ:EntOk Tryz.prog 250 (Ent.pure mj):=by
 refine Ype fun _ H K h=>?_
 unfold mj at h
 split at h
 rotate_left
 ·exact h.elim
 rename_i m l
 obtain ⟨⟨c1,hle⟩,hK⟩:=h
 refine ⟨_,hK,?_⟩
 obtain ⟨xs,rfl⟩:=eU c1
 simp only [zlz,zlk] at *
 refine ACalls.fW ag (tCq sg tNq) Tryz.func250 [.tmp 4] (nrq _) (T:=af []) (h:=fun hcl hlt=>?_)
 clear hK hlt
 simp only [go_sem,byq]
 refine kx (A:=Nat) (fun k=>[(8,.int .i64 (k:Int)),(7,.int .i64 (xs.length:Int)),(1,.func (.func 246) [] []),(0,.slice m 1 (bys xs))])
  (fun k=>H) (fun k=>k≤xs.length∧ns (xs.drop k) k=ns xs 0) (fun k=>xs.length - k) 0 ⟨by omega,by simp⟩ ?_ fun k hk=>?_
 ·simp only [bnq,enter,pf,ltF,ne_eq,Nat.reduceEqDiff,reduceCtorEq,true_or,and_true]
 obtain ⟨hk,hb⟩:=hk
 simp only [go_sem,byq]
 refine ae (fun hc=>?_) (fun hc=>?_)
 ·have hk:k<xs.length:=by simp at hc;omega
  have e1:IntKind.i64.wrap ((k:Int)+1)=((k+1:Nat):Int):=by rw [wrap_i64]<;>omega
  have hx:(bys xs).getD k .junk=aO (xs.getD k 0):=kJ hk
  have hst:=xg xs k hk
  have hlt:=UInt8.toNat_lt (xs.getD k 0)
  simp only [go_sem,byq,iNq,hx,e1,zlk,aO,lP]
  refine ⟨by omega,by omega,ae (fun hc2=>?_) (fun hc2=>?_)⟩
  ·have hc3:(decide ((xs.getD k 0).toNat<32)||decide (126<(xs.getD k 0).toNat))=true:=by
    generalize (xs.getD k 0).toNat=q at hc2 ⊢;simp at hc2 ⊢;omega
   rw [if_pos hc3] at hst
   rw [← hb,hst]
   simp only [go_sem,zav,byq,e1]
   exact Z2
  ·have hc3:¬ (decide ((xs.getD k 0).toNat<32)||decide (126<(xs.getD k 0).toNat))=true:=by
    generalize (xs.getD k 0).toNat=q at hc2 ⊢;simp at hc2 ⊢;omega
   rw [if_neg hc3] at hst
   simp only [go_sem,byq,e1]
   refine ⟨k+1,⟨by omega,hst.symm.trans hb⟩,by omega,?_⟩
   exact Z3
 ·have hk:k=xs.length:=by simp at hc;omega
  subst hk
  rw [List.drop_length] at hb
  rw [← hb]
  simp only [go_sem,byq]
  simp (disch:=first|exact Zd|omega) [↓zmo,beq,ybc,ybd,ybe,aa,wk,wk2,wk1,wkM,wkL,ak,ybf,hcl,ns]
def kl:List AV→AHeap→(AV→Prop)→Prop
 |[.slice _ 1 l,.func (.func 246) [] []],_,K=>(isB l∧l.length≤140737488355328)∧K (.bool (!ij (unb l)))
 |_,_,_=>False
theorem p9:EntOk Tryz.prog 245 (Ent.pure kl):=by
 refine Ype fun _ H K h=>?_
 unfold kl at h
 split at h
 rotate_left
 ·exact h.elim
 rename_i m l
 obtain ⟨⟨c1,hle⟩,hK⟩:=h
 refine ⟨_,hK,?_⟩
 obtain ⟨xs,rfl⟩:=eU c1
 simp only [zlz,zlk] at *
 refine ACalls.fW ag (tCq uZ tNq) Tryz.func245 [.tmp 4] (nrq _) (T:=af []) (h:=fun hcl hlt=>?_)
 clear hK hlt
 simp only [go_sem,zav,byq,mj,pZ]
 refine ⟨hle,?_⟩
 exact Z2
def kW:List AV→AHeap→(AV→Prop)→Prop
 |[.slice _ 1 l],_,K=>(isB l∧l.length≤140737488355328)∧K (.bool (ij (unb l)))
 |_,_,_=>False
theorem hO:EntOk Tryz.prog 219 (Ent.pure kW):=by
 refine Ype fun _ H K h=>?_
 unfold kW at h
 split at h
 rotate_left
 ·exact h.elim
 rename_i m l
 obtain ⟨⟨c1,hle⟩,hK⟩:=h
 refine ⟨_,hK,?_⟩
 obtain ⟨xs,rfl⟩:=eU c1
 simp only [zlz,zlk] at *
 refine ACalls.fW ag (tCq p9 tNq) Tryz.func219 [.tmp 2] (nrq _) (T:=af []) (h:=fun hcl hlt=>?_)
 clear hK hlt
 simp only [go_sem,zav,byq,kl,Bool.not_not]
 refine ⟨hle,?_⟩
 exact Z2
def j7:List AV→AHeap→(AEnd→AHeap→Prop)→Prop
 |[.ptr id 0,.int .i64 most],H,K=>onR H id fun m l e=>True∧K (.ret (.str (eD (m,l,e) most).1)) (H.set id (.cells (az (eD (m,l,e) most).2)))
 |_,_,_=>False
theorem km:EntOk Tryz.prog 154 (Ent.effect j7):=by
 refine EntOk.effect fun args H K h=>?_
 unfold j7 at h
 split at h
 rotate_left
 ·exact h.elim
 rename_i id most
 obtain ⟨m,l,e,hid,hle,h⟩:=bB h
 obtain ⟨hpre,hK⟩:=h
 refine ⟨_,_,hK,?_⟩
 clear hK
 have hl0:=glq hid
 have hne:=aL hl0
 have hss:=bd hid
 have hcs:=ax hid
 have hcm:=fun cs=>@al H id cs hl0
 have hgm:=fun o=>@aB H id o hl0
 have pn:ij []=true:=rfl
 by_cases h0:e=0
 case neg =>
  have d0:(e != 0)=true:=by simpa using h0
  rw [show eD (m,l,e) most=([],m,l,e) by simp [eD,ig,h0,pn]]
  dsimp only [az]
  try rw [hss]
  refine ACalls.fW ag (tCq cG (tCq jp (tCq hO (tCq cq tNq)))) Tryz.func154 [.tmp 4] (by simp [zlf]) (T:=af []) (h:=fun hcl hlt=>?_)
  clear hlt
  have hcl1:=fun l' e'=>ap hid hcl m (.inl rfl) l' e'
  have hcl2:=fun l' e'=>ap hid hcl .any (.inr rfl) l' e' 
  simp only [go_sem,zav,byq,hne,hid,hcs,hcm,hgm,onR,ah,ar,zmb,zlz,zlk,and_true,true_and,hid,cY,d0]
  simp (disch:=first|exact Zd|omega) [↓zmo,beq,ybc,ybd,ybe,aa,wk,wk2,wk1,wkM,wkL,ak,ybf,hss,hl0,hcl,hcl1,hcl2,hle]
  try omega
 subst h0
 have d0:((0:Int) != 0)=false:=rfl
 by_cases h1:l.length<2
 ·have dc:da (m,l,0) most=([],0,false,1):=by simp [da,h1]
  rw [show eD (m,l,0) most=([],m,l,1) by simp [eD,ig,h1,pn]]
  dsimp only [az]
  try rw [hss]
  refine ACalls.fW ag (tCq cG (tCq jp (tCq hO (tCq cq tNq)))) Tryz.func154 [.tmp 4] (by simp [zlf]) (T:=af []) (h:=fun hcl hlt=>?_)
  clear hlt
  have hcl1:=fun l' e'=>ap hid hcl m (.inl rfl) l' e'
  have hcl2:=fun l' e'=>ap hid hcl .any (.inr rfl) l' e' 
  simp only [go_sem,zav,byq,hne,hid,hcs,hcm,hgm,onR,ah,ar,zmb,zlz,zlk,and_true,true_and,hid,cY,jA,az,d0,dc]
  simp (disch:=first|exact Zd|omega) [↓zmo,beq,ybc,ybd,ybe,aa,wk,wk2,wk1,wkM,wkL,ak,ybf,hss,hl0,hcl,hcl1,hcl2,hle]
  try omega
 by_cases h2:most<(aQ (l.take 2):Nat)
 ·have dc:da (m,l,0) most=([],0,false,3):=by simp [da,h1,h2]
  rw [show eD (m,l,0) most=([],m,l,3) by simp [eD,ig,h1,h2,pn]]
  dsimp only [az]
  try rw [hss]
  refine ACalls.fW ag (tCq cG (tCq jp (tCq hO (tCq cq tNq)))) Tryz.func154 [.tmp 4] (by simp [zlf]) (T:=af []) (h:=fun hcl hlt=>?_)
  clear hlt
  have hcl1:=fun l' e'=>ap hid hcl m (.inl rfl) l' e'
  have hcl2:=fun l' e'=>ap hid hcl .any (.inr rfl) l' e' 
  simp only [go_sem,zav,byq,hne,hid,hcs,hcm,hgm,onR,ah,ar,zmb,zlz,zlk,and_true,true_and,hid,cY,jA,az,d0,dc]
  simp (disch:=first|exact Zd|omega) [↓zmo,beq,ybc,ybd,ybe,aa,wk,wk2,wk1,wkM,wkL,ak,ybf,hss,hl0,hcl,hcl1,hcl2,hle]
  try omega
 have d6:(l.take 2).length=2:=by rw [List.length_take];omega
 have hb:aQ (l.take 2)<256^2:=by have:=kB (l.take 2);rwa [d6] at this
 by_cases h3:l.length<2+aQ (l.take 2)
 ·have dc:da (m,l,0) most=([],((2+aQ (l.take 2):Nat):Int),false,1):=by simp [da,h1,h2,h3]
  rw [show eD (m,l,0) most=([],m,l,1) by simp [eD,ig,h1,h2,h3,pn]]
  dsimp only [az]
  try rw [hss]
  refine ACalls.fW ag (tCq cG (tCq jp (tCq hO (tCq cq tNq)))) Tryz.func154 [.tmp 4] (by simp [zlf]) (T:=af []) (h:=fun hcl hlt=>?_)
  clear hlt
  have hcl1:=fun l' e'=>ap hid hcl m (.inl rfl) l' e'
  have hcl2:=fun l' e'=>ap hid hcl .any (.inr rfl) l' e' 
  simp only [go_sem,zav,byq,hne,hid,hcs,hcm,hgm,onR,ah,ar,zmb,zlz,zlk,and_true,true_and,hid,cY,jA,az,d0,dc]
  simp (disch:=first|exact Zd|omega) [↓zmo,beq,ybc,ybd,ybe,aa,wk,wk2,wk1,wkM,wkL,ak,ybf,hss,hl0,hcl,hcl1,hcl2,hle]
  try omega
 have dc:da (m,l,0) most=((l.take (2+aQ (l.take 2))).drop 2,((2+aQ (l.take 2):Nat):Int),true,0):=by simp [da,h1,h2,h3]
 have d7:List.take (l.length:Int).toNat l=l:=by simp
 have d8:((l.take (2+aQ (l.take 2))).drop 2).length≤140737488355328:=by simp;omega
 have db:ig (m,l,0) most=((l.take (2+aQ (l.take 2))).drop 2,Mark.any,l.drop (2+aQ (l.take 2)),(0:Int)):=by simp [ig,h1,h2,h3]
 generalize hbb:(l.take (2+aQ (l.take 2))).drop 2=bb at *
 by_cases h4:ij bb=true
 ·skip
  rw [show eD (m,l,0) most=(bb,Mark.any,l.drop (2+aQ (l.take 2)),(0:Int)) by simp [eD,db,h4]]
  dsimp only [az]
  try rw [hss]
  refine ACalls.fW ag (tCq cG (tCq jp (tCq hO (tCq cq tNq)))) Tryz.func154 [.tmp 4] (by simp [zlf]) (T:=af []) (h:=fun hcl hlt=>?_)
  clear hlt
  have hcl1:=fun l' e'=>ap hid hcl m (.inl rfl) l' e'
  have hcl2:=fun l' e'=>ap hid hcl .any (.inr rfl) l' e' 
  simp only [go_sem,zav,byq,hne,hid,hcs,hcm,hgm,onR,ah,ar,zmb,zlz,zlk,and_true,true_and,hid,cY,jA,kW,az,d0,dc,d7,d8,h4,iNq]
  simp (disch:=first|exact Zd|omega) [↓zmo,beq,ybc,ybd,ybe,aa,wk,wk2,wk1,wkM,wkL,ak,ybf,hss,hl0,hcl,hcl1,hcl2,hle]
  try omega
 ·have h5:ij bb=false:=by simpa using h4
  rw [show eD (m,l,0) most=([],m,l,2) by simp [eD,db,h5]]
  dsimp only [az]
  try rw [hss]
  refine ACalls.fW ag (tCq cG (tCq jp (tCq hO (tCq cq tNq)))) Tryz.func154 [.tmp 4] (by simp [zlf]) (T:=af []) (h:=fun hcl hlt=>?_)
  clear hlt
  have hcl1:=fun l' e'=>ap hid hcl m (.inl rfl) l' e'
  have hcl2:=fun l' e'=>ap hid hcl .any (.inr rfl) l' e' 
  simp only [go_sem,zav,byq,hne,hid,hcs,hcm,hgm,onR,ah,ar,zmb,zlz,zlk,and_true,true_and,hid,cY,jA,f6,kW,az,d0,dc,d7,d8,h5,iNq]
  simp (disch:=first|exact Zd|omega) [↓zmo,beq,ybc,ybd,ybe,aa,wk,wk2,wk1,wkM,wkL,ak,ybf,hss,hl0,hcl,hcl1,hcl2,hle]
  try omega
def dU:List AV→AHeap→(AEnd→AHeap→Prop)→Prop
 |[.ptr id 0,.int .i64 most],H,K=>onR H id fun m l e=>True∧K (.ret (.int .i64 (bq (m,l,e) most).1)) (H.set id (.cells (az (bq (m,l,e) most).2)))
 |_,_,_=>False
theorem dJ:EntOk Tryz.prog 46 (Ent.effect dU):=by
 refine EntOk.effect fun args H K h=>?_
 unfold dU at h
 split at h
 rotate_left
 ·exact h.elim
 rename_i id most
 obtain ⟨m,l,e,hid,hle,h⟩:=bB h
 obtain ⟨hpre,hK⟩:=h
 refine ⟨_,_,hK,?_⟩
 clear hK
 have hl0:=glq hid
 have hne:=aL hl0
 have hss:=bd hid
 have hcs:=ax hid
 have hcm:=fun cs=>@al H id cs hl0
 have hgm:=fun o=>@aB H id o hl0
 by_cases h0:e=0
 case neg =>
  have d0:(e != 0)=true:=by simpa using h0
  rw [show bq (m,l,e) most=(0,m,l,e) by simp [bq,h0]]
  dsimp only [az]
  try rw [hss]
  refine ACalls.fW ag (tCq cG (tCq dd (tCq c8 (tCq cq tNq)))) Tryz.func46 [.tmp 4] (by simp [zlf]) (T:=af []) (h:=fun hcl hlt=>?_)
  clear hlt
  have hcl1:=fun l' e'=>ap hid hcl m (.inl rfl) l' e'
  have hcl2:=fun l' e'=>ap hid hcl .any (.inr rfl) l' e' 
  simp only [go_sem,zav,byq,hne,hid,hcs,hcm,hgm,onR,ah,ar,zmb,zlz,zlk,and_true,true_and,hid,cY,d0]
  simp (disch:=first|exact Zd|omega) [↓zmo,beq,ybc,ybd,ybe,aa,wk,wk2,wk1,wkM,wkL,ak,ybf,hss,hl0,hcl,hcl1,hcl2,hle]
  try omega
 subst h0
 have d0:((0:Int) != 0)=false:=rfl
 by_cases h1:l.length<2
 ·have d1:(l.length:Int)<2:=by omega
  rw [show bq (m,l,0) most=(0,m,l,1) by simp [bq,h1]]
  dsimp only [az]
  try rw [hss]
  refine ACalls.fW ag (tCq cG (tCq dd (tCq c8 (tCq cq tNq)))) Tryz.func46 [.tmp 4] (by simp [zlf]) (T:=af []) (h:=fun hcl hlt=>?_)
  clear hlt
  have hcl1:=fun l' e'=>ap hid hcl m (.inl rfl) l' e'
  have hcl2:=fun l' e'=>ap hid hcl .any (.inr rfl) l' e' 
  simp only [go_sem,zav,byq,hne,hid,hcs,hcm,hgm,onR,ah,ar,zmb,zlz,zlk,and_true,true_and,hid,cY,fP,d0,if_pos d1]
  simp (disch:=first|exact Zd|omega) [↓zmo,beq,ybc,ybd,ybe,aa,wk,wk2,wk1,wkM,wkL,ak,ybf,hss,hl0,hcl,hcl1,hcl2,hle]
  try omega
 have d1:¬ (l.length:Int)<2:=by omega
 have d5:Int.toNat 0=0:=rfl
 have d9:Int.toNat (0+2)=2:=rfl
 have d10:Int.toNat 2=2:=rfl
 have d6:(l.take 2).length=2:=by rw [List.length_take];omega
 have d7:List.take (l.length:Int).toNat l=l:=by simp
 by_cases h2:most<(aQ (l.take 2):Nat)
 ·have d2:decide (((aQ (l.take 2):Nat):Int) > most)=true:=by simpa using h2
  rw [show bq (m,l,0) most=(0,m,l,3) by simp [bq,h1,h2]]
  dsimp only [az]
  try rw [hss]
  refine ACalls.fW ag (tCq cG (tCq dd (tCq c8 (tCq cq tNq)))) Tryz.func46 [.tmp 4] (by simp [zlf]) (T:=af []) (h:=fun hcl hlt=>?_)
  clear hlt
  have hcl1:=fun l' e'=>ap hid hcl m (.inl rfl) l' e'
  have hcl2:=fun l' e'=>ap hid hcl .any (.inr rfl) l' e' 
  simp only [go_sem,zav,byq,hne,hid,hcs,hcm,hgm,onR,ah,ar,zmb,zlz,zlk,and_true,true_and,hid,cY,fP,gH,f6,d0,if_neg d1,d2,d5,d6,d7,d9,d10,yap]
  simp (disch:=first|exact Zd|omega) [↓zmo,beq,ybc,ybd,ybe,aa,wk,wk2,wk1,wkM,wkL,ak,ybf,hss,hl0,hcl,hcl1,hcl2,hle]
  try omega
 ·have d2:decide (((aQ (l.take 2):Nat):Int) > most)=false:=by simpa using h2
  rw [show bq (m,l,0) most=(((aQ (l.take 2):Nat):Int),Mark.any,l.drop 2,(0:Int)) by simp [bq,h1,h2]]
  dsimp only [az]
  try rw [hss]
  refine ACalls.fW ag (tCq cG (tCq dd (tCq c8 (tCq cq tNq)))) Tryz.func46 [.tmp 4] (by simp [zlf]) (T:=af []) (h:=fun hcl hlt=>?_)
  clear hlt
  have hcl1:=fun l' e'=>ap hid hcl m (.inl rfl) l' e'
  have hcl2:=fun l' e'=>ap hid hcl .any (.inr rfl) l' e' 
  simp only [go_sem,zav,byq,hne,hid,hcs,hcm,hgm,onR,ah,ar,zmb,zlz,zlk,and_true,true_and,hid,cY,fP,gH,f6,d0,if_neg d1,d2,d5,d6,d7,d9,d10,yap]
  simp (disch:=first|exact Zd|omega) [↓zmo,beq,ybc,ybd,ybe,aa,wk,wk2,wk1,wkM,wkL,ak,ybf,hss,hl0,hcl,hcl1,hcl2,hle]
  try omega
def cA:List AV→AHeap→(AV→Prop)→Prop
 |[.nilp],_,K=>K (.int .i64 0)
 |[.ptr id 0],H,K=>onR H id fun m l e=>K (.int .i64 e)
 |_,_,_=>False
theorem ok_RErr:EntOk Tryz.prog 136 (Ent.pure cA):=by
 refine Ype fun _ H K h=>?_
 unfold cA at h
 split at h
 ·refine ⟨_,h,?_⟩
  refine ACalls.fW ag tNq Tryz.func136 [.tmp 2] (nrq _) (T:=af []) (h:=fun hcl hlt=>?_)
  clear h hlt
  simp only [go_sem,zav,byq]
  exact Z2
 ·rename_i id
  obtain ⟨m,l,e,hid,hle,hK⟩:=bB h
  refine ⟨_,hK,?_⟩
  have hcs:=ax hid
  refine ACalls.fW ag tNq Tryz.func136 [.tmp 2] (nrq _) (T:=af []) (h:=fun hcl hlt=>?_)
  clear h hK hlt
  simp only [go_sem,zav,byq,hcs]
  exact Z2
 ·exact h.elim
def ln:List AV→AHeap→(AV→Prop)→Prop
 |[.ptr id 0],H,K=>onR H id fun m l e=>K (.int .i64 (gy (m,l,e)))
 |_,_,_=>False
theorem ok_RFinish:EntOk Tryz.prog 50 (Ent.pure ln):=by
 refine Ype fun _ H K h=>?_
 unfold ln at h
 split at h
 rotate_left
 ·exact h.elim
 rename_i id
 obtain ⟨m,l,e,hid,hle,hK⟩:=bB h
 refine ⟨_,hK,?_⟩
 have hcs:=ax hid
 by_cases h0:e=0
 ·subst h0
  have d0:((0:Int) != 0)=false:=rfl
  by_cases h1:0<l.length
  ·have d1:decide ((l.length:Int) > 0)=true:=by simpa using h1
   rw [show gy (m,l,0)=2 by simp [gy,h1]]
   refine ACalls.fW ag (tCq cG (tCq ok_RErr tNq)) Tryz.func50 [.tmp 2] (nrq _) (T:=af []) (h:=fun hcl hlt=>?_)
   clear h hK hlt
   simp only [go_sem,zav,byq,hcs,hid,cY,cA,onR,ah,ar,d0,d1]
   exact Z4
  ·have hl:l=[]:=List.eq_nil_of_length_eq_zero (by omega)
   subst hl
   have d1:decide ((([]:List UInt8).length:Int) > 0)=false:=rfl
   rw [show gy (m,[],0)=0 by simp [gy]]
   refine ACalls.fW ag (tCq cG (tCq ok_RErr tNq)) Tryz.func50 [.tmp 2] (nrq _) (T:=af []) (h:=fun hcl hlt=>?_)
   clear h hK hlt
   simp only [go_sem,zav,byq,hcs,hid,cY,cA,onR,ah,ar,d0,d1]
   simp (disch:=first|exact Zd|omega) [↓zmo,beq,ybc,ybd,ybe,aa,wk,wk2,wk1,wkM,wkL,ak,ybf,hcl,zmb,zmc,zlk,mi]
 ·have d0:(e != 0)=true:=by simpa using h0
  rw [show gy (m,l,e)=e by simp [gy,h0]]
  refine ACalls.fW ag (tCq cG (tCq ok_RErr tNq)) Tryz.func50 [.tmp 2] (nrq _) (T:=af []) (h:=fun hcl hlt=>?_)
  clear h hK hlt
  simp only [go_sem,zav,byq,hcs,hid,cY,cA,onR,ah,ar,d0,zlz]
  exact Z4
end Go.AL
