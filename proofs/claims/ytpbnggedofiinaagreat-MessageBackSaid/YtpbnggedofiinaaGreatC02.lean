/- Lemmas of the proof; no condition. -/
import Derived.Test.YtpbnggedofiinaaGreatS10z
import Derived.Test.YtpbnggedofiinaaGreatAlBun
set_option linter.all false
set_option maxRecDepth 10000
open List renaming length_cons → yaz, length_nil → yba, take_of_length_le → ybc, drop_append → ybd, take_append → ybe, drop_eq_nil_of_le → ybf, map_cons → yae, map_nil → yaf, drop_zero → yap
open Go Go.AL Go.Proofs
namespace Go.AL
theorem EA:ti Tryz.prog 22=some ⟨.slice 5,1,24,.slice .nil 1 []⟩:=by kernel_rfl
theorem Hu:ti Tryz.prog 3=some ⟨.int .i64,1,8,.int .i64 0⟩:=by kernel_rfl
theorem FN:ti Tryz.prog 229=some ⟨.int .u64,1,8,.int .u64 0⟩:=by kernel_rfl
theorem HN:ti Tryz.prog 5=some ⟨.int .u8,1,1,.int .u8 0⟩:=by kernel_rfl
theorem Fb:ti Tryz.prog 4=some ⟨.bool,1,1,.bool false⟩:=by kernel_rfl
theorem CO:ti Tryz.prog 9=some ⟨.string,1,16,.str []⟩:=by kernel_rfl
attribute [go_sem] EA Hu FN HN Fb CO
def lw:List AV→AHeap→(AV→Prop)→Prop
 |[.slice _ 1 l1,.slice _ 1 l2],_,K=>(isB l1∧isB l2∧l1.length+l2.length≤140737488355328)∧K (.slice .any 1 (bys (unb l1++unb l2)))
 |_,_,_=>False
theorem ov:EntOk Tryz.prog 208 (Ent.pure lw):=by
 refine Ype fun _ H K h=>?_
 unfold lw at h
 split at h
 rotate_left
 ·exact h.elim
 rename_i m1 l1 m2 l2
 obtain ⟨⟨c1,c2,hle⟩,hK⟩:=h
 refine ⟨_,hK,?_⟩
 obtain ⟨xs,rfl⟩:=fY c1
 obtain ⟨ys,rfl⟩:=fY c2
 simp only [zlz]
 rw [zlk,zlk] at hle
 refine ACalls.of_aw (Ω:=[]) (T:=ae []) ah tNq Tryz.func208 (by kernel_rfl) (by rfl) (rs:=[.tmp 4]) (by rfl) (by kernel_rfl) (by simp only [Tryz.ntmps208,yaz,yba];decide) (nrq _) fun hcl hlt=>?_
 clear hK hlt
 change aw _ _ _ (KI Tryz.prog [] (qt Tryz.prog [.tmp 4] H.nx (.ret (.slice .any 1 (bys (xs++ys)))) H) []) _ _
 have hw:IntKind.i64.wrap (↑xs.length+↑ys.length)=((xs.length+ys.length:Nat):Int):=by rw [wrap_i64]<;>omega
 have e2:(↑(xs.length+ys.length) - ↑xs.length:Int).toNat=ys.length:=by omega
 simp only [go_sem,zav,byq,hw,e2]
 simp (disch:=first|exact Zd|omega) [↓zmo,beq,ybc,ybd,ybe,ag,wk,wk2,wk1,wkM,wkL,ak,ybf,byq,hcl]
 omega
def ut (n:Int) (j:Nat):UInt8:=UInt8.ofNat (tk .i64 n (8*(j:Int)) % 256).toNat
def kD (n:Int) (w k:Nat):List UInt8:=(List.range (w - k)).map fun i=>ut n (w - 1 - i)
def be (n:Int) (w:Nat):List UInt8:=kD n w 0
theorem zy (n:Int) (w:Nat):kD n w w=[]:=by simp [kD]
theorem uh (n:Int) (w k:Nat):(kD n w k).length=w - k:=by simp [kD]
theorem xT (n:Int) (w j:Nat) (h:j+1≤w):kD n w (j+1)++[ut n j]=kD n w j:=by
 unfold kD
 have e:w - j=(w - (j+1))+1:=by omega
 rw [e,List.range_succ,List.map_append]
 congr 2
 simp only [yae,yaf]
 congr 2;omega
def qD:List AV→AHeap→(AEnd→AHeap→Prop)→Prop
 |[.int .i64 n,.int .i64 w],H,K=>(0≤w∧w≤8)∧K (.ret (.slice (.own (H.nx+1)) 1 (bys (be n w.toNat)))) ((H.push (.buf 1 0)).push (.buf 1 w.toNat))
 |_,_,_=>False
theorem vU:EntOk Tryz.prog 209 (Ent.effect qD):=by
 refine EntOk.effect fun args H K h=>?_
 unfold qD at h
 split at h
 rotate_left
 ·exact h.elim
 rename_i n w
 obtain ⟨hw,hK⟩:=h
 refine ⟨_,_,hK,?_⟩
 refine ACalls.of_aw (Ω:=[]) (T:=ae []) ah tNq Tryz.func209 (by kernel_rfl) (by rfl) (rs:=[.tmp 4]) (by rfl) (by kernel_rfl) (by simp only [Tryz.ntmps209,yaz,yba];decide) (by simp only [zle];omega) fun hcl hlt=>?_
 clear hK hlt
 change aw _ _ _ (KI Tryz.prog [] (qt Tryz.prog [.tmp 4] H.nx _ _) []) _ _
 simp only [go_sem,zav,byq]
 refine jr (A:=Nat) (fun k=>[(6,.int .i64 ((k:Int) - 1)),(5,.slice (.own (H.nx+1)) 1 (bys (kD n w.toNat k))),(0,.int .i64 n)])
  (fun k=>(H.push (.buf 1 0)).push (.buf 1 (w.toNat - k))) (fun k=>k≤w.toNat) (fun k=>k) w.toNat (nrq _) ?_ fun k hk=>?_
 ·have ew:IntKind.i64.wrap (w - 1)=w - 1:=by rw [wrap_i64]<;>omega
  simp only [bnq,enter,pC,ltF,ne_eq,Nat.reduceEqDiff,reduceCtorEq,zy,zll,ew,Nat.sub_self,true_or,and_true]
  congr 1;omega
 simp only [go_sem,byq]
 refine af (fun hc=>?_) (fun hc=>?_)
 ·have hk0:1≤k:=by simp at hc;omega
  obtain ⟨j,rfl⟩:∃ j,k=j+1:=⟨k - 1,by omega⟩
  have e1:IntKind.i64.wrap (8*(((j+1:Nat):Int) - 1))=8*j:=by rw [wrap_i64]<;>omega
  have e3:IntKind.u64.wrap (8*(j:Int))=8*j:=by rw [cG]<;>omega
  have e4:IntKind.i64.wrap (((j+1:Nat):Int) - 1 - 1)=(j:Int) - 1:=by rw [wrap_i64]<;>omega
  simp only [go_sem,byq,e1,e3,e4,sw,uh]
  have e5:=xT n w.toNat j hk
  unfold ut at e5
  refine ⟨by omega,⟨by omega,by omega⟩,j,by omega,by omega,?_⟩
  simp only [bnq,enter,pC,ltF,ne_eq,Nat.reduceEqDiff,reduceCtorEq,e5]
  rw [show w.toNat - (j+1)+1=w.toNat - j by omega]
  simp (disch:=first|exact Zd|omega) [↓zmo,beq,ybc,ybd,ybe,ag,wk,wk2,wk1,wkM,wkL,ak,ybf]
  exact .inr (by omega)
 ·have hk0:k=0:=by simp at hc;omega
  subst hk0
  simp only [go_sem,byq]
  simp (disch:=first|exact Zd|omega) [↓zmo,beq,ybc,ybd,ybe,ag,wk,wk2,wk1,wkM,wkL,ak,ybf,byq,be]
def aa (n w:Int):List UInt8:=if 1≤w∧w≤4 then be n w.toNat else []
theorem ny (n:Int) (w:Nat):(be n w).length=w:=by simp [be,uh]
def fZ:List AV→AHeap→(AV→Prop)→Prop
 |[.slice _ 1 l,.int .i64 n,.int .i64 w],_,K=>(isB l∧l.length≤140737488355000)∧K (.slice .any 1 (bys (unb l++aa n w)))
 |_,_,_=>False
theorem oM:EntOk Tryz.prog 112 (Ent.pure fZ):=by
 refine Ype fun _ H K h=>?_
 unfold fZ at h
 split at h
 rotate_left
 ·exact h.elim
 rename_i m l n w
 obtain ⟨⟨c1,hle⟩,hK⟩:=h
 refine ⟨_,hK,?_⟩
 obtain ⟨xs,rfl⟩:=fY c1
 simp only [zlz]
 rw [zlk] at hle
 refine ACalls.fW ah (tCq vU (tCq ov tNq)) Tryz.func112 [.tmp 6] (nrq _) (T:=ae []) (h:=fun hcl hlt=>?_)
 clear hK hlt
 simp only [go_sem,zav,byq,lw,qD]
 refine bM (fun h1=>?_) (fun h1=>bM (fun h2=>?_) (fun h2=>?_))
 all_goals simp only [decide_eq_true_eq,decide_eq_false_iff_not] at *
 ·have e:aa n w=[]:=by unfold aa;rw [if_neg (by omega)]
  simp (disch:=first|exact Zd|omega) [↓zmo,beq,ybc,ybd,ybe,ag,wk,wk2,wk1,wkM,wkL,ak,ybf,byq,e,hcl]
  omega
 ·have e:aa n w=[]:=by unfold aa;rw [if_neg (by omega)]
  simp (disch:=first|exact Zd|omega) [↓zmo,beq,ybc,ybd,ybe,ag,wk,wk2,wk1,wkM,wkL,ak,ybf,byq,e,hcl]
  omega
 ·have e:aa n w=be n w.toNat:=by unfold aa;rw [if_pos (by omega)]
  simp (disch:=first|exact Zd|omega) [↓zmo,beq,ybc,ybd,ybe,ag,wk,wk2,wk1,wkM,wkL,ak,ybf,byq,e,ny,hcl]
  omega
def iL:List AV→AHeap→(AV→Prop)→Prop
 |[.slice _ 1 l,.bool b],_,K=>(isB l∧l.length≤140737488355000)∧K (.slice .any 1 (bys (unb l++[if b then 1 else 0])))
 |_,_,_=>False
theorem oS:EntOk Tryz.prog 138 (Ent.pure iL):=by
 refine Ype fun _ H K h=>?_
 unfold iL at h
 split at h
 rotate_left
 ·exact h.elim
 rename_i m l b
 obtain ⟨⟨c1,hle⟩,hK⟩:=h
 refine ⟨_,hK,?_⟩
 obtain ⟨xs,rfl⟩:=fY c1
 simp only [zlz]
 rw [zlk] at hle
 refine ACalls.fW ah (tCq ov tNq) Tryz.func138 [.tmp 4] (nrq _) (T:=ae []) (h:=fun hcl hlt=>?_)
 clear hK hlt
 have l1:AV.int .u8 1=aL 1:=rfl
 have l0:AV.int .u8 0=aL 0:=rfl
 simp only [go_sem,zav,byq,lw,l1,l0]
 refine bM (fun h1=>?_) (fun h1=>?_)
 all_goals
  subst h1
  simp (disch:=first|exact Zd|omega) [↓zmo,beq,ybc,ybd,ybe,ag,wk,wk2,wk1,wkM,wkL,ak,ybf,byq,hcl]
  omega
def ge (bs:List UInt8):List UInt8:=be (min (bs.length:Int) 65535) 2++bs.take (min (bs.length:Int) 65535).toNat
theorem iB (bs:List UInt8):(ge bs).length≤65537:=by
 unfold ge
 rw [lAq,ny,List.length_take]
 omega
def lq:List AV→AHeap→(AV→Prop)→Prop
 |[.slice _ 1 l,.slice _ 1 l2],_,K=>(isB l∧isB l2∧l.length≤140737488000000)∧K (.slice .any 1 (bys (unb l++ge (unb l2))))
 |_,_,_=>False
theorem tB:EntOk Tryz.prog 141 (Ent.pure lq):=by
 refine Ype fun _ H K h=>?_
 unfold lq at h
 split at h
 rotate_left
 ·exact h.elim
 rename_i m l m2 l2
 obtain ⟨⟨c1,c2,hle⟩,hK⟩:=h
 refine ⟨_,hK,?_⟩
 obtain ⟨xs,rfl⟩:=fY c1
 obtain ⟨ys,rfl⟩:=fY c2
 simp only [zlz,zlk] at *
 refine ACalls.fW ah (tCq vU (tCq ov tNq)) Tryz.func141 [.tmp 4] (nrq _) (T:=ae []) (h:=fun hcl hlt=>?_)
 clear hK hlt
 have el:((ys.take (min (ys.length:Int) 65535).toNat).length:Int)=min (ys.length:Int) 65535:=by rw [List.length_take];omega
 have el2:(ys.take (min (ys.length:Int) 65535).toNat).length≤65535:=by rw [List.length_take];omega
 simp only [go_sem,zav,byq,lw,qD,yap,el,Int.reduceToNat,ny,lAq]
 have e:be (min (ys.length:Int) 65535) 2++ys.take (min (ys.length:Int) 65535).toNat=ge ys:=rfl
 simp only [e]
 refine ⟨by omega,by omega,⟨by omega,by omega⟩,by omega,?_⟩
 simp (disch:=first|exact Zd|omega) [↓zmo,beq,ybc,ybd,ybe,ag,wk,wk2,wk1,wkM,wkL,ak,ybf,byq,hcl]
end Go.AL
