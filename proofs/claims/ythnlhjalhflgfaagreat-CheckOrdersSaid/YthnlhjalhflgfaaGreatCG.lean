/- Lemmas of the proof; no condition. -/
import Derived.Test.YthnlhjalhflgfaaGreatLVal
import Derived.Test.YthnlhjalhflgfaaGreatAlBun
import Derived.Test.YthnlhjalhflgfaaGreatLSyn
set_option linter.all false
set_option maxRecDepth 10000
open Go Go.AL Go.Proofs
namespace Go.AL
theorem I9:tSl Tryz.prog 22 5:=kSl
theorem P7:ti Tryz.prog 3=some ⟨.int .i64,1,8,.int .i64 0⟩:=krf
theorem Mp:ti Tryz.prog 94=some ⟨.int .u64,1,8,.int .u64 0⟩:=krf
theorem RP:ti Tryz.prog 5=some ⟨.int .u8,1,1,.int .u8 0⟩:=krf
theorem MY:ti Tryz.prog 4=some ⟨.bool,1,1,.bool false⟩:=krf
theorem EX:ti Tryz.prog 9=some ⟨.string,1,16,.str []⟩:=krf
attribute [go_sem] I9 P7 Mp RP MY EX
def nw:PCt
 |[.slice _ 1 l1,.slice _ 1 l2],_,K=>(isB l1∧isB l2∧l1.length+l2.length≤140737488355328)∧K (.slice .any 1 (bys (unb l1++unb l2)))
 |_,_,_=>False
theorem pU:EPp 289 nw:=by
 refine Ype fun _ H K h=>?_
 unfold nw at h
 split at h<;>try exact h.elim
 rename_i m1 l1 m2 l2
 obtain ⟨⟨c1,c2,hle⟩,hK⟩:=h
 refine ⟨_,hK,?_⟩
 obtain ⟨xs,rfl⟩:=iu c1
 obtain ⟨ys,rfl⟩:=iu c2
 simp only [zlz]
 rw [zlk,zlk] at hle
 refine ACalls.of_aw (Ω:=[]) (T:=aB []) aE tNq Tryz.func289 (by kernel_rfl) (by rfl) (rs:=[.tmp 4]) (by rfl) (by kernel_rfl) (by simp only [Tryz.ntmps289,yaz,yba];decide) (nrq _) fun hcl hlt=>?_
 clear hK hlt
 change aw _ _ _ (KI Tryz.prog [] (rc Tryz.prog [.tmp 4] H.nx (.ret (.slice .any 1 (bys (xs++ys)))) H) []) _ _
 have hw:IntKind.i64.wrap (↑xs.length+↑ys.length)=((xs.length+ys.length:Nat):Int):=by rw [wrap_i64]<;>omega
 have e2:(↑(xs.length+ys.length) - ↑xs.length:Int).toNat=ys.length:=by omega
 simp only [go_sem,zav,byq,hw,e2]
 simp (disch:=first|exact Zd|omega) [↓zmo,beq,ybc,ybd,ybe,ag,wk,wk2,wk1,wkM,wkL,ay,ybf,byq,hcl]
 omega
def xH (n:Int) (j:Nat):UInt8:=UInt8.ofNat (xZ .i64 n (8*(j:Int)) % 256).toNat
def mZ (n:Int) (w k:Nat):List UInt8:=(List.range (w - k)).map fun i=>xH n (w - 1 - i)
def be (n:Int) (w:Nat):List UInt8:=mZ n w 0
theorem uP (n:Int) (w:Nat):mZ n w w=[]:=by simp [mZ]
theorem qy (n:Int) (w k:Nat):(mZ n w k).length=w - k:=by simp [mZ]
theorem sV (n:Int) (w j:Nat) (h:j+1≤w):mZ n w (j+1)++[xH n j]=mZ n w j:=by
 unfold mZ
 have e:w - j=(w - (j+1))+1:=by omega
 rw [e,List.range_succ,List.map_append]
 congr 2
 simp only [yae,yaf]
 congr 2;omega
def rG:ECt
 |[.int .i64 n,.int .i64 w],H,K=>(0≤w∧w≤8)∧K (.ret (.slice (.own (H.nx+1)) 1 (bys (be n w.toNat)))) ((H.push (.buf 1 0)).push (.buf 1 w.toNat))
 |_,_,_=>False
theorem wS:EEe 290 rG:=by
 refine Yef fun _ H K h=>?_
 unfold rG at h
 split at h<;>try exact h.elim
 rename_i n w
 obtain ⟨hw,hK⟩:=h
 refine ⟨_,_,hK,?_⟩
 refine ACalls.of_aw (Ω:=[]) (T:=aB []) aE tNq Tryz.func290 (by kernel_rfl) (by rfl) (rs:=[.tmp 4]) (by rfl) (by kernel_rfl) (by simp only [Tryz.ntmps290,yaz,yba];decide) (by simp only [zle];omega) fun hcl hlt=>?_
 clear hK hlt
 change aw _ _ _ (KI Tryz.prog [] (rc Tryz.prog [.tmp 4] H.nx _ _) []) _ _
 simp only [go_sem,zav,byq]
 refine iW (A:=Nat) (fun k=>[(6,.int .i64 ((k:Int) - 1)),(5,.slice (.own (H.nx+1)) 1 (bys (mZ n w.toNat k))),(0,.int .i64 n)])
  (fun k=>(H.push (.buf 1 0)).push (.buf 1 (w.toNat - k))) (fun k=>k≤w.toNat) (fun k=>k) w.toNat (nrq _) ?_ fun k hk=>?_
 ·have ew:IntKind.i64.wrap (w - 1)=w - 1:=by rw [wrap_i64]<;>omega
  simp only [bnq,enter,lK,ltF,ne_eq,Nat.reduceEqDiff,reduceCtorEq,uP,zll,ew,Nat.sub_self,true_or,and_true]
  congr 1;omega
 refine Tq56 ?_
 refine au (fun hc=>?_) (fun hc=>?_)
 ·have hk0:1≤k:=sHc
  obtain ⟨j,rfl⟩:∃ j,k=j+1:=⟨k - 1,by omega⟩
  have e1:IntKind.i64.wrap (8*(((j+1:Nat):Int) - 1))=8*j:=by rw [wrap_i64]<;>omega
  have e3:IntKind.u64.wrap (8*(j:Int))=8*j:=by rw [jP]<;>omega
  have e4:IntKind.i64.wrap (((j+1:Nat):Int) - 1 - 1)=(j:Int) - 1:=by rw [wrap_i64]<;>omega
  simp only [go_sem,byq,e1,e3,e4,xL,qy]
  have e5:=sV n w.toNat j hk
  unfold xH at e5
  refine ⟨by omega,⟨by omega,by omega⟩,j,by omega,by omega,?_⟩
  simp only [bnq,enter,lK,ltF,ne_eq,Nat.reduceEqDiff,reduceCtorEq,e5]
  rw [show w.toNat - (j+1)+1=w.toNat - j by omega]
  simp (disch:=first|exact Zd|omega) [↓zmo,beq,ybc,ybd,ybe,ag,wk,wk2,wk1,wkM,wkL,ay,ybf]
  exact .inr (by omega)
 ·have hk0:k=0:=sHc
  subst hk0
  refine Tq56 ?_
  simp (disch:=first|exact Zd|omega) [↓zmo,beq,ybc,ybd,ybe,ag,wk,wk2,wk1,wkM,wkL,ay,ybf,byq,be]
def iP (n w:Int):List UInt8:=if 1≤w∧w≤4 then be n w.toNat else []
theorem nN (n:Int) (w:Nat):(be n w).length=w:=by simp [be,qy]
def bB:PCt
 |[.slice _ 1 l,.int .i64 n,.int .i64 w],_,K=>(isB l∧l.length≤140737488355000)∧K (.slice .any 1 (bys (unb l++iP n w)))
 |_,_,_=>False
theorem di:EPp 190 bB:=by
 refine Ype fun _ H K h=>?_
 unfold bB at h
 split at h<;>try exact h.elim
 rename_i m l n w
 obtain ⟨⟨c1,hle⟩,hK⟩:=h
 refine ⟨_,hK,?_⟩
 obtain ⟨xs,rfl⟩:=iu c1
 simp only [zlz]
 rw [zlk] at hle
 refine Yfv aE (tCq wS (tCq pU tNq)) Tryz.func190 [.tmp 6] fun hcl hlt=>?_
 clear hK hlt
 simp only [go_sem,zav,byq,nw,rG]
 refine eH (fun h1=>?_) (fun h1=>eH (fun h2=>?_) (fun h2=>?_))
 all_goals simp only [decide_eq_true_eq,decide_eq_false_iff_not] at *
 ·exact Y94
 ·exact Y94
 ·have e:iP n w=be n w.toNat:=by unfold iP;rw [if_pos (by omega)]
  simp (disch:=first|exact Zd|omega) [↓zmo,beq,ybc,ybd,ybe,ag,wk,wk2,wk1,wkM,wkL,ay,ybf,byq,e,nN,hcl]
  omega
def od:PCt
 |[.slice _ 1 l,.bool b],_,K=>(isB l∧l.length≤140737488355000)∧K (.slice .any 1 (bys (unb l++[if b then 1 else 0])))
 |_,_,_=>False
theorem vW:EPp 317 od:=by
 refine Ype fun _ H K h=>?_
 unfold od at h
 split at h<;>try exact h.elim
 rename_i m l b
 obtain ⟨⟨c1,hle⟩,hK⟩:=h
 refine ⟨_,hK,?_⟩
 obtain ⟨xs,rfl⟩:=iu c1
 simp only [zlz]
 rw [zlk] at hle
 refine Yfv aE (tCq pU tNq) Tryz.func317 [.tmp 4] fun hcl hlt=>?_
 clear hK hlt
 have l1:AV.int .u8 1=bH 1:=rfl
 have l0:AV.int .u8 0=bH 0:=rfl
 simp only [go_sem,zav,byq,nw,l1,l0]
 exact Y91
def xF:ECt
 |[.slice (.own id) 1 l,.bool b],H,K=>(isB l∧l.length≤140737488355000∧H.get id=some (.buf 1 l.length)) ∧
   K (.ret (.slice (.own id) 1 (bys (unb l++[if b then 1 else 0])))) (H.set id (.buf 1 (l.length+1)))
 |_,_,_=>False
theorem Lm:EEe 336 xF:=by
 refine Yef fun _ H K h=>?_
 unfold xF at h
 split at h<;>try exact h.elim
 rename_i id l b
 obtain ⟨⟨c1,hle,hid⟩,hK⟩:=h
 refine ⟨_,_,hK,?_⟩
 obtain ⟨xs,rfl⟩:=iu c1
 simp only [zlz,zlk] at *
 have hl0:=glq hid
 have hne:=cN hl0
 refine Yfv aE tNq Tryz.func336 [.tmp 4] fun hcl hlt=>?_
 clear hK
 have l1:AV.int .u8 1=bH 1:=rfl
 have l0:AV.int .u8 0=bH 0:=rfl
 simp only [go_sem,zav,byq,l1,l0,hne,hid]
 exact Y91
def nR:ECt
 |[.slice (.own id) 1 l,.int .i64 n,.int .i64 w],H,K=>(isB l∧l.length≤140737488355000∧H.get id=some (.buf 1 l.length)) ∧
   K (.ret (.slice (.own id) 1 (bys (unb l++iP n w)))) (H.set id (.buf 1 (l.length+(iP n w).length)))
 |_,_,_=>False
theorem vy:EEe 279 nR:=by
 refine Yef fun _ H K h=>?_
 unfold nR at h
 split at h<;>try exact h.elim
 rename_i id l n w
 obtain ⟨⟨c1,hle,hid⟩,hK⟩:=h
 refine ⟨_,_,hK,?_⟩
 obtain ⟨xs,rfl⟩:=iu c1
 simp only [zlz,zlk] at *
 have hl0:=glq hid
 have hne:=cN hl0
 refine Yfv aE tNq Tryz.func279 [.tmp 6] fun hcl hlt=>?_
 clear hK
 simp only [go_sem,byq,hne,hid]
 have out:¬ (1≤w∧w≤4)→ag (H.push (.buf 1 0)) (.slice (.own id) 1 (bys xs)) (H.set id (.buf 1 (xs.length+(iP n w).length))) (.slice (.own id) 1 (bys (xs++iP n w))):=by
  intro hw
  have e:iP n w=[]:=by unfold iP;rw [if_neg hw]
  rw [e,yba,Nat.add_zero,fo hid]
  simp (disch:=first|exact Zd|omega) [↓zmo,beq,ybc,ybd,ybe,ag,wk,wk2,wk1,wkM,wkL,ay,ybf,byq,hcl]
  exact hl0
 refine eH (fun h1=>?_) (fun h1=>?_)
 ·exact out (by simp at h1;omega)
 refine au (fun h2=>?_) (fun h2=>?_)
 ·simp only [go_sem,zav,byq,hne,hid]
  exact out (by simp at h2;omega)
 simp only [decide_eq_true_eq,decide_eq_false_iff_not] at h1 h2
 simp only [go_sem,byq,hne,hid]
 refine iW (A:=Nat) (fun k=>[(7,.int .i64 ((k:Int) - 1)),(0,.slice (.own id) 1 (bys (xs++mZ n w.toNat k))),(1,.int .i64 n)])
  (fun k=>(H.set id (.buf 1 (xs.length+(w.toNat - k)))).push (.buf 1 0)) (fun k=>k≤w.toNat) (fun k=>k) w.toNat (nrq _) ?_ fun k hk=>?_
 ·have ew:IntKind.i64.wrap (w - 1)=w - 1:=by rw [wrap_i64]<;>omega
  simp only [bnq,enter,lK,ltF,ne_eq,Nat.reduceEqDiff,reduceCtorEq,uP,zll,ew,Nat.sub_self,yaj,Nat.add_zero,fo hid,true_or,and_true]
  congr 1;omega
 have hlt2:∀ o,id<(H.set id o).nx:=fun o=>hl0
 simp only [go_sem,byq,hne]
 refine au (fun hc=>?_) (fun hc=>?_)
 ·have hk0:1≤k:=sHc
  obtain ⟨j,rfl⟩:∃ j,k=j+1:=⟨k - 1,by omega⟩
  have e1:IntKind.i64.wrap (8*(((j+1:Nat):Int) - 1))=8*j:=by rw [wrap_i64]<;>omega
  have e3:IntKind.u64.wrap (8*(j:Int))=8*j:=by rw [jP]<;>omega
  have e4:IntKind.i64.wrap (((j+1:Nat):Int) - 1 - 1)=(j:Int) - 1:=by rw [wrap_i64]<;>omega
  simp only [go_sem,byq,e1,e3,e4,xL,qy,hne,aI,if_pos hl0,lAq,List.append_assoc]
  have e5:=sV n w.toNat j hk
  unfold xH at e5
  refine ⟨by omega,⟨by omega,by omega⟩,j,by omega,by omega,?_⟩
  simp only [bnq,enter,lK,ltF,ne_eq,Nat.reduceEqDiff,reduceCtorEq,e5]
  rw [show xs.length+(w.toNat - (j+1))+1=xs.length+(w.toNat - j) by omega]
  refine .inr ?_
  have hcs:(H.set id (.buf 1 (xs.length+(w.toNat - j)))).Closed:=bh hcl
  simp (disch:=first|exact Zd|omega) [↓zmo,beq,ybc,ybd,ybe,ag,wk,wk2,wk1,wkM,wkL,ay,ybf]
  omega
 ·have hk0:k=0:=sHc
  subst hk0
  refine Tq56 ?_
  have hcs:(H.set id (.buf 1 (xs.length+w.toNat))).Closed:=bh hcl
  have e:iP n w=be n w.toNat:=by unfold iP;rw [if_pos (by omega)]
  simp (disch:=first|exact Zd|omega) [↓zmo,beq,ybc,ybd,ybe,ag,wk,wk2,wk1,wkM,wkL,ay,ybf,byq,e,nN]
  exact ⟨rfl,hl0⟩
def jF (bs:List UInt8):List UInt8:=be (min (bs.length:Int) 65535) 2++bs.take (min (bs.length:Int) 65535).toNat
theorem Am (bs:List UInt8):(jF bs).length≤65537:=by
 unfold jF
 rw [lAq,nN,List.length_take]
 omega
def m8:PCt
 |[.slice _ 1 l,.slice _ 1 l2],_,K=>(isB l∧isB l2∧l.length≤140737488000000)∧K (.slice .any 1 (bys (unb l++jF (unb l2))))
 |_,_,_=>False
theorem u6:EPp 337 m8:=by
 refine Ype fun _ H K h=>?_
 unfold m8 at h
 split at h<;>try exact h.elim
 rename_i m l m2 l2
 obtain ⟨⟨c1,c2,hle⟩,hK⟩:=h
 refine ⟨_,hK,?_⟩
 obtain ⟨xs,rfl⟩:=iu c1
 obtain ⟨ys,rfl⟩:=iu c2
 simp only [zlz,zlk] at *
 refine Yfv aE (tCq wS (tCq pU tNq)) Tryz.func337 [.tmp 4] fun hcl hlt=>?_
 clear hK hlt
 have el:((ys.take (min (ys.length:Int) 65535).toNat).length:Int)=min (ys.length:Int) 65535:=by rw [List.length_take];omega
 have el2:(ys.take (min (ys.length:Int) 65535).toNat).length≤65535:=by rw [List.length_take];omega
 simp only [go_sem,zav,byq,nw,rG,yap,el,Int.reduceToNat,nN,lAq]
 have e:be (min (ys.length:Int) 65535) 2++ys.take (min (ys.length:Int) 65535).toNat=jF ys:=rfl
 simp only [e]
 refine ⟨by omega,by omega,⟨by omega,by omega⟩,by omega,?_⟩
 exact Z0
def lV:PCt
 |[.slice _ 1 l,.str s],_,K=>(isB l∧l.length≤140737488000000∧s.length≤140737488000000)∧K (.slice .any 1 (bys (unb l++jF s)))
 |_,_,_=>False
theorem v5:EPp 291 lV:=by
 refine Ype fun _ H K h=>?_
 unfold lV at h
 split at h<;>try exact h.elim
 rename_i m l s
 obtain ⟨⟨c1,hle,hs⟩,hK⟩:=h
 refine ⟨_,hK,?_⟩
 obtain ⟨xs,rfl⟩:=iu c1
 simp only [zlz,zlk] at *
 refine Yfv aE (tCq u6 tNq) Tryz.func291 [.tmp 4] fun hcl hlt=>?_
 clear hK hlt
 simp only [go_sem,zav,byq,m8]
 refine ⟨by omega,by omega,?_⟩
 exact Z0
def uh:ECt
 |[.slice (.own id) 1 l,.slice _ 1 l2],H,K=>(isB l∧isB l2∧l.length≤140737488000000∧H.get id=some (.buf 1 l.length)) ∧
   K (.ret (.slice (.own id) 1 (bys (unb l++jF (unb l2))))) (H.set id (.buf 1 (l.length+(jF (unb l2)).length)))
 |_,_,_=>False
theorem Ek:EEe 344 uh:=by
 refine Yef fun _ H K h=>?_
 unfold uh at h
 split at h<;>try exact h.elim
 rename_i id l m2 l2
 obtain ⟨⟨c1,c2,hle,hid⟩,hK⟩:=h
 refine ⟨_,_,hK,?_⟩
 obtain ⟨xs,rfl⟩:=iu c1
 obtain ⟨ys,rfl⟩:=iu c2
 simp only [zlz,zlk] at *
 have hl0:=glq hid
 have hne:=cN hl0
 refine Yfv aE (tCq vy tNq) Tryz.func344 [.tmp 4] fun hcl hlt=>?_
 clear hK hlt
 have el:((ys.take (min (ys.length:Int) 65535).toNat).length:Int)=min (ys.length:Int) 65535:=by rw [List.length_take];omega
 have el2:(ys.take (min (ys.length:Int) 65535).toNat).length≤65535:=by rw [List.length_take];omega
 have ew:iP (min (ys.length:Int) 65535) 2=be (min (ys.length:Int) 65535) 2:=by unfold iP;rw [if_pos (by omega)];rfl
 simp only [go_sem,zav,byq,nR,hne,hid,ew,yap,aI,if_pos hl0,lAq,nN,List.append_assoc]
 have e:be (min (ys.length:Int) 65535) 2++ys.take (min (ys.length:Int) 65535).toNat=jF ys:=rfl
 have e':xs.length+2+(ys.take (min (ys.length:Int) 65535).toNat).length=xs.length+(jF ys).length:=by rw [← e,lAq,nN];omega
 simp only [e,e']
 refine ⟨by omega,by omega,⟨by omega,by omega⟩,?_⟩
 have hcs:(H.set id (.buf 1 (xs.length+(jF ys).length))).Closed:=bh hcl
 exact Y141
def xr:ECt
 |[.slice (.own id) 1 l,.str s],H,K=>(isB l∧l.length≤140737488000000∧s.length≤140737488000000∧H.get id=some (.buf 1 l.length)) ∧
   K (.ret (.slice (.own id) 1 (bys (unb l++jF s)))) (H.set id (.buf 1 (l.length+(jF s).length)))
 |_,_,_=>False
theorem Jf:EEe 334 xr:=by
 refine Yef fun _ H K h=>?_
 unfold xr at h
 split at h<;>try exact h.elim
 rename_i id l s
 obtain ⟨⟨c1,hle,hs,hid⟩,hK⟩:=h
 refine ⟨_,_,hK,?_⟩
 obtain ⟨xs,rfl⟩:=iu c1
 simp only [zlz,zlk] at *
 have hl0:=glq hid
 have hne:=cN hl0
 refine Yfv aE (tCq Ek tNq) Tryz.func334 [.tmp 4] fun hcl hlt=>?_
 clear hK hlt
 simp only [go_sem,zav,byq,uh,hne,hid]
 refine ⟨by omega,by omega,?_⟩
 have hcs:(H.set id (.buf 1 (xs.length+(jF s).length))).Closed:=bh hcl
 exact Y141
theorem P4:ti Tryz.prog 104=some ⟨.int .u64,1,8,.int .u64 0⟩:=krf
theorem P3:ti Tryz.prog 106=some ⟨.struct [(0,104,false),(1,104,false)],2,16,.agg [.int .u64 0,.int .u64 0]⟩:=krf
theorem QC:ti Tryz.prog 361=some ⟨.array 16 5,16,16,.agg (List.replicate 16 (.int .u8 0))⟩:=krf
attribute [go_sem] P4 P3 QC
def xu:PCt
 |[.int .u64 n],_,K=>(0≤n∧n<18446744073709551616)∧K (.int .i64 (bl n.toNat:Nat))
 |_,_,_=>False
def lenTab:List UInt8:=(List.range 256).map fun n=>UInt8.ofNat (bl n)
theorem Er:([0,1,2,2,3,3,3,3,4,4,4,4,4,4,4,4,5,5,5,5,5,5,5,5,5,5,5,5,5,5,5,5,6,6,6,6,6,6,6,6,6,6,6,6,6,6,6,6,6,6,6,6,6,6,6,6,6,6,6,6,6,6,6,6].append [7,7,7,7,7,7,7,7,7,7,7,7,7,7,7,7,7,7,7,7,7,7,7,7,7,7,7,7,7,7,7,7,7,7,7,7,7,7,7,7,7,7,7,7,7,7,7,7,7,7,7,7,7,7,7,7,7,7,7,7,7,7,7,7]).append ([8,8,8,8,8,8,8,8,8,8,8,8,8,8,8,8,8,8,8,8,8,8,8,8,8,8,8,8,8,8,8,8,8,8,8,8,8,8,8,8,8,8,8,8,8,8,8,8,8,8,8,8,8,8,8,8,8,8,8,8,8,8,8,8].append [8,8,8,8,8,8,8,8,8,8,8,8,8,8,8,8,8,8,8,8,8,8,8,8,8,8,8,8,8,8,8,8,8,8,8,8,8,8,8,8,8,8,8,8,8,8,8,8,8,8,8,8,8,8,8,8,8,8,8,8,8,8,8,8])=lenTab:=by decide +kernel
theorem Bi:lenTab.length=256:=by simp [lenTab]
theorem Ai (n:Nat) (h:n<256):(lenTab.getD n 0).toNat=bl n:=by
 unfold lenTab
 rw [gEq,List.getElem?_map,List.getElem?_range h]
 have:bl n≤8:=bl_le.2 h
 simp only [yag,Option.getD_some]
 rw [UInt8.toNat_ofNat_of_lt' (by simp [UInt8.size];omega)]
theorem DD {m s:Nat} {H:AHeap} (hcl:H.Closed) (hm:m<2^64) (h:m >>> s<256) (hs:s=0∨2^s≤m) :
 (0≤IntKind.u8.wrap ((m >>> s:Nat):Int)∧IntKind.u8.wrap ((m >>> s:Nat):Int)<(lenTab.length:Int)) ∧
 ag H (AV.int IntKind.i64 (IntKind.i64.wrap ((s:Int)+IntKind.i64.wrap ((lenTab.getD (IntKind.u8.wrap ((m >>> s:Nat):Int)).toNat 0).toNat:Int)))) H (AV.int IntKind.i64 (bl m:Nat)):=by
 have e:IntKind.u8.wrap ((m >>> s:Nat):Int)=((m >>> s:Nat):Int):=by
  have:IntKind.u8.wrap ((m >>> s:Nat):Int)=((m >>> s:Nat):Int) % 256:=by simp [IntKind.wrap,IntKind.signed,IntKind.bits]
  rw [this]
  generalize m >>> s=x at h ⊢
  omega
 rw [e,Bi,iNq,Ai _ h]
 refine ⟨⟨Int.natCast_nonneg _,by generalize m >>> s=x at h ⊢;omega⟩,?_⟩
 have hb:bl m=s+bl (m >>> s):=by
  rcases hs with rfl|hs
  ·simp
  ·exact yC m s hs
 have h8:bl (m >>> s)≤8:=bl_le.2 h
 have h64:bl m≤64:=bl_le.2 hm
 have e2:IntKind.i64.wrap ((bl (m >>> s):Nat):Int)=(bl (m >>> s):Nat):=by rw [wrap_i64]<;>omega
 have e3:IntKind.i64.wrap ((s:Int)+(bl (m >>> s):Nat))=(bl m:Nat):=by rw [wrap_i64]<;>omega
 rw [e2,e3]
 simp [ag,wk,wk2,wk1,zmw,hcl,znf]
theorem K3:EPp 343 xu:=by
 refine Ype fun _ H K h=>?_
 unfold xu at h
 split at h<;>try exact h.elim
 rename_i n
 obtain ⟨⟨h0,h1⟩,hK⟩:=h
 refine ⟨_,hK,?_⟩
 obtain ⟨m,rfl⟩:=dY h0
 clear hK h0
 rw [iNq]
 have hm:m<2^64:=by omega
 clear h1
 refine Yfu aE tNq Tryz.func343 [.tmp 2] fun hcl=>?_
 have s32:∀ a:Nat,a<2^64→xZ .u64 (a:Int) 32=((a >>> 32:Nat):Int):=fun a h=>lB a 32 h
 have s16:∀ a:Nat,a<2^64→xZ .u64 (a:Int) 16=((a >>> 16:Nat):Int):=fun a h=>lB a 16 h
 have s8:∀ a:Nat,a<2^64→xZ .u64 (a:Int) 8=((a >>> 8:Nat):Int):=fun a h=>lB a 8 h
 have q1:m >>> 32<2^64:=pi hm
 have q2:m >>> 16<2^64:=pi hm
 have q3:m >>> 32 >>> 16<2^64:=pi q1
 have w48:IntKind.i64.wrap 48=48:=by decide
 have w40:IntKind.i64.wrap 40=40:=by decide
 have w24:IntKind.i64.wrap 24=24:=by decide
 have w56:IntKind.i64.wrap (48+8)=56:=by decide
 have w56':IntKind.i64.wrap 56=56:=by decide
 have wn:∀ k:Nat,(0≤IntKind.u8.wrap ((m >>> k:Nat):Int))=True:=fun k=>eq_true (by simp [IntKind.wrap,IntKind.signed,IntKind.bits];try omega)
 have q4:m >>> 48<2^64:=pi hm
 simp only [go_sem,zav,byq,Er,s32,s16,s8,hm,q1,q2,q3,q4,w48,w40,w24,w56,w56',← Nat.shiftRight_add]
 have sr:∀ k:Nat,m >>> k=m/2^k:=fun k=>Nat.shiftRight_eq_div_pow m k
 have fin:=fun s=>@DD m s H hcl hm
 refine eH (fun t1=>⟨by decide,eH (fun t2=>⟨by decide,eH (fun t3=>⟨by decide,?_⟩) (fun t3=>?_)⟩) (fun t2=>eH (fun t3=>⟨by decide,?_⟩) (fun t3=>?_))⟩)
  (fun t1=>eH (fun t2=>⟨by decide,eH (fun t3=>⟨by decide,?_⟩) (fun t3=>?_)⟩) (fun t2=>eH (fun t3=>⟨by decide,?_⟩) (fun t3=>?_)))
 all_goals simp only [decide_eq_true_eq,decide_eq_false_iff_not,sr,ge_iff_le] at t1 t2 t3
 ·first|exact fin 56 (by rw [sr];omega) (.inr (by omega))|exact ⟨(fin 56 (by rw [sr];omega) (.inr (by omega))).1.2,(fin 56 (by rw [sr];omega) (.inr (by omega))).2⟩
 ·first|exact fin 48 (by rw [sr];omega) (.inr (by omega))|exact ⟨(fin 48 (by rw [sr];omega) (.inr (by omega))).1.2,(fin 48 (by rw [sr];omega) (.inr (by omega))).2⟩
 ·first|exact fin 40 (by rw [sr];omega) (.inr (by omega))|exact ⟨(fin 40 (by rw [sr];omega) (.inr (by omega))).1.2,(fin 40 (by rw [sr];omega) (.inr (by omega))).2⟩
 ·first|exact fin 32 (by rw [sr];omega) (.inr (by omega))|exact ⟨(fin 32 (by rw [sr];omega) (.inr (by omega))).1.2,(fin 32 (by rw [sr];omega) (.inr (by omega))).2⟩
 ·first|exact fin 24 (by rw [sr];omega) (.inr (by omega))|exact ⟨(fin 24 (by rw [sr];omega) (.inr (by omega))).1.2,(fin 24 (by rw [sr];omega) (.inr (by omega))).2⟩
 ·first|exact fin 16 (by rw [sr];omega) (.inr (by omega))|exact ⟨(fin 16 (by rw [sr];omega) (.inr (by omega))).1.2,(fin 16 (by rw [sr];omega) (.inr (by omega))).2⟩
 ·first|exact fin 8 (by rw [sr];omega) (.inr (by omega))|exact ⟨(fin 8 (by rw [sr];omega) (.inr (by omega))).1.2,(fin 8 (by rw [sr];omega) (.inr (by omega))).2⟩
 ·first|exact fin 0 (by rw [sr];omega) (.inl rfl)|exact ⟨(fin 0 (by rw [sr];omega) (.inl rfl)).1.2,(fin 0 (by rw [sr];omega) (.inl rfl)).2⟩
def tm:PCt
 |[.agg [.int .u64 hi,.int .u64 lo]],_,K=>(0≤hi∧hi<18446744073709551616∧0≤lo∧lo<18446744073709551616)∧K (.int .i64 (bl (vOf hi.toNat lo.toNat):Nat))
 |_,_,_=>False
theorem Ae:EPp 332 tm:=by
 refine Ype fun _ H K h=>?_
 unfold tm at h
 split at h<;>try exact h.elim
 rename_i hi lo
 obtain ⟨⟨h0,h1,h2,h3⟩,hK⟩:=h
 refine ⟨_,hK,?_⟩
 obtain ⟨x,rfl⟩:=dY h0
 obtain ⟨y,rfl⟩:=dY h2
 clear hK h0 h2
 rw [iNq,iNq]
 have hx:x<2^64:=by omega
 have hy:y<2^64:=by omega
 refine Yfu aE (tCq K3 tNq) Tryz.func332 [.tmp 2] fun hcl=>?_
 have b1:bl x≤64:=bl_le.2 hx
 have hw:IntKind.i64.wrap (64+((bl x:Nat):Int))=((64+bl x:Nat):Int):=by rw [wrap_i64]<;>omega
 simp only [go_sem,zav,byq,xu,iNq,hw]
 rw [Qj hy]
 refine eH (fun t=>?_) (fun t=>?_)
 ·have t':x≠0:=by simpa using t
  rw [if_neg t']
  repeat refine ⟨by omega,?_⟩
  exact Z1
 ·have t':x=0:=by simpa using t
  rw [if_pos t']
  repeat refine ⟨by omega,?_⟩
  exact Z1
def isV (hi lo:Int):Prop:=0≤hi∧hi<18446744073709551616∧0≤lo∧lo<18446744073709551616
def uO:PCt
 |[.agg [.int .u64 hi,.int .u64 lo],.int .i64 n],_,K=>(isV hi lo∧n<9223372036854775808)∧K (vv (vOf hi.toNat lo.toNat >>> n.toNat))
 |_,_,_=>False
theorem EG:EPp 352 uO:=by
 refine Ype fun _ H K h=>?_
 unfold uO at h
 split at h<;>try exact h.elim
 rename_i hi lo n
 obtain ⟨⟨⟨h0,h1,h2,h3⟩,hn⟩,hK⟩:=h
 refine ⟨_,hK,?_⟩
 obtain ⟨x,rfl⟩:=dY h0
 obtain ⟨y,rfl⟩:=dY h2
 clear hK h0 h2
 rw [iNq,iNq]
 have hx:x<2^64:=by omega
 have hy:y<2^64:=by omega
 refine Yfu aE tNq Tryz.func352 [.cell 4 106] fun hcl=>?_
 simp only [go_sem,zav,byq]
 refine eH (fun t=>?_) (fun t=>eH (fun s=>?_) (fun s=>?_))
 ·have t':n.toNat=0:=by simp at t;omega
  rw [t',Nat.shiftRight_zero,Bn hy]
  exact Z1
 ·simp at t s
  obtain ⟨m,rfl⟩:∃ m:Nat,n=m+64:=⟨(n - 64).toNat,by omega⟩
  have e1:IntKind.i64.wrap ((m:Int)+64 - 64)=m:=by rw [wrap_i64]<;>omega
  have e2:IntKind.u64.wrap (m:Int)=m:=by rw [jP]<;>omega
  have e3:((m:Int)+64).toNat=m+64:=by omega
  have e4:vv (vOf x y >>> (m+64))=.agg [.int .u64 0,.int .u64 ((x >>> m:Nat):Int)]:=by
   rw [Do x y _ hy hx (by omega),Nat.add_sub_cancel]
   have:=Bn (hi:=0) (lo:=x >>> m) (pi hx)
   simpa [vOf] using this
  rw [e3,e4,e1,e2,lB x m hx]
  repeat refine ⟨by omega,?_⟩
  exact Z1
 ·simp at t s
  obtain ⟨m,rfl⟩:∃ m:Nat,n=m:=⟨n.toNat,by omega⟩
  have hm:m<64:=by omega
  have e1:IntKind.i64.wrap (64 - (m:Int))=((64 - m:Nat):Int):=by rw [wrap_i64]<;>omega
  have e2:IntKind.u64.wrap (m:Int)=m:=by rw [jP]<;>omega
  have e3:IntKind.u64.wrap ((64 - m:Nat):Int)=((64 - m:Nat):Int):=by rw [jP]<;>omega
  have e4:vv (vOf x y >>> m)=.agg [.int .u64 ((x >>> m:Nat):Int),.int .u64 (((y >>> m ||| (x <<< (64 - m)) % 2^64:Nat)):Int)]:=by
   unfold vv
   rw [HG x y m hy,Ju x y m hy hm]
  rw [e1,e2,e3,iNq,e4,lB x m hx,lB y m hy,yQ,xO _ _ (pi hy) (Nat.mod_lt _ (by decide))]
  repeat refine ⟨by omega,?_⟩
  exact Z1
theorem wv {n:Nat}:List.replicate n (AV.int .u8 0)=bys (List.replicate n 0):=by simp [bys,bH]
theorem RA (a:Nat):UInt8.ofNat (((a % 2^64:Nat):Int) % 256).toNat=UInt8.ofNat a:=by
 rw [UInt8.ofNat_eq_iff_mod_eq_toNat,UInt8.toNat_ofNat']
 omega
def j7 (l:List UInt8) (k:Nat):List UInt8:=l.take k++List.replicate (l.length - k) 0
theorem zS (l:List UInt8):j7 l 0=List.replicate l.length 0:=by simp [j7]
theorem AZ (l:List UInt8):j7 l l.length=l:=by simp [j7]
theorem tM (l:List UInt8) (k:Nat) (h:k≤l.length):(j7 l k).length=l.length:=by simp [j7];omega
theorem yY (l:List UInt8) (k:Nat) (h:k<l.length):(j7 l k).take k++[l[k]]++(j7 l k).drop (k+1)=j7 l (k+1):=by
 unfold j7
 have e1:(l.take k).length=k:=by simp;omega
 rw [List.take_append_of_le_length (by omega),ybd,ybc (by omega),e1,List.drop_of_length_le (by omega),yak,List.drop_replicate,List.take_succ_eq_append_getElem h,Nat.add_sub_cancel_left]
 rfl
def Ah:PCt
 |[.agg [.int .u64 hi,.int .u64 lo]],_,K=>isV hi lo∧K (.agg (bys (beN (vOf hi.toNat lo.toNat) 16)))
 |_,_,_=>False
theorem NJ:EPp 351 Ah:=by
 refine Ype fun _ H K h=>?_
 unfold Ah at h
 split at h<;>try exact h.elim
 rename_i hi lo
 obtain ⟨⟨h0,h1,h2,h3⟩,hK⟩:=h
 refine ⟨_,hK,?_⟩
 obtain ⟨x,rfl⟩:=dY h0
 obtain ⟨y,rfl⟩:=dY h2
 clear hK h0 h2
 rw [iNq,iNq]
 have hx:x<2^64:=by omega
 have hy:y<2^64:=by omega
 refine Yfu aE (tCq EG tNq) Tryz.func351 [.cell 2 361] fun hcl=>?_
 have hv:=n9 hx hy
 generalize hvo:vOf x y=v at hv ⊢
 simp only [go_sem,byq,wv]
 refine iW (A:=Nat) (fun k=>[(5,.int .i64 (k:Int)),(3,.ptr (H.nx+1+1) 0),(1,.ptr H.nx 0),(2,.ptr (H.nx+1) 0)])
  (fun k=>((H.push (.cells [.int .u64 (x:Int),.int .u64 (y:Int)])).push (.cells (bys (List.replicate 16 0)))).push (.cells (bys (j7 (beN v 16) k)))) (fun k=>k≤16) (fun k=>16 - k) 0 (by omega) ?_ fun k hk=>?_
 ·simp only [bnq,enter,lK,ltF,ne_eq,Nat.reduceEqDiff,reduceCtorEq,zS,gm,true_or,and_true]
  all_goals rfl
 refine Tq56 ?_
 refine au (fun hc=>?_) (fun hc=>?_)
 ·have hk:k<16:=sHc
  have e1:IntKind.i64.wrap (15 - (k:Int))=((15 - k:Nat):Int):=by rw [wrap_i64]<;>omega
  have e2:IntKind.i64.wrap (8*((15 - k:Nat):Int))=((8*(15 - k):Nat):Int):=by rw [wrap_i64]<;>omega
  have e3:IntKind.i64.wrap ((k:Int)+1)=((k+1:Nat):Int):=by rw [wrap_i64]<;>omega
  simp only [go_sem,byq,e1,e2,e3,uO,isV,vv,iNq,hvo,xL,RA,nzq,zlq]
  have hs:splice (bys (j7 (beN v 16) k)) k (bys [UInt8.ofNat (v >>> (8*(15 - k)))])=bys (j7 (beN v 16) (k+1)):=by
   rw [zmq (by rw [tM _ _ (by rw [gm];omega),gm];simp;omega),← yY _ _ (by rw [gm];exact hk)]
   simp [beN]
  rw [tM _ _ (by rw [gm];omega),gm,hs]
  refine ⟨by omega,by omega,by omega,k+1,by omega,by omega,?_⟩
  exact Z2
 ·have hk:k=16:=sHc
  subst hk
  have ef:j7 (beN v 16) 16=beN v 16:=by have:=AZ (beN v 16);rwa [gm] at this
  have h16:(bys (beN v 16)).length=16:=by rw [zlk,gm]
  have e0:splice (bys (List.replicate 16 0)) 0 (bys (beN v 16))=bys (beN v 16):=by
   rw [zmq (by simp [gm])];simp [gm]
  have et:List.take 16 (beN v 16)=beN v 16:=ybc (by rw [gm];omega)
  simp only [go_sem,byq,ef,gm,et,e0]
  refine ⟨by simp,?_⟩
  exact Z1
def sw:PCt
 |[.agg [.int .u64 hi,.int .u64 lo]],_,K=>isV hi lo∧K (.slice .any 1 (bys (l7 (vOf hi.toNat lo.toNat))))
 |_,_,_=>False
theorem Ax:EPp 347 sw:=by
 refine Ype fun _ H K h=>?_
 unfold sw at h
 split at h<;>try exact h.elim
 rename_i hi lo
 obtain ⟨⟨h0,h1,h2,h3⟩,hK⟩:=h
 refine ⟨_,hK,?_⟩
 obtain ⟨x,rfl⟩:=dY h0
 obtain ⟨y,rfl⟩:=dY h2
 clear hK h0 h2
 rw [iNq,iNq]
 have hx:x<2^64:=by omega
 have hy:y<2^64:=by omega
 refine Yfu aE (tCq NJ (tCq Ae tNq)) Tryz.func347 [.tmp 2] fun hcl=>?_
 have hv:=n9 hx hy
 generalize hvo:vOf x y=v at hv ⊢
 have b1:bl v≤128:=bl_le.2 hv
 have w1:IntKind.i64.wrap (((bl v:Nat):Int)+7)=((bl v+7:Nat):Int):=by rw [wrap_i64]<;>omega
 have w2:IntKind.i64.wrap (((bl v+7:Nat):Int).tdiv 8)=(((bl v+7)/8:Nat):Int):=by
  exact Y138
 have w3:max (1:Int) (((bl v+7)/8:Nat):Int)=(jq v:Nat):=by unfold jq;omega
 have hle:=re hv
 have w4:IntKind.i64.wrap (16 - ((jq v:Nat):Int))=((16 - jq v:Nat):Int):=by rw [wrap_i64]<;>omega
 have e0:splice (bys (List.replicate 16 0)) 0 (bys (beN v 16))=bys (beN v 16):=by
  rw [zmq (by simp [gm])];simp [gm]
 have e5:((16:Nat):Int) - ((16 - jq v:Nat):Int)=((jq v:Nat):Int):=by omega
 have e6:dJ 1 (jq v) (bys ((beN v 16).drop (16 - jq v)))=bys (l7 v):=by
  rw [H5 v 16 _ hle,zmr (by rw [gm];exact nrq _),ybc (by rw [gm];exact nrq _)];rfl
 have e7:(l7 v).length=jq v:=gm _ _
 simp only [go_sem,zav,byq,Ah,tm,isV,iNq,hvo,w1,w2,w3,w4,wv,gm,e0,e5,e6,e7,List.length_replicate]
 refine ⟨by omega,by omega,by decide,by omega,by omega,?_⟩
 exact Z1
theorem OV:ti Tryz.prog 312=some ⟨.array 128 4,128,128,.agg (List.replicate 128 (.bool false))⟩:=krf
attribute [go_sem] OV
def qY:PCt
 |[.agg [.int .u64 hi,.int .u64 lo]],_,K=>isV hi lo∧K (.agg (bits (vOf hi.toNat lo.toNat)))
 |_,_,_=>False
theorem uM:EPp 286 qY:=by
 refine Ype fun _ H K h=>?_
 unfold qY at h
 split at h<;>try exact h.elim
 rename_i hi lo
 obtain ⟨⟨h0,h1,h2,h3⟩,hK⟩:=h
 refine ⟨_,hK,?_⟩
 obtain ⟨x,rfl⟩:=dY h0
 obtain ⟨y,rfl⟩:=dY h2
 clear hK h0 h2
 rw [iNq,iNq]
 have hx:x<2^64:=by omega
 have hy:y<2^64:=by omega
 refine Yfu aE tNq Tryz.func286 [.cell 2 312] fun hcl=>?_
 have hv:=n9 hx hy
 have blo:∀ i,i<64→y.testBit i=(vOf x y).testBit i:=fun i hi=>by rw [pK hy,if_pos hi]
 have bhi:∀ i,x.testBit i=(vOf x y).testBit (i+64):=fun i=>by rw [pK hy,if_neg (by omega),Nat.add_sub_cancel]
 generalize hvo:vOf x y=v at hv blo bhi ⊢
 refine Tq56 ?_
 refine iW (A:=Nat) (fun k=>[(4,.int .i64 (k:Int)),(3,.ptr (H.nx+1+1) 0),(1,.ptr H.nx 0),(2,.ptr (H.nx+1) 0)])
  (fun k=>((H.push (.cells [.int .u64 (x:Int),.int .u64 (y:Int)])).push (.cells (List.replicate 128 (.bool false)))).push (.cells (j9 v fun j=>decide (j % 64<k)))) (fun k=>k≤64) (fun k=>64 - k) 0 (by omega) ?_ fun k hk=>?_
 ·have e:j9 v (fun j=>decide (j % 64<0))=List.replicate 128 (.bool false):=zI _ _ fun j _=>by simp
  simp only [bnq,enter,lK,ltF,ne_eq,Nat.reduceEqDiff,reduceCtorEq,e,true_or,and_true]
  all_goals rfl
 refine Tq56 ?_
 refine au (fun hc=>?_) (fun hc=>?_)
 ·have hk:k<64:=sHc
  have e1:IntKind.i64.wrap ((k:Int)+64)=((k+64:Nat):Int):=by rw [wrap_i64]<;>omega
  have e2:IntKind.u64.wrap (k:Int)=(k:Int):=by rw [jP]<;>omega
  have e3:IntKind.i64.wrap ((k:Int)+1)=((k+1:Nat):Int):=by rw [wrap_i64]<;>omega
  have s1:y >>> k<2^64:=pi hy
  have s2:x >>> k<2^64:=pi hx
  simp only [go_sem,byq,e1,e2,e3,lB y k hy,lB x k hx,zF _ s1,zF _ s2,Mk,iNq,nzq,j0,Ag,blo k hk,bhi k,List.length_set]
  have hst:((j9 v fun j=>decide (j % 64<k)).set k (.bool (v.testBit k))).set (k+64) (.bool (v.testBit (k+64)))=j9 v fun j=>decide (j % 64<k+1):=by
   rw [t9 v _ (fun j=>decide (j % 64<k)||decide (j=k)) k (fun j hj=>by simp [hj]) (by simp),
    t9 v _ (fun j=>decide (j % 64<k)||decide (j=k)||decide (j=k+64)) (k+64) (fun j hj=>by simp [hj]) (by simp)]
   unfold j9
   refine List.map_congr_left fun j hj=>?_
   have:j<128:=List.mem_range.1 hj
   congr 2
   rw [Bool.eq_iff_iff];simp;omega
  refine ⟨by omega,by omega,by omega,by omega,by omega,by omega,k+1,by omega,by omega,?_⟩
  simp only [bnq,enter,lK,ltF,ne_eq,Nat.reduceEqDiff,reduceCtorEq,hst,true_or,and_self]
 ·have hk:k=64:=sHc
  subst hk
  have e:j9 v (fun j=>decide (j % 64<64))=bits v:=AF _ _ fun j _=>by simp;omega
  have et:List.take 128 (bits v)=bits v:=ybc (by rw [gf];omega)
  have es:splice (List.replicate 128 (.bool false)) 0 (bits v)=bits v:=kX (y:=.junk) (gf v)
  simp only [go_sem,byq,e,et,es,gf,mP]
  refine ⟨by simp,?_⟩
  simp (disch:=first|exact Zd|omega) [↓zmo,beq,ybc,ybd,ybe,ag,wk,wk2,wk1,wkM,wkL,ay,ybf,hcl,Hh]
def ye:PCt
 |[.agg [.int .u64 hi,.int .u64 lo]],_,K=>isV hi lo∧K (.int .i64 (bl (vOf hi.toNat lo.toNat):Nat))
 |_,_,_=>False
theorem CP:EPp 285 ye:=by
 refine Ype fun _ H K h=>?_
 unfold ye at h
 split at h<;>try exact h.elim
 rename_i hi lo
 obtain ⟨⟨h0,h1,h2,h3⟩,hK⟩:=h
 refine ⟨_,hK,?_⟩
 obtain ⟨x,rfl⟩:=dY h0
 obtain ⟨y,rfl⟩:=dY h2
 clear hK h0 h2
 rw [iNq,iNq]
 have hx:x<2^64:=by omega
 have hy:y<2^64:=by omega
 refine Yfu aE (tCq uM tNq) Tryz.func285 [.tmp 2] fun hcl=>?_
 have hv:=n9 hx hy
 generalize hvo:vOf x y=v at hv ⊢
 refine Tq56 ?_
 refine iW (A:=Nat) (fun k=>[(3,.int .i64 ((k:Int) - 1)),(1,.ptr H.nx 0)])
  (fun k=>(H.push (.cells [.int .u64 (x:Int),.int .u64 (y:Int)]))) (fun k=>k≤128∧∀ j,k≤j→v.testBit j=false) (fun k=>k) 128 ⟨by omega,fun j hj=>Nat.testBit_lt_two_pow (Nat.lt_of_lt_of_le hv (Nat.pow_le_pow_right (by decide) hj))⟩ ?_ fun k hk=>?_
 ·simp only [bnq,enter,lK,ltF,ne_eq,Nat.reduceEqDiff,reduceCtorEq,true_or,and_true]
  all_goals rfl
 obtain ⟨hk,hz⟩:=hk
 refine Tq56 ?_
 refine au (fun hc=>?_) (fun hc=>?_)
 ·have hk0:1≤k:=sHc
  obtain ⟨j,rfl⟩:∃ j,k=j+1:=⟨k - 1,by omega⟩
  have e0:((j+1:Nat):Int) - 1=(j:Int):=by omega
  have e1:IntKind.i64.wrap ((j:Int) - 1)=(j:Int) - 1:=by rw [wrap_i64]<;>omega
  have e2:IntKind.i64.wrap ((j:Int)+1)=((j+1:Nat):Int):=by rw [wrap_i64]<;>omega
  simp only [go_sem,byq,qY,isV,iNq,hvo,gf,e0,Nat.mul_one,oT v j (by omega)]
  refine ⟨by omega,by omega,au (fun hb=>?_) (fun hb=>?_)⟩
  ·simp only [go_sem,zav,byq,e2]
   rw [P1 hb fun i hi=>hz i (by omega)]
   exact Z1
  ·simp only [go_sem,byq,e1]
   refine ⟨j,⟨by omega,fun i hi=>?_⟩,by omega,?_⟩
   ·by_cases h:i=j
    ·subst h;exact hb
    ·exact hz i (by omega)
   ·exact Z2
 ·have hk0:k=0:=sHc
  subst hk0
  have:v=0:=AE fun j=>hz j (by omega)
  subst this
  refine Tq56 ?_
  simp (disch:=first|exact Zd|omega) [↓zmo,beq,ybc,ybd,ybe,ag,wk,wk2,wk1,wkM,wkL,ay,ybf,hcl,bl]
def r6:PCt
 |[.agg [.int .u64 hi,.int .u64 lo]],_,K=>isV hi lo∧K (.slice .any 1 (bys (l7 (vOf hi.toNat lo.toNat))))
 |_,_,_=>False
theorem BF:EPp 345 r6:=by
 refine Ype fun _ H K h=>?_
 unfold r6 at h
 split at h<;>try exact h.elim
 rename_i hi lo
 obtain ⟨⟨h0,h1,h2,h3⟩,hK⟩:=h
 refine ⟨_,hK,?_⟩
 obtain ⟨x,rfl⟩:=dY h0
 obtain ⟨y,rfl⟩:=dY h2
 clear hK h0 h2
 rw [iNq,iNq]
 have hx:x<2^64:=by omega
 have hy:y<2^64:=by omega
 refine Yfu aE (tCq uM (tCq CP tNq)) Tryz.func345 [.tmp 2] fun hcl=>?_
 have hv:=n9 hx hy
 generalize hvo:vOf x y=v at hv ⊢
 have b1:bl v≤128:=bl_le.2 hv
 have w1:IntKind.i64.wrap (((bl v:Nat):Int)+7)=((bl v+7:Nat):Int):=by rw [wrap_i64]<;>omega
 have w2:IntKind.i64.wrap (((bl v+7:Nat):Int).tdiv 8)=(((bl v+7)/8:Nat):Int):=by
  exact Y138
 have w3:max (1:Int) (((bl v+7)/8:Nat):Int)=(jq v:Nat):=by unfold jq;omega
 have hle:=re hv
 have hlen:=bl_le.1 (show bl v≤8*jq v by unfold jq;omega)
 have hvb:l7 v=beN v (jq v):=rfl
 rw [hvb]
 generalize hn:jq v=n at *
 have es:splice (List.replicate 128 (.bool false)) 0 (bits v)=bits v:=kX (y:=.junk) (gf v)
 simp only [go_sem,byq,qY,ye,isV,iNq,hvo,w1,w2,w3,es,gf,mP,List.length_replicate]
 refine ⟨by omega,by omega,by decide,by omega,?_⟩
 refine iW (A:=Nat) (fun k=>[(6,.int .i64 (k:Int)),(5,.ms (H.nx+1+1+1) 0 1 n),(4,.int .i64 (n:Int)),(3,.ptr (H.nx+1+1) 0)])
  (fun k=>(((H.push (.cells [.int .u64 (x:Int),.int .u64 (y:Int)])).push (.buf 1 0)).push (.cells (bits v))).push (.cells (bys (jB v n k)))) (fun k=>k≤8*n) (fun k=>8*n - k) 0 (by omega) ?_ fun k hk=>?_
 ·simp only [bnq,enter,lK,ltF,ne_eq,Nat.reduceEqDiff,reduceCtorEq,BS,true_or,and_true]
  all_goals rfl
 have w4:IntKind.i64.wrap (8*(n:Int))=((8*n:Nat):Int):=by rw [wrap_i64]<;>omega
 simp only [go_sem,byq,w4]
 refine au (fun hc=>?_) (fun hc=>?_)
 ·have hk:k<8*n:=sHc
  have e1:IntKind.i64.wrap ((k:Int)+1)=((k+1:Nat):Int):=by rw [wrap_i64]<;>omega
  have e2:IntKind.i64.wrap ((n:Int) - 1)=((n - 1:Nat):Int):=by rw [wrap_i64]<;>omega
  have e3:IntKind.i64.wrap ((k:Int).tdiv 8)=((k/8:Nat):Int):=by
   exact Y138
  have e4:IntKind.i64.wrap (((n - 1:Nat):Int) - ((k/8:Nat):Int))=((n - 1 - k/8:Nat):Int):=by rw [wrap_i64]<;>omega
  have e5:(k:Int).tmod 8=((k % 8:Nat):Int):=by rw [Int.tmod_eq_emod_of_nonneg (by omega)];omega
  have e6:IntKind.u64.wrap ((k % 8:Nat):Int)=((k % 8:Nat):Int):=by rw [jP]<;>omega
  have e7:rS .u8 1 ((k % 8:Nat):Int)=((1 <<< (k % 8) % 256:Nat):Int):=OC 1 _ (by omega)
  have hkb:k<128:=by omega
  simp only [go_sem,byq,e1,iNq,gf,Nat.mul_one,nzq,oT v k hkb]
  refine ⟨by omega,by omega,au (fun hb=>?_) (fun hb=>?_)⟩
  ·have g1:(bys (jB v n k)).getD (n - 1 - k/8) .junk=bH ((jB v n k).getD (n - 1 - k/8) 0):=tr (by rw [sv];omega)
   have g2:ior .u8 ((((jB v n k).getD (n - 1 - k/8) 0).toNat:Nat):Int) ((1 <<< (k % 8) % 256:Nat):Int)=_:=Qk _ _ (UInt8.toNat_lt _) (by omega)
   have g3:((jB v n k).getD (n - 1 - k/8) 0).toNat ||| 1 <<< (k % 8) % 256<256:=Nat.or_lt_two_pow (n:=8) (UInt8.toNat_lt _) (by omega)
   simp only [go_sem,byq,e1,e2,e3,e4,e5,e6,e7,iNq,Nat.mul_one,nzq,sv,g1,bH,g2]
   simp only [rP g3,y9,DL v n k hb hk]
   refine ⟨by decide,by omega,by omega,by decide,by omega,by omega,by omega,k+1,by omega,by omega,?_⟩
   exact Z2
  ·simp only [go_sem,byq,e1]
   refine ⟨k+1,by omega,by omega,?_⟩
   simp only [bnq,enter,lK,ltF,ne_eq,Nat.reduceEqDiff,reduceCtorEq,BO v n k hb,true_or,and_self]
 ·have hk:k=8*n:=sHc
  subst hk
  simp only [go_sem,byq,DG v n hlen]
  have hl:(beN v n).length=n:=gm v n
  simp (disch:=first|exact Zd|omega) [↓zmo,beq,ybc,ybd,ybe,ag,wk,wk2,wk1,wkM,wkL,ay,ybf,hcl,hl]
def kG (v:Nat):List UInt8:=UInt8.ofNat (jq v)::l7 v
theorem md (v:Nat):(l7 v).length=jq v:=gm _ _
def mY:PCt
 |[.slice _ 1 l,.agg [.int .u64 hi,.int .u64 lo]],_,K=>(isV hi lo∧isB l∧l.length≤140737488000000)∧K (.slice .any 1 (bys (unb l++kG (vOf hi.toNat lo.toNat))))
 |_,_,_=>False
theorem uH:EPp 340 mY:=by
 refine Ype fun _ H K h=>?_
 unfold mY at h
 split at h<;>try exact h.elim
 rename_i m l hi lo
 obtain ⟨⟨⟨h0,h1,h2,h3⟩,c1,hle⟩,hK⟩:=h
 refine ⟨_,hK,?_⟩
 obtain ⟨x,rfl⟩:=dY h0
 obtain ⟨y,rfl⟩:=dY h2
 obtain ⟨xs,rfl⟩:=iu c1
 clear hK h0 h2
 simp only [zlz,zlk] at *
 rw [iNq,iNq]
 have hx:x<2^64:=by omega
 have hy:y<2^64:=by omega
 refine Yfu aE (tCq pU (tCq Ax tNq)) Tryz.func340 [.tmp 4] fun hcl=>?_
 have hv:=n9 hx hy
 have hvl:=re hv
 generalize hvo:vOf x y=v at hv hvl ⊢
 have w1:IntKind.u8.wrap ((jq v:Nat):Int)=((jq v:Nat):Int):=by rw [mL];omega
 have w2:AV.int .u8 ((jq v:Nat):Int)=bH (UInt8.ofNat (jq v)):=rP (by omega)
 have w3:UInt8.ofNat (jq v)::l7 v=kG v:=rfl
 simp only [go_sem,zav,byq,nw,sw,isV,iNq,hvo,md,w1,w2]
 refine ⟨by omega,by omega,by first|omega|(simp only [lAq,yaz,yba,md];omega),?_⟩
 have w4:UInt8.ofNat (jq v)::l7 v=kG v:=rfl
 have w5:[UInt8.ofNat (jq v)]++l7 v=kG v:=rfl
 first|rw [w4]|rw [w5]
 exact Z1
def vD:ECt
 |[.slice (.own id) 1 l,.agg [.int .u64 hi,.int .u64 lo]],H,K=>(isV hi lo∧isB l∧l.length≤140737488000000∧H.get id=some (.buf 1 l.length)) ∧
   K (.ret (.slice (.own id) 1 (bys (unb l++kG (vOf hi.toNat lo.toNat))))) (H.set id (.buf 1 (l.length+(kG (vOf hi.toNat lo.toNat)).length)))
 |_,_,_=>False
theorem DF:EEe 335 vD:=by
 refine Yef fun _ H K h=>?_
 unfold vD at h
 split at h<;>try exact h.elim
 rename_i id l hi lo
 obtain ⟨⟨⟨h0,h1,h2,h3⟩,c1,hle,hid⟩,hK⟩:=h
 refine ⟨_,_,hK,?_⟩
 obtain ⟨x,rfl⟩:=dY h0
 obtain ⟨y,rfl⟩:=dY h2
 obtain ⟨xs,rfl⟩:=iu c1
 clear hK h0 h2
 simp only [zlz,zlk] at *
 rw [iNq,iNq]
 have hx:x<2^64:=by omega
 have hy:y<2^64:=by omega
 have hl0:=glq hid
 have hne:=cN hl0
 refine Yfu aE (tCq BF tNq) Tryz.func335 [.tmp 4] fun hcl=>?_
 have hv:=n9 hx hy
 have hvl:=re hv
 generalize hvo:vOf x y=v at hv hvl ⊢
 have w1:IntKind.u8.wrap ((jq v:Nat):Int)=((jq v:Nat):Int):=by rw [mL];omega
 have w2:AV.int .u8 ((jq v:Nat):Int)=bH (UInt8.ofNat (jq v)):=rP (by omega)
 have w3:xs++[UInt8.ofNat (jq v)]++l7 v=xs++kG v:=by simp [kG]
 have w4:xs.length+(kG v).length=xs.length+1+jq v:=by simp [kG,md];omega
 rw [w4]
 simp only [go_sem,zav,byq,r6,isV,iNq,hvo,md,w1,w2,hne,hid,aI,if_pos hl0]
 have w5:(xs++[UInt8.ofNat (jq v)]).length=xs.length+1:=by simp
 rw [w5,w3]
 refine ⟨by omega,by omega,by simp;omega,?_⟩
 have hcs:(H.set id (.buf 1 (xs.length+1+jq v))).Closed:=bh hcl
 simp (disch:=first|exact Zd|omega) [↓zmo,beq,ybc,ybd,ybe,ag,wk,wk2,wk1,wkM,wkL,ay,ybf,hcs]
 exact hl0
theorem eS (n w:Int):(iP n w).length≤4:=by
 unfold iP;split
 ·rw [nN];omega
 ·simp
theorem Fa:ti Tryz.prog 323=some ⟨.struct [(0,22,false),(1,40,false)],2,32,.agg [.slice .nil 1 [],.int .i64 0]⟩:=krf
theorem Gk:ti Tryz.prog 40=some ⟨.int .i64,1,8,.int .i64 0⟩:=krf
theorem Ao:ti Tryz.prog 247=some ⟨.ptr 323,1,8,.nilp⟩:=krf
attribute [go_sem] Fa Gk Ao
def uZ:PCt
 |[.agg l],_,K=>BE l∧K (vv (pn l))
 |_,_,_=>False
theorem El:EPp 287 uZ:=by
 refine Ype fun _ H K h=>?_
 unfold uZ at h
 split at h<;>try exact h.elim
 rename_i l
 obtain ⟨c1,hK⟩:=h
 refine ⟨_,hK,?_⟩
 obtain ⟨v,rfl,hv⟩:=Ba c1
 clear hK c1
 rw [mI hv]
 have v1:vv v=.agg [.int .u64 ((v/2^64:Nat):Int),.int .u64 ((v % 2^64:Nat):Int)]:=rfl
 have hbl:∀ i,i<64→(v % 2^64).testBit i=v.testBit i:=fun i hi=>by rw [Nat.testBit_mod_two_pow];simp [hi]
 have hbh:∀ i,(v/2^64).testBit i=v.testBit (i+64):=fun i=>by rw [Nat.testBit_div_two_pow]
 have hx:v/2^64<2^64:=by omega
 have hy:v % 2^64<2^64:=by omega
 rw [v1]
 generalize v/2^64=x at *
 generalize v % 2^64=y at *
 clear v1
 refine Yfu aE tNq Tryz.func287 [.cell 2 106] fun hcl=>?_
 refine Tq56 ?_
 refine iW (A:=Nat) (fun k=>[(4,.int .i64 (k:Int)),(3,.ptr (H.nx+1+1) 0),(1,.ptr H.nx 0),(2,.ptr (H.nx+1) 0)])
  (fun k=>((H.push (.cells (bits v))).push (.cells [.int .u64 0,.int .u64 0])).push (.cells [.int .u64 ((x % 2^k:Nat):Int),.int .u64 ((y % 2^k:Nat):Int)])) (fun k=>k≤64) (fun k=>64 - k) 0 (by omega) ?_ fun k hk=>?_
 ·simp only [bnq,enter,lK,ltF,ne_eq,Nat.reduceEqDiff,reduceCtorEq,Nat.pow_zero,Nat.mod_one,true_or,and_true]
 refine Tq56 ?_
 refine au (fun hc=>?_) (fun hc=>?_)
 ·have hk:k<64:=sHc
  have e1:IntKind.i64.wrap ((k:Int)+64)=((k+64:Nat):Int):=by rw [wrap_i64]<;>omega
  have e2:IntKind.u64.wrap (k:Int)=(k:Int):=by rw [jP]<;>omega
  have e3:IntKind.i64.wrap ((k:Int)+1)=((k+1:Nat):Int):=by rw [wrap_i64]<;>omega
  have g1:=oT v k (by omega)
  have g2:=oT v (k+64) (by omega)
  have e4:rS .u64 1 (k:Int)=(((1 <<< k) % 2^64:Nat):Int):=yQ 1 k
  have lx:x % 2^k<2^64:=Nat.lt_of_le_of_lt (Nat.mod_le _ _) hx
  have ly:y % 2^k<2^64:=Nat.lt_of_le_of_lt (Nat.mod_le _ _) hy
  have l1:(1 <<< k) % 2^64<2^64:=Nat.mod_lt _ (by decide)
  have o1:=xO _ _ lx l1
  have o2:=xO _ _ ly l1
  have hb1:=hbl k hk
  have hb2:=hbh k
  by_cases c1:v.testBit k=true<;>by_cases c2:v.testBit (k+64)=true
  ·rw [c1] at hb1 g1;rw [c2] at hb2 g2
   rw [tp x k hk hb2] at o1
   rw [tp y k hk hb1] at o2
   simp only [go_sem,zav,byq,e1,e2,e3,e4,iNq,nzq,Nat.mul_one,gf,g1,g2,o1,o2]
   refine ⟨by omega,by omega,by omega,by omega,by omega,by omega,k+1,by omega,by omega,?_⟩
   exact Z2
  ·have c2:v.testBit (k+64)=false:=by simpa using c2
   rw [c1] at hb1 g1;rw [c2] at hb2 g2
   have o1:=pC x k hb2
   rw [tp y k hk hb1] at o2
   simp only [go_sem,zav,byq,e1,e2,e3,e4,iNq,nzq,Nat.mul_one,gf,g1,g2,o2]
   refine ⟨by omega,by omega,by omega,by omega,by omega,k+1,by omega,by omega,?_⟩
   simp only [bnq,enter,lK,ltF,ne_eq,Nat.reduceEqDiff,reduceCtorEq,o1,true_or,and_self]
  ·have c1:v.testBit k=false:=by simpa using c1
   rw [c1] at hb1 g1;rw [c2] at hb2 g2
   have o2:=pC y k hb1
   rw [tp x k hk hb2] at o1
   simp only [go_sem,zav,byq,e1,e2,e3,e4,iNq,nzq,Nat.mul_one,gf,g1,g2,o1]
   refine ⟨by omega,by omega,by omega,by omega,by omega,k+1,by omega,by omega,?_⟩
   simp only [bnq,enter,lK,ltF,ne_eq,Nat.reduceEqDiff,reduceCtorEq,o2,true_or,and_self]
  ·have c1:v.testBit k=false:=by simpa using c1
   have c2:v.testBit (k+64)=false:=by simpa using c2
   rw [c1] at hb1 g1;rw [c2] at hb2 g2
   have o1:=pC x k hb2
   have o2:=pC y k hb1
   simp only [go_sem,zav,byq,e1,e2,e3,e4,iNq,nzq,Nat.mul_one,gf,g1,g2]
   refine ⟨by omega,by omega,by omega,by omega,k+1,by omega,by omega,?_⟩
   simp only [bnq,enter,lK,ltF,ne_eq,Nat.reduceEqDiff,reduceCtorEq,o1,o2,true_or,and_self]
 ·have hk:k=64:=sHc
  subst hk
  have m1:x % 2^64=x:=Nat.mod_eq_of_lt hx
  have m2:y % 2^64=y:=Nat.mod_eq_of_lt hy
  simp only [go_sem,byq,m1,m2]
  exact Z1
end Go.AL
