/- Contracts and plain laws, a part of the proof; no condition of its own. -/
import Derived.Test.YtiiiljghmilepaaGreatS10z
import Derived.Test.YtiiiljghmilepaaGreatAlBun
open List renaming length_cons → yaz, length_nil → yba, take_of_length_le → ybc, drop_append → ybd, take_append → ybe, drop_eq_nil_of_le → ybf, map_cons → yae, map_nil → yaf, append_nil → yaj, drop_zero → yap
open Go Go.AL Go.Proofs
namespace Go.AL
set_option linter.all false
set_option maxRecDepth 10000
theorem Es:ti Tryz.prog 22=some ⟨.slice 5,1,24,.slice .nil 1 []⟩:=by kernel_rfl
theorem Hg:ti Tryz.prog 3=some ⟨.int .i64,1,8,.int .i64 0⟩:=by kernel_rfl
theorem Ga:ti Tryz.prog 239=some ⟨.int .u64,1,8,.int .u64 0⟩:=by kernel_rfl
theorem HK:ti Tryz.prog 5=some ⟨.int .u8,1,1,.int .u8 0⟩:=by kernel_rfl
theorem Fs:ti Tryz.prog 4=some ⟨.bool,1,1,.bool false⟩:=by kernel_rfl
theorem Bf:ti Tryz.prog 9=some ⟨.string,1,16,.str []⟩:=by kernel_rfl
attribute [go_sem] Es Hg Ga HK Fs Bf
/-- wire.joined -/
def lI:List AV→AHeap→(AV→Prop)→Prop
 |[.slice _ 1 l1,.slice _ 1 l2],_,K=>(isB l1∧isB l2∧l1.length+l2.length≤140737488355328)∧K (.slice .any 1 (bys (unb l1++unb l2)))
 |_,_,_=>False
theorem mQ:EntOk Tryz.prog 249 (Ent.pure lI):=by
 refine EntOk.pure fun args H K h=>?_
 unfold lI at h
 split at h
 rotate_left
 ·exact h.elim
 rename_i m1 l1 m2 l2
 obtain ⟨⟨c1,c2,hle⟩,hK⟩:=h
 refine ⟨_,hK,?_⟩
 obtain ⟨xs,rfl⟩:=dO c1
 obtain ⟨ys,rfl⟩:=dO c2
 simp only [zlt]
 rw [zle,zle] at hle
 refine ACalls.of_aw (Ω:=[]) (T:=ay []) aB TblOk.nil Tryz.func249 (by kernel_rfl) (by rfl) (rs:=[.tmp 4]) (by rfl) (by kernel_rfl) (by simp only [Tryz.ntmps249,yaz,yba];decide) (Nat.le_refl _) fun hcl hlt=>?_
 clear hK hlt
 change aw _ _ _ (KI Tryz.prog [] (oV Tryz.prog [.tmp 4] H.nx (.ret (.slice .any 1 (bys (xs++ys)))) H) []) _ _
 have hw:IntKind.i64.wrap (↑xs.length+↑ys.length)=((xs.length+ys.length:Nat):Int):=by rw [wrap_i64]<;>omega
 have e2:(↑(xs.length+ys.length) - ↑xs.length:Int).toNat=ys.length:=by omega
 simp only [go_sem,zav,byq,hw,e2]
 simp (disch:=first|assumption|omega|(simp;done)|(simp;omega)|(simp only [bt,and_true];first|done|omega|(simp;done))) [↓zmi,beq,ybc,ybd,ybe,al,wk,wk2,wk1,wkM,wkL,aG,ybf,byq,hcl]
 omega
def uS (n:Int) (j:Nat):UInt8:=UInt8.ofNat (qM .i64 n (8*(j:Int)) % 256).toNat
/-- the low bytes of n, the most significant one first: all but the last k of them -/
def lc (n:Int) (w k:Nat):List UInt8:=(List.range (w - k)).map fun i=>uS n (w - 1 - i)
def be (n:Int) (w:Nat):List UInt8:=lc n w 0
theorem qU (n:Int) (w:Nat):lc n w w=[]:=by simp [lc]
theorem nP (n:Int) (w k:Nat):(lc n w k).length=w - k:=by simp [lc]
theorem p4 (n:Int) (w j:Nat) (h:j+1≤w):lc n w (j+1)++[uS n j]=lc n w j:=by
 unfold lc
 have e:w - j=(w - (j+1))+1:=by omega
 rw [e,List.range_succ,List.map_append]
 congr 2
 simp only [yae,yaf]
 congr 2;omega
/-- wire.number -/
def ow:List AV→AHeap→(AEnd→AHeap→Prop)→Prop
 |[.int .i64 n,.int .i64 w],H,K=>(0≤w∧w≤8)∧K (.ret (.slice (.own (H.nx+1)) 1 (bys (be n w.toNat)))) ((H.push (.buf 1 0)).push (.buf 1 w.toNat))
 |_,_,_=>False
theorem tf:EntOk Tryz.prog 250 (Ent.effect ow):=by
 refine EntOk.effect fun args H K h=>?_
 unfold ow at h
 split at h
 rotate_left
 ·exact h.elim
 rename_i n w
 obtain ⟨hw,hK⟩:=h
 refine ⟨_,_,hK,?_⟩
 refine ACalls.of_aw (Ω:=[]) (T:=ay []) aB TblOk.nil Tryz.func250 (by kernel_rfl) (by rfl) (rs:=[.tmp 4]) (by rfl) (by kernel_rfl) (by simp only [Tryz.ntmps250,yaz,yba];decide) (by simp only [zky];omega) fun hcl hlt=>?_
 clear hK hlt
 change aw _ _ _ (KI Tryz.prog [] (oV Tryz.prog [.tmp 4] H.nx _ _) []) _ _
 simp only [go_sem,zav,byq]
 refine eE (A:=Nat) (fun k=>[(6,.int .i64 ((k:Int) - 1)),(5,.slice (.own (H.nx+1)) 1 (bys (lc n w.toNat k))),(0,.int .i64 n)])
  (fun k=>(H.push (.buf 1 0)).push (.buf 1 (w.toNat - k))) (fun k=>k≤w.toNat) (fun k=>k) w.toNat (Nat.le_refl _) ?_ fun k hk=>?_
 ·have ew:IntKind.i64.wrap (w - 1)=w - 1:=by rw [wrap_i64]<;>omega
  simp only [bnq,enter,iz,ltF,ne_eq,Nat.reduceEqDiff,reduceCtorEq,qU,zlf,ew,Nat.sub_self,true_or,and_true]
  congr 1;omega
 simp only [go_sem,byq]
 refine ai (fun hc=>?_) (fun hc=>?_)
 ·have hk0:1≤k:=by simp at hc;omega
  obtain ⟨j,rfl⟩:∃ j,k=j+1:=⟨k - 1,by omega⟩
  have e1:IntKind.i64.wrap (8*(((j+1:Nat):Int) - 1))=8*j:=by rw [wrap_i64]<;>omega
  have e3:IntKind.u64.wrap (8*(j:Int))=8*j:=by rw [fK]<;>omega
  have e4:IntKind.i64.wrap (((j+1:Nat):Int) - 1 - 1)=(j:Int) - 1:=by rw [wrap_i64]<;>omega
  simp only [go_sem,byq,e1,e3,e4,qF,nP]
  have e5:=p4 n w.toNat j hk
  unfold uS at e5
  refine ⟨by omega,⟨by omega,by omega⟩,j,by omega,by omega,?_⟩
  simp only [bnq,enter,iz,ltF,ne_eq,Nat.reduceEqDiff,reduceCtorEq,e5]
  rw [show w.toNat - (j+1)+1=w.toNat - j by omega]
  simp (disch:=first|assumption|omega|(simp;done)|(simp;omega)|(simp only [bt,and_true];first|done|omega|(simp;done))) [↓zmi,beq,ybc,ybd,ybe,al,wk,wk2,wk1,wkM,wkL,aG,ybf]
  exact .inr (by omega)
 ·have hk0:k=0:=by simp at hc;omega
  subst hk0
  simp only [go_sem,byq]
  simp (disch:=first|assumption|omega|(simp;done)|(simp;omega)|(simp only [bt,and_true];first|done|omega|(simp;done))) [↓zmi,beq,ybc,ybd,ybe,al,wk,wk2,wk1,wkM,wkL,aG,ybf,byq,be]
/-- the bytes of a number of w bytes -/
def fQ (n w:Int):List UInt8:=if 1≤w∧w≤4 then be n w.toNat else []
theorem la (n:Int) (w:Nat):(be n w).length=w:=by simp [be,nP]
/-- wire.AppendUint -/
def ba:List AV→AHeap→(AV→Prop)→Prop
 |[.slice _ 1 l,.int .i64 n,.int .i64 w],_,K=>(isB l∧l.length≤140737488355000)∧K (.slice .any 1 (bys (unb l++fQ n w)))
 |_,_,_=>False
theorem cI:EntOk Tryz.prog 188 (Ent.pure ba):=by
 refine EntOk.pure fun args H K h=>?_
 unfold ba at h
 split at h
 rotate_left
 ·exact h.elim
 rename_i m l n w
 obtain ⟨⟨c1,hle⟩,hK⟩:=h
 refine ⟨_,hK,?_⟩
 obtain ⟨xs,rfl⟩:=dO c1
 simp only [zlt]
 rw [zle] at hle
 refine ACalls.fW aB (TblOk.cons tf (TblOk.cons mQ TblOk.nil)) Tryz.func188 [.tmp 6] (Nat.le_refl _) (T:=ay []) (h:=fun hcl hlt=>?_)
 clear hK hlt
 simp only [go_sem,zav,byq,lI,ow]
 refine cS (fun h1=>?_) (fun h1=>cS (fun h2=>?_) (fun h2=>?_))
 all_goals simp only [decide_eq_true_eq,decide_eq_false_iff_not] at *
 ·have e:fQ n w=[]:=by unfold fQ;rw [if_neg (by omega)]
  simp (disch:=first|assumption|omega|(simp;done)|(simp;omega)|(simp only [bt,and_true];first|done|omega|(simp;done))) [↓zmi,beq,ybc,ybd,ybe,al,wk,wk2,wk1,wkM,wkL,aG,ybf,byq,e,hcl]
  omega
 ·have e:fQ n w=[]:=by unfold fQ;rw [if_neg (by omega)]
  simp (disch:=first|assumption|omega|(simp;done)|(simp;omega)|(simp only [bt,and_true];first|done|omega|(simp;done))) [↓zmi,beq,ybc,ybd,ybe,al,wk,wk2,wk1,wkM,wkL,aG,ybf,byq,e,hcl]
  omega
 ·have e:fQ n w=be n w.toNat:=by unfold fQ;rw [if_pos (by omega)]
  simp (disch:=first|assumption|omega|(simp;done)|(simp;omega)|(simp only [bt,and_true];first|done|omega|(simp;done))) [↓zmi,beq,ybc,ybd,ybe,al,wk,wk2,wk1,wkM,wkL,aG,ybf,byq,e,la,hcl]
  omega
/-- wire.AppendBool -/
def lR:List AV→AHeap→(AV→Prop)→Prop
 |[.slice _ 1 l,.bool b],_,K=>(isB l∧l.length≤140737488355000)∧K (.slice .any 1 (bys (unb l++[if b then 1 else 0])))
 |_,_,_=>False
theorem sK:EntOk Tryz.prog 246 (Ent.pure lR):=by
 refine EntOk.pure fun args H K h=>?_
 unfold lR at h
 split at h
 rotate_left
 ·exact h.elim
 rename_i m l b
 obtain ⟨⟨c1,hle⟩,hK⟩:=h
 refine ⟨_,hK,?_⟩
 obtain ⟨xs,rfl⟩:=dO c1
 simp only [zlt]
 rw [zle] at hle
 refine ACalls.fW aB (TblOk.cons mQ TblOk.nil) Tryz.func246 [.tmp 4] (Nat.le_refl _) (T:=ay []) (h:=fun hcl hlt=>?_)
 clear hK hlt
 have l1:AV.int .u8 1=bd 1:=rfl
 have l0:AV.int .u8 0=bd 0:=rfl
 simp only [go_sem,zav,byq,lI,l1,l0]
 refine cS (fun h1=>?_) (fun h1=>?_)
 all_goals
  subst h1
  simp (disch:=first|assumption|omega|(simp;done)|(simp;omega)|(simp only [bt,and_true];first|done|omega|(simp;done))) [↓zmi,beq,ybc,ybd,ybe,al,wk,wk2,wk1,wkM,wkL,aG,ybf,byq,hcl]
  omega
/-- matchguardref02.Bool -/
def uN:List AV→AHeap→(AEnd→AHeap→Prop)→Prop
 |[.slice (.own id) 1 l,.bool b],H,K=>(isB l∧l.length≤140737488355000∧H.get id=some (.buf 1 l.length)) ∧
   K (.ret (.slice (.own id) 1 (bys (unb l++[if b then 1 else 0])))) (H.set id (.buf 1 (l.length+1)))
 |_,_,_=>False
theorem BA:EntOk Tryz.prog 225 (Ent.effect uN):=by
 refine EntOk.effect fun args H K h=>?_
 unfold uN at h
 split at h
 rotate_left
 ·exact h.elim
 rename_i id l b
 obtain ⟨⟨c1,hle,hid⟩,hK⟩:=h
 refine ⟨_,_,hK,?_⟩
 obtain ⟨xs,rfl⟩:=dO c1
 simp only [zlt,zle] at *
 have hl0:=AHeap.get_lt hid
 have hne:=aU hl0
 refine ACalls.fW aB TblOk.nil Tryz.func225 [.tmp 4] (Nat.le_refl _) (T:=ay []) (h:=fun hcl hlt=>?_)
 clear hK
 have l1:AV.int .u8 1=bd 1:=rfl
 have l0:AV.int .u8 0=bd 0:=rfl
 simp only [go_sem,zav,byq,l1,l0,hne,hid]
 refine cS (fun h1=>?_) (fun h1=>?_)
 all_goals
  subst h1
  simp (disch:=first|assumption|omega|(simp;done)|(simp;omega)|(simp only [bt,and_true];first|done|omega|(simp;done))) [↓zmi,beq,ybc,ybd,ybe,al,wk,wk2,wk1,wkM,wkL,aG,ybf,byq,hcl]
  omega
/-- matchguardref02.Uint -/
def lT:List AV→AHeap→(AEnd→AHeap→Prop)→Prop
 |[.slice (.own id) 1 l,.int .i64 n,.int .i64 w],H,K=>(isB l∧l.length≤140737488355000∧H.get id=some (.buf 1 l.length)) ∧
   K (.ret (.slice (.own id) 1 (bys (unb l++fQ n w)))) (H.set id (.buf 1 (l.length+(fQ n w).length)))
 |_,_,_=>False
theorem rN:EntOk Tryz.prog 123 (Ent.effect lT):=by
 refine EntOk.effect fun args H K h=>?_
 unfold lT at h
 split at h
 rotate_left
 ·exact h.elim
 rename_i id l n w
 obtain ⟨⟨c1,hle,hid⟩,hK⟩:=h
 refine ⟨_,_,hK,?_⟩
 obtain ⟨xs,rfl⟩:=dO c1
 simp only [zlt,zle] at *
 have hl0:=AHeap.get_lt hid
 have hne:=aU hl0
 refine ACalls.fW aB TblOk.nil Tryz.func123 [.tmp 6] (Nat.le_refl _) (T:=ay []) (h:=fun hcl hlt=>?_)
 clear hK
 simp only [go_sem,byq,hne,hid]
 have out:¬ (1≤w∧w≤4)→al (H.push (.buf 1 0)) (.slice (.own id) 1 (bys xs)) (H.set id (.buf 1 (xs.length+(fQ n w).length))) (.slice (.own id) 1 (bys (xs++fQ n w))):=by
  intro hw
  have e:fQ n w=[]:=by unfold fQ;rw [if_neg hw]
  rw [e,yba,Nat.add_zero,bo hid]
  simp (disch:=first|assumption|omega|(simp;done)|(simp;omega)|(simp only [bt,and_true];first|done|omega|(simp;done))) [↓zmi,beq,ybc,ybd,ybe,al,wk,wk2,wk1,wkM,wkL,aG,ybf,byq,hcl]
  exact hl0
 refine cS (fun h1=>?_) (fun h1=>?_)
 ·exact out (by simp at h1;omega)
 refine ai (fun h2=>?_) (fun h2=>?_)
 ·simp only [go_sem,zav,byq,hne,hid]
  exact out (by simp at h2;omega)
 simp only [decide_eq_true_eq,decide_eq_false_iff_not] at h1 h2
 simp only [go_sem,byq,hne,hid]
 refine eE (A:=Nat) (fun k=>[(7,.int .i64 ((k:Int) - 1)),(0,.slice (.own id) 1 (bys (xs++lc n w.toNat k))),(1,.int .i64 n)])
  (fun k=>(H.set id (.buf 1 (xs.length+(w.toNat - k)))).push (.buf 1 0)) (fun k=>k≤w.toNat) (fun k=>k) w.toNat (Nat.le_refl _) ?_ fun k hk=>?_
 ·have ew:IntKind.i64.wrap (w - 1)=w - 1:=by rw [wrap_i64]<;>omega
  simp only [bnq,enter,iz,ltF,ne_eq,Nat.reduceEqDiff,reduceCtorEq,qU,zlf,ew,Nat.sub_self,yaj,Nat.add_zero,bo hid,true_or,and_true]
  congr 1;omega
 have hlt2:∀ o,id<(H.set id o).nx:=fun o=>hl0
 simp only [go_sem,byq,hne]
 refine ai (fun hc=>?_) (fun hc=>?_)
 ·have hk0:1≤k:=by simp at hc;omega
  obtain ⟨j,rfl⟩:∃ j,k=j+1:=⟨k - 1,by omega⟩
  have e1:IntKind.i64.wrap (8*(((j+1:Nat):Int) - 1))=8*j:=by rw [wrap_i64]<;>omega
  have e3:IntKind.u64.wrap (8*(j:Int))=8*j:=by rw [fK]<;>omega
  have e4:IntKind.i64.wrap (((j+1:Nat):Int) - 1 - 1)=(j:Int) - 1:=by rw [wrap_i64]<;>omega
  simp only [go_sem,byq,e1,e3,e4,qF,nP,hne,gR,if_pos hl0,List.length_append,List.append_assoc]
  have e5:=p4 n w.toNat j hk
  unfold uS at e5
  refine ⟨by omega,⟨by omega,by omega⟩,j,by omega,by omega,?_⟩
  simp only [bnq,enter,iz,ltF,ne_eq,Nat.reduceEqDiff,reduceCtorEq,e5]
  rw [show xs.length+(w.toNat - (j+1))+1=xs.length+(w.toNat - j) by omega]
  refine .inr ?_
  have hcs:(H.set id (.buf 1 (xs.length+(w.toNat - j)))).Closed:=fl hcl
  simp (disch:=first|assumption|omega|(simp;done)|(simp;omega)|(simp only [bt,and_true];first|done|omega|(simp;done))) [↓zmi,beq,ybc,ybd,ybe,al,wk,wk2,wk1,wkM,wkL,aG,ybf]
  omega
 ·have hk0:k=0:=by simp at hc;omega
  subst hk0
  simp only [go_sem,byq]
  have hcs:(H.set id (.buf 1 (xs.length+w.toNat))).Closed:=fl hcl
  have e:fQ n w=be n w.toNat:=by unfold fQ;rw [if_pos (by omega)]
  simp (disch:=first|assumption|omega|(simp;done)|(simp;omega)|(simp only [bt,and_true];first|done|omega|(simp;done))) [↓zmi,beq,ybc,ybd,ybe,al,wk,wk2,wk1,wkM,wkL,aG,ybf,byq,e,la]
  exact ⟨rfl,hl0⟩
/-- the bytes of a byte string -/
def hO (bs:List UInt8):List UInt8:=be (min (bs.length:Int) 65535) 2++bs.take (min (bs.length:Int) 65535).toNat
theorem yv (bs:List UInt8):(hO bs).length≤65537:=by
 unfold hO
 rw [List.length_append,la,List.length_take]
 omega
/-- wire.AppendBytes -/
def ld:List AV→AHeap→(AV→Prop)→Prop
 |[.slice _ 1 l,.slice _ 1 l2],_,K=>(isB l∧isB l2∧l.length≤140737488000000)∧K (.slice .any 1 (bys (unb l++hO (unb l2))))
 |_,_,_=>False
theorem rn:EntOk Tryz.prog 277 (Ent.pure ld):=by
 refine EntOk.pure fun args H K h=>?_
 unfold ld at h
 split at h
 rotate_left
 ·exact h.elim
 rename_i m l m2 l2
 obtain ⟨⟨c1,c2,hle⟩,hK⟩:=h
 refine ⟨_,hK,?_⟩
 obtain ⟨xs,rfl⟩:=dO c1
 obtain ⟨ys,rfl⟩:=dO c2
 simp only [zlt,zle] at *
 refine ACalls.fW aB (TblOk.cons tf (TblOk.cons mQ TblOk.nil)) Tryz.func277 [.tmp 4] (Nat.le_refl _) (T:=ay []) (h:=fun hcl hlt=>?_)
 clear hK hlt
 have el:((ys.take (min (ys.length:Int) 65535).toNat).length:Int)=min (ys.length:Int) 65535:=by rw [List.length_take];omega
 have el2:(ys.take (min (ys.length:Int) 65535).toNat).length≤65535:=by rw [List.length_take];omega
 simp only [go_sem,zav,byq,lI,ow,yap,el,Int.reduceToNat,la,List.length_append]
 have e:be (min (ys.length:Int) 65535) 2++ys.take (min (ys.length:Int) 65535).toNat=hO ys:=rfl
 simp only [e]
 refine ⟨by omega,by omega,⟨by omega,by omega⟩,by omega,?_⟩
 simp (disch:=first|assumption|omega|(simp;done)|(simp;omega)|(simp only [bt,and_true];first|done|omega|(simp;done))) [↓zmi,beq,ybc,ybd,ybe,al,wk,wk2,wk1,wkM,wkL,aG,ybf,byq,hcl]
/-- wire.AppendText -/
def kg:List AV→AHeap→(AV→Prop)→Prop
 |[.slice _ 1 l,.str s],_,K=>(isB l∧l.length≤140737488000000∧s.length≤140737488000000)∧K (.slice .any 1 (bys (unb l++hO s)))
 |_,_,_=>False
theorem sU:EntOk Tryz.prog 226 (Ent.pure kg):=by
 refine EntOk.pure fun args H K h=>?_
 unfold kg at h
 split at h
 rotate_left
 ·exact h.elim
 rename_i m l s
 obtain ⟨⟨c1,hle,hs⟩,hK⟩:=h
 refine ⟨_,hK,?_⟩
 obtain ⟨xs,rfl⟩:=dO c1
 simp only [zlt,zle] at *
 refine ACalls.fW aB (TblOk.cons rn TblOk.nil) Tryz.func226 [.tmp 4] (Nat.le_refl _) (T:=ay []) (h:=fun hcl hlt=>?_)
 clear hK hlt
 simp only [go_sem,zav,byq,ld]
 refine ⟨by omega,by omega,?_⟩
 simp (disch:=first|assumption|omega|(simp;done)|(simp;omega)|(simp only [bt,and_true];first|done|omega|(simp;done))) [↓zmi,beq,ybc,ybd,ybe,al,wk,wk2,wk1,wkM,wkL,aG,ybf,byq,hcl]
/-- matchguardref02.Bytes -/
def rW:List AV→AHeap→(AEnd→AHeap→Prop)→Prop
 |[.slice (.own id) 1 l,.slice _ 1 l2],H,K=>(isB l∧isB l2∧l.length≤140737488000000∧H.get id=some (.buf 1 l.length)) ∧
   K (.ret (.slice (.own id) 1 (bys (unb l++hO (unb l2))))) (H.set id (.buf 1 (l.length+(hO (unb l2)).length)))
 |_,_,_=>False
theorem AD:EntOk Tryz.prog 275 (Ent.effect rW):=by
 refine EntOk.effect fun args H K h=>?_
 unfold rW at h
 split at h
 rotate_left
 ·exact h.elim
 rename_i id l m2 l2
 obtain ⟨⟨c1,c2,hle,hid⟩,hK⟩:=h
 refine ⟨_,_,hK,?_⟩
 obtain ⟨xs,rfl⟩:=dO c1
 obtain ⟨ys,rfl⟩:=dO c2
 simp only [zlt,zle] at *
 have hl0:=AHeap.get_lt hid
 have hne:=aU hl0
 refine ACalls.fW aB (TblOk.cons rN TblOk.nil) Tryz.func275 [.tmp 4] (Nat.le_refl _) (T:=ay []) (h:=fun hcl hlt=>?_)
 clear hK hlt
 have el:((ys.take (min (ys.length:Int) 65535).toNat).length:Int)=min (ys.length:Int) 65535:=by rw [List.length_take];omega
 have el2:(ys.take (min (ys.length:Int) 65535).toNat).length≤65535:=by rw [List.length_take];omega
 have ew:fQ (min (ys.length:Int) 65535) 2=be (min (ys.length:Int) 65535) 2:=by unfold fQ;rw [if_pos (by omega)];rfl
 simp only [go_sem,zav,byq,lT,hne,hid,ew,yap,gR,if_pos hl0,List.length_append,la,List.append_assoc]
 have e:be (min (ys.length:Int) 65535) 2++ys.take (min (ys.length:Int) 65535).toNat=hO ys:=rfl
 have e':xs.length+2+(ys.take (min (ys.length:Int) 65535).toNat).length=xs.length+(hO ys).length:=by rw [← e,List.length_append,la];omega
 simp only [e,e']
 refine ⟨by omega,by omega,⟨by omega,by omega⟩,?_⟩
 have hcs:(H.set id (.buf 1 (xs.length+(hO ys).length))).Closed:=fl hcl
 simp (disch:=first|assumption|omega|(simp;done)|(simp;omega)|(simp only [bt,and_true];first|done|omega|(simp;done))) [↓zmi,beq,ybc,ybd,ybe,al,wk,wk2,wk1,wkM,wkL,aG,ybf,byq]
 exact hl0
/-- matchguardref02.Text -/
def uU:List AV→AHeap→(AEnd→AHeap→Prop)→Prop
 |[.slice (.own id) 1 l,.str s],H,K=>(isB l∧l.length≤140737488000000∧s.length≤140737488000000∧H.get id=some (.buf 1 l.length)) ∧
   K (.ret (.slice (.own id) 1 (bys (unb l++hO s)))) (H.set id (.buf 1 (l.length+(hO s).length)))
 |_,_,_=>False
theorem B3:EntOk Tryz.prog 223 (Ent.effect uU):=by
 refine EntOk.effect fun args H K h=>?_
 unfold uU at h
 split at h
 rotate_left
 ·exact h.elim
 rename_i id l s
 obtain ⟨⟨c1,hle,hs,hid⟩,hK⟩:=h
 refine ⟨_,_,hK,?_⟩
 obtain ⟨xs,rfl⟩:=dO c1
 simp only [zlt,zle] at *
 have hl0:=AHeap.get_lt hid
 have hne:=aU hl0
 refine ACalls.fW aB (TblOk.cons AD TblOk.nil) Tryz.func223 [.tmp 4] (Nat.le_refl _) (T:=ay []) (h:=fun hcl hlt=>?_)
 clear hK hlt
 simp only [go_sem,zav,byq,rW,hne,hid]
 refine ⟨by omega,by omega,?_⟩
 have hcs:(H.set id (.buf 1 (xs.length+(hO s).length))).Closed:=fl hcl
 simp (disch:=first|assumption|omega|(simp;done)|(simp;omega)|(simp only [bt,and_true];first|done|omega|(simp;done))) [↓zmi,beq,ybc,ybd,ybe,al,wk,wk2,wk1,wkM,wkL,aG,ybf,byq]
 exact hl0
end Go.AL
