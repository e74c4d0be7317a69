/- Contracts and plain laws, a part of the proof; no condition of its own. -/
import Derived.Test.YtiiiljghmilepaaS08j
import Derived.Test.YtiiiljghmilepaaS07h
open Go Go.AL Go.Proofs
namespace Go.AL
set_option linter.all false
set_option maxRecDepth 10000
end Go.AL
open Go Go.AL Go.Proofs
namespace Go.AL
set_option linter.all false
set_option maxRecDepth 10000
def six:List VN:=[([97],[]),([98],[]),([100],[112,114,101,102,105,120,95,108,101,110,103,116,104]),([101],[109,97,115,107]),([102],[104,105,103,104]),([112,114,105,111,114,105,116,121],[])]
def sixV:List AV:=aW six
theorem qz:∀ v∈six,v.1.length≤1000∧v.2.length≤1000:=by decide
def mN:List AV→AHeap→(AV→AHeap→Prop)→Prop
 |[.int .i64 n],H,K=>∀ vs:List VN,vs.length≤6→(∀ v∈vs,v∈six)→K (.slice .any 2 (aW vs)) H
 |_,_,_=>False
set_option maxHeartbeats 4000000 in
theorem rV:EntOk Try.prog 14 (Ent.some mN):=by
 refine EntOk.some fun args H K h=>?_
 unfold mN at h
 split at h
 rotate_left
 ·exact h.elim
 rename_i n
 refine ACallsP.of_aw (Ω:=[]) (T:=az []) aI TblOk.nil Try.func14 (by kernel_rfl) (by rfl) (rs:=[.tmp 2]) (by rfl) (by kernel_rfl) (by simp only [Try.ntmps14,List.length_cons,List.length_nil];decide) fun hcl hlt=>?_
 change aw _ _ _ (KI Try.prog [] (fH Try.prog [.tmp 2] H.nx _ (az [])) []) _ _
 clear hlt
 simp only [go_sem]
 refine aV (A:=Nat × List VN × AHeap) (fun a=>[(0,.int .i64 n),(3,.slice (.own (H.nx+1)) 2 (aW a.2.1)),(12,.slice .any 2 sixV),(13,.int .i64 ((6:Nat):Int)),(14,.int .i64 (a.1:Int))]) (fun a=>a.2.2)
  (fun a=>a.1≤6∧a.2.1.length≤a.1∧(∀ v∈a.2.1,v∈six)∧H.Le a.2.2∧a.2.2.Closed∧a.2.2.get (H.nx+1)=some (.buf 2 a.2.1.length)) (fun a=>6 - a.1)
  (0,[],(H.push (.buf 2 0)).push (.buf 2 0)) ⟨Nat.zero_le _,Nat.zero_le _,(fun v hv=>by cases hv),((AHeap.Le.refl _).push _).push _,ai (ai hcl),AHeap.get_push_new _ _⟩ ?_ fun a ha=>?_
 ·have hc0:=ai (a:=2) (b:=0) (ai (a:=2) (b:=0) hcl)
  (simp only [bkq,enterW,bF,ltF,ne_eq,Nat.reduceEqDiff,reduceCtorEq,hc0,aM,sixV,six];try simp (disch:=first|assumption|omega|(simp;done)|(simp;omega)|(simp only [bt,and_true];first|done|omega|(simp;done))) [↓zmi,beq,List.take_of_length_le,List.drop_append,List.take_append,ah,wk,wk2,wk1,wkM,wkL,ap,List.drop_eq_nil_of_le,byq,biq,au,hcl,hc0,aM,sixV,six];try (repeat' (first|assumption|omega|exact True.intro|refine And.intro ?_ ?_|refine ai ?_|refine ac ?_|refine af ?_ ?_|refine aj ?_ ?_|refine al ?_|exact AHeap.Le.refl _|refine AHeap.Le.push ?_ _|refine AHeap.Le.del ?_ ?_|(simp only [bt,and_true,true_and,hc0,aM,sixV,six];first|done|omega|(simp;done)))))
  all_goals simp [aW,cT]
 obtain ⟨k,LL,Hc⟩:=a
 obtain ⟨hk,hl,hin,hle,hcc,hid⟩:=ha
 dsimp only at hk hl hin hle hcc hid ⊢
 have hnx:=AHeap.get_lt hid
 simp only [go_sem]
 refine am (fun hc=>?_) (fun hc=>?_)
 ·have hk1:k<6:=by simp at hc;omega
  have hk2:k<six.length:=hk1
  have e5:IntKind.i64.wrap ((k:Int)+1)=((k+1:Nat):Int):=by rw [wrap_i64]<;>omega
  have n1:(Hc.nx=H.nx+1)=False:=eq_false (by omega)
  have n2:(H.nx+1=Hc.nx)=False:=eq_false (by omega)
  have n3:(H.nx+1=Hc.nx+1)=False:=eq_false (by omega)
  have hnn:H.nx≤Hc.nx:=by omega
  have hg:sixV.getD k .junk=.agg [.str six[k].1,.str six[k].2]:=ia hk2
  have hsl:sixV.length=6:=rfl
  have hsn:aW LL++[.agg [.str six[k].1,.str six[k].2]]=aW (LL++[six[k]]):=eD (v:=six[k])
  have hmem:six[k]∈six:=List.getElem_mem hk2
  generalize six[k]=v at *
  simp only [go_sem,hsl,hg,Int.toNat_natCast,e5]
  refine ⟨by omega,?_⟩
  refine am (fun hb=>?_) (fun hb=>?_)
  ·simp only [go_sem,hid,n1,n2,n3,bE,e5]
   refine ⟨⟨by omega,by omega,fun z hz=>by rw [List.mem_singleton.1 hz];rfl⟩,(k+1,LL++[v],Hc.set (H.nx+1) (.buf 2 (LL.length+1))),⟨by dsimp only;omega,by dsimp only;rw [List.length_append];simp only [List.length_cons,List.length_nil];omega,?_,cC hle (by omega),ac hcc,?_⟩,by dsimp only;omega,?_⟩
   ·intro x hx
    rcases List.mem_append.1 hx with h|h
    ·exact hin x h
    ·rw [List.mem_singleton.1 h];exact hmem
   ·dsimp only
    rw [bD,if_pos rfl,if_pos hnx];simp
   ·have hcs:=@ac Hc (H.nx+1) 2 (LL.length+1) hcc
    dsimp only
    rw [hsn]
    (simp only [bkq,enterW,bF,ltF,ne_eq,Nat.reduceEqDiff,reduceCtorEq,hcs,aM,hnn,sixV];try simp (disch:=first|assumption|omega|(simp;done)|(simp;omega)|(simp only [bt,and_true];first|done|omega|(simp;done))) [↓zmi,beq,List.take_of_length_le,List.drop_append,List.take_append,ah,wk,wk2,wk1,wkM,wkL,ap,List.drop_eq_nil_of_le,byq,biq,au,hcl,hcs,aM,hnn,sixV];try (repeat' (first|assumption|omega|exact True.intro|refine And.intro ?_ ?_|refine ai ?_|refine ac ?_|refine af ?_ ?_|refine aj ?_ ?_|refine al ?_|exact AHeap.Le.refl _|refine AHeap.Le.push ?_ _|refine AHeap.Le.del ?_ ?_|(simp only [bt,and_true,true_and,hcs,aM,hnn,sixV];first|done|omega|(simp;done)))))
  ·simp only [go_sem,e5]
   refine ⟨(k+1,LL,Hc),⟨by dsimp only;omega,by dsimp only;omega,hin,hle,hcc,hid⟩,by dsimp only;omega,?_⟩
   (simp only [bkq,enterW,bF,ltF,ne_eq,Nat.reduceEqDiff,reduceCtorEq,hcc,aM,hnn,sixV];try simp (disch:=first|assumption|omega|(simp;done)|(simp;omega)|(simp only [bt,and_true];first|done|omega|(simp;done))) [↓zmi,beq,List.take_of_length_le,List.drop_append,List.take_append,ah,wk,wk2,wk1,wkM,wkL,ap,List.drop_eq_nil_of_le,byq,biq,au,hcl,hcc,aM,hnn,sixV];try (repeat' (first|assumption|omega|exact True.intro|refine And.intro ?_ ?_|refine ai ?_|refine ac ?_|refine af ?_ ?_|refine aj ?_ ?_|refine al ?_|exact AHeap.Le.refl _|refine AHeap.Le.push ?_ _|refine AHeap.Le.del ?_ ?_|(simp only [bt,and_true,true_and,hcc,aM,hnn,sixV];first|done|omega|(simp;done)))))
 ·simp only [go_sem]
  exact ⟨_,H,h LL (by omega) hin,Nat.le_refl _,by simp [wk,wk2,wk1,wkM],hle,hcl,by rw [aM];intro id h;cases h⟩
end Go.AL
