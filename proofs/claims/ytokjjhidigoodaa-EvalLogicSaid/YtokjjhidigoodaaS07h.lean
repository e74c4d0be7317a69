/- Contracts and plain laws, a part of the proof; no condition of its own. -/
import Derived.Test.YtokjjhidigoodaaE06
open Go Go.AL Go.Proofs
namespace Go.AL
set_option linter.all false
set_option maxRecDepth 10000
def bN:Nat→Nat
 |0=>40
 |d+1=>2*bN d+5
def nms:List (List UInt8):=[[97],[98],[100,58,58,112,114,101,102,105,120,95,108,101,110,103,116,104],[101,58,58,109,97,115,107],[102,58,58,104,105,103,104],[112,114,105,111,114,105,116,121],[48],[49],[49,53],[48,120,102,102],[51,52,48,50,56,50,51,54,54,57,50,48,57,51,56,52,54,51,52,54,51,51,55,52,54,48,55,52,51,49,55,54,56,50,49,49,52,53,53],[120]]
theorem bF:nms.length=12:=rfl
theorem Bm:∀ x∈nms,x.length≤40:=by decide
theorem dB:[AV.str [97],AV.str [98],AV.str [100,58,58,112,114,101,102,105,120,95,108,101,110,103,116,104],AV.str [101,58,58,109,97,115,107],AV.str [102,58,58,104,105,103,104],AV.str [112,114,105,111,114,105,116,121],AV.str [48],AV.str [49],AV.str [49,53],AV.str [48,120,102,102],AV.str [51,52,48,50,56,50,51,54,54,57,50,48,57,51,56,52,54,51,52,54,51,51,55,52,54,48,55,52,51,49,55,54,56,50,49,49,52,53,53],AV.str [120]]=sAV nms:=rfl
theorem lG {H:AHeap} {id:Nat} {b:List UInt8} {a a':Int}:(H.set id (cod b a)).set id (cod b a')=H.set id (cod b a'):=by
 simp only [AHeap.set];congr 1;funext j;split<;>rfl
theorem xy {j:Nat} (hj:j<12):(sAV nms).getD j .junk=.str (nms.getD j [])∧(nms.getD j []).length≤40:=by
 refine ⟨pF (by rw [bF];exact hj),?_⟩
 rw [List.getD_eq_getElem?_getD,List.getElem?_eq_getElem (show j<nms.length by rw [bF];exact hj)]
 exact Bm _ (List.getElem_mem _)
theorem nI (d:Nat):40≤bN d:=by
 induction d with
 |zero=>exact Nat.le_refl _
 |succ d ih=>unfold bN;omega
theorem cy {H X:AHeap} {K:AV→AHeap→Prop} {id:Nat} {b:List UInt8} {a':Int} {s:List UInt8} (hK:K (.str s) (H.set id (cod b a'))) (hid:id<H.nx) (hcl:H.Closed) (hle:(H.set id (cod b a')).Le X):pq H.nx K (.str s) X :=
 ⟨_,_,hK,Nat.le_refl _,by simp [zmk],hle,ag hcl (by simp [znq,znr,znb,zmo]),by simp [znd]⟩
end Go.AL
open Go Go.AL Go.Proofs
namespace Go.AL
set_option linter.all false
set_option maxRecDepth 10000
def bS:Nat→Nat
 |0=>2*bN 1+bN 0+20
 |d+1=>2*bS d+2*bN 1+bN (d+1)+20
def cOpsL:List (List UInt8):=[[32,61,61,32],[32,33,61,32],[32,60,32],[60,61],[32,62,32],[62,61]]
theorem bb:[AV.str [32,61,61,32],AV.str [32,33,61,32],AV.str [32,60,32],AV.str [60,61],AV.str [32,62,32],AV.str [62,61]]=sAV cOpsL:=rfl
theorem az:cOpsL.length=6:=rfl
def boolsL:List (List UInt8):=[[116,114,117,101],[102,97,108,115,101]]
theorem aL:[AV.str [116,114,117,101],AV.str [102,97,108,115,101]]=sAV boolsL:=rfl
theorem aq:boolsL.length=2:=rfl
theorem Af (d:Nat):2*bN 1+bN d+20≤bS d:=by
 cases d with
 |zero=>exact Nat.le_refl _
 |succ d=>unfold bS;omega
theorem Ad (d:Nat):d≤bS d:=by
 induction d with
 |zero=>exact Nat.zero_le _
 |succ d ih=>unfold bS;omega
end Go.AL
