/- Contracts and plain laws, a part of the proof; no condition of its own. -/
import Derived.Test.YtiiiljghmilepaaR05b
import Derived.Test.YtiiiljghmilepaaN05c
open Go Go.AL Go.Proofs
namespace Go.AL
set_option linter.all false
set_option maxRecDepth 10000
theorem yq:ti Try.prog 206=some ⟨.array 128 4,128,128,.agg (List.replicate 128 (.bool false))⟩:=by kernel_rfl
attribute [go_sem] yq
def isV (hi lo:Int):Prop:=0≤hi∧hi<18446744073709551616∧0≤lo∧lo<18446744073709551616
def mg:List AV→AHeap→(AV→Prop)→Prop
 |[.agg [.int .u64 hi,.int .u64 lo]],_,K=>isV hi lo∧K (.agg (bits (vOf hi.toNat lo.toNat)))
 |_,_,_=>False
theorem rH:EntOk Try.prog 113 (Ent.pure mg):=by
 refine EntOk.pure fun args H K h=>?_
 unfold mg at h
 split at h
 rotate_left
 ·exact h.elim
 rename_i hi lo
 obtain ⟨⟨h0,h1,h2,h3⟩,hK⟩:=h
 refine ⟨_,hK,?_⟩
 obtain ⟨x,rfl⟩:=bQ h0
 obtain ⟨y,rfl⟩:=bQ h2
 clear hK h0 h2
 rw [Int.toNat_natCast,Int.toNat_natCast]
 have hx:x<2^64:=by omega
 have hy:y<2^64:=by omega
 refine ACalls.fW aI TblOk.nil Try.func113 [.cell 2 206] (Nat.le_refl _) (T:=aA []) (h:=fun hcl hlt=>?_)
 clear hlt
 have hv:=pt hx hy
 have blo:∀ i,i<64→y.testBit i=(vOf x y).testBit i:=fun i hi=>by rw [tv hy,if_pos hi]
 have bhi:∀ i,x.testBit i=(vOf x y).testBit (i+64):=fun i=>by rw [tv hy,if_neg (by omega),Nat.add_sub_cancel]
 generalize hvo:vOf x y=v at hv blo bhi ⊢
 simp only [go_sem,byq]
 refine ke (A:=Nat) (fun k=>[(4,.int .i64 (k:Int)),(3,.ptr (H.nx+1+1) 0),(1,.ptr H.nx 0),(2,.ptr (H.nx+1) 0)])
  (fun k=>((H.push (.cells [.int .u64 (x:Int),.int .u64 (y:Int)])).push (.cells (List.replicate 128 (.bool false)))).push (.cells (bH v fun j=>decide (j % 64<k)))) (fun k=>k≤64) (fun k=>64 - k) 0 (by omega) ?_ fun k hk=>?_
 ·have e:bH v (fun j=>decide (j % 64<0))=List.replicate 128 (.bool false):=jh _ _ fun j _=>by simp
  simp only [bnq,enter,lW,ltF,ne_eq,Nat.reduceEqDiff,reduceCtorEq,e,true_or,and_true]
  all_goals rfl
 simp only [go_sem,byq]
 refine ak (fun hc=>?_) (fun hc=>?_)
 ·have hk:k<64:=by simp at hc;omega
  have e1:IntKind.i64.wrap ((k:Int)+64)=((k+64:Nat):Int):=by rw [wrap_i64]<;>omega
  have e2:IntKind.u64.wrap (k:Int)=(k:Int):=by rw [qo]<;>omega
  have e3:IntKind.i64.wrap ((k:Int)+1)=((k+1:Nat):Int):=by rw [wrap_i64]<;>omega
  have s1:y >>> k<2^64:=wj hy
  have s2:x >>> k<2^64:=wj hx
  simp only [go_sem,byq,e1,e2,e3,qX y k hy,qX x k hx,rI _ s1,rI _ s2,yl,Int.toNat_natCast,Nat.zero_add,hZ,ki,blo k hk,bhi k,List.length_set]
  have hst:((bH v fun j=>decide (j % 64<k)).set k (.bool (v.testBit k))).set (k+64) (.bool (v.testBit (k+64)))=bH v fun j=>decide (j % 64<k+1):=by
   rw [ir v _ (fun j=>decide (j % 64<k)||decide (j=k)) k (fun j hj=>by simp [hj]) (by simp),
    ir v _ (fun j=>decide (j % 64<k)||decide (j=k)||decide (j=k+64)) (k+64) (fun j hj=>by simp [hj]) (by simp)]
   unfold bH
   refine List.map_congr_left fun j hj=>?_
   have:j<128:=List.mem_range.1 hj
   congr 2
   rw [Bool.eq_iff_iff];simp;omega
  refine ⟨by omega,by omega,by omega,by omega,by omega,by omega,k+1,by omega,by omega,?_⟩
  simp only [bnq,enter,lW,ltF,ne_eq,Nat.reduceEqDiff,reduceCtorEq,hst,true_or,and_self]
 ·have hk:k=64:=by simp at hc;omega
  subst hk
  have e:bH v (fun j=>decide (j % 64<64))=bits v:=j0 _ _ fun j _=>by simp;omega
  have et:List.take 128 (bits v)=bits v:=List.take_of_length_le (by rw [ct];omega)
  have es:splice (List.replicate 128 (.bool false)) 0 (bits v)=bits v:=eZ (y:=.junk) (ct v)
  simp only [go_sem,byq,e,et,es,ct,jc]
  refine ⟨by simp,?_⟩
  simp (disch:=first|assumption|omega|(simp;done)|(simp;omega)|(simp only [bt,and_true];first|done|omega|(simp;done))) [↓zmi,beq,List.take_of_length_le,List.drop_append,List.take_append,ag,wk,wk2,wk1,wkM,wkL,am,List.drop_eq_nil_of_le,hcl,fe]
theorem eO:zAV 0=.agg [.bool false,.slice .any 1 []]:=by simp [zAV,aV,cy]
theorem cS {a:Int} (k:Nat) (h:a.natAbs<10^k) (hk:k≤200):cV a:=Nat.lt_of_lt_of_le h (Nat.pow_le_pow_right (by decide) hk)
/-- 2^128 -/
def limDigs:List Nat:=[6,5,4,1,1,2,8,6,7,1,3,4,7,0,6,4,7,3,3,6,4,3,6,4,8,3,9,0,2,9,6,6,3,2,8,2,0,4,3]
theorem ta:bB (2^128)=limDigs:=by decide +kernel
def limText:List UInt8:=(limDigs.map fun d=>UInt8.ofNat (48+d)).reverse
theorem sy:[51,52,48,50,56,50,51,54,54,57,50,48,57,51,56,52,54,51,52,54,51,51,55,52,54,48,55,52,51,49,55,54,56,50,49,49,52,53,54]=limText:=by decide +kernel
theorem qO:∀ j,j<39→IntKind.i64.wrap (IntKind.u8.wrap (((limText.getD j 0).toNat:Int) - 48))=((limDigs.getD (38 - j) 0:Nat):Int):=by decide +kernel
theorem xI:∀ j,j<39→limDigs.take (38 - j)++[limDigs.getD (38 - j) 0]=limDigs.take (39 - j):=by decide +kernel
def mt:List AV→AHeap→(AV→Prop)→Prop
 |[],_,K=>K (zAV (2^128))
 |_,_,_=>False
theorem u5:EntOk Try.prog 83 (Ent.pure mt):=by
 refine EntOk.pure fun args H K h=>?_
 unfold mt at h
 split at h
 rotate_left
 ·exact h.elim
 refine ⟨_,h,?_⟩
 clear h
 refine ACalls.fW aI TblOk.nil Try.func83 [.cell 0 107] (Nat.le_refl _) (T:=aA []) (h:=fun hcl hlt=>?_)
 clear hlt
 have hl:limText.length=39:=by decide +kernel
 have ew:IntKind.i64.wrap (((39:Nat):Int) - 1)=((39:Nat):Int) - 1:=by decide
 simp only [go_sem,byq,biq,ae,sy,hl,ew]
 refine ax (A:=Nat) (fun k=>[(3,.int .i64 ((k:Int) - 1)),(2,.slice (.own (H.nx+1)) 1 (bK (limDigs.take (39 - k)))),(1,.str limText),(0,.ptr H.nx 0)])
  (fun k=>(H.push (.cells [.bool false,.slice .nil 1 []])).push (.buf 1 (39 - k))) (fun k=>k≤39) (fun k=>k) 39 (by omega) ?_ fun k hk=>?_
 ·(simp only [bkq,enterW,aR,ltF,ne_eq,Nat.reduceEqDiff,reduceCtorEq,cy,Nat.sub_self,List.take_zero];try simp (disch:=first|assumption|omega|(simp;done)|(simp;omega)|(simp only [bt,and_true];first|done|omega|(simp;done))) [↓zmi,beq,List.take_of_length_le,List.drop_append,List.take_append,ag,wk,wk2,wk1,wkM,wkL,am,List.drop_eq_nil_of_le,byq,biq,ae,hcl,cy,Nat.sub_self,List.take_zero];try (repeat' (first|assumption|omega|exact True.intro|refine And.intro ?_ ?_|refine af ?_|refine aa ?_|refine ac ?_ ?_|refine ah ?_ ?_|refine aj ?_|exact AHeap.Le.refl _|refine AHeap.Le.push ?_ _|refine AHeap.Le.del ?_ ?_|(simp only [bt,and_true,true_and,cy,Nat.sub_self,List.take_zero];first|done|omega|(simp;done)))))
 simp only [go_sem,byq,biq,ae]
 refine ak (fun h4=>?_) (fun h4=>?_)
 ·obtain ⟨j,rfl⟩:∃ j,k=j+1:=⟨k - 1,by simp at h4;omega⟩
  have ej:(((j+1:Nat):Int) - 1)=(j:Int):=by omega
  have e3:IntKind.i64.wrap ((j:Int) - 1)=(j:Int) - 1:=by rw [wrap_i64]<;>omega
  have eg:=qO j (by omega)
  have es:=xI j (by omega)
  have el:(limDigs.take (38 - j)).length=38 - j:=by rw [List.length_take,show limDigs.length=39 from rfl];omega
  have e39:39 - (j+1)=38 - j:=by omega
  simp only [go_sem,byq,biq,ae,ej,e3,eg,hl,e39,es,el]
  have e40:38 - j+1=39 - j:=by omega
  refine ⟨by omega,by omega,j,by omega,by omega,?_⟩
  rw [e40]
  (simp only [bkq,enterW,aR,ltF,ne_eq,Nat.reduceEqDiff,reduceCtorEq];try simp (disch:=first|assumption|omega|(simp;done)|(simp;omega)|(simp only [bt,and_true];first|done|omega|(simp;done))) [↓zmi,beq,List.take_of_length_le,List.drop_append,List.take_append,ag,wk,wk2,wk1,wkM,wkL,am,List.drop_eq_nil_of_le,byq,biq,ae,hcl];try (repeat' (first|assumption|omega|exact True.intro|refine And.intro ?_ ?_|refine af ?_|refine aa ?_|refine ac ?_ ?_|refine ah ?_ ?_|refine aj ?_|exact AHeap.Le.refl _|refine AHeap.Le.push ?_ _|refine AHeap.Le.del ?_ ?_|(simp only [bt,and_true,true_and];first|done|omega|(simp;done)))))
 ·have h4':k=0:=by simp at h4;omega
  subst h4'
  have ez:AV.agg [AV.bool false,AV.slice .any 1 (bK (List.take 39 limDigs))]=zAV (2^128):=by
   unfold zAV
   rw [show ((2:Int)^128).natAbs=2^128 by decide,ta];rfl
  simp only [go_sem,byq,biq,ae]
  rw [← ez]
  simp (disch:=first|assumption|omega|(simp;done)|(simp;omega)|(simp only [bt,and_true];first|done|omega|(simp;done))) [↓zmi,beq,List.take_of_length_le,List.drop_append,List.take_append,ag,wk,wk2,wk1,wkM,wkL,am,List.drop_eq_nil_of_le,hcl]
def gp:List AV→AHeap→(AV→Prop)→Prop
 |[x],_,K=>∃ a,(x=zAV a∧cV a)∧K (.bool (decide (0≤a∧a<2^128)))
 |_,_,_=>False
theorem ww:EntOk Try.prog 65 (Ent.pure gp):=by
 refine EntOk.pure fun args H K h=>?_
 unfold gp at h
 split at h
 rotate_left
 ·exact h.elim
 obtain ⟨a,⟨rfl,ha⟩,hK⟩:=h
 refine ⟨_,hK,?_⟩
 clear hK
 refine ACalls.fW aI (TblOk.cons u5 (TblOk.cons yZ TblOk.nil)) Try.func65 [.tmp 2] (Nat.le_refl _) (T:=aA [(1,[[],[],[],[],[],[1],[1,4,5]])]) (h:=fun hcl hlt=>?_)
 clear hlt
 simp only [go_sem,biq,ae,zAV,mt,sj]
 refine bb (fun h1=>?_) (fun h1=>?_)
 ·have h1':0≤a:=by simpa using h1
  refine ⟨a,2^128,⟨rfl,rfl,ha,cS 40 (by decide) (by decide)⟩,?_⟩
  have e:decide ((if a=2^128 then (0:Int) else if a<2^128 then -1 else 1)<0)=decide (0≤a∧a<2^128):=by
   rw [Bool.eq_iff_iff];simp only [decide_eq_true_eq]
   split
   ·omega
   ·split<;>omega
  try simp only [go_sem,biq,ae,e]
  simp (disch:=first|assumption|omega|(simp;done)|(simp;omega)|(simp only [bt,and_true];first|done|omega|(simp;done))) [↓zmi,beq,List.take_of_length_le,List.drop_append,List.take_append,ag,wk,wk2,wk1,wkM,wkL,am,List.drop_eq_nil_of_le,hcl]
 ·have h1':¬ (0≤a∧a<2^128):=by simp at h1;omega
  try simp only [go_sem,biq,ae,decide_eq_false h1']
  simp (disch:=first|assumption|omega|(simp;done)|(simp;omega)|(simp only [bt,and_true];first|done|omega|(simp;done))) [↓zmi,beq,List.take_of_length_le,List.drop_append,List.take_append,ag,wk,wk2,wk1,wkM,wkL,am,List.drop_eq_nil_of_le,hcl]
end Go.AL
