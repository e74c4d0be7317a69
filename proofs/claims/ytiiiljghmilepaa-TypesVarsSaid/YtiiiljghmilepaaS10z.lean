/- Contracts and plain laws, a part of the proof; no condition of its own. -/
import Derived.Test.YtiiiljghmilepaaM00
import Derived.Test.YtiiiljghmilepaaAlBun
import Derived.Test.YtiiiljghmilepaaLSch2
open Go Go.AL Go.Proofs
namespace Go.AL
set_option linter.all false
set_option maxRecDepth 10000
theorem sY:ti Try.prog 92=some ⟨.struct [(0,22,false),(1,3,false)],2,32,.agg [.slice .nil 1 [],.int .i64 0]⟩:=by kernel_rfl
theorem rd:ti Try.prog 23=some ⟨.ptr 92,1,8,.nilp⟩:=by kernel_rfl
theorem sx:ti Try.prog 22=some ⟨.slice 5,1,24,.slice .nil 1 []⟩:=by kernel_rfl
theorem yr:ti Try.prog 5=some ⟨.int .u8,1,1,.int .u8 0⟩:=by kernel_rfl
theorem wT:ti Try.prog 54=some ⟨.int .u64,1,8,.int .u64 0⟩:=by kernel_rfl
theorem tS:ti Try.prog 120=some ⟨.int .u64,1,8,.int .u64 0⟩:=by kernel_rfl
theorem wx:ti Try.prog 3=some ⟨.int .i64,1,8,.int .i64 0⟩:=by kernel_rfl
theorem u6:ti Try.prog 4=some ⟨.bool,1,1,.bool false⟩:=by kernel_rfl
theorem qI:ti Try.prog 9=some ⟨.string,1,16,.str []⟩:=by kernel_rfl
theorem sC:ti Try.prog 56=some ⟨.struct [(0,54,false),(1,54,false)],2,16,.agg [.int .u64 0,.int .u64 0]⟩:=by kernel_rfl
attribute [go_sem] sY rd sx yr wT tS wx u6 qI sC
theorem gG {H:AHeap} {i:Nat} {o:AObj} (h:H.get i=some o):(H.set i o).Le H:=⟨Nat.le_refl _,fun j x hj=>by
 rcases AHeap.get_set_inv _ _ hj with ⟨rfl,rfl,_⟩|⟨_,h2⟩
 ·exact h
 ·exact h2⟩
def oJ:List AV→AHeap→(AV→Prop)→Prop
 |[.ptr id 0],H,K=>∃ b a,(H.get id=some (.cells [.slice .any 1 (bys b),.int .i64 a]))∧K (.bool (decide (a<(b.length:Int))))
 |_,_,_=>False
theorem vB:EntOk Try.prog 46 (Ent.pure oJ):=by
 refine EntOk.pure fun args H K h=>?_
 unfold oJ at h
 split at h
 rotate_left
 ·exact h.elim
 rename_i id
 obtain ⟨b,a,hg,hK⟩:=h
 refine ⟨_,hK,?_⟩
 clear hK
 refine ACalls.fW aE TblOk.nil Try.func46 [.tmp 2] (Nat.le_refl _) (T:=ax []) (h:=fun hcl hlt=>?_)
 clear hlt
 have hcs:=bx hg
 simp only [go_sem,hcs,zle]
 simp (disch:=first|assumption|omega|(simp;done)|(simp;omega)|(simp only [bt,and_true];first|done|omega|(simp;done))) [↓zmi,beq,List.take_of_length_le,List.drop_append,List.take_append,ag,wk,wk2,wk1,wkM,wkL,ak,List.drop_eq_nil_of_le,hcl]
def zod (b:List UInt8) (a:Int):AObj:=.cells [.slice .any 1 (bys b),.int .i64 a]
theorem wl {H H1:AHeap} {i:Nat} {o:AObj} (h:∀ j x,j≠i→H.get j=some x→H1.get j=some x) (hg:H1.get i=some o) (hn:H.nx≤H1.nx):(H.set i o).Le H1:=⟨hn,fun j x hj=>by
 rcases AHeap.get_set_inv _ _ hj with ⟨rfl,rfl,_⟩|⟨h1,h2⟩
 ·exact hg
 ·exact h j x h1 h2⟩
theorem m9 {n sz:Nat} {l:List AV} (h:∀ x∈l,AV.lt n x):AV.lt n (.slice .any sz l):=by
 rw [AV.lt]
 exact ⟨fun id e=>(by cases e),fun j hj=>h _ (List.getElem_mem hj)⟩
theorem lz {b:List UInt8} {v:Nat}:cu b v=zod b ((min v b.length:Nat):Int):=rfl
/-- the next choice, as a function of the choices -/
def aR:List AV→AHeap→(AEnd→AHeap→Prop)→Prop
 |[.ptr id 0,.int .i64 n],H,K=>onC (H.get id) fun b v=>(1≤n∧n≤1000000)∧K (.ret (.int .i64 ((cv b v n.toNat:Nat):Int))) (H.set id (cu b (v+1)))
 |_,_,_=>False
theorem gd:EntOk Try.prog 28 (Ent.effect aR):=by
 refine EntOk.effect fun args H K h=>?_
 unfold aR at h
 split at h
 rotate_left
 ·exact h.elim
 rename_i id n
 obtain ⟨b,v,hg,hb,hv,⟨hn1,hn2⟩,hK⟩:=gr h
 refine ⟨_,_,hK,?_⟩
 clear hK
 obtain ⟨n,rfl⟩:=Int.eq_ofNat_of_zero_le (show 0≤n by omega)
 simp only [Int.toNat_natCast]
 refine ACalls.fW aE (TblOk.cons vB TblOk.nil) Try.func28 [.tmp 4] (Nat.le_refl _) (T:=ax [(4,[[],[],[],[],[],[],[],[],[],[],[],[3,7,10]])]) (h:=fun hcl hlt=>?_)
 clear hlt
 have hg':H.get id=some (zod b (v:Int)):=by rw [hg,lz];unfold cp;rw [show min (v+0) b.length=v by omega]
 have hcs:=bx (cs:=[.slice .any 1 (bys b),.int .i64 (v:Int)]) hg'
 have hid:=AHeap.get_lt hg
 have hcl2:∀ a',(H.set id (zod b a')).Closed:=fun a'=>ah hcl (by simp [zno,znp,zmz,zmm])
 simp only [go_sem,oJ]
 refine ⟨b,v,hg',bR (fun h1=>?_) (fun h1=>al (fun h2=>by simp at h2;omega) (fun h2=>?_))⟩
 ·have hv2:b.length≤v:=by simp at h1;omega
  have e:H.set id (cu b (v+1))=H.set id (zod b (v:Int)):=by
   rw [lz,show min (v+1) b.length=v by omega]
  rw [jy hv2,e]
  simp (disch:=first|assumption|omega|(simp;done)|(simp;omega)|(simp only [bt,and_true];first|done|omega|(simp;done))) [↓zmi,beq,List.take_of_length_le,List.drop_append,List.take_append,ag,wk,wk2,wk1,wkM,wkL,ak,List.drop_eq_nil_of_le,hcl2]
  exact gG hg'
 have hk:v<b.length:=by simp at h1;omega
 have e:cu b (v+1)=zod b ((v+1:Nat):Int):=by rw [lz,show min (v+1) b.length=v+1 by omega]
 have e1:IntKind.i64.wrap ((v:Int)+1)=((v+1:Nat):Int):=by rw [wrap_i64]<;>omega
 have e2:IntKind.i64.wrap (((v+1:Nat):Int) - 1)=(v:Int):=by rw [wrap_i64]<;>omega
 have hgd:(bys b).getD v .junk=bc b[v]:=by rw [n7 hk];simp [List.getD_eq_getElem?_getD,hk]
 have h8:=UInt8.toNat_lt b[v]
 have e3:IntKind.i64.wrap ((b[v].toNat:Nat):Int)=((b[v].toNat:Nat):Int):=by rw [wrap_i64]<;>omega
 have hc:cv b v n=b[v].toNat % n:=by unfold cv;simp [List.getD_eq_getElem?_getD,hk]
 have ht:(((b[v].toNat:Nat):Int)).tmod (n:Int)=((b[v].toNat % n:Nat):Int):=by
  rw [Int.tmod_eq_emod_of_nonneg (by omega),Int.natCast_emod]
 rw [hc,e]
 simp only [go_sem,hcs,e1,dD hid,e2,Int.toNat_natCast,hgd,zle,bc,e3,ht]
 refine ⟨by omega,by omega,?_⟩
 have hc2:=hcl2 ((v+1:Nat):Int)
 simp (disch:=first|assumption|omega|(simp;done)|(simp;omega)|(simp only [bt,and_true];first|done|omega|(simp;done))) [↓zmi,beq,List.take_of_length_le,List.drop_append,List.take_append,ag,wk,wk2,wk1,wkM,wkL,ak,List.drop_eq_nil_of_le,hc2,zod]
theorem sT {H:AHeap} {id:Nat} {b:List UInt8} {v w:Nat}:(H.set id (cu b v)).set id (cu b w)=H.set id (cu b w):=by
 simp only [AHeap.set];congr 1;funext j;split<;>rfl
end Go.AL
