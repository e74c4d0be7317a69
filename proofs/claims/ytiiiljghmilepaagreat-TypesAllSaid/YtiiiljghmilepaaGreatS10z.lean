/- Contracts and plain laws, a part of the proof; no condition of its own. -/
import Derived.Test.YtiiiljghmilepaaGreatM00
import Derived.Test.YtiiiljghmilepaaGreatAlBun
import Derived.Test.YtiiiljghmilepaaGreatLSch2
open Go Go.AL Go.Proofs
namespace Go.AL
set_option linter.all false
set_option maxRecDepth 10000
theorem yk:ti Tryz.prog 92=some ⟨.struct [(0,22,false),(1,3,false)],2,32,.agg [.slice .nil 1 [],.int .i64 0]⟩:=by kernel_rfl
theorem wi:ti Tryz.prog 36=some ⟨.ptr 92,1,8,.nilp⟩:=by kernel_rfl
theorem yz:ti Tryz.prog 22=some ⟨.slice 5,1,24,.slice .nil 1 []⟩:=by kernel_rfl
theorem DR:ti Tryz.prog 5=some ⟨.int .u8,1,1,.int .u8 0⟩:=by kernel_rfl
theorem CL:ti Tryz.prog 210=some ⟨.int .u64,1,8,.int .u64 0⟩:=by kernel_rfl
theorem zx:ti Tryz.prog 239=some ⟨.int .u64,1,8,.int .u64 0⟩:=by kernel_rfl
theorem Cu:ti Tryz.prog 3=some ⟨.int .i64,1,8,.int .i64 0⟩:=by kernel_rfl
theorem A2:ti Tryz.prog 4=some ⟨.bool,1,1,.bool false⟩:=by kernel_rfl
theorem vR:ti Tryz.prog 9=some ⟨.string,1,16,.str []⟩:=by kernel_rfl
theorem xE:ti Tryz.prog 212=some ⟨.struct [(0,210,false),(1,210,false)],2,16,.agg [.int .u64 0,.int .u64 0]⟩:=by kernel_rfl
attribute [go_sem] yk wi yz DR CL zx Cu A2 vR xE
theorem jI {H:AHeap} {i:Nat} {o:AObj} (h:H.get i=some o):(H.set i o).Le H:=⟨Nat.le_refl _,fun j x hj=>by
 rcases AHeap.get_set_inv _ _ hj with ⟨rfl,rfl,_⟩|⟨_,h2⟩
 ·exact h
 ·exact h2⟩
def sG:List AV→AHeap→(AV→Prop)→Prop
 |[.ptr id 0],H,K=>∃ b a,(H.get id=some (.cells [.slice .any 1 (bys b),.int .i64 a]))∧K (.bool (decide (a<(b.length:Int))))
 |_,_,_=>False
theorem Bw:EntOk Tryz.prog 128 (Ent.pure sG):=by
 refine EntOk.pure fun args H K h=>?_
 unfold sG at h
 split at h
 rotate_left
 ·exact h.elim
 rename_i id
 obtain ⟨b,a,hg,hK⟩:=h
 refine ⟨_,hK,?_⟩
 clear hK
 refine ACalls.fW aF TblOk.nil Tryz.func128 [.tmp 2] (Nat.le_refl _) (T:=aD []) (h:=fun hcl hlt=>?_)
 clear hlt
 have hcs:=bE hg
 simp only [go_sem,hcs,zle]
 simp (disch:=first|assumption|omega|(simp;done)|(simp;omega)|(simp only [bt,and_true];first|done|omega|(simp;done))) [↓zmi,beq,List.take_of_length_le,List.drop_append,List.take_append,ah,wk,wk2,wk1,wkM,wkL,ap,List.drop_eq_nil_of_le,hcl]
def zod (b:List UInt8) (a:Int):AObj:=.cells [.slice .any 1 (bys b),.int .i64 a]
theorem Ci {H H1:AHeap} {i:Nat} {o:AObj} (h:∀ j x,j≠i→H.get j=some x→H1.get j=some x) (hg:H1.get i=some o) (hn:H.nx≤H1.nx):(H.set i o).Le H1:=⟨hn,fun j x hj=>by
 rcases AHeap.get_set_inv _ _ hj with ⟨rfl,rfl,_⟩|⟨h1,h2⟩
 ·exact hg
 ·exact h j x h1 h2⟩
theorem nr {n sz:Nat} {l:List AV} (h:∀ x∈l,AV.lt n x):AV.lt n (.slice .any sz l):=by
 rw [AV.lt]
 exact ⟨fun id e=>(by cases e),fun j hj=>h _ (List.getElem_mem hj)⟩
theorem oW {b:List UInt8} {v:Nat}:db b v=zod b ((min v b.length:Nat):Int):=rfl
/-- the next choice, as a function of the choices -/
def bC:List AV→AHeap→(AEnd→AHeap→Prop)→Prop
 |[.ptr id 0,.int .i64 n],H,K=>onC (H.get id) fun b v=>(1≤n∧n≤1000000)∧K (.ret (.int .i64 ((cv b v n.toNat:Nat):Int))) (H.set id (db b (v+1)))
 |_,_,_=>False
theorem jb:EntOk Tryz.prog 37 (Ent.effect bC):=by
 refine EntOk.effect fun args H K h=>?_
 unfold bC at h
 split at h
 rotate_left
 ·exact h.elim
 rename_i id n
 obtain ⟨b,v,hg,hb,hv,⟨hn1,hn2⟩,hK⟩:=jA h
 refine ⟨_,_,hK,?_⟩
 clear hK
 obtain ⟨n,rfl⟩:=Int.eq_ofNat_of_zero_le (show 0≤n by omega)
 simp only [Int.toNat_natCast]
 refine ACalls.fW aF (TblOk.cons Bw TblOk.nil) Tryz.func37 [.tmp 4] (Nat.le_refl _) (T:=aD [(4,[[],[],[],[],[],[],[],[],[],[],[],[3,7,10]])]) (h:=fun hcl hlt=>?_)
 clear hlt
 have hg':H.get id=some (zod b (v:Int)):=by rw [hg,oW];unfold cp;rw [show min (v+0) b.length=v by omega]
 have hcs:=bE (cs:=[.slice .any 1 (bys b),.int .i64 (v:Int)]) hg'
 have hid:=AHeap.get_lt hg
 have hcl2:∀ a',(H.set id (zod b a')).Closed:=fun a'=>ai hcl (by simp [zno,znp,zmz,zmm])
 simp only [go_sem,sG]
 refine ⟨b,v,hg',bj (fun h1=>?_) (fun h1=>aj (fun h2=>by simp at h2;omega) (fun h2=>?_))⟩
 ·have hv2:b.length≤v:=by simp at h1;omega
  have e:H.set id (db b (v+1))=H.set id (zod b (v:Int)):=by
   rw [oW,show min (v+1) b.length=v by omega]
  rw [mS hv2,e]
  simp (disch:=first|assumption|omega|(simp;done)|(simp;omega)|(simp only [bt,and_true];first|done|omega|(simp;done))) [↓zmi,beq,List.take_of_length_le,List.drop_append,List.take_append,ah,wk,wk2,wk1,wkM,wkL,ap,List.drop_eq_nil_of_le,hcl2]
  exact jI hg'
 have hk:v<b.length:=by simp at h1;omega
 have e:db b (v+1)=zod b ((v+1:Nat):Int):=by rw [oW,show min (v+1) b.length=v+1 by omega]
 have e1:IntKind.i64.wrap ((v:Int)+1)=((v+1:Nat):Int):=by rw [wrap_i64]<;>omega
 have e2:IntKind.i64.wrap (((v+1:Nat):Int) - 1)=(v:Int):=by rw [wrap_i64]<;>omega
 have hgd:(bys b).getD v .junk=bp b[v]:=by rw [oH hk];simp [List.getD_eq_getElem?_getD,hk]
 have h8:=UInt8.toNat_lt b[v]
 have e3:IntKind.i64.wrap ((b[v].toNat:Nat):Int)=((b[v].toNat:Nat):Int):=by rw [wrap_i64]<;>omega
 have hc:cv b v n=b[v].toNat % n:=by unfold cv;simp [List.getD_eq_getElem?_getD,hk]
 have ht:(((b[v].toNat:Nat):Int)).tmod (n:Int)=((b[v].toNat % n:Nat):Int):=by
  rw [Int.tmod_eq_emod_of_nonneg (by omega),Int.natCast_emod]
 rw [hc,e]
 simp only [go_sem,hcs,e1,cU hid,e2,Int.toNat_natCast,hgd,zle,bp,e3,ht]
 refine ⟨by omega,by omega,?_⟩
 have hc2:=hcl2 ((v+1:Nat):Int)
 simp (disch:=first|assumption|omega|(simp;done)|(simp;omega)|(simp only [bt,and_true];first|done|omega|(simp;done))) [↓zmi,beq,List.take_of_length_le,List.drop_append,List.take_append,ah,wk,wk2,wk1,wkM,wkL,ap,List.drop_eq_nil_of_le,hc2,zod]
theorem yD {H:AHeap} {id:Nat} {b:List UInt8} {v w:Nat}:(H.set id (db b v)).set id (db b w)=H.set id (db b w):=by
 simp only [AHeap.set];congr 1;funext j;split<;>rfl
end Go.AL
