/- Contracts and plain laws, a part of the proof; no condition of its own. -/
import Derived.Test.YtokjjhidigoodaaLVal
import Derived.Test.YtokjjhidigoodaaAlBun
import Derived.Test.YtokjjhidigoodaaLSch2
open Go Go.AL Go.Proofs
namespace Go.AL
set_option linter.all false
set_option maxRecDepth 10000
theorem xW:ti Try.prog 67=some ⟨.struct [(0,22,false),(1,3,false)],2,32,.agg [.slice .nil 1 [],.int .i64 0]⟩:=by kernel_rfl
theorem uC:ti Try.prog 24=some ⟨.ptr 67,1,8,.nilp⟩:=by kernel_rfl
theorem yI:ti Try.prog 22=some ⟨.slice 5,1,24,.slice .nil 1 []⟩:=by kernel_rfl
theorem Dg:ti Try.prog 5=some ⟨.int .u8,1,1,.int .u8 0⟩:=by kernel_rfl
theorem Bi:ti Try.prog 93=some ⟨.int .u64,1,8,.int .u64 0⟩:=by kernel_rfl
theorem zC:ti Try.prog 177=some ⟨.int .u64,1,8,.int .u64 0⟩:=by kernel_rfl
theorem Bo:ti Try.prog 3=some ⟨.int .i64,1,8,.int .i64 0⟩:=by kernel_rfl
theorem zw:ti Try.prog 4=some ⟨.bool,1,1,.bool false⟩:=by kernel_rfl
theorem vF:ti Try.prog 9=some ⟨.string,1,16,.str []⟩:=by kernel_rfl
theorem yq:ti Try.prog 95=some ⟨.struct [(0,93,false),(1,93,false)],2,16,.agg [.int .u64 0,.int .u64 0]⟩:=by kernel_rfl
attribute [go_sem] xW uC yI Dg Bi zC Bo zw vF yq
theorem iW {H:AHeap} {i:Nat} {o:AObj} (h:H.get i=some o):(H.set i o).Le H:=⟨Nat.le_refl _,fun j x hj=>by
 rcases AHeap.get_set_inv _ _ hj with ⟨rfl,rfl,_⟩|⟨_,h2⟩
 ·exact h
 ·exact h2⟩
def rn:List AV→AHeap→(AV→Prop)→Prop
 |[.ptr id 0],H,K=>∃ b a,(H.get id=some (.cells [.slice .any 1 (bys b),.int .i64 a]))∧K (.bool (decide (a<(b.length:Int))))
 |_,_,_=>False
theorem zu:EntOk Try.prog 35 (Ent.pure rn):=by
 refine EntOk.pure fun args H K h=>?_
 unfold rn at h
 split at h
 rotate_left
 ·exact h.elim
 rename_i id
 obtain ⟨b,a,hg,hK⟩:=h
 refine ⟨_,hK,?_⟩
 clear hK
 refine ACalls.fW aD TblOk.nil Try.func35 [.tmp 2] (Nat.le_refl _) (T:=az []) (h:=fun hcl hlt=>?_)
 clear hlt
 have hcs:=ai hg
 simp only [go_sem,hcs,zlg]
 simp (disch:=first|assumption|omega|(simp;done)|(simp;omega)|(simp only [bt,and_true];first|done|omega|(simp;done))) [↓zmk,beq,List.take_of_length_le,List.drop_append,List.take_append,ag,wk,wk2,wk1,wkM,wkL,am,List.drop_eq_nil_of_le,hcl]
def zod (b:List UInt8) (a:Int):AObj:=.cells [.slice .any 1 (bys b),.int .i64 a]
theorem Cv {H H1:AHeap} {i:Nat} {o:AObj} (h:∀ j x,j≠i→H.get j=some x→H1.get j=some x) (hg:H1.get i=some o) (hn:H.nx≤H1.nx):(H.set i o).Le H1:=⟨hn,fun j x hj=>by
 rcases AHeap.get_set_inv _ _ hj with ⟨rfl,rfl,_⟩|⟨h1,h2⟩
 ·exact hg
 ·exact h j x h1 h2⟩
theorem wF {n sz:Nat} {l:List AV} (h:∀ x∈l,AV.lt n x):AV.lt n (.slice .any sz l):=by
 rw [AV.lt]
 exact ⟨fun id e=>(by cases e),fun j hj=>h _ (List.getElem_mem hj)⟩
theorem oA {b:List UInt8} {v:Nat}:dl b v=zod b ((min v b.length:Nat):Int):=rfl
/-- the next choice, as a function of the choices -/
def bj:List AV→AHeap→(AEnd→AHeap→Prop)→Prop
 |[.ptr id 0,.int .i64 n],H,K=>onC (H.get id) fun b v=>(1≤n∧n≤1000000)∧K (.ret (.int .i64 ((cv b v n.toNat:Nat):Int))) (H.set id (dl b (v+1)))
 |_,_,_=>False
theorem iG:EntOk Try.prog 17 (Ent.effect bj):=by
 refine EntOk.effect fun args H K h=>?_
 unfold bj at h
 split at h
 rotate_left
 ·exact h.elim
 rename_i id n
 obtain ⟨b,v,hg,hb,hv,⟨hn1,hn2⟩,hK⟩:=jd h
 refine ⟨_,_,hK,?_⟩
 clear hK
 obtain ⟨n,rfl⟩:=Int.eq_ofNat_of_zero_le (show 0≤n by omega)
 simp only [Int.toNat_natCast]
 refine ACalls.fW aD (TblOk.cons zu TblOk.nil) Try.func17 [.tmp 4] (Nat.le_refl _) (T:=az [(4,[[],[],[],[],[],[],[],[],[],[],[],[3,7,10]])]) (h:=fun hcl hlt=>?_)
 clear hlt
 have hg':H.get id=some (zod b (v:Int)):=by rw [hg,oA];unfold cp;rw [show min (v+0) b.length=v by omega]
 have hcs:=ai (cs:=[.slice .any 1 (bys b),.int .i64 (v:Int)]) hg'
 have hid:=AHeap.get_lt hg
 have hcl2:∀ a',(H.set id (zod b a')).Closed:=fun a'=>ah hcl (by simp [znq,znr,znb,zmo])
 simp only [go_sem,rn]
 refine ⟨b,v,hg',cf (fun h1=>?_) (fun h1=>ax (fun h2=>by simp at h2;omega) (fun h2=>?_))⟩
 ·have hv2:b.length≤v:=by simp at h1;omega
  have e:H.set id (dl b (v+1))=H.set id (zod b (v:Int)):=by
   rw [oA,show min (v+1) b.length=v by omega]
  rw [lS hv2,e]
  simp (disch:=first|assumption|omega|(simp;done)|(simp;omega)|(simp only [bt,and_true];first|done|omega|(simp;done))) [↓zmk,beq,List.take_of_length_le,List.drop_append,List.take_append,ag,wk,wk2,wk1,wkM,wkL,am,List.drop_eq_nil_of_le,hcl2]
  exact iW hg'
 have hk:v<b.length:=by simp at h1;omega
 have e:dl b (v+1)=zod b ((v+1:Nat):Int):=by rw [oA,show min (v+1) b.length=v+1 by omega]
 have e1:IntKind.i64.wrap ((v:Int)+1)=((v+1:Nat):Int):=by rw [wrap_i64]<;>omega
 have e2:IntKind.i64.wrap (((v+1:Nat):Int) - 1)=(v:Int):=by rw [wrap_i64]<;>omega
 have hgd:(bys b).getD v .junk=bC b[v]:=by rw [rH hk];simp [List.getD_eq_getElem?_getD,hk]
 have h8:=UInt8.toNat_lt b[v]
 have e3:IntKind.i64.wrap ((b[v].toNat:Nat):Int)=((b[v].toNat:Nat):Int):=by rw [wrap_i64]<;>omega
 have hc:cv b v n=b[v].toNat % n:=by unfold cv;simp [List.getD_eq_getElem?_getD,hk]
 have ht:(((b[v].toNat:Nat):Int)).tmod (n:Int)=((b[v].toNat % n:Nat):Int):=by
  rw [Int.tmod_eq_emod_of_nonneg (by omega),Int.natCast_emod]
 rw [hc,e]
 simp only [go_sem,hcs,e1,eZ hid,e2,Int.toNat_natCast,hgd,zlg,bC,e3,ht]
 refine ⟨by omega,by omega,?_⟩
 have hc2:=hcl2 ((v+1:Nat):Int)
 simp (disch:=first|assumption|omega|(simp;done)|(simp;omega)|(simp only [bt,and_true];first|done|omega|(simp;done))) [↓zmk,beq,List.take_of_length_le,List.drop_append,List.take_append,ag,wk,wk2,wk1,wkM,wkL,am,List.drop_eq_nil_of_le,hc2,zod]
theorem wP {H:AHeap} {id:Nat} {b:List UInt8} {v w:Nat}:(H.set id (dl b v)).set id (dl b w)=H.set id (dl b w):=by
 simp only [AHeap.set];congr 1;funext j;split<;>rfl
theorem A4 {x n:Int} (h:0<n):(x.tmod n+n).tmod n=x % n:=by
 have h1:=Int.lt_tmod_of_pos x h
 rw [Int.tmod_eq_emod_of_nonneg (by omega),Int.add_emod_right,Int.tmod_def,Int.sub_mul_emod_self_left]
def oI:List AV→AHeap→(AV→Prop)→Prop
 |[.int .i64 x,.int .i64 n],_,K=>(-9223372036854775808≤x∧x≤9223372036854775807∧1≤n∧n≤4000000000000000000)∧K (.int .i64 (x % n))
 |_,_,_=>False
theorem Cf:EntOk Try.prog 11 (Ent.pure oI):=by
 refine EntOk.pure fun args H K h=>?_
 unfold oI at h
 split at h
 rotate_left
 ·exact h.elim
 rename_i x n
 obtain ⟨⟨hx1,hx2,hn1,hn2⟩,hK⟩:=h
 refine ⟨_,hK,?_⟩
 clear hK
 rw [← A4 (by omega)]
 refine ACalls.fW aD TblOk.nil Try.func11 [.tmp 4] (Nat.le_refl _) (T:=az []) (h:=fun hcl hlt=>?_)
 clear hlt
 simp only [go_sem]
 refine ax (fun h=>by simp at h;omega) (fun _=>?_)
 have b1 : -n<x.tmod n∧x.tmod n<n:=by
  have h1:=Int.lt_tmod_of_pos x (show 0<n by omega)
  have h2:=Int.tmod_lt_of_pos x (show 0<n by omega)
  exact ⟨h1,h2⟩
 have e1:IntKind.i64.wrap (x.tmod n+n)=x.tmod n+n:=by rw [wrap_i64]<;>omega
 simp only [go_sem,e1]
 refine ⟨by omega,by omega,?_⟩
 simp (disch:=first|assumption|omega|(simp;done)|(simp;omega)|(simp only [bt,and_true];first|done|omega|(simp;done))) [↓zmk,beq,List.take_of_length_le,List.drop_append,List.take_append,ag,wk,wk2,wk1,wkM,wkL,am,List.drop_eq_nil_of_le,hcl]
end Go.AL
