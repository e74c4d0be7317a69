/- Lemmas of the proof; no condition. -/
import Derived.Test.YtjnhidpnfdbmaaaGreatLVal
import Derived.Test.YtjnhidpnfdbmaaaGreatAlBun
import Derived.Test.YtjnhidpnfdbmaaaGreatLSch2
set_option linter.all false
set_option maxRecDepth 10000
open Go Go.AL Go.Proofs
namespace Go.AL
theorem IR:ti Tryz.prog 76=some ⟨.struct [(0,22,false),(1,3,false)],2,32,.agg [.slice .nil 1 [],.int .i64 0]⟩:=krf
theorem Ft:ti Tryz.prog 40=some ⟨.ptr 76,1,8,.nilp⟩:=krf
theorem Ib:tSl Tryz.prog 22 5:=kSl
theorem Qs:ti Tryz.prog 5=some ⟨.int .u8,1,1,.int .u8 0⟩:=krf
theorem wB:ti Tryz.prog 27=some ⟨.int .u64,1,8,.int .u64 0⟩:=krf
theorem Lc:ti Tryz.prog 163=some ⟨.int .u64,1,8,.int .u64 0⟩:=krf
theorem A7:ti Tryz.prog 3=some ⟨.int .i64,1,8,.int .i64 0⟩:=krf
theorem yD:ti Tryz.prog 4=some ⟨.bool,1,1,.bool false⟩:=krf
theorem Fp:ti Tryz.prog 9=some ⟨.string,1,16,.str []⟩:=krf
theorem qU:ti Tryz.prog 29=some ⟨.struct [(0,27,false),(1,27,false)],2,16,.agg [.int .u64 0,.int .u64 0]⟩:=krf
attribute [go_sem] IR Ft Ib Qs wB Lc A7 yD Fp qU
theorem oY{H:AHeap}{i:Nat}{o:AObj}(h:H.get i=some o):(H.set i o).Le H:=⟨nrq _,fun j x hj=>by
 rcases AHeap.get_set_inv _ _ hj with⟨rfl,rfl,_⟩|⟨_,h2⟩
 ·exact h
 ·exact h2⟩
def A1:PCt
 |[.ptr id 0],H,K=>∃ b a,(H.get id=some (.cells [.slice .any 1 (bys b),.int .i64 a]))∧K (.bool (decide (a<(b.length:Int))))
 |_,_,_=>False
theorem L5:EPp 20 A1:=by
 refine Ype fun _ H K h=>?_
 unfold A1 at h
 split at h<;>try exact h.elim
 rename_i id
 obtain⟨b,a,hg,hK⟩:=h
 refine⟨_,hK,?_⟩
 clear hK
 refine Yfu az tNq Tryz.func20 [.tmp 2] fun hcl=>?_
 have hcs:=ax hg
 simp only[go_sem,hcs,zlk]
 exact Z24
def zod(b:List UInt8)(a:Int):AObj:=.cells [.slice .any 1 (bys b),.int .i64 a]
def uy:ECt
 |[.slice m 1 l,.int .i64 n],H,K=>∃ b,(l=bys b∧0≤n)∧K (.ret (.ptr H.nx 0)) (H.push (zod (b.take (min (b.length:Int) n).toNat) 0))
 |_,_,_=>False
theorem Gu:EEe 7 uy:=by
 refine Yef fun _ H K h=>?_
 unfold uy at h
 split at h<;>try exact h.elim
 rename_i m l n
 obtain⟨b,⟨rfl,hn⟩,hK⟩:=h
 refine⟨_,_,hK,?_⟩
 clear hK
 refine Yfw az tNq Tryz.func7 [.tmp 4] (Nat.le_succ _) (T:=ay []) (h:=fun hcl=>?_)
 simp only[go_sem,zlk,List.drop_zero,zlm]
 refine⟨Xa,?_⟩
 simp (disch:=first|exact Zd|omega) [↓zmo,beq,List.take_of_length_le,List.drop_append,List.take_append,af,wk,wk2,wk1,wkM,wkL,aj,List.drop_eq_nil_of_le,hcl,zod]
 (repeat' (first|assumption|omega|exact True.intro|refine And.intro ?_ ?_|refine ag ?_|refine ae ?_|refine aa ?_ ?_|refine ai ?_ ?_|refine au ?_|exact lRq _|refine lPq ?_ _|refine AHeap.Le.del ?_ ?_|(simp only[bt,and_true,true_and,zms];first|done|omega|(simp;done))))
theorem N4{H H1:AHeap}{i:Nat}{o:AObj}(h:∀ j x,j≠i→H.get j=some x→H1.get j=some x)(hg:H1.get i=some o)(hn:H.nx≤H1.nx):(H.set i o).Le H1:=⟨hn,fun j x hj=>by
 rcases AHeap.get_set_inv _ _ hj with⟨rfl,rfl,_⟩|⟨h1,h2⟩
 ·exact hg
 ·exact h j x h1 h2⟩
theorem HN{n sz:Nat}{l:List AV}(h:∀ x∈l,AV.lt n x):AV.lt n (.slice .any sz l):=by
 exact V165
theorem xX{b:List UInt8}{v:Nat}:dV b v=zod b ((min v b.length:Nat):Int):=rfl
def bD:ECt
 |[.ptr id 0,.int .i64 n],H,K=>onC (H.get id) fun b v=>(1≤n∧n≤1000000)∧K (.ret (.int .i64 ((cv b v n.toNat:Nat):Int))) (H.set id (dV b (v+1)))
 |_,_,_=>False
theorem jG:EEe 21 bD:=by
 refine Yef fun _ H K h=>?_
 unfold bD at h
 split at h<;>try exact h.elim
 rename_i id n
 obtain⟨b,v,hg,hb,hv,⟨hn1,hn2⟩,hK⟩:=jL h
 refine⟨_,_,hK,?_⟩
 clear hK
 obtain⟨n,rfl⟩:=Int.eq_ofNat_of_zero_le (show 0≤n by omega)
 simp only[iNq]
 refine Yfw az (tCq L5 tNq) Tryz.func21 [.tmp 4] (nrq _) (T:=ay [(4,[[],[],[],[],[],[],[],[],[],[],[],[3,7,10]])]) (h:=fun hcl=>?_)
 have hg':H.get id=some (zod b (v:Int)):=by rw[hg,xX];unfold cp;rw[show min (v+0) b.length=v by omega]
 have hcs:=ax (cs:=[.slice .any 1 (bys b),.int .i64 (v:Int)]) hg'
 have hid:=glq hg
 have hcl2:∀ a',(H.set id (zod b a')).Closed:=fun a'=>ai hcl (by simp[znu,znv,znf,zms])
 simp only[go_sem,A1]
 refine⟨b,v,hg',bx (fun h1=>?_) (fun h1=>aq (fun h2=>by simp at h2;omega) (fun h2=>?_))⟩
 ·have hv2:b.length≤v:=by simp at h1;omega
  have e:H.set id (dV b (v+1))=H.set id (zod b (v:Int)):=by
   rw[xX,show min (v+1) b.length=v by omega]
  rw[uh hv2,e]
  simp (disch:=first|exact Zd|omega) [↓zmo,beq,List.take_of_length_le,List.drop_append,List.take_append,af,wk,wk2,wk1,wkM,wkL,aj,List.drop_eq_nil_of_le,hcl2]
  exact oY hg'
 have hk:v<b.length:=by simp at h1;omega
 have e:dV b (v+1)=zod b ((v+1:Nat):Int):=by rw[xX,show min (v+1) b.length=v+1 by omega]
 have e1:IntKind.i64.wrap ((v:Int)+1)=((v+1:Nat):Int):=Xe
 have e2:IntKind.i64.wrap (((v+1:Nat):Int)-1)=(v:Int):=Xe
 have hgd:(bys b).getD v .junk=cq b[v]:=by rw[Bo hk];simp[gEq,hk]
 have h8:=UInt8.toNat_lt b[v]
 have e3:IntKind.i64.wrap ((b[v].toNat:Nat):Int)=((b[v].toNat:Nat):Int):=Xe
 have hc:cv b v n=b[v].toNat%n:=by unfold cv;simp[gEq,hk]
 have ht:(((b[v].toNat:Nat):Int)).tmod (n:Int)=((b[v].toNat%n:Nat):Int):=by
  rw[Int.tmod_eq_emod_of_nonneg Xa,Int.natCast_emod]
 rw[hc,e]
 simp only[go_sem,hcs,e1,fx hid,e2,iNq,hgd,zlk,cq,e3,ht]
 refine⟨Xa,Xa,?_⟩
 have hc2:=hcl2 ((v+1:Nat):Int)
 simp (disch:=first|exact Zd|omega) [↓zmo,beq,List.take_of_length_le,List.drop_append,List.take_append,af,wk,wk2,wk1,wkM,wkL,aj,List.drop_eq_nil_of_le,hc2,zod]
theorem Hv{H:AHeap}{id:Nat}{b:List UInt8}{v w:Nat}:(H.set id (dV b v)).set id (dV b w)=H.set id (dV b w):=by
 simp only[AHeap.set];congr 1;funext j;split<;>rfl
theorem Kb{x n:Int}(h:0<n):(x.tmod n+n).tmod n=x%n:=by
 have h1:=Int.lt_tmod_of_pos x h
 rw[Int.tmod_eq_emod_of_nonneg Xa,Int.add_emod_right,Int.tmod_def,Int.sub_mul_emod_self_left]
def jR:PCt
 |[.int .i64 x,.int .i64 n],_,K=>(-9223372036854775808≤x∧x≤9223372036854775807∧1≤n∧n≤4000000000000000000)∧K (.int .i64 (x%n))
 |_,_,_=>False
theorem Hj:EPp 10 jR:=by
 refine Ype fun _ H K h=>?_
 unfold jR at h
 split at h<;>try exact h.elim
 rename_i x n
 obtain⟨⟨hx1,hx2,hn1,hn2⟩,hK⟩:=h
 refine⟨_,hK,?_⟩
 clear hK
 rw[← Kb (Xa)]
 refine Yfu az tNq Tryz.func10 [.tmp 4] fun hcl=>?_
 refine T9 ?_
 refine aq (fun h=>by simp at h;omega) (fun _=>?_)
 have b1 : -n<x.tmod n∧x.tmod n<n:=by
  have h1:=Int.lt_tmod_of_pos x (show 0<n by omega)
  have h2:=Int.tmod_lt_of_pos x (show 0<n by omega)
  exact⟨h1,h2⟩
 have e1:IntKind.i64.wrap (x.tmod n+n)=x.tmod n+n:=Xe
 simp only[go_sem,e1]
 refine⟨Xa,Xa,?_⟩
 exact Z24
end Go.AL
