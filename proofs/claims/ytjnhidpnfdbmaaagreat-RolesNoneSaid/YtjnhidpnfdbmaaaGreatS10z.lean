/- Lemmas of the proof; no condition. -/
import Derived.Test.YtjnhidpnfdbmaaaGreatLVal
import Derived.Test.YtjnhidpnfdbmaaaGreatAlBun
import Derived.Test.YtjnhidpnfdbmaaaGreatLSch2
set_option linter.all false
set_option maxRecDepth 10000
open Go Go.AL Go.Proofs
namespace Go.AL
theorem Ci:ti Tryz.prog 76=some ⟨.struct [(0,22,false),(1,3,false)],2,32,.agg [.slice .nil 1 [],.int .i64 0]⟩:=by kernel_rfl
theorem zB:ti Tryz.prog 40=some ⟨.ptr 76,1,8,.nilp⟩:=by kernel_rfl
theorem D8:ti Tryz.prog 22=some ⟨.slice 5,1,24,.slice .nil 1 []⟩:=by kernel_rfl
theorem K6:ti Tryz.prog 5=some ⟨.int .u8,1,1,.int .u8 0⟩:=by kernel_rfl
theorem sb:ti Tryz.prog 27=some ⟨.int .u64,1,8,.int .u64 0⟩:=by kernel_rfl
theorem Fy:ti Tryz.prog 163=some ⟨.int .u64,1,8,.int .u64 0⟩:=by kernel_rfl
theorem w4:ti Tryz.prog 3=some ⟨.int .i64,1,8,.int .i64 0⟩:=by kernel_rfl
theorem ux:ti Tryz.prog 4=some ⟨.bool,1,1,.bool false⟩:=by kernel_rfl
theorem zT:ti Tryz.prog 9=some ⟨.string,1,16,.str []⟩:=by kernel_rfl
theorem nq:ti Tryz.prog 29=some ⟨.struct [(0,27,false),(1,27,false)],2,16,.agg [.int .u64 0,.int .u64 0]⟩:=by kernel_rfl
attribute [go_sem] Ci zB D8 K6 sb Fy w4 ux zT nq
theorem lx {H:AHeap} {i:Nat} {o:AObj} (h:H.get i=some o):(H.set i o).Le H:=⟨nrq _,fun j x hj=>by
 rcases AHeap.get_set_inv _ _ hj with ⟨rfl,rfl,_⟩|⟨_,h2⟩
 ·exact h
 ·exact h2⟩
def wr:List AV→AHeap→(AV→Prop)→Prop
 |[.ptr id 0],H,K=>∃ b a,(H.get id=some (.cells [.slice .any 1 (bys b),.int .i64 a]))∧K (.bool (decide (a<(b.length:Int))))
 |_,_,_=>False
theorem Ev:EntOk Tryz.prog 20 (Ent.pure wr):=by
 refine Ype fun _ H K h=>?_
 unfold wr at h
 split at h
 rotate_left
 ·exact h.elim
 rename_i id
 obtain ⟨b,a,hg,hK⟩:=h
 refine ⟨_,hK,?_⟩
 clear hK
 refine ACalls.fW ax tNq Tryz.func20 [.tmp 2] (nrq _) (T:=aq []) (h:=fun hcl hlt=>?_)
 clear hlt
 have hcs:=au hg
 simp only [go_sem,hcs,zlk]
 exact Z7
def zod (b:List UInt8) (a:Int):AObj:=.cells [.slice .any 1 (bys b),.int .i64 a]
def mw:List AV→AHeap→(AEnd→AHeap→Prop)→Prop
 |[.slice m 1 l,.int .i64 n],H,K=>∃ b,(l=bys b∧0≤n)∧K (.ret (.ptr H.nx 0)) (H.push (zod (b.take (min (b.length:Int) n).toNat) 0))
 |_,_,_=>False
theorem xu:EntOk Tryz.prog 7 (Ent.effect mw):=by
 refine EntOk.effect fun args H K h=>?_
 unfold mw at h
 split at h
 rotate_left
 ·exact h.elim
 rename_i m l n
 obtain ⟨b,⟨rfl,hn⟩,hK⟩:=h
 refine ⟨_,_,hK,?_⟩
 clear hK
 refine ACalls.fW ax tNq Tryz.func7 [.tmp 4] (Nat.le_succ _) (T:=aq []) (h:=fun hcl hlt=>?_)
 clear hlt
 simp only [go_sem,zlk,List.drop_zero,zlm]
 refine ⟨by omega,?_⟩
 simp (disch:=first|exact Zd|omega) [↓zmo,beq,List.take_of_length_le,List.drop_append,List.take_append,ae,wk,wk2,wk1,wkM,wkL,ah,List.drop_eq_nil_of_le,hcl,zod]
 (repeat' (first|assumption|omega|exact True.intro|refine And.intro ?_ ?_|refine ag ?_|refine af ?_|refine aa ?_ ?_|refine ai ?_ ?_|refine az ?_|exact lRq _|refine lPq ?_ _|refine AHeap.Le.del ?_ ?_|(simp only [bt,and_true,true_and,zms];first|done|omega|(simp;done))))
theorem IG {H H1:AHeap} {i:Nat} {o:AObj} (h:∀ j x,j≠i→H.get j=some x→H1.get j=some x) (hg:H1.get i=some o) (hn:H.nx≤H1.nx):(H.set i o).Le H1:=⟨hn,fun j x hj=>by
 rcases AHeap.get_set_inv _ _ hj with ⟨rfl,rfl,_⟩|⟨h1,h2⟩
 ·exact hg
 ·exact h j x h1 h2⟩
theorem Cj {n sz:Nat} {l:List AV} (h:∀ x∈l,AV.lt n x):AV.lt n (.slice .any sz l):=by
 rw [AV.lt]
 exact ⟨fun id e=>(by cases e),fun j hj=>h _ (gMq hj)⟩
theorem tC {b:List UInt8} {v:Nat}:co b v=zod b ((min v b.length:Nat):Int):=rfl
def aX:List AV→AHeap→(AEnd→AHeap→Prop)→Prop
 |[.ptr id 0,.int .i64 n],H,K=>onC (H.get id) fun b v=>(1≤n∧n≤1000000)∧K (.ret (.int .i64 ((cv b v n.toNat:Nat):Int))) (H.set id (co b (v+1)))
 |_,_,_=>False
theorem gI:EntOk Tryz.prog 21 (Ent.effect aX):=by
 refine EntOk.effect fun args H K h=>?_
 unfold aX at h
 split at h
 rotate_left
 ·exact h.elim
 rename_i id n
 obtain ⟨b,v,hg,hb,hv,⟨hn1,hn2⟩,hK⟩:=iF h
 refine ⟨_,_,hK,?_⟩
 clear hK
 obtain ⟨n,rfl⟩:=Int.eq_ofNat_of_zero_le (show 0≤n by omega)
 simp only [iNq]
 refine ACalls.fW ax (tCq Ev tNq) Tryz.func21 [.tmp 4] (nrq _) (T:=aq [(4,[[],[],[],[],[],[],[],[],[],[],[],[3,7,10]])]) (h:=fun hcl hlt=>?_)
 clear hlt
 have hg':H.get id=some (zod b (v:Int)):=by rw [hg,tC];unfold cp;rw [show min (v+0) b.length=v by omega]
 have hcs:=au (cs:=[.slice .any 1 (bys b),.int .i64 (v:Int)]) hg'
 have hid:=glq hg
 have hcl2:∀ a',(H.set id (zod b a')).Closed:=fun a'=>ai hcl (by simp [znu,znv,znf,zms])
 simp only [go_sem,wr]
 refine ⟨b,v,hg',bB (fun h1=>?_) (fun h1=>aj (fun h2=>by simp at h2;omega) (fun h2=>?_))⟩
 ·have hv2:b.length≤v:=by simp at h1;omega
  have e:H.set id (co b (v+1))=H.set id (zod b (v:Int)):=by
   rw [tC,show min (v+1) b.length=v by omega]
  rw [oV hv2,e]
  simp (disch:=first|exact Zd|omega) [↓zmo,beq,List.take_of_length_le,List.drop_append,List.take_append,ae,wk,wk2,wk1,wkM,wkL,ah,List.drop_eq_nil_of_le,hcl2]
  exact lx hg'
 have hk:v<b.length:=by simp at h1;omega
 have e:co b (v+1)=zod b ((v+1:Nat):Int):=by rw [tC,show min (v+1) b.length=v+1 by omega]
 have e1:IntKind.i64.wrap ((v:Int)+1)=((v+1:Nat):Int):=by rw [wrap_i64]<;>omega
 have e2:IntKind.i64.wrap (((v+1:Nat):Int) - 1)=(v:Int):=by rw [wrap_i64]<;>omega
 have hgd:(bys b).getD v .junk=bY b[v]:=by rw [xr hk];simp [gEq,hk]
 have h8:=UInt8.toNat_lt b[v]
 have e3:IntKind.i64.wrap ((b[v].toNat:Nat):Int)=((b[v].toNat:Nat):Int):=by rw [wrap_i64]<;>omega
 have hc:cv b v n=b[v].toNat % n:=by unfold cv;simp [gEq,hk]
 have ht:(((b[v].toNat:Nat):Int)).tmod (n:Int)=((b[v].toNat % n:Nat):Int):=by
  rw [Int.tmod_eq_emod_of_nonneg (by omega),Int.natCast_emod]
 rw [hc,e]
 simp only [go_sem,hcs,e1,dM hid,e2,iNq,hgd,zlk,bY,e3,ht]
 refine ⟨by omega,by omega,?_⟩
 have hc2:=hcl2 ((v+1:Nat):Int)
 simp (disch:=first|exact Zd|omega) [↓zmo,beq,List.take_of_length_le,List.drop_append,List.take_append,ae,wk,wk2,wk1,wkM,wkL,ah,List.drop_eq_nil_of_le,hc2,zod]
theorem Ch {H:AHeap} {id:Nat} {b:List UInt8} {v w:Nat}:(H.set id (co b v)).set id (co b w)=H.set id (co b w):=by
 simp only [AHeap.set];congr 1;funext j;split<;>rfl
theorem E8 {x n:Int} (h:0<n):(x.tmod n+n).tmod n=x % n:=by
 have h1:=Int.lt_tmod_of_pos x h
 rw [Int.tmod_eq_emod_of_nonneg (by omega),Int.add_emod_right,Int.tmod_def,Int.sub_mul_emod_self_left]
def gu:List AV→AHeap→(AV→Prop)→Prop
 |[.int .i64 x,.int .i64 n],_,K=>(-9223372036854775808≤x∧x≤9223372036854775807∧1≤n∧n≤4000000000000000000)∧K (.int .i64 (x % n))
 |_,_,_=>False
theorem wt:EntOk Tryz.prog 10 (Ent.pure gu):=by
 refine Ype fun _ H K h=>?_
 unfold gu at h
 split at h
 rotate_left
 ·exact h.elim
 rename_i x n
 obtain ⟨⟨hx1,hx2,hn1,hn2⟩,hK⟩:=h
 refine ⟨_,hK,?_⟩
 clear hK
 rw [← E8 (by omega)]
 refine ACalls.fW ax tNq Tryz.func10 [.tmp 4] (nrq _) (T:=aq []) (h:=fun hcl hlt=>?_)
 clear hlt
 simp only [go_sem]
 refine aj (fun h=>by simp at h;omega) (fun _=>?_)
 have b1 : -n<x.tmod n∧x.tmod n<n:=by
  have h1:=Int.lt_tmod_of_pos x (show 0<n by omega)
  have h2:=Int.tmod_lt_of_pos x (show 0<n by omega)
  exact ⟨h1,h2⟩
 have e1:IntKind.i64.wrap (x.tmod n+n)=x.tmod n+n:=by rw [wrap_i64]<;>omega
 simp only [go_sem,e1]
 refine ⟨by omega,by omega,?_⟩
 exact Z7
end Go.AL
