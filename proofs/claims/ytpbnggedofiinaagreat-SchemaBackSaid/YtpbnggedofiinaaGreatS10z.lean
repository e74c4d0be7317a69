/- Lemmas of the proof; no condition. -/
import Derived.Test.YtpbnggedofiinaaGreatProg
import Derived.Test.YtpbnggedofiinaaGreatAlBun
import Derived.Test.YtpbnggedofiinaaGreatLGen
set_option linter.all false
set_option maxRecDepth 10000
open Go Go.AL Go.Proofs
namespace Go.AL
theorem ag:Tryz.prog.follows .mixedOrders=true:=by kernel_rfl
theorem AM:ti Tryz.prog 69=some ⟨.struct [(0,22,false),(1,3,false)],2,32,.agg [.slice .nil 1 [],.int .i64 0]⟩:=by kernel_rfl
theorem wL:ti Tryz.prog 33=some ⟨.ptr 69,1,8,.nilp⟩:=by kernel_rfl
theorem Bc:ti Tryz.prog 22=some ⟨.slice 5,1,24,.slice .nil 1 []⟩:=by kernel_rfl
theorem Ho:ti Tryz.prog 5=some ⟨.int .u8,1,1,.int .u8 0⟩:=by kernel_rfl
theorem F7:ti Tryz.prog 36=some ⟨.int .u64,1,8,.int .u64 0⟩:=by kernel_rfl
theorem D6:ti Tryz.prog 229=some ⟨.int .u64,1,8,.int .u64 0⟩:=by kernel_rfl
theorem F4:ti Tryz.prog 3=some ⟨.int .i64,1,8,.int .i64 0⟩:=by kernel_rfl
theorem Cy:ti Tryz.prog 4=some ⟨.bool,1,1,.bool false⟩:=by kernel_rfl
theorem yh:ti Tryz.prog 9=some ⟨.string,1,16,.str []⟩:=by kernel_rfl
theorem zJ:ti Tryz.prog 38=some ⟨.struct [(0,36,false),(1,36,false)],2,16,.agg [.int .u64 0,.int .u64 0]⟩:=by kernel_rfl
attribute [go_sem] AM wL Bc Ho F7 D6 F4 Cy yh zJ
theorem lS {H:AHeap} {i:Nat} {o:AObj} (h:H.get i=some o):(H.set i o).Le H:=⟨nrq _,fun j x hj=>by
 rcases AHeap.get_set_inv _ _ hj with ⟨rfl,rfl,_⟩|⟨_,h2⟩
 ·exact h
 ·exact h2⟩
def ud:List AV→AHeap→(AV→Prop)→Prop
 |[.ptr id 0],H,K=>∃ b a,(H.get id=some (.cells [.slice .any 1 (bys b),.int .i64 a]))∧K (.bool (decide (a<(b.length:Int))))
 |_,_,_=>False
theorem DC:EntOk Tryz.prog 106 (Ent.pure ud):=by
 refine Ype fun _ H K h=>?_
 unfold ud at h
 split at h
 rotate_left
 ·exact h.elim
 rename_i id
 obtain ⟨b,a,hg,hK⟩:=h
 refine ⟨_,hK,?_⟩
 clear hK
 refine ACalls.fW ag tNq Tryz.func106 [.tmp 2] (nrq _) (T:=af []) (h:=fun hcl hlt=>?_)
 clear hlt
 have hcs:=ax hg
 simp only [go_sem,hcs,zlk]
 exact Z0
def zod (b:List UInt8) (a:Int):AObj:=.cells [.slice .any 1 (bys b),.int .i64 a]
def uU:List AV→AHeap→(AEnd→AHeap→Prop)→Prop
 |[.slice m 1 l,.int .i64 n],H,K=>∃ b,(l=bys b∧0≤n)∧K (.ret (.ptr H.nx 0)) (H.push (zod (b.take (min (b.length:Int) n).toNat) 0))
 |_,_,_=>False
theorem Fd:EntOk Tryz.prog 5 (Ent.effect uU):=by
 refine EntOk.effect fun args H K h=>?_
 unfold uU at h
 split at h
 rotate_left
 ·exact h.elim
 rename_i m l n
 obtain ⟨b,⟨rfl,hn⟩,hK⟩:=h
 refine ⟨_,_,hK,?_⟩
 clear hK
 refine ACalls.fW ag tNq Tryz.func5 [.tmp 4] (Nat.le_succ _) (T:=af []) (h:=fun hcl hlt=>?_)
 clear hlt
 simp only [go_sem,zlk,List.drop_zero,zlm]
 refine ⟨by omega,?_⟩
 simp (disch:=first|exact Zd|omega) [↓zmo,beq,List.take_of_length_le,List.drop_append,List.take_append,aa,wk,wk2,wk1,wkM,wkL,ak,List.drop_eq_nil_of_le,hcl,zod]
 (repeat' (first|assumption|omega|exact True.intro|refine And.intro ?_ ?_|refine aF ?_|refine kC ?_|refine aj ?_ ?_|refine cF ?_ ?_|refine wX ?_|exact lRq _|refine lPq ?_ _|refine AHeap.Le.del ?_ ?_|(simp only [bt,and_true,true_and,zms];first|done|omega|(simp;done))))
theorem Ff {H H1:AHeap} {i:Nat} {o:AObj} (h:∀ j x,j≠i→H.get j=some x→H1.get j=some x) (hg:H1.get i=some o) (hn:H.nx≤H1.nx):(H.set i o).Le H1:=⟨hn,fun j x hj=>by
 rcases AHeap.get_set_inv _ _ hj with ⟨rfl,rfl,_⟩|⟨h1,h2⟩
 ·exact hg
 ·exact h j x h1 h2⟩
theorem tu {n sz:Nat} {l:List AV} (h:∀ x∈l,AV.lt n x):AV.lt n (.slice .any sz l):=by
 rw [AV.lt]
 exact ⟨fun id e=>(by cases e),fun j hj=>h _ (gMq hj)⟩
theorem rR {b:List UInt8} {v:Nat}:fo b v=zod b ((min v b.length:Nat):Int):=rfl
def bR:List AV→AHeap→(AEnd→AHeap→Prop)→Prop
 |[.ptr id 0,.int .i64 n],H,K=>onC (H.get id) fun b v=>(1≤n∧n≤1000000)∧K (.ret (.int .i64 ((cv b v n.toNat:Nat):Int))) (H.set id (fo b (v+1)))
 |_,_,_=>False
theorem lm:EntOk Tryz.prog 24 (Ent.effect bR):=by
 refine EntOk.effect fun args H K h=>?_
 unfold bR at h
 split at h
 rotate_left
 ·exact h.elim
 rename_i id n
 obtain ⟨b,v,hg,hb,hv,⟨hn1,hn2⟩,hK⟩:=lQ h
 refine ⟨_,_,hK,?_⟩
 clear hK
 obtain ⟨n,rfl⟩:=Int.eq_ofNat_of_zero_le (show 0≤n by omega)
 simp only [iNq]
 refine ACalls.fW ag (tCq DC tNq) Tryz.func24 [.tmp 4] (nrq _) (T:=af [(4,[[],[],[],[],[],[],[],[],[],[],[],[3,7,10]])]) (h:=fun hcl hlt=>?_)
 clear hlt
 have hg':H.get id=some (zod b (v:Int)):=by rw [hg,rR];unfold cp;rw [show min (v+0) b.length=v by omega]
 have hcs:=ax (cs:=[.slice .any 1 (bys b),.int .i64 (v:Int)]) hg'
 have hid:=glq hg
 have hcl2:∀ a',(H.set id (zod b a')).Closed:=fun a'=>cF hcl (by simp [znu,znv,znf,zms])
 simp only [go_sem,ud]
 refine ⟨b,v,hg',bK (fun h1=>?_) (fun h1=>ae (fun h2=>by simp at h2;omega) (fun h2=>?_))⟩
 ·have hv2:b.length≤v:=by simp at h1;omega
  have e:H.set id (fo b (v+1))=H.set id (zod b (v:Int)):=by
   rw [rR,show min (v+1) b.length=v by omega]
  rw [oz hv2,e]
  simp (disch:=first|exact Zd|omega) [↓zmo,beq,List.take_of_length_le,List.drop_append,List.take_append,aa,wk,wk2,wk1,wkM,wkL,ak,List.drop_eq_nil_of_le,hcl2]
  exact lS hg'
 have hk:v<b.length:=by simp at h1;omega
 have e:fo b (v+1)=zod b ((v+1:Nat):Int):=by rw [rR,show min (v+1) b.length=v+1 by omega]
 have e1:IntKind.i64.wrap ((v:Int)+1)=((v+1:Nat):Int):=by rw [wrap_i64]<;>omega
 have e2:IntKind.i64.wrap (((v+1:Nat):Int) - 1)=(v:Int):=by rw [wrap_i64]<;>omega
 have hgd:(bys b).getD v .junk=aO b[v]:=by rw [kJ hk];simp [gEq,hk]
 have h8:=UInt8.toNat_lt b[v]
 have e3:IntKind.i64.wrap ((b[v].toNat:Nat):Int)=((b[v].toNat:Nat):Int):=by rw [wrap_i64]<;>omega
 have hc:cv b v n=b[v].toNat % n:=by unfold cv;simp [gEq,hk]
 have ht:(((b[v].toNat:Nat):Int)).tmod (n:Int)=((b[v].toNat % n:Nat):Int):=by
  rw [Int.tmod_eq_emod_of_nonneg (by omega),Int.natCast_emod]
 rw [hc,e]
 simp only [go_sem,hcs,e1,mV hid,e2,iNq,hgd,zlk,aO,e3,ht]
 refine ⟨by omega,by omega,?_⟩
 have hc2:=hcl2 ((v+1:Nat):Int)
 simp (disch:=first|exact Zd|omega) [↓zmo,beq,List.take_of_length_le,List.drop_append,List.take_append,aa,wk,wk2,wk1,wkM,wkL,ak,List.drop_eq_nil_of_le,hc2,zod]
theorem zQ {H:AHeap} {id:Nat} {b:List UInt8} {v w:Nat}:(H.set id (fo b v)).set id (fo b w)=H.set id (fo b w):=by
 simp only [AHeap.set];congr 1;funext j;split<;>rfl
theorem DE {x n:Int} (h:0<n):(x.tmod n+n).tmod n=x % n:=by
 have h1:=Int.lt_tmod_of_pos x h
 rw [Int.tmod_eq_emod_of_nonneg (by omega),Int.add_emod_right,Int.tmod_def,Int.sub_mul_emod_self_left]
def xZ:List AV→AHeap→(AV→Prop)→Prop
 |[.int .i64 x,.int .i64 n],_,K=>(-9223372036854775808≤x∧x≤9223372036854775807∧1≤n∧n≤4000000000000000000)∧K (.int .i64 (x % n))
 |_,_,_=>False
theorem ES:EntOk Tryz.prog 17 (Ent.pure xZ):=by
 refine Ype fun _ H K h=>?_
 unfold xZ at h
 split at h
 rotate_left
 ·exact h.elim
 rename_i x n
 obtain ⟨⟨hx1,hx2,hn1,hn2⟩,hK⟩:=h
 refine ⟨_,hK,?_⟩
 clear hK
 rw [← DE (by omega)]
 refine ACalls.fW ag tNq Tryz.func17 [.tmp 4] (nrq _) (T:=af []) (h:=fun hcl hlt=>?_)
 clear hlt
 simp only [go_sem]
 refine ae (fun h=>by simp at h;omega) (fun _=>?_)
 have b1 : -n<x.tmod n∧x.tmod n<n:=by
  have h1:=Int.lt_tmod_of_pos x (show 0<n by omega)
  have h2:=Int.tmod_lt_of_pos x (show 0<n by omega)
  exact ⟨h1,h2⟩
 have e1:IntKind.i64.wrap (x.tmod n+n)=x.tmod n+n:=by rw [wrap_i64]<;>omega
 simp only [go_sem,e1]
 refine ⟨by omega,by omega,?_⟩
 exact Z0
end Go.AL
