/- Lemmas of the proof; no condition. -/
import Derived.Test.YtpbnggedofiinaaGreatProg
import Derived.Test.YtpbnggedofiinaaGreatAlBun
import Derived.Test.YtpbnggedofiinaaGreatLGen
set_option linter.all false
set_option maxRecDepth 10000
open Go Go.AL Go.Proofs
namespace Go.AL
theorem ah:Tryz.prog.follows .mixedOrders=true:=by kernel_rfl
theorem Df:ti Tryz.prog 69=some ⟨.struct [(0,22,false),(1,3,false)],2,32,.agg [.slice .nil 1 [],.int .i64 0]⟩:=by kernel_rfl
theorem AH:ti Tryz.prog 33=some ⟨.ptr 69,1,8,.nilp⟩:=by kernel_rfl
theorem qM:ti Tryz.prog 22=some ⟨.slice 5,1,24,.slice .nil 1 []⟩:=by kernel_rfl
theorem qH:ti Tryz.prog 5=some ⟨.int .u8,1,1,.int .u8 0⟩:=by kernel_rfl
theorem sx:ti Tryz.prog 36=some ⟨.int .u64,1,8,.int .u64 0⟩:=by kernel_rfl
theorem D1:ti Tryz.prog 229=some ⟨.int .u64,1,8,.int .u64 0⟩:=by kernel_rfl
theorem nY:ti Tryz.prog 3=some ⟨.int .i64,1,8,.int .i64 0⟩:=by kernel_rfl
theorem uj:ti Tryz.prog 4=some ⟨.bool,1,1,.bool false⟩:=by kernel_rfl
theorem Ad:ti Tryz.prog 9=some ⟨.string,1,16,.str []⟩:=by kernel_rfl
theorem om:ti Tryz.prog 38=some ⟨.struct [(0,36,false),(1,36,false)],2,16,.agg [.int .u64 0,.int .u64 0]⟩:=by kernel_rfl
attribute [go_sem] Df AH qM qH sx D1 nY uj Ad om
theorem mi {H:AHeap} {i:Nat} {o:AObj} (h:H.get i=some o):(H.set i o).Le H:=⟨nrq _,fun j x hj=>by
 rcases AHeap.get_set_inv _ _ hj with ⟨rfl,rfl,_⟩|⟨_,h2⟩
 ·exact h
 ·exact h2⟩
def qk:List AV→AHeap→(AV→Prop)→Prop
 |[.ptr id 0],H,K=>∃ b a,(H.get id=some (.cells [.slice .any 1 (bys b),.int .i64 a]))∧K (.bool (decide (a<(b.length:Int))))
 |_,_,_=>False
theorem y8:EntOk Tryz.prog 106 (Ent.pure qk):=by
 refine Ype fun _ H K h=>?_
 unfold qk at h
 split at h
 rotate_left
 ·exact h.elim
 rename_i id
 obtain ⟨b,a,hg,hK⟩:=h
 refine ⟨_,hK,?_⟩
 clear hK
 refine ACalls.fW ah tNq Tryz.func106 [.tmp 2] (nrq _) (T:=ae []) (h:=fun hcl hlt=>?_)
 clear hlt
 have hcs:=aM hg
 simp only [go_sem,hcs,zlk]
 exact Z0
def zod (b:List UInt8) (a:Int):AObj:=.cells [.slice .any 1 (bys b),.int .i64 a]
def wG:List AV→AHeap→(AEnd→AHeap→Prop)→Prop
 |[.slice m 1 l,.int .i64 n],H,K=>∃ b,(l=bys b∧0≤n)∧K (.ret (.ptr H.nx 0)) (H.push (zod (b.take (min (b.length:Int) n).toNat) 0))
 |_,_,_=>False
theorem FL:EntOk Tryz.prog 5 (Ent.effect wG):=by
 refine EntOk.effect fun args H K h=>?_
 unfold wG at h
 split at h
 rotate_left
 ·exact h.elim
 rename_i m l n
 obtain ⟨b,⟨rfl,hn⟩,hK⟩:=h
 refine ⟨_,_,hK,?_⟩
 clear hK
 refine ACalls.fW ah tNq Tryz.func5 [.tmp 4] (Nat.le_succ _) (T:=ae []) (h:=fun hcl hlt=>?_)
 clear hlt
 simp only [go_sem,zlk,List.drop_zero,zlm]
 refine ⟨by omega,?_⟩
 simp (disch:=first|exact Zd|omega) [↓zmo,beq,List.take_of_length_le,List.drop_append,List.take_append,ag,wk,wk2,wk1,wkM,wkL,ak,List.drop_eq_nil_of_le,hcl,zod]
 (repeat' (first|assumption|omega|exact True.intro|refine And.intro ?_ ?_|refine bj ?_|refine km ?_|refine aD ?_ ?_|refine aP ?_ ?_|refine zD ?_|exact lRq _|refine lPq ?_ _|refine AHeap.Le.del ?_ ?_|(simp only [bt,and_true,true_and,zms];first|done|omega|(simp;done))))
theorem F4 {H H1:AHeap} {i:Nat} {o:AObj} (h:∀ j x,j≠i→H.get j=some x→H1.get j=some x) (hg:H1.get i=some o) (hn:H.nx≤H1.nx):(H.set i o).Le H1:=⟨hn,fun j x hj=>by
 rcases AHeap.get_set_inv _ _ hj with ⟨rfl,rfl,_⟩|⟨h1,h2⟩
 ·exact hg
 ·exact h j x h1 h2⟩
theorem CP {n sz:Nat} {l:List AV} (h:∀ x∈l,AV.lt n x):AV.lt n (.slice .any sz l):=by
 rw [AV.lt]
 exact ⟨fun id e=>(by cases e),fun j hj=>h _ (gMq hj)⟩
theorem sU {b:List UInt8} {v:Nat}:cr b v=zod b ((min v b.length:Nat):Int):=rfl
def ay:List AV→AHeap→(AEnd→AHeap→Prop)→Prop
 |[.ptr id 0,.int .i64 n],H,K=>onC (H.get id) fun b v=>(1≤n∧n≤1000000)∧K (.ret (.int .i64 ((cv b v n.toNat:Nat):Int))) (H.set id (cr b (v+1)))
 |_,_,_=>False
theorem ff:EntOk Tryz.prog 24 (Ent.effect ay):=by
 refine EntOk.effect fun args H K h=>?_
 unfold ay at h
 split at h
 rotate_left
 ·exact h.elim
 rename_i id n
 obtain ⟨b,v,hg,hb,hv,⟨hn1,hn2⟩,hK⟩:=fp h
 refine ⟨_,_,hK,?_⟩
 clear hK
 obtain ⟨n,rfl⟩:=Int.eq_ofNat_of_zero_le (show 0≤n by omega)
 simp only [iNq]
 refine ACalls.fW ah (tCq y8 tNq) Tryz.func24 [.tmp 4] (nrq _) (T:=ae [(4,[[],[],[],[],[],[],[],[],[],[],[],[3,7,10]])]) (h:=fun hcl hlt=>?_)
 clear hlt
 have hg':H.get id=some (zod b (v:Int)):=by rw [hg,sU];unfold cp;rw [show min (v+0) b.length=v by omega]
 have hcs:=aM (cs:=[.slice .any 1 (bys b),.int .i64 (v:Int)]) hg'
 have hid:=glq hg
 have hcl2:∀ a',(H.set id (zod b a')).Closed:=fun a'=>aP hcl (by simp [znu,znv,znf,zms])
 simp only [go_sem,qk]
 refine ⟨b,v,hg',bM (fun h1=>?_) (fun h1=>af (fun h2=>by simp at h2;omega) (fun h2=>?_))⟩
 ·have hv2:b.length≤v:=by simp at h1;omega
  have e:H.set id (cr b (v+1))=H.set id (zod b (v:Int)):=by
   rw [sU,show min (v+1) b.length=v by omega]
  rw [p6 hv2,e]
  simp (disch:=first|exact Zd|omega) [↓zmo,beq,List.take_of_length_le,List.drop_append,List.take_append,ag,wk,wk2,wk1,wkM,wkL,ak,List.drop_eq_nil_of_le,hcl2]
  exact mi hg'
 have hk:v<b.length:=by simp at h1;omega
 have e:cr b (v+1)=zod b ((v+1:Nat):Int):=by rw [sU,show min (v+1) b.length=v+1 by omega]
 have e1:IntKind.i64.wrap ((v:Int)+1)=((v+1:Nat):Int):=by rw [wrap_i64]<;>omega
 have e2:IntKind.i64.wrap (((v+1:Nat):Int) - 1)=(v:Int):=by rw [wrap_i64]<;>omega
 have hgd:(bys b).getD v .junk=aL b[v]:=by rw [nO hk];simp [gEq,hk]
 have h8:=UInt8.toNat_lt b[v]
 have e3:IntKind.i64.wrap ((b[v].toNat:Nat):Int)=((b[v].toNat:Nat):Int):=by rw [wrap_i64]<;>omega
 have hc:cv b v n=b[v].toNat % n:=by unfold cv;simp [gEq,hk]
 have ht:(((b[v].toNat:Nat):Int)).tmod (n:Int)=((b[v].toNat % n:Nat):Int):=by
  rw [Int.tmod_eq_emod_of_nonneg (by omega),Int.natCast_emod]
 rw [hc,e]
 simp only [go_sem,hcs,e1,eZ hid,e2,iNq,hgd,zlk,aL,e3,ht]
 refine ⟨by omega,by omega,?_⟩
 have hc2:=hcl2 ((v+1:Nat):Int)
 simp (disch:=first|exact Zd|omega) [↓zmo,beq,List.take_of_length_le,List.drop_append,List.take_append,ag,wk,wk2,wk1,wkM,wkL,ak,List.drop_eq_nil_of_le,hc2,zod]
theorem CV {H:AHeap} {id:Nat} {b:List UInt8} {v w:Nat}:(H.set id (cr b v)).set id (cr b w)=H.set id (cr b w):=by
 simp only [AHeap.set];congr 1;funext j;split<;>rfl
theorem EG {x n:Int} (h:0<n):(x.tmod n+n).tmod n=x % n:=by
 have h1:=Int.lt_tmod_of_pos x h
 rw [Int.tmod_eq_emod_of_nonneg (by omega),Int.add_emod_right,Int.tmod_def,Int.sub_mul_emod_self_left]
def iC:List AV→AHeap→(AV→Prop)→Prop
 |[.int .i64 x,.int .i64 n],_,K=>(-9223372036854775808≤x∧x≤9223372036854775807∧1≤n∧n≤4000000000000000000)∧K (.int .i64 (x % n))
 |_,_,_=>False
theorem AQ:EntOk Tryz.prog 17 (Ent.pure iC):=by
 refine Ype fun _ H K h=>?_
 unfold iC at h
 split at h
 rotate_left
 ·exact h.elim
 rename_i x n
 obtain ⟨⟨hx1,hx2,hn1,hn2⟩,hK⟩:=h
 refine ⟨_,hK,?_⟩
 clear hK
 rw [← EG (by omega)]
 refine ACalls.fW ah tNq Tryz.func17 [.tmp 4] (nrq _) (T:=ae []) (h:=fun hcl hlt=>?_)
 clear hlt
 simp only [go_sem]
 refine af (fun h=>by simp at h;omega) (fun _=>?_)
 have b1 : -n<x.tmod n∧x.tmod n<n:=by
  have h1:=Int.lt_tmod_of_pos x (show 0<n by omega)
  have h2:=Int.tmod_lt_of_pos x (show 0<n by omega)
  exact ⟨h1,h2⟩
 have e1:IntKind.i64.wrap (x.tmod n+n)=x.tmod n+n:=by rw [wrap_i64]<;>omega
 simp only [go_sem,e1]
 refine ⟨by omega,by omega,?_⟩
 exact Z0
end Go.AL
