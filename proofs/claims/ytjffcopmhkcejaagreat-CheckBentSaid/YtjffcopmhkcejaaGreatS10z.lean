/- Lemmas of the proof; no condition. -/
import Derived.Test.YtjffcopmhkcejaaGreatLVal
import Derived.Test.YtjffcopmhkcejaaGreatAlBun
import Derived.Test.YtjffcopmhkcejaaGreatLEntB
set_option linter.all false
set_option maxRecDepth 10000
open Go Go.AL Go.Proofs
namespace Go.AL
theorem FF:ti Tryz.prog 47=some ⟨.struct [(0,22,false),(1,3,false)],2,32,.agg [.slice .nil 1 [],.int .i64 0]⟩:=krf
theorem CB:ti Tryz.prog 35=some ⟨.ptr 47,1,8,.nilp⟩:=krf
def Gy:tSl Tryz.prog 22 5:=kSl
theorem SE:ti Tryz.prog 5=some ⟨.int .u8,1,1,.int .u8 0⟩:=krf
theorem uX:ti Tryz.prog 92=some ⟨.int .u64,1,8,.int .u64 0⟩:=krf
theorem K9:ti Tryz.prog 85=some ⟨.int .u64,1,8,.int .u64 0⟩:=krf
theorem DQ:ti Tryz.prog 3=some ⟨.int .i64,1,8,.int .i64 0⟩:=krf
theorem J3:ti Tryz.prog 4=some ⟨.bool,1,1,.bool false⟩:=krf
theorem Cu:ti Tryz.prog 9=some ⟨.string,1,16,.str []⟩:=krf
theorem rc:ti Tryz.prog 94=some ⟨.struct [(0,92,false),(1,92,false)],2,16,.agg [.int .u64 0,.int .u64 0]⟩:=krf
attribute [go_sem] FF CB Gy SE uX K9 DQ J3 Cu rc
def pd{H:AHeap}{i:Nat}{o:AObj}(h:H.get i=some o):(H.set i o).Le H:=⟨nrq _,fun j x hj=>by
 rcases AHeap.get_set_inv _ _ hj with⟨rfl,rfl,_⟩|⟨_,h2⟩
 ·exact h
 ·exact h2⟩
def yV:PCt
 |[.ptr id 0],H,K=>∃ b a,(H.get id=some (.cells [.slice .any 1 (bys b),.int .i64 a]))∧K (.bool (decide (a<(b.length:Int))))
 |_,_,_=>False
def LM:EPp 46 yV:=by
 refine Ype fun _ H K h=>?_
 unfold yV at h
 split at h<;>try exact h.elim
 rename_i id
 obtain⟨b,a,hg,hK⟩:=h
 refine⟨_,hK,?_⟩
 clear hK
 refine Yfu aD tNq Tryz.func46 [.tmp 2] fun hcl=>?_
 have hcs:=aB hg
 simp only[go_sem,hcs,zli]
 exact Z3
def zod(b:By)(a:Int):AObj:=.cells [.slice .any 1 (bys b),.int .i64 a]
def wX:ECt
 |[.slice m 1 l,.int .i64 n],H,K=>∃ b,(l=bys b∧0≤n)∧K (.ret (.ptr H.nx 0)) (H.push (zod (b.take (min (b.length:Int) n).toNat) 0))
 |_,_,_=>False
def DM:EEe 5 wX:=by
 refine Yef fun _ H K h=>?_
 unfold wX at h
 split at h<;>try exact h.elim
 rename_i m l n
 obtain⟨b,⟨rfl,hn⟩,hK⟩:=h
 refine⟨_,_,hK,?_⟩
 clear hK
 refine Yfw aD tNq Tryz.func5 [.tmp 4] (Nat.le_succ _) (T:=aC []) (h:=fun hcl=>?_)
 simp only[go_sem,zli,List.drop_zero,zlk]
 refine⟨Xa,?_⟩
 simp (disch:=first|exact Zd|omega) [↓zmm,beq,List.take_of_length_le,List.drop_append,List.take_append,ag,wk,wk2,wk1,wkM,wkL,ay,List.drop_eq_nil_of_le,hcl,zod]
 (repeat' (first|assumption|omega|exact True.intro|refine And.intro ?_ ?_|refine aY ?_|refine bf ?_|refine ah ?_ ?_|refine bA ?_ ?_|refine dJ ?_|exact lRq _|refine lPq ?_ _|refine AHeap.Le.del ?_ ?_|(simp only[bt,and_true,true_and,zmq];first|done|omega|(simp;done))))
def Py{H H1:AHeap}{i:Nat}{o:AObj}(h:∀ j x,j≠i→H.get j=some x→H1.get j=some x)(hg:H1.get i=some o)(hn:H.nx≤H1.nx):(H.set i o).Le H1:=⟨hn,fun j x hj=>by
 rcases AHeap.get_set_inv _ _ hj with⟨rfl,rfl,_⟩|⟨h1,h2⟩
 ·exact hg
 ·exact h j x h1 h2⟩
def xK{n sz:Nat}{l:Wz}(h:∀ x∈l,AV.lt n x):AV.lt n (.slice .any sz l):=by
 rw[AV.lt]
 exact⟨fun id e=>(by cases e),fun j hj=>h _ (gMq hj)⟩
theorem wR{b:By}{v:Nat}:il b v=zod b ((min v b.length:Nat):Int):=rfl
def dB:ECt
 |[.ptr id 0,.int .i64 n],H,K=>onC (H.get id) fun b v=>(1≤n∧n≤1000000)∧K (.ret (.int .i64 ((cv b v n.toNat:Nat):Int))) (H.set id (il b (v+1)))
 |_,_,_=>False
def oD:EEe 11 dB:=by
 refine Yef fun _ H K h=>?_
 unfold dB at h
 split at h<;>try exact h.elim
 rename_i id n
 obtain⟨b,v,hg,hb,hv,⟨hn1,hn2⟩,hK⟩:=pm h
 refine⟨_,_,hK,?_⟩
 clear hK
 obtain⟨n,rfl⟩:=Int.eq_ofNat_of_zero_le (show 0≤n by omega)
 simp only[iNq]
 refine Yfw aD (tCq LM tNq) Tryz.func11 [.tmp 4] (nrq _) (T:=aC [(4,[[],[],[],[],[],[],[],[],[],[],[],[3,7,10]])]) (h:=fun hcl=>?_)
 have hg':H.get id=some (zod b (v:Int)):=by rw[hg,wR];unfold cp;rw[show min (v+0) b.length=v by omega]
 have hcs:=aB (cs:=[.slice .any 1 (bys b),.int .i64 (v:Int)]) hg'
 have hid:=glq hg
 have hcl2:∀ a',(H.set id (zod b a')).Closed:=fun a'=>bA hcl (by simp[zns,znt,znd,zmq])
 simp only[go_sem,yV]
 refine⟨b,v,hg',eZ (fun h1=>?_) (fun h1=>ax (fun h2=>by simp at h2;omega) (fun h2=>?_))⟩
 ·have hv2:b.length≤v:=by simp at h1;omega
  have e:H.set id (il b (v+1))=H.set id (zod b (v:Int)):=by
   rw[wR,show min (v+1) b.length=v by omega]
  rw[sw hv2,e]
  simp (disch:=first|exact Zd|omega) [↓zmm,beq,List.take_of_length_le,List.drop_append,List.take_append,ag,wk,wk2,wk1,wkM,wkL,ay,List.drop_eq_nil_of_le,hcl2]
  exact pd hg'
 have hk:v<b.length:=by simp at h1;omega
 have e:il b (v+1)=zod b ((v+1:Nat):Int):=by rw[wR,show min (v+1) b.length=v+1 by omega]
 have e1:IntKind.i64.wrap ((v:Int)+1)=((v+1:Nat):Int):=Xe
 have e2:IntKind.i64.wrap (((v+1:Nat):Int)-1)=(v:Int):=Xe
 have hgd:(bys b).getD v .junk=bC b[v]:=by rw[u5 hk];simp[gEq,hk]
 have h8:=UInt8.toNat_lt b[v]
 have e3:IntKind.i64.wrap ((b[v].toNat:Nat):Int)=((b[v].toNat:Nat):Int):=Xe
 have hc:cv b v n=b[v].toNat%n:=by unfold cv;simp[gEq,hk]
 have ht:(((b[v].toNat:Nat):Int)).tmod (n:Int)=((b[v].toNat%n:Nat):Int):=by
  rw[Int.tmod_eq_emod_of_nonneg Xa,Int.natCast_emod]
 rw[hc,e]
 simp only[go_sem,hcs,e1,tM hid,e2,iNq,hgd,zli,bC,e3,ht]
 refine⟨Xa,Xa,?_⟩
 have hc2:=hcl2 ((v+1:Nat):Int)
 simp (disch:=first|exact Zd|omega) [↓zmm,beq,List.take_of_length_le,List.drop_append,List.take_append,ag,wk,wk2,wk1,wkM,wkL,ay,List.drop_eq_nil_of_le,hc2,zod]
def F4{H:AHeap}{id:Nat}{b:By}{v w:Nat}:(H.set id (il b v)).set id (il b w)=H.set id (il b w):=by
 simp only[AHeap.set];congr 1;funext j;split<;>rfl
def G6{x n:Int}(h:0<n):(x.tmod n+n).tmod n=x%n:=by
 have h1:=Int.lt_tmod_of_pos x h
 rw[Int.tmod_eq_emod_of_nonneg Xa,Int.add_emod_right,Int.tmod_def,Int.sub_mul_emod_self_left]
def gT:PCt
 |[.int .i64 x,.int .i64 n],_,K=>(-9223372036854775808≤x∧x≤9223372036854775807∧1≤n∧n≤4000000000000000000)∧K (.int .i64 (x%n))
 |_,_,_=>False
def iX:EPp 17 gT:=by
 refine Ype fun _ H K h=>?_
 unfold gT at h
 split at h<;>try exact h.elim
 rename_i x n
 obtain⟨⟨hx1,hx2,hn1,hn2⟩,hK⟩:=h
 refine⟨_,hK,?_⟩
 clear hK
 rw[← G6 (Xa)]
 refine Yfu aD tNq Tryz.func17 [.tmp 4] fun hcl=>?_
 refine Tq20 ?_
 refine ax (fun h=>by simp at h;omega) (fun _=>?_)
 have b1 : -n<x.tmod n∧x.tmod n<n:=by
  have h1:=Int.lt_tmod_of_pos x (show 0<n by omega)
  have h2:=Int.tmod_lt_of_pos x (show 0<n by omega)
  exact⟨h1,h2⟩
 have e1:IntKind.i64.wrap (x.tmod n+n)=x.tmod n+n:=Xe
 simp only[go_sem,e1]
 refine⟨Xa,Xa,?_⟩
 exact Z3
end Go.AL
