/- Contracts and plain laws, a part of the proof; no condition of its own. -/
import Derived.Test.YtiiiljghmilepaaD06
open Go Go.AL Go.Proofs
namespace Go.AL
set_option linter.all false
set_option maxRecDepth 10000
theorem sQ:ti Try.prog 92=some ⟨.struct [(0,22,false),(1,3,false)],2,32,.agg [.slice .nil 1 [],.int .i64 0]⟩:=by kernel_rfl
attribute [go_sem] sQ
theorem nL {H:AHeap} {i:Nat} {o:AObj} (h:H.get i=some o):(H.set i o).Le H:=⟨Nat.le_refl _,fun j x hj=>by
 rcases AHeap.get_set_inv _ _ hj with ⟨rfl,rfl,_⟩|⟨_,h2⟩
 ·exact h
 ·exact h2⟩
def iP:List AV→AHeap→(AV→Prop)→Prop
 |[.ptr id 0],H,K=>∃ b a,(H.get id=some (.cells [.slice .any 1 (bys b),.int .i64 a]))∧K (.bool (decide (a<(b.length:Int))))
 |_,_,_=>False
theorem sZ:EntOk Try.prog 46 (Ent.pure iP):=by
 refine EntOk.pure fun args H K h=>?_
 unfold iP at h
 split at h
 rotate_left
 ·exact h.elim
 rename_i id
 obtain ⟨b,a,hg,hK⟩:=h
 refine ⟨_,hK,?_⟩
 clear hK
 refine ACalls.fW aI TblOk.nil Try.func46 [.tmp 2] (Nat.le_refl _) (T:=az []) (h:=fun hcl hlt=>?_)
 clear hlt
 have hcs:=bp hg
 simp only [go_sem,hcs,zle]
 simp (disch:=first|assumption|omega|(simp;done)|(simp;omega)|(simp only [bt,and_true];first|done|omega|(simp;done))) [↓zmi,beq,List.take_of_length_le,List.drop_append,List.take_append,ah,wk,wk2,wk1,wkM,wkL,ap,List.drop_eq_nil_of_le,hcl]
def cod (b:List UInt8) (a:Int):AObj:=.cells [.slice .any 1 (bys b),.int .i64 a]
def aZ:List AV→AHeap→(AV→AHeap→Prop)→Prop
 |[.ptr id 0,.int .i64 n],H,K=>∃ b a,(H.get id=some (cod b a)∧(0≤a∧a≤(b.length:Int))∧b.length≤140737488355328∧1≤n∧n≤1000000) ∧
   ∀ r a',0≤r→r<n→0≤a'→a'≤(b.length:Int)→K (.int .i64 r) (H.set id (cod b a'))
 |_,_,_=>False
theorem iO:EntOk Try.prog 28 (Ent.some aZ):=by
 refine EntOk.some fun args H K h=>?_
 unfold aZ at h
 split at h
 rotate_left
 ·exact h.elim
 rename_i id n
 obtain ⟨b,a,⟨hg,⟨ha1,ha2⟩,hb,hn1,hn2⟩,hK⟩:=h
 refine ACallsP.of_aw (Ω:=[(46,Ent.pure iP)]) (T:=az [(4,[[],[],[],[],[],[],[],[],[],[],[],[3,7,10]])]) aI (TblOk.cons sZ TblOk.nil) Try.func28 (by kernel_rfl) (by rfl) (rs:=[.tmp 4]) (by rfl) (by kernel_rfl) (by simp only [Try.ntmps28,List.length_cons,List.length_nil];decide) fun hcl hlt=>?_
 change aw _ _ _ (KI Try.prog [(46,Ent.pure iP)] (fH Try.prog [.tmp 4] H.nx _ (az [(4,[[],[],[],[],[],[],[],[],[],[],[],[3,7,10]])])) []) _ _
 clear hlt
 have hcs:=bp hg
 have hid:=AHeap.get_lt hg
 simp only [go_sem,iP]
 refine ⟨b,a,hg,?_⟩
 have hcl2:∀ a',(H.set id (cod b a')).Closed:=fun a'=>aj hcl (by simp [zno,znp,zmz,zmm])
 refine bU (fun h1=>?_) (fun h1=>am (fun h2=>by simp at h2;omega) (fun h2=>?_))
 ·refine ⟨_,_,hK 0 a (by omega) (by omega) ha1 ha2,Nat.le_refl _,?_⟩
  simp (disch:=first|assumption|omega|(simp;done)|(simp;omega)|(simp only [bt,and_true];first|done|omega|(simp;done))) [↓zmi,beq,List.take_of_length_le,List.drop_append,List.take_append,ah,wk,wk2,wk1,wkM,wkL,ap,List.drop_eq_nil_of_le,hcl2]
  exact nL hg
 have h1':a<(b.length:Int):=by simp at h1;omega
 obtain ⟨k,rfl⟩:=Int.eq_ofNat_of_zero_le ha1
 have hk:k<b.length:=by omega
 have e1:IntKind.i64.wrap ((k:Int)+1)=((k+1:Nat):Int):=by rw [wrap_i64]<;>omega
 have e2:IntKind.i64.wrap (((k+1:Nat):Int) - 1)=(k:Int):=by rw [wrap_i64]<;>omega
 have hgd:(bys b).getD k .junk=aX b[k]:=by rw [mD hk];simp [List.getD_eq_getElem?_getD,hk]
 have h8:=UInt8.toNat_lt b[k]
 have e3:IntKind.i64.wrap ((b[k].toNat:Nat):Int)=((b[k].toNat:Nat):Int):=by rw [wrap_i64]<;>omega
 simp only [go_sem,hcs,e1,da hid,e2,Int.toNat_natCast,hgd,zle,aX,e3]
 have ht:(((b[k].toNat:Nat):Int)).tmod n=((b[k].toNat:Nat):Int) % n:=Int.tmod_eq_emod_of_nonneg (by omega)
 have ht1:=Int.emod_nonneg ((b[k].toNat:Nat):Int) (show n≠0 by omega)
 have ht2:=Int.emod_lt_of_pos ((b[k].toNat:Nat):Int) (show 0<n by omega)
 rw [ht]
 refine ⟨by omega,by omega,_,_,hK _ ((k+1:Nat):Int) ht1 ht2 (by omega) (by omega),Nat.le_refl _,?_⟩
 simp (disch:=first|assumption|omega|(simp;done)|(simp;omega)|(simp only [bt,and_true];first|done|omega|(simp;done))) [↓zmi,beq,List.take_of_length_le,List.drop_append,List.take_append,ah,wk,wk2,wk1,wkM,wkL,ap,List.drop_eq_nil_of_le,hcl2,cod]
def o9:List AV→AHeap→(AEnd→AHeap→Prop)→Prop
 |[.slice m 1 l,.int .i64 n],H,K=>∃ b,(l=bys b∧0≤n)∧K (.ret (.ptr H.nx 0)) (H.push (cod (b.take (min (b.length:Int) n).toNat) 0))
 |_,_,_=>False
theorem ua:EntOk Try.prog 7 (Ent.effect o9):=by
 refine EntOk.effect fun args H K h=>?_
 unfold o9 at h
 split at h
 rotate_left
 ·exact h.elim
 rename_i m l n
 obtain ⟨b,⟨rfl,hn⟩,hK⟩:=h
 refine ⟨_,_,hK,?_⟩
 clear hK
 refine ACalls.fW aI TblOk.nil Try.func7 [.tmp 4] (Nat.le_succ _) (T:=az []) (h:=fun hcl hlt=>?_)
 clear hlt
 simp only [go_sem,zle,List.drop_zero,zlg]
 refine ⟨by omega,?_⟩
 simp (disch:=first|assumption|omega|(simp;done)|(simp;omega)|(simp only [bt,and_true];first|done|omega|(simp;done))) [↓zmi,beq,List.take_of_length_le,List.drop_append,List.take_append,ah,wk,wk2,wk1,wkM,wkL,ap,List.drop_eq_nil_of_le,hcl,cod]
 (repeat' (first|assumption|omega|exact True.intro|refine And.intro ?_ ?_|refine ai ?_|refine ac ?_|refine af ?_ ?_|refine aj ?_ ?_|refine al ?_|exact AHeap.Le.refl _|refine AHeap.Le.push ?_ _|refine AHeap.Le.del ?_ ?_|(simp only [bt,and_true,true_and,zmm];first|done|omega|(simp;done))))
theorem mod_lt {x n:Int} (hn:1≤n):0≤(x.tmod n+n).tmod n∧(x.tmod n+n).tmod n<n:=by
 have h1:=Int.lt_tmod_of_pos x (show 0<n by omega)
 rw [Int.tmod_eq_emod_of_nonneg (by omega)]
 exact ⟨Int.emod_nonneg _ (by omega),Int.emod_lt_of_pos _ (by omega)⟩
def pK:List AV→AHeap→(AV→Prop)→Prop
 |[.int .i64 x,.int .i64 n],_,K=>(-9223372036854775808≤x∧x≤9223372036854775807∧1≤n∧n≤4000000000000000000)∧K (.int .i64 ((x.tmod n+n).tmod n))
 |_,_,_=>False
theorem u3:EntOk Try.prog 21 (Ent.pure pK):=by
 refine EntOk.pure fun args H K h=>?_
 unfold pK at h
 split at h
 rotate_left
 ·exact h.elim
 rename_i x n
 obtain ⟨⟨hx1,hx2,hn1,hn2⟩,hK⟩:=h
 refine ⟨_,hK,?_⟩
 clear hK
 refine ACalls.fW aI TblOk.nil Try.func21 [.tmp 4] (Nat.le_refl _) (T:=az []) (h:=fun hcl hlt=>?_)
 clear hlt
 simp only [go_sem]
 refine am (fun h=>by simp at h;omega) (fun _=>?_)
 have b1 : -n<x.tmod n∧x.tmod n<n:=by
  have h1:=Int.lt_tmod_of_pos x (show 0<n by omega)
  have h2:=Int.tmod_lt_of_pos x (show 0<n by omega)
  exact ⟨h1,h2⟩
 have e1:IntKind.i64.wrap (x.tmod n+n)=x.tmod n+n:=by rw [wrap_i64]<;>omega
 simp only [go_sem,e1]
 refine ⟨by omega,by omega,?_⟩
 simp (disch:=first|assumption|omega|(simp;done)|(simp;omega)|(simp only [bt,and_true];first|done|omega|(simp;done))) [↓zmi,beq,List.take_of_length_le,List.drop_append,List.take_append,ah,wk,wk2,wk1,wkM,wkL,ap,List.drop_eq_nil_of_le,hcl]
theorem rQ {l:List Tok} {k:Nat} (h:k<l.length):(bX l).getD k .junk=mw l[k]:=by simp [bX,List.getD_eq_getElem?_getD,h]
end Go.AL
