/- Contracts and plain laws, a part of the proof; no condition of its own. -/
import Derived.Test.YthpglnacipgolaaGreatProg
import Derived.Test.YthpglnacipgolaaGreatAlBun
import Derived.Test.YthpglnacipgolaaGreatLGen
open Go Go.AL Go.Proofs
namespace Go.AL
set_option linter.all false
theorem mixed:Tryz.prog.follows .mixedOrders=true:=by kernel_rfl
end Go.AL


open Go Go.AL Go.Proofs
namespace Go.AL
set_option linter.all false
set_option maxRecDepth 10000
theorem ti_zcodes:ti Tryz.prog 111=some ⟨.struct [(0,32,false),(1,3,false)],2,32,.agg [.slice .nil 1 [],.int .i64 0]⟩:=by kernel_rfl
theorem ti_zpcodes:ti Tryz.prog 35=some ⟨.ptr 111,1,8,.nilp⟩:=by kernel_rfl
theorem ti_zbytes:ti Tryz.prog 32=some ⟨.slice 5,1,24,.slice .nil 1 []⟩:=by kernel_rfl
theorem ti_zu8:ti Tryz.prog 5=some ⟨.int .u8,1,1,.int .u8 0⟩:=by kernel_rfl
theorem ti_zu64:ti Tryz.prog 81=some ⟨.int .u64,1,8,.int .u64 0⟩:=by kernel_rfl
theorem ti_zuint:ti Tryz.prog 310=some ⟨.int .u64,1,8,.int .u64 0⟩:=by kernel_rfl
theorem ti_zint:ti Tryz.prog 3=some ⟨.int .i64,1,8,.int .i64 0⟩:=by kernel_rfl
theorem ti_zbool:ti Tryz.prog 4=some ⟨.bool,1,1,.bool false⟩:=by kernel_rfl
theorem ti_zstring:ti Tryz.prog 9=some ⟨.string,1,16,.str []⟩:=by kernel_rfl
theorem ti_zvalue:ti Tryz.prog 83=some ⟨.struct [(0,81,false),(1,81,false)],2,16,.agg [.int .u64 0,.int .u64 0]⟩:=by kernel_rfl
attribute [go_sem] ti_zcodes ti_zpcodes ti_zbytes ti_zu8 ti_zu64 ti_zuint ti_zint ti_zbool ti_zstring ti_zvalue
theorem le_set_sameZ {H:AHeap} {i:Nat} {o:AObj} (h:H.get i=some o):(H.set i o).Le H:=⟨Nat.le_refl _,fun j x hj=>by
  rcases AHeap.get_set_inv _ _ hj with ⟨rfl,rfl,_⟩ | ⟨_,h2⟩
  · exact h
  · exact h2⟩
def p_ZLeft:List AV→AHeap→(AV→Prop)→Prop
  | [.ptr id 0],H,K=>∃ b a,(H.get id=some (.cells [.slice .any 1 (bys b),.int .i64 a]))∧K (.bool (decide (a<(b.length:Int))))
  | _,_,_=>False
theorem ok_ZLeft:EntOk Tryz.prog 174 (Ent.pure p_ZLeft):=by
  refine EntOk.pure fun args H K h=>?_
  unfold p_ZLeft at h
  split at h
  rotate_left
  · exact h.elim
  rename_i id
  obtain ⟨b,a,hg,hK⟩:=h
  refine ⟨_,hK,?_⟩
  clear hK
  refine ACalls.of_aw (Ω:=[]) (T:=assoc []) mixed TblOk.nil Tryz.func174 (by kernel_rfl) (by rfl) (rs:=[.tmp 2]) (by rfl) (by kernel_rfl) (by simp only [Tryz.ntmps174,List.length_cons,List.length_nil];decide) (Nat.le_refl _) fun hcl hlt=>?_
  change aw _ _ _ (KI Tryz.prog [] (aEnd Tryz.prog [.tmp 2] H.nx _ _ (assoc [])) []) _ _
  clear hlt
  have hcs:=cells_some hg
  simp only [go_sem,hcs,zle]
  simp (disch:=first | assumption | omega | (simp;done) | (simp;omega) | (simp only [bt,and_true];first | done | omega | (simp;done))) [↓zmi,beq,List.take_of_length_le,List.drop_append,List.take_append,endOk,wk,wk2,wk1,wkM,wkL,wkLL,List.drop_eq_nil_of_le,hcl]
def zod (b:List UInt8) (a:Int):AObj:=.cells [.slice .any 1 (bys b),.int .i64 a]
def e_ZNew:List AV→AHeap→(AEnd→AHeap→Prop)→Prop
  | [.slice m 1 l,.int .i64 n],H,K=>∃ b,(l=bys b∧0≤n)∧K (.ret (.ptr H.nx 0)) (H.push (zod (b.take (min (b.length:Int) n).toNat) 0))
  | _,_,_=>False
theorem ok_ZNew:EntOk Tryz.prog 14 (Ent.effect e_ZNew):=by
  refine EntOk.effect fun args H K h=>?_
  unfold e_ZNew at h
  split at h
  rotate_left
  · exact h.elim
  rename_i m l n
  obtain ⟨b,⟨rfl,hn⟩,hK⟩:=h
  refine ⟨_,_,hK,?_⟩
  clear hK
  refine ACalls.of_aw (Ω:=[]) (T:=assoc []) mixed TblOk.nil Tryz.func14 (by kernel_rfl) (by rfl) (rs:=[.tmp 4]) (by rfl) (by kernel_rfl) (by simp only [Tryz.ntmps14,List.length_cons,List.length_nil];decide) (Nat.le_succ _) fun hcl hlt=>?_
  change aw _ _ _ (KI Tryz.prog [] (aEnd Tryz.prog [.tmp 4] H.nx _ _) []) _ _
  clear hlt
  simp only [go_sem,zle,List.drop_zero,zlg]
  refine ⟨by omega,?_⟩
  simp (disch:=first | assumption | omega | (simp;done) | (simp;omega) | (simp only [bt,and_true];first | done | omega | (simp;done))) [↓zmi,beq,List.take_of_length_le,List.drop_append,List.take_append,endOk,wk,wk2,wk1,wkM,wkL,wkLL,List.drop_eq_nil_of_le,hcl,zod]
  (repeat' (first | assumption | omega | exact True.intro | refine And.intro ?_ ?_ | refine closed_buf ?_ | refine closed_set_buf ?_ | refine closed_cells ?_ ?_ | refine closed_set ?_ ?_ | refine closed_del ?_ | exact AHeap.Le.refl _ | refine AHeap.Le.push ?_ _ | refine AHeap.Le.del ?_ ?_ | (simp only [bt,and_true,true_and,zmm];first | done | omega | (simp;done))))
theorem le_updZ {H H1:AHeap} {i:Nat} {o:AObj} (h:∀ j x,j≠i→H.get j=some x→H1.get j=some x) (hg:H1.get i=some o) (hn:H.nx≤H1.nx):(H.set i o).Le H1:=⟨hn,fun j x hj=>by
  rcases AHeap.get_set_inv _ _ hj with ⟨rfl,rfl,_⟩ | ⟨h1,h2⟩
  · exact hg
  · exact h j x h1 h2⟩
theorem lt_sliceZ {n sz:Nat} {l:List AV} (h:∀ x∈l,AV.lt n x):AV.lt n (.slice .any sz l):=by
  rw [AV.lt]
  exact ⟨fun id e=>(by cases e),fun j hj=>h _ (List.getElem_mem hj)⟩
theorem codV_zod {b:List UInt8} {v:Nat}:codV b v=zod b ((min v b.length:Nat):Int):=rfl
/-- the next choice, as a function of the choices -/
def e_ZNext:List AV→AHeap→(AEnd→AHeap→Prop)→Prop
  | [.ptr id 0,.int .i64 n],H,K=>onC (H.get id) fun b v=>(1≤n∧n≤1000000)∧K (.ret (.int .i64 ((cv b v n.toNat:Nat):Int))) (H.set id (codV b (v+1)))
  | _,_,_=>False
theorem ok_ZNext:EntOk Tryz.prog 48 (Ent.effect e_ZNext):=by
  refine EntOk.effect fun args H K h=>?_
  unfold e_ZNext at h
  split at h
  rotate_left
  · exact h.elim
  rename_i id n
  obtain ⟨b,v,hg,hb,hv,⟨hn1,hn2⟩,hK⟩:=onC_out h
  refine ⟨_,_,hK,?_⟩
  clear hK
  obtain ⟨n,rfl⟩:=Int.eq_ofNat_of_zero_le (show 0≤n by omega)
  simp only [Int.toNat_natCast]
  refine ACalls.of_aw (Ω:=[(174,Ent.pure p_ZLeft)]) (T:=assoc [(4,[[],[],[],[],[],[],[],[],[],[],[],[3,7,10]])]) mixed (TblOk.cons ok_ZLeft TblOk.nil) Tryz.func48 (by kernel_rfl) (by rfl) (rs:=[.tmp 4]) (by rfl) (by kernel_rfl) (by simp only [Tryz.ntmps48,List.length_cons,List.length_nil];decide) (Nat.le_refl _) fun hcl hlt=>?_
  change aw _ _ _ (KI Tryz.prog [(174,Ent.pure p_ZLeft)] (aEnd Tryz.prog [.tmp 4] H.nx _ _ (assoc [(4,[[],[],[],[],[],[],[],[],[],[],[],[3,7,10]])])) []) _ _
  clear hlt
  have hg':H.get id=some (zod b (v:Int)):=by rw [hg,codV_zod];unfold cp;rw [show min (v+0) b.length=v by omega]
  have hcs:=cells_some (cs:=[.slice .any 1 (bys b),.int .i64 (v:Int)]) hg'
  have hid:=AHeap.get_lt hg
  have hcl2:∀ a',(H.set id (zod b a')).Closed:=fun a'=>closed_set hcl (by simp [zno,znp,zmz,zmm])
  simp only [go_sem,p_ZLeft]
  refine ⟨b,v,hg',both_split (fun h1=>?_) (fun h1=>cond_split (fun h2=>by simp at h2;omega) (fun h2=>?_))⟩
  · have hv2:b.length≤v:=by simp at h1;omega
    have e:H.set id (codV b (v+1))=H.set id (zod b (v:Int)):=by
      rw [codV_zod,show min (v+1) b.length=v by omega]
    rw [cv_past hv2,e]
    simp (disch:=first | assumption | omega | (simp;done) | (simp;omega) | (simp only [bt,and_true];first | done | omega | (simp;done))) [↓zmi,beq,List.take_of_length_le,List.drop_append,List.take_append,endOk,wk,wk2,wk1,wkM,wkL,wkLL,List.drop_eq_nil_of_le,hcl2]
    exact le_set_sameZ hg'
  have hk:v<b.length:=by simp at h1;omega
  have e:codV b (v+1)=zod b ((v+1:Nat):Int):=by rw [codV_zod,show min (v+1) b.length=v+1 by omega]
  have e1:IntKind.i64.wrap ((v:Int)+1)=((v+1:Nat):Int):=by rw [wrap_i64]<;>omega
  have e2:IntKind.i64.wrap (((v+1:Nat):Int) - 1)=(v:Int):=by rw [wrap_i64]<;>omega
  have hgd:(bys b).getD v .junk=ofByte b[v]:=by rw [bys_get hk];simp [List.getD_eq_getElem?_getD,hk]
  have h8:=UInt8.toNat_lt b[v]
  have e3:IntKind.i64.wrap ((b[v].toNat:Nat):Int)=((b[v].toNat:Nat):Int):=by rw [wrap_i64]<;>omega
  have hc:cv b v n=b[v].toNat % n:=by unfold cv;simp [List.getD_eq_getElem?_getD,hk]
  have ht:(((b[v].toNat:Nat):Int)).tmod (n:Int)=((b[v].toNat % n:Nat):Int):=by
    rw [Int.tmod_eq_emod_of_nonneg (by omega),Int.natCast_emod]
  rw [hc,e]
  simp only [go_sem,hcs,e1,cells_set hid,e2,Int.toNat_natCast,hgd,zle,ofByte,e3,ht]
  refine ⟨by omega,by omega,?_⟩
  have hc2:=hcl2 ((v+1:Nat):Int)
  simp (disch:=first | assumption | omega | (simp;done) | (simp;omega) | (simp only [bt,and_true];first | done | omega | (simp;done))) [↓zmi,beq,List.take_of_length_le,List.drop_append,List.take_append,endOk,wk,wk2,wk1,wkM,wkL,wkLL,List.drop_eq_nil_of_le,hc2,zod]
theorem codV_setZ {H:AHeap} {id:Nat} {b:List UInt8} {v w:Nat}:(H.set id (codV b v)).set id (codV b w)=H.set id (codV b w):=by
  simp only [AHeap.set];congr 1;funext j;split<;>rfl
theorem mod_emod {x n:Int} (h:0<n):(x.tmod n+n).tmod n=x % n:=by
  have h1:=Int.lt_tmod_of_pos x h
  rw [Int.tmod_eq_emod_of_nonneg (by omega),Int.add_emod_right,Int.tmod_def,Int.sub_mul_emod_self_left]
def p_ZMod:List AV→AHeap→(AV→Prop)→Prop
  | [.int .i64 x,.int .i64 n],_,K=>(-9223372036854775808≤x∧x≤9223372036854775807∧1≤n∧n≤4000000000000000000)∧K (.int .i64 (x % n))
  | _,_,_=>False
theorem ok_ZMod:EntOk Tryz.prog 19 (Ent.pure p_ZMod):=by
  refine EntOk.pure fun args H K h=>?_
  unfold p_ZMod at h
  split at h
  rotate_left
  · exact h.elim
  rename_i x n
  obtain ⟨⟨hx1,hx2,hn1,hn2⟩,hK⟩:=h
  refine ⟨_,hK,?_⟩
  clear hK
  rw [← mod_emod (by omega)]
  refine ACalls.of_aw (Ω:=[]) (T:=assoc []) mixed TblOk.nil Tryz.func19 (by kernel_rfl) (by rfl) (rs:=[.tmp 4]) (by rfl) (by kernel_rfl) (by simp only [Tryz.ntmps19,List.length_cons,List.length_nil];decide) (Nat.le_refl _) fun hcl hlt=>?_
  change aw _ _ _ (KI Tryz.prog [] (aEnd Tryz.prog [.tmp 4] H.nx _ _) []) _ _
  clear hlt
  simp only [go_sem]
  refine cond_split (fun h=>by simp at h;omega) (fun _=>?_)
  have b1 : -n<x.tmod n∧x.tmod n<n:=by
    have h1:=Int.lt_tmod_of_pos x (show 0<n by omega)
    have h2:=Int.tmod_lt_of_pos x (show 0<n by omega)
    exact ⟨h1,h2⟩
  have e1:IntKind.i64.wrap (x.tmod n+n)=x.tmod n+n:=by rw [wrap_i64]<;>omega
  simp only [go_sem,e1]
  refine ⟨by omega,by omega,?_⟩
  simp (disch:=first | assumption | omega | (simp;done) | (simp;omega) | (simp only [bt,and_true];first | done | omega | (simp;done))) [↓zmi,beq,List.take_of_length_le,List.drop_append,List.take_append,endOk,wk,wk2,wk1,wkM,wkL,wkLL,List.drop_eq_nil_of_le,hcl]
end Go.AL

