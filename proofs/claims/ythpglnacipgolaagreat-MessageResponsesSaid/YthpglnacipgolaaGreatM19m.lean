/- Contracts and plain laws, a part of the proof; no condition of its own. -/
import Derived.Test.YthpglnacipgolaaGreatM19j
open Go Go.AL Go.Proofs
namespace Go.AL
set_option linter.all false
set_option maxRecDepth 10000

theorem rg0 (w:Int):rg 0 w=true:=by
  unfold rg
  refine decide_eq_true ⟨by omega,?_⟩
  exact Int.pow_pos (by decide)
end Go.AL


open Go Go.AL Go.Proofs
namespace Go.AL
set_option linter.all false
set_option maxRecDepth 10000

def p_CStep:List AV→AHeap→(AV→Prop)→Prop
  | [.ptr id 0],H,K=>onC (H.get id) fun b v=>K (.int .i64 ((2*v+1:Nat):Int))
  | _,_,_=>False
theorem ok_CStep:EntOk Tryz.prog 221 (Ent.pure p_CStep):=by
  refine EntOk.pure fun args H K h=>?_
  unfold p_CStep at h
  split at h
  rotate_left
  · exact h.elim
  rename_i id
  obtain ⟨b,v,hg,hb,hv,hK⟩:=onC_out h
  refine ⟨_,hK,?_⟩
  clear hK
  refine ACalls.of_aw (Ω:=[]) (T:=assoc []) mixed TblOk.nil Tryz.func221 (by kernel_rfl) (by rfl) (rs:=[.tmp 2]) (by rfl) (by kernel_rfl) (by simp only [Tryz.ntmps221,List.length_cons,List.length_nil];decide) (Nat.le_refl _) fun hcl hlt=>?_
  change aw _ _ _ (KI Tryz.prog [] (aEnd Tryz.prog [.tmp 2] H.nx _ _ (assoc [])) []) _ _
  clear hlt
  have hcs:=cells_some hg
  have e0:((min (cp v 0) b.length:Nat):Int)=v:=by unfold cp;omega
  have e1:IntKind.i64.wrap (2*(v:Int))=2*v:=by rw [wrap_i64]<;>omega
  have e2:IntKind.i64.wrap (2*(v:Int)+1)=2*v+1:=by rw [wrap_i64]<;>omega
  simp only [go_sem,hcs,e0,e1,e2]
  simp (disch:=first | assumption | omega | (simp;done) | (simp;omega) | (simp only [bt,and_true];first | done | omega | (simp;done))) [↓zlw,beq,List.take_of_length_le,List.drop_append,List.take_append,endOk,wk,wk2,wk1,wkM,wkL,wkLL,List.drop_eq_nil_of_le,hcl]
/-- the bytes that are made of one choice -/
def gB (b:List UInt8) (n v:Nat):List UInt8:=(List.range n).map fun i=>UInt8.ofNat (cv b v 256+i*(2*min (v+1) b.length+1))
def e_CBytes:List AV→AHeap→(AEnd→AHeap→Prop)→Prop
  | [.ptr id 0,.int .i64 n],H,K=>onC (H.get id) fun b v=>(0≤n∧n≤1000)∧K (.ret (.ms (H.nx+1) 0 1 n.toNat)) (((H.set id (codV b (v+1))).push (.buf 1 0)).push (.cells (bys (gB b n.toNat v))))
  | _,_,_=>False
theorem ofByte_u8 (z:Nat):AV.int .u8 (IntKind.u8.wrap (z:Int))=ofByte (UInt8.ofNat z):=by
  unfold ofByte
  congr 1
set_option maxHeartbeats 4000000 in
theorem ok_CBytes:EntOk Tryz.prog 80 (Ent.effect e_CBytes):=by
  refine EntOk.effect fun args H K h=>?_
  unfold e_CBytes at h
  split at h
  rotate_left
  · exact h.elim
  rename_i id n
  obtain ⟨b,v,hg,hb,hv,⟨hn1,hn2⟩,hK⟩:=onC_out h
  refine ⟨_,_,hK,?_⟩
  clear hK
  obtain ⟨n,rfl⟩:=Int.eq_ofNat_of_zero_le (show 0≤n by omega)
  simp only [Int.toNat_natCast]
  generalize hG:gB b n v=G
  refine ACalls.of_aw (Ω:=[(48,Ent.effect e_ZNext),(221,Ent.pure p_CStep)]) (T:=assoc []) mixed (TblOk.cons ok_ZNext (TblOk.cons ok_CStep TblOk.nil)) Tryz.func80 (by kernel_rfl) (by rfl) (rs:=[.tmp 4]) (by rfl) (by kernel_rfl) (by simp only [Tryz.ntmps80,List.length_cons,List.length_nil];decide) (by simp only [zkm,zkn];omega) fun hcl hlt=>?_
  change aw _ _ _ (KI Tryz.prog [(48,Ent.effect e_ZNext),(221,Ent.pure p_CStep)] (aEnd Tryz.prog [.tmp 4] H.nx _ _ (assoc [])) []) _ _
  clear hlt
  have hid:=AHeap.get_lt hg
  have hne:=ne_nx hid
  have hgc:=get_codV (b:=b) hid
  have hcl2:∀ w,(H.set id (codV b w)).Closed:=fun w=>closed_set hcl codV_lt
  simp only [go_sem,byq,e_ZNext,p_CStep,hg,hgc,hne,onC_cod hb,cv_min,codV_min,cp_add]
  refine ⟨⟨by omega,by omega,by omega⟩,⟨by decide,by decide⟩,?_⟩
  have hx:cv b (cp v 0) 256≤255:=cv_256
  have hlG:G.length=n:=by rw [← hG];simp [gB]
  have hgG:∀ j,j<n→G[j]?=some (UInt8.ofNat (cv b (cp v 0) 256+j*(2*min (v+1) b.length+1))):=fun j hj=>by
    rw [← hG];unfold gB;rw [List.getElem?_map,List.getElem?_range hj];rfl
  refine loop_introW (A:=Nat × List UInt8) (fun x=>[(0,.ptr id 0),(5,.ms (H.nx+1) 0 1 n),(6,.int .i64 ((cv b (cp v 0) 256:Nat):Int)),(13,.int .i64 (n:Int)),(14,.int .i64 (x.1:Int))]) (fun x=>((H.set id (codV b (cp v 1))).push (.buf 1 0)).push (.cells (bys x.2))) (fun x=>x.1≤n∧x.2.length=n∧∀ j,j<x.1→x.2[j]?=G[j]?) (fun x=>n - x.1) (0,List.replicate n 0) ⟨by omega,by simp,by intro j hj;exact absurd hj (Nat.not_lt_zero _)⟩ ?_ fun x hx=>?_
  · refine ⟨by simp only [zjy,zkd,zkm,zkn];omega,AHeap.Le.refl _,closed_cells (closed_buf (hcl2 _)) (by rw [zlx];trivial),?_,?_⟩
    · simp [ltF,zmn,zmv,zmx,zkm,zkn]
      try omega
    · simp [subW,wk2,wk1,wkM,Fr.get]
  obtain ⟨k,z⟩:=x
  obtain ⟨hk,hz,hzj⟩:=hx
  dsimp only at hk hz hzj ⊢
  simp only [go_sem]
  refine cond_split (fun hc=>?_) (fun hc=>?_)
  · have hk':k<n:=by simp at hc;omega
    have e5:IntKind.i64.wrap ((k:Int)+1)=((k+1:Nat):Int):=by rw [wrap_i64]<;>omega
    obtain ⟨st,hst⟩:∃ st,2*min (cp v 1) b.length+1=st:=⟨_,rfl⟩
    have hst2:st≤2000001:=by omega
    have hm1:k*st≤1000*2000001:=Nat.mul_le_mul (by omega) hst2
    have e6:IntKind.i64.wrap ((k:Int)*(st:Int))=((k*st:Nat):Int):=by rw [← Int.natCast_mul,wrap_i64]<;>omega
    have e7:IntKind.i64.wrap (((cv b (cp v 0) 256:Nat):Int)+((k*st:Nat):Int))=((cv b (cp v 0) 256+k*st:Nat):Int):=by rw [wrap_i64]<;>omega
    simp only [go_sem,byq,p_CStep,hg,hgc,hne,onC_cod hb,cv_min,codV_min,cp_add,Int.toNat_natCast,hst,e6,e7,ofByte_u8]
    obtain ⟨y,hy⟩:∃ y,UInt8.ofNat (cv b (cp v 0) 256+k*st)=y:=⟨_,rfl⟩
    have hgk:=hgG k hk'
    rw [show 2*min (v+1) b.length+1=st from hst,hy] at hgk
    have hsp:splice (bys z) k (bys [y])=bys (z.set k y):=by
      rw [zly (by simp;omega),List.set_eq_take_append_cons_drop,if_pos (by omega)]
      simp
    rw [hy,hsp]
    refine ⟨⟨by omega,by omega⟩,by omega,(k+1,z.set k y),⟨by dsimp only;omega,by simp [hz],fun j hj=>?_⟩,by dsimp only;omega,?_⟩
    · dsimp only at hj ⊢
      by_cases hjk:j=k
      · subst hjk
        rw [List.getElem?_set_self (by omega),hgk]
      · rw [List.getElem?_set_ne (by omega)];exact hzj j (by omega)
    refine ⟨by simp only [zkm,zkn];omega,AHeap.Le.refl _,closed_cells (closed_buf (hcl2 _)) (by rw [zlx];trivial),?_,?_⟩
    · simp [ltF,zmn,zmv,zmx,zkm,zkn]
      try omega
    · simp [subW,wk2,wk1,wkM,Fr.get,e5]
  · have hk':k=n:=by simp at hc;omega
    subst hk'
    have hzG:z=G:=by
      refine List.ext_getElem? fun j=>?_
      by_cases hj:j<k
      · exact hzj j hj
      · rw [List.getElem?_eq_none (by omega),List.getElem?_eq_none (by omega)]
    subst hzG
    simp only [go_sem]
    refine ⟨rfl,AHeap.Le.refl _,closed_cells (closed_buf (hcl2 _)) (by rw [zlx];trivial),?_⟩
    simp [zmx,zkm,zkn]
end Go.AL


open Go Go.AL Go.Proofs
namespace Go.AL
set_option linter.all false
set_option maxRecDepth 10000

theorem gB_min {b:List UInt8} {n v:Nat}:gB b n (min v b.length)=gB b n v:=by
  unfold gB
  rw [cv_min,show min (min v b.length+1) b.length=min (v+1) b.length by omega]
theorem gB_len {b:List UInt8} {n v:Nat}:(gB b n v).length=n:=by simp [gB]
end Go.AL

