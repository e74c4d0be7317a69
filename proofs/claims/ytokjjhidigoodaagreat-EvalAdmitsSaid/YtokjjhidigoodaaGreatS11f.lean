/- Contracts and plain laws, a part of the proof; no condition of its own. -/
import Derived.Test.YtokjjhidigoodaaGreatS10r
import Derived.Test.YtokjjhidigoodaaGreatS10p
open List renaming length_cons → yaz, length_nil → yba, take_succ_cons → yaq, take_zero → yar, drop_succ_cons → yao, drop_zero → yap, length_map → ybb, map_cons → yae, map_nil → yaf, take_of_length_le → ybc, drop_append → ybd, take_append → ybe, drop_eq_nil_of_le → ybf, append_nil → yaj
open Go Go.AL Go.Proofs
namespace Go.AL
set_option linter.all false
set_option maxRecDepth 10000
end Go.AL
open Go Go.AL Go.Proofs
namespace Go.AL
set_option linter.all false
set_option maxRecDepth 10000
end Go.AL
open Go Go.AL Go.Proofs
namespace Go.AL
set_option linter.all false
set_option maxRecDepth 10000
end Go.AL
open Go Go.AL Go.Proofs
namespace Go.AL
set_option linter.all false
set_option maxRecDepth 10000
end Go.AL
open Go Go.AL Go.Proofs
namespace Go.AL
set_option linter.all false
set_option maxRecDepth 10000
end Go.AL
open Go Go.AL Go.Proofs
namespace Go.AL
set_option linter.all false
set_option maxRecDepth 10000
theorem yJ:ti Tryz.prog 23=some ⟨.slice 114,1,24,.slice .nil 1 []⟩:=by kernel_rfl
theorem A7:ti Tryz.prog 24=some ⟨.slice 48,1,24,.slice .nil 1 []⟩:=by kernel_rfl
theorem CT:ti Tryz.prog 114=some ⟨.struct [(0,4,false),(1,48,false),(3,48,false),(5,3,false),(6,48,false)],8,64,.agg [.bool false,.int .u64 0,.int .u64 0,.int .u64 0,.int .u64 0,.int .i64 0,.int .u64 0,.int .u64 0]⟩:=by kernel_rfl
attribute [go_sem] yJ A7 CT
end Go.AL
open Go Go.AL Go.Proofs
namespace Go.AL
set_option linter.all false
set_option maxRecDepth 10000
end Go.AL
open Go Go.AL Go.Proofs
namespace Go.AL
set_option linter.all false
set_option maxRecDepth 10000
end Go.AL
open Go Go.AL Go.Proofs
namespace Go.AL
set_option linter.all false
set_option maxRecDepth 10000
/-- a comparison that orders -/
structure TPre {α:Type} (f:α→α→Int):Prop where
 anti:∀ x y,f y x = - f x y
 trans:∀ x y z,f x y≤0→f y z≤0→f x z≤0
theorem TPre.zero {α:Type}:TPre fun _ _:α=>0:=⟨fun _ _=>rfl,fun _ _ _ _ _=>by decide⟩
end Go.AL
open Go Go.AL Go.Proofs
namespace Go.AL
set_option linter.all false
set_option maxRecDepth 10000
theorem zN:ti Tryz.prog 40=some ⟨.slice 26,1,24,.slice .nil 1 []⟩:=by kernel_rfl
theorem DK:ti Tryz.prog 26=some ⟨.struct [(0,3,false),(1,23,false),(2,3,false),(3,3,false),(4,24,false)],5,72,.agg [.int .i64 0,.slice .nil 1 [],.int .i64 0,.int .i64 0,.slice .nil 1 []]⟩:=by kernel_rfl
attribute [go_sem] zN DK
def eE (S:Sch) (b:List UInt8):Nat→Nat→List SEntry × Nat
 |0,v=>([],v)
 |k+1,v=>if v<b.length then ((fe S b (v+1) ((cv b v 4:Nat):Int)).1::(eE S b k (fe S b (v+1) ((cv b v 4:Nat):Int)).2).1,(eE S b k (fe S b (v+1) ((cv b v 4:Nat):Int)).2).2) else ([],v)
theorem rz {S:Sch} (hG:GenS S) {b:List UInt8}:∀ (k v:Nat),(eE S b k v).1.length≤k∧∀ e∈(eE S b k v).1,∃ m,GE S (eO S m) e
 |0,v=>⟨Nat.le_refl _,by simp [eE]⟩
 |k+1,v=>by
  obtain ⟨i1,i2⟩:=rz hG (b:=b) k (fe S b (v+1) ((cv b v 4:Nat):Int)).2
  unfold eE
  split
  ·refine ⟨by simp only [yaz];omega,fun e he=>?_⟩
   rcases List.mem_cons.1 he with rfl|he
   ·exact ⟨_,Dd hG⟩
   ·exact i2 e he
  ·exact ⟨by simp,by simp⟩
theorem Cr {i j:Nat} {es:List SEntry} (h:i<j:=by omega):AV.lt j (.slice (.own i) 5 (es.map cW)):=by
 rw [aM]
 refine ⟨fun k e=>(by cases e;exact h),ltL_iff.2 fun k hk=>?_⟩
 obtain ⟨x,_,e⟩:=List.mem_map.1 (List.getElem_mem hk)
 rw [← e];exact lh x
def oR:List AV→AHeap→(AEnd→AHeap→Prop)→Prop
 |[.ptr id 0,.agg l,.int .i64 n],H,K=>∃ S:Sch,(l=br S∧GenS S∧0≤n∧n≤1000)∧onC (H.get id) fun b v=>∀ (es:List SEntry) (w:Nat),(es.length:Int)≤n→(∀ e∈es,∃ m,GE S (eO S m) e)→K (.ret (.slice (.own (H.nx+1+1)) 5 (es.map cW))) ((((H.set id (di b w)).push (.cells (br S))).push (.buf 5 0)).push (.buf 5 es.length))
 |_,_,_=>False
set_option maxHeartbeats 4000000 in
theorem yr:EntOk Tryz.prog 13 (Ent.effect oR):=by
 refine EntOk.effect fun args H K h=>?_
 unfold oR at h
 split at h
 rotate_left
 ·exact h.elim
 rename_i id l n
 obtain ⟨S,⟨rfl,hG,hn0,hn1⟩,h⟩:=h
 obtain ⟨b,v,hg,hb,hv,hK⟩:=jc h
 obtain ⟨o1,o2⟩:=rz hG (b:=b) n.toNat v
 obtain ⟨R,hRd⟩:∃ R,eE S b n.toNat v=R:=⟨_,rfl⟩
 rw [hRd] at o1 o2
 refine ⟨_,_,hK R.1 R.2 (by omega) o2,?_⟩
 clear hK h
 have nxE:H.nx≤((((H.set id (di b R.2)).push (.cells (br S))).push (.buf 5 0)).push (.buf 5 R.1.length)).nx:=by simp only [zla,zlb];omega
 refine ACalls.fW aB (TblOk.cons z4 (TblOk.cons ir (TblOk.cons ES TblOk.nil))) Tryz.func13 [.tmp 6] nxE (T:=aA [(3,[[],[],[],[],[],[2,4],[2,4,5],[2,4,5]])]) (h:=fun hcl hlt=>?_)
 clear hlt
 have hid:=AHeap.get_lt hg
 have hne:=mj hid
 have hne2:=mj (show id<H.nx+1+1+1 by omega)
 have hgc:=ji (b:=b) hid
 have hcl2:∀ w,(H.set id (di b w)).Closed:=fun w=>ai hcl gN
 simp only [cr,bv,bhq,Nat.reduceMod,Nat.reduceDiv,bc,bf,bg,bX,bh,bV,bQ,bT,bU,yaq,yar,yao,yap,go_sem]
 obtain ⟨HL,hHL⟩:∃ HL:Nat→Nat→AHeap,HL=fun w k=>(((H.set id (di b w)).push (.cells (br S))).push (.buf 5 0)).push (.buf 5 k):=⟨_,rfl⟩
 have hclL:∀ w k,(HL w k).Closed:=fun w k=>by
  rw [hHL]
  exact af (af (ae (hcl2 w) (ltL_iff.2 fun j hj=>AV.lt_cells (qF S) j hj)))
 refine ay (A:=List SEntry × Nat) (fun x=>[(0,.ptr id 0),(2,.int .i64 n),(4,.ptr H.nx 0),(7,.slice (.own (H.nx+1+1)) 5 (x.1.map cW))]) (fun x=>HL x.2 x.1.length) (fun x=>x.1.length≤n.toNat∧x.1++(eE S b (n.toNat - x.1.length) x.2).1=R.1∧(eE S b (n.toNat - x.1.length) x.2).2=R.2) (fun x=>n.toNat - x.1.length) ([],v) ⟨by simp,by rw [← hRd];rfl,by rw [← hRd];rfl⟩ ?_ fun x hx=>?_
 ·rw [hHL]
  refine ⟨by simp only [zla,zlb,zkm,zkr];omega,by dsimp only;rw [show di b v=di b (cp v 0) from rfl,vy hg];exact AHeap.Le.refl _,by have:=hclL v 0;rw [hHL] at this;exact this,?_,?_⟩
  ·simp [ltF,zla,zlb,znj,znb,aM,znr]
   omega
  ·simp [aI,wk2,wk1,wkM,Fr.get]
 obtain ⟨es,w⟩:=x
 obtain ⟨hx1,hx2,hx3⟩:=hx
 dsimp only at hx1 hx2 hx3 ⊢
 rw [hHL]
 dsimp only
 by_cases hlt:es.length<n.toNat
 ·have d1:decide ((es.length:Int)<n)=true:=decide_eq_true (by omega)
  simp only [cr,bv,bhq,Nat.reduceMod,Nat.reduceDiv,bc,bf,bg,bX,bh,bV,bQ,bT,bU,yaq,yar,yao,yap,go_sem,br,hg,hgc,hne,hne2,aY,mS,pE,ybb,Int.toNat_natCast,d1]
  refine ⟨b,((min w b.length:Nat):Int),rfl,?_⟩
  by_cases hw:w<b.length
  ·have d2:decide (((min w b.length:Nat):Int)<(b.length:Int))=true:=decide_eq_true (by omega)
   have hk:n.toNat - es.length=(n.toNat - (es.length+1))+1:=by omega
   rw [hk] at hx2 hx3
   simp only [eE,if_pos hw] at hx2 hx3
   have hst:∀ m v,(pC S m b v)=(cW (fe S b v m).1,(fe S b v m).2):=fun _ _=>rfl
   have e4:(4:Int).toNat=4:=rfl
   have hcv:=dV (b:=b) (v:=w) (n:=4) (by decide)
   have e4':(1≤(4:Int)∧(4:Int)≤1000000)=True:=by simp
   simp only [cr,bv,bhq,Nat.reduceMod,Nat.reduceDiv,bc,bf,bg,bX,bh,bV,bQ,bT,bU,yaq,yar,yao,yap,go_sem,br,hg,hgc,hne,hne2,aY,aZ hb,cC hb (zz _ _),bw,aS,bG,cp0,ybb,Int.toNat_natCast,d2,e4,e4',mS]
   refine ⟨S,⟨rfl,hG,by omega,by omega⟩,?_⟩
   simp only [cr,bv,bhq,Nat.reduceMod,Nat.reduceDiv,bc,bf,bg,bX,bh,bV,bQ,bT,bU,yaq,yar,yao,yap,go_sem,br,hg,hgc,hne,hne2,hst,cW,eA,cp0,ybb,Int.toNat_natCast]
   have hsub:n.toNat - (es.length+1)=n.toNat - (es++[(fe S b (w+1) ((cv b w 4:Nat):Int)).1]).length:=by simp
   rw [hsub] at hx2 hx3
   have hcl1:=hclL (fe S b (w+1) ((cv b w 4:Nat):Int)).2 (es.length+1)
   rw [hHL] at hcl1
   have hlm:∀ j,AV.lt j (.slice (.own (H.nx+1+1)) 5 (es.map cW++[cW (fe S b (w+1) ((cv b w 4:Nat):Int)).1]))=(H.nx+1+1<j):=fun j=>by
    rw [aM]
    refine propext ⟨fun h=>h.1 _ rfl,fun h=>⟨fun i e=>(by cases e;exact h),ltL_iff.2 fun i hi=>?_⟩⟩
    have:=List.getElem_mem hi
    rw [List.mem_append,List.mem_map,List.mem_singleton] at this
    rcases this with ⟨x,_,e⟩|e
    ·rw [← e];exact lh x
    ·rw [e];exact lh _
   refine ⟨⟨by omega,by omega,fun z hz=>by rw [List.mem_singleton.1 hz];rfl⟩,(es++[(fe S b (w+1) ((cv b w 4:Nat):Int)).1],(fe S b (w+1) ((cv b w 4:Nat):Int)).2),⟨by simp;omega,by rw [List.append_assoc];exact hx2,hx3⟩,by simp;omega,?_⟩
   dsimp only
   rw [List.map_append,yae,yaf,List.length_append,yaz,yba,Nat.zero_add]
   refine ⟨by simp only [zla,zlb,zkr,zkm,gz];omega,by repeat first|exact .refl _|refine .push ?_ _,hcl1,?_,?_⟩
   ·simp only [ltF,zla,zlb,znj,znb,hlm]
    refine ⟨by omega,trivial,by omega,by omega,trivial⟩
   ·simp [aI,wk2,wk1,wkM,Fr.get,cW,eA]
  ·have d2:decide (((min w b.length:Nat):Int)<(b.length:Int))=false:=decide_eq_false (by omega)
   have hx2':es=R.1:=by
    rw [← hx2]
    cases h:n.toNat - es.length with
    |zero=>simp [eE]
    |succ k=>simp [eE,hw]
   have hx3':w=R.2:=by
    rw [← hx3]
    cases h:n.toNat - es.length with
    |zero=>simp [eE]
    |succ k=>simp [eE,hw]
   rw [← hx2',← hx3']
   simp only [cr,bv,bhq,Nat.reduceMod,Nat.reduceDiv,bc,bf,bg,bX,bh,bV,bQ,bT,bU,yaq,yar,yao,yap,go_sem,br,hg,hgc,hne,hne2,aY,aZ hb,cC hb (zz _ _),bw,aS,bG,cp0,ybb,Int.toNat_natCast,d2]
   have hce:=hclL w es.length
   rw [hHL] at hce
   simp only [br] at hce
   simp (disch:=first|exact Zd|omega) [↓zmk,beq,ybc,ybd,ybe,ag,wk,wk2,wk1,wkM,wkL,au,ybf,hcl2,hce]
   exact Cr
 ·have d1:decide ((es.length:Int)<n)=false:=decide_eq_false (by omega)
  have h0:n.toNat - es.length=0:=by omega
  rw [h0] at hx2 hx3
  simp only [eE,yaj] at hx2 hx3
  simp only [cr,bv,bhq,Nat.reduceMod,Nat.reduceDiv,bc,bf,bg,bX,bh,bV,bQ,bT,bU,yaq,yar,yao,yap,go_sem,br,hg,hgc,hne,hne2,aY,mS,pE,ybb,Int.toNat_natCast,d1]
  rw [← hx2,← hx3]
  have hce:=hclL w es.length
  rw [hHL] at hce
  simp only [br] at hce
  simp (disch:=first|exact Zd|omega) [↓zmk,beq,ybc,ybd,ybe,ag,wk,wk2,wk1,wkM,wkL,au,ybf,hcl2,hce]
  exact Cr
end Go.AL
