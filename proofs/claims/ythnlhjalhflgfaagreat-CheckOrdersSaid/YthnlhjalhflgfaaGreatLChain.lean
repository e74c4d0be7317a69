/- Lemmas of the proof; no condition. -/
import Derived.Test.YthnlhjalhflgfaaGreatE05b
import Derived.Test.YthnlhjalhflgfaaGreatW03p
set_option linter.all false
set_option maxRecDepth 10000
open Go Go.AL Go.Proofs
namespace Go.AL
def Pos (L:List SRef) (p:Int→Nat):Prop:=∀ r∈L,p r.toTable<p r.table
theorem Fz {S:Sch} (h:ov S):nS S=true↔∃ p,Pos S.refs p:=by
 have hs:=uK h
 unfold nS
 constructor
 ·intro ha
  split at ha
  ·rename_i D hD
   obtain ⟨h1,_,h3⟩:=tA (fun y d d'=>xK _) hD .nil
   have key:∀ {D:List Int},Ord (kh S.refs) D→∃ p:Int→Nat,(∀ x∈D,p x≤D.length)∧(∀ x,x ∉ D→p x=0)∧(∀ x∈D,0<p x)∧∀ r∈S.refs,r.table∈D→p r.toTable<p r.table:=by
    intro D hD
    induction hD with
    |nil=>exact ⟨fun _=>0,by simp,by simp,by simp,by simp⟩
    |@cons x d hd hx ih =>
     obtain ⟨p,p1,p2,p4,p3⟩:=ih
     by_cases hxd:x∈d
     ·refine ⟨p,fun y hy=>?_,fun y hy=>p2 y fun h=>hy (List.mem_cons_of_mem _ h),fun y hy=>?_,fun r hr hm=>?_⟩
      ·rcases List.mem_cons.1 hy with rfl|hy
       ·have:=p1 _ hxd;simp only [List.length_cons];omega
       ·have:=p1 y hy;simp only [List.length_cons];omega
      ·rcases List.mem_cons.1 hy with rfl|hy
       ·exact p4 _ hxd
       ·exact p4 y hy
      ·rcases List.mem_cons.1 hm with he|hm
       ·exact p3 r hr (he ▸ hxd)
       ·exact p3 r hr hm
     ·refine ⟨fun y=>if y=x then d.length+1 else p y,fun y hy=>?_,fun y hy=>?_,fun y hy=>?_,fun r hr hm=>?_⟩
      ·dsimp only
       split
       ·simp
       ·rename_i hne
        rcases List.mem_cons.1 hy with e|hy
        ·exact absurd e hne
        ·have:=p1 y hy;simp only [List.length_cons];omega
      ·dsimp only
       rw [if_neg (fun e:y=x=>hy (by rw [e];exact List.mem_cons_self))]
       exact p2 y fun h=>hy (List.mem_cons_of_mem _ h)
      ·dsimp only
       split
       ·omega
       ·rename_i hne
        rcases List.mem_cons.1 hy with e|hy
        ·exact absurd e hne
        ·exact p4 y hy
      ·dsimp only
       by_cases he:r.table=x
       ·rw [if_pos he]
        have hm2:r.toTable∈d:=hx _ (List.mem_map.2 ⟨r,hr,by rw [he]⟩)
        rw [if_neg (fun e:r.toTable=x=>hxd (by rw [← e];exact hm2))]
        have:=p1 _ hm2;omega
       ·rw [if_neg he]
        have hd':r.table∈d:=(List.mem_cons.1 hm).resolve_left he
        have:=p3 r hr hd'
        split
        ·rename_i e2
         have h5:p r.toTable=0:=p2 _ (e2 ▸ hxd)
         exfalso
         -- the successor of a done one is done
         have:∀ {D:List Int},Ord (kh S.refs) D→∀ z∈D,∀ y,(z,y)∈kh S.refs→y∈D:=by
          intro D hD
          induction hD with
          |nil=>intro z hz;cases hz
          |@cons x d hd hx ih =>
           intro z hz y hy
           rcases List.mem_cons.1 hz with rfl|hz
           ·exact List.mem_cons_of_mem _ (hx y hy)
           ·exact List.mem_cons_of_mem _ (ih z hz y hy)
         have h6:=this hd r.table hd' r.toTable (List.mem_map.2 ⟨r,hr,rfl⟩)
         exact hxd (e2 ▸ h6)
        ·exact this
   obtain ⟨p,_,_,_,p3⟩:=key h1
   exact ⟨p,fun r hr=>p3 r hr (h3 (h r hr).1)⟩
  ·cases ha
 ·rintro ⟨p,hp⟩
  have h1:lN (kh S.refs) (S.tables.length+1) (fE S)≠some none:=tu (P:=fun _=>True) (fun y d _=>tX (pos:=p) (fun r hr=>by
   obtain ⟨x,hx,rfl⟩:=List.mem_map.1 hr
   exact hp x hx) _ (fun x hx=>by cases hx)) fun _ _=>trivial
  cases hw:lN (kh S.refs) (S.tables.length+1) (fE S) with
  |none=>exact absurd hw hs
  |some q=>cases q with
   |none=>exact absurd hw h1
   |some D=>rfl
def rf (f t:Nat):SRef:=⟨(f:Int),0,0,0,(t:Int),0⟩
end Go.AL
