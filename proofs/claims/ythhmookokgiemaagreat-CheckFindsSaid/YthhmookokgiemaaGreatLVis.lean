/- Lemmas of the proof; no condition. -/
import Derived.Test.YthhmookokgiemaaGreatLSch2
set_option linter.all false
open Go Go.AL
namespace Go.AL
abbrev Rf:=Int × Int
abbrev DR:=Option (Option (List Int))
def goL (rec:Int→List Int→DR):List Int→List Int→DR
 |[],d=>some (some d)
 |y::ys,d=>match rec y d with
  |some (some d')=>goL rec ys d'
  |r=>r
def rP (rs:List Rf) (t:Int):List Int:=(rs.filter fun r=>r.1==t).map (·.2)
def dfs (rs:List Rf):Nat→List Int→Int→List Int→DR
 |0,_,_,_=>none
 |f+1,o,t,d=>if t∈o then some none else if t∈d then some (some d) else
  match goL (dfs rs f (t::o)) (rP rs t) d with
  |some (some d')=>some (some (t::d'))
  |r=>r
theorem mem_outs {rs:List Rf} {t y:Int}:y∈rP rs t↔(t,y)∈rs:=by
 unfold rP
 rw [List.mem_map]
 constructor
 ·rintro ⟨⟨a,b⟩,h,rfl⟩
  rw [List.mem_filter] at h
  obtain ⟨h1,h2⟩:=h
  have:a=t:=by simpa using h2
  subst this;exact h1
 ·intro h
  exact ⟨(t,y),List.mem_filter.2 ⟨h,by simp⟩,rfl⟩
def lft (U o:List Int):Nat:=(U.filter fun x=>!(o.contains x)).length
theorem EO {o:List Int} {t:Int} (h2:t ∉ o):∀ {U:List Int},t∈U→lft U (t::o)<lft U o:=by
 have le:∀ U:List Int,lft U (t::o)≤lft U o:=by
  intro U
  induction U with
  |nil=>exact nrq _
  |cons x U ih =>
   unfold lft at *
   rw [List.filter_cons,List.filter_cons]
   by_cases hx:x∈o
   ·rw [if_neg (by simp [hx]),if_neg (by simp [hx])];exact ih
   ·rw [if_pos (c:=(!(o.contains x))=true) (by simp [hx])]
    split
    ·simp only [List.length_cons];omega
    ·simp only [List.length_cons];omega
 intro U
 induction U with
 |nil=>intro h;cases h
 |cons x U ih =>
  intro h
  have l1:=le U
  unfold lft at *
  rw [List.filter_cons,List.filter_cons]
  rcases List.mem_cons.1 h with rfl|h
  ·rw [if_neg (by simp),if_pos (by simp [h2])]
   simp only [List.length_cons];omega
  ·have h3:=ih h
   by_cases hx:x∈o
   ·rw [if_neg (by simp [hx]),if_neg (by simp [hx])];exact h3
   ·rw [if_pos (c:=(!(o.contains x))=true) (by simp [hx])]
    split
    ·simp only [List.length_cons];omega
    ·simp only [List.length_cons];omega
theorem p9 {rec:Int→List Int→DR} {P:Int→Prop} (h:∀ y d,P y→rec y d≠none):∀ {ys d},(∀ y∈ys,P y)→goL rec ys d≠none
 |[],_,_=>by unfold goL;simp
 |y::ys,d,hp=>by
  unfold goL
  split
  ·exact p9 h fun z hz=>hp z (List.mem_cons_of_mem _ hz)
  ·exact h y d (hp y List.mem_cons_self)
theorem xc {rs:List Rf} {U:List Int} (hU:∀ r∈rs,r.2∈U):∀ (f:Nat) {o t d},t∈U→lft U o<f→dfs rs f o t d≠none
 |0,_,_,_,_,h=>by omega
 |f+1,o,t,d,ht,hf=>by
  unfold dfs
  split
  ·simp
  ·rename_i h1
   split
   ·simp
   ·have l1:=EO h1 ht
    have:goL (dfs rs f (t::o)) (rP rs t) d≠none:=p9 (P:=fun y=>y∈U) (fun y d hy=>xc hU f hy (by omega)) fun y hy=>hU _ (mem_outs.1 hy)
    split
    ·simp
    ·exact this
def qp (rs:List Rf) (f:Nat) (ids:List Int):DR:=goL (dfs rs f []) ids []
abbrev BL:=List (Int × Bool)
def lkB:BL→Int→Bool
 |[],_=>false
 |v::l,n=>if v.1=n then v.2 else lkB l n
def pm (v:Int→BL→BL→Option (Bool × BL × BL)) (n:Int):List SRef→BL→BL→Option (Bool × BL × BL)
 |[],o,d=>some (false,o,d)
 |r::l,o,d=>if r.table==n then match v r.toTable o d with
   |some (false,o',d')=>pm v n l o' d'
   |x=>x
  else pm v n l o d
def lm (rs:List SRef):Nat→Int→BL→BL→Option (Bool × BL × BL)
 |0,_,_,_=>none
 |f+1,n,o,d=>if lkB o n then some (true,o,d) else if lkB d n then some (false,o,d) else
  match pm (lm rs f) n rs ((n,true)::o) d with
  |some (false,o',d')=>some (false,(n,false)::(n,lkB o' n)::o',(n,true)::(n,lkB d' n)::d')
  |x=>x
def j64 (n:Int):Prop := -9223372036854775808≤n∧n≤9223372036854775807
def okB (l:BL):Prop:=∀ v∈l,j64 v.1
theorem vC {v:Int→BL→BL→Option (Bool × BL × BL)} {n:Int}:∀ (l:List SRef) {o d:BL} {b:Bool} {o' d':BL},(∀ r∈l,∀ (o d:BL) (b:Bool) (o' d':BL),v r.toTable o d=some (b,o',d')→okB o→okB d→okB o'∧okB d')→pm v n l o d=some (b,o',d')→okB o→okB d→okB o'∧okB d'
 |[],o,d,b,o',d',_,h,h1,h2=>by cases h;exact ⟨h1,h2⟩
 |r::l,o,d,b,o',d',hv,h,h1,h2=>by
  have hl:=fun x hx=>hv x (List.mem_cons_of_mem r hx)
  unfold pm at h
  split at h
  ·split at h
   ·rename_i o2 d2 he
    obtain ⟨g1,g2⟩:=hv r List.mem_cons_self _ _ _ _ _ he h1 h2
    exact vC l hl h g1 g2
   ·exact hv r List.mem_cons_self _ _ _ _ _ h h1 h2
  ·exact vC l hl h h1 h2
theorem lW {n:Int} (hn:j64 n) {l:BL} {c:Bool} (hl:okB l):okB ((n,c)::l):=fun v hv=>by
 rcases List.mem_cons.1 hv with rfl|hv
 ·exact hn
 ·exact hl v hv
theorem vj {rs:List SRef} (hr:∀ r∈rs,j64 r.toTable):∀ (f:Nat) {n:Int} {o d:BL} {b:Bool} {o' d':BL},j64 n→lm rs f n o d=some (b,o',d')→okB o→okB d→okB o'∧okB d'
 |0,n,o,d,b,o',d',_,h,_,_=>by cases h
 |f+1,n,o,d,b,o',d',hn,h,h1,h2=>by
  unfold lm at h
  split at h
  ·cases h;exact ⟨h1,h2⟩
  ·split at h
   ·cases h;exact ⟨h1,h2⟩
   ·have key:∀ {b:Bool} {o2 d2:BL},pm (lm rs f) n rs ((n,true)::o) d=some (b,o2,d2)→okB o2∧okB d2:=fun he=>vC rs (fun r hr' _ _ _ _ _ he' g1 g2=>vj hr f (hr r hr') he' g1 g2) he (lW hn h1) h2
    split at h
    ·rename_i o2 d2 he
     cases h
     obtain ⟨g1,g2⟩:=key he
     exact ⟨lW hn (lW hn g1),lW hn (lW hn g2)⟩
    ·exact key h
def n5 (rs:List SRef):List Rf:=rs.map fun r=>(r.table,r.toTable)
def Dz (r:DR) (O:List Int) (v:Option (Bool × BL × BL)):Prop :=
 match r with
 |none=>v=none
 |some none=>∃ o' d',v=some (true,o',d')
 |some (some D')=>∃ o' d',v=some (false,o',d')∧(∀ x,lkB o' x=true↔x∈O)∧∀ x,lkB d' x=true↔x∈D'
theorem Cf {r:SRef} {l:List SRef} {n:Int}:rP (n5 (r::l)) n=if r.table==n then r.toTable::rP (n5 l) n else rP (n5 l) n:=by
 unfold rP n5
 rw [List.map_cons,List.filter_cons]
 split<;>rfl
theorem qh {rec:Int→List Int→DR} {v:Int→BL→BL→Option (Bool × BL × BL)} {n:Int} {O:List Int} (hv:∀ y D o d,(∀ x,lkB o x=true↔x∈O)→(∀ x,lkB d x=true↔x∈D)→Dz (rec y D) O (v y o d)) :
 ∀ (l:List SRef) {D:List Int} {o d:BL},(∀ x,lkB o x=true↔x∈O)→(∀ x,lkB d x=true↔x∈D)→Dz (goL rec (rP (n5 l) n) D) O (pm v n l o d)
 |[],D,o,d,ho,hd=>⟨o,d,rfl,ho,hd⟩
 |r::l,D,o,d,ho,hd=>by
  rw [Cf]
  unfold pm
  cases r.table==n with
  |false=>rw [if_neg Bool.false_ne_true,if_neg Bool.false_ne_true];exact qh hv l ho hd
  |true =>
   rw [if_pos rfl,if_pos rfl]
   unfold goL
   have h:=hv r.toTable D o d ho hd
   cases hr:rec r.toTable D with
   |none=>rw [hr] at h;have h':v r.toTable o d=none:=h;rw [h'];rfl
   |some q=>cases q with
    |none=>rw [hr] at h;obtain ⟨o',d',h'⟩:=h;rw [h'];exact ⟨o',d',rfl⟩
    |some D'=>rw [hr] at h;obtain ⟨o',d',h',h1,h2⟩:=h;rw [h'];exact qh hv l h1 h2
theorem wc {rs:List SRef}:∀ (f:Nat) {n:Int} {O D:List Int} {o d:BL},(∀ x,lkB o x=true↔x∈O)→(∀ x,lkB d x=true↔x∈D)→Dz (dfs (n5 rs) f O n D) O (lm rs f n o d)
 |0,_,_,_,_,_,_,_=>rfl
 |f+1,n,O,D,o,d,ho,hd=>by
  unfold dfs lm
  by_cases h1:n∈O
  ·rw [if_pos h1,if_pos ((ho n).2 h1)];exact ⟨o,d,rfl⟩
  ·rw [if_neg h1,if_neg (fun h=>h1 ((ho n).1 h))]
   by_cases h2:n∈D
   ·rw [if_pos h2,if_pos ((hd n).2 h2)];exact ⟨o,d,rfl,ho,hd⟩
   ·rw [if_neg h2,if_neg (fun h=>h2 ((hd n).1 h))]
    have ho':∀ x,lkB ((n,true)::o) x=true↔x∈n::O:=fun x=>by
     unfold lkB
     by_cases hx:n=x
     ·subst hx;simp
     ·rw [if_neg hx,ho x,List.mem_cons]
      exact ⟨.inr,fun h=>h.resolve_left fun e=>hx e.symm⟩
    have h:=qh (rec:=dfs (n5 rs) f (n::O)) (v:=lm rs f) (n:=n) (fun y D o d a b=>wc (rs:=rs) f a b) rs ho' hd
    cases hr:goL (dfs (n5 rs) f (n::O)) (rP (n5 rs) n) D with
    |none=>rw [hr] at h;have h':pm (lm rs f) n rs ((n,true)::o) d=none:=h;rw [h'];rfl
    |some q=>cases q with
     |none=>rw [hr] at h;obtain ⟨o',d',h'⟩:=h;rw [h'];exact ⟨o',d',rfl⟩
     |some D' =>
      rw [hr] at h;obtain ⟨o',d',h',g1,g2⟩:=h;rw [h']
      refine ⟨_,_,rfl,fun x=>?_,fun x=>?_⟩
      ·unfold lkB
       by_cases hx:n=x
       ·subst hx
        simp [h1]
       ·rw [if_neg hx]
        unfold lkB
        rw [if_neg hx,g1 x,List.mem_cons]
        exact ⟨fun h=>h.resolve_left fun e=>hx e.symm,.inr⟩
      ·unfold lkB
       by_cases hx:n=x
       ·subst hx;simp
       ·rw [if_neg hx]
        unfold lkB
        rw [if_neg hx,g2 x,List.mem_cons]
        exact ⟨.inr,fun h=>h.resolve_left fun e=>hx e.symm⟩
def yM (v:Int→BL→BL→Option (Bool × BL × BL)):List Int→BL→BL→Option (Bool × BL × BL)
 |[],o,d=>some (false,o,d)
 |n::l,o,d=>match v n o d with
  |some (false,o',d')=>yM v l o' d'
  |x=>x
theorem wX {rec:Int→List Int→DR} {v:Int→BL→BL→Option (Bool × BL × BL)} {O:List Int} (hv:∀ y D o d,(∀ x,lkB o x=true↔x∈O)→(∀ x,lkB d x=true↔x∈D)→Dz (rec y D) O (v y o d)) :
 ∀ (l:List Int) {D:List Int} {o d:BL},(∀ x,lkB o x=true↔x∈O)→(∀ x,lkB d x=true↔x∈D)→Dz (goL rec l D) O (yM v l o d)
 |[],D,o,d,ho,hd=>⟨o,d,rfl,ho,hd⟩
 |n::l,D,o,d,ho,hd=>by
  unfold yM goL
  have h:=hv n D o d ho hd
  cases hr:rec n D with
  |none=>rw [hr] at h;have h':v n o d=none:=h;rw [h'];rfl
  |some q=>cases q with
   |none=>rw [hr] at h;obtain ⟨o',d',h'⟩:=h;rw [h'];exact ⟨o',d',rfl⟩
   |some D'=>rw [hr] at h;obtain ⟨o',d',h',h1,h2⟩:=h;rw [h'];exact wX hv l h1 h2
def kD (S:Sch):List Int:=S.tables.map (·.id)
def y6 (S:Sch):Bool:=match qp (n5 S.refs) (S.tables.length+1) (kD S) with
 |some (some _)=>true
 |_=>false
def AC (S:Sch):Prop:=∀ r∈S.refs,r.table∈kD S∧r.toTable∈kD S
theorem ya {S:Sch} (h:AC S):qp (n5 S.refs) (S.tables.length+1) (kD S)≠none:=by
 refine p9 (P:=fun y=>y∈kD S) (fun y d hy=>xc (U:=kD S) (fun r hr=>?_) _ hy ?_) fun y hy=>hy
 ·unfold n5 at hr
  obtain ⟨x,hx,rfl⟩:=List.mem_map.1 hr
  exact (h x hx).2
 ·have:lft (kD S) []≤(kD S).length:=List.length_filter_le _ _
  have h2:(kD S).length=S.tables.length:=List.length_map _
  omega
theorem Dw {S:Sch} (h:AC S):∃ o' d',yM (lm S.refs (S.tables.length+1)) (kD S) [] []=some (!y6 S,o',d'):=by
 have h1:=wX (O:=[]) (rec:=dfs (n5 S.refs) (S.tables.length+1) []) (v:=lm S.refs (S.tables.length+1)) (fun y D o d a b=>wc _ a b) (kD S) (D:=[]) (o:=[]) (d:=[]) (fun x=>by simp [lkB]) (fun x=>by simp [lkB])
 have h2:=ya h
 unfold y6
 unfold qp at h2 ⊢
 cases hw:goL (dfs (n5 S.refs) (S.tables.length+1) []) (kD S) [] with
 |none=>exact absurd hw h2
 |some q=>cases q with
  |none=>rw [hw] at h1;obtain ⟨o',d',h'⟩:=h1;exact ⟨o',d',h'⟩
  |some D'=>rw [hw] at h1;obtain ⟨o',d',h',_⟩:=h1;exact ⟨o',d',h'⟩
end Go.AL
