/- Lemmas of the proof; no condition. -/
import Derived.Test.YthnlhjalhflgfaaGreatLSch2
set_option linter.all false
open Go Go.AL
namespace Go.AL
abbrev Rf:=Int × Int
abbrev DR:=Option (Option (List Int))
def goL (rec:Int→List Int→DR):List Int→List Int→DR
 |[],d=>some (some d)
 |y::ys,d=>match rec y d with
  |some (some d')=>goL rec ys d'
  |r=>r
def rm (rs:List Rf) (t:Int):List Int:=(rs.filter fun r=>r.1==t).map (·.2)
def dfs (rs:List Rf):Nat→List Int→Int→List Int→DR
 |0,_,_,_=>none
 |f+1,o,t,d=>if t∈o then some none else if t∈d then some (some d) else
  match goL (dfs rs f (t::o)) (rm rs t) d with
  |some (some d')=>some (some (t::d'))
  |r=>r
theorem mem_outs {rs:List Rf} {t y:Int}:y∈rm rs t↔(t,y)∈rs:=by
 unfold rm
 rw [List.mem_map]
 constructor
 ·rintro ⟨⟨a,b⟩,h,rfl⟩
  rw [List.mem_filter] at h
  obtain ⟨h1,h2⟩:=h
  have:a=t:=by simpa using h2
  subst this;exact h1
 ·intro h
  exact ⟨(t,y),List.mem_filter.2 ⟨h,by simp⟩,rfl⟩
inductive Ord (rs:List Rf):List Int→Prop
 |nil:Ord rs []
 |cons {x:Int} {d:List Int}:Ord rs d→(∀ y,(x,y)∈rs→y∈d)→Ord rs (x::d)
theorem u2 {rs:List Rf} {rec:Int→List Int→DR} (h:∀ y d d',rec y d=some (some d')→Ord rs d→Ord rs d'∧d ⊆ d'∧y∈d') :
 ∀ {ys d d'},goL rec ys d=some (some d')→Ord rs d→Ord rs d'∧d ⊆ d'∧ys ⊆ d'
 |[],d,d',hr,ho=>by cases hr;exact ⟨ho,fun _ h=>h,fun _ h=>by cases h⟩
 |y::ys,d,d',hr,ho=>by
  unfold goL at hr
  split at hr
  ·rename_i d1 h1
   obtain ⟨a1,a2,a3⟩:=h y d d1 h1 ho
   obtain ⟨b1,b2,b3⟩:=u2 h hr a1
   refine ⟨b1,fun x hx=>b2 (a2 hx),fun x hx=>?_⟩
   rcases List.mem_cons.1 hx with rfl|hx
   ·exact b2 a3
   ·exact b3 hx
  ·rename_i h1;exact absurd hr (h1 d')
theorem zp {rs:List Rf}:∀ (f:Nat) {o t d d'},dfs rs f o t d=some (some d')→Ord rs d→Ord rs d'∧d ⊆ d'∧t∈d'
 |0,_,_,_,_,h,_=>by cases h
 |f+1,o,t,d,d',h,ho=>by
  unfold dfs at h
  split at h
  ·cases h
  ·split at h
   ·rename_i h2;cases h;exact ⟨ho,fun _ h=>h,h2⟩
   ·split at h
    ·rename_i d1 h3
     obtain ⟨a1,a2,a3⟩:=u2 (fun y d d'=>zp f) h3 ho
     cases h
     exact ⟨.cons a1 fun y hy=>a3 (mem_outs.2 hy),fun x hx=>List.mem_cons_of_mem _ (a2 hx),List.mem_cons_self⟩
    ·rename_i h3;exact absurd h (h3 d')
theorem vp {rec:Int→List Int→DR} {P:Int→Prop} (h:∀ y d,P y→rec y d≠some none):∀ {ys d},(∀ y∈ys,P y)→goL rec ys d≠some none
 |[],_,_=>by unfold goL;simp
 |y::ys,d,hp=>by
  unfold goL
  split
  ·exact vp h fun z hz=>hp z (List.mem_cons_of_mem _ hz)
  ·exact h y d (hp y List.mem_cons_self)
theorem wc {rs:List Rf} {pos:Int→Nat} (hr:∀ r∈rs,pos r.2<pos r.1):∀ (f:Nat) {o t d},(∀ x∈o,pos t<pos x)→dfs rs f o t d≠some none
 |0,_,_,_,_=>by unfold dfs;simp
 |f+1,o,t,d,ho=>by
  unfold dfs
  split
  ·rename_i h;have:=ho t h;omega
  ·split
   ·simp
   ·have:goL (dfs rs f (t::o)) (rm rs t) d≠some none:=vp (P:=fun y=>(t,y)∈rs) (fun y d hy=>wc hr f fun x hx=>by
     have h1:=hr _ hy
     dsimp only at h1
     rcases List.mem_cons.1 hx with rfl|hx
     ·exact h1
     ·have:=ho x hx;omega) fun y hy=>mem_outs.1 hy
    split
    ·simp
    ·exact this
def lft (U o:List Int):Nat:=(U.filter fun x=>!(o.contains x)).length
theorem ED {o:List Int} {t:Int} (h2:t ∉ o):∀ {U:List Int},t∈U→lft U (t::o)<lft U o:=by
 have le:∀ U:List Int,lft U (t::o)≤lft U o:=by
  intro U
  induction U with
  |nil=>exact nrq _
  |cons x U ih =>
   unfold lft at *
   rw [List.filter_cons,List.filter_cons]
   by_cases hx:x∈o
   ·rw [if_neg (by simp [hx]),if_neg (by simp [hx])];exact ih
   ·rw [if_pos (c:=(!(o.contains x))=true) (by simp [hx])]
    split
    ·simp only [List.length_cons];omega
    ·simp only [List.length_cons];omega
 intro U
 induction U with
 |nil=>intro h;cases h
 |cons x U ih =>
  intro h
  have l1:=le U
  unfold lft at *
  rw [List.filter_cons,List.filter_cons]
  rcases List.mem_cons.1 h with rfl|h
  ·rw [if_neg (by simp),if_pos (by simp [h2])]
   simp only [List.length_cons];omega
  ·have h3:=ih h
   by_cases hx:x∈o
   ·rw [if_neg (by simp [hx]),if_neg (by simp [hx])];exact h3
   ·rw [if_pos (c:=(!(o.contains x))=true) (by simp [hx])]
    split
    ·simp only [List.length_cons];omega
    ·simp only [List.length_cons];omega
theorem rP {rec:Int→List Int→DR} {P:Int→Prop} (h:∀ y d,P y→rec y d≠none):∀ {ys d},(∀ y∈ys,P y)→goL rec ys d≠none
 |[],_,_=>by unfold goL;simp
 |y::ys,d,hp=>by
  unfold goL
  split
  ·exact rP h fun z hz=>hp z (List.mem_cons_of_mem _ hz)
  ·exact h y d (hp y List.mem_cons_self)
theorem wP {rs:List Rf} {U:List Int} (hU:∀ r∈rs,r.2∈U):∀ (f:Nat) {o t d},t∈U→lft U o<f→dfs rs f o t d≠none
 |0,_,_,_,_,h=>by omega
 |f+1,o,t,d,ht,hf=>by
  unfold dfs
  split
  ·simp
  ·rename_i h1
   split
   ·simp
   ·have l1:=ED h1 ht
    have:goL (dfs rs f (t::o)) (rm rs t) d≠none:=rP (P:=fun y=>y∈U) (fun y d hy=>wP hU f hy (by omega)) fun y hy=>hU _ (mem_outs.1 hy)
    split
    ·simp
    ·exact this
def oB (rs:List Rf) (f:Nat) (ids:List Int):DR:=goL (dfs rs f []) ids []
abbrev BL:=List (Int × Bool)
def lkB:BL→Int→Bool
 |[],_=>false
 |v::l,n=>if v.1=n then v.2 else lkB l n
def qA (v:Int→BL→BL→Option (Bool × BL × BL)) (n:Int):List SRef→BL→BL→Option (Bool × BL × BL)
 |[],o,d=>some (false,o,d)
 |r::l,o,d=>if r.table==n then match v r.toTable o d with
   |some (false,o',d')=>qA v n l o' d'
   |x=>x
  else qA v n l o d
def lX (rs:List SRef):Nat→Int→BL→BL→Option (Bool × BL × BL)
 |0,_,_,_=>none
 |f+1,n,o,d=>if lkB o n then some (true,o,d) else if lkB d n then some (false,o,d) else
  match qA (lX rs f) n rs ((n,true)::o) d with
  |some (false,o',d')=>some (false,(n,false)::(n,lkB o' n)::o',(n,true)::(n,lkB d' n)::d')
  |x=>x
def j64 (n:Int):Prop := -9223372036854775808≤n∧n≤9223372036854775807
def okB (l:BL):Prop:=∀ v∈l,j64 v.1
theorem uA {v:Int→BL→BL→Option (Bool × BL × BL)} {n:Int}:∀ (l:List SRef) {o d:BL} {b:Bool} {o' d':BL},(∀ r∈l,∀ (o d:BL) (b:Bool) (o' d':BL),v r.toTable o d=some (b,o',d')→okB o→okB d→okB o'∧okB d')→qA v n l o d=some (b,o',d')→okB o→okB d→okB o'∧okB d'
 |[],o,d,b,o',d',_,h,h1,h2=>by cases h;exact ⟨h1,h2⟩
 |r::l,o,d,b,o',d',hv,h,h1,h2=>by
  have hl:=fun x hx=>hv x (List.mem_cons_of_mem r hx)
  unfold qA at h
  split at h
  ·split at h
   ·rename_i o2 d2 he
    obtain ⟨g1,g2⟩:=hv r List.mem_cons_self _ _ _ _ _ he h1 h2
    exact uA l hl h g1 g2
   ·exact hv r List.mem_cons_self _ _ _ _ _ h h1 h2
  ·exact uA l hl h h1 h2
theorem mP {n:Int} (hn:j64 n) {l:BL} {c:Bool} (hl:okB l):okB ((n,c)::l):=fun v hv=>by
 rcases List.mem_cons.1 hv with rfl|hv
 ·exact hn
 ·exact hl v hv
theorem vD {rs:List SRef} (hr:∀ r∈rs,j64 r.toTable):∀ (f:Nat) {n:Int} {o d:BL} {b:Bool} {o' d':BL},j64 n→lX rs f n o d=some (b,o',d')→okB o→okB d→okB o'∧okB d'
 |0,n,o,d,b,o',d',_,h,_,_=>by cases h
 |f+1,n,o,d,b,o',d',hn,h,h1,h2=>by
  unfold lX at h
  split at h
  ·cases h;exact ⟨h1,h2⟩
  ·split at h
   ·cases h;exact ⟨h1,h2⟩
   ·have key:∀ {b:Bool} {o2 d2:BL},qA (lX rs f) n rs ((n,true)::o) d=some (b,o2,d2)→okB o2∧okB d2:=fun he=>uA rs (fun r hr' _ _ _ _ _ he' g1 g2=>vD hr f (hr r hr') he' g1 g2) he (mP hn h1) h2
    split at h
    ·rename_i o2 d2 he
     cases h
     obtain ⟨g1,g2⟩:=key he
     exact ⟨mP hn (mP hn g1),mP hn (mP hn g2)⟩
    ·exact key h
def lO (rs:List SRef):List Rf:=rs.map fun r=>(r.table,r.toTable)
def H7 (r:DR) (O:List Int) (v:Option (Bool × BL × BL)):Prop :=
 match r with
 |none=>v=none
 |some none=>∃ o' d',v=some (true,o',d')
 |some (some D')=>∃ o' d',v=some (false,o',d')∧(∀ x,lkB o' x=true↔x∈O)∧∀ x,lkB d' x=true↔x∈D'
theorem Cq {r:SRef} {l:List SRef} {n:Int}:rm (lO (r::l)) n=if r.table==n then r.toTable::rm (lO l) n else rm (lO l) n:=by
 unfold rm lO
 rw [List.map_cons,List.filter_cons]
 split<;>rfl
theorem r7 {rec:Int→List Int→DR} {v:Int→BL→BL→Option (Bool × BL × BL)} {n:Int} {O:List Int} (hv:∀ y D o d,(∀ x,lkB o x=true↔x∈O)→(∀ x,lkB d x=true↔x∈D)→H7 (rec y D) O (v y o d)) :
 ∀ (l:List SRef) {D:List Int} {o d:BL},(∀ x,lkB o x=true↔x∈O)→(∀ x,lkB d x=true↔x∈D)→H7 (goL rec (rm (lO l) n) D) O (qA v n l o d)
 |[],D,o,d,ho,hd=>⟨o,d,rfl,ho,hd⟩
 |r::l,D,o,d,ho,hd=>by
  rw [Cq]
  unfold qA
  cases r.table==n with
  |false=>rw [if_neg Bool.false_ne_true,if_neg Bool.false_ne_true];exact r7 hv l ho hd
  |true =>
   rw [if_pos rfl,if_pos rfl]
   unfold goL
   have h:=hv r.toTable D o d ho hd
   cases hr:rec r.toTable D with
   |none=>rw [hr] at h;have h':v r.toTable o d=none:=h;rw [h'];rfl
   |some q=>cases q with
    |none=>rw [hr] at h;obtain ⟨o',d',h'⟩:=h;rw [h'];exact ⟨o',d',rfl⟩
    |some D'=>rw [hr] at h;obtain ⟨o',d',h',h1,h2⟩:=h;rw [h'];exact r7 hv l h1 h2
theorem wq {rs:List SRef}:∀ (f:Nat) {n:Int} {O D:List Int} {o d:BL},(∀ x,lkB o x=true↔x∈O)→(∀ x,lkB d x=true↔x∈D)→H7 (dfs (lO rs) f O n D) O (lX rs f n o d)
 |0,_,_,_,_,_,_,_=>rfl
 |f+1,n,O,D,o,d,ho,hd=>by
  unfold dfs lX
  by_cases h1:n∈O
  ·rw [if_pos h1,if_pos ((ho n).2 h1)];exact ⟨o,d,rfl⟩
  ·rw [if_neg h1,if_neg (fun h=>h1 ((ho n).1 h))]
   by_cases h2:n∈D
   ·rw [if_pos h2,if_pos ((hd n).2 h2)];exact ⟨o,d,rfl,ho,hd⟩
   ·rw [if_neg h2,if_neg (fun h=>h2 ((hd n).1 h))]
    have ho':∀ x,lkB ((n,true)::o) x=true↔x∈n::O:=fun x=>by
     unfold lkB
     by_cases hx:n=x
     ·subst hx;simp
     ·rw [if_neg hx,ho x,List.mem_cons]
      exact ⟨.inr,fun h=>h.resolve_left fun e=>hx e.symm⟩
    have h:=r7 (rec:=dfs (lO rs) f (n::O)) (v:=lX rs f) (n:=n) (fun y D o d a b=>wq (rs:=rs) f a b) rs ho' hd
    cases hr:goL (dfs (lO rs) f (n::O)) (rm (lO rs) n) D with
    |none=>rw [hr] at h;have h':qA (lX rs f) n rs ((n,true)::o) d=none:=h;rw [h'];rfl
    |some q=>cases q with
     |none=>rw [hr] at h;obtain ⟨o',d',h'⟩:=h;rw [h'];exact ⟨o',d',rfl⟩
     |some D' =>
      rw [hr] at h;obtain ⟨o',d',h',g1,g2⟩:=h;rw [h']
      refine ⟨_,_,rfl,fun x=>?_,fun x=>?_⟩
      ·unfold lkB
       by_cases hx:n=x
       ·subst hx
        simp [h1]
       ·rw [if_neg hx]
        unfold lkB
        rw [if_neg hx,g1 x,List.mem_cons]
        exact ⟨fun h=>h.resolve_left fun e=>hx e.symm,.inr⟩
      ·unfold lkB
       by_cases hx:n=x
       ·subst hx;simp
       ·rw [if_neg hx]
        unfold lkB
        rw [if_neg hx,g2 x,List.mem_cons]
        exact ⟨.inr,fun h=>h.resolve_left fun e=>hx e.symm⟩
def yN (v:Int→BL→BL→Option (Bool × BL × BL)):List Int→BL→BL→Option (Bool × BL × BL)
 |[],o,d=>some (false,o,d)
 |n::l,o,d=>match v n o d with
  |some (false,o',d')=>yN v l o' d'
  |x=>x
theorem xb {rec:Int→List Int→DR} {v:Int→BL→BL→Option (Bool × BL × BL)} {O:List Int} (hv:∀ y D o d,(∀ x,lkB o x=true↔x∈O)→(∀ x,lkB d x=true↔x∈D)→H7 (rec y D) O (v y o d)) :
 ∀ (l:List Int) {D:List Int} {o d:BL},(∀ x,lkB o x=true↔x∈O)→(∀ x,lkB d x=true↔x∈D)→H7 (goL rec l D) O (yN v l o d)
 |[],D,o,d,ho,hd=>⟨o,d,rfl,ho,hd⟩
 |n::l,D,o,d,ho,hd=>by
  unfold yN goL
  have h:=hv n D o d ho hd
  cases hr:rec n D with
  |none=>rw [hr] at h;have h':v n o d=none:=h;rw [h'];rfl
  |some q=>cases q with
   |none=>rw [hr] at h;obtain ⟨o',d',h'⟩:=h;rw [h'];exact ⟨o',d',rfl⟩
   |some D'=>rw [hr] at h;obtain ⟨o',d',h',h1,h2⟩:=h;rw [h'];exact xb hv l h1 h2
def j8 (S:Sch):List Int:=S.tables.map (·.id)
def qZ (S:Sch):Bool:=match oB (lO S.refs) (S.tables.length+1) (j8 S) with
 |some (some _)=>true
 |_=>false
def wQ (S:Sch):Prop:=∀ r∈S.refs,r.table∈j8 S∧r.toTable∈j8 S
theorem rh {S:Sch} (h:wQ S):oB (lO S.refs) (S.tables.length+1) (j8 S)≠none:=by
 refine rP (P:=fun y=>y∈j8 S) (fun y d hy=>wP (U:=j8 S) (fun r hr=>?_) _ hy ?_) fun y hy=>hy
 ·unfold lO at hr
  obtain ⟨x,hx,rfl⟩:=List.mem_map.1 hr
  exact (h x hx).2
 ·have:lft (j8 S) []≤(j8 S).length:=List.length_filter_le _ _
  have h2:(j8 S).length=S.tables.length:=List.length_map _
  omega
theorem F5 {S:Sch} (h:wQ S):∃ o' d',yN (lX S.refs (S.tables.length+1)) (j8 S) [] []=some (!qZ S,o',d'):=by
 have h1:=xb (O:=[]) (rec:=dfs (lO S.refs) (S.tables.length+1) []) (v:=lX S.refs (S.tables.length+1)) (fun y D o d a b=>wq _ a b) (j8 S) (D:=[]) (o:=[]) (d:=[]) (fun x=>by simp [lkB]) (fun x=>by simp [lkB])
 have h2:=rh h
 unfold qZ
 unfold oB at h2 ⊢
 cases hw:goL (dfs (lO S.refs) (S.tables.length+1) []) (j8 S) [] with
 |none=>exact absurd hw h2
 |some q=>cases q with
  |none=>rw [hw] at h1;obtain ⟨o',d',h'⟩:=h1;exact ⟨o',d',h'⟩
  |some D'=>rw [hw] at h1;obtain ⟨o',d',h',_⟩:=h1;exact ⟨o',d',h'⟩
end Go.AL
