/- Lemmas of the proof; no condition. -/
import Derived.Test.YthnlhjalhflgfaaGreatLEntB
set_option linter.all false
open Go Go.AL
namespace Go.AL
abbrev Rf:=Int × Int
abbrev DR:=Option (Option (List Int))
def goL (rec:Int→List Int→DR):List Int→List Int→DR
 |[],d=>some (some d)
 |y::ys,d=>match rec y d with
  |some (some d')=>goL rec ys d'
  |r=>r
def uT (rs:List Rf) (t:Int):List Int:=(rs.filter fun r=>r.1==t).map (·.2)
def dfs (rs:List Rf):Nat→List Int→Int→List Int→DR
 |0,_,_,_=>none
 |f+1,o,t,d=>if t∈o then some none else if t∈d then some (some d) else
  match goL (dfs rs f (t::o)) (uT rs t) d with
  |some (some d')=>some (some (t::d'))
  |r=>r
theorem mem_outs {rs:List Rf} {t y:Int}:y∈uT rs t↔(t,y)∈rs:=by
 unfold uT
 rw [List.mem_map]
 constructor
 ·rintro ⟨⟨a,b⟩,h,rfl⟩
  rw [List.mem_filter] at h
  obtain ⟨h1,h2⟩:=h
  have:a=t:=by simpa using h2
  subst this;exact h1
 ·intro h
  exact ⟨(t,y),List.mem_filter.2 ⟨h,by simp⟩,rfl⟩
inductive Ord (rs:List Rf):List Int→Prop
 |nil:Ord rs []
 |cons {x:Int} {d:List Int}:Ord rs d→(∀ y,(x,y)∈rs→y∈d)→Ord rs (x::d)
theorem tA {rs:List Rf} {rec:Int→List Int→DR} (h:∀ y d d',rec y d=some (some d')→Ord rs d→Ord rs d'∧d ⊆ d'∧y∈d') :
 ∀ {ys d d'},goL rec ys d=some (some d')→Ord rs d→Ord rs d'∧d ⊆ d'∧ys ⊆ d'
 |[],d,d',hr,ho=>by cases hr;exact ⟨ho,fun _ h=>h,fun _ h=>by cases h⟩
 |y::ys,d,d',hr,ho=>by
  unfold goL at hr
  split at hr
  ·rename_i d1 h1
   obtain ⟨a1,a2,a3⟩:=h y d d1 h1 ho
   obtain ⟨b1,b2,b3⟩:=tA h hr a1
   refine ⟨b1,fun x hx=>b2 (a2 hx),fun x hx=>?_⟩
   rcases List.mem_cons.1 hx with rfl|hx
   ·exact b2 a3
   ·exact b3 hx
  ·rename_i h1;exact absurd hr (h1 d')
theorem xK {rs:List Rf}:∀ (f:Nat) {o t d d'},dfs rs f o t d=some (some d')→Ord rs d→Ord rs d'∧d ⊆ d'∧t∈d'
 |0,_,_,_,_,h,_=>by cases h
 |f+1,o,t,d,d',h,ho=>by
  unfold dfs at h
  split at h
  ·cases h
  ·split at h
   ·rename_i h2;cases h;exact ⟨ho,fun _ h=>h,h2⟩
   ·split at h
    ·rename_i d1 h3
     obtain ⟨a1,a2,a3⟩:=tA (fun y d d'=>xK f) h3 ho
     cases h
     exact ⟨.cons a1 fun y hy=>a3 (mem_outs.2 hy),fun x hx=>List.mem_cons_of_mem _ (a2 hx),List.mem_cons_self⟩
    ·rename_i h3;exact absurd h (h3 d')
theorem tu {rec:Int→List Int→DR} {P:Int→Prop} (h:∀ y d,P y→rec y d≠some none):∀ {ys d},(∀ y∈ys,P y)→goL rec ys d≠some none
 |[],_,_=>by unfold goL;simp
 |y::ys,d,hp=>by
  unfold goL
  split
  ·exact tu h fun z hz=>hp z (List.mem_cons_of_mem _ hz)
  ·exact h y d (hp y List.mem_cons_self)
theorem tX {rs:List Rf} {pos:Int→Nat} (hr:∀ r∈rs,pos r.2<pos r.1):∀ (f:Nat) {o t d},(∀ x∈o,pos t<pos x)→dfs rs f o t d≠some none
 |0,_,_,_,_=>by unfold dfs;simp
 |f+1,o,t,d,ho=>by
  unfold dfs
  split
  ·rename_i h;have:=ho t h;omega
  ·split
   ·simp
   ·have:goL (dfs rs f (t::o)) (uT rs t) d≠some none:=tu (P:=fun y=>(t,y)∈rs) (fun y d hy=>tX hr f fun x hx=>by
     have h1:=hr _ hy
     dsimp only at h1
     rcases List.mem_cons.1 hx with rfl|hx
     ·exact h1
     ·have:=ho x hx;omega) fun y hy=>mem_outs.1 hy
    split
    ·simp
    ·exact this
def lft (U o:List Int):Nat:=(U.filter fun x=>!(o.contains x)).length
theorem Kf {o:List Int} {t:Int} (h2:t ∉ o):∀ {U:List Int},t∈U→lft U (t::o)<lft U o:=by
 have le:∀ U:List Int,lft U (t::o)≤lft U o:=by
  intro U
  induction U with
  |nil=>exact nrq _
  |cons x U ih =>
   unfold lft at *
   rw [List.filter_cons,List.filter_cons]
   by_cases hx:x∈o
   ·rw [if_neg (by simp [hx]),if_neg (by simp [hx])];exact ih
   ·exact Y117
 intro U
 induction U with
 |nil=>intro h;cases h
 |cons x U ih =>
  intro h
  have l1:=le U
  unfold lft at *
  rw [List.filter_cons,List.filter_cons]
  rcases List.mem_cons.1 h with rfl|h
  ·rw [if_neg (by simp),if_pos (by simp [h2])]
   simp only [List.length_cons];omega
  ·have h3:=ih h
   by_cases hx:x∈o
   ·rw [if_neg (by simp [hx]),if_neg (by simp [hx])];exact h3
   ·exact Y117
theorem rC {rec:Int→List Int→DR} {P:Int→Prop} (h:∀ y d,P y→rec y d≠none):∀ {ys d},(∀ y∈ys,P y)→goL rec ys d≠none
 |[],_,_=>by unfold goL;simp
 |y::ys,d,hp=>by
  unfold goL
  split
  ·exact rC h fun z hz=>hp z (List.mem_cons_of_mem _ hz)
  ·exact h y d (hp y List.mem_cons_self)
theorem vH {rs:List Rf} {U:List Int} (hU:∀ r∈rs,r.2∈U):∀ (f:Nat) {o t d},t∈U→lft U o<f→dfs rs f o t d≠none
 |0,_,_,_,_,h=>by omega
 |f+1,o,t,d,ht,hf=>by
  unfold dfs
  split
  ·simp
  ·rename_i h1
   split
   ·simp
   ·have l1:=Kf h1 ht
    have:goL (dfs rs f (t::o)) (uT rs t) d≠none:=rC (P:=fun y=>y∈U) (fun y d hy=>vH hU f hy (by omega)) fun y hy=>hU _ (mem_outs.1 hy)
    split
    ·simp
    ·exact this
def lN (rs:List Rf) (f:Nat) (ids:List Int):DR:=goL (dfs rs f []) ids []
def oJ (rs:List Rf) (ids:List Int) (ix:Int→Nat) (out:List Nat) (i:Nat):Bool:=!(out.contains i)&&rs.all fun r=>!(r.1==ids.getD i 0)||out.contains (ix r.2)
def rnd (q:List Nat→Nat→Bool) (n:Nat) (out:List Nat):List Nat:=match (List.range n).find? (q out) with
 |some i=>out++[i]
 |none=>out
def nT (q:List Nat→Nat→Bool) (n:Nat):Nat→List Nat→List Nat
 |0,o=>o
 |k+1,o=>nT q n k (rnd q n o)
theorem HE {q:List Nat→Nat→Bool} {n:Nat} (hq:∀ o,(∃ i,i<n∧i ∉ o)→∃ i,i<n∧q o i=true) {o:List Nat} (h:∃ i,i<n∧i ∉ o):(rnd q n o).length=o.length+1:=by
 obtain ⟨i,h1,h2⟩:=hq o h
 unfold rnd
 split
 ·simp
 ·rename_i h3
  exact absurd h2 (by rw [List.find?_eq_none] at h3;exact h3 i (List.mem_range.2 h1))
theorem qQ:∀ {l o:List Nat},l.Nodup→(∀ x∈l,x∈o)→l.length≤o.length
 |[],_,_,_=>Nat.zero_le _
 |x::l,o,hn,h=>by
  have h1:=h x List.mem_cons_self
  obtain ⟨hx,hn⟩:=List.nodup_cons.1 hn
  have h2:=@qQ l (o.erase x) hn fun y hy=>(List.mem_erase_of_ne (by rintro rfl;exact hx hy)).2 (h y (List.mem_cons_of_mem _ hy))
  have h3:=List.length_erase_of_mem h1
  have h4:=List.length_pos_of_mem h1
  simp only [List.length_cons]
  omega
theorem RH {n:Nat} {o:List Nat} (h:o.length<n):∃ i,i<n∧i ∉ o:=by
 refine Classical.byContradiction fun h2=>?_
 have h3:∀ i,i<n→i∈o:=fun i hi=>Classical.byContradiction fun h4=>h2 ⟨i,hi,h4⟩
 have:=qQ (l:=List.range n) List.nodup_range (fun i hi=>h3 i (List.mem_range.1 hi))
 rw [List.length_range] at this
 omega
theorem xg {q:List Nat→Nat→Bool} {n:Nat} (hq:∀ o,(∃ i,i<n∧i ∉ o)→∃ i,i<n∧q o i=true):∀ (k:Nat) {o:List Nat},o.length+k≤n→(nT q n k o).length=o.length+k
 |0,_,_=>rfl
 |k+1,o,h=>by
  unfold nT
  have h1:=HE hq (RH (n:=n) (o:=o) (by omega))
  rw [xg hq k (by omega),h1];omega
inductive Rdy (q:List Nat→Nat→Bool) (n:Nat):List Nat→Prop
 |nil:Rdy q n []
 |snoc {o:List Nat} {i:Nat}:Rdy q n o→i<n→q o i=true→Rdy q n (o++[i])
theorem M5 {q:List Nat→Nat→Bool} {n:Nat} {o:List Nat} (h:Rdy q n o):Rdy q n (rnd q n o):=by
 unfold rnd
 split
 ·rename_i i hi
  exact h.snoc (List.mem_range.1 (List.mem_of_find?_eq_some hi)) (List.find?_some hi)
 ·exact h
theorem uu {q:List Nat→Nat→Bool} {n:Nat}:∀ (k:Nat) {o:List Nat},Rdy q n o→Rdy q n (nT q n k o)
 |0,_,h=>h
 |k+1,_,h=>uu k (M5 h)
theorem xm {q:List Nat→Nat→Bool} {n:Nat}:∀ (k:Nat) {o:List Nat},(nT q n k o).length≤o.length+k
 |0,_=>nrq _
 |k+1,o=>by
  unfold nT
  have h1:=@xm q n k (rnd q n o)
  have h2:(rnd q n o).length≤o.length+1:=by
   unfold rnd
   split<;>simp
  omega
theorem v9 {D:List Int} {rs:List Rf} (hD:Ord rs D) {In:Int→Prop}:(∃ x∈D,¬ In x)→∃ x∈D,¬ In x∧∀ y,(x,y)∈rs→In y:=by
 induction hD with
 |nil=>rintro ⟨x,h,_⟩;cases h
 |@cons x d hd hx ih =>
  rintro ⟨z,hz,hn⟩
  by_cases hall:∃ w∈d,¬ In w
  ·obtain ⟨w,h1,h2,h3⟩:=ih hall
   exact ⟨w,List.mem_cons_of_mem _ h1,h2,h3⟩
  ·have ha:∀ w∈d,In w:=fun w hw=>Classical.byContradiction fun h=>hall ⟨w,hw,h⟩
   rcases List.mem_cons.1 hz with rfl|hz
   ·exact ⟨z,List.mem_cons_self,hn,fun y hy=>ha y (hx y hy)⟩
   ·exact absurd (ha z hz) hn
structure Ix (ids:List Int) (ix:Int→Nat):Prop where
 get:∀ i,i<ids.length→ix (ids.getD i 0)=i
 lt:∀ x∈ids,ix x<ids.length∧ids.getD (ix x) 0=x
theorem vL {rs:List Rf} {ids:List Int} {ix:Int→Nat} (hi:Ix ids ix) (ht:∀ r∈rs,r.2∈ids) {f:Nat} {D:List Int} (hw:lN rs f ids=some (some D)):(nT (oJ rs ids ix) ids.length ids.length []).length=ids.length:=by
 obtain ⟨h1,_,h3⟩:=tA (fun y d d'=>xK f) hw .nil
 have:=xg (q:=oJ rs ids ix) (n:=ids.length) (fun o ho=>?_) ids.length (o:=[]) (by simp)
 ·simpa using this
 obtain ⟨i,hl,hn⟩:=ho
 have hm:ids.getD i 0∈ids:=by
  rw [gEq,gQq hl];exact gMq _
 obtain ⟨x,hx,hx2,hx3⟩:=v9 h1 (In:=fun x=>x ∉ ids∨ix x∈o) ⟨_,h3 hm,by rintro (h|h);exact h hm;rw [hi.get i hl] at h;exact hn h⟩
 have hxi:x∈ids:=Classical.byContradiction fun h=>hx2 (.inl h)
 have hxo:ix x ∉ o:=fun h=>hx2 (.inr h)
 obtain ⟨g1,g2⟩:=hi.lt x hxi
 refine ⟨ix x,g1,?_⟩
 unfold oJ
 rw [g2,Bool.and_eq_true]
 refine ⟨by simpa using hxo,List.all_eq_true.2 fun r hr=>?_⟩
 by_cases he:r.1=x
 ·rcases hx3 r.2 (by rw [← he];exact hr) with h|h
  ·exact absurd (ht r hr) h
  ·simp [h]
 ·simp [he]
theorem CN {rs:List Rf} {ids:List Int} {ix:Int→Nat} {o:List Nat} (h:Rdy (oJ rs ids ix) ids.length o):o.Nodup∧(∀ i∈o,i<ids.length)∧∀ i∈o,∀ r∈rs,r.1=ids.getD i 0→ix r.2∈o∧o.idxOf (ix r.2)<o.idxOf i:=by
 induction h with
 |nil=>exact ⟨List.nodup_nil,by simp,by simp⟩
 |@snoc o i ho hi hq ih =>
  obtain ⟨a1,a2,a3⟩:=ih
  unfold oJ at hq
  rw [Bool.and_eq_true] at hq
  obtain ⟨q1,q2⟩:=hq
  have hio:i ∉ o:=by simpa using q1
  refine ⟨List.nodup_append.2 ⟨a1,by simp,by intro a ha b hb;rw [List.mem_singleton.1 hb];rintro rfl;exact hio ha⟩,fun j hj=>?_,fun j hj r hr he=>?_⟩
  ·rcases List.mem_append.1 hj with h|h
   ·exact a2 j h
   ·rw [List.mem_singleton.1 h];exact hi
  ·rcases List.mem_append.1 hj with h|h
   ·obtain ⟨b1,b2⟩:=a3 j h r hr he
    refine ⟨List.mem_append_left _ b1,?_⟩
    rw [List.idxOf_append,List.idxOf_append,if_pos b1,if_pos h];exact b2
   ·rw [List.mem_singleton.1 h] at he ⊢
    have:=List.all_eq_true.1 q2 r hr
    have hm:ix r.2∈o:=by
     rw [Bool.or_eq_true] at this
     rcases this with h|h
     ·simp [he] at h
     ·simpa using h
    refine ⟨List.mem_append_left _ hm,?_⟩
    rw [List.idxOf_append,List.idxOf_append,if_pos hm,if_neg hio]
    have:=List.idxOf_lt_length_of_mem hm
    omega
theorem vS {rs:List Rf} {ids:List Int} {ix:Int→Nat} (hi:Ix ids ix) (hs:∀ r∈rs,r.1∈ids∧r.2∈ids) (hf:(nT (oJ rs ids ix) ids.length ids.length []).length=ids.length) {f:Nat} (hfu:ids.length<f):∃ D,lN rs f ids=some (some D):=by
 have hr:=uu (q:=oJ rs ids ix) (n:=ids.length) ids.length .nil
 obtain ⟨O,hO⟩:∃ O,nT (oJ rs ids ix) ids.length ids.length []=O:=⟨_,rfl⟩
 rw [hO] at hf hr
 obtain ⟨a1,a2,a3⟩:=CN hr
 have hall:∀ i,i<ids.length→i∈O:=by
  intro i hil
  refine Classical.byContradiction fun hn=>?_
  have:=qQ (l:=i::O) (o:=List.range ids.length) (List.nodup_cons.2 ⟨hn,a1⟩) (fun x hx=>by
   rcases List.mem_cons.1 hx with rfl|hx
   ·exact List.mem_range.2 hil
   ·exact List.mem_range.2 (a2 x hx))
  rw [List.length_cons,List.length_range] at this
  omega
 have hpos:∀ r∈rs,O.idxOf (ix r.2)<O.idxOf (ix r.1):=by
  intro r hr
  obtain ⟨g1,g2⟩:=hi.lt r.1 (hs r hr).1
  exact (a3 _ (hall _ g1) r hr g2.symm).2
 have h1:lN rs f ids≠some none:=tu (P:=fun _=>True) (fun y d _=>tX (pos:=fun x=>O.idxOf (ix x)) hpos f (fun x hx=>by cases hx)) fun _ _=>trivial
 have h2:lN rs f ids≠none:=rC (P:=fun y=>y∈ids) (fun y d hy=>vH (U:=ids) (fun r hr=>(hs r hr).2) f hy (by
  have:lft ids []≤ids.length:=List.length_filter_le _ _
  omega)) fun y hy=>hy
 cases hw:lN rs f ids with
 |none=>exact absurd hw h2
 |some x=>cases x with
  |none=>exact absurd hw h1
  |some D=>exact ⟨D,rfl⟩
abbrev BL:=List (Int × Bool)
def lkB:BL→Int→Bool
 |[],_=>false
 |v::l,n=>if v.1=n then v.2 else lkB l n
def s6 (v:Int→BL→BL→Option (Bool × BL × BL)) (n:Int):List SRef→BL→BL→Option (Bool × BL × BL)
 |[],o,d=>some (false,o,d)
 |r::l,o,d=>if r.table==n then match v r.toTable o d with
   |some (false,o',d')=>s6 v n l o' d'
   |x=>x
  else s6 v n l o d
def ox (rs:List SRef):Nat→Int→BL→BL→Option (Bool × BL × BL)
 |0,_,_,_=>none
 |f+1,n,o,d=>if lkB o n then some (true,o,d) else if lkB d n then some (false,o,d) else
  match s6 (ox rs f) n rs ((n,true)::o) d with
  |some (false,o',d')=>some (false,(n,false)::(n,lkB o' n)::o',(n,true)::(n,lkB d' n)::d')
  |x=>x
def j64 (n:Int):Prop := -9223372036854775808≤n∧n≤9223372036854775807
def okB (l:BL):Prop:=∀ v∈l,j64 v.1
theorem xv {v:Int→BL→BL→Option (Bool × BL × BL)} {n:Int}:∀ (l:List SRef) {o d:BL} {b:Bool} {o' d':BL},(∀ r∈l,∀ (o d:BL) (b:Bool) (o' d':BL),v r.toTable o d=some (b,o',d')→okB o→okB d→okB o'∧okB d')→s6 v n l o d=some (b,o',d')→okB o→okB d→okB o'∧okB d'
 |[],o,d,b,o',d',_,h,h1,h2=>by cases h;exact ⟨h1,h2⟩
 |r::l,o,d,b,o',d',hv,h,h1,h2=>by
  have hl:=fun x hx=>hv x (List.mem_cons_of_mem r hx)
  unfold s6 at h
  split at h
  ·split at h
   ·rename_i o2 d2 he
    obtain ⟨g1,g2⟩:=hv r List.mem_cons_self _ _ _ _ _ he h1 h2
    exact xv l hl h g1 g2
   ·exact hv r List.mem_cons_self _ _ _ _ _ h h1 h2
  ·exact xv l hl h h1 h2
theorem oP {n:Int} (hn:j64 n) {l:BL} {c:Bool} (hl:okB l):okB ((n,c)::l):=fun v hv=>by
 rcases List.mem_cons.1 hv with rfl|hv
 ·exact hn
 ·exact hl v hv
theorem xP {rs:List SRef} (hr:∀ r∈rs,j64 r.toTable):∀ (f:Nat) {n:Int} {o d:BL} {b:Bool} {o' d':BL},j64 n→ox rs f n o d=some (b,o',d')→okB o→okB d→okB o'∧okB d'
 |0,n,o,d,b,o',d',_,h,_,_=>by cases h
 |f+1,n,o,d,b,o',d',hn,h,h1,h2=>by
  unfold ox at h
  split at h
  ·cases h;exact ⟨h1,h2⟩
  ·split at h
   ·cases h;exact ⟨h1,h2⟩
   ·have key:∀ {b:Bool} {o2 d2:BL},s6 (ox rs f) n rs ((n,true)::o) d=some (b,o2,d2)→okB o2∧okB d2:=fun he=>xv rs (fun r hr' _ _ _ _ _ he' g1 g2=>xP hr f (hr r hr') he' g1 g2) he (oP hn h1) h2
    split at h
    ·rename_i o2 d2 he
     cases h
     obtain ⟨g1,g2⟩:=key he
     exact ⟨oP hn (oP hn g1),oP hn (oP hn g2)⟩
    ·exact key h
def kh (rs:List SRef):List Rf:=rs.map fun r=>(r.table,r.toTable)
def H9 (r:DR) (O:List Int) (v:Option (Bool × BL × BL)):Prop :=
 match r with
 |none=>v=none
 |some none=>∃ o' d',v=some (true,o',d')
 |some (some D')=>∃ o' d',v=some (false,o',d')∧(∀ x,lkB o' x=true↔x∈O)∧∀ x,lkB d' x=true↔x∈D'
theorem Dp {r:SRef} {l:List SRef} {n:Int}:uT (kh (r::l)) n=if r.table==n then r.toTable::uT (kh l) n else uT (kh l) n:=by
 unfold uT kh
 rw [List.map_cons,List.filter_cons]
 split<;>rfl
theorem uC {rec:Int→List Int→DR} {v:Int→BL→BL→Option (Bool × BL × BL)} {n:Int} {O:List Int} (hv:∀ y D o d,(∀ x,lkB o x=true↔x∈O)→(∀ x,lkB d x=true↔x∈D)→H9 (rec y D) O (v y o d)) :
 ∀ (l:List SRef) {D:List Int} {o d:BL},(∀ x,lkB o x=true↔x∈O)→(∀ x,lkB d x=true↔x∈D)→H9 (goL rec (uT (kh l) n) D) O (s6 v n l o d)
 |[],D,o,d,ho,hd=>⟨o,d,rfl,ho,hd⟩
 |r::l,D,o,d,ho,hd=>by
  rw [Dp]
  unfold s6
  cases r.table==n with
  |false=>rw [if_neg Bool.false_ne_true,if_neg Bool.false_ne_true];exact uC hv l ho hd
  |true =>
   rw [if_pos rfl,if_pos rfl]
   unfold goL
   have h:=hv r.toTable D o d ho hd
   cases hr:rec r.toTable D with
   |none=>rw [hr] at h;have h':v r.toTable o d=none:=h;rw [h'];rfl
   |some q=>cases q with
    |none=>rw [hr] at h;obtain ⟨o',d',h'⟩:=h;rw [h'];exact ⟨o',d',rfl⟩
    |some D'=>rw [hr] at h;obtain ⟨o',d',h',h1,h2⟩:=h;rw [h'];exact uC hv l h1 h2
theorem zL {rs:List SRef}:∀ (f:Nat) {n:Int} {O D:List Int} {o d:BL},(∀ x,lkB o x=true↔x∈O)→(∀ x,lkB d x=true↔x∈D)→H9 (dfs (kh rs) f O n D) O (ox rs f n o d)
 |0,_,_,_,_,_,_,_=>rfl
 |f+1,n,O,D,o,d,ho,hd=>by
  unfold dfs ox
  by_cases h1:n∈O
  ·rw [if_pos h1,if_pos ((ho n).2 h1)];exact ⟨o,d,rfl⟩
  ·rw [if_neg h1,if_neg (fun h=>h1 ((ho n).1 h))]
   by_cases h2:n∈D
   ·rw [if_pos h2,if_pos ((hd n).2 h2)];exact ⟨o,d,rfl,ho,hd⟩
   ·rw [if_neg h2,if_neg (fun h=>h2 ((hd n).1 h))]
    have ho':∀ x,lkB ((n,true)::o) x=true↔x∈n::O:=fun x=>by
     unfold lkB
     by_cases hx:n=x
     ·subst hx;simp
     ·rw [if_neg hx,ho x,List.mem_cons]
      exact ⟨.inr,fun h=>h.resolve_left fun e=>hx e.symm⟩
    have h:=uC (rec:=dfs (kh rs) f (n::O)) (v:=ox rs f) (n:=n) (fun y D o d a b=>zL (rs:=rs) f a b) rs ho' hd
    cases hr:goL (dfs (kh rs) f (n::O)) (uT (kh rs) n) D with
    |none=>rw [hr] at h;have h':s6 (ox rs f) n rs ((n,true)::o) d=none:=h;rw [h'];rfl
    |some q=>cases q with
     |none=>rw [hr] at h;obtain ⟨o',d',h'⟩:=h;rw [h'];exact ⟨o',d',rfl⟩
     |some D' =>
      rw [hr] at h;obtain ⟨o',d',h',g1,g2⟩:=h;rw [h']
      refine ⟨_,_,rfl,fun x=>?_,fun x=>?_⟩
      ·unfold lkB
       by_cases hx:n=x
       ·subst hx
        simp [h1]
       ·rw [if_neg hx]
        unfold lkB
        rw [if_neg hx,g1 x,List.mem_cons]
        exact ⟨fun h=>h.resolve_left fun e=>hx e.symm,.inr⟩
      ·unfold lkB
       by_cases hx:n=x
       ·subst hx;simp
       ·rw [if_neg hx]
        unfold lkB
        rw [if_neg hx,g2 x,List.mem_cons]
        exact ⟨.inr,fun h=>h.resolve_left fun e=>hx e.symm⟩
def AS (v:Int→BL→BL→Option (Bool × BL × BL)):List Int→BL→BL→Option (Bool × BL × BL)
 |[],o,d=>some (false,o,d)
 |n::l,o,d=>match v n o d with
  |some (false,o',d')=>AS v l o' d'
  |x=>x
theorem zK {rec:Int→List Int→DR} {v:Int→BL→BL→Option (Bool × BL × BL)} {O:List Int} (hv:∀ y D o d,(∀ x,lkB o x=true↔x∈O)→(∀ x,lkB d x=true↔x∈D)→H9 (rec y D) O (v y o d)) :
 ∀ (l:List Int) {D:List Int} {o d:BL},(∀ x,lkB o x=true↔x∈O)→(∀ x,lkB d x=true↔x∈D)→H9 (goL rec l D) O (AS v l o d)
 |[],D,o,d,ho,hd=>⟨o,d,rfl,ho,hd⟩
 |n::l,D,o,d,ho,hd=>by
  unfold AS goL
  have h:=hv n D o d ho hd
  cases hr:rec n D with
  |none=>rw [hr] at h;have h':v n o d=none:=h;rw [h'];rfl
  |some q=>cases q with
   |none=>rw [hr] at h;obtain ⟨o',d',h'⟩:=h;rw [h'];exact ⟨o',d',rfl⟩
   |some D'=>rw [hr] at h;obtain ⟨o',d',h',h1,h2⟩:=h;rw [h'];exact zK hv l h1 h2
def fE (S:Sch):List Int:=S.tables.map (·.id)
def nS (S:Sch):Bool:=match lN (kh S.refs) (S.tables.length+1) (fE S) with
 |some (some _)=>true
 |_=>false
def ov (S:Sch):Prop:=∀ r∈S.refs,r.table∈fE S∧r.toTable∈fE S
theorem uK {S:Sch} (h:ov S):lN (kh S.refs) (S.tables.length+1) (fE S)≠none:=by
 refine rC (P:=fun y=>y∈fE S) (fun y d hy=>vH (U:=fE S) (fun r hr=>?_) _ hy ?_) fun y hy=>hy
 ·unfold kh at hr
  obtain ⟨x,hx,rfl⟩:=List.mem_map.1 hr
  exact (h x hx).2
 ·have:lft (fE S) []≤(fE S).length:=List.length_filter_le _ _
  have h2:(fE S).length=S.tables.length:=List.length_map _
  omega
theorem GD {S:Sch} (h:ov S):∃ o' d',AS (ox S.refs (S.tables.length+1)) (fE S) [] []=some (!nS S,o',d'):=by
 have h1:=zK (O:=[]) (rec:=dfs (kh S.refs) (S.tables.length+1) []) (v:=ox S.refs (S.tables.length+1)) (fun y D o d a b=>zL _ a b) (fE S) (D:=[]) (o:=[]) (d:=[]) (fun x=>by simp [lkB]) (fun x=>by simp [lkB])
 have h2:=uK h
 unfold nS
 unfold lN at h2 ⊢
 cases hw:goL (dfs (kh S.refs) (S.tables.length+1) []) (fE S) [] with
 |none=>exact absurd hw h2
 |some q=>cases q with
  |none=>rw [hw] at h1;obtain ⟨o',d',h'⟩:=h1;exact ⟨o',d',h'⟩
  |some D'=>rw [hw] at h1;obtain ⟨o',d',h',_⟩:=h1;exact ⟨o',d',h'⟩
end Go.AL
