/- Lemmas of the proof; no condition. -/
import Derived.Test.YtjffcopmhkcejaaGreatLEntB
set_option linter.all false
open Go Go.AL
namespace Go.AL
abbrev Rf:=Int × Int
abbrev DR:=Option (Option (List Int))
def goL(rec:Int→List Int→DR):List Int→List Int→DR
 |[],d=>some (some d)
 |y::ys,d=>match rec y d with
  |some (some d')=>goL rec ys d'
  |r=>r
def wJ(rs:List Rf)(t:Int):List Int:=(rs.filter fun r=>r.1==t).map (·.2)
def dfs(rs:List Rf):Nat→List Int→Int→List Int→DR
 |0,_,_,_=>none
 |f+1,o,t,d=>if t∈o then some none else if t∈d then some (some d)else
  match goL (dfs rs f (t::o)) (wJ rs t) d with
  |some (some d')=>some (some (t::d'))
  |r=>r
def mem_outs{rs:List Rf}{t y:Int}:y∈wJ rs t↔(t,y)∈rs:=by
 unfold wJ
 rw[List.mem_map]
 constructor
 ·rintro⟨⟨a,b⟩,h,rfl⟩
  rw[List.mem_filter]at h
  obtain⟨h1,h2⟩:=h
  have:a=t:=by simpa using h2
  subst this;exact h1
 ·intro h
  exact⟨(t,y),List.mem_filter.2 ⟨h,Xc⟩,rfl⟩
inductive Ord(rs:List Rf):List Int→Prop
 |nil:Ord rs []
 |cons {x:Int} {d:List Int}:Ord rs d→(∀ y,(x,y)∈rs→y∈d)→Ord rs (x::d)
theorem uW{rs:List Rf}{rec:Int→List Int→DR}(h:∀ y d d',rec y d=some (some d')→Ord rs d→Ord rs d'∧d ⊆ d'∧y∈d') :
 ∀{ys d d'},goL rec ys d=some (some d')→Ord rs d→Ord rs d'∧d ⊆ d'∧ys ⊆ d'
 |[],d,d',hr,ho=>by cases hr;exact⟨ho,fun _ h=>h,fun _ h=>by cases h⟩
 |y::ys,d,d',hr,ho=>by
  unfold goL at hr
  split at hr
  ·rename_i d1 h1
   obtain⟨a1,a2,a3⟩:=h y d d1 h1 ho
   obtain⟨b1,b2,b3⟩:=uW h hr a1
   refine⟨b1,fun x hx=>b2 (a2 hx),fun x hx=>?_⟩
   rcases List.mem_cons.1 hx with rfl|hx
   ·exact b2 a3
   ·exact b3 hx
  ·rename_i h1;exact absurd hr (h1 d')
theorem zP{rs:List Rf}:∀(f:Nat) {o t d d'},dfs rs f o t d=some (some d')→Ord rs d→Ord rs d'∧d ⊆ d'∧t∈d'
 |0,_,_,_,_,h,_=>by cases h
 |f+1,o,t,d,d',h,ho=>by
  unfold dfs at h
  split at h
  ·cases h
  ·split at h
   ·rename_i h2;cases h;exact⟨ho,fun _ h=>h,h2⟩
   ·split at h
    ·rename_i d1 h3
     obtain⟨a1,a2,a3⟩:=uW (fun y d d'=>zP f) h3 ho
     cases h
     exact⟨.cons a1 fun y hy=>a3 (mem_outs.2 hy),fun x hx=>List.mem_cons_of_mem _ (a2 hx),List.mem_cons_self⟩
    ·rename_i h3;exact absurd h (h3 d')
theorem u4{rec:Int→List Int→DR}{P:Int→Prop}(h:∀ y d,P y→rec y d≠some none):∀{ys d},(∀ y∈ys,P y)→goL rec ys d≠some none
 |[],_,_=>by unfold goL;simp
 |y::ys,d,hp=>by
  unfold goL
  split
  ·exact u4 h fun z hz=>hp z (List.mem_cons_of_mem _ hz)
  ·exact h y d (hp y List.mem_cons_self)
theorem vp{rs:List Rf}{pos:Int→Nat}(hr:∀ r∈rs,pos r.2<pos r.1):∀(f:Nat) {o t d},(∀ x∈o,pos t<pos x)→dfs rs f o t d≠some none
 |0,_,_,_,_=>by unfold dfs;simp
 |f+1,o,t,d,ho=>by
  unfold dfs
  split
  ·rename_i h;have:=ho t h;omega
  ·split
   ·simp
   ·have:goL (dfs rs f (t::o)) (wJ rs t) d≠some none:=u4 (P:=fun y=>(t,y)∈rs) (fun y d hy=>vp hr f fun x hx=>by
     have h1:=hr _ hy
     dsimp only at h1
     rcases List.mem_cons.1 hx with rfl|hx
     ·exact h1
     ·have:=ho x hx;omega) fun y hy=>mem_outs.1 hy
    split
    ·simp
    ·exact this
def lft(U o:List Int):Nat:=(U.filter fun x=>!(o.contains x)).length
def K0{o:List Int}{t:Int}(h2:t ∉ o):∀{U:List Int},t∈U→lft U (t::o)<lft U o:=by
 have le:∀ U:List Int,lft U (t::o)≤lft U o:=by
  intro U
  induction U with
  |nil=>exact nrq _
  |cons x U ih =>
   unfold lft at *
   rw[List.filter_cons,List.filter_cons]
   by_cases hx:x∈o
   ·rw[if_neg (by simp[hx]),if_neg (by simp[hx])];exact ih
   ·exact Y120
 intro U
 induction U with
 |nil=>intro h;cases h
 |cons x U ih =>
  intro h
  have l1:=le U
  unfold lft at *
  rw[List.filter_cons,List.filter_cons]
  rcases List.mem_cons.1 h with rfl|h
  ·rw[if_neg Xc,if_pos (by simp[h2])]
   simp only[List.length_cons];omega
  ·have h3:=ih h
   by_cases hx:x∈o
   ·rw[if_neg (by simp[hx]),if_neg (by simp[hx])];exact h3
   ·exact Y120
theorem tf{rec:Int→List Int→DR}{P:Int→Prop}(h:∀ y d,P y→rec y d≠none):∀{ys d},(∀ y∈ys,P y)→goL rec ys d≠none
 |[],_,_=>by unfold goL;simp
 |y::ys,d,hp=>by
  unfold goL
  split
  ·exact tf h fun z hz=>hp z (List.mem_cons_of_mem _ hz)
  ·exact h y d (hp y List.mem_cons_self)
theorem wD{rs:List Rf}{U:List Int}(hU:∀ r∈rs,r.2∈U):∀(f:Nat) {o t d},t∈U→lft U o<f→dfs rs f o t d≠none
 |0,_,_,_,_,h=>Xa
 |f+1,o,t,d,ht,hf=>by
  unfold dfs
  split
  ·simp
  ·rename_i h1
   split
   ·simp
   ·have l1:=K0 h1 ht
    have:goL (dfs rs f (t::o)) (wJ rs t) d≠none:=tf (P:=fun y=>y∈U) (fun y d hy=>wD hU f hy Xa) fun y hy=>hU _ (mem_outs.1 hy)
    split
    ·simp
    ·exact this
def mN(rs:List Rf)(f:Nat)(ids:List Int):DR:=goL (dfs rs f []) ids []
def uf(rs:List Rf)(ids:List Int)(ix:Int→Nat)(out:List Nat)(i:Nat):Bool:=!(out.contains i)&&rs.all fun r=>!(r.1==ids.getD i 0)||out.contains (ix r.2)
def rnd(q:List Nat→Nat→Bool)(n:Nat)(out:List Nat):List Nat:=match(List.range n).find? (q out)with
 |some i=>out++[i]
 |none=>out
def rS(q:List Nat→Nat→Bool)(n:Nat):Nat→List Nat→List Nat
 |0,o=>o
 |k+1,o=>rS q n k (rnd q n o)
def IB{q:List Nat→Nat→Bool}{n:Nat}(hq:∀ o,(∃ i,i<n∧i ∉ o)→∃ i,i<n∧q o i=true){o:List Nat}(h:∃ i,i<n∧i ∉ o):(rnd q n o).length=o.length+1:=by
 obtain⟨i,h1,h2⟩:=hq o h
 unfold rnd
 split
 ·simp
 ·rename_i h3
  exact absurd h2 (by rw[List.find?_eq_none]at h3;exact h3 i (List.mem_range.2 h1))
theorem wF:∀{l o:List Nat},l.Nodup→(∀ x∈l,x∈o)→l.length≤o.length
 |[],_,_,_=>Nat.zero_le _
 |x::l,o,hn,h=>by
  have h1:=h x List.mem_cons_self
  obtain⟨hx,hn⟩:=List.nodup_cons.1 hn
  have h2:=@wF l (o.erase x) hn fun y hy=>(List.mem_erase_of_ne (by rintro rfl;exact hx hy)).2 (h y (List.mem_cons_of_mem _ hy))
  have h3:=List.length_erase_of_mem h1
  have h4:=List.length_pos_of_mem h1
  simp only[List.length_cons]
  omega
def TN{n:Nat}{o:List Nat}(h:o.length<n):∃ i,i<n∧i ∉ o:=by
 refine Classical.byContradiction fun h2=>?_
 have h3:∀ i,i<n→i∈o:=fun i hi=>Classical.byContradiction fun h4=>h2 ⟨i,hi,h4⟩
 have:=wF (l:=List.range n) List.nodup_range (fun i hi=>h3 i (List.mem_range.1 hi))
 rw[List.length_range]at this
 omega
theorem yx{q:List Nat→Nat→Bool}{n:Nat}(hq:∀ o,(∃ i,i<n∧i ∉ o)→∃ i,i<n∧q o i=true):∀(k:Nat){o:List Nat},o.length+k≤n→(rS q n k o).length=o.length+k
 |0,_,_=>rfl
 |k+1,o,h=>by
  unfold rS
  have h1:=IB hq (TN (n:=n) (o:=o) Xa)
  rw[yx hq k Xa,h1];omega
inductive Rdy(q:List Nat→Nat→Bool)(n:Nat):List Nat→Prop
 |nil:Rdy q n []
 |snoc {o:List Nat} {i:Nat}:Rdy q n o→i<n→q o i=true→Rdy q n (o++[i])
def Pb{q:List Nat→Nat→Bool}{n:Nat}{o:List Nat}(h:Rdy q n o):Rdy q n (rnd q n o):=by
 unfold rnd
 split
 ·rename_i i hi
  exact h.snoc (List.mem_range.1 (List.mem_of_find?_eq_some hi)) (List.find?_some hi)
 ·exact h
theorem AQ{q:List Nat→Nat→Bool}{n:Nat}:∀(k:Nat){o:List Nat},Rdy q n o→Rdy q n (rS q n k o)
 |0,_,h=>h
 |k+1,_,h=>AQ k (Pb h)
theorem EM{q:List Nat→Nat→Bool}{n:Nat}:∀(k:Nat){o:List Nat},(rS q n k o).length≤o.length+k
 |0,_=>nrq _
 |k+1,o=>by
  unfold rS
  have h1:=@EM q n k (rnd q n o)
  have h2:(rnd q n o).length≤o.length+1:=by
   unfold rnd
   split<;>simp
  omega
def xk{D:List Int}{rs:List Rf}(hD:Ord rs D){In:Int→Prop}:(∃ x∈D,¬ In x)→∃ x∈D,¬ In x∧∀ y,(x,y)∈rs→In y:=by
 induction hD with
 |nil=>rintro⟨x,h,_⟩;cases h
 |@cons x d hd hx ih =>
  rintro⟨z,hz,hn⟩
  by_cases hall:∃ w∈d,¬ In w
  ·obtain⟨w,h1,h2,h3⟩:=ih hall
   exact⟨w,List.mem_cons_of_mem _ h1,h2,h3⟩
  ·have ha:∀ w∈d,In w:=fun w hw=>Classical.byContradiction fun h=>hall ⟨w,hw,h⟩
   rcases List.mem_cons.1 hz with rfl|hz
   ·exact⟨z,List.mem_cons_self,hn,fun y hy=>ha y (hx y hy)⟩
   ·exact absurd (ha z hz) hn
structure Ix(ids:List Int)(ix:Int→Nat):Prop where
 get:∀ i,i<ids.length→ix (ids.getD i 0)=i
 lt:∀ x∈ids,ix x<ids.length∧ids.getD (ix x) 0=x
def xn{rs:List Rf}{ids:List Int}{ix:Int→Nat}(hi:Ix ids ix)(ht:∀ r∈rs,r.2∈ids){f:Nat}{D:List Int}(hw:mN rs f ids=some (some D)):(rS (uf rs ids ix) ids.length ids.length []).length=ids.length:=by
 obtain⟨h1,_,h3⟩:=uW (fun y d d'=>zP f) hw .nil
 have:=yx (q:=uf rs ids ix) (n:=ids.length) (fun o ho=>?_) ids.length (o:=[]) Xc
 ·simpa using this
 obtain⟨i,hl,hn⟩:=ho
 have hm:ids.getD i 0∈ids:=by
  rw[gEq,gQq hl];exact gMq _
 obtain⟨x,hx,hx2,hx3⟩:=xk h1 (In:=fun x=>x ∉ ids∨ix x∈o) ⟨_,h3 hm,by rintro(h|h);exact h hm;rw[hi.get i hl]at h;exact hn h⟩
 have hxi:x∈ids:=Classical.byContradiction fun h=>hx2 (.inl h)
 have hxo:ix x ∉ o:=fun h=>hx2 (.inr h)
 obtain⟨g1,g2⟩:=hi.lt x hxi
 refine⟨ix x,g1,?_⟩
 unfold uf
 rw[g2,Bool.and_eq_true]
 refine⟨by simpa using hxo,List.all_eq_true.2 fun r hr=>?_⟩
 by_cases he:r.1=x
 ·rcases hx3 r.2 (by rw[← he];exact hr)with h|h
  ·exact absurd (ht r hr) h
  ·simp[h]
 ·simp[he]
def Of{rs:List Rf}{ids:List Int}{ix:Int→Nat}{o:List Nat}(h:Rdy (uf rs ids ix) ids.length o):o.Nodup∧(∀ i∈o,i<ids.length)∧∀ i∈o,∀ r∈rs,r.1=ids.getD i 0→ix r.2∈o∧o.idxOf (ix r.2)<o.idxOf i:=by
 induction h with
 |nil=>exact⟨List.nodup_nil,Xc,Xc⟩
 |@snoc o i ho hi hq ih =>
  obtain⟨a1,a2,a3⟩:=ih
  unfold uf at hq
  rw[Bool.and_eq_true]at hq
  obtain⟨q1,q2⟩:=hq
  have hio:i ∉ o:=by simpa using q1
  refine⟨List.nodup_append.2 ⟨a1,Xc,by intro a ha b hb;rw[List.mem_singleton.1 hb];rintro rfl;exact hio ha⟩,fun j hj=>?_,fun j hj r hr he=>?_⟩
  ·rcases List.mem_append.1 hj with h|h
   ·exact a2 j h
   ·rw[List.mem_singleton.1 h];exact hi
  ·rcases List.mem_append.1 hj with h|h
   ·obtain⟨b1,b2⟩:=a3 j h r hr he
    refine⟨List.mem_append_left _ b1,?_⟩
    rw[List.idxOf_append,List.idxOf_append,if_pos b1,if_pos h];exact b2
   ·rw[List.mem_singleton.1 h]at he ⊢
    have:=List.all_eq_true.1 q2 r hr
    have hm:ix r.2∈o:=by
     rw[Bool.or_eq_true]at this
     rcases this with h|h
     ·simp[he]at h
     ·simpa using h
    refine⟨List.mem_append_left _ hm,?_⟩
    rw[List.idxOf_append,List.idxOf_append,if_pos hm,if_neg hio]
    have:=List.idxOf_lt_length_of_mem hm
    omega
def xy{rs:List Rf}{ids:List Int}{ix:Int→Nat}(hi:Ix ids ix)(hs:∀ r∈rs,r.1∈ids∧r.2∈ids)(hf:(rS (uf rs ids ix) ids.length ids.length []).length=ids.length){f:Nat}(hfu:ids.length<f):∃ D,mN rs f ids=some (some D):=by
 have hr:=AQ (q:=uf rs ids ix) (n:=ids.length) ids.length .nil
 obtain⟨O,hO⟩:∃ O,rS (uf rs ids ix) ids.length ids.length []=O:=⟨_,rfl⟩
 rw[hO]at hf hr
 obtain⟨a1,a2,a3⟩:=Of hr
 have hall:∀ i,i<ids.length→i∈O:=by
  intro i hil
  refine Classical.byContradiction fun hn=>?_
  have:=wF (l:=i::O) (o:=List.range ids.length) (List.nodup_cons.2 ⟨hn,a1⟩) (fun x hx=>by
   rcases List.mem_cons.1 hx with rfl|hx
   ·exact List.mem_range.2 hil
   ·exact List.mem_range.2 (a2 x hx))
  rw[List.length_cons,List.length_range]at this
  omega
 have hpos:∀ r∈rs,O.idxOf (ix r.2)<O.idxOf (ix r.1):=by
  intro r hr
  obtain⟨g1,g2⟩:=hi.lt r.1 (hs r hr).1
  exact(a3 _ (hall _ g1) r hr g2.symm).2
 have h1:mN rs f ids≠some none:=u4 (P:=fun _=>True) (fun y d _=>vp (pos:=fun x=>O.idxOf (ix x)) hpos f (fun x hx=>by cases hx)) fun _ _=>trivial
 have h2:mN rs f ids≠none:=tf (P:=fun y=>y∈ids) (fun y d hy=>wD (U:=ids) (fun r hr=>(hs r hr).2) f hy (by
  have:lft ids []≤ids.length:=List.length_filter_le _ _
  omega)) fun y hy=>hy
 cases hw:mN rs f ids with
 |none=>exact absurd hw h2
 |some x=>cases x with
  |none=>exact absurd hw h1
  |some D=>exact⟨D,rfl⟩
abbrev BL:=List (Int × Bool)
def lkB:BL→Int→Bool
 |[],_=>false
 |v::l,n=>if v.1=n then v.2 else lkB l n
def uJ(v:Int→BL→BL→Option (Bool × BL × BL))(n:Int):List SRef→BL→BL→Option (Bool × BL × BL)
 |[],o,d=>some (false,o,d)
 |r::l,o,d=>if r.table==n then match v r.toTable o d with
   |some (false,o',d')=>uJ v n l o' d'
   |x=>x
  else uJ v n l o d
def pT(rs:List SRef):Nat→Int→BL→BL→Option (Bool × BL × BL)
 |0,_,_,_=>none
 |f+1,n,o,d=>if lkB o n then some (true,o,d)else if lkB d n then some (false,o,d)else
  match uJ (pT rs f) n rs ((n,true)::o) d with
  |some (false,o',d')=>some (false,(n,false)::(n,lkB o' n)::o',(n,true)::(n,lkB d' n)::d')
  |x=>x
def j64(n:Int):Prop := -9223372036854775808≤n∧n≤9223372036854775807
def okB(l:BL):Prop:=∀ v∈l,j64 v.1
theorem zQ{v:Int→BL→BL→Option (Bool × BL × BL)}{n:Int}:∀(l:List SRef){o d:BL}{b:Bool}{o' d':BL},(∀ r∈l,∀(o d:BL)(b:Bool)(o' d':BL),v r.toTable o d=some (b,o',d')→okB o→okB d→okB o'∧okB d')→uJ v n l o d=some (b,o',d')→okB o→okB d→okB o'∧okB d'
 |[],o,d,b,o',d',_,h,h1,h2=>by cases h;exact⟨h1,h2⟩
 |r::l,o,d,b,o',d',hv,h,h1,h2=>by
  have hl:=fun x hx=>hv x (List.mem_cons_of_mem r hx)
  unfold uJ at h
  split at h
  ·split at h
   ·rename_i o2 d2 he
    obtain⟨g1,g2⟩:=hv r List.mem_cons_self _ _ _ _ _ he h1 h2
    exact zQ l hl h g1 g2
   ·exact hv r List.mem_cons_self _ _ _ _ _ h h1 h2
  ·exact zQ l hl h h1 h2
def qt{n:Int}(hn:j64 n){l:BL}{c:Bool}(hl:okB l):okB ((n,c)::l):=fun v hv=>by
 rcases List.mem_cons.1 hv with rfl|hv
 ·exact hn
 ·exact hl v hv
theorem zp{rs:List SRef}(hr:∀ r∈rs,j64 r.toTable):∀(f:Nat){n:Int}{o d:BL}{b:Bool}{o' d':BL},j64 n→pT rs f n o d=some (b,o',d')→okB o→okB d→okB o'∧okB d'
 |0,n,o,d,b,o',d',_,h,_,_=>by cases h
 |f+1,n,o,d,b,o',d',hn,h,h1,h2=>by
  unfold pT at h
  split at h
  ·cases h;exact⟨h1,h2⟩
  ·split at h
   ·cases h;exact⟨h1,h2⟩
   ·have key:∀{b:Bool}{o2 d2:BL},uJ (pT rs f) n rs ((n,true)::o) d=some (b,o2,d2)→okB o2∧okB d2:=fun he=>zQ rs (fun r hr' _ _ _ _ _ he' g1 g2=>zp hr f (hr r hr') he' g1 g2) he (qt hn h1) h2
    split at h
    ·rename_i o2 d2 he
     cases h
     obtain⟨g1,g2⟩:=key he
     exact⟨qt hn (qt hn g1),qt hn (qt hn g2)⟩
    ·exact key h
def mA(rs:List SRef):List Rf:=rs.map fun r=>(r.table,r.toTable)
def Hl(r:DR)(O:List Int)(v:Option (Bool × BL × BL)):Prop :=
 match r with
 |none=>v=none
 |some none=>∃ o' d',v=some (true,o',d')
 |some (some D')=>∃ o' d',v=some (false,o',d')∧(∀ x,lkB o' x=true↔x∈O)∧∀ x,lkB d' x=true↔x∈D'
def GT{r:SRef}{l:List SRef}{n:Int}:wJ (mA (r::l)) n=if r.table==n then r.toTable::wJ (mA l) n else wJ (mA l) n:=by
 unfold wJ mA
 rw[List.map_cons,List.filter_cons]
 split<;>rfl
theorem wP{rec:Int→List Int→DR}{v:Int→BL→BL→Option (Bool × BL × BL)}{n:Int}{O:List Int}(hv:∀ y D o d,(∀ x,lkB o x=true↔x∈O)→(∀ x,lkB d x=true↔x∈D)→Hl (rec y D) O (v y o d)) :
 ∀(l:List SRef){D:List Int}{o d:BL},(∀ x,lkB o x=true↔x∈O)→(∀ x,lkB d x=true↔x∈D)→Hl (goL rec (wJ (mA l) n) D) O (uJ v n l o d)
 |[],D,o,d,ho,hd=>⟨o,d,rfl,ho,hd⟩
 |r::l,D,o,d,ho,hd=>by
  rw[GT]
  unfold uJ
  cases r.table==n with
  |false=>rw[if_neg Bool.false_ne_true,if_neg Bool.false_ne_true];exact wP hv l ho hd
  |true=>
   rw[if_pos rfl,if_pos rfl]
   unfold goL
   have h:=hv r.toTable D o d ho hd
   cases hr:rec r.toTable D with
   |none=>rw[hr]at h;have h':v r.toTable o d=none:=h;rw[h'];rfl
   |some q=>cases q with
    |none=>rw[hr]at h;obtain⟨o',d',h'⟩:=h;rw[h'];exact⟨o',d',rfl⟩
    |some D'=>rw[hr]at h;obtain⟨o',d',h',h1,h2⟩:=h;rw[h'];exact wP hv l h1 h2
theorem AS{rs:List SRef}:∀(f:Nat){n:Int}{O D:List Int}{o d:BL},(∀ x,lkB o x=true↔x∈O)→(∀ x,lkB d x=true↔x∈D)→Hl (dfs (mA rs) f O n D) O (pT rs f n o d)
 |0,_,_,_,_,_,_,_=>rfl
 |f+1,n,O,D,o,d,ho,hd=>by
  unfold dfs pT
  by_cases h1:n∈O
  ·rw[if_pos h1,if_pos ((ho n).2 h1)];exact⟨o,d,rfl⟩
  ·rw[if_neg h1,if_neg (fun h=>h1 ((ho n).1 h))]
   by_cases h2:n∈D
   ·rw[if_pos h2,if_pos ((hd n).2 h2)];exact⟨o,d,rfl,ho,hd⟩
   ·rw[if_neg h2,if_neg (fun h=>h2 ((hd n).1 h))]
    have ho':∀ x,lkB ((n,true)::o) x=true↔x∈n::O:=fun x=>by
     unfold lkB
     by_cases hx:n=x
     ·subst hx;simp
     ·rw[if_neg hx,ho x,List.mem_cons]
      exact⟨.inr,fun h=>h.resolve_left fun e=>hx e.symm⟩
    have h:=wP (rec:=dfs (mA rs) f (n::O)) (v:=pT rs f) (n:=n) (fun y D o d a b=>AS (rs:=rs) f a b) rs ho' hd
    cases hr:goL (dfs (mA rs) f (n::O)) (wJ (mA rs) n) D with
    |none=>rw[hr]at h;have h':uJ (pT rs f) n rs ((n,true)::o) d=none:=h;rw[h'];rfl
    |some q=>cases q with
     |none=>rw[hr]at h;obtain⟨o',d',h'⟩:=h;rw[h'];exact⟨o',d',rfl⟩
     |some D' =>
      rw[hr]at h;obtain⟨o',d',h',g1,g2⟩:=h;rw[h']
      refine⟨_,_,rfl,fun x=>?_,fun x=>?_⟩
      ·unfold lkB
       by_cases hx:n=x
       ·subst hx
        simp[h1]
       ·rw[if_neg hx]
        unfold lkB
        rw[if_neg hx,g1 x,List.mem_cons]
        exact⟨fun h=>h.resolve_left fun e=>hx e.symm,.inr⟩
      ·unfold lkB
       by_cases hx:n=x
       ·subst hx;simp
       ·rw[if_neg hx]
        unfold lkB
        rw[if_neg hx,g2 x,List.mem_cons]
        exact⟨.inr,fun h=>h.resolve_left fun e=>hx e.symm⟩
def B4(v:Int→BL→BL→Option (Bool × BL × BL)):List Int→BL→BL→Option (Bool × BL × BL)
 |[],o,d=>some (false,o,d)
 |n::l,o,d=>match v n o d with
  |some (false,o',d')=>B4 v l o' d'
  |x=>x
theorem Bz{rec:Int→List Int→DR}{v:Int→BL→BL→Option (Bool × BL × BL)}{O:List Int}(hv:∀ y D o d,(∀ x,lkB o x=true↔x∈O)→(∀ x,lkB d x=true↔x∈D)→Hl (rec y D) O (v y o d)) :
 ∀(l:List Int){D:List Int}{o d:BL},(∀ x,lkB o x=true↔x∈O)→(∀ x,lkB d x=true↔x∈D)→Hl (goL rec l D) O (B4 v l o d)
 |[],D,o,d,ho,hd=>⟨o,d,rfl,ho,hd⟩
 |n::l,D,o,d,ho,hd=>by
  unfold B4 goL
  have h:=hv n D o d ho hd
  cases hr:rec n D with
  |none=>rw[hr]at h;have h':v n o d=none:=h;rw[h'];rfl
  |some q=>cases q with
   |none=>rw[hr]at h;obtain⟨o',d',h'⟩:=h;rw[h'];exact⟨o',d',rfl⟩
   |some D'=>rw[hr]at h;obtain⟨o',d',h',h1,h2⟩:=h;rw[h'];exact Bz hv l h1 h2
def iA(S:Sch):List Int:=S.tables.map (·.id)
def rD(S:Sch):Bool:=match mN (mA S.refs) (S.tables.length+1) (iA S)with
 |some (some _)=>true
 |_=>false
def uE(S:Sch):Prop:=∀ r∈S.refs,r.table∈iA S∧r.toTable∈iA S
def wi{S:Sch}(h:uE S):mN (mA S.refs) (S.tables.length+1) (iA S)≠none:=by
 refine tf (P:=fun y=>y∈iA S) (fun y d hy=>wD (U:=iA S) (fun r hr=>?_) _ hy ?_) fun y hy=>hy
 ·unfold mA at hr
  obtain⟨x,hx,rfl⟩:=List.mem_map.1 hr
  exact(h x hx).2
 ·have:lft (iA S) []≤(iA S).length:=List.length_filter_le _ _
  have h2:(iA S).length=S.tables.length:=List.length_map _
  omega
def IK{S:Sch}(h:uE S):∃ o' d',B4 (pT S.refs (S.tables.length+1)) (iA S) [] []=some (!rD S,o',d'):=by
 have h1:=Bz (O:=[]) (rec:=dfs (mA S.refs) (S.tables.length+1) []) (v:=pT S.refs (S.tables.length+1)) (fun y D o d a b=>AS _ a b) (iA S) (D:=[]) (o:=[]) (d:=[]) (fun x=>by simp[lkB]) (fun x=>by simp[lkB])
 have h2:=wi h
 unfold rD
 unfold mN at h2 ⊢
 cases hw:goL (dfs (mA S.refs) (S.tables.length+1) []) (iA S) []with
 |none=>exact absurd hw h2
 |some q=>cases q with
  |none=>rw[hw]at h1;obtain⟨o',d',h'⟩:=h1;exact⟨o',d',h'⟩
  |some D'=>rw[hw]at h1;obtain⟨o',d',h',_⟩:=h1;exact⟨o',d',h'⟩
end Go.AL
