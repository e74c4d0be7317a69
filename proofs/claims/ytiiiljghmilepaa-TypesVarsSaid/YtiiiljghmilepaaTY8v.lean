/- Contracts and plain laws, a part of the proof; no condition of its own. -/
import Derived.Test.YtiiiljghmilepaaTY8
import Derived.Test.YtiiiljghmilepaaS08j
open Go Go.AL Go.Proofs
namespace Go.AL
set_option linter.all false
set_option maxRecDepth 10000
theorem kz:ti Try.prog 69=some ⟨.struct [(0,3,false),(1,9,false),(2,65,false),(3,66,false),(4,3,false),(5,67,false),(6,3,false),(7,9,false)],8,128,.agg [.int .i64 0,.str [],.slice .nil 1 [],.slice .nil 1 [],.int .i64 0,.slice .nil 1 [],.int .i64 0,.str []]⟩:=by kernel_rfl
theorem pB:ti Try.prog 65=some ⟨.slice 119,1,24,.slice .nil 1 []⟩:=by kernel_rfl
theorem ll:ti Try.prog 119=some ⟨.struct [(0,9,false),(1,3,false),(2,3,false)],3,32,.agg [.str [],.int .i64 0,.int .i64 0]⟩:=by kernel_rfl
theorem pK:ti Try.prog 66=some ⟨.slice 3,1,24,.slice .nil 1 []⟩:=by kernel_rfl
theorem pk:ti Try.prog 67=some ⟨.slice 56,1,24,.slice .nil 1 []⟩:=by kernel_rfl
theorem jw:ti Try.prog 73=some ⟨.struct [(0,3,false),(1,9,false),(2,70,false),(3,71,false),(4,9,false)],5,88,.agg [.int .i64 0,.str [],.slice .nil 1 [],.slice .nil 1 [],.str []]⟩:=by kernel_rfl
theorem mn:ti Try.prog 70=some ⟨.slice 132,1,24,.slice .nil 1 []⟩:=by kernel_rfl
theorem iQ:ti Try.prog 132=some ⟨.struct [(0,9,false),(1,3,false)],2,24,.agg [.str [],.int .i64 0]⟩:=by kernel_rfl
theorem mR:ti Try.prog 71=some ⟨.slice 174,1,24,.slice .nil 1 []⟩:=by kernel_rfl
attribute [go_sem] kz pB ll pK pk jw mn iQ mR
theorem ju {α:Type} {f:α→AV}:∀ (l:List AV),(∀ x∈l,∃ a,x=f a)→∃ l':List α,l=l'.map f
 |[],_=>⟨[],rfl⟩
 |x::l,h=>by
  obtain ⟨a,ha⟩:=h x List.mem_cons_self
  obtain ⟨l',hl⟩:=ju l fun y hy=>h y (List.mem_cons_of_mem _ hy)
  exact ⟨a::l',by rw [ha,hl];rfl⟩
theorem wu {d:Nat} {cs:List AV} (h:tyC Try.prog (d+3) 65 cs):∃ l:List SKey,cs=[.slice .any 3 (l.map bS)]:=by
 rw [gb pB] at h
 obtain ⟨xs,rfl,hl,hx⟩:=h
 obtain ⟨l,rfl⟩:=ju (f:=bS) xs fun x hm=>by
  have h':tyV Try.prog (d+2) 119 x:=hx x hm
  rw [oy ll rfl] at h'
  obtain ⟨cs,rfl,h'⟩:=h'
  rw [iF ll] at h'
  obtain ⟨a0,r0,rfl,_,h0,a1,r1,rfl,_,h1,a2,r2,rfl,_,h2,rfl⟩:=h'
  rw [iL eC] at h0
  obtain ⟨x0,rfl,_⟩:=h0
  rw [kj kA] at h1
  obtain ⟨x1,rfl,_⟩:=h1
  rw [kj kA] at h2
  obtain ⟨x2,rfl,_⟩:=h2
  exact ⟨⟨x0,x1,x2⟩,rfl⟩
 exact ⟨l,by rw [lR ll]⟩
theorem wr {d:Nat} {cs:List AV} (h:tyC Try.prog (d+3) 70 cs):∃ l:List SParam,cs=[.slice .any 2 (l.map bv)]:=by
 rw [gb mn] at h
 obtain ⟨xs,rfl,hl,hx⟩:=h
 obtain ⟨l,rfl⟩:=ju (f:=bv) xs fun x hm=>by
  have h':tyV Try.prog (d+2) 132 x:=hx x hm
  rw [oy iQ rfl] at h'
  obtain ⟨cs,rfl,h'⟩:=h'
  rw [iF iQ] at h'
  obtain ⟨a0,r0,rfl,_,h0,a1,r1,rfl,_,h1,rfl⟩:=h'
  rw [iL eC] at h0
  obtain ⟨x0,rfl,_⟩:=h0
  rw [kj kA] at h1
  obtain ⟨x1,rfl,_⟩:=h1
  exact ⟨⟨x0,x1⟩,rfl⟩
 exact ⟨l,by rw [lR iQ]⟩
theorem y4 {d:Nat} {x:AV} (h:tyV Try.prog (d+4) 69 x):∃ t1 t2 tk t3 t4 t5 t6 t7,x=.agg [t1,t2,.slice .any 3 tk,t3,t4,t5,t6,t7]∧∃ keys:List SKey,tk=keys.map bS:=by
 rw [oy kz rfl] at h
 obtain ⟨cs,rfl,h⟩:=h
 rw [iF kz] at h
 obtain ⟨a0,r0,rfl,_,h0,a1,r1,rfl,_,h1,a2,r2,rfl,_,h2,a3,r3,rfl,_,h3,a4,r4,rfl,_,h4,a5,r5,rfl,_,h5,a6,r6,rfl,_,h6,a7,r7,rfl,_,h7,rfl⟩:=h
 rw [kj kA] at h0 h4 h6
 obtain ⟨x0,rfl,_⟩:=h0
 obtain ⟨x4,rfl,_⟩:=h4
 obtain ⟨x6,rfl,_⟩:=h6
 rw [iL eC] at h1 h7
 obtain ⟨x1,rfl,_⟩:=h1
 obtain ⟨x7,rfl,_⟩:=h7
 obtain ⟨keys,rfl⟩:=wu h2
 rw [gb pK] at h3
 obtain ⟨x3,rfl,_⟩:=h3
 rw [gb pk] at h5
 obtain ⟨x5,rfl,_⟩:=h5
 exact ⟨_,_,_,_,_,_,_,_,rfl,keys,rfl⟩
theorem yQ {d:Nat} {x:AV} (h:tyV Try.prog (d+4) 73 x):∃ a1 a2 ap a3 a4,x=.agg [a1,a2,.slice .any 2 ap,a3,a4]∧∃ ps:List SParam,ap=ps.map bv:=by
 rw [oy jw rfl] at h
 obtain ⟨cs,rfl,h⟩:=h
 rw [iF jw] at h
 obtain ⟨a0,r0,rfl,_,h0,a1,r1,rfl,_,h1,a2,r2,rfl,_,h2,a3,r3,rfl,_,h3,a4,r4,rfl,_,h4,rfl⟩:=h
 rw [kj kA] at h0
 obtain ⟨x0,rfl,_⟩:=h0
 rw [iL eC] at h1 h4
 obtain ⟨x1,rfl,_⟩:=h1
 obtain ⟨x4,rfl,_⟩:=h4
 obtain ⟨ps,rfl⟩:=wr h2
 rw [gb mR] at h3
 obtain ⟨x3,rfl,_⟩:=h3
 exact ⟨_,_,_,_,_,rfl,ps,rfl⟩
end Go.AL
