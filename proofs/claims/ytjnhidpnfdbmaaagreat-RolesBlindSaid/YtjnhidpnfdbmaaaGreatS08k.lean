/- Lemmas of the proof; no condition. -/
import Derived.Test.YtjnhidpnfdbmaaaGreatS08j
set_option linter.all false
set_option maxRecDepth 10000
open Go Go.AL Go.Proofs
namespace Go.AL
theorem Eb (b:List UInt8) (v:Nat):∀ t∈bD b v,BQ t:=by
 have hk:∀ (l r:List SKey) (c:Prop) [Decidable c],(∀ k∈l++r,k.name.length≤1000)→(l++r).length≤400→(l++if c then r else []).length≤400∧∀ k∈l++(if c then r else []),k.name.length≤1000:=by
  intro l r c _ h1 h2
  split
  ·exact ⟨h2,h1⟩
  ·rw [List.append_nil]
   rw [lAq] at h2
   exact ⟨by omega,fun k hk=>h1 k (List.mem_append_left _ hk)⟩
 have hr:∀ (L:List (List UInt8)) (i:Nat),(∀ s∈L,s.length≤1000)→(L.getD i []).length≤140737488355328:=by
  intro L i h
  rw [gEq]
  cases hi:L[i]? with
  |none=>exact Nat.zero_le _
  |some s=>have:=h s (List.mem_of_getElem? hi);simp only [Option.getD_some];omega
 intro t ht
 simp only [bD,List.mem_cons,List.not_mem_nil,or_false] at ht
 rcases ht with rfl|rfl|rfl|rfl
 ·exact ⟨by simp [ib],by simp [ib],hr _ _ (by decide)⟩
 ·obtain ⟨h1,h2⟩:=hk [⟨[100],7,2⟩] [⟨[109],3,1⟩] (cv b (v+3) 2=1) (by decide) (by decide)
  exact ⟨h1,h2,hr _ _ (by decide)⟩
 ·obtain ⟨h1,h2⟩:=hk [⟨[101],6,3⟩,⟨[97],4,3⟩] [⟨[98],5,1⟩] (cv b (v+5) 2=1) (by decide) (by decide)
  exact ⟨h1,h2,hr _ _ (by decide)⟩
 ·obtain ⟨h1,h2⟩:=hk [⟨[102],8,4⟩] [⟨[103],9,1⟩,⟨[100],7,2⟩] (cv b (v+7) 2=1) (by decide) (by decide)
  exact ⟨h1,h2,hr _ _ (by decide)⟩
theorem Dj (b:List UInt8) (v:Nat):∀ a∈cB b v,E1 a:=by
 intro a ha
 simp only [cB,List.mem_cons,List.not_mem_nil,or_false] at ha
 rcases ha with rfl|rfl|rfl|rfl|rfl|rfl<;>refine ⟨by simp,by simp,?_⟩<;>dsimp only<;>first|(split<;>simp)|simp
end Go.AL
