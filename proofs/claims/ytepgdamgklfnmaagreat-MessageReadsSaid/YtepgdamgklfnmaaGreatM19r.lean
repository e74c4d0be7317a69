/- Contracts and plain laws, a part of the proof; no condition of its own. -/
import Derived.Test.YtepgdamgklfnmaaGreatM19p
open Go Go.AL Go.Proofs
namespace Go.AL
set_option linter.all false
set_option maxRecDepth 10000

end Go.AL


open Go Go.AL Go.Proofs
namespace Go.AL
set_option linter.all false
set_option maxRecDepth 10000
theorem ti_lrequest:ti Tryz.prog 46=some ⟨.slice 28,1,24,.slice .nil 1 []⟩:=by kernel_rfl
attribute [go_sem] ti_lrequest
theorem gEntry_cok {S:Sch} (hG:GenS S) {b:List UInt8} {v:Nat} {n:Int}:COk (gEntry S b v n).1:=by
  have hE:=gEntry_ok hG (b:=b) (v:=v) (n:=n)
  have hkl:=hG.kl _ (tableAt_mem (S:=S) (n:=n) hG.t1)
  exact ⟨hE.ok hkl hG.pl,fun x hx=>Nat.lt_of_lt_of_le (hE.ao x hx) (by decide)⟩
theorem gUpd_cok {S:Sch} (hG:GenS S) {b:List UInt8} {v:Nat}:COk (gUpd S b v).1.2:=by
  have h:=gEntry_cok hG (b:=b) (v:=cp v 2) (n:=(cv b (cp v 1) 4:Nat))
  unfold gUpd
  dsimp only
  split
  · exact ⟨⟨h.ok.ml,Nat.zero_le _,h.ok.mo⟩,fun x hx=>by cases hx⟩
  · exact h
theorem gUps_ok {S:Sch} (hG:GenS S) {b:List UInt8}:∀ (n v:Nat),(gUps S b n v).1.length=n∧∀ u∈(gUps S b n v).1,COk u.2
  | 0,v=>⟨rfl,fun u hu=>by cases hu⟩
  | n+1,v=>by
    obtain ⟨h1,h2⟩:=gUps_ok hG n (gUpd S b (min v b.length)).2 (b:=b)
    refine ⟨by simp only [gUps,List.length_cons,h1],fun u hu=>?_⟩
    simp only [gUps,List.mem_cons] at hu
    rcases hu with rfl | hu
    · exact gUpd_cok hG
    · exact h2 u hu
theorem gReq_ok {S:Sch} (hG:GenS S) {b:List UInt8} {v:Nat}:ROk (gReq S b v).1∧(gReq S b v).1.ups.length≤5:=by
  have z:∀ u:Int × SEntry,u∈([]:List (Int × SEntry))→COk u.2:=fun u hu=>by cases hu
  have h5:=cv_lt (b:=b) (v:=cp v 2) (n:=5) (by decide)
  have h6:=cv_lt (b:=b) (v:=cp v 3) (n:=5) (by decide)
  have hp:5<2^128:=by decide
  have h0:0<2^128:=by decide
  obtain ⟨g1,g2⟩:=gUps_ok hG (b:=b) (cv b (cp v 3) 5) (cp v 4)
  have hf:=gFrame_len (b:=b) (v:=min (cp v 3) b.length)
  unfold gReq
  dsimp only
  repeat' split
  · exact ⟨⟨by dsimp only;omega,Nat.zero_le _,Nat.zero_le _,z⟩,Nat.zero_le _⟩
  · exact ⟨⟨by dsimp only;omega,by dsimp only;omega,Nat.zero_le _,g2⟩,by dsimp only;omega⟩
  · exact ⟨⟨h0,Nat.zero_le _,Nat.zero_le _,z⟩,Nat.zero_le _⟩
  · exact ⟨⟨h0,Nat.zero_le _,Nat.zero_le _,z⟩,Nat.zero_le _⟩
  · exact ⟨⟨h0,Nat.zero_le _,by dsimp only;omega,z⟩,Nat.zero_le _⟩
  · exact ⟨⟨h0,Nat.zero_le _,Nat.zero_le _,z⟩,Nat.zero_le _⟩
end Go.AL

