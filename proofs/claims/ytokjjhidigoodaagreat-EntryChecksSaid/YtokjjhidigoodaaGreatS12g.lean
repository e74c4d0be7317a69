/- Lemmas of the proof; no condition. -/
import Derived.Test.YtokjjhidigoodaaGreatS12f
import Derived.Test.YtokjjhidigoodaaGreatS11g
import Derived.Test.YtokjjhidigoodaaGreatS09i
set_option linter.all false
set_option maxRecDepth 10000
open Go Go.AL Go.Proofs
namespace Go.AL
theorem Gb {b:List UInt8}:SLen (dn b 0).1:=⟨by simp only [dn];decide,by simp only [dn];decide,by
 show (cr b (cp 0 2)).1.length≤1000000
 unfold cr
 split<;>split<;>simp,by
 simp only [dn,c6];simp,by
 simp only [dn,cK];simp,by
 simp only [dn,kD];simp⟩
theorem KS {b:List UInt8}:SAdm (dn b 0).1:=⟨Gb,Hh b (cp (cr b (cp 0 2)).2 4),Fs b (cr b (cp 0 2)).2⟩
theorem MB {S:Sch} (hG:GenS S) {m:Int} {e:SEntry} (h:GE S (fM S m) e):EAdm e:=by
 have hkl:=hG.kl _ (md (S:=S) (n:=m) hG.t1)
 have ho:=h.ok hkl hG.pl
 have hml:=h.ml
 refine ⟨by omega,fun x hx=>?_,by have:=h.p1;omega,ho.mo,fun x hx=>Nat.lt_of_lt_of_le (h.ao x hx) (by decide)⟩
 have:=(h.mo x hx).p1
 omega
end Go.AL
