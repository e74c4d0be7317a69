/- Lemmas of the proof; no condition. -/
import Derived.Test.YtjnhidpnfdbmaaaGreatS12b
import Derived.Test.YtjnhidpnfdbmaaaGreatS11g
import Derived.Test.YtjnhidpnfdbmaaaGreatS09i
set_option linter.all false
set_option maxRecDepth 10000
open Go Go.AL Go.Proofs
namespace Go.AL
theorem D6 {b:List UInt8}:SLen (bw b 0).1:=⟨by simp only [bw];decide,by simp only [bw];decide,by
 show (bh b (cp 0 2)).1.length≤1000000
 unfold bh
 split<;>split<;>simp,by
 simp only [bw,cB];simp,by
 simp only [bw,bD];simp,by
 simp only [bw,eZ];simp⟩
theorem GO {b:List UInt8}:SAdm (bw b 0).1:=⟨D6,Eb b (cp (bh b (cp 0 2)).2 4),Dj b (bh b (cp 0 2)).2⟩
theorem Io {S:Sch} (hG:GenS S) {m:Int} {e:SEntry} (h:GE S (dT S m) e):EAdm e:=by
 have hkl:=hG.kl _ (kh (S:=S) (n:=m) hG.t1)
 have ho:=h.ok hkl hG.pl
 have hml:=h.ml
 refine ⟨by omega,fun x hx=>?_,by have:=h.p1;omega,ho.mo,fun x hx=>Nat.lt_of_lt_of_le (h.ao x hx) (by decide)⟩
 have:=(h.mo x hx).p1
 omega
end Go.AL
