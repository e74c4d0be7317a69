/- Lemmas of the proof; no condition. -/
import Derived.Test.YtjnhidpnfdbmaaaGreatS12b
import Derived.Test.YtjnhidpnfdbmaaaGreatS11g
import Derived.Test.YtjnhidpnfdbmaaaGreatS09i
set_option linter.all false
set_option maxRecDepth 10000
open Go Go.AL Go.Proofs
namespace Go.AL
theorem Dh {b:List UInt8}:SLen (bW b 0).1:=⟨by simp only [bW];decide,by simp only [bW];decide,by
 show (bh b (cp 0 2)).1.length≤1000000
 unfold bh
 split<;>split<;>simp,by
 simp only [bW,cD];simp,by
 simp only [bW,bD];simp,by
 simp only [bW,eS];simp⟩
theorem EQ {b:List UInt8}:SAdm (bW b 0).1:=⟨Dh,Eg b (cp (bh b (cp 0 2)).2 4),DQ b (bh b (cp 0 2)).2⟩
theorem HH {S:Sch} (hG:GenS S) {m:Int} {e:SEntry} (h:GE S (dD S m) e):EAdm e:=by
 have hkl:=hG.kl _ (iT (S:=S) (n:=m) hG.t1)
 have ho:=h.ok hkl hG.pl
 have hml:=h.ml
 refine ⟨by omega,fun x hx=>?_,by have:=h.p1;omega,ho.mo,fun x hx=>Nat.lt_of_lt_of_le (h.ao x hx) (by decide)⟩
 have:=(h.mo x hx).p1
 omega
end Go.AL
