/- Contracts and plain laws, a part of the proof; no condition of its own. -/
import Derived.Test.YtokjjhidigoodaaE06
import Derived.Test.YtokjjhidigoodaaAlTop
import Derived.Test.YtokjjhidigoodaaS09h
open Go Go.AL Go.Proofs
namespace Go.AL
set_option linter.all false
set_option maxRecDepth 10000
theorem tj {d:Nat} {x:AV} (h:tyV Try.prog (d+3) 22 x):∃ s,x=.slice .any 1 s∧isB s:=by
 rw [sx ke rfl,rH ke] at h
 obtain ⟨_,xs,e,_,hx⟩:=h
 cases e
 refine ⟨xs,by rw [qG pQ],A7 fun x hm=>?_⟩
 have:=hx x hm
 rw [sx pQ rfl,xw pQ] at this
 obtain ⟨_,m,e,m1,m2⟩:=this
 cases e
 exact ⟨m,rfl,by simpa [IntKind.min,IntKind.signed] using m1,by simp [IntKind.max,IntKind.signed,IntKind.bits] at m2;omega⟩
end Go.AL
open Go Go.AL Go.Proofs
namespace Go.AL
set_option linter.all false
set_option maxRecDepth 10000
theorem xN:ti Try.prog 4=some ⟨.bool,1,1,.bool false⟩:=by kernel_rfl
attribute [go_sem] xN
end Go.AL
open Go Go.AL Go.Proofs
namespace Go.AL
set_option linter.all false
set_option maxRecDepth 10000
theorem lZ:ti Try.prog 23=some ⟨.slice 95,1,24,.slice .nil 1 []⟩:=by kernel_rfl
attribute [go_sem] lZ
theorem Be {d:Nat} {x:AV} (h:tyV Try.prog (d+2) 95 x):∃ v:Nat,x=.agg [.int .u64 ((v/2^64:Nat):Int),.int .u64 ((v % 2^64:Nat):Int)]∧v<340282366920938463463374607431768211456:=by
 rw [Bn jz rfl] at h
 obtain ⟨cs,rfl,h⟩:=h
 rw [uR jz] at h
 obtain ⟨b1,q1,rfl,_,g1,b2,q2,rfl,_,g2,rfl⟩:=h
 rw [xw jW] at g1 g2
 obtain ⟨hi,rfl,i1,i2⟩:=g1
 obtain ⟨lo,rfl,i3,i4⟩:=g2
 have j1:0≤hi:=by simpa [IntKind.min,IntKind.signed] using i1
 have j2:hi<18446744073709551616:=by simp [IntKind.max,IntKind.signed,IntKind.bits] at i2;omega
 have j3:0≤lo:=by simpa [IntKind.min,IntKind.signed] using i3
 have j4:lo<18446744073709551616:=by simp [IntKind.max,IntKind.signed,IntKind.bits] at i4;omega
 obtain ⟨a,rfl⟩:=Int.eq_ofNat_of_zero_le j1
 obtain ⟨b,rfl⟩:=Int.eq_ofNat_of_zero_le j3
 refine ⟨a*2^64+b,?_,by omega⟩
 have e1:(a*2^64+b)/2^64=a:=by omega
 have e2:(a*2^64+b) % 2^64=b:=by omega
 rw [e1,e2]
 rfl
theorem zI {d:Nat} {x:AV} (h:tyV Try.prog (d+3) 23 x):∃ v,x=.slice .any 2 (dj v)∧∀ a∈v,a<340282366920938463463374607431768211456:=by
 rw [sx lZ rfl,rH lZ] at h
 obtain ⟨_,xs,e,_,hx⟩:=h
 cases e
 have key:∀ ys:List AV,(∀ y∈ys,tyV Try.prog (d+2) 95 y)→∃ v:List Nat,ys=dj v∧∀ a∈v,a<340282366920938463463374607431768211456:=by
  intro ys
  induction ys with
  |nil=>exact fun _=>⟨[],rfl,fun _ h=>by cases h⟩
  |cons y ys ih =>
   intro h
   obtain ⟨a,rfl,ha⟩:=Be (d:=d) (h y List.mem_cons_self)
   obtain ⟨v,rfl,hv⟩:=ih fun z hz=>h z (List.mem_cons_of_mem _ hz)
   exact ⟨a::v,rfl,fun b hb=>by
    rcases List.mem_cons.1 hb with rfl|hb
    ·exact ha
    ·exact hv b hb⟩
 obtain ⟨v,rfl,hv⟩:=key xs hx
 exact ⟨v,by rw [qG jz],hv⟩
end Go.AL
