/- Lemmas of the proof; no condition. -/
import Derived.Test.YtokjjhidigoodaaGreatE06
import Derived.Test.YtokjjhidigoodaaGreatAlTop
import Derived.Test.YtokjjhidigoodaaGreatS09h
import Derived.Test.YtokjjhidigoodaaGreatS08i
import Derived.Test.YtokjjhidigoodaaGreatS10r
set_option linter.all false
set_option maxRecDepth 10000
open Go Go.AL Go.Proofs
namespace Go.AL
theorem Jd {d:Nat} {x:AV} (h:tyV Tryz.prog (d+1) 3 x):∃ n,x=.int .i64 n ∧ -9223372036854775808≤n∧n<9223372036854775808:=by
 rw [DD zP rfl,vL zP] at h
 obtain ⟨_,n,e,n1,n2⟩:=h
 cases e
 exact ⟨n,rfl,by simp [IntKind.min,IntKind.signed,IntKind.bits] at n1;omega,by simp [IntKind.max,IntKind.signed,IntKind.bits] at n2;omega⟩
theorem EP {d:Nat} {x:AV} (h:tyV Tryz.prog (d+3) 22 x):∃ s,x=.slice .any 1 s∧isB s:=by
 rw [DD tG rfl,vz tG] at h
 obtain ⟨_,xs,e,_,hx⟩:=h
 cases e
 refine ⟨xs,by rw [wW zU],Nf fun x hm=>?_⟩
 have:=hx x hm
 rw [DD zU rfl,vL zU] at this
 obtain ⟨_,m,e,m1,m2⟩:=this
 cases e
 exact ⟨m,rfl,by simpa [IntKind.min,IntKind.signed] using m1,by simp [IntKind.max,IntKind.signed,IntKind.bits] at m2;omega⟩
theorem KC:ti Tryz.prog 4=some ⟨.bool,1,1,.bool false⟩:=by kernel_rfl
attribute [go_sem] KC
theorem J4:ti Tryz.prog 24=some ⟨.slice 48,1,24,.slice .nil 1 []⟩:=by kernel_rfl
attribute [go_sem] J4
theorem FN:ti Tryz.prog 67=some ⟨.struct [(0,3,false),(1,9,false),(2,65,false),(3,56,false),(4,3,false),(5,24,false),(6,3,false),(7,9,false)],8,128,.agg [.int .i64 0,.str [],.slice .nil 1 [],.slice .nil 1 [],.int .i64 0,.slice .nil 1 [],.int .i64 0,.str []]⟩:=by kernel_rfl
theorem J3:ti Tryz.prog 65=some ⟨.slice 64,1,24,.slice .nil 1 []⟩:=by kernel_rfl
theorem Lp:ti Tryz.prog 64=some ⟨.struct [(0,9,false),(1,3,false),(2,3,false)],3,32,.agg [.str [],.int .i64 0,.int .i64 0]⟩:=by kernel_rfl
theorem J0:ti Tryz.prog 56=some ⟨.slice 3,1,24,.slice .nil 1 []⟩:=by kernel_rfl
theorem Ii:ti Tryz.prog 24=some ⟨.slice 48,1,24,.slice .nil 1 []⟩:=by kernel_rfl
theorem CE:ti Tryz.prog 103=some ⟨.struct [(0,3,false),(1,9,false),(2,100,false),(3,101,false),(4,9,false)],5,88,.agg [.int .i64 0,.str [],.slice .nil 1 [],.slice .nil 1 [],.str []]⟩:=by kernel_rfl
theorem Dg:ti Tryz.prog 100=some ⟨.slice 118,1,24,.slice .nil 1 []⟩:=by kernel_rfl
theorem Gn:ti Tryz.prog 118=some ⟨.struct [(0,9,false),(1,3,false)],2,24,.agg [.str [],.int .i64 0]⟩:=by kernel_rfl
theorem Hl:ti Tryz.prog 101=some ⟨.slice 172,1,24,.slice .nil 1 []⟩:=by kernel_rfl
attribute [go_sem] FN J3 Lp J0 Ii CE Dg Gn Hl
theorem kY:ti Tryz.prog 48=some ⟨.struct [(0,46,false),(1,46,false)],2,16,.agg [.int .u64 0,.int .u64 0]⟩:=by kernel_rfl
theorem xc:ti Tryz.prog 24=some ⟨.slice 48,1,24,.slice .nil 1 []⟩:=by kernel_rfl
theorem zG:ti Tryz.prog 3=some ⟨.int .i64,1,8,.int .i64 0⟩:=by kernel_rfl
theorem Bi:ti Tryz.prog 4=some ⟨.bool,1,1,.bool false⟩:=by kernel_rfl
theorem E3:ti Tryz.prog 46=some ⟨.int .u64,1,8,.int .u64 0⟩:=by kernel_rfl
theorem po:ti Tryz.prog 114=some ⟨.struct [(0,4,false),(1,48,false),(3,48,false),(5,3,false),(6,48,false)],8,64,.agg [.bool false,.int .u64 0,.int .u64 0,.int .u64 0,.int .u64 0,.int .i64 0,.int .u64 0,.int .u64 0]⟩:=by kernel_rfl
theorem t5:ti Tryz.prog 23=some ⟨.slice 114,1,24,.slice .nil 1 []⟩:=by kernel_rfl
theorem tB:ti Tryz.prog 26=some ⟨.struct [(0,3,false),(1,23,false),(2,3,false),(3,3,false),(4,24,false)],5,72,.agg [.int .i64 0,.slice .nil 1 [],.int .i64 0,.int .i64 0,.slice .nil 1 []]⟩:=by kernel_rfl
attribute [go_sem] kY xc zG Bi E3 po t5 tB
theorem Jf {d:Nat} {x:AV} (h:tyV Tryz.prog (d+2) 48 x):∃ hi lo,x=.agg [.int .u64 hi,.int .u64 lo]∧isV hi lo:=by
 rw [wO kY rfl] at h
 obtain ⟨cs,rfl,h⟩:=h
 rw [sW kY] at h
 obtain ⟨b1,q1,rfl,_,g1,b2,q2,rfl,_,g2,rfl⟩:=h
 rw [vL E3] at g1 g2
 obtain ⟨hi,rfl,i1,i2⟩:=g1
 obtain ⟨lo,rfl,i3,i4⟩:=g2
 refine ⟨hi,lo,rfl,?_⟩
 unfold isV
 simp [IntKind.min,IntKind.max,IntKind.signed,IntKind.bits] at i1 i2 i3 i4
 omega
theorem rI {d:Nat} {cs:List AV} (h:tyC Tryz.prog (d+2) 48 cs):∃ x:Nat,x<2^128∧cs=vc x:=by
 have h':tyV Tryz.prog (d+2) 48 (.agg cs):=by rw [wO kY rfl];exact ⟨cs,rfl,h⟩
 obtain ⟨hi,lo,e,hv⟩:=Jf h'
 cases e
 obtain ⟨x,hx,rfl,rfl,_⟩:=pF hv
 exact ⟨x,hx,rfl⟩
theorem GF {d:Nat} {cs:List AV} (h:tyC Tryz.prog (d+3) 114 cs):∃ m:SMatch,cs=bE m∧MOk m ∧ -9223372036854775808≤m.pfx∧m.pfx≤9223372036854775807:=by
 rw [sW po] at h
 obtain ⟨a1,r1,rfl,_,h1,a2,r2,rfl,_,h2,a3,r3,rfl,_,h3,a4,r4,rfl,_,h4,a5,r5,rfl,_,h5,rfl⟩:=h
 rw [Lg Bi] at h1
 rw [vL zG] at h4
 obtain ⟨b,rfl⟩:=h1
 obtain ⟨v,hv,rfl⟩:=rI h2
 obtain ⟨k,hk,rfl⟩:=rI h3
 obtain ⟨p,rfl,p1,p2⟩:=h4
 obtain ⟨g,hg,rfl⟩:=rI h5
 refine ⟨⟨b,v,k,p,g⟩,rfl,⟨hv,hk,hg⟩,?_,?_⟩
 ·simpa [IntKind.min,IntKind.signed,IntKind.bits] using p1
 ·simpa [IntKind.max,IntKind.signed,IntKind.bits] using p2
theorem qB {α:Type} {f:α→AV} {q:α→Prop}:∀ (l:List AV),(∀ x∈l,∃ a,x=f a∧q a)→∃ l':List α,l=l'.map f∧∀ a∈l',q a
 |[],_=>⟨[],rfl,by simp⟩
 |x::l,h=>by
  obtain ⟨a,ha,qa⟩:=h x List.mem_cons_self
  obtain ⟨l',hl,ql⟩:=qB l fun y hy=>h y (List.mem_cons_of_mem _ hy)
  exact ⟨a::l',by rw [ha,hl];rfl,fun b hb=>(List.mem_cons.1 hb).elim (fun e=>e ▸ qa) (ql b)⟩
structure EAny (e:SEntry):Prop where
 ok:EOk e
 pf:∀ m∈e.ms,-9223372036854775808≤m.pfx∧m.pfx≤9223372036854775807
 tb : -9223372036854775808≤e.table∧e.table≤9223372036854775807
 pr : -9223372036854775808≤e.prio∧e.prio≤9223372036854775807
 ac : -9223372036854775808≤e.act∧e.act≤9223372036854775807
 ar:∀ x∈e.args,x<2^128
 bm:e.ms.length*64≤140737488351232
 ba:e.args.length*16≤140737488351232
theorem GN {d:Nat} {cs:List AV} (h:tyC Tryz.prog (d+5) 26 cs):∃ e:SEntry,cs=bG e∧EAny e:=by
 rw [sW tB] at h
 obtain ⟨a1,r1,rfl,_,h1,a2,r2,rfl,_,h2,a3,r3,rfl,_,h3,a4,r4,rfl,_,h4,a5,r5,rfl,_,h5,rfl⟩:=h
 rw [vL zG] at h1 h3 h4
 rw [vz t5] at h2
 rw [vz xc] at h5
 obtain ⟨t,rfl,t1,t2⟩:=h1
 obtain ⟨p,rfl,p1,p2⟩:=h3
 obtain ⟨a,rfl,q1,q2⟩:=h4
 obtain ⟨ms,rfl,hml,hms⟩:=h2
 obtain ⟨ar,rfl,hal,har⟩:=h5
 obtain ⟨ms',rfl,hmo⟩:=qB (f:=aQ) (q:=fun m=>MOk m ∧ -9223372036854775808≤m.pfx∧m.pfx≤9223372036854775807) ms fun x hx=>by
  have:=hms x hx
  have h':tyV Tryz.prog (d+3) 114 x:=this
  rw [wO po rfl] at h'
  obtain ⟨cs,rfl,h'⟩:=h'
  obtain ⟨m,rfl,hm⟩:=GF h'
  exact ⟨m,rfl,hm⟩
 obtain ⟨ar',rfl,hao⟩:=qB (f:=vv) (q:=fun x=>x<2^128) ar fun x hx=>by
  have:=har x hx
  have h':tyV Tryz.prog (d+1+2) 48 x:=this
  rw [wO kY rfl] at h'
  obtain ⟨cs,rfl,h'⟩:=h'
  obtain ⟨y,hy,rfl⟩:=rI h'
  exact ⟨y,rfl,hy⟩
 refine ⟨⟨t,ms',p,a,ar'⟩,?_,?_⟩
 ·rw [wW po,wW kY];rfl
 have b1:1≤Tryz.prog.bytesOf 114:=by decide +kernel
 have b2:1≤Tryz.prog.bytesOf 48:=by decide +kernel
 have c1:Tryz.prog.bytesOf 114=64:=by decide +kernel
 have c2:Tryz.prog.bytesOf 48=16:=by decide +kernel
 have m1:=Nat.mul_le_mul_left (ms'.map aQ).length b1
 have m2:=Nat.mul_le_mul_left (ar'.map vv).length b2
 rw [List.length_map] at m1 m2 hml hal
 simp [IntKind.min,IntKind.max,IntKind.signed,IntKind.bits] at t1 t2 p1 p2 q1 q2
 exact ⟨⟨by dsimp only;omega,by dsimp only;omega,fun m hm=>(hmo m hm).1⟩,fun m hm=>(hmo m hm).2,⟨by dsimp only;omega,by dsimp only;omega⟩,⟨by dsimp only;omega,by dsimp only;omega⟩,⟨by dsimp only;omega,by dsimp only;omega⟩,hao,by dsimp only;rw [c1] at hml;omega,by dsimp only;rw [c2] at hal;omega⟩
theorem H6 {d:Nat} {x:AV} (h:tyV Tryz.prog (d+5) 26 x):∃ e:SEntry,x=.agg (bG e)∧EAny e:=by
 rw [wO tB rfl] at h
 obtain ⟨cs,rfl,h⟩:=h
 obtain ⟨e,rfl,he⟩:=GN h
 exact ⟨e,rfl,he⟩
end Go.AL
