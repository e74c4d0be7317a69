/- Contracts and plain laws, a part of the proof; no condition of its own. -/
import Derived.Test.YtokjjhidigoodaaE06
import Derived.Test.YtokjjhidigoodaaAlTop
import Derived.Test.YtokjjhidigoodaaS09j
import Derived.Test.YtokjjhidigoodaaS08i
import Derived.Test.YtokjjhidigoodaaS10r
open Go Go.AL Go.Proofs
namespace Go.AL
set_option linter.all false
set_option maxRecDepth 10000
theorem Ew {d:Nat} {x:AV} (h:tyV Try.prog (d+1) 3 x):∃ n,x=.int .i64 n ∧ -9223372036854775808≤n∧n<9223372036854775808:=by
 rw [vf ia rfl,iu ia] at h
 obtain ⟨_,n,e,n1,n2⟩:=h
 cases e
 exact ⟨n,rfl,by simp [IntKind.min,IntKind.signed,IntKind.bits] at n1;omega,by simp [IntKind.max,IntKind.signed,IntKind.bits] at n2;omega⟩
theorem BE {d:Nat} {x:AV} (h:tyV Try.prog (d+3) 22 x):∃ s,x=.slice .any 1 s∧isB s:=by
 rw [vf mR rfl,fU mR] at h
 obtain ⟨_,xs,e,_,hx⟩:=h
 cases e
 refine ⟨xs,by rw [j0 rA],Dt fun x hm=>?_⟩
 have:=hx x hm
 rw [vf rA rfl,iu rA] at this
 obtain ⟨_,m,e,m1,m2⟩:=this
 cases e
 exact ⟨m,rfl,by simpa [IntKind.min,IntKind.signed] using m1,by simp [IntKind.max,IntKind.signed,IntKind.bits] at m2;omega⟩
end Go.AL
open Go Go.AL Go.Proofs
namespace Go.AL
set_option linter.all false
set_option maxRecDepth 10000
theorem AB:ti Try.prog 4=some ⟨.bool,1,1,.bool false⟩:=by kernel_rfl
attribute [go_sem] AB
end Go.AL
open Go Go.AL Go.Proofs
namespace Go.AL
set_option linter.all false
set_option maxRecDepth 10000
theorem z8:ti Try.prog 23=some ⟨.slice 95,1,24,.slice .nil 1 []⟩:=by kernel_rfl
attribute [go_sem] z8
end Go.AL
open Go Go.AL Go.Proofs
namespace Go.AL
set_option linter.all false
set_option maxRecDepth 10000
theorem mv:ti Try.prog 38=some ⟨.struct [(0,3,false),(1,9,false),(2,35,false),(3,36,false),(4,3,false),(5,23,false),(6,3,false),(7,9,false)],8,128,.agg [.int .i64 0,.str [],.slice .nil 1 [],.slice .nil 1 [],.int .i64 0,.slice .nil 1 [],.int .i64 0,.str []]⟩:=by kernel_rfl
theorem tB:ti Try.prog 35=some ⟨.slice 79,1,24,.slice .nil 1 []⟩:=by kernel_rfl
theorem nW:ti Try.prog 79=some ⟨.struct [(0,9,false),(1,3,false),(2,3,false)],3,32,.agg [.str [],.int .i64 0,.int .i64 0]⟩:=by kernel_rfl
theorem sS:ti Try.prog 36=some ⟨.slice 3,1,24,.slice .nil 1 []⟩:=by kernel_rfl
theorem ui:ti Try.prog 23=some ⟨.slice 95,1,24,.slice .nil 1 []⟩:=by kernel_rfl
theorem k8:ti Try.prog 45=some ⟨.struct [(0,3,false),(1,9,false),(2,42,false),(3,43,false),(4,9,false)],5,88,.agg [.int .i64 0,.str [],.slice .nil 1 [],.slice .nil 1 [],.str []]⟩:=by kernel_rfl
theorem n8:ti Try.prog 42=some ⟨.slice 109,1,24,.slice .nil 1 []⟩:=by kernel_rfl
theorem j7:ti Try.prog 109=some ⟨.struct [(0,9,false),(1,3,false)],2,24,.agg [.str [],.int .i64 0]⟩:=by kernel_rfl
theorem qm:ti Try.prog 43=some ⟨.slice 143,1,24,.slice .nil 1 []⟩:=by kernel_rfl
attribute [go_sem] mv tB nW sS ui k8 n8 j7 qm
theorem kR {α:Type} {f:α→AV}:∀ (l:List AV),(∀ x∈l,∃ a,x=f a)→∃ l':List α,l=l'.map f
 |[],_=>⟨[],rfl⟩
 |x::l,h=>by
  obtain ⟨a,ha⟩:=h x List.mem_cons_self
  obtain ⟨l',hl⟩:=kR l fun y hy=>h y (List.mem_cons_of_mem _ hy)
  exact ⟨a::l',by rw [ha,hl];rfl⟩
theorem Bu {d:Nat} {cs:List AV} (h:tyC Try.prog (d+3) 35 cs):∃ l:List SKey,cs=[.slice .any 3 (l.map cg)]:=by
 rw [fU tB] at h
 obtain ⟨xs,rfl,hl,hx⟩:=h
 obtain ⟨l,rfl⟩:=kR (f:=cg) xs fun x hm=>by
  have h':tyV Try.prog (d+2) 79 x:=hx x hm
  rw [i0 nW rfl] at h'
  obtain ⟨cs,rfl,h'⟩:=h'
  rw [fO nW] at h'
  obtain ⟨a0,r0,rfl,_,h0,a1,r1,rfl,_,h1,a2,r2,rfl,_,h2,rfl⟩:=h'
  rw [km eP] at h0
  obtain ⟨x0,rfl,_⟩:=h0
  rw [iu ia] at h1
  obtain ⟨x1,rfl,_⟩:=h1
  rw [iu ia] at h2
  obtain ⟨x2,rfl,_⟩:=h2
  exact ⟨⟨x0,x1,x2⟩,rfl⟩
 exact ⟨l,by rw [j0 nW]⟩
theorem B9 {d:Nat} {cs:List AV} (h:tyC Try.prog (d+3) 42 cs):∃ l:List SParam,cs=[.slice .any 2 (l.map bq)]:=by
 rw [fU n8] at h
 obtain ⟨xs,rfl,hl,hx⟩:=h
 obtain ⟨l,rfl⟩:=kR (f:=bq) xs fun x hm=>by
  have h':tyV Try.prog (d+2) 109 x:=hx x hm
  rw [i0 j7 rfl] at h'
  obtain ⟨cs,rfl,h'⟩:=h'
  rw [fO j7] at h'
  obtain ⟨a0,r0,rfl,_,h0,a1,r1,rfl,_,h1,rfl⟩:=h'
  rw [km eP] at h0
  obtain ⟨x0,rfl,_⟩:=h0
  rw [iu ia] at h1
  obtain ⟨x1,rfl,_⟩:=h1
  exact ⟨⟨x0,x1⟩,rfl⟩
 exact ⟨l,by rw [j0 j7]⟩
theorem Em {d:Nat} {x:AV} (h:tyV Try.prog (d+4) 38 x):∃ t1 t2 tk t3 t4 t5 t6 t7,x=.agg [t1,t2,.slice .any 3 tk,t3,t4,t5,t6,t7]∧∃ keys:List SKey,tk=keys.map cg:=by
 rw [i0 mv rfl] at h
 obtain ⟨cs,rfl,h⟩:=h
 rw [fO mv] at h
 obtain ⟨a0,r0,rfl,_,h0,a1,r1,rfl,_,h1,a2,r2,rfl,_,h2,a3,r3,rfl,_,h3,a4,r4,rfl,_,h4,a5,r5,rfl,_,h5,a6,r6,rfl,_,h6,a7,r7,rfl,_,h7,rfl⟩:=h
 rw [iu ia] at h0 h4 h6
 obtain ⟨x0,rfl,_⟩:=h0
 obtain ⟨x4,rfl,_⟩:=h4
 obtain ⟨x6,rfl,_⟩:=h6
 rw [km eP] at h1 h7
 obtain ⟨x1,rfl,_⟩:=h1
 obtain ⟨x7,rfl,_⟩:=h7
 obtain ⟨keys,rfl⟩:=Bu h2
 rw [fU sS] at h3
 obtain ⟨x3,rfl,_⟩:=h3
 rw [fU ui] at h5
 obtain ⟨x5,rfl,_⟩:=h5
 exact ⟨_,_,_,_,_,_,_,_,rfl,keys,rfl⟩
theorem D5 {d:Nat} {x:AV} (h:tyV Try.prog (d+4) 45 x):∃ a1 a2 ap a3 a4,x=.agg [a1,a2,.slice .any 2 ap,a3,a4]∧∃ ps:List SParam,ap=ps.map bq:=by
 rw [i0 k8 rfl] at h
 obtain ⟨cs,rfl,h⟩:=h
 rw [fO k8] at h
 obtain ⟨a0,r0,rfl,_,h0,a1,r1,rfl,_,h1,a2,r2,rfl,_,h2,a3,r3,rfl,_,h3,a4,r4,rfl,_,h4,rfl⟩:=h
 rw [iu ia] at h0
 obtain ⟨x0,rfl,_⟩:=h0
 rw [km eP] at h1 h4
 obtain ⟨x1,rfl,_⟩:=h1
 obtain ⟨x4,rfl,_⟩:=h4
 obtain ⟨ps,rfl⟩:=B9 h2
 rw [fU qm] at h3
 obtain ⟨x3,rfl,_⟩:=h3
 exact ⟨_,_,_,_,_,rfl,ps,rfl⟩
end Go.AL
open Go Go.AL Go.Proofs
namespace Go.AL
set_option linter.all false
set_option maxRecDepth 10000
theorem gG:ti Try.prog 95=some ⟨.struct [(0,93,false),(1,93,false)],2,16,.agg [.int .u64 0,.int .u64 0]⟩:=by kernel_rfl
theorem oP:ti Try.prog 23=some ⟨.slice 95,1,24,.slice .nil 1 []⟩:=by kernel_rfl
theorem rt:ti Try.prog 3=some ⟨.int .i64,1,8,.int .i64 0⟩:=by kernel_rfl
theorem tp:ti Try.prog 4=some ⟨.bool,1,1,.bool false⟩:=by kernel_rfl
theorem wx:ti Try.prog 93=some ⟨.int .u64,1,8,.int .u64 0⟩:=by kernel_rfl
theorem ke:ti Try.prog 100=some ⟨.struct [(0,4,false),(1,95,false),(3,95,false),(5,3,false),(6,95,false)],8,64,.agg [.bool false,.int .u64 0,.int .u64 0,.int .u64 0,.int .u64 0,.int .i64 0,.int .u64 0,.int .u64 0]⟩:=by kernel_rfl
theorem m8:ti Try.prog 39=some ⟨.slice 100,1,24,.slice .nil 1 []⟩:=by kernel_rfl
theorem md:ti Try.prog 41=some ⟨.struct [(0,3,false),(1,39,false),(2,3,false),(3,3,false),(4,23,false)],5,72,.agg [.int .i64 0,.slice .nil 1 [],.int .i64 0,.int .i64 0,.slice .nil 1 []]⟩:=by kernel_rfl
attribute [go_sem] gG oP rt tp wx ke m8 md
theorem C6 {d:Nat} {x:AV} (h:tyV Try.prog (d+2) 95 x):∃ hi lo,x=.agg [.int .u64 hi,.int .u64 lo]∧isV hi lo:=by
 rw [i0 gG rfl] at h
 obtain ⟨cs,rfl,h⟩:=h
 rw [fO gG] at h
 obtain ⟨b1,q1,rfl,_,g1,b2,q2,rfl,_,g2,rfl⟩:=h
 rw [iu wx] at g1 g2
 obtain ⟨hi,rfl,i1,i2⟩:=g1
 obtain ⟨lo,rfl,i3,i4⟩:=g2
 refine ⟨hi,lo,rfl,?_⟩
 unfold isV
 simp [IntKind.min,IntKind.max,IntKind.signed,IntKind.bits] at i1 i2 i3 i4
 omega
theorem lY {d:Nat} {cs:List AV} (h:tyC Try.prog (d+2) 95 cs):∃ x:Nat,x<2^128∧cs=vc x:=by
 have h':tyV Try.prog (d+2) 95 (.agg cs):=by rw [i0 gG rfl];exact ⟨cs,rfl,h⟩
 obtain ⟨hi,lo,e,hv⟩:=C6 h'
 cases e
 obtain ⟨x,hx,rfl,rfl,_⟩:=BR hv
 exact ⟨x,hx,rfl⟩
theorem xG {d:Nat} {cs:List AV} (h:tyC Try.prog (d+3) 100 cs):∃ m:SMatch,cs=dz m∧MOk m ∧ -9223372036854775808≤m.pfx∧m.pfx≤9223372036854775807:=by
 rw [fO ke] at h
 obtain ⟨a1,r1,rfl,_,h1,a2,r2,rfl,_,h2,a3,r3,rfl,_,h3,a4,r4,rfl,_,h4,a5,r5,rfl,_,h5,rfl⟩:=h
 rw [Cp tp] at h1
 rw [iu rt] at h4
 obtain ⟨b,rfl⟩:=h1
 obtain ⟨v,hv,rfl⟩:=lY h2
 obtain ⟨k,hk,rfl⟩:=lY h3
 obtain ⟨p,rfl,p1,p2⟩:=h4
 obtain ⟨g,hg,rfl⟩:=lY h5
 refine ⟨⟨b,v,k,p,g⟩,rfl,⟨hv,hk,hg⟩,?_,?_⟩
 ·simpa [IntKind.min,IntKind.signed,IntKind.bits] using p1
 ·simpa [IntKind.max,IntKind.signed,IntKind.bits] using p2
theorem k7 {α:Type} {f:α→AV} {q:α→Prop}:∀ (l:List AV),(∀ x∈l,∃ a,x=f a∧q a)→∃ l':List α,l=l'.map f∧∀ a∈l',q a
 |[],_=>⟨[],rfl,by simp⟩
 |x::l,h=>by
  obtain ⟨a,ha,qa⟩:=h x List.mem_cons_self
  obtain ⟨l',hl,ql⟩:=k7 l fun y hy=>h y (List.mem_cons_of_mem _ hy)
  exact ⟨a::l',by rw [ha,hl];rfl,fun b hb=>(List.mem_cons.1 hb).elim (fun e=>e ▸ qa) (ql b)⟩
/-- what is so of an entry that a caller gives -/
structure EAny (e:SEntry):Prop where
 ok:EOk e
 pf:∀ m∈e.ms,-9223372036854775808≤m.pfx∧m.pfx≤9223372036854775807
 tb : -9223372036854775808≤e.table∧e.table≤9223372036854775807
 pr : -9223372036854775808≤e.prio∧e.prio≤9223372036854775807
 ac : -9223372036854775808≤e.act∧e.act≤9223372036854775807
 ar:∀ x∈e.args,x<2^128
 bm:e.ms.length*64≤140737488351232
 ba:e.args.length*16≤140737488351232
theorem yD {d:Nat} {cs:List AV} (h:tyC Try.prog (d+5) 41 cs):∃ e:SEntry,cs=gJ e∧EAny e:=by
 rw [fO md] at h
 obtain ⟨a1,r1,rfl,_,h1,a2,r2,rfl,_,h2,a3,r3,rfl,_,h3,a4,r4,rfl,_,h4,a5,r5,rfl,_,h5,rfl⟩:=h
 rw [iu rt] at h1 h3 h4
 rw [fU m8] at h2
 rw [fU oP] at h5
 obtain ⟨t,rfl,t1,t2⟩:=h1
 obtain ⟨p,rfl,p1,p2⟩:=h3
 obtain ⟨a,rfl,q1,q2⟩:=h4
 obtain ⟨ms,rfl,hml,hms⟩:=h2
 obtain ⟨ar,rfl,hal,har⟩:=h5
 obtain ⟨ms',rfl,hmo⟩:=k7 (f:=bQ) (q:=fun m=>MOk m ∧ -9223372036854775808≤m.pfx∧m.pfx≤9223372036854775807) ms fun x hx=>by
  have:=hms x hx
  have h':tyV Try.prog (d+3) 100 x:=this
  rw [i0 ke rfl] at h'
  obtain ⟨cs,rfl,h'⟩:=h'
  obtain ⟨m,rfl,hm⟩:=xG h'
  exact ⟨m,rfl,hm⟩
 obtain ⟨ar',rfl,hao⟩:=k7 (f:=vv) (q:=fun x=>x<2^128) ar fun x hx=>by
  have:=har x hx
  have h':tyV Try.prog (d+1+2) 95 x:=this
  rw [i0 gG rfl] at h'
  obtain ⟨cs,rfl,h'⟩:=h'
  obtain ⟨y,hy,rfl⟩:=lY h'
  exact ⟨y,rfl,hy⟩
 refine ⟨⟨t,ms',p,a,ar'⟩,?_,?_⟩
 ·rw [j0 ke,j0 gG];rfl
 have b1:1≤Try.prog.bytesOf 100:=by decide +kernel
 have b2:1≤Try.prog.bytesOf 95:=by decide +kernel
 have c1:Try.prog.bytesOf 100=64:=by decide +kernel
 have c2:Try.prog.bytesOf 95=16:=by decide +kernel
 have m1:=Nat.mul_le_mul_left (ms'.map bQ).length b1
 have m2:=Nat.mul_le_mul_left (ar'.map vv).length b2
 rw [List.length_map] at m1 m2 hml hal
 simp [IntKind.min,IntKind.max,IntKind.signed,IntKind.bits] at t1 t2 p1 p2 q1 q2
 exact ⟨⟨by dsimp only;omega,by dsimp only;omega,fun m hm=>(hmo m hm).1⟩,fun m hm=>(hmo m hm).2,⟨by dsimp only;omega,by dsimp only;omega⟩,⟨by dsimp only;omega,by dsimp only;omega⟩,⟨by dsimp only;omega,by dsimp only;omega⟩,hao,by dsimp only;rw [c1] at hml;omega,by dsimp only;rw [c2] at hal;omega⟩
theorem A1 {d:Nat} {x:AV} (h:tyV Try.prog (d+5) 41 x):∃ e:SEntry,x=.agg (gJ e)∧EAny e:=by
 rw [i0 md rfl] at h
 obtain ⟨cs,rfl,h⟩:=h
 obtain ⟨e,rfl,he⟩:=yD h
 exact ⟨e,rfl,he⟩
end Go.AL
