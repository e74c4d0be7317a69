/- Lemmas of the proof; no condition. -/
import Derived.Test.YtjnhidpnfdbmaaaGreatE06
import Derived.Test.YtjnhidpnfdbmaaaGreatAlTop
import Derived.Test.YtjnhidpnfdbmaaaGreatS09i
import Derived.Test.YtjnhidpnfdbmaaaGreatS08i
import Derived.Test.YtjnhidpnfdbmaaaGreatS10r
set_option linter.all false
set_option maxRecDepth 10000
open Go Go.AL Go.Proofs
namespace Go.AL
theorem JP {d:Nat} {x:AV} (h:tyV Tryz.prog (d+1) 3 x):∃ n,x=.int .i64 n ∧ -9223372036854775808≤n∧n<9223372036854775808:=by
 rw [z8 v9 rfl,tJ v9] at h
 obtain ⟨_,n,e,n1,n2⟩:=h
 cases e
 exact ⟨n,rfl,by simp [IntKind.min,IntKind.signed,IntKind.bits] at n1;omega,by simp [IntKind.max,IntKind.signed,IntKind.bits] at n2;omega⟩
theorem B6 {d:Nat} {x:AV} (h:tyV Tryz.prog (d+3) 22 x):∃ s,x=.slice .any 1 s∧isB s:=by
 rw [z8 qo rfl,sK qo] at h
 obtain ⟨_,xs,e,_,hx⟩:=h
 cases e
 refine ⟨xs,by rw [tF wc],J7 fun x hm=>?_⟩
 have:=hx x hm
 rw [z8 wc rfl,tJ wc] at this
 obtain ⟨_,m,e,m1,m2⟩:=this
 cases e
 exact ⟨m,rfl,by simpa [IntKind.min,IntKind.signed] using m1,by simp [IntKind.max,IntKind.signed,IntKind.bits] at m2;omega⟩
theorem FY:ti Tryz.prog 4=some ⟨.bool,1,1,.bool false⟩:=by kernel_rfl
attribute [go_sem] FY
theorem GI:ti Tryz.prog 24=some ⟨.slice 29,1,24,.slice .nil 1 []⟩:=by kernel_rfl
attribute [go_sem] GI
theorem DN:ti Tryz.prog 91=some ⟨.struct [(0,3,false),(1,9,false),(2,89,false),(3,50,false),(4,3,false),(5,24,false),(6,3,false),(7,9,false)],8,128,.agg [.int .i64 0,.str [],.slice .nil 1 [],.slice .nil 1 [],.int .i64 0,.slice .nil 1 [],.int .i64 0,.str []]⟩:=by kernel_rfl
theorem Ha:ti Tryz.prog 89=some ⟨.slice 102,1,24,.slice .nil 1 []⟩:=by kernel_rfl
theorem Ib:ti Tryz.prog 102=some ⟨.struct [(0,9,false),(1,3,false),(2,3,false)],3,32,.agg [.str [],.int .i64 0,.int .i64 0]⟩:=by kernel_rfl
theorem EG:ti Tryz.prog 50=some ⟨.slice 3,1,24,.slice .nil 1 []⟩:=by kernel_rfl
theorem GV:ti Tryz.prog 24=some ⟨.slice 29,1,24,.slice .nil 1 []⟩:=by kernel_rfl
theorem zx:ti Tryz.prog 107=some ⟨.struct [(0,3,false),(1,9,false),(2,104,false),(3,105,false),(4,9,false)],5,88,.agg [.int .i64 0,.str [],.slice .nil 1 [],.slice .nil 1 [],.str []]⟩:=by kernel_rfl
theorem zP:ti Tryz.prog 104=some ⟨.slice 110,1,24,.slice .nil 1 []⟩:=by kernel_rfl
theorem Dj:ti Tryz.prog 110=some ⟨.struct [(0,9,false),(1,3,false)],2,24,.agg [.str [],.int .i64 0]⟩:=by kernel_rfl
theorem CD:ti Tryz.prog 105=some ⟨.slice 123,1,24,.slice .nil 1 []⟩:=by kernel_rfl
attribute [go_sem] DN Ha Ib EG GV zx zP Dj CD
theorem jq:ti Tryz.prog 29=some ⟨.struct [(0,27,false),(1,27,false)],2,16,.agg [.int .u64 0,.int .u64 0]⟩:=by kernel_rfl
theorem uk:ti Tryz.prog 24=some ⟨.slice 29,1,24,.slice .nil 1 []⟩:=by kernel_rfl
theorem xB:ti Tryz.prog 3=some ⟨.int .i64,1,8,.int .i64 0⟩:=by kernel_rfl
theorem zc:ti Tryz.prog 4=some ⟨.bool,1,1,.bool false⟩:=by kernel_rfl
theorem BG:ti Tryz.prog 27=some ⟨.int .u64,1,8,.int .u64 0⟩:=by kernel_rfl
theorem nh:ti Tryz.prog 47=some ⟨.struct [(0,4,false),(1,29,false),(3,29,false),(5,3,false),(6,29,false)],8,64,.agg [.bool false,.int .u64 0,.int .u64 0,.int .u64 0,.int .u64 0,.int .i64 0,.int .u64 0,.int .u64 0]⟩:=by kernel_rfl
theorem rp:ti Tryz.prog 23=some ⟨.slice 47,1,24,.slice .nil 1 []⟩:=by kernel_rfl
theorem qe:ti Tryz.prog 26=some ⟨.struct [(0,3,false),(1,23,false),(2,3,false),(3,3,false),(4,24,false)],5,72,.agg [.int .i64 0,.slice .nil 1 [],.int .i64 0,.int .i64 0,.slice .nil 1 []]⟩:=by kernel_rfl
attribute [go_sem] jq uk xB zc BG nh rp qe
theorem Lq {d:Nat} {x:AV} (h:tyV Tryz.prog (d+2) 29 x):∃ hi lo,x=.agg [.int .u64 hi,.int .u64 lo]∧isV hi lo:=by
 rw [uv jq rfl] at h
 obtain ⟨cs,rfl,h⟩:=h
 rw [qu jq] at h
 obtain ⟨b1,q1,rfl,_,g1,b2,q2,rfl,_,g2,rfl⟩:=h
 rw [tJ BG] at g1 g2
 obtain ⟨hi,rfl,i1,i2⟩:=g1
 obtain ⟨lo,rfl,i3,i4⟩:=g2
 refine ⟨hi,lo,rfl,?_⟩
 unfold isV
 simp [IntKind.min,IntKind.max,IntKind.signed,IntKind.bits] at i1 i2 i3 i4
 omega
theorem oN {d:Nat} {cs:List AV} (h:tyC Tryz.prog (d+2) 29 cs):∃ x:Nat,x<2^128∧cs=vc x:=by
 have h':tyV Tryz.prog (d+2) 29 (.agg cs):=by rw [uv jq rfl];exact ⟨cs,rfl,h⟩
 obtain ⟨hi,lo,e,hv⟩:=Lq h'
 cases e
 obtain ⟨x,hx,rfl,rfl,_⟩:=HA hv
 exact ⟨x,hx,rfl⟩
theorem Cq {d:Nat} {cs:List AV} (h:tyC Tryz.prog (d+3) 47 cs):∃ m:SMatch,cs=bP m∧MOk m ∧ -9223372036854775808≤m.pfx∧m.pfx≤9223372036854775807:=by
 rw [qu nh] at h
 obtain ⟨a1,r1,rfl,_,h1,a2,r2,rfl,_,h2,a3,r3,rfl,_,h3,a4,r4,rfl,_,h4,a5,r5,rfl,_,h5,rfl⟩:=h
 rw [Jk zc] at h1
 rw [tJ xB] at h4
 obtain ⟨b,rfl⟩:=h1
 obtain ⟨v,hv,rfl⟩:=oN h2
 obtain ⟨k,hk,rfl⟩:=oN h3
 obtain ⟨p,rfl,p1,p2⟩:=h4
 obtain ⟨g,hg,rfl⟩:=oN h5
 refine ⟨⟨b,v,k,p,g⟩,rfl,⟨hv,hk,hg⟩,?_,?_⟩
 ·simpa [IntKind.min,IntKind.signed,IntKind.bits] using p1
 ·simpa [IntKind.max,IntKind.signed,IntKind.bits] using p2
theorem oy {α:Type} {f:α→AV} {q:α→Prop}:∀ (l:List AV),(∀ x∈l,∃ a,x=f a∧q a)→∃ l':List α,l=l'.map f∧∀ a∈l',q a
 |[],_=>⟨[],rfl,by simp⟩
 |x::l,h=>by
  obtain ⟨a,ha,qa⟩:=h x List.mem_cons_self
  obtain ⟨l',hl,ql⟩:=oy l fun y hy=>h y (List.mem_cons_of_mem _ hy)
  exact ⟨a::l',by rw [ha,hl];rfl,fun b hb=>(List.mem_cons.1 hb).elim (fun e=>e ▸ qa) (ql b)⟩
structure EAny (e:SEntry):Prop where
 ok:EOk e
 pf:∀ m∈e.ms,-9223372036854775808≤m.pfx∧m.pfx≤9223372036854775807
 tb : -9223372036854775808≤e.table∧e.table≤9223372036854775807
 pr : -9223372036854775808≤e.prio∧e.prio≤9223372036854775807
 ac : -9223372036854775808≤e.act∧e.act≤9223372036854775807
 ar:∀ x∈e.args,x<2^128
 bm:e.ms.length*64≤140737488351232
 ba:e.args.length*16≤140737488351232
theorem C9 {d:Nat} {cs:List AV} (h:tyC Tryz.prog (d+5) 26 cs):∃ e:SEntry,cs=aJ e∧EAny e:=by
 rw [qu qe] at h
 obtain ⟨a1,r1,rfl,_,h1,a2,r2,rfl,_,h2,a3,r3,rfl,_,h3,a4,r4,rfl,_,h4,a5,r5,rfl,_,h5,rfl⟩:=h
 rw [tJ xB] at h1 h3 h4
 rw [sK rp] at h2
 rw [sK uk] at h5
 obtain ⟨t,rfl,t1,t2⟩:=h1
 obtain ⟨p,rfl,p1,p2⟩:=h3
 obtain ⟨a,rfl,q1,q2⟩:=h4
 obtain ⟨ms,rfl,hml,hms⟩:=h2
 obtain ⟨ar,rfl,hal,har⟩:=h5
 obtain ⟨ms',rfl,hmo⟩:=oy (f:=aT) (q:=fun m=>MOk m ∧ -9223372036854775808≤m.pfx∧m.pfx≤9223372036854775807) ms fun x hx=>by
  have:=hms x hx
  have h':tyV Tryz.prog (d+3) 47 x:=this
  rw [uv nh rfl] at h'
  obtain ⟨cs,rfl,h'⟩:=h'
  obtain ⟨m,rfl,hm⟩:=Cq h'
  exact ⟨m,rfl,hm⟩
 obtain ⟨ar',rfl,hao⟩:=oy (f:=vv) (q:=fun x=>x<2^128) ar fun x hx=>by
  have:=har x hx
  have h':tyV Tryz.prog (d+1+2) 29 x:=this
  rw [uv jq rfl] at h'
  obtain ⟨cs,rfl,h'⟩:=h'
  obtain ⟨y,hy,rfl⟩:=oN h'
  exact ⟨y,rfl,hy⟩
 refine ⟨⟨t,ms',p,a,ar'⟩,?_,?_⟩
 ·rw [tF nh,tF jq];rfl
 have b1:1≤Tryz.prog.bytesOf 47:=by decide +kernel
 have b2:1≤Tryz.prog.bytesOf 29:=by decide +kernel
 have c1:Tryz.prog.bytesOf 47=64:=by decide +kernel
 have c2:Tryz.prog.bytesOf 29=16:=by decide +kernel
 have m1:=Nat.mul_le_mul_left (ms'.map aT).length b1
 have m2:=Nat.mul_le_mul_left (ar'.map vv).length b2
 rw [List.length_map] at m1 m2 hml hal
 simp [IntKind.min,IntKind.max,IntKind.signed,IntKind.bits] at t1 t2 p1 p2 q1 q2
 exact ⟨⟨by dsimp only;omega,by dsimp only;omega,fun m hm=>(hmo m hm).1⟩,fun m hm=>(hmo m hm).2,⟨by dsimp only;omega,by dsimp only;omega⟩,⟨by dsimp only;omega,by dsimp only;omega⟩,⟨by dsimp only;omega,by dsimp only;omega⟩,hao,by dsimp only;rw [c1] at hml;omega,by dsimp only;rw [c2] at hal;omega⟩
theorem Hq {d:Nat} {x:AV} (h:tyV Tryz.prog (d+5) 26 x):∃ e:SEntry,x=.agg (aJ e)∧EAny e:=by
 rw [uv qe rfl] at h
 obtain ⟨cs,rfl,h⟩:=h
 obtain ⟨e,rfl,he⟩:=C9 h
 exact ⟨e,rfl,he⟩
end Go.AL
