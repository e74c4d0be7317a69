/- Lemmas of the proof; no condition. -/
import Derived.Test.YthhmookokgiemaaGreatW03p
import Derived.Test.YthhmookokgiemaaGreatAlTop
import Derived.Test.YthhmookokgiemaaGreatS12aG
set_option linter.all false
set_option maxRecDepth 10000
open Go Go.AL Go.Proofs
namespace Go.AL
theorem cf:ti Tryz.prog 3=some ⟨.int .i64,1,8,.int .i64 0⟩:=by kernel_rfl
theorem iR:ti Tryz.prog 9=some ⟨.string,1,16,.str []⟩:=by kernel_rfl
theorem jC:ti Tryz.prog 4=some ⟨.bool,1,1,.bool false⟩:=by kernel_rfl
theorem tH:ti Tryz.prog 5=some ⟨.int .u8,1,1,.int .u8 0⟩:=by kernel_rfl
theorem z6:ti Tryz.prog 117=some ⟨.int .u64,1,8,.int .u64 0⟩:=by kernel_rfl
theorem oR:ti Tryz.prog 22=some ⟨.slice 5,1,24,.slice .nil 1 []⟩:=by kernel_rfl
theorem pI:ti Tryz.prog 119=some ⟨.struct [(0,117,false),(1,117,false)],2,16,.agg [.int .u64 0,.int .u64 0]⟩:=by kernel_rfl
theorem wI:ti Tryz.prog 55=some ⟨.slice 119,1,24,.slice .nil 1 []⟩:=by kernel_rfl
theorem vH:ti Tryz.prog 23=some ⟨.slice 3,1,24,.slice .nil 1 []⟩:=by kernel_rfl
theorem sU:ti Tryz.prog 130=some ⟨.slice 4,1,24,.slice .nil 1 []⟩:=by kernel_rfl
theorem py:ti Tryz.prog 45=some ⟨.struct [(0,3,false),(1,9,false),(2,3,false)],3,32,.agg [.int .i64 0,.str [],.int .i64 0]⟩:=by kernel_rfl
theorem xj:ti Tryz.prog 25=some ⟨.slice 45,1,24,.slice .nil 1 []⟩:=by kernel_rfl
theorem pJ:ti Tryz.prog 70=some ⟨.struct [(0,3,false),(1,9,false),(2,23,false)],3,48,.agg [.int .i64 0,.str [],.slice .nil 1 []]⟩:=by kernel_rfl
theorem wq:ti Tryz.prog 26=some ⟨.slice 70,1,24,.slice .nil 1 []⟩:=by kernel_rfl
theorem pn:ti Tryz.prog 121=some ⟨.struct [(0,119,false),(2,119,false),(4,3,false)],5,40,.agg [.int .u64 0,.int .u64 0,.int .u64 0,.int .u64 0,.int .i64 0]⟩:=by kernel_rfl
theorem wS:ti Tryz.prog 80=some ⟨.slice 121,1,24,.slice .nil 1 []⟩:=by kernel_rfl
theorem px:ti Tryz.prog 82=some ⟨.struct [(0,3,false),(1,3,false),(2,3,false),(3,80,false),(4,3,false)],5,56,.agg [.int .i64 0,.int .i64 0,.int .i64 0,.slice .nil 1 [],.int .i64 0]⟩:=by kernel_rfl
theorem v5:ti Tryz.prog 27=some ⟨.slice 82,1,24,.slice .nil 1 []⟩:=by kernel_rfl
theorem AF:ti Tryz.prog 123=some ⟨.struct [(0,3,false),(1,3,false),(2,119,false)],4,32,.agg [.int .i64 0,.int .i64 0,.int .u64 0,.int .u64 0]⟩:=by kernel_rfl
theorem pG:ti Tryz.prog 125=some ⟨.struct [(0,3,false),(1,3,false),(2,123,false)],6,48,.agg [.int .i64 0,.int .i64 0,.int .i64 0,.int .i64 0,.int .u64 0,.int .u64 0]⟩:=by kernel_rfl
theorem xf:ti Tryz.prog 85=some ⟨.slice 125,1,24,.slice .nil 1 []⟩:=by kernel_rfl
theorem pQ:ti Tryz.prog 127=some ⟨.struct [(0,9,false),(1,3,false)],2,24,.agg [.str [],.int .i64 0]⟩:=by kernel_rfl
theorem wd:ti Tryz.prog 84=some ⟨.slice 127,1,24,.slice .nil 1 []⟩:=by kernel_rfl
theorem pK:ti Tryz.prog 87=some ⟨.struct [(0,3,false),(1,9,false),(2,84,false),(3,85,false),(4,9,false)],5,88,.agg [.int .i64 0,.str [],.slice .nil 1 [],.slice .nil 1 [],.str []]⟩:=by kernel_rfl
theorem v9:ti Tryz.prog 28=some ⟨.slice 87,1,24,.slice .nil 1 []⟩:=by kernel_rfl
theorem pR:ti Tryz.prog 53=some ⟨.struct [(0,9,false),(1,3,false),(2,3,false)],3,32,.agg [.str [],.int .i64 0,.int .i64 0]⟩:=by kernel_rfl
theorem wa:ti Tryz.prog 54=some ⟨.slice 53,1,24,.slice .nil 1 []⟩:=by kernel_rfl
theorem pN:ti Tryz.prog 57=some ⟨.struct [(0,3,false),(1,9,false),(2,54,false),(3,23,false),(4,3,false),(5,55,false),(6,3,false),(7,9,false)],8,128,.agg [.int .i64 0,.str [],.slice .nil 1 [],.slice .nil 1 [],.int .i64 0,.slice .nil 1 [],.int .i64 0,.str []]⟩:=by kernel_rfl
theorem wg:ti Tryz.prog 29=some ⟨.slice 57,1,24,.slice .nil 1 []⟩:=by kernel_rfl
theorem pB:ti Tryz.prog 76=some ⟨.struct [(0,3,false),(1,3,false)],2,16,.agg [.int .i64 0,.int .i64 0]⟩:=by kernel_rfl
theorem wO:ti Tryz.prog 30=some ⟨.slice 76,1,24,.slice .nil 1 []⟩:=by kernel_rfl
theorem pO:ti Tryz.prog 132=some ⟨.struct [(0,3,false),(1,4,false),(2,4,false),(3,130,false)],4,40,.agg [.int .i64 0,.bool false,.bool false,.slice .nil 1 []]⟩:=by kernel_rfl
theorem ww:ti Tryz.prog 46=some ⟨.slice 132,1,24,.slice .nil 1 []⟩:=by kernel_rfl
theorem pF:ti Tryz.prog 48=some ⟨.struct [(0,3,false),(1,9,false),(2,46,false),(3,23,false),(4,3,false),(5,4,false)],6,88,.agg [.int .i64 0,.str [],.slice .nil 1 [],.slice .nil 1 [],.int .i64 0,.bool false]⟩:=by kernel_rfl
theorem w9:ti Tryz.prog 31=some ⟨.slice 48,1,24,.slice .nil 1 []⟩:=by kernel_rfl
theorem pu:ti Tryz.prog 50=some ⟨.struct [(0,3,false),(1,3,false),(2,3,false),(3,3,false),(4,3,false),(5,3,false)],6,48,.agg [.int .i64 0,.int .i64 0,.int .i64 0,.int .i64 0,.int .i64 0,.int .i64 0]⟩:=by kernel_rfl
theorem xG:ti Tryz.prog 32=some ⟨.slice 50,1,24,.slice .nil 1 []⟩:=by kernel_rfl
theorem tO:ti Tryz.prog 34=some ⟨.struct [(0,25,false),(1,26,false),(2,27,false),(3,28,false),(4,29,false),(5,30,false),(6,31,false),(7,32,false),(8,3,false),(9,3,false)],10,208,.agg [.slice .nil 1 [],.slice .nil 1 [],.slice .nil 1 [],.slice .nil 1 [],.slice .nil 1 [],.slice .nil 1 [],.slice .nil 1 [],.slice .nil 1 [],.int .i64 0,.int .i64 0]⟩:=by kernel_rfl
attribute [go_sem] cf iR jC tH z6 oR pI wI vH sU py xj pJ wq pn wS px v5 AF pG xf pQ wd pK v9 pR wa pN wg pB wO pO ww pF w9 pu xG tO
theorem JN {d:Nat} {x:AV} (h:tyV Tryz.prog (d+1) 3 x):∃ n,x=.int .i64 n ∧ -9223372036854775808≤n∧n<9223372036854775808:=by
 rw [uR cf rfl,cX cf] at h
 obtain ⟨_,n,e,n1,n2⟩:=h
 cases e
 exact ⟨n,rfl,by simp [IntKind.min,IntKind.signed,IntKind.bits] at n1;omega,by simp [IntKind.max,IntKind.signed,IntKind.bits] at n2;omega⟩
theorem Ic {d:Nat} {x:AV} (h:tyV Tryz.prog (d+3) 22 x):∃ s,x=.slice .any 1 s∧isB s:=by
 rw [uR oR rfl,d9 oR] at h
 obtain ⟨_,xs,e,_,hx⟩:=h
 cases e
 refine ⟨xs,by rw [dZ tH],KP fun x hm=>?_⟩
 have:=hx x hm
 rw [uR tH rfl,cX tH] at this
 obtain ⟨_,m,e,m1,m2⟩:=this
 cases e
 exact ⟨m,rfl,by simpa [IntKind.min,IntKind.signed] using m1,by simp [IntKind.max,IntKind.signed,IntKind.bits] at m2;omega⟩
theorem tF {d:Nat} {cs:List AV} (h:tyC Tryz.prog (d+2) 119 cs):∃ x:Nat,x<2^128∧cs=vc x:=by
 rw [dy pI] at h
 obtain ⟨b1,q1,rfl,_,g1,b2,q2,rfl,_,g2,rfl⟩:=h
 rw [cX z6] at g1 g2
 obtain ⟨hi,rfl,i1,i2⟩:=g1
 obtain ⟨lo,rfl,i3,i4⟩:=g2
 have hv:isV hi lo:=by
  unfold isV
  simp [IntKind.min,IntKind.max,IntKind.signed,IntKind.bits] at i1 i2 i3 i4
  omega
 obtain ⟨h1,h2,h3,h4⟩:0≤hi∧hi<18446744073709551616∧0≤lo∧lo<18446744073709551616:=by unfold isV at hv;omega
 refine ⟨hi.toNat*2^64+lo.toNat,by omega,?_⟩
 unfold vc
 rw [show ((((hi.toNat*2^64+lo.toNat)/2^64:Nat):Nat):Int)=hi by omega,show ((((hi.toNat*2^64+lo.toNat) % 2^64:Nat):Nat):Int)=lo by omega]
 rfl
theorem di {α:Type} {f:α→AV} {q:α→Prop}:∀ (l:List AV),(∀ x∈l,∃ a,x=f a∧q a)→∃ l':List α,l=l'.map f∧∀ a∈l',q a
 |[],_=>⟨[],rfl,by simp⟩
 |x::l,h=>by
  obtain ⟨a,ha,qa⟩:=h x List.mem_cons_self
  obtain ⟨l',hl,ql⟩:=di l fun y hy=>h y (List.mem_cons_of_mem _ hy)
  exact ⟨a::l',by rw [ha,hl];rfl,fun b hb=>(List.mem_cons.1 hb).elim (fun e=>e ▸ qa) (ql b)⟩
theorem xZ {d:Nat} {cs:List AV} (h:tyC Tryz.prog (d+2) 23 cs):∃ l:List Int,cs=[.slice .any 1 (inL l)]:=by
 rw [d9 vH] at h
 obtain ⟨xs,rfl,_,hx⟩:=h
 obtain ⟨l,rfl,_⟩:=di (f:=.int .i64) (q:=fun _=>True) xs fun x hm=>by obtain ⟨n,e,_⟩:=JN (d:=d) (hx x hm);exact ⟨n,e,trivial⟩
 exact ⟨l,by rw [dZ cf];rfl⟩
theorem Jh {d:Nat} {cs:List AV} (h:tyC Tryz.prog (d+2) 130 cs):∃ l:List Bool,cs=[.slice .any 1 (boL l)]:=by
 rw [d9 sU] at h
 obtain ⟨xs,rfl,_,hx⟩:=h
 obtain ⟨l,rfl,_⟩:=di (f:=.bool) (q:=fun _=>True) xs fun x hm=>by
  have:=hx x hm
  rw [uR jC rfl,pM jC] at this
  obtain ⟨_,b,e⟩:=this
  cases e
  exact ⟨b,rfl,trivial⟩
 exact ⟨l,by rw [dZ jC];rfl⟩
theorem LB {d:Nat} {cs:List AV} (h:tyC Tryz.prog (d+2) 45 cs):∃ x:SField,cs=(aI x).cells∧(fun _=>True) x:=by
 rw [dy py] at h
 obtain ⟨a0,r0,rfl,_,h0,a1,r1,rfl,_,h1,a2,r2,rfl,_,h2,rfl⟩:=h
 rw [cX cf] at h0
 obtain ⟨x0,rfl,_⟩:=h0
 rw [gk iR] at h1
 obtain ⟨x1,rfl,_⟩:=h1
 rw [cX cf] at h2
 obtain ⟨x2,rfl,_⟩:=h2
 exact ⟨⟨x0,x1,x2⟩,rfl,trivial⟩
theorem Ks {d:Nat} {cs:List AV} (h:tyC Tryz.prog (d+3) 25 cs):∃ l:List SField,cs=[.slice .any 3 (l.map aI)]∧l.length*Tryz.prog.bytesOf 45≤140737488351232∧∀ a∈l,(fun _=>True) a:=by
 rw [d9 xj] at h
 obtain ⟨xs,rfl,hl,hx⟩:=h
 obtain ⟨l,rfl,hq⟩:=di (f:=aI) (q:=(fun _=>True)) xs fun x hm=>by
  have h':tyV Tryz.prog (d+2) 45 x:=hx x hm
  rw [gU py rfl] at h'
  obtain ⟨cs,rfl,h'⟩:=h'
  obtain ⟨a,e,ha⟩:=LB h'
  exact ⟨a,congrArg AV.agg e,ha⟩
 rw [List.length_map] at hl
 exact ⟨l,by rw [dZ py],hl,hq⟩
theorem Lr {d:Nat} {cs:List AV} (h:tyC Tryz.prog (d+3) 70 cs):∃ x:SHeader,cs=(az x).cells∧(fun _=>True) x:=by
 rw [dy pJ] at h
 obtain ⟨a0,r0,rfl,_,h0,a1,r1,rfl,_,h1,a2,r2,rfl,_,h2,rfl⟩:=h
 rw [cX cf] at h0
 obtain ⟨x0,rfl,_⟩:=h0
 rw [gk iR] at h1
 obtain ⟨x1,rfl,_⟩:=h1
 obtain ⟨x2,rfl⟩:=xZ h2
 exact ⟨⟨x0,x1,x2⟩,rfl,trivial⟩
theorem K0 {d:Nat} {cs:List AV} (h:tyC Tryz.prog (d+4) 26 cs):∃ l:List SHeader,cs=[.slice .any 3 (l.map az)]∧l.length*Tryz.prog.bytesOf 70≤140737488351232∧∀ a∈l,(fun _=>True) a:=by
 rw [d9 wq] at h
 obtain ⟨xs,rfl,hl,hx⟩:=h
 obtain ⟨l,rfl,hq⟩:=di (f:=az) (q:=(fun _=>True)) xs fun x hm=>by
  have h':tyV Tryz.prog (d+3) 70 x:=hx x hm
  rw [gU pJ rfl] at h'
  obtain ⟨cs,rfl,h'⟩:=h'
  obtain ⟨a,e,ha⟩:=Lr h'
  exact ⟨a,congrArg AV.agg e,ha⟩
 rw [List.length_map] at hl
 exact ⟨l,by rw [dZ pJ],hl,hq⟩
theorem Lm {d:Nat} {cs:List AV} (h:tyC Tryz.prog (d+3) 121 cs):∃ x:SCase,cs=(bH x).cells∧lO x:=by
 rw [dy pn] at h
 obtain ⟨a0,r0,rfl,_,h0,a1,r1,rfl,_,h1,a2,r2,rfl,_,h2,rfl⟩:=h
 obtain ⟨x0,q0,rfl⟩:=tF h0
 obtain ⟨x1,q1,rfl⟩:=tF h1
 rw [cX cf] at h2
 obtain ⟨x2,rfl,_⟩:=h2
 exact ⟨⟨x0,x1,x2⟩,rfl,⟨q0,q1⟩⟩
theorem J8 {d:Nat} {cs:List AV} (h:tyC Tryz.prog (d+4) 80 cs):∃ l:List SCase,cs=[.slice .any 5 (l.map bH)]∧l.length*Tryz.prog.bytesOf 121≤140737488351232∧∀ a∈l,lO a:=by
 rw [d9 wS] at h
 obtain ⟨xs,rfl,hl,hx⟩:=h
 obtain ⟨l,rfl,hq⟩:=di (f:=bH) (q:=lO) xs fun x hm=>by
  have h':tyV Tryz.prog (d+3) 121 x:=hx x hm
  rw [gU pn rfl] at h'
  obtain ⟨cs,rfl,h'⟩:=h'
  obtain ⟨a,e,ha⟩:=Lm h'
  exact ⟨a,congrArg AV.agg e,ha⟩
 rw [List.length_map] at hl
 exact ⟨l,by rw [dZ pn],hl,hq⟩
theorem Lk {d:Nat} {cs:List AV} (h:tyC Tryz.prog (d+5) 82 cs):∃ x:SState,cs=(aH x).cells∧mt x:=by
 rw [dy px] at h
 obtain ⟨a0,r0,rfl,_,h0,a1,r1,rfl,_,h1,a2,r2,rfl,_,h2,a3,r3,rfl,_,h3,a4,r4,rfl,_,h4,rfl⟩:=h
 rw [cX cf] at h0
 obtain ⟨x0,rfl,_⟩:=h0
 rw [cX cf] at h1
 obtain ⟨x1,rfl,_⟩:=h1
 rw [cX cf] at h2
 obtain ⟨x2,rfl,_⟩:=h2
 obtain ⟨x3,rfl,l3,q3⟩:=J8 h3
 rw [cX cf] at h4
 obtain ⟨x4,rfl,_⟩:=h4
 exact ⟨⟨x0,x1,x2,x3,x4⟩,rfl,q3⟩
theorem Kq {d:Nat} {cs:List AV} (h:tyC Tryz.prog (d+6) 27 cs):∃ l:List SState,cs=[.slice .any 5 (l.map aH)]∧l.length*Tryz.prog.bytesOf 82≤140737488351232∧∀ a∈l,mt a:=by
 rw [d9 v5] at h
 obtain ⟨xs,rfl,hl,hx⟩:=h
 obtain ⟨l,rfl,hq⟩:=di (f:=aH) (q:=mt) xs fun x hm=>by
  have h':tyV Tryz.prog (d+5) 82 x:=hx x hm
  rw [gU px rfl] at h'
  obtain ⟨cs,rfl,h'⟩:=h'
  obtain ⟨a,e,ha⟩:=Lk h'
  exact ⟨a,congrArg AV.agg e,ha⟩
 rw [List.length_map] at hl
 exact ⟨l,by rw [dZ px],hl,hq⟩
theorem LT {d:Nat} {cs:List AV} (h:tyC Tryz.prog (d+3) 123 cs):∃ (x y:Int) (v:Nat),cs=[.int .i64 x,.int .i64 y]++vc v∧km v:=by
 rw [dy AF] at h
 obtain ⟨a0,r0,rfl,_,h0,a1,r1,rfl,_,h1,a2,r2,rfl,_,h2,rfl⟩:=h
 rw [cX cf] at h0 h1
 obtain ⟨x0,rfl,_⟩:=h0
 obtain ⟨x1,rfl,_⟩:=h1
 obtain ⟨v,hv,rfl⟩:=tF h2
 exact ⟨x0,x1,v,rfl,hv⟩
theorem LK {d:Nat} {cs:List AV} (h:tyC Tryz.prog (d+4) 125 cs):∃ x:SPrim,cs=(bv x).cells∧mS x:=by
 rw [dy pG] at h
 obtain ⟨a0,r0,rfl,_,h0,a1,r1,rfl,_,h1,a2,r2,rfl,_,h2,rfl⟩:=h
 rw [cX cf] at h0
 obtain ⟨x0,rfl,_⟩:=h0
 rw [cX cf] at h1
 obtain ⟨x1,rfl,_⟩:=h1
 obtain ⟨x2,y2,z2,rfl,q2⟩:=LT h2
 exact ⟨⟨x0,x1,x2,y2,z2⟩,rfl,q2⟩
theorem J4 {d:Nat} {cs:List AV} (h:tyC Tryz.prog (d+5) 85 cs):∃ l:List SPrim,cs=[.slice .any 6 (l.map bv)]∧l.length*Tryz.prog.bytesOf 125≤140737488351232∧∀ a∈l,mS a:=by
 rw [d9 xf] at h
 obtain ⟨xs,rfl,hl,hx⟩:=h
 obtain ⟨l,rfl,hq⟩:=di (f:=bv) (q:=mS) xs fun x hm=>by
  have h':tyV Tryz.prog (d+4) 125 x:=hx x hm
  rw [gU pG rfl] at h'
  obtain ⟨cs,rfl,h'⟩:=h'
  obtain ⟨a,e,ha⟩:=LK h'
  exact ⟨a,congrArg AV.agg e,ha⟩
 rw [List.length_map] at hl
 exact ⟨l,by rw [dZ pG],hl,hq⟩
theorem Lq {d:Nat} {cs:List AV} (h:tyC Tryz.prog (d+2) 127 cs):∃ x:SParam,cs=(bb x).cells∧(fun _=>True) x:=by
 rw [dy pQ] at h
 obtain ⟨a0,r0,rfl,_,h0,a1,r1,rfl,_,h1,rfl⟩:=h
 rw [gk iR] at h0
 obtain ⟨x0,rfl,_⟩:=h0
 rw [cX cf] at h1
 obtain ⟨x1,rfl,_⟩:=h1
 exact ⟨⟨x0,x1⟩,rfl,trivial⟩
theorem Kj {d:Nat} {cs:List AV} (h:tyC Tryz.prog (d+3) 84 cs):∃ l:List SParam,cs=[.slice .any 2 (l.map bb)]∧l.length*Tryz.prog.bytesOf 127≤140737488351232∧∀ a∈l,(fun _=>True) a:=by
 rw [d9 wd] at h
 obtain ⟨xs,rfl,hl,hx⟩:=h
 obtain ⟨l,rfl,hq⟩:=di (f:=bb) (q:=(fun _=>True)) xs fun x hm=>by
  have h':tyV Tryz.prog (d+2) 127 x:=hx x hm
  rw [gU pQ rfl] at h'
  obtain ⟨cs,rfl,h'⟩:=h'
  obtain ⟨a,e,ha⟩:=Lq h'
  exact ⟨a,congrArg AV.agg e,ha⟩
 rw [List.length_map] at hl
 exact ⟨l,by rw [dZ pQ],hl,hq⟩
def KF (x:SAction):Prop:=∀ p∈x.body,mS p
def Km (x:STable):Prop:=∀ v∈x.dargs,km v
theorem LM {d:Nat} {cs:List AV} (h:tyC Tryz.prog (d+6) 87 cs):∃ x:SAction,cs=(ap x).cells∧KF x:=by
 rw [dy pK] at h
 obtain ⟨a0,r0,rfl,_,h0,a1,r1,rfl,_,h1,a2,r2,rfl,_,h2,a3,r3,rfl,_,h3,a4,r4,rfl,_,h4,rfl⟩:=h
 rw [cX cf] at h0
 obtain ⟨x0,rfl,_⟩:=h0
 rw [gk iR] at h1
 obtain ⟨x1,rfl,_⟩:=h1
 obtain ⟨x2,rfl,l2,q2⟩:=Kj h2
 obtain ⟨x3,rfl,l3,q3⟩:=J4 h3
 rw [gk iR] at h4
 obtain ⟨x4,rfl,_⟩:=h4
 exact ⟨⟨x0,x1,x2,x3,x4⟩,rfl,q3⟩
theorem KN {d:Nat} {cs:List AV} (h:tyC Tryz.prog (d+7) 28 cs):∃ l:List SAction,cs=[.slice .any 5 (l.map ap)]∧l.length*Tryz.prog.bytesOf 87≤140737488351232∧∀ a∈l,KF a:=by
 rw [d9 v9] at h
 obtain ⟨xs,rfl,hl,hx⟩:=h
 obtain ⟨l,rfl,hq⟩:=di (f:=ap) (q:=KF) xs fun x hm=>by
  have h':tyV Tryz.prog (d+6) 87 x:=hx x hm
  rw [gU pK rfl] at h'
  obtain ⟨cs,rfl,h'⟩:=h'
  obtain ⟨a,e,ha⟩:=LM h'
  exact ⟨a,congrArg AV.agg e,ha⟩
 rw [List.length_map] at hl
 exact ⟨l,by rw [dZ pK],hl,hq⟩
theorem LZ {d:Nat} {cs:List AV} (h:tyC Tryz.prog (d+2) 53 cs):∃ x:SKey,cs=(br x).cells∧(fun _=>True) x:=by
 rw [dy pR] at h
 obtain ⟨a0,r0,rfl,_,h0,a1,r1,rfl,_,h1,a2,r2,rfl,_,h2,rfl⟩:=h
 rw [gk iR] at h0
 obtain ⟨x0,rfl,_⟩:=h0
 rw [cX cf] at h1
 obtain ⟨x1,rfl,_⟩:=h1
 rw [cX cf] at h2
 obtain ⟨x2,rfl,_⟩:=h2
 exact ⟨⟨x0,x1,x2⟩,rfl,trivial⟩
theorem Kf {d:Nat} {cs:List AV} (h:tyC Tryz.prog (d+3) 54 cs):∃ l:List SKey,cs=[.slice .any 3 (l.map br)]∧l.length*Tryz.prog.bytesOf 53≤140737488351232∧∀ a∈l,(fun _=>True) a:=by
 rw [d9 wa] at h
 obtain ⟨xs,rfl,hl,hx⟩:=h
 obtain ⟨l,rfl,hq⟩:=di (f:=br) (q:=(fun _=>True)) xs fun x hm=>by
  have h':tyV Tryz.prog (d+2) 53 x:=hx x hm
  rw [gU pR rfl] at h'
  obtain ⟨cs,rfl,h'⟩:=h'
  obtain ⟨a,e,ha⟩:=LZ h'
  exact ⟨a,congrArg AV.agg e,ha⟩
 rw [List.length_map] at hl
 exact ⟨l,by rw [dZ pR],hl,hq⟩
theorem Kg {d:Nat} {cs:List AV} (h:tyC Tryz.prog (d+3) 55 cs):∃ l:List Nat,cs=[.slice .any 2 (l.map vv)]∧∀ a∈l,km a:=by
 rw [d9 wI] at h
 obtain ⟨xs,rfl,hl,hx⟩:=h
 obtain ⟨l,rfl,hq⟩:=di (f:=vv) (q:=km) xs fun x hm=>by
  have h':tyV Tryz.prog (d+2) 119 x:=hx x hm
  rw [gU pI rfl] at h'
  obtain ⟨cs,rfl,h'⟩:=h'
  obtain ⟨a,ha,e⟩:=tF h'
  exact ⟨a,congrArg AV.agg e,ha⟩
 exact ⟨l,by rw [dZ pI],hq⟩
theorem LS {d:Nat} {cs:List AV} (h:tyC Tryz.prog (d+5) 57 cs):∃ x:STable,cs=(aq x).cells∧Km x:=by
 rw [dy pN] at h
 obtain ⟨a0,r0,rfl,_,h0,a1,r1,rfl,_,h1,a2,r2,rfl,_,h2,a3,r3,rfl,_,h3,a4,r4,rfl,_,h4,a5,r5,rfl,_,h5,a6,r6,rfl,_,h6,a7,r7,rfl,_,h7,rfl⟩:=h
 rw [cX cf] at h0
 obtain ⟨x0,rfl,_⟩:=h0
 rw [gk iR] at h1
 obtain ⟨x1,rfl,_⟩:=h1
 obtain ⟨x2,rfl,l2,q2⟩:=Kf h2
 obtain ⟨x3,rfl⟩:=xZ h3
 rw [cX cf] at h4
 obtain ⟨x4,rfl,_⟩:=h4
 obtain ⟨x5,rfl,q5⟩:=Kg h5
 rw [cX cf] at h6
 obtain ⟨x6,rfl,_⟩:=h6
 rw [gk iR] at h7
 obtain ⟨x7,rfl,_⟩:=h7
 exact ⟨⟨x0,x1,x2,x3,x4,x5,x6,x7⟩,rfl,q5⟩
theorem KH {d:Nat} {cs:List AV} (h:tyC Tryz.prog (d+6) 29 cs):∃ l:List STable,cs=[.slice .any 8 (l.map aq)]∧l.length*Tryz.prog.bytesOf 57≤140737488351232∧∀ a∈l,Km a:=by
 rw [d9 wg] at h
 obtain ⟨xs,rfl,hl,hx⟩:=h
 obtain ⟨l,rfl,hq⟩:=di (f:=aq) (q:=Km) xs fun x hm=>by
  have h':tyV Tryz.prog (d+5) 57 x:=hx x hm
  rw [gU pN rfl] at h'
  obtain ⟨cs,rfl,h'⟩:=h'
  obtain ⟨a,e,ha⟩:=LS h'
  exact ⟨a,congrArg AV.agg e,ha⟩
 rw [List.length_map] at hl
 exact ⟨l,by rw [dZ pN],hl,hq⟩
theorem LO {d:Nat} {cs:List AV} (h:tyC Tryz.prog (d+2) 76 cs):∃ x:SStage,cs=(bB x).cells∧(fun _=>True) x:=by
 rw [dy pB] at h
 obtain ⟨a0,r0,rfl,_,h0,a1,r1,rfl,_,h1,rfl⟩:=h
 rw [cX cf] at h0
 obtain ⟨x0,rfl,_⟩:=h0
 rw [cX cf] at h1
 obtain ⟨x1,rfl,_⟩:=h1
 exact ⟨⟨x0,x1⟩,rfl,trivial⟩
theorem Kn {d:Nat} {cs:List AV} (h:tyC Tryz.prog (d+3) 30 cs):∃ l:List SStage,cs=[.slice .any 2 (l.map bB)]∧l.length*Tryz.prog.bytesOf 76≤140737488351232∧∀ a∈l,(fun _=>True) a:=by
 rw [d9 wO] at h
 obtain ⟨xs,rfl,hl,hx⟩:=h
 obtain ⟨l,rfl,hq⟩:=di (f:=bB) (q:=(fun _=>True)) xs fun x hm=>by
  have h':tyV Tryz.prog (d+2) 76 x:=hx x hm
  rw [gU pB rfl] at h'
  obtain ⟨cs,rfl,h'⟩:=h'
  obtain ⟨a,e,ha⟩:=LO h'
  exact ⟨a,congrArg AV.agg e,ha⟩
 rw [List.length_map] at hl
 exact ⟨l,by rw [dZ pB],hl,hq⟩
theorem LX {d:Nat} {cs:List AV} (h:tyC Tryz.prog (d+3) 132 cs):∃ x:SGrant,cs=(aR x).cells∧(fun _=>True) x:=by
 rw [dy pO] at h
 obtain ⟨a0,r0,rfl,_,h0,a1,r1,rfl,_,h1,a2,r2,rfl,_,h2,a3,r3,rfl,_,h3,rfl⟩:=h
 rw [cX cf] at h0
 obtain ⟨x0,rfl,_⟩:=h0
 rw [pM jC] at h1
 obtain ⟨x1,rfl⟩:=h1
 rw [pM jC] at h2
 obtain ⟨x2,rfl⟩:=h2
 obtain ⟨x3,rfl⟩:=Jh h3
 exact ⟨⟨x0,x1,x2,x3⟩,rfl,trivial⟩
theorem KU {d:Nat} {cs:List AV} (h:tyC Tryz.prog (d+4) 46 cs):∃ l:List SGrant,cs=[.slice .any 4 (l.map aR)]∧l.length*Tryz.prog.bytesOf 132≤140737488351232∧∀ a∈l,(fun _=>True) a:=by
 rw [d9 ww] at h
 obtain ⟨xs,rfl,hl,hx⟩:=h
 obtain ⟨l,rfl,hq⟩:=di (f:=aR) (q:=(fun _=>True)) xs fun x hm=>by
  have h':tyV Tryz.prog (d+3) 132 x:=hx x hm
  rw [gU pO rfl] at h'
  obtain ⟨cs,rfl,h'⟩:=h'
  obtain ⟨a,e,ha⟩:=LX h'
  exact ⟨a,congrArg AV.agg e,ha⟩
 rw [List.length_map] at hl
 exact ⟨l,by rw [dZ pO],hl,hq⟩
theorem Lx {d:Nat} {cs:List AV} (h:tyC Tryz.prog (d+5) 48 cs):∃ x:SRole,cs=(aN x).cells∧(fun _=>True) x:=by
 rw [dy pF] at h
 obtain ⟨a0,r0,rfl,_,h0,a1,r1,rfl,_,h1,a2,r2,rfl,_,h2,a3,r3,rfl,_,h3,a4,r4,rfl,_,h4,a5,r5,rfl,_,h5,rfl⟩:=h
 rw [cX cf] at h0
 obtain ⟨x0,rfl,_⟩:=h0
 rw [gk iR] at h1
 obtain ⟨x1,rfl,_⟩:=h1
 obtain ⟨x2,rfl,l2,q2⟩:=KU h2
 obtain ⟨x3,rfl⟩:=xZ h3
 rw [cX cf] at h4
 obtain ⟨x4,rfl,_⟩:=h4
 rw [pM jC] at h5
 obtain ⟨x5,rfl⟩:=h5
 exact ⟨⟨x0,x1,x2,x3,x4,x5⟩,rfl,trivial⟩
theorem KC {d:Nat} {cs:List AV} (h:tyC Tryz.prog (d+6) 31 cs):∃ l:List SRole,cs=[.slice .any 6 (l.map aN)]∧l.length*Tryz.prog.bytesOf 48≤140737488351232∧∀ a∈l,(fun _=>True) a:=by
 rw [d9 w9] at h
 obtain ⟨xs,rfl,hl,hx⟩:=h
 obtain ⟨l,rfl,hq⟩:=di (f:=aN) (q:=(fun _=>True)) xs fun x hm=>by
  have h':tyV Tryz.prog (d+5) 48 x:=hx x hm
  rw [gU pF rfl] at h'
  obtain ⟨cs,rfl,h'⟩:=h'
  obtain ⟨a,e,ha⟩:=Lx h'
  exact ⟨a,congrArg AV.agg e,ha⟩
 rw [List.length_map] at hl
 exact ⟨l,by rw [dZ pF],hl,hq⟩
theorem Ll {d:Nat} {cs:List AV} (h:tyC Tryz.prog (d+2) 50 cs):∃ x:SRef,cs=(bL x).cells∧(fun _=>True) x:=by
 rw [dy pu] at h
 obtain ⟨a0,r0,rfl,_,h0,a1,r1,rfl,_,h1,a2,r2,rfl,_,h2,a3,r3,rfl,_,h3,a4,r4,rfl,_,h4,a5,r5,rfl,_,h5,rfl⟩:=h
 rw [cX cf] at h0
 obtain ⟨x0,rfl,_⟩:=h0
 rw [cX cf] at h1
 obtain ⟨x1,rfl,_⟩:=h1
 rw [cX cf] at h2
 obtain ⟨x2,rfl,_⟩:=h2
 rw [cX cf] at h3
 obtain ⟨x3,rfl,_⟩:=h3
 rw [cX cf] at h4
 obtain ⟨x4,rfl,_⟩:=h4
 rw [cX cf] at h5
 obtain ⟨x5,rfl,_⟩:=h5
 exact ⟨⟨x0,x1,x2,x3,x4,x5⟩,rfl,trivial⟩
theorem KZ {d:Nat} {cs:List AV} (h:tyC Tryz.prog (d+3) 32 cs):∃ l:List SRef,cs=[.slice .any 6 (l.map bL)]∧l.length*Tryz.prog.bytesOf 50≤140737488351232∧∀ a∈l,(fun _=>True) a:=by
 rw [d9 xG] at h
 obtain ⟨xs,rfl,hl,hx⟩:=h
 obtain ⟨l,rfl,hq⟩:=di (f:=bL) (q:=(fun _=>True)) xs fun x hm=>by
  have h':tyV Tryz.prog (d+2) 50 x:=hx x hm
  rw [gU pu rfl] at h'
  obtain ⟨cs,rfl,h'⟩:=h'
  obtain ⟨a,e,ha⟩:=Ll h'
  exact ⟨a,congrArg AV.agg e,ha⟩
 rw [List.length_map] at hl
 exact ⟨l,by rw [dZ pu],hl,hq⟩
theorem hO {n b:Nat} (h:n*b≤140737488351232) (hb:16≤b):n≤10000000000000:=by
 have h1:n*16≤n*b:=Nat.mul_le_mul_left n hb
 omega
theorem Kz {d:Nat} {x:AV} (h:tyV Tryz.prog (d+8) 34 x):∃ s:Sch,x=.agg (aG s)∧SLenG s:=by
 rw [gU tO rfl] at h
 obtain ⟨cs,rfl,h⟩:=h
 rw [dy tO] at h
 obtain ⟨a0,r0,rfl,_,h0,a1,r1,rfl,_,h1,a2,r2,rfl,_,h2,a3,r3,rfl,_,h3,a4,r4,rfl,_,h4,a5,r5,rfl,_,h5,a6,r6,rfl,_,h6,a7,r7,rfl,_,h7,a8,r8,rfl,_,h8,a9,r9,rfl,_,h9,rfl⟩:=h
 obtain ⟨x0,rfl,l0,_⟩:=Ks h0
 obtain ⟨x1,rfl,l1,_⟩:=K0 h1
 obtain ⟨x2,rfl,l2,_⟩:=Kq h2
 obtain ⟨x3,rfl,l3,_⟩:=KN h3
 obtain ⟨x4,rfl,l4,_⟩:=KH h4
 obtain ⟨x5,rfl,_,_⟩:=Kn h5
 obtain ⟨x6,rfl,l6,_⟩:=KC h6
 obtain ⟨x7,rfl,_,_⟩:=KZ h7
 rw [cX cf] at h8 h9
 obtain ⟨x8,rfl,_⟩:=h8
 obtain ⟨x9,rfl,_⟩:=h9
 exact ⟨⟨x0,x1,x2,x3,x4,x5,x6,x7,x8,x9⟩,rfl,hO l0 (by decide +kernel),hO l1 (by decide +kernel),hO l2 (by decide +kernel),hO l3 (by decide +kernel),hO l4 (by decide +kernel),hO l6 (by decide +kernel)⟩
end Go.AL
