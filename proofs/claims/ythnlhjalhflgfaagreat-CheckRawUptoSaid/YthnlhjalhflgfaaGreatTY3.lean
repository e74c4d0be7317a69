/- Lemmas of the proof; no condition. -/
import Derived.Test.YthnlhjalhflgfaaGreatW03p
import Derived.Test.YthnlhjalhflgfaaGreatAlTop
set_option linter.all false
set_option maxRecDepth 10000
open Go Go.AL Go.Proofs
namespace Go.AL
theorem dT:ti Tryz.prog 3=some ⟨.int .i64,1,8,.int .i64 0⟩:=krf
theorem lF:ti Tryz.prog 9=some ⟨.string,1,16,.str []⟩:=krf
theorem mm:ti Tryz.prog 4=some ⟨.bool,1,1,.bool false⟩:=krf
theorem P3:ti Tryz.prog 5=some ⟨.int .u8,1,1,.int .u8 0⟩:=krf
theorem Dw:ti Tryz.prog 104=some ⟨.int .u64,1,8,.int .u64 0⟩:=krf
theorem EL:tSl Tryz.prog 22 5:=kSl
theorem tT:ti Tryz.prog 106=some ⟨.struct [(0,104,false),(1,104,false)],2,16,.agg [.int .u64 0,.int .u64 0]⟩:=krf
theorem A2:tSl Tryz.prog 55 106:=kSl
theorem A7:tSl Tryz.prog 23 3:=kSl
theorem xM:tSl Tryz.prog 117 4:=kSl
theorem tN:ti Tryz.prog 45=some ⟨.struct [(0,3,false),(1,9,false),(2,3,false)],3,32,.agg [.int .i64 0,.str [],.int .i64 0]⟩:=krf
theorem zv:tSl Tryz.prog 25 45:=kSl
theorem uf:ti Tryz.prog 69=some ⟨.struct [(0,3,false),(1,9,false),(2,23,false)],3,48,.agg [.int .i64 0,.str [],.slice .nil 1 []]⟩:=krf
theorem zi:tSl Tryz.prog 26 69:=kSl
theorem tR:ti Tryz.prog 108=some ⟨.struct [(0,106,false),(2,106,false),(4,3,false)],5,40,.agg [.int .u64 0,.int .u64 0,.int .u64 0,.int .u64 0,.int .i64 0]⟩:=krf
theorem AE:tSl Tryz.prog 79 108:=kSl
theorem tQ:ti Tryz.prog 81=some ⟨.struct [(0,3,false),(1,3,false),(2,3,false),(3,79,false),(4,3,false)],5,56,.agg [.int .i64 0,.int .i64 0,.int .i64 0,.slice .nil 1 [],.int .i64 0]⟩:=krf
theorem zf:tSl Tryz.prog 27 81:=kSl
theorem C6:ti Tryz.prog 110=some ⟨.struct [(0,3,false),(1,3,false),(2,106,false)],4,32,.agg [.int .i64 0,.int .i64 0,.int .u64 0,.int .u64 0]⟩:=krf
theorem t9:ti Tryz.prog 112=some ⟨.struct [(0,3,false),(1,3,false),(2,110,false)],6,48,.agg [.int .i64 0,.int .i64 0,.int .i64 0,.int .i64 0,.int .u64 0,.int .u64 0]⟩:=krf
theorem zX:tSl Tryz.prog 84 112:=kSl
theorem ud:ti Tryz.prog 114=some ⟨.struct [(0,9,false),(1,3,false)],2,24,.agg [.str [],.int .i64 0]⟩:=krf
theorem zN:tSl Tryz.prog 83 114:=kSl
theorem tW:ti Tryz.prog 86=some ⟨.struct [(0,3,false),(1,9,false),(2,83,false),(3,84,false),(4,9,false)],5,88,.agg [.int .i64 0,.str [],.slice .nil 1 [],.slice .nil 1 [],.str []]⟩:=krf
theorem Ac:tSl Tryz.prog 28 86:=kSl
theorem uc:ti Tryz.prog 53=some ⟨.struct [(0,9,false),(1,3,false),(2,3,false)],3,32,.agg [.str [],.int .i64 0,.int .i64 0]⟩:=krf
theorem AP:tSl Tryz.prog 54 53:=kSl
theorem tX:ti Tryz.prog 57=some ⟨.struct [(0,3,false),(1,9,false),(2,54,false),(3,23,false),(4,3,false),(5,55,false),(6,3,false),(7,9,false)],8,128,.agg [.int .i64 0,.str [],.slice .nil 1 [],.slice .nil 1 [],.int .i64 0,.slice .nil 1 [],.int .i64 0,.str []]⟩:=krf
theorem AK:tSl Tryz.prog 29 57:=kSl
theorem tZ:ti Tryz.prog 75=some ⟨.struct [(0,3,false),(1,3,false)],2,16,.agg [.int .i64 0,.int .i64 0]⟩:=krf
theorem Ab:tSl Tryz.prog 30 75:=kSl
theorem tY:ti Tryz.prog 119=some ⟨.struct [(0,3,false),(1,4,false),(2,4,false),(3,117,false)],4,40,.agg [.int .i64 0,.bool false,.bool false,.slice .nil 1 []]⟩:=krf
theorem Aa:tSl Tryz.prog 46 119:=kSl
theorem ua:ti Tryz.prog 48=some ⟨.struct [(0,3,false),(1,9,false),(2,46,false),(3,23,false),(4,3,false),(5,4,false)],6,88,.agg [.int .i64 0,.str [],.slice .nil 1 [],.slice .nil 1 [],.int .i64 0,.bool false]⟩:=krf
theorem zT:tSl Tryz.prog 31 48:=kSl
theorem ug:ti Tryz.prog 50=some ⟨.struct [(0,3,false),(1,3,false),(2,3,false),(3,3,false),(4,3,false),(5,3,false)],6,48,.agg [.int .i64 0,.int .i64 0,.int .i64 0,.int .i64 0,.int .i64 0,.int .i64 0]⟩:=krf
theorem AQ:tSl Tryz.prog 32 50:=kSl
theorem yA:ti Tryz.prog 34=some ⟨.struct [(0,25,false),(1,26,false),(2,27,false),(3,28,false),(4,29,false),(5,30,false),(6,31,false),(7,32,false),(8,3,false),(9,3,false)],10,208,.agg [.slice .nil 1 [],.slice .nil 1 [],.slice .nil 1 [],.slice .nil 1 [],.slice .nil 1 [],.slice .nil 1 [],.slice .nil 1 [],.slice .nil 1 [],.int .i64 0,.int .i64 0]⟩:=krf
attribute [go_sem] dT lF mm P3 Dw EL tT A2 A7 xM tN zv uf zi tR AE tQ zf C6 t9 zX ud zN tW Ac uc AP tX AK tZ Ab tY Aa ua zT ug AQ yA
theorem Sl {d:Nat} {x:AV} (h:tyV Tryz.prog (d+1) 3 x):∃ n,x=.int .i64 n ∧ -9223372036854775808≤n∧n<9223372036854775808:=by
 rw [Ka dT rfl,fw dT] at h
 obtain ⟨_,n,e,n1,n2⟩:=h
 cases e
 exact ⟨n,rfl,by simp [IntKind.min,IntKind.signed,IntKind.bits] at n1;omega,by simp [IntKind.max,IntKind.signed,IntKind.bits] at n2;omega⟩
theorem xP {d:Nat} {cs:List AV} (h:tyC Tryz.prog (d+2) 106 cs):∃ x:Nat,x<2^128∧cs=vc x:=by
 rw [fS tT] at h
 obtain ⟨b1,q1,rfl,_,g1,b2,q2,rfl,_,g2,rfl⟩:=h
 rw [fw Dw] at g1 g2
 obtain ⟨hi,rfl,i1,i2⟩:=g1
 obtain ⟨lo,rfl,i3,i4⟩:=g2
 have hv:isV hi lo:=by
  unfold isV
  simp [IntKind.min,IntKind.max,IntKind.signed,IntKind.bits] at i1 i2 i3 i4
  omega
 obtain ⟨h1,h2,h3,h4⟩:0≤hi∧hi<18446744073709551616∧0≤lo∧lo<18446744073709551616:=by unfold isV at hv;omega
 refine ⟨hi.toNat*2^64+lo.toNat,by omega,?_⟩
 unfold vc
 rw [show ((((hi.toNat*2^64+lo.toNat)/2^64:Nat):Nat):Int)=hi by omega,show ((((hi.toNat*2^64+lo.toNat) % 2^64:Nat):Nat):Int)=lo by omega]
 rfl
theorem fE {α:Type} {f:α→AV} {q:α→Prop}:∀ (l:List AV),(∀ x∈l,∃ a,x=f a∧q a)→∃ l':List α,l=l'.map f∧∀ a∈l',q a
 |[],_=>⟨[],rfl,by simp⟩
 |x::l,h=>by
  obtain ⟨a,ha,qa⟩:=h x List.mem_cons_self
  obtain ⟨l',hl,ql⟩:=fE l fun y hy=>h y (List.mem_cons_of_mem _ hy)
  exact ⟨a::l',by rw [ha,hl];rfl,fun b hb=>(List.mem_cons.1 hb).elim (fun e=>e ▸ qa) (ql b)⟩
theorem Cb {d:Nat} {cs:List AV} (h:tyC Tryz.prog (d+2) 23 cs):∃ l:List Int,cs=[.slice .any 1 (inL l)]:=by
 rw [gP A7] at h
 obtain ⟨xs,rfl,_,hx⟩:=h
 obtain ⟨l,rfl,_⟩:=fE (f:=.int .i64) (q:=fun _=>True) xs fun x hm=>by obtain ⟨n,e,_⟩:=Sl (d:=d) (hx x hm);exact ⟨n,e,trivial⟩
 exact ⟨l,by rw [gO dT];rfl⟩
theorem M7 {d:Nat} {cs:List AV} (h:tyC Tryz.prog (d+2) 117 cs):∃ l:List Bool,cs=[.slice .any 1 (boL l)]:=by
 rw [gP xM] at h
 obtain ⟨xs,rfl,_,hx⟩:=h
 obtain ⟨l,rfl,_⟩:=fE (f:=.bool) (q:=fun _=>True) xs fun x hm=>by
  have:=hx x hm
  rw [Ka mm rfl,tP mm] at this
  obtain ⟨_,b,e⟩:=this
  cases e
  exact ⟨b,rfl,trivial⟩
 exact ⟨l,by rw [gO mm];rfl⟩
theorem SC {d:Nat} {cs:List AV} (h:tyC Tryz.prog (d+2) 45 cs):∃ x:SField,cs=(aH x).cells∧(fun _=>True) x:=by
 rw [fS tN] at h
 obtain ⟨a0,r0,rfl,_,h0,a1,r1,rfl,_,h1,a2,r2,rfl,_,h2,rfl⟩:=h
 rw [fw dT] at h0
 obtain ⟨x0,rfl,_⟩:=h0
 rw [jF lF] at h1
 exact Y137
theorem QJ {d:Nat} {cs:List AV} (h:tyC Tryz.prog (d+3) 25 cs):∃ l:List SField,cs=[.slice .any 3 (l.map aH)]∧l.length*Tryz.prog.bytesOf 45≤140737488351232∧∀ a∈l,(fun _=>True) a:=by
 rw [gP zv] at h
 obtain ⟨xs,rfl,hl,hx⟩:=h
 obtain ⟨l,rfl,hq⟩:=fE (f:=aH) (q:=(fun _=>True)) xs fun x hm=>by
  have h':tyV Tryz.prog (d+2) 45 x:=hx x hm
  rw [kf tN rfl] at h'
  obtain ⟨cs,rfl,h'⟩:=h'
  obtain ⟨a,e,ha⟩:=SC h'
  exact Y59
 rw [List.length_map] at hl
 exact ⟨l,by rw [gO tN],hl,hq⟩
theorem So {d:Nat} {cs:List AV} (h:tyC Tryz.prog (d+3) 69 cs):∃ x:SHeader,cs=(az x).cells∧(fun _=>True) x:=by
 rw [fS uf] at h
 obtain ⟨a0,r0,rfl,_,h0,a1,r1,rfl,_,h1,a2,r2,rfl,_,h2,rfl⟩:=h
 rw [fw dT] at h0
 obtain ⟨x0,rfl,_⟩:=h0
 rw [jF lF] at h1
 obtain ⟨x1,rfl,_⟩:=h1
 obtain ⟨x2,rfl⟩:=Cb h2
 exact ⟨⟨x0,x1,x2⟩,rfl,trivial⟩
theorem QD {d:Nat} {cs:List AV} (h:tyC Tryz.prog (d+4) 26 cs):∃ l:List SHeader,cs=[.slice .any 3 (l.map az)]∧l.length*Tryz.prog.bytesOf 69≤140737488351232∧∀ a∈l,(fun _=>True) a:=by
 rw [gP zi] at h
 obtain ⟨xs,rfl,hl,hx⟩:=h
 obtain ⟨l,rfl,hq⟩:=fE (f:=az) (q:=(fun _=>True)) xs fun x hm=>by
  have h':tyV Tryz.prog (d+3) 69 x:=hx x hm
  rw [kf uf rfl] at h'
  obtain ⟨cs,rfl,h'⟩:=h'
  obtain ⟨a,e,ha⟩:=So h'
  exact Y59
 rw [List.length_map] at hl
 exact ⟨l,by rw [gO uf],hl,hq⟩
theorem RY {d:Nat} {cs:List AV} (h:tyC Tryz.prog (d+3) 108 cs):∃ x:SCase,cs=(aX x).cells∧pn x:=by
 rw [fS tR] at h
 obtain ⟨a0,r0,rfl,_,h0,a1,r1,rfl,_,h1,a2,r2,rfl,_,h2,rfl⟩:=h
 obtain ⟨x0,q0,rfl⟩:=xP h0
 obtain ⟨x1,q1,rfl⟩:=xP h1
 rw [fw dT] at h2
 obtain ⟨x2,rfl,_⟩:=h2
 exact ⟨⟨x0,x1,x2⟩,rfl,⟨q0,q1⟩⟩
theorem QS {d:Nat} {cs:List AV} (h:tyC Tryz.prog (d+4) 79 cs):∃ l:List SCase,cs=[.slice .any 5 (l.map aX)]∧l.length*Tryz.prog.bytesOf 108≤140737488351232∧∀ a∈l,pn a:=by
 rw [gP AE] at h
 obtain ⟨xs,rfl,hl,hx⟩:=h
 obtain ⟨l,rfl,hq⟩:=fE (f:=aX) (q:=pn) xs fun x hm=>by
  have h':tyV Tryz.prog (d+3) 108 x:=hx x hm
  rw [kf tR rfl] at h'
  obtain ⟨cs,rfl,h'⟩:=h'
  obtain ⟨a,e,ha⟩:=RY h'
  exact Y59
 rw [List.length_map] at hl
 exact ⟨l,by rw [gO tR],hl,hq⟩
theorem RH {d:Nat} {cs:List AV} (h:tyC Tryz.prog (d+5) 81 cs):∃ x:SState,cs=(aB x).cells∧nZ x:=by
 rw [fS tQ] at h
 obtain ⟨a0,r0,rfl,_,h0,a1,r1,rfl,_,h1,a2,r2,rfl,_,h2,a3,r3,rfl,_,h3,a4,r4,rfl,_,h4,rfl⟩:=h
 rw [fw dT] at h0
 obtain ⟨x0,rfl,_⟩:=h0
 rw [fw dT] at h1
 obtain ⟨x1,rfl,_⟩:=h1
 rw [fw dT] at h2
 obtain ⟨x2,rfl,_⟩:=h2
 obtain ⟨x3,rfl,l3,q3⟩:=QS h3
 rw [fw dT] at h4
 obtain ⟨x4,rfl,_⟩:=h4
 exact ⟨⟨x0,x1,x2,x3,x4⟩,rfl,q3⟩
theorem Re {d:Nat} {cs:List AV} (h:tyC Tryz.prog (d+6) 27 cs):∃ l:List SState,cs=[.slice .any 5 (l.map aB)]∧l.length*Tryz.prog.bytesOf 81≤140737488351232∧∀ a∈l,nZ a:=by
 rw [gP zf] at h
 obtain ⟨xs,rfl,hl,hx⟩:=h
 obtain ⟨l,rfl,hq⟩:=fE (f:=aB) (q:=nZ) xs fun x hm=>by
  have h':tyV Tryz.prog (d+5) 81 x:=hx x hm
  rw [kf tQ rfl] at h'
  obtain ⟨cs,rfl,h'⟩:=h'
  obtain ⟨a,e,ha⟩:=RH h'
  exact Y59
 rw [List.length_map] at hl
 exact ⟨l,by rw [gO tQ],hl,hq⟩
theorem Sx {d:Nat} {cs:List AV} (h:tyC Tryz.prog (d+3) 110 cs):∃ (x y:Int) (v:Nat),cs=[.int .i64 x,.int .i64 y]++vc v∧nM v:=by
 rw [fS C6] at h
 obtain ⟨a0,r0,rfl,_,h0,a1,r1,rfl,_,h1,a2,r2,rfl,_,h2,rfl⟩:=h
 rw [fw dT] at h0 h1
 obtain ⟨x0,rfl,_⟩:=h0
 obtain ⟨x1,rfl,_⟩:=h1
 obtain ⟨v,hv,rfl⟩:=xP h2
 exact ⟨x0,x1,v,rfl,hv⟩
theorem RF {d:Nat} {cs:List AV} (h:tyC Tryz.prog (d+4) 112 cs):∃ x:SPrim,cs=(aT x).cells∧qP x:=by
 rw [fS t9] at h
 obtain ⟨a0,r0,rfl,_,h0,a1,r1,rfl,_,h1,a2,r2,rfl,_,h2,rfl⟩:=h
 rw [fw dT] at h0
 obtain ⟨x0,rfl,_⟩:=h0
 rw [fw dT] at h1
 obtain ⟨x1,rfl,_⟩:=h1
 obtain ⟨x2,y2,z2,rfl,q2⟩:=Sx h2
 exact ⟨⟨x0,x1,x2,y2,z2⟩,rfl,q2⟩
theorem QC {d:Nat} {cs:List AV} (h:tyC Tryz.prog (d+5) 84 cs):∃ l:List SPrim,cs=[.slice .any 6 (l.map aT)]∧l.length*Tryz.prog.bytesOf 112≤140737488351232∧∀ a∈l,qP a:=by
 rw [gP zX] at h
 obtain ⟨xs,rfl,hl,hx⟩:=h
 obtain ⟨l,rfl,hq⟩:=fE (f:=aT) (q:=qP) xs fun x hm=>by
  have h':tyV Tryz.prog (d+4) 112 x:=hx x hm
  rw [kf t9 rfl] at h'
  obtain ⟨cs,rfl,h'⟩:=h'
  obtain ⟨a,e,ha⟩:=RF h'
  exact Y59
 rw [List.length_map] at hl
 exact ⟨l,by rw [gO t9],hl,hq⟩
theorem Sj {d:Nat} {cs:List AV} (h:tyC Tryz.prog (d+2) 114 cs):∃ x:SParam,cs=(aK x).cells∧(fun _=>True) x:=by
 rw [fS ud] at h
 obtain ⟨a0,r0,rfl,_,h0,a1,r1,rfl,_,h1,rfl⟩:=h
 rw [jF lF] at h0
 exact Y140
theorem Rb {d:Nat} {cs:List AV} (h:tyC Tryz.prog (d+3) 83 cs):∃ l:List SParam,cs=[.slice .any 2 (l.map aK)]∧l.length*Tryz.prog.bytesOf 114≤140737488351232∧∀ a∈l,(fun _=>True) a:=by
 rw [gP zN] at h
 obtain ⟨xs,rfl,hl,hx⟩:=h
 obtain ⟨l,rfl,hq⟩:=fE (f:=aK) (q:=(fun _=>True)) xs fun x hm=>by
  have h':tyV Tryz.prog (d+2) 114 x:=hx x hm
  rw [kf ud rfl] at h'
  obtain ⟨cs,rfl,h'⟩:=h'
  obtain ⟨a,e,ha⟩:=Sj h'
  exact Y59
 rw [List.length_map] at hl
 exact ⟨l,by rw [gO ud],hl,hq⟩
def MQ (x:SAction):Prop:=∀ p∈x.body,qP p
def Oh (x:STable):Prop:=∀ v∈x.dargs,nM v
theorem Sz {d:Nat} {cs:List AV} (h:tyC Tryz.prog (d+6) 86 cs):∃ x:SAction,cs=(ap x).cells∧MQ x:=by
 rw [fS tW] at h
 obtain ⟨a0,r0,rfl,_,h0,a1,r1,rfl,_,h1,a2,r2,rfl,_,h2,a3,r3,rfl,_,h3,a4,r4,rfl,_,h4,rfl⟩:=h
 rw [fw dT] at h0
 obtain ⟨x0,rfl,_⟩:=h0
 rw [jF lF] at h1
 obtain ⟨x1,rfl,_⟩:=h1
 obtain ⟨x2,rfl,l2,q2⟩:=Rb h2
 obtain ⟨x3,rfl,l3,q3⟩:=QC h3
 rw [jF lF] at h4
 obtain ⟨x4,rfl,_⟩:=h4
 exact ⟨⟨x0,x1,x2,x3,x4⟩,rfl,q3⟩
theorem Qa {d:Nat} {cs:List AV} (h:tyC Tryz.prog (d+7) 28 cs):∃ l:List SAction,cs=[.slice .any 5 (l.map ap)]∧l.length*Tryz.prog.bytesOf 86≤140737488351232∧∀ a∈l,MQ a:=by
 rw [gP Ac] at h
 obtain ⟨xs,rfl,hl,hx⟩:=h
 obtain ⟨l,rfl,hq⟩:=fE (f:=ap) (q:=MQ) xs fun x hm=>by
  have h':tyV Tryz.prog (d+6) 86 x:=hx x hm
  rw [kf tW rfl] at h'
  obtain ⟨cs,rfl,h'⟩:=h'
  obtain ⟨a,e,ha⟩:=Sz h'
  exact Y59
 rw [List.length_map] at hl
 exact ⟨l,by rw [gO tW],hl,hq⟩
theorem St {d:Nat} {cs:List AV} (h:tyC Tryz.prog (d+2) 53 cs):∃ x:SKey,cs=(aY x).cells∧(fun _=>True) x:=by
 rw [fS uc] at h
 obtain ⟨a0,r0,rfl,_,h0,a1,r1,rfl,_,h1,a2,r2,rfl,_,h2,rfl⟩:=h
 rw [jF lF] at h0
 obtain ⟨x0,rfl,_⟩:=h0
 rw [fw dT] at h1
 exact Y137
theorem QV {d:Nat} {cs:List AV} (h:tyC Tryz.prog (d+3) 54 cs):∃ l:List SKey,cs=[.slice .any 3 (l.map aY)]∧l.length*Tryz.prog.bytesOf 53≤140737488351232∧∀ a∈l,(fun _=>True) a:=by
 rw [gP AP] at h
 obtain ⟨xs,rfl,hl,hx⟩:=h
 obtain ⟨l,rfl,hq⟩:=fE (f:=aY) (q:=(fun _=>True)) xs fun x hm=>by
  have h':tyV Tryz.prog (d+2) 53 x:=hx x hm
  rw [kf uc rfl] at h'
  obtain ⟨cs,rfl,h'⟩:=h'
  obtain ⟨a,e,ha⟩:=St h'
  exact Y59
 rw [List.length_map] at hl
 exact ⟨l,by rw [gO uc],hl,hq⟩
theorem Qe {d:Nat} {cs:List AV} (h:tyC Tryz.prog (d+3) 55 cs):∃ l:List Nat,cs=[.slice .any 2 (l.map vv)]∧∀ a∈l,nM a:=by
 rw [gP A2] at h
 obtain ⟨xs,rfl,hl,hx⟩:=h
 obtain ⟨l,rfl,hq⟩:=fE (f:=vv) (q:=nM) xs fun x hm=>by
  have h':tyV Tryz.prog (d+2) 106 x:=hx x hm
  rw [kf tT rfl] at h'
  obtain ⟨cs,rfl,h'⟩:=h'
  obtain ⟨a,ha,e⟩:=xP h'
  exact Y59
 exact ⟨l,by rw [gO tT],hq⟩
theorem RO {d:Nat} {cs:List AV} (h:tyC Tryz.prog (d+5) 57 cs):∃ x:STable,cs=(ax x).cells∧Oh x:=by
 rw [fS tX] at h
 obtain ⟨a0,r0,rfl,_,h0,a1,r1,rfl,_,h1,a2,r2,rfl,_,h2,a3,r3,rfl,_,h3,a4,r4,rfl,_,h4,a5,r5,rfl,_,h5,a6,r6,rfl,_,h6,a7,r7,rfl,_,h7,rfl⟩:=h
 rw [fw dT] at h0
 obtain ⟨x0,rfl,_⟩:=h0
 rw [jF lF] at h1
 obtain ⟨x1,rfl,_⟩:=h1
 obtain ⟨x2,rfl,l2,q2⟩:=QV h2
 obtain ⟨x3,rfl⟩:=Cb h3
 rw [fw dT] at h4
 obtain ⟨x4,rfl,_⟩:=h4
 obtain ⟨x5,rfl,q5⟩:=Qe h5
 rw [fw dT] at h6
 obtain ⟨x6,rfl,_⟩:=h6
 rw [jF lF] at h7
 obtain ⟨x7,rfl,_⟩:=h7
 exact ⟨⟨x0,x1,x2,x3,x4,x5,x6,x7⟩,rfl,q5⟩
theorem Qn {d:Nat} {cs:List AV} (h:tyC Tryz.prog (d+6) 29 cs):∃ l:List STable,cs=[.slice .any 8 (l.map ax)]∧l.length*Tryz.prog.bytesOf 57≤140737488351232∧∀ a∈l,Oh a:=by
 rw [gP AK] at h
 obtain ⟨xs,rfl,hl,hx⟩:=h
 obtain ⟨l,rfl,hq⟩:=fE (f:=ax) (q:=Oh) xs fun x hm=>by
  have h':tyV Tryz.prog (d+5) 57 x:=hx x hm
  rw [kf tX rfl] at h'
  obtain ⟨cs,rfl,h'⟩:=h'
  obtain ⟨a,e,ha⟩:=RO h'
  exact Y59
 rw [List.length_map] at hl
 exact ⟨l,by rw [gO tX],hl,hq⟩
theorem R8 {d:Nat} {cs:List AV} (h:tyC Tryz.prog (d+2) 75 cs):∃ x:SStage,cs=(aO x).cells∧(fun _=>True) x:=by
 rw [fS tZ] at h
 obtain ⟨a0,r0,rfl,_,h0,a1,r1,rfl,_,h1,rfl⟩:=h
 rw [fw dT] at h0
 exact Y140
theorem QW {d:Nat} {cs:List AV} (h:tyC Tryz.prog (d+3) 30 cs):∃ l:List SStage,cs=[.slice .any 2 (l.map aO)]∧l.length*Tryz.prog.bytesOf 75≤140737488351232∧∀ a∈l,(fun _=>True) a:=by
 rw [gP Ab] at h
 obtain ⟨xs,rfl,hl,hx⟩:=h
 obtain ⟨l,rfl,hq⟩:=fE (f:=aO) (q:=(fun _=>True)) xs fun x hm=>by
  have h':tyV Tryz.prog (d+2) 75 x:=hx x hm
  rw [kf tZ rfl] at h'
  obtain ⟨cs,rfl,h'⟩:=h'
  obtain ⟨a,e,ha⟩:=R8 h'
  exact Y59
 rw [List.length_map] at hl
 exact ⟨l,by rw [gO tZ],hl,hq⟩
theorem Sp {d:Nat} {cs:List AV} (h:tyC Tryz.prog (d+3) 119 cs):∃ x:SGrant,cs=(aJ x).cells∧(fun _=>True) x:=by
 rw [fS tY] at h
 obtain ⟨a0,r0,rfl,_,h0,a1,r1,rfl,_,h1,a2,r2,rfl,_,h2,a3,r3,rfl,_,h3,rfl⟩:=h
 rw [fw dT] at h0
 obtain ⟨x0,rfl,_⟩:=h0
 rw [tP mm] at h1
 obtain ⟨x1,rfl⟩:=h1
 rw [tP mm] at h2
 obtain ⟨x2,rfl⟩:=h2
 obtain ⟨x3,rfl⟩:=M7 h3
 exact ⟨⟨x0,x1,x2,x3⟩,rfl,trivial⟩
theorem Rn {d:Nat} {cs:List AV} (h:tyC Tryz.prog (d+4) 46 cs):∃ l:List SGrant,cs=[.slice .any 4 (l.map aJ)]∧l.length*Tryz.prog.bytesOf 119≤140737488351232∧∀ a∈l,(fun _=>True) a:=by
 rw [gP Aa] at h
 obtain ⟨xs,rfl,hl,hx⟩:=h
 obtain ⟨l,rfl,hq⟩:=fE (f:=aJ) (q:=(fun _=>True)) xs fun x hm=>by
  have h':tyV Tryz.prog (d+3) 119 x:=hx x hm
  rw [kf tY rfl] at h'
  obtain ⟨cs,rfl,h'⟩:=h'
  obtain ⟨a,e,ha⟩:=Sp h'
  exact Y59
 rw [List.length_map] at hl
 exact ⟨l,by rw [gO tY],hl,hq⟩
theorem Sh {d:Nat} {cs:List AV} (h:tyC Tryz.prog (d+5) 48 cs):∃ x:SRole,cs=(aN x).cells∧(fun _=>True) x:=by
 rw [fS ua] at h
 obtain ⟨a0,r0,rfl,_,h0,a1,r1,rfl,_,h1,a2,r2,rfl,_,h2,a3,r3,rfl,_,h3,a4,r4,rfl,_,h4,a5,r5,rfl,_,h5,rfl⟩:=h
 rw [fw dT] at h0
 obtain ⟨x0,rfl,_⟩:=h0
 rw [jF lF] at h1
 obtain ⟨x1,rfl,_⟩:=h1
 obtain ⟨x2,rfl,l2,q2⟩:=Rn h2
 obtain ⟨x3,rfl⟩:=Cb h3
 rw [fw dT] at h4
 obtain ⟨x4,rfl,_⟩:=h4
 rw [tP mm] at h5
 obtain ⟨x5,rfl⟩:=h5
 exact ⟨⟨x0,x1,x2,x3,x4,x5⟩,rfl,trivial⟩
theorem QB {d:Nat} {cs:List AV} (h:tyC Tryz.prog (d+6) 31 cs):∃ l:List SRole,cs=[.slice .any 6 (l.map aN)]∧l.length*Tryz.prog.bytesOf 48≤140737488351232∧∀ a∈l,(fun _=>True) a:=by
 rw [gP zT] at h
 obtain ⟨xs,rfl,hl,hx⟩:=h
 obtain ⟨l,rfl,hq⟩:=fE (f:=aN) (q:=(fun _=>True)) xs fun x hm=>by
  have h':tyV Tryz.prog (d+5) 48 x:=hx x hm
  rw [kf ua rfl] at h'
  obtain ⟨cs,rfl,h'⟩:=h'
  obtain ⟨a,e,ha⟩:=Sh h'
  exact Y59
 rw [List.length_map] at hl
 exact ⟨l,by rw [gO ua],hl,hq⟩
theorem RD {d:Nat} {cs:List AV} (h:tyC Tryz.prog (d+2) 50 cs):∃ x:SRef,cs=(bh x).cells∧(fun _=>True) x:=by
 rw [fS ug] at h
 obtain ⟨a0,r0,rfl,_,h0,a1,r1,rfl,_,h1,a2,r2,rfl,_,h2,a3,r3,rfl,_,h3,a4,r4,rfl,_,h4,a5,r5,rfl,_,h5,rfl⟩:=h
 rw [fw dT] at h0
 obtain ⟨x0,rfl,_⟩:=h0
 rw [fw dT] at h1
 obtain ⟨x1,rfl,_⟩:=h1
 rw [fw dT] at h2
 obtain ⟨x2,rfl,_⟩:=h2
 rw [fw dT] at h3
 obtain ⟨x3,rfl,_⟩:=h3
 rw [fw dT] at h4
 obtain ⟨x4,rfl,_⟩:=h4
 rw [fw dT] at h5
 obtain ⟨x5,rfl,_⟩:=h5
 exact ⟨⟨x0,x1,x2,x3,x4,x5⟩,rfl,trivial⟩
theorem Qm {d:Nat} {cs:List AV} (h:tyC Tryz.prog (d+3) 32 cs):∃ l:List SRef,cs=[.slice .any 6 (l.map bh)]∧l.length*Tryz.prog.bytesOf 50≤140737488351232∧∀ a∈l,(fun _=>True) a:=by
 rw [gP AQ] at h
 obtain ⟨xs,rfl,hl,hx⟩:=h
 obtain ⟨l,rfl,hq⟩:=fE (f:=bh) (q:=(fun _=>True)) xs fun x hm=>by
  have h':tyV Tryz.prog (d+2) 50 x:=hx x hm
  rw [kf ug rfl] at h'
  obtain ⟨cs,rfl,h'⟩:=h'
  obtain ⟨a,e,ha⟩:=RD h'
  exact Y59
 rw [List.length_map] at hl
 exact ⟨l,by rw [gO ug],hl,hq⟩
structure VSch (x:Sch):Prop where
 s:∀ a∈x.states,nZ a
 a:∀ a∈x.actions,MQ a
 t:∀ a∈x.tables,Oh a
 tl:x.tables.length≤140737488351232
theorem Fp {n b:Nat} (h:n*b≤140737488351232) (hb:1≤b):n≤140737488351232:=Nat.le_trans (Nat.le_trans (by rw [Nat.mul_one];exact nrq n) (Nat.mul_le_mul_left n hb)) h
theorem Sb {d:Nat} {x:AV} (h:tyV Tryz.prog (d+8) 34 x):∃ s:Sch,x=.agg (aS s)∧VSch s:=by
 rw [kf yA rfl] at h
 obtain ⟨cs,rfl,h⟩:=h
 rw [fS yA] at h
 obtain ⟨a0,r0,rfl,_,h0,a1,r1,rfl,_,h1,a2,r2,rfl,_,h2,a3,r3,rfl,_,h3,a4,r4,rfl,_,h4,a5,r5,rfl,_,h5,a6,r6,rfl,_,h6,a7,r7,rfl,_,h7,a8,r8,rfl,_,h8,a9,r9,rfl,_,h9,rfl⟩:=h
 obtain ⟨x0,rfl,_,_⟩:=QJ h0
 obtain ⟨x1,rfl,_,_⟩:=QD h1
 obtain ⟨x2,rfl,_,q2⟩:=Re h2
 obtain ⟨x3,rfl,_,q3⟩:=Qa h3
 obtain ⟨x4,rfl,l4,q4⟩:=Qn h4
 obtain ⟨x5,rfl,_,_⟩:=QW h5
 obtain ⟨x6,rfl,_,_⟩:=QB h6
 obtain ⟨x7,rfl,_,_⟩:=Qm h7
 rw [fw dT] at h8 h9
 obtain ⟨x8,rfl,_⟩:=h8
 obtain ⟨x9,rfl,_⟩:=h9
 exact ⟨⟨x0,x1,x2,x3,x4,x5,x6,x7,x8,x9⟩,rfl,q2,q3,q4,Fp l4 (by decide +kernel)⟩
end Go.AL
