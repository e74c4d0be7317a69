/- Contracts and plain laws, a part of the proof; no condition of its own. -/
import Derived.Test.YthpglnacipgolaaGreatW03p
import Derived.Test.YthpglnacipgolaaGreatAlTop
import Derived.Test.YthpglnacipgolaaGreatW03x
open Go Go.AL Go.Proofs
namespace Go.AL
set_option linter.all false
set_option maxRecDepth 10000
theorem ti_kint:ti Tryz.prog 3=some ⟨.int .i64,1,8,.int .i64 0⟩:=by kernel_rfl
theorem ti_kstr:ti Tryz.prog 9=some ⟨.string,1,16,.str []⟩:=by kernel_rfl
theorem ti_kbool:ti Tryz.prog 4=some ⟨.bool,1,1,.bool false⟩:=by kernel_rfl
theorem ti_ku8:ti Tryz.prog 5=some ⟨.int .u8,1,1,.int .u8 0⟩:=by kernel_rfl
theorem ti_ku64:ti Tryz.prog 81=some ⟨.int .u64,1,8,.int .u64 0⟩:=by kernel_rfl
theorem ti_kbytes:ti Tryz.prog 32=some ⟨.slice 5,1,24,.slice .nil 1 []⟩:=by kernel_rfl
theorem ti_kval:ti Tryz.prog 83=some ⟨.struct [(0,81,false),(1,81,false)],2,16,.agg [.int .u64 0,.int .u64 0]⟩:=by kernel_rfl
theorem ti_kvals:ti Tryz.prog 47=some ⟨.slice 83,1,24,.slice .nil 1 []⟩:=by kernel_rfl
theorem ti_kints:ti Tryz.prog 46=some ⟨.slice 3,1,24,.slice .nil 1 []⟩:=by kernel_rfl
theorem ti_kbools:ti Tryz.prog 239=some ⟨.slice 4,1,24,.slice .nil 1 []⟩:=by kernel_rfl
theorem ti_kfld:ti Tryz.prog 76=some ⟨.struct [(0,3,false),(1,9,false),(2,3,false)],3,32,.agg [.int .i64 0,.str [],.int .i64 0]⟩:=by kernel_rfl
theorem ti_kflds:ti Tryz.prog 22=some ⟨.slice 76,1,24,.slice .nil 1 []⟩:=by kernel_rfl
theorem ti_khdr:ti Tryz.prog 114=some ⟨.struct [(0,3,false),(1,9,false),(2,46,false)],3,48,.agg [.int .i64 0,.str [],.slice .nil 1 []]⟩:=by kernel_rfl
theorem ti_khdrs:ti Tryz.prog 23=some ⟨.slice 114,1,24,.slice .nil 1 []⟩:=by kernel_rfl
theorem ti_kcas:ti Tryz.prog 306=some ⟨.struct [(0,83,false),(2,83,false),(4,3,false)],5,40,.agg [.int .u64 0,.int .u64 0,.int .u64 0,.int .u64 0,.int .i64 0]⟩:=by kernel_rfl
theorem ti_kcass:ti Tryz.prog 147=some ⟨.slice 306,1,24,.slice .nil 1 []⟩:=by kernel_rfl
theorem ti_ksta:ti Tryz.prog 149=some ⟨.struct [(0,3,false),(1,3,false),(2,3,false),(3,147,false),(4,3,false)],5,56,.agg [.int .i64 0,.int .i64 0,.int .i64 0,.slice .nil 1 [],.int .i64 0]⟩:=by kernel_rfl
theorem ti_kstas:ti Tryz.prog 24=some ⟨.slice 149,1,24,.slice .nil 1 []⟩:=by kernel_rfl
theorem ti_kopd:ti Tryz.prog 127=some ⟨.struct [(0,3,false),(1,3,false),(2,83,false)],4,32,.agg [.int .i64 0,.int .i64 0,.int .u64 0,.int .u64 0]⟩:=by kernel_rfl
theorem ti_kprm:ti Tryz.prog 129=some ⟨.struct [(0,3,false),(1,3,false),(2,127,false)],6,48,.agg [.int .i64 0,.int .i64 0,.int .i64 0,.int .i64 0,.int .u64 0,.int .u64 0]⟩:=by kernel_rfl
theorem ti_kprms:ti Tryz.prog 51=some ⟨.slice 129,1,24,.slice .nil 1 []⟩:=by kernel_rfl
theorem ti_kpar:ti Tryz.prog 122=some ⟨.struct [(0,9,false),(1,3,false)],2,24,.agg [.str [],.int .i64 0]⟩:=by kernel_rfl
theorem ti_kpars:ti Tryz.prog 50=some ⟨.slice 122,1,24,.slice .nil 1 []⟩:=by kernel_rfl
theorem ti_kact:ti Tryz.prog 53=some ⟨.struct [(0,3,false),(1,9,false),(2,50,false),(3,51,false),(4,9,false)],5,88,.agg [.int .i64 0,.str [],.slice .nil 1 [],.slice .nil 1 [],.str []]⟩:=by kernel_rfl
theorem ti_kacts:ti Tryz.prog 25=some ⟨.slice 53,1,24,.slice .nil 1 []⟩:=by kernel_rfl
theorem ti_kkey:ti Tryz.prog 308=some ⟨.struct [(0,9,false),(1,3,false),(2,3,false)],3,32,.agg [.str [],.int .i64 0,.int .i64 0]⟩:=by kernel_rfl
theorem ti_kkeys:ti Tryz.prog 45=some ⟨.slice 308,1,24,.slice .nil 1 []⟩:=by kernel_rfl
theorem ti_ktab:ti Tryz.prog 49=some ⟨.struct [(0,3,false),(1,9,false),(2,45,false),(3,46,false),(4,3,false),(5,47,false),(6,3,false),(7,9,false)],8,128,.agg [.int .i64 0,.str [],.slice .nil 1 [],.slice .nil 1 [],.int .i64 0,.slice .nil 1 [],.int .i64 0,.str []]⟩:=by kernel_rfl
theorem ti_ktabs:ti Tryz.prog 26=some ⟨.slice 49,1,24,.slice .nil 1 []⟩:=by kernel_rfl
theorem ti_kstg:ti Tryz.prog 78=some ⟨.struct [(0,3,false),(1,3,false)],2,16,.agg [.int .i64 0,.int .i64 0]⟩:=by kernel_rfl
theorem ti_kstgs:ti Tryz.prog 27=some ⟨.slice 78,1,24,.slice .nil 1 []⟩:=by kernel_rfl
theorem ti_kgra:ti Tryz.prog 241=some ⟨.struct [(0,3,false),(1,4,false),(2,4,false),(3,239,false)],4,40,.agg [.int .i64 0,.bool false,.bool false,.slice .nil 1 []]⟩:=by kernel_rfl
theorem ti_kgras:ti Tryz.prog 123=some ⟨.slice 241,1,24,.slice .nil 1 []⟩:=by kernel_rfl
theorem ti_krol:ti Tryz.prog 125=some ⟨.struct [(0,3,false),(1,9,false),(2,123,false),(3,46,false),(4,3,false),(5,4,false)],6,88,.agg [.int .i64 0,.str [],.slice .nil 1 [],.slice .nil 1 [],.int .i64 0,.bool false]⟩:=by kernel_rfl
theorem ti_krols:ti Tryz.prog 28=some ⟨.slice 125,1,24,.slice .nil 1 []⟩:=by kernel_rfl
theorem ti_kref:ti Tryz.prog 120=some ⟨.struct [(0,3,false),(1,3,false),(2,3,false),(3,3,false),(4,3,false),(5,3,false)],6,48,.agg [.int .i64 0,.int .i64 0,.int .i64 0,.int .i64 0,.int .i64 0,.int .i64 0]⟩:=by kernel_rfl
theorem ti_krefs:ti Tryz.prog 29=some ⟨.slice 120,1,24,.slice .nil 1 []⟩:=by kernel_rfl
theorem ti_ksch:ti Tryz.prog 31=some ⟨.struct [(0,22,false),(1,23,false),(2,24,false),(3,25,false),(4,26,false),(5,27,false),(6,28,false),(7,29,false),(8,3,false),(9,3,false)],10,208,.agg [.slice .nil 1 [],.slice .nil 1 [],.slice .nil 1 [],.slice .nil 1 [],.slice .nil 1 [],.slice .nil 1 [],.slice .nil 1 [],.slice .nil 1 [],.int .i64 0,.int .i64 0]⟩:=by kernel_rfl
attribute [go_sem] ti_kint ti_kstr ti_kbool ti_ku8 ti_ku64 ti_kbytes ti_kval ti_kvals ti_kints ti_kbools ti_kfld ti_kflds ti_khdr ti_khdrs ti_kcas ti_kcass ti_ksta ti_kstas ti_kopd ti_kprm ti_kprms ti_kpar ti_kpars ti_kact ti_kacts ti_kkey ti_kkeys ti_ktab ti_ktabs ti_kstg ti_kstgs ti_kgra ti_kgras ti_krol ti_krols ti_kref ti_krefs ti_ksch
theorem tyInt {d:Nat} {x:AV} (h:tyV Tryz.prog (d+1) 3 x):∃ n,x=.int .i64 n ∧ -9223372036854775808≤n∧n<9223372036854775808:=by
  rw [ty_one ti_kint rfl,ty_int ti_kint] at h
  obtain ⟨_,n,e,n1,n2⟩:=h
  cases e
  exact ⟨n,rfl,by simp [IntKind.min,IntKind.signed,IntKind.bits] at n1;omega,by simp [IntKind.max,IntKind.signed,IntKind.bits] at n2;omega⟩
theorem tyStr {d:Nat} {x:AV} (h:tyV Tryz.prog (d+1) 9 x):∃ s,x=.str s∧s.length≤140737488351232:=by
  rw [ty_one ti_kstr rfl,ty_string ti_kstr] at h
  obtain ⟨_,s,e,hl⟩:=h
  cases e
  exact ⟨s,rfl,hl⟩
theorem tyBytes {d:Nat} {x:AV} (h:tyV Tryz.prog (d+3) 32 x):∃ s,x=.slice .any 1 s∧isB s:=by
  rw [ty_one ti_kbytes rfl,ty_slice ti_kbytes] at h
  obtain ⟨_,xs,e,_,hx⟩:=h
  cases e
  refine ⟨xs,by rw [sizeT_of ti_ku8],isB_of fun x hm=>?_⟩
  have:=hx x hm
  rw [ty_one ti_ku8 rfl,ty_int ti_ku8] at this
  obtain ⟨_,m,e,m1,m2⟩:=this
  cases e
  exact ⟨m,rfl,by simpa [IntKind.min,IntKind.signed] using m1,by simp [IntKind.max,IntKind.signed,IntKind.bits] at m2;omega⟩
theorem tyValC {d:Nat} {cs:List AV} (h:tyC Tryz.prog (d+2) 83 cs):∃ x:Nat,x<2^128∧cs=vc x:=by
  rw [ty_struct ti_kval] at h
  obtain ⟨b1,q1,rfl,_,g1,b2,q2,rfl,_,g2,rfl⟩:=h
  rw [ty_int ti_ku64] at g1 g2
  obtain ⟨hi,rfl,i1,i2⟩:=g1
  obtain ⟨lo,rfl,i3,i4⟩:=g2
  have hv:isV hi lo:=by
    unfold isV
    simp [IntKind.min,IntKind.max,IntKind.signed,IntKind.bits] at i1 i2 i3 i4
    omega
  obtain ⟨h1,h2,h3,h4⟩:0≤hi∧hi<18446744073709551616∧0≤lo∧lo<18446744073709551616:=by unfold isV at hv;omega
  refine ⟨hi.toNat*2^64+lo.toNat,by omega,?_⟩
  unfold vc
  rw [show ((((hi.toNat*2^64+lo.toNat)/2^64:Nat):Nat):Int)=hi by omega,show ((((hi.toNat*2^64+lo.toNat) % 2^64:Nat):Nat):Int)=lo by omega]
  rfl
theorem list_lift {α:Type} {f:α→AV} {q:α→Prop}:∀ (l:List AV),(∀ x∈l,∃ a,x=f a∧q a)→∃ l':List α,l=l'.map f∧∀ a∈l',q a
  | [],_=>⟨[],rfl,by simp⟩
  | x::l,h=>by
    obtain ⟨a,ha,qa⟩:=h x List.mem_cons_self
    obtain ⟨l',hl,ql⟩:=list_lift l fun y hy=>h y (List.mem_cons_of_mem _ hy)
    exact ⟨a::l',by rw [ha,hl];rfl,fun b hb=>(List.mem_cons.1 hb).elim (fun e=>e ▸ qa) (ql b)⟩
theorem tyFld {d:Nat} {cs:List AV} (h:tyC Tryz.prog (d+2) 76 cs):∃ x:SField,cs=(fieldAV x).cells∧(fun _=>True) x:=by
  rw [ty_struct ti_kfld] at h
  obtain ⟨a0,r0,rfl,_,h0,a1,r1,rfl,_,h1,a2,r2,rfl,_,h2,rfl⟩:=h
  rw [ty_int ti_kint] at h0
  obtain ⟨x0,rfl,_⟩:=h0
  rw [ty_string ti_kstr] at h1
  obtain ⟨x1,rfl,_⟩:=h1
  rw [ty_int ti_kint] at h2
  obtain ⟨x2,rfl,_⟩:=h2
  exact ⟨⟨x0,x1,x2⟩,rfl,trivial⟩
theorem tyFlds {d:Nat} {cs:List AV} (h:tyC Tryz.prog (d+3) 22 cs):∃ l:List SField,cs=[.slice .any 3 (l.map fieldAV)]∧l.length*Tryz.prog.bytesOf 76≤140737488351232∧∀ a∈l,(fun _=>True) a:=by
  rw [ty_slice ti_kflds] at h
  obtain ⟨xs,rfl,hl,hx⟩:=h
  obtain ⟨l,rfl,hq⟩:=list_lift (f:=fieldAV) (q:=(fun _=>True)) xs fun x hm=>by
    have h':tyV Tryz.prog (d+2) 76 x:=hx x hm
    rw [ty_agg ti_kfld rfl] at h'
    obtain ⟨cs,rfl,h'⟩:=h'
    obtain ⟨a,e,ha⟩:=tyFld h'
    exact ⟨a,congrArg AV.agg e,ha⟩
  rw [List.length_map] at hl
  exact ⟨l,by rw [sizeT_of ti_kfld],hl,hq⟩
theorem tyCas {d:Nat} {cs:List AV} (h:tyC Tryz.prog (d+3) 306 cs):∃ x:SCase,cs=(caseAV x).cells∧okCase x:=by
  rw [ty_struct ti_kcas] at h
  obtain ⟨a0,r0,rfl,_,h0,a1,r1,rfl,_,h1,a2,r2,rfl,_,h2,rfl⟩:=h
  obtain ⟨x0,q0,rfl⟩:=tyValC h0
  obtain ⟨x1,q1,rfl⟩:=tyValC h1
  rw [ty_int ti_kint] at h2
  obtain ⟨x2,rfl,_⟩:=h2
  exact ⟨⟨x0,x1,x2⟩,rfl,⟨q0,q1⟩⟩
theorem tyCass {d:Nat} {cs:List AV} (h:tyC Tryz.prog (d+4) 147 cs):∃ l:List SCase,cs=[.slice .any 5 (l.map caseAV)]∧l.length*Tryz.prog.bytesOf 306≤140737488351232∧∀ a∈l,okCase a:=by
  rw [ty_slice ti_kcass] at h
  obtain ⟨xs,rfl,hl,hx⟩:=h
  obtain ⟨l,rfl,hq⟩:=list_lift (f:=caseAV) (q:=okCase) xs fun x hm=>by
    have h':tyV Tryz.prog (d+3) 306 x:=hx x hm
    rw [ty_agg ti_kcas rfl] at h'
    obtain ⟨cs,rfl,h'⟩:=h'
    obtain ⟨a,e,ha⟩:=tyCas h'
    exact ⟨a,congrArg AV.agg e,ha⟩
  rw [List.length_map] at hl
  exact ⟨l,by rw [sizeT_of ti_kcas],hl,hq⟩
theorem tyOpd {d:Nat} {cs:List AV} (h:tyC Tryz.prog (d+3) 127 cs):∃ (x y:Int) (v:Nat),cs=[.int .i64 x,.int .i64 y]++vc v∧okVal v:=by
  rw [ty_struct ti_kopd] at h
  obtain ⟨a0,r0,rfl,_,h0,a1,r1,rfl,_,h1,a2,r2,rfl,_,h2,rfl⟩:=h
  rw [ty_int ti_kint] at h0 h1
  obtain ⟨x0,rfl,_⟩:=h0
  obtain ⟨x1,rfl,_⟩:=h1
  obtain ⟨v,hv,rfl⟩:=tyValC h2
  exact ⟨x0,x1,v,rfl,hv⟩
theorem tyPrm {d:Nat} {cs:List AV} (h:tyC Tryz.prog (d+4) 129 cs):∃ x:SPrim,cs=(primAV x).cells∧okPrim x:=by
  rw [ty_struct ti_kprm] at h
  obtain ⟨a0,r0,rfl,_,h0,a1,r1,rfl,_,h1,a2,r2,rfl,_,h2,rfl⟩:=h
  rw [ty_int ti_kint] at h0
  obtain ⟨x0,rfl,_⟩:=h0
  rw [ty_int ti_kint] at h1
  obtain ⟨x1,rfl,_⟩:=h1
  obtain ⟨x2,y2,z2,rfl,q2⟩:=tyOpd h2
  exact ⟨⟨x0,x1,x2,y2,z2⟩,rfl,q2⟩
theorem tyPrms {d:Nat} {cs:List AV} (h:tyC Tryz.prog (d+5) 51 cs):∃ l:List SPrim,cs=[.slice .any 6 (l.map primAV)]∧l.length*Tryz.prog.bytesOf 129≤140737488351232∧∀ a∈l,okPrim a:=by
  rw [ty_slice ti_kprms] at h
  obtain ⟨xs,rfl,hl,hx⟩:=h
  obtain ⟨l,rfl,hq⟩:=list_lift (f:=primAV) (q:=okPrim) xs fun x hm=>by
    have h':tyV Tryz.prog (d+4) 129 x:=hx x hm
    rw [ty_agg ti_kprm rfl] at h'
    obtain ⟨cs,rfl,h'⟩:=h'
    obtain ⟨a,e,ha⟩:=tyPrm h'
    exact ⟨a,congrArg AV.agg e,ha⟩
  rw [List.length_map] at hl
  exact ⟨l,by rw [sizeT_of ti_kprm],hl,hq⟩
theorem tyPar {d:Nat} {cs:List AV} (h:tyC Tryz.prog (d+2) 122 cs):∃ x:SParam,cs=(paramAV x).cells∧(fun _=>True) x:=by
  rw [ty_struct ti_kpar] at h
  obtain ⟨a0,r0,rfl,_,h0,a1,r1,rfl,_,h1,rfl⟩:=h
  rw [ty_string ti_kstr] at h0
  obtain ⟨x0,rfl,_⟩:=h0
  rw [ty_int ti_kint] at h1
  obtain ⟨x1,rfl,_⟩:=h1
  exact ⟨⟨x0,x1⟩,rfl,trivial⟩
theorem tyPars {d:Nat} {cs:List AV} (h:tyC Tryz.prog (d+3) 50 cs):∃ l:List SParam,cs=[.slice .any 2 (l.map paramAV)]∧l.length*Tryz.prog.bytesOf 122≤140737488351232∧∀ a∈l,(fun _=>True) a:=by
  rw [ty_slice ti_kpars] at h
  obtain ⟨xs,rfl,hl,hx⟩:=h
  obtain ⟨l,rfl,hq⟩:=list_lift (f:=paramAV) (q:=(fun _=>True)) xs fun x hm=>by
    have h':tyV Tryz.prog (d+2) 122 x:=hx x hm
    rw [ty_agg ti_kpar rfl] at h'
    obtain ⟨cs,rfl,h'⟩:=h'
    obtain ⟨a,e,ha⟩:=tyPar h'
    exact ⟨a,congrArg AV.agg e,ha⟩
  rw [List.length_map] at hl
  exact ⟨l,by rw [sizeT_of ti_kpar],hl,hq⟩
theorem tyKey {d:Nat} {cs:List AV} (h:tyC Tryz.prog (d+2) 308 cs):∃ x:SKey,cs=(keyAV x).cells∧(fun _=>True) x:=by
  rw [ty_struct ti_kkey] at h
  obtain ⟨a0,r0,rfl,_,h0,a1,r1,rfl,_,h1,a2,r2,rfl,_,h2,rfl⟩:=h
  rw [ty_string ti_kstr] at h0
  obtain ⟨x0,rfl,_⟩:=h0
  rw [ty_int ti_kint] at h1
  obtain ⟨x1,rfl,_⟩:=h1
  rw [ty_int ti_kint] at h2
  obtain ⟨x2,rfl,_⟩:=h2
  exact ⟨⟨x0,x1,x2⟩,rfl,trivial⟩
theorem tyKeys {d:Nat} {cs:List AV} (h:tyC Tryz.prog (d+3) 45 cs):∃ l:List SKey,cs=[.slice .any 3 (l.map keyAV)]∧l.length*Tryz.prog.bytesOf 308≤140737488351232∧∀ a∈l,(fun _=>True) a:=by
  rw [ty_slice ti_kkeys] at h
  obtain ⟨xs,rfl,hl,hx⟩:=h
  obtain ⟨l,rfl,hq⟩:=list_lift (f:=keyAV) (q:=(fun _=>True)) xs fun x hm=>by
    have h':tyV Tryz.prog (d+2) 308 x:=hx x hm
    rw [ty_agg ti_kkey rfl] at h'
    obtain ⟨cs,rfl,h'⟩:=h'
    obtain ⟨a,e,ha⟩:=tyKey h'
    exact ⟨a,congrArg AV.agg e,ha⟩
  rw [List.length_map] at hl
  exact ⟨l,by rw [sizeT_of ti_kkey],hl,hq⟩
theorem tyStg {d:Nat} {cs:List AV} (h:tyC Tryz.prog (d+2) 78 cs):∃ x:SStage,cs=(stageAV x).cells∧(fun _=>True) x:=by
  rw [ty_struct ti_kstg] at h
  obtain ⟨a0,r0,rfl,_,h0,a1,r1,rfl,_,h1,rfl⟩:=h
  rw [ty_int ti_kint] at h0
  obtain ⟨x0,rfl,_⟩:=h0
  rw [ty_int ti_kint] at h1
  obtain ⟨x1,rfl,_⟩:=h1
  exact ⟨⟨x0,x1⟩,rfl,trivial⟩
theorem tyStgs {d:Nat} {cs:List AV} (h:tyC Tryz.prog (d+3) 27 cs):∃ l:List SStage,cs=[.slice .any 2 (l.map stageAV)]∧l.length*Tryz.prog.bytesOf 78≤140737488351232∧∀ a∈l,(fun _=>True) a:=by
  rw [ty_slice ti_kstgs] at h
  obtain ⟨xs,rfl,hl,hx⟩:=h
  obtain ⟨l,rfl,hq⟩:=list_lift (f:=stageAV) (q:=(fun _=>True)) xs fun x hm=>by
    have h':tyV Tryz.prog (d+2) 78 x:=hx x hm
    rw [ty_agg ti_kstg rfl] at h'
    obtain ⟨cs,rfl,h'⟩:=h'
    obtain ⟨a,e,ha⟩:=tyStg h'
    exact ⟨a,congrArg AV.agg e,ha⟩
  rw [List.length_map] at hl
  exact ⟨l,by rw [sizeT_of ti_kstg],hl,hq⟩
theorem tyRef {d:Nat} {cs:List AV} (h:tyC Tryz.prog (d+2) 120 cs):∃ x:SRef,cs=(refAV x).cells∧(fun _=>True) x:=by
  rw [ty_struct ti_kref] at h
  obtain ⟨a0,r0,rfl,_,h0,a1,r1,rfl,_,h1,a2,r2,rfl,_,h2,a3,r3,rfl,_,h3,a4,r4,rfl,_,h4,a5,r5,rfl,_,h5,rfl⟩:=h
  rw [ty_int ti_kint] at h0
  obtain ⟨x0,rfl,_⟩:=h0
  rw [ty_int ti_kint] at h1
  obtain ⟨x1,rfl,_⟩:=h1
  rw [ty_int ti_kint] at h2
  obtain ⟨x2,rfl,_⟩:=h2
  rw [ty_int ti_kint] at h3
  obtain ⟨x3,rfl,_⟩:=h3
  rw [ty_int ti_kint] at h4
  obtain ⟨x4,rfl,_⟩:=h4
  rw [ty_int ti_kint] at h5
  obtain ⟨x5,rfl,_⟩:=h5
  exact ⟨⟨x0,x1,x2,x3,x4,x5⟩,rfl,trivial⟩
theorem tyRefs {d:Nat} {cs:List AV} (h:tyC Tryz.prog (d+3) 29 cs):∃ l:List SRef,cs=[.slice .any 6 (l.map refAV)]∧l.length*Tryz.prog.bytesOf 120≤140737488351232∧∀ a∈l,(fun _=>True) a:=by
  rw [ty_slice ti_krefs] at h
  obtain ⟨xs,rfl,hl,hx⟩:=h
  obtain ⟨l,rfl,hq⟩:=list_lift (f:=refAV) (q:=(fun _=>True)) xs fun x hm=>by
    have h':tyV Tryz.prog (d+2) 120 x:=hx x hm
    rw [ty_agg ti_kref rfl] at h'
    obtain ⟨cs,rfl,h'⟩:=h'
    obtain ⟨a,e,ha⟩:=tyRef h'
    exact ⟨a,congrArg AV.agg e,ha⟩
  rw [List.length_map] at hl
  exact ⟨l,by rw [sizeT_of ti_kref],hl,hq⟩
theorem bytes_len {n b:Nat} (h:n*b≤140737488351232) (hb:1≤b):n≤140737488351232:=Nat.le_trans (Nat.le_trans (by rw [Nat.mul_one];exact Nat.le_refl n) (Nat.mul_le_mul_left n hb)) h
end Go.AL


open Go Go.AL Go.Proofs
namespace Go.AL
set_option linter.all false
set_option maxRecDepth 10000
theorem blen {n b:Nat} (h:n*b≤140737488351232) (hb:1≤b):n≤140737488355328:=Nat.le_trans (bytes_len h hb) (by decide)
theorem tyIntsC {d:Nat} {cs:List AV} (h:tyC Tryz.prog (d+2) 46 cs):∃ l:List Int,cs=[.slice .any 1 (inL l)]∧l.length≤140737488355328:=by
  rw [ty_slice ti_kints] at h
  obtain ⟨xs,rfl,hl,hx⟩:=h
  obtain ⟨l,rfl,_⟩:=list_lift (f:=.int .i64) (q:=fun _=>True) xs fun x hm=>by obtain ⟨n,e,_⟩:=tyInt (d:=d) (hx x hm);exact ⟨n,e,trivial⟩
  rw [List.length_map] at hl
  exact ⟨l,by rw [sizeT_of ti_kint];rfl,blen hl (by decide +kernel)⟩
theorem tyBoolsC {d:Nat} {cs:List AV} (h:tyC Tryz.prog (d+2) 239 cs):∃ l:List Bool,cs=[.slice .any 1 (boL l)]∧l.length≤140737488355328:=by
  rw [ty_slice ti_kbools] at h
  obtain ⟨xs,rfl,hl,hx⟩:=h
  obtain ⟨l,rfl,_⟩:=list_lift (f:=.bool) (q:=fun _=>True) xs fun x hm=>by
    have:=hx x hm
    rw [ty_one ti_kbool rfl,ty_bool ti_kbool] at this
    obtain ⟨_,b,e⟩:=this
    cases e
    exact ⟨b,rfl,trivial⟩
  rw [List.length_map] at hl
  exact ⟨l,by rw [sizeT_of ti_kbool];rfl,blen hl (by decide +kernel)⟩
theorem tyValsC {d:Nat} {cs:List AV} (h:tyC Tryz.prog (d+3) 47 cs):∃ l:List Nat,cs=[.slice .any 2 (l.map vv)]∧l.length≤140737488355328:=by
  rw [ty_slice ti_kvals] at h
  obtain ⟨xs,rfl,hl,hx⟩:=h
  obtain ⟨l,rfl,hq⟩:=list_lift (f:=vv) (q:=okVal) xs fun x hm=>by
    have h':tyV Tryz.prog (d+2) 83 x:=hx x hm
    rw [ty_agg ti_kval rfl] at h'
    obtain ⟨cs,rfl,h'⟩:=h'
    obtain ⟨a,ha,e⟩:=tyValC h'
    exact ⟨a,congrArg AV.agg e,ha⟩
  rw [List.length_map] at hl
  exact ⟨l,by rw [sizeT_of ti_kval],blen hl (by decide +kernel)⟩
theorem tyHdrC {d:Nat} {cs:List AV} (h:tyC Tryz.prog (d+3) 114 cs):∃ x:SHeader,cs=(headerAV x).cells∧CHdr x:=by
  rw [ty_struct ti_khdr] at h
  obtain ⟨a0,r0,rfl,_,h0,a1,r1,rfl,_,h1,a2,r2,rfl,_,h2,rfl⟩:=h
  rw [ty_int ti_kint] at h0
  obtain ⟨x0,rfl,_⟩:=h0
  rw [ty_string ti_kstr] at h1
  obtain ⟨x1,rfl,_⟩:=h1
  obtain ⟨x2,rfl,l2⟩:=tyIntsC h2
  exact ⟨⟨x0,x1,x2⟩,rfl,l2⟩
theorem tyHdrsC {d:Nat} {cs:List AV} (h:tyC Tryz.prog (d+4) 23 cs):∃ l:List SHeader,cs=[.slice .any 3 (l.map headerAV)]∧l.length*Tryz.prog.bytesOf 114≤140737488351232∧∀ a∈l,CHdr a:=by
  rw [ty_slice ti_khdrs] at h
  obtain ⟨xs,rfl,hl,hx⟩:=h
  obtain ⟨l,rfl,hq⟩:=list_lift (f:=headerAV) (q:=CHdr) xs fun x hm=>by
    have h':tyV Tryz.prog (d+3) 114 x:=hx x hm
    rw [ty_agg ti_khdr rfl] at h'
    obtain ⟨cs,rfl,h'⟩:=h'
    obtain ⟨a,e,ha⟩:=tyHdrC h'
    exact ⟨a,congrArg AV.agg e,ha⟩
  rw [List.length_map] at hl
  exact ⟨l,by rw [sizeT_of ti_khdr],hl,hq⟩
theorem tyStaC {d:Nat} {cs:List AV} (h:tyC Tryz.prog (d+5) 149 cs):∃ x:SState,cs=(stateAV x).cells∧CSta x:=by
  rw [ty_struct ti_ksta] at h
  obtain ⟨a0,r0,rfl,_,h0,a1,r1,rfl,_,h1,a2,r2,rfl,_,h2,a3,r3,rfl,_,h3,a4,r4,rfl,_,h4,rfl⟩:=h
  rw [ty_int ti_kint] at h0
  obtain ⟨x0,rfl,_⟩:=h0
  rw [ty_int ti_kint] at h1
  obtain ⟨x1,rfl,_⟩:=h1
  rw [ty_int ti_kint] at h2
  obtain ⟨x2,rfl,_⟩:=h2
  obtain ⟨x3,rfl,l3,q3⟩:=tyCass h3
  rw [ty_int ti_kint] at h4
  obtain ⟨x4,rfl,_⟩:=h4
  exact ⟨⟨x0,x1,x2,x3,x4⟩,rfl,blen l3 (by decide +kernel)⟩
theorem tyStasC {d:Nat} {cs:List AV} (h:tyC Tryz.prog (d+6) 24 cs):∃ l:List SState,cs=[.slice .any 5 (l.map stateAV)]∧l.length*Tryz.prog.bytesOf 149≤140737488351232∧∀ a∈l,CSta a:=by
  rw [ty_slice ti_kstas] at h
  obtain ⟨xs,rfl,hl,hx⟩:=h
  obtain ⟨l,rfl,hq⟩:=list_lift (f:=stateAV) (q:=CSta) xs fun x hm=>by
    have h':tyV Tryz.prog (d+5) 149 x:=hx x hm
    rw [ty_agg ti_ksta rfl] at h'
    obtain ⟨cs,rfl,h'⟩:=h'
    obtain ⟨a,e,ha⟩:=tyStaC h'
    exact ⟨a,congrArg AV.agg e,ha⟩
  rw [List.length_map] at hl
  exact ⟨l,by rw [sizeT_of ti_ksta],hl,hq⟩
theorem tyActC {d:Nat} {cs:List AV} (h:tyC Tryz.prog (d+6) 53 cs):∃ x:SAction,cs=(actionAV x).cells∧CAct x:=by
  rw [ty_struct ti_kact] at h
  obtain ⟨a0,r0,rfl,_,h0,a1,r1,rfl,_,h1,a2,r2,rfl,_,h2,a3,r3,rfl,_,h3,a4,r4,rfl,_,h4,rfl⟩:=h
  rw [ty_int ti_kint] at h0
  obtain ⟨x0,rfl,_⟩:=h0
  rw [ty_string ti_kstr] at h1
  obtain ⟨x1,rfl,_⟩:=h1
  obtain ⟨x2,rfl,l2,q2⟩:=tyPars h2
  obtain ⟨x3,rfl,l3,q3⟩:=tyPrms h3
  rw [ty_string ti_kstr] at h4
  obtain ⟨x4,rfl,_⟩:=h4
  exact ⟨⟨x0,x1,x2,x3,x4⟩,rfl,blen l2 (by decide +kernel),blen l3 (by decide +kernel)⟩
theorem tyActsC {d:Nat} {cs:List AV} (h:tyC Tryz.prog (d+7) 25 cs):∃ l:List SAction,cs=[.slice .any 5 (l.map actionAV)]∧l.length*Tryz.prog.bytesOf 53≤140737488351232∧∀ a∈l,CAct a:=by
  rw [ty_slice ti_kacts] at h
  obtain ⟨xs,rfl,hl,hx⟩:=h
  obtain ⟨l,rfl,hq⟩:=list_lift (f:=actionAV) (q:=CAct) xs fun x hm=>by
    have h':tyV Tryz.prog (d+6) 53 x:=hx x hm
    rw [ty_agg ti_kact rfl] at h'
    obtain ⟨cs,rfl,h'⟩:=h'
    obtain ⟨a,e,ha⟩:=tyActC h'
    exact ⟨a,congrArg AV.agg e,ha⟩
  rw [List.length_map] at hl
  exact ⟨l,by rw [sizeT_of ti_kact],hl,hq⟩
theorem tyTabC {d:Nat} {cs:List AV} (h:tyC Tryz.prog (d+5) 49 cs):∃ x:STable,cs=(tableAV x).cells∧CTab x:=by
  rw [ty_struct ti_ktab] at h
  obtain ⟨a0,r0,rfl,_,h0,a1,r1,rfl,_,h1,a2,r2,rfl,_,h2,a3,r3,rfl,_,h3,a4,r4,rfl,_,h4,a5,r5,rfl,_,h5,a6,r6,rfl,_,h6,a7,r7,rfl,_,h7,rfl⟩:=h
  rw [ty_int ti_kint] at h0
  obtain ⟨x0,rfl,_⟩:=h0
  rw [ty_string ti_kstr] at h1
  obtain ⟨x1,rfl,_⟩:=h1
  obtain ⟨x2,rfl,l2,q2⟩:=tyKeys h2
  obtain ⟨x3,rfl,l3⟩:=tyIntsC h3
  rw [ty_int ti_kint] at h4
  obtain ⟨x4,rfl,_⟩:=h4
  obtain ⟨x5,rfl,l5⟩:=tyValsC h5
  rw [ty_int ti_kint] at h6
  obtain ⟨x6,rfl,_⟩:=h6
  rw [ty_string ti_kstr] at h7
  obtain ⟨x7,rfl,_⟩:=h7
  exact ⟨⟨x0,x1,x2,x3,x4,x5,x6,x7⟩,rfl,blen l2 (by decide +kernel),l3,l5⟩
theorem tyTabsC {d:Nat} {cs:List AV} (h:tyC Tryz.prog (d+6) 26 cs):∃ l:List STable,cs=[.slice .any 8 (l.map tableAV)]∧l.length*Tryz.prog.bytesOf 49≤140737488351232∧∀ a∈l,CTab a:=by
  rw [ty_slice ti_ktabs] at h
  obtain ⟨xs,rfl,hl,hx⟩:=h
  obtain ⟨l,rfl,hq⟩:=list_lift (f:=tableAV) (q:=CTab) xs fun x hm=>by
    have h':tyV Tryz.prog (d+5) 49 x:=hx x hm
    rw [ty_agg ti_ktab rfl] at h'
    obtain ⟨cs,rfl,h'⟩:=h'
    obtain ⟨a,e,ha⟩:=tyTabC h'
    exact ⟨a,congrArg AV.agg e,ha⟩
  rw [List.length_map] at hl
  exact ⟨l,by rw [sizeT_of ti_ktab],hl,hq⟩
theorem tyGraC {d:Nat} {cs:List AV} (h:tyC Tryz.prog (d+3) 241 cs):∃ x:SGrant,cs=(grantAV x).cells∧CGra x:=by
  rw [ty_struct ti_kgra] at h
  obtain ⟨a0,r0,rfl,_,h0,a1,r1,rfl,_,h1,a2,r2,rfl,_,h2,a3,r3,rfl,_,h3,rfl⟩:=h
  rw [ty_int ti_kint] at h0
  obtain ⟨x0,rfl,_⟩:=h0
  rw [ty_bool ti_kbool] at h1
  obtain ⟨x1,rfl⟩:=h1
  rw [ty_bool ti_kbool] at h2
  obtain ⟨x2,rfl⟩:=h2
  obtain ⟨x3,rfl,l3⟩:=tyBoolsC h3
  exact ⟨⟨x0,x1,x2,x3⟩,rfl,l3⟩
theorem tyGrasC {d:Nat} {cs:List AV} (h:tyC Tryz.prog (d+4) 123 cs):∃ l:List SGrant,cs=[.slice .any 4 (l.map grantAV)]∧l.length*Tryz.prog.bytesOf 241≤140737488351232∧∀ a∈l,CGra a:=by
  rw [ty_slice ti_kgras] at h
  obtain ⟨xs,rfl,hl,hx⟩:=h
  obtain ⟨l,rfl,hq⟩:=list_lift (f:=grantAV) (q:=CGra) xs fun x hm=>by
    have h':tyV Tryz.prog (d+3) 241 x:=hx x hm
    rw [ty_agg ti_kgra rfl] at h'
    obtain ⟨cs,rfl,h'⟩:=h'
    obtain ⟨a,e,ha⟩:=tyGraC h'
    exact ⟨a,congrArg AV.agg e,ha⟩
  rw [List.length_map] at hl
  exact ⟨l,by rw [sizeT_of ti_kgra],hl,hq⟩
theorem tyRolC {d:Nat} {cs:List AV} (h:tyC Tryz.prog (d+5) 125 cs):∃ x:SRole,cs=(roleAV x).cells∧CRol x:=by
  rw [ty_struct ti_krol] at h
  obtain ⟨a0,r0,rfl,_,h0,a1,r1,rfl,_,h1,a2,r2,rfl,_,h2,a3,r3,rfl,_,h3,a4,r4,rfl,_,h4,a5,r5,rfl,_,h5,rfl⟩:=h
  rw [ty_int ti_kint] at h0
  obtain ⟨x0,rfl,_⟩:=h0
  rw [ty_string ti_kstr] at h1
  obtain ⟨x1,rfl,_⟩:=h1
  obtain ⟨x2,rfl,l2,q2⟩:=tyGrasC h2
  obtain ⟨x3,rfl,l3⟩:=tyIntsC h3
  rw [ty_int ti_kint] at h4
  obtain ⟨x4,rfl,_⟩:=h4
  rw [ty_bool ti_kbool] at h5
  obtain ⟨x5,rfl⟩:=h5
  exact ⟨⟨x0,x1,x2,x3,x4,x5⟩,rfl,blen l2 (by decide +kernel),l3,q2⟩
theorem tyRolsC {d:Nat} {cs:List AV} (h:tyC Tryz.prog (d+6) 28 cs):∃ l:List SRole,cs=[.slice .any 6 (l.map roleAV)]∧l.length*Tryz.prog.bytesOf 125≤140737488351232∧∀ a∈l,CRol a:=by
  rw [ty_slice ti_krols] at h
  obtain ⟨xs,rfl,hl,hx⟩:=h
  obtain ⟨l,rfl,hq⟩:=list_lift (f:=roleAV) (q:=CRol) xs fun x hm=>by
    have h':tyV Tryz.prog (d+5) 125 x:=hx x hm
    rw [ty_agg ti_krol rfl] at h'
    obtain ⟨cs,rfl,h'⟩:=h'
    obtain ⟨a,e,ha⟩:=tyRolC h'
    exact ⟨a,congrArg AV.agg e,ha⟩
  rw [List.length_map] at hl
  exact ⟨l,by rw [sizeT_of ti_krol],hl,hq⟩
theorem tySchC {d:Nat} {x:AV} (h:tyV Tryz.prog (d+8) 31 x):∃ s:Sch,x=.agg (schC s)∧CSch s:=by
  rw [ty_agg ti_ksch rfl] at h
  obtain ⟨cs,rfl,h⟩:=h
  rw [ty_struct ti_ksch] at h
  obtain ⟨a0,r0,rfl,_,h0,a1,r1,rfl,_,h1,a2,r2,rfl,_,h2,a3,r3,rfl,_,h3,a4,r4,rfl,_,h4,a5,r5,rfl,_,h5,a6,r6,rfl,_,h6,a7,r7,rfl,_,h7,a8,r8,rfl,_,h8,a9,r9,rfl,_,h9,rfl⟩:=h
  obtain ⟨x0,rfl,l0,_⟩:=tyFlds h0
  obtain ⟨x1,rfl,l1,q1⟩:=tyHdrsC h1
  obtain ⟨x2,rfl,l2,q2⟩:=tyStasC h2
  obtain ⟨x3,rfl,l3,q3⟩:=tyActsC h3
  obtain ⟨x4,rfl,l4,q4⟩:=tyTabsC h4
  obtain ⟨x5,rfl,l5,_⟩:=tyStgs h5
  obtain ⟨x6,rfl,l6,q6⟩:=tyRolsC h6
  obtain ⟨x7,rfl,l7,_⟩:=tyRefs h7
  rw [ty_int ti_kint] at h8 h9
  obtain ⟨x8,rfl,_⟩:=h8
  obtain ⟨x9,rfl,_⟩:=h9
  exact ⟨⟨x0,x1,x2,x3,x4,x5,x6,x7,x8,x9⟩,rfl,⟨blen l0 (by decide +kernel),blen l1 (by decide +kernel),q1,blen l2 (by decide +kernel),q2,blen l3 (by decide +kernel),q3,blen l4 (by decide +kernel),q4,blen l5 (by decide +kernel),blen l6 (by decide +kernel),q6,blen l7 (by decide +kernel)⟩⟩
end Go.AL

