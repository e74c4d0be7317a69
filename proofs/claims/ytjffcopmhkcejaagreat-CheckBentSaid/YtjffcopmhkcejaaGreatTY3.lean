/- Lemmas of the proof; no condition. -/
import Derived.Test.YtjffcopmhkcejaaGreatW03p
import Derived.Test.YtjffcopmhkcejaaGreatAlTop
set_option linter.all false
set_option maxRecDepth 10000
open Go Go.AL Go.Proofs
namespace Go.AL
theorem uP:ti Tryz.prog 3=some ⟨.int .i64,1,8,.int .i64 0⟩:=krf
theorem yT:ti Tryz.prog 9=some ⟨.string,1,16,.str []⟩:=krf
theorem HM:ti Tryz.prog 4=some ⟨.bool,1,1,.bool false⟩:=krf
theorem z7:ti Tryz.prog 5=some ⟨.int .u8,1,1,.int .u8 0⟩:=krf
theorem O4:ti Tryz.prog 92=some ⟨.int .u64,1,8,.int .u64 0⟩:=krf
def tL:tSl Tryz.prog 22 5:=kSl
theorem Ny:ti Tryz.prog 94=some ⟨.struct [(0,92,false),(1,92,false)],2,16,.agg [.int .u64 0,.int .u64 0]⟩:=krf
def LP:tSl Tryz.prog 60 94:=kSl
def vM:tSl Tryz.prog 23 3:=kSl
def F7:tSl Tryz.prog 107 4:=kSl
theorem N3:ti Tryz.prog 50=some ⟨.struct [(0,3,false),(1,9,false),(2,3,false)],3,32,.agg [.int .i64 0,.str [],.int .i64 0]⟩:=krf
def KV:tSl Tryz.prog 25 50:=kSl
theorem O1:ti Tryz.prog 52=some ⟨.struct [(0,3,false),(1,9,false),(2,23,false)],3,48,.agg [.int .i64 0,.str [],.slice .nil 1 []]⟩:=krf
def Mm:tSl Tryz.prog 26 52:=kSl
theorem P2:ti Tryz.prog 96=some ⟨.struct [(0,94,false),(2,94,false),(4,3,false)],5,40,.agg [.int .u64 0,.int .u64 0,.int .u64 0,.int .u64 0,.int .i64 0]⟩:=krf
def Jh:tSl Tryz.prog 67 96:=kSl
theorem P7:ti Tryz.prog 69=some ⟨.struct [(0,3,false),(1,3,false),(2,3,false),(3,67,false),(4,3,false)],5,56,.agg [.int .i64 0,.int .i64 0,.int .i64 0,.slice .nil 1 [],.int .i64 0]⟩:=krf
def Il:tSl Tryz.prog 27 69:=kSl
theorem Ov:ti Tryz.prog 98=some ⟨.struct [(0,3,false),(1,3,false),(2,94,false)],4,32,.agg [.int .i64 0,.int .i64 0,.int .u64 0,.int .u64 0]⟩:=krf
theorem PE:ti Tryz.prog 100=some ⟨.struct [(0,3,false),(1,3,false),(2,98,false)],6,48,.agg [.int .i64 0,.int .i64 0,.int .i64 0,.int .i64 0,.int .u64 0,.int .u64 0]⟩:=krf
def L8:tSl Tryz.prog 72 100:=kSl
theorem Pr:ti Tryz.prog 102=some ⟨.struct [(0,9,false),(1,3,false)],2,24,.agg [.str [],.int .i64 0]⟩:=krf
def K6:tSl Tryz.prog 71 102:=kSl
theorem QB:ti Tryz.prog 74=some ⟨.struct [(0,3,false),(1,9,false),(2,71,false),(3,72,false),(4,9,false)],5,88,.agg [.int .i64 0,.str [],.slice .nil 1 [],.slice .nil 1 [],.str []]⟩:=krf
def JH:tSl Tryz.prog 28 74:=kSl
theorem Nl:ti Tryz.prog 104=some ⟨.struct [(0,9,false),(1,3,false),(2,3,false)],3,32,.agg [.str [],.int .i64 0,.int .i64 0]⟩:=krf
def IE:tSl Tryz.prog 59 104:=kSl
theorem PI:ti Tryz.prog 62=some ⟨.struct [(0,3,false),(1,9,false),(2,59,false),(3,23,false),(4,3,false),(5,60,false),(6,3,false),(7,9,false)],8,128,.agg [.int .i64 0,.str [],.slice .nil 1 [],.slice .nil 1 [],.int .i64 0,.slice .nil 1 [],.int .i64 0,.str []]⟩:=krf
def HG:tSl Tryz.prog 29 62:=kSl
theorem QZ:ti Tryz.prog 58=some ⟨.struct [(0,3,false),(1,3,false)],2,16,.agg [.int .i64 0,.int .i64 0]⟩:=krf
def Ms:tSl Tryz.prog 30 58:=kSl
theorem Qi:ti Tryz.prog 109=some ⟨.struct [(0,3,false),(1,4,false),(2,4,false),(3,107,false)],4,40,.agg [.int .i64 0,.bool false,.bool false,.slice .nil 1 []]⟩:=krf
def Mp:tSl Tryz.prog 77 109:=kSl
theorem Qz:ti Tryz.prog 79=some ⟨.struct [(0,3,false),(1,9,false),(2,77,false),(3,23,false),(4,3,false),(5,4,false)],6,88,.agg [.int .i64 0,.str [],.slice .nil 1 [],.slice .nil 1 [],.int .i64 0,.bool false]⟩:=krf
def Ku:tSl Tryz.prog 31 79:=kSl
theorem Qo:ti Tryz.prog 44=some ⟨.struct [(0,3,false),(1,3,false),(2,3,false),(3,3,false),(4,3,false),(5,3,false)],6,48,.agg [.int .i64 0,.int .i64 0,.int .i64 0,.int .i64 0,.int .i64 0,.int .i64 0]⟩:=krf
def MU:tSl Tryz.prog 32 44:=kSl
theorem Qw:ti Tryz.prog 34=some ⟨.struct [(0,25,false),(1,26,false),(2,27,false),(3,28,false),(4,29,false),(5,30,false),(6,31,false),(7,32,false),(8,3,false),(9,3,false)],10,208,.agg [.slice .nil 1 [],.slice .nil 1 [],.slice .nil 1 [],.slice .nil 1 [],.slice .nil 1 [],.slice .nil 1 [],.slice .nil 1 [],.slice .nil 1 [],.int .i64 0,.int .i64 0]⟩:=krf
attribute [go_sem] uP yT HM z7 O4 tL Ny LP vM F7 N3 KV O1 Mm P2 Jh P7 Il Ov PE L8 Pr K6 QB JH Nl IE PI HG QZ Ms Qi Mp Qz Ku Qo MU Qw
def DJ{d:Nat}{x:AV}(h:tyV Tryz.prog (d+1) 3 x):∃ n,x=.int .i64 n∧ -9223372036854775808≤n∧n<9223372036854775808:=by
 rw[wN uP rfl,Kg uP]at h
 obtain⟨_,n,e,n1,n2⟩:=h
 cases e
 exact⟨n,rfl,by simp[IntKind.min,IntKind.signed,IntKind.bits]at n1;omega,by simp[IntKind.max,IntKind.signed,IntKind.bits]at n2;omega⟩
def T0{d:Nat}{x:AV}(h:tyV Tryz.prog (d+1) 9 x):∃ s,x=.str s∧s.length≤140737488351232:=by
 rw[wN yT rfl,Gf yT]at h
 obtain⟨_,s,e,hl⟩:=h
 cases e
 exact⟨s,rfl,hl⟩
def Qs{d:Nat}{x:AV}(h:tyV Tryz.prog (d+3) 22 x):∃ s,x=.slice .any 1 s∧isB s:=by
 rw[wN tL rfl,AR tL]at h
 obtain⟨_,xs,e,_,hx⟩:=h
 cases e
 refine⟨xs,by rw[AW z7],Sb fun x hm=>?_⟩
 have:=hx x hm
 rw[wN z7 rfl,Kg z7]at this
 obtain⟨_,m,e,m1,m2⟩:=this
 cases e
 exact⟨m,rfl,by simpa[IntKind.min,IntKind.signed]using m1,by simp[IntKind.max,IntKind.signed,IntKind.bits]at m2;omega⟩
theorem yk{α:Type}{f:α→AV}{q:α→Prop}:∀(l:Wz),(∀ x∈l,∃ a,x=f a∧q a)→∃ l':List α,l=l'.map f∧∀ a∈l',q a
 |[],_=>⟨[],rfl,Xc⟩
 |x::l,h=>by
  obtain⟨a,ha,qa⟩:=h x List.mem_cons_self
  obtain⟨l',hl,ql⟩:=yk l fun y hy=>h y (List.mem_cons_of_mem _ hy)
  exact⟨a::l',by rw[ha,hl];rfl,fun b hb=>(List.mem_cons.1 hb).elim (fun e=>e▸qa) (ql b)⟩
end Go.AL
