/- Contracts and plain laws, a part of the proof; no condition of its own. -/
import Derived.Test.YtokjjhidigoodaaS09e
import Derived.Test.YtokjjhidigoodaaS10j
set_option maxHeartbeats 32000000
open List renaming length_cons → yaz, length_nil → yba, take_of_length_le → ybc, drop_append → ybd, take_append → ybe, drop_eq_nil_of_le → ybf, length_map → ybb, cons_append → yal, nil_append → yak
open Go Go.AL Go.Proofs
namespace Go.AL
set_option linter.all false
set_option maxRecDepth 10000
theorem yi {l:List Tok}:∀ p t a q t',df l p t=.ok a q t'→AllN tD t→AllN tD t':=by
 intro p t a q t' h hg
 unfold df at h
 repeat' split at h
 all_goals first|(cases h;done)|(cases h;exact hg.snoc fun h2=>by first|(exact absurd (show (1:Nat)=2 from h2) (by decide))|(exact absurd (show (3:Nat)=2 from h2) (by decide))|exact Nat.le_refl 1|exact Nat.zero_le 1)
theorem sK {l:List Tok} {r:PR} {f:Nat} (h:run l f .imp 0 []=some r):AllN tD (cT l r).1:=by
 have h0:AllN tD ([]:List Nd):=fun n hn=>by cases hn
 cases r with
 |bad p=>exact h0
 |ok a p t =>
  dsimp only [cT]
  split
  ·exact h0
  ·split
   ·exact h0
   ·exact sk (fun _ _ _ h=>fun h3=>by simp only [nd2] at h3;omega) yi f h h0
theorem zT {kn:VN→Bool} {s:List UInt8} (h:(comp kn s).2=0):okC (comp kn s).1:=by
 obtain ⟨h1,h2,h3,h4⟩:=Cc h
 refine ⟨h3,h1,h2,?_,h4⟩
 unfold comp
 split
 ·intro n hn
  have:n=⟨2,0,0,[],[],1⟩:=by simpa [oneT] using hn
  subst this
  intro _
  decide
 ·obtain ⟨f,hf⟩:=nJ (bX s).1
  unfold tY
  repeat' split
  all_goals first|exact sK hf|(intro n hn;cases hn)
def fk (l:List Nat):List AV:=l.map fun v=>.agg [.int .u64 ((v/2^64:Nat):Int),.int .u64 ((v % 2^64:Nat):Int)]
theorem fT {l:List Nat}:(fk l).length=l.length:=by simp [fk]
theorem pk {l:List Nat} {k:Nat} (h:k<l.length):(fk l).getD k .junk=.agg [.int .u64 ((l[k]/2^64:Nat):Int),.int .u64 ((l[k] % 2^64:Nat):Int)]:=by
 simp [fk,List.getD_eq_getElem?_getD,h]
end Go.AL
open Go Go.AL Go.Proofs
namespace Go.AL
set_option linter.all false
set_option maxRecDepth 10000
theorem Et {P:Program} {f:FuncId} {p q:List AV→AHeap→(AV→Prop)→Prop} (h1:EntOk P f (Ent.pure p)) (h2:EntOk P f (Ent.pure q)):EntOk P f (Ent.pure fun a H K=>p a H K∨q a H K) :=
 EntOk.pure fun a H K h=>h.elim (h1.1 rfl a H K) (h2.1 rfl a H K)
/-- a slice of these rows, or none -/
def vt (x:AV) (sz:Nat) (l:List AV):Prop:=(∃ m,x=.slice m sz l)∨(x=.slice .nil 1 []∧l=[])
def n4:List AV→AHeap→(AV→Prop)→Prop
 |[.slice .nil 1 [],.func f [] [.ptr c 0]],_,K=>K (.int .i64 (-1))
 |_,_,_=>False
theorem zA:EntOk Try.prog 65 (Ent.pure n4):=by
 refine EntOk.pure fun args H K h=>?_
 unfold n4 at h
 split at h
 rotate_left
 ·exact h.elim
 rename_i f c
 refine ⟨_,h,?_⟩
 clear h
 refine ACalls.fW aD TblOk.nil Try.func65 [.tmp 4] (Nat.le_refl _) (T:=az []) (h:=fun hcl hlt=>?_)
 have hf:AV.lt H.nx (.func f [] [.ptr c 0]):=hlt _ (by simp)
 clear hlt
 simp only [go_sem]
 refine aB (A:=Nat) (fun k=>[(0,.slice .nil 1 []),(1,.func f [] [.ptr c 0]),(7,.int .i64 0),(8,.int .i64 0)]) (fun _=>H) (fun k=>True) (fun k=>0) 0 trivial ?_ fun k hk=>?_
 ·refine ⟨Nat.le_refl _,AHeap.Le.refl _,hcl,?_,?_⟩
  ·simp [ltF,znb,hf,zmj]
  ·simp [aI,wk2,wk1,wkM,Fr.get]
 have d0:decide ((0:Int)<0)=false:=rfl
 simp only [go_sem,d0]
 simp (disch:=first|assumption|omega|(simp;done)|(simp;omega)|(simp only [bt,and_true];first|done|omega|(simp;done))) [↓zmk,beq,ybc,ybd,ybe,ag,wk,wk2,wk1,wkM,wkL,am,ybf,hcl]
def Bt:List AV→AHeap→(AV→Prop)→Prop:=fun a H K=>ux a H K∨n4 a H K
theorem tc:EntOk Try.prog 65 (Ent.pure Bt):=Et Cj zA
def iV:List AV→AHeap→(AV→Prop)→Prop
 |[.agg [x,_,_,_,_,_,_,_,_,_],.int .i64 n],_,K=>∃ fs:List SField,(vt x 3 (fs.map bY)∧fs.length≤1000000)∧K (.int .i64 (ixP (fun t:SField=>t.id==n) fs 0))
 |_,_,_=>False
theorem nw:EntOk Try.prog 46 (Ent.pure iV):=by
 refine EntOk.pure fun args H K h=>?_
 unfold iV at h
 split at h
 rotate_left
 ·exact h.elim
 rename_i x b1 b2 b3 b4 b5 b6 b7 b8 b9 n
 obtain ⟨fs,⟨hx,hl⟩,hK⟩:=h
 refine ⟨_,hK,?_⟩
 clear hK
 rcases hx with ⟨m,rfl⟩|⟨rfl,he⟩
 ·skip
  refine ACalls.fW aD (TblOk.cons tc TblOk.nil) Try.func46 [.tmp 4] (Nat.le_refl _) (T:=az []) (h:=fun hcl hlt=>?_)
  clear hlt
  simp only [go_sem]
  refine .inl ⟨fs,n,⟨rfl,by simp only [go_sem],hl⟩,?_⟩
  simp only [go_sem]
  simp (disch:=first|assumption|omega|(simp;done)|(simp;omega)|(simp only [bt,and_true];first|done|omega|(simp;done))) [↓zmk,beq,ybc,ybd,ybe,ag,wk,wk2,wk1,wkM,wkL,am,ybf,hcl]
 ·obtain rfl:fs=[]:=List.map_eq_nil_iff.1 he
  refine ACalls.fW aD (TblOk.cons tc TblOk.nil) Try.func46 [.tmp 4] (Nat.le_refl _) (T:=az []) (h:=fun hcl hlt=>?_)
  clear hlt
  simp only [go_sem]
  refine .inr ?_
  simp only [go_sem,n4,ixP]
  simp (disch:=first|assumption|omega|(simp;done)|(simp;omega)|(simp only [bt,and_true];first|done|omega|(simp;done))) [↓zmk,beq,ybc,ybd,ybe,ag,wk,wk2,wk1,wkM,wkL,am,ybf,hcl]
def ww:List AV→AHeap→(AV→Prop)→Prop
 |[.agg [x,_,_,_,_,_,_,_,_,_],.int .i64 n],_,K=>∃ fs:List SField,(vt x 3 (fs.map bY)∧fs.length≤1000000)∧K (.int .i64 (gl fs n))
 |_,_,_=>False
theorem Aj:EntOk Try.prog 29 (Ent.pure ww):=by
 refine EntOk.pure fun args H K h=>?_
 unfold ww at h
 split at h
 rotate_left
 ·exact h.elim
 rename_i x b1' b2' b3 b4 b5 b6 b7 b8 b9 fld
 obtain ⟨fs,⟨hx,hl⟩,hK⟩:=h
 refine ⟨_,hK,?_⟩
 clear hK
 rw [tm]
 obtain ⟨b1,b2⟩:=rN (q:=fun f:SField=>f.id==fld) (l:=fs) (k:=0)
 rcases b2 with b2|b2
 ·rw [oo b2]
  refine ACalls.fW aD (TblOk.cons nw TblOk.nil) Try.func29 [.tmp 4] (Nat.le_refl _) (T:=az []) (h:=fun hcl hlt=>?_)
  clear hlt
  simp only [go_sem,iV]
  (repeat with_reducible refine And.intro (by first|exact True.intro|decide|omega|(simp [zim,zgm,zgn,zgo,zgq,zgp,zgu];first|done|omega)) ?_)
  refine ⟨fs,⟨hx,hl⟩,?_⟩
  rw [b2]
  have d:decide ((-1:Int)<0)=true:=rfl
  simp only [bM,go_sem,d]
  simp (disch:=first|assumption|omega|(simp;done)|(simp;omega)|(simp only [bt,and_true];first|done|omega|(simp;done))) [↓zmk,beq,ybc,ybd,ybe,ag,wk,wk2,wk1,wkM,wkL,am,ybf,hcl]
 ·obtain ⟨i,hi⟩:∃ i:Nat,ixP (fun f:SField=>f.id==fld) fs 0=((0+i:Nat):Int):=⟨(ixP (fun f:SField=>f.id==fld) fs 0).toNat,by omega⟩
  obtain ⟨y,h1,h2,h3⟩:=q9 hi
  rw [h3]
  rw [Nat.zero_add] at hi
  have hil:i<fs.length:=by
   rcases Nat.lt_or_ge i fs.length with h|h
   ·exact h
   ·rw [List.getElem?_eq_none h] at h1;cases h1
  have hg':=cJ (f:=bY) (l:=fs) (k:=i) (x:=y) h1
  have d:decide ((i:Int)<0)=false:=by simp
  obtain ⟨m,rfl⟩:∃ m,x=.slice m 3 (fs.map bY):=by
   rcases hx with h|⟨_,h⟩
   ·exact h
   ·rw [List.map_eq_nil_iff.1 h] at hil;exact absurd hil (by simp)
  refine ACalls.fW aD (TblOk.cons nw TblOk.nil) Try.func29 [.tmp 4] (Nat.le_refl _) (T:=az []) (h:=fun hcl hlt=>?_)
  clear hlt
  simp only [go_sem,iV]
  (repeat with_reducible refine And.intro (by first|exact True.intro|decide|omega|(simp [zim,zgm,zgn,zgo,zgq,zgp,zgu];first|done|omega)) ?_)
  refine ⟨fs,⟨hx,hl⟩,?_⟩
  rw [hi]
  simp only [bM,go_sem,d,Int.toNat_natCast,hg',bY,ybb]
  (repeat with_reducible refine And.intro (by first|exact True.intro|decide|omega|(simp [zim,zgm,zgn,zgo,zgq,zgp,zgu];first|done|omega)) ?_)
  simp (disch:=first|assumption|omega|(simp;done)|(simp;omega)|(simp only [bt,and_true];first|done|omega|(simp;done))) [↓zmk,beq,ybc,ybd,ybe,ag,wk,wk2,wk1,wkM,wkL,am,ybf,hcl]
def rk:List AV→AHeap→(AV→Prop)→Prop
 |[.int .i64 n],_,K=>n<9223372036854775808∧K (vv n.toNat)
 |_,_,_=>False
theorem zB {n:Int} (h:n<9223372036854775808):vv n.toNat=.agg [.int .u64 0,.int .u64 (max 0 n)]:=by
 unfold vv
 have h1:n.toNat/2^64=0:=by omega
 have h2:((n.toNat % 2^64:Nat):Int)=max 0 n:=by omega
 rw [h1,h2];rfl
theorem v4:EntOk Try.prog 30 (Ent.pure rk):=by
 refine EntOk.pure fun args H K h=>?_
 unfold rk at h
 split at h
 rotate_left
 ·exact h.elim
 rename_i n
 obtain ⟨h1,hK⟩:=h
 refine ⟨_,hK,?_⟩
 clear hK
 rw [zB h1]
 have e1:IntKind.u64.wrap (max 0 n)=max 0 n:=by rw [gd]<;>omega
 refine ACalls.fW aD (TblOk.cons mN TblOk.nil) Try.func30 [.cell 2 95] (Nat.le_refl _) (T:=az []) (h:=fun hcl hlt=>?_)
 clear hlt
 simp only [go_sem,m7,e1]
 simp (disch:=first|assumption|omega|(simp;done)|(simp;omega)|(simp only [bt,and_true];first|done|omega|(simp;done))) [↓zmk,beq,ybc,ybd,ybe,ag,wk,wk2,wk1,wkM,wkL,am,ybf,hcl]
def kT:List UInt8:=[112,114,101,102,105,120,95,108,101,110,103,116,104]
def g8:List UInt8:=[109,97,115,107]
def ij:List UInt8:=[104,105,103,104]
/-- the value that an attribute of a match has -/
def e9 (x:SMatch) (a:List UInt8) (w:Int):Nat :=
 if a=kT then x.pfx.toNat else if a=g8 then x.mask else if a=ij then (if x.present=true then x.high else gQ w) else x.value
def sY:List AV→AHeap→(AV→Prop)→Prop
 |[.agg l,.str a,.int .i64 w],_,K=>∃ x,(l=dz x∧x.pfx<9223372036854775808)∧K (vv (e9 x a w))
 |_,_,_=>False
theorem xn:EntOk Try.prog 28 (Ent.pure sY):=by
 refine EntOk.pure fun args H K h=>?_
 unfold sY at h
 split at h
 rotate_left
 ·exact h.elim
 rename_i l a w
 obtain ⟨x,⟨rfl,hp⟩,hK⟩:=h
 refine ⟨_,hK,?_⟩
 clear hK
 refine ACalls.fW aD (TblOk.cons v4 (TblOk.cons zR TblOk.nil)) Try.func28 [.cell 6 95] (Nat.le_refl _) (T:=az []) (h:=fun hcl hlt=>?_)
 clear hlt
 by_cases h1:a=kT
 ·have hw:e9 x a w=x.pfx.toNat:=by unfold e9;rw [if_pos h1]
  rw [hw,h1]
  simp only [go_sem,dz,vc,yal,yak,List.append_assoc,kT,beq_self_eq_true,rk,vv]
  refine ⟨hp,?_⟩
  simp (disch:=first|assumption|omega|(simp;done)|(simp;omega)|(simp only [bt,and_true];first|done|omega|(simp;done))) [↓zmk,beq,ybc,ybd,ybe,ag,wk,wk2,wk1,wkM,wkL,am,ybf,hcl]
 have d1:(a==[112,114,101,102,105,120,95,108,101,110,103,116,104])=false:=beq_eq_false_iff_ne.2 h1
 by_cases h2:a=g8
 ·have d2:(a==[109,97,115,107])=true:=by rw [h2];rfl
  have hw:e9 x a w=x.mask:=by unfold e9;rw [if_neg h1,if_pos h2]
  rw [hw]
  simp only [go_sem,dz,vc,yal,yak,List.append_assoc,d1,d2,vv]
  simp (disch:=first|assumption|omega|(simp;done)|(simp;omega)|(simp only [bt,and_true];first|done|omega|(simp;done))) [↓zmk,beq,ybc,ybd,ybe,ag,wk,wk2,wk1,wkM,wkL,am,ybf,hcl]
 have d2:(a==[109,97,115,107])=false:=beq_eq_false_iff_ne.2 h2
 by_cases h3:a=ij
 ·have d3:(a==[104,105,103,104])=true:=by rw [h3];rfl
  cases hx:x.present
  ·have hw:e9 x a w=gQ w:=by unfold e9;rw [if_neg h1,if_neg h2,if_pos h3,hx,if_neg (by decide)]
   rw [hw]
   simp only [go_sem,dz,vc,yal,yak,List.append_assoc,d1,d2,d3,hx,rI,vv]
   simp (disch:=first|assumption|omega|(simp;done)|(simp;omega)|(simp only [bt,and_true];first|done|omega|(simp;done))) [↓zmk,beq,ybc,ybd,ybe,ag,wk,wk2,wk1,wkM,wkL,am,ybf,hcl]
  ·have hw:e9 x a w=x.high:=by unfold e9;rw [if_neg h1,if_neg h2,if_pos h3,hx,if_pos rfl]
   rw [hw]
   simp only [go_sem,dz,vc,yal,yak,List.append_assoc,d1,d2,d3,hx,vv]
   simp (disch:=first|assumption|omega|(simp;done)|(simp;omega)|(simp only [bt,and_true];first|done|omega|(simp;done))) [↓zmk,beq,ybc,ybd,ybe,ag,wk,wk2,wk1,wkM,wkL,am,ybf,hcl]
 have d3:(a==[104,105,103,104])=false:=beq_eq_false_iff_ne.2 h3
 have hw:e9 x a w=x.value:=by unfold e9;rw [if_neg h1,if_neg h2,if_neg h3]
 rw [hw]
 simp only [go_sem,dz,vc,yal,yak,List.append_assoc,d1,d2,d3,vv]
 simp (disch:=first|assumption|omega|(simp;done)|(simp;omega)|(simp only [bt,and_true];first|done|omega|(simp;done))) [↓zmk,beq,ybc,ybd,ybe,ag,wk,wk2,wk1,wkM,wkL,am,ybf,hcl]
end Go.AL
open Go Go.AL Go.Proofs
namespace Go.AL
set_option linter.all false
set_option maxRecDepth 10000
/-- the bindings of one key -/
def cI (fs:List SField) (q:SKey) (x:SMatch):List (VN × Nat):=(cu q.kind).map fun a=>((q.name,a),e9 x a (gl fs q.field))
def mY (fs:List SField) (keys:List SKey) (ms:List SMatch) (k:Nat):List (VN × Nat):=match keys[k]? with
 |some q=>cI fs q (ms.getD k cK)
 |none=>[]
def aV (fs:List SField) (keys:List SKey) (ms:List SMatch):Nat→List (VN × Nat)
 |0=>[]
 |k+1=>aV fs keys ms k++mY fs keys ms k
/-- the bindings of an entry -/
def ju (fs:List SField) (keys:List SKey) (ms:List SMatch) (p:Int):List (VN × Nat):=aV fs keys ms keys.length++[(lO,p.toNat)]
theorem xf {k:Int}:(cu k).length≤2:=by
 unfold cu
 repeat' split
 all_goals simp
theorem yl {fs:List SField} {keys:List SKey} {ms:List SMatch} {k:Nat}:(mY fs keys ms k).length≤2:=by
 unfold mY
 split
 ·unfold cI;rw [ybb];exact xf
 ·simp
theorem d8 {fs:List SField} {keys:List SKey} {ms:List SMatch}:∀ {k:Nat},(aV fs keys ms k).length≤2*k
 |0=>Nat.le_refl _
 |k+1=>by
  rw [aV,List.length_append]
  have:=@d8 fs keys ms k
  have:=@yl fs keys ms k
  omega
theorem eo {l:List (VN × Nat)} {a b:List UInt8} {v:Nat}:ay l++[.agg [.str a,.str b,.int .u64 ((v/2^64:Nat):Int),.int .u64 ((v % 2^64:Nat):Int)]]=ay (l++[((a,b),v)]):=by
 simp [ay,ey]
def nH:List AV→AHeap→(AV→Prop)→Prop
 |[.agg [x,b1,b2,b3,b4,b5,b6,b7,b8,b9],.agg [a1,a2,.slice _ 3 y,a3,a4,a5,a6,a7],.agg [.int .i64 n1,z,.int .i64 pr,.int .i64 n2,b]],_,K=>∃ (fs:List SField) (keys:List SKey) (ms:List SMatch),
   (vt x 3 (fs.map bY)∧fs.length≤1000000∧y=keys.map cg∧keys.length≤1000∧vt z 8 (ms.map bQ)∧ms.length≤4611686018427387904∧(∀ m∈ms,m.pfx<9223372036854775808)∧pr<9223372036854775808) ∧
   K (.slice .any 4 (ay (ju fs keys ms pr)))
 |_,_,_=>False
theorem sR:EntOk Try.prog 13 (Ent.pure nH):=by
 refine EntOk.pure fun args H K h=>?_
 unfold nH at h
 split at h
 rotate_left
 ·exact h.elim
 rename_i x b1 b2 b3 b4 b5 b6 b7 b8 b9 a1 a2 m y a3 a4 a5 a6 a7 n1 z pr n2 b
 obtain ⟨fs,keys,ms,⟨hx,hfl,rfl,hkl,hz,hml,hmp,hpr⟩,hK⟩:=h
 refine ⟨_,hK,?_⟩
 clear hK
 refine ACalls.fW aD (TblOk.cons kE (TblOk.cons Aj (TblOk.cons xn (TblOk.cons v4 TblOk.nil)))) Try.func13 [.tmp 6] (Nat.le_refl _) (T:=az [(12,[[],[],[],[],[],[],[],[],[],[],[],[8,10],[5,7,8,10,11],[],[2,4,5,7,8,10,11,12],[2,4,5,7,8,10,11,12]])]) (h:=fun hcl hlt=>?_)
 have hsc:=AV.lt_mono (Nat.le_succ H.nx) _ (hlt (.agg [x,b1,b2,b3,b4,b5,b6,b7,b8,b9]) (by simp))
 have htc:=fun n' (hn:H.nx≤n')=>AV.lt_mono hn _ (hlt (.agg [a1,a2,.slice m 3 (keys.map cg),a3,a4,a5,a6,a7]) (by simp))
 have hec:=fun n' (hn:H.nx≤n')=>AV.lt_mono hn _ (hlt (.agg [.int .i64 n1,z,.int .i64 pr,.int .i64 n2,b]) (by simp))
 have hm:∀ n',H.nx≤n'→AV.lt n' (.slice m 3 (keys.map cg)):=fun n' hn=>by have h1:=htc n' hn;rw [znn] at h1;exact h1.2.2.1
 simp only [znn] at hsc htc hec
 clear hlt
 obtain ⟨zm,zs,rfl,hzs⟩:∃ zm zs,z=.slice zm zs (ms.map bQ)∧(zs=8∨ms=[]):=by
  rcases hz with ⟨zm,rfl⟩|⟨rfl,h⟩
  ·exact ⟨zm,8,rfl,.inl rfl⟩
  ·exact ⟨.nil,1,by rw [h],.inr (List.map_eq_nil_iff.1 h)⟩
 simp only [go_sem,a9]
 have hc0:(((((H.push (.cells [x,b1,b2,b3,b4,b5,b6,b7,b8,b9])).push (.cells [a1,a2,.slice m 3 (keys.map cg),a3,a4,a5,a6,a7])).push (.cells [.int .i64 n1,.slice zm zs (ms.map bQ),.int .i64 pr,.int .i64 n2,b])).push (.buf 4 0)).push (.buf 4 0)).Closed :=
  af (af (ae (ae (ae hcl hsc) (htc _ (by simp only [go_sem];omega))) (hec _ (by simp only [go_sem];omega))))
 refine aB (A:=Nat × AHeap) (fun a=>[(3,.ptr H.nx 0),(5,.ptr (H.nx+1+1) 0),(7,.slice (.own (H.nx+1+1+1+1)) 4 (ay (aV fs keys ms a.1))),(15,.slice m 3 (keys.map cg)),(16,.int .i64 (keys.length:Int)),(17,.int .i64 (a.1:Int))]) (fun a=>a.2)
  (fun a=>a.1≤keys.length∧H.Le a.2∧a.2.Closed∧a.2.get H.nx=some (.cells [x,b1,b2,b3,b4,b5,b6,b7,b8,b9])∧a.2.get (H.nx+1+1)=some (.cells [.int .i64 n1,.slice zm zs (ms.map bQ),.int .i64 pr,.int .i64 n2,b])∧a.2.get (H.nx+1+1+1+1)=some (.buf 4 (aV fs keys ms a.1).length)) (fun a=>keys.length - a.1)
  (0,(((((H.push (.cells [x,b1,b2,b3,b4,b5,b6,b7,b8,b9])).push (.cells [a1,a2,.slice m 3 (keys.map cg),a3,a4,a5,a6,a7])).push (.cells [.int .i64 n1,.slice zm zs (ms.map bQ),.int .i64 pr,.int .i64 n2,b])).push (.buf 4 0)).push (.buf 4 0))) ⟨Nat.zero_le _,by repeat first|exact .refl _|refine .push ?_ _,hc0,by simp only [go_sem],by simp only [go_sem],by simp only [go_sem];rfl⟩ ?_ fun a ha=>?_
 ·(simp only [bkq,enterW,aI,ltF,ne_eq,Nat.reduceEqDiff,reduceCtorEq,hc0,hm,aj];try simp (disch:=first|assumption|omega|(simp;done)|(simp;omega)|(simp only [bt,and_true];first|done|omega|(simp;done))) [↓zmk,beq,ybc,ybd,ybe,ag,wk,wk2,wk1,wkM,wkL,am,ybf,byq,biq,au,hcl,hc0,hm,aj];try (repeat' (first|assumption|omega|exact True.intro|refine And.intro ?_ ?_|refine af ?_|refine aa ?_|refine ae ?_ ?_|refine ah ?_ ?_|refine ak ?_|exact AHeap.Le.refl _|refine AHeap.Le.push ?_ _|refine AHeap.Le.del ?_ ?_|(simp only [bt,and_true,true_and,hc0,hm,aj];first|done|omega|(simp;done)))))
  simp [ay,aV]
 obtain ⟨k,Hc⟩:=a
 obtain ⟨hk,hle,hcc,g1,g2,g3⟩:=ha
 dsimp only at hk hle hcc g1 g2 g3 ⊢
 have nx3:=AHeap.get_lt g3
 simp only [go_sem]
 refine ax (fun hc=>?_) (fun hc=>?_)
 ·have hk1:k<keys.length:=by simp at hc;omega
  have e5:IntKind.i64.wrap ((k:Int)+1)=((k+1:Nat):Int):=by rw [wrap_i64]<;>omega
  have n1':(H.nx+1+1=Hc.nx)=False:=eq_false (by omega)
  have n2':(H.nx+1+1=Hc.nx+1)=False:=eq_false (by omega)
  have n3':(H.nx=Hc.nx)=False:=eq_false (by omega)
  have n4':(H.nx=Hc.nx+1)=False:=eq_false (by omega)
  have n5':(H.nx+1=Hc.nx)=False:=eq_false (by omega)
  have hvl:=@mj keys[k].name keys[k].kind
  obtain ⟨V,hV⟩:∃ V,eS keys[k].name keys[k].kind=V:=⟨_,rfl⟩
  rw [hV] at hvl
  have htv:sF [keys[k]]=V++[lO]:=by simp [sF,hV]
  have e7:IntKind.i64.wrap (((V.length+(0+1):Nat):Int) - 1)=(V.length:Int):=by rw [wrap_i64]<;>omega
  have hvt:(bJ (V++[lO])).take V.length=bJ V:=by rw [bJ,List.map_append,List.take_left' (by rw [ybb])];rfl
  simp only [go_sem,a9,ot hk1,Int.toNat_natCast,g2,ai g2,n1',n2',n5',ybb]
  by_cases hkm:k<ms.length
  ·have d1:decide ((k:Int)<(ms.length:Int))=true:=decide_eq_true (by omega)
   obtain rfl:zs=8:=by rcases hzs with h|h;exact h;rw [h] at hkm;exact absurd hkm (by simp)
   have hgm:=cJ (f:=bQ) (l:=ms) (k:=k) (x:=ms[k]) (List.getElem?_eq_getElem hkm)
   simp only [go_sem,g2,ai g2,n1',n2',n5',d1,hgm,bQ,dz,vc,yal,yak,List.append_assoc,Int.toNat_natCast,ybb]
   have hkt:mY fs keys ms k=cI fs keys[k] ms[k]:=by
    unfold mY;rw [List.getElem?_eq_getElem hk1];simp only [List.getD_eq_getElem?_getD,List.getElem?_eq_getElem hkm,Option.getD_some]
   have hkb:(cI fs keys[k] ms[k]).length=V.length:=by rw [← hV];unfold cI eS;rw [ybb,ybb]
   refine ⟨by omega,by omega,[keys[k]],⟨rfl,by simp⟩,?_⟩
   rw [htv]
   simp only [go_sem,br,List.length_append,yaz,yba,e7,hvt]
   refine ⟨by omega,?_⟩
   have hcq:(((Hc.push (.cells [.str keys[k].name,.int .i64 keys[k].field,.int .i64 keys[k].kind])).push (.cells [.bool ms[k].present,.int .u64 ((ms[k].value/2^64:Nat):Int),.int .u64 ((ms[k].value % 2^64:Nat):Int),.int .u64 ((ms[k].mask/2^64:Nat):Int),.int .u64 ((ms[k].mask % 2^64:Nat):Int),.int .i64 ms[k].pfx,.int .u64 ((ms[k].high/2^64:Nat):Int),.int .u64 ((ms[k].high % 2^64:Nat):Int)])).push (.buf 3 1)).Closed:=af (ae (ae hcc (by simp [znq,znr,znd,znb])) (by simp [znq,znr,znc,znb]))
   refine aB (A:=Nat × AHeap) (fun a=>[(3,.ptr H.nx 0),(5,.ptr (H.nx+1+1) 0),(7,.slice (.own (H.nx+1+1+1+1)) 4 (ay (aV fs keys ms k++(cI fs keys[k] ms[k]).take a.1))),(9,.ptr Hc.nx 0),(10,.ptr (Hc.nx+1) 0),(15,.slice m 3 (keys.map cg)),(16,.int .i64 (keys.length:Int)),(17,.int .i64 (k:Int)),(40,.slice .any 2 (bJ V)),(41,.int .i64 (V.length:Int)),(42,.int .i64 (a.1:Int))]) (fun a=>a.2)
    (fun a=>a.1≤V.length∧H.Le a.2∧a.2.Closed∧a.2.get H.nx=some (.cells [x,b1,b2,b3,b4,b5,b6,b7,b8,b9])∧a.2.get (H.nx+1+1)=some (.cells [.int .i64 n1,.slice zm 8 (ms.map bQ),.int .i64 pr,.int .i64 n2,b])∧a.2.get (H.nx+1+1+1+1)=some (.buf 4 (aV fs keys ms k++(cI fs keys[k] ms[k]).take a.1).length)∧a.2.get Hc.nx=some (.cells [.str keys[k].name,.int .i64 keys[k].field,.int .i64 keys[k].kind])∧a.2.get (Hc.nx+1)=some (.cells [.bool ms[k].present,.int .u64 ((ms[k].value/2^64:Nat):Int),.int .u64 ((ms[k].value % 2^64:Nat):Int),.int .u64 ((ms[k].mask/2^64:Nat):Int),.int .u64 ((ms[k].mask % 2^64:Nat):Int),.int .i64 ms[k].pfx,.int .u64 ((ms[k].high/2^64:Nat):Int),.int .u64 ((ms[k].high % 2^64:Nat):Int)])) (fun a=>V.length - a.1)
    (0,((Hc.push (.cells [.str keys[k].name,.int .i64 keys[k].field,.int .i64 keys[k].kind])).push (.cells [.bool ms[k].present,.int .u64 ((ms[k].value/2^64:Nat):Int),.int .u64 ((ms[k].value % 2^64:Nat):Int),.int .u64 ((ms[k].mask/2^64:Nat):Int),.int .u64 ((ms[k].mask % 2^64:Nat):Int),.int .i64 ms[k].pfx,.int .u64 ((ms[k].high/2^64:Nat):Int),.int .u64 ((ms[k].high % 2^64:Nat):Int)])).push (.buf 3 1)) ⟨Nat.zero_le _,((hle.push _).push _).push _,hcq,?_,?_,?_,by simp only [go_sem],by simp only [go_sem]⟩ ?_ fun a ha=>?_
   ·dsimp only
    rw [AHeap.get_push_lt _ _ (by simp only [zla];omega),AHeap.get_push_lt _ _ (by simp only [zla];omega),AHeap.get_push_lt _ _ (by omega)];exact g1
   ·dsimp only
    rw [AHeap.get_push_lt _ _ (by simp only [zla];omega),AHeap.get_push_lt _ _ (by simp only [zla];omega),AHeap.get_push_lt _ _ (by omega)];exact g2
   ·dsimp only
    rw [AHeap.get_push_lt _ _ (by simp only [zla];omega),AHeap.get_push_lt _ _ (by simp only [zla];omega),AHeap.get_push_lt _ _ (by omega),g3];simp
   ·have hnn:H.nx≤Hc.nx:=by omega
    have hmi:min V.length (bJ (V++[lO])).length=V.length:=by rw [br,List.length_append];omega
    (simp only [bkq,enterW,aI,ltF,ne_eq,Nat.reduceEqDiff,reduceCtorEq,hcq,hm,aj,aC,hnn];try simp (disch:=first|assumption|omega|(simp;done)|(simp;omega)|(simp only [bt,and_true];first|done|omega|(simp;done))) [↓zmk,beq,ybc,ybd,ybe,ag,wk,wk2,wk1,wkM,wkL,am,ybf,byq,biq,au,hcl,hcq,hm,aj,aC,hnn];try (repeat' (first|assumption|omega|exact True.intro|refine And.intro ?_ ?_|refine af ?_|refine aa ?_|refine ae ?_ ?_|refine ah ?_ ?_|refine ak ?_|exact AHeap.Le.refl _|refine AHeap.Le.push ?_ _|refine AHeap.Le.del ?_ ?_|(simp only [bt,and_true,true_and,hcq,hm,aj,aC,hnn];first|done|omega|(simp;done)))))
    all_goals rw [hmi]
   obtain ⟨j,Hd⟩:=a
   obtain ⟨hj,hle2,hcd,q1,q2,q3,q4,q5⟩:=ha
   dsimp only at hj hle2 hcd q1 q2 q3 q4 q5 ⊢
   have p3:=AHeap.get_lt q3
   have p4:=AHeap.get_lt q4
   have p5:=AHeap.get_lt q5
   simp only [go_sem]
   refine ax (fun hc=>?_) (fun hc=>?_)
   ·have hj1:j<V.length:=by simp at hc;omega
    have e6:IntKind.i64.wrap ((j:Int)+1)=((j+1:Nat):Int):=by rw [wrap_i64]<;>omega
    have hVj:=gH hj1
    have htk:(cI fs keys[k] ms[k]).take (j+1)=(cI fs keys[k] ms[k]).take j++[((V[j].1,V[j].2),e9 ms[k] V[j].2 (gl fs keys[k].field))]:=by
     rw [List.take_succ_eq_append_getElem (by rw [hkb];exact hj1)]
     congr 1
     subst hV
     simp [cI,eS]
    have r1:(H.nx=Hd.nx)=False:=eq_false (by omega)
    have r2:(Hc.nx=Hd.nx)=False:=eq_false (by omega)
    have r3:(Hc.nx+1=Hd.nx)=False:=eq_false (by omega)
    have r5:(H.nx+1+1+1=Hd.nx)=False:=eq_false (by omega)
    have r4:(H.nx+1+1+1+1=Hd.nx)=False:=eq_false (by omega)
    simp only [go_sem,br,hVj,Int.toNat_natCast,q1,ai q1,q4,ai q4,q5,ai q5,r1,r2,r3,r4,r5,e6]
    refine ⟨by omega,fs,⟨hx,hfl⟩,?_⟩
    simp only [go_sem,q1,ai q1,q4,ai q4,q5,ai q5,r1,r2,r3,r4,r5,e6]
    refine ⟨ms[k],⟨rfl,hmp _ (List.getElem_mem hkm)⟩,?_⟩
    simp only [go_sem,q1,ai q1,q3,q4,ai q4,q5,ai q5,r1,r2,r3,r4,r5,e6,vv]
    obtain ⟨LL,hLL⟩:∃ LL,aV fs keys ms k++(cI fs keys[k] ms[k]).take j=LL:=⟨_,rfl⟩
    have hll:LL.length≤2*k+2:=by
     have:=@d8 fs keys ms k
     rw [← hLL,List.length_append,List.length_take];omega
    have hln:aV fs keys ms k++(cI fs keys[k] ms[k]).take (j+1)=LL++[((V[j].1,V[j].2),e9 ms[k] V[j].2 (gl fs keys[k].field))]:=by rw [htk,← List.append_assoc,hLL]
    rw [hLL]
    have hsn:=eo (l:=LL) (a:=V[j].1) (b:=V[j].2) (v:=e9 ms[k] V[j].2 (gl fs keys[k].field))
    refine ⟨⟨by rw [av],by rw [av];omega,by rw [av];omega,fun z hz=>by rw [List.mem_singleton.1 hz];rfl⟩,(j+1,Hd.set (H.nx+1+1+1+1) (.buf 4 (LL.length+1))),⟨by dsimp only;omega,aX hle2 (by omega),aa hcd,?_,?_,?_,?_,?_⟩,by dsimp only;omega,?_⟩
    ·dsimp only
     rw [aq,if_neg (by omega)];exact q1
    ·dsimp only
     rw [aq,if_neg (by omega)];exact q2
    ·dsimp only
     rw [aq,if_pos rfl,if_pos p3,hln];simp
    ·dsimp only
     rw [aq,if_neg (by omega)];exact q4
    ·dsimp only
     rw [aq,if_neg (by omega)];exact q5
    ·have hnn:H.nx≤Hd.nx:=by omega
     have hcs:=@aa Hd (H.nx+1+1+1+1) 4 (LL.length+1) hcd
     dsimp only
     rw [hln,hsn]
     simp only [av]
     (simp only [bkq,enterW,aI,ltF,ne_eq,Nat.reduceEqDiff,reduceCtorEq,hcs,hm,aj,aC,hnn];try simp (disch:=first|assumption|omega|(simp;done)|(simp;omega)|(simp only [bt,and_true];first|done|omega|(simp;done))) [↓zmk,beq,ybc,ybd,ybe,ag,wk,wk2,wk1,wkM,wkL,am,ybf,byq,biq,au,hcl,hcs,hm,aj,aC,hnn];try (repeat' (first|assumption|omega|exact True.intro|refine And.intro ?_ ?_|refine af ?_|refine aa ?_|refine ae ?_ ?_|refine ah ?_ ?_|refine ak ?_|exact AHeap.Le.refl _|refine AHeap.Le.push ?_ _|refine AHeap.Le.del ?_ ?_|(simp only [bt,and_true,true_and,hcs,hm,aj,aC,hnn];first|done|omega|(simp;done)))))
   ·have hj1:j=V.length:=by simp at hc;omega
    subst hj1
    simp only [go_sem,e5]
    rw [ybc (by rw [hkb];exact Nat.le_refl _),← hkt] at q3
    rw [ybc (by rw [hkb];exact Nat.le_refl _),← hkt]
    refine ⟨(k+1,Hd),⟨by dsimp only;omega,hle2,hcd,q1,q2,q3⟩,by dsimp only;omega,?_⟩
    have hnn:H.nx≤Hd.nx:=by omega
    (simp only [bkq,enterW,aI,ltF,ne_eq,Nat.reduceEqDiff,reduceCtorEq,hcd,hm,aj,hnn];try simp (disch:=first|assumption|omega|(simp;done)|(simp;omega)|(simp only [bt,and_true];first|done|omega|(simp;done))) [↓zmk,beq,ybc,ybd,ybe,ag,wk,wk2,wk1,wkM,wkL,am,ybf,byq,biq,au,hcl,hcd,hm,aj,hnn];try (repeat' (first|assumption|omega|exact True.intro|refine And.intro ?_ ?_|refine af ?_|refine aa ?_|refine ae ?_ ?_|refine ah ?_ ?_|refine ak ?_|exact AHeap.Le.refl _|refine AHeap.Le.push ?_ _|refine AHeap.Le.del ?_ ?_|(simp only [bt,and_true,true_and,hcd,hm,aj,hnn];first|done|omega|(simp;done)))))
    all_goals rfl
  ·have d1:decide ((k:Int)<(ms.length:Int))=false:=decide_eq_false (by omega)
   simp only [go_sem,d1]
   have hkt:mY fs keys ms k=cI fs keys[k] cK:=by
    unfold mY;rw [List.getElem?_eq_getElem hk1];simp only [List.getD_eq_getElem?_getD,List.getElem?_eq_none (show ms.length≤k by omega),Option.getD_none]
   have hkb:(cI fs keys[k] cK).length=V.length:=by rw [← hV];unfold cI eS;rw [ybb,ybb]
   refine ⟨by omega,[keys[k]],⟨rfl,by simp⟩,?_⟩
   rw [htv]
   simp only [go_sem,br,List.length_append,yaz,yba,e7,hvt]
   refine ⟨by omega,?_⟩
   have hcq:(((Hc.push (.cells [.str keys[k].name,.int .i64 keys[k].field,.int .i64 keys[k].kind])).push (.cells [.bool false,.int .u64 0,.int .u64 0,.int .u64 0,.int .u64 0,.int .i64 0,.int .u64 0,.int .u64 0])).push (.buf 3 1)).Closed:=af (ae (ae hcc (by simp [znq,znr,znd,znb])) (by simp [znq,znr,znc,znb]))
   refine aB (A:=Nat × AHeap) (fun a=>[(3,.ptr H.nx 0),(5,.ptr (H.nx+1+1) 0),(7,.slice (.own (H.nx+1+1+1+1)) 4 (ay (aV fs keys ms k++(cI fs keys[k] cK).take a.1))),(9,.ptr Hc.nx 0),(10,.ptr (Hc.nx+1) 0),(15,.slice m 3 (keys.map cg)),(16,.int .i64 (keys.length:Int)),(17,.int .i64 (k:Int)),(40,.slice .any 2 (bJ V)),(41,.int .i64 (V.length:Int)),(42,.int .i64 (a.1:Int))]) (fun a=>a.2)
    (fun a=>a.1≤V.length∧H.Le a.2∧a.2.Closed∧a.2.get H.nx=some (.cells [x,b1,b2,b3,b4,b5,b6,b7,b8,b9])∧a.2.get (H.nx+1+1)=some (.cells [.int .i64 n1,.slice zm zs (ms.map bQ),.int .i64 pr,.int .i64 n2,b])∧a.2.get (H.nx+1+1+1+1)=some (.buf 4 (aV fs keys ms k++(cI fs keys[k] cK).take a.1).length)∧a.2.get Hc.nx=some (.cells [.str keys[k].name,.int .i64 keys[k].field,.int .i64 keys[k].kind])∧a.2.get (Hc.nx+1)=some (.cells [.bool false,.int .u64 0,.int .u64 0,.int .u64 0,.int .u64 0,.int .i64 0,.int .u64 0,.int .u64 0])) (fun a=>V.length - a.1)
    (0,((Hc.push (.cells [.str keys[k].name,.int .i64 keys[k].field,.int .i64 keys[k].kind])).push (.cells [.bool false,.int .u64 0,.int .u64 0,.int .u64 0,.int .u64 0,.int .i64 0,.int .u64 0,.int .u64 0])).push (.buf 3 1)) ⟨Nat.zero_le _,((hle.push _).push _).push _,hcq,?_,?_,?_,by simp only [go_sem],by simp only [go_sem]⟩ ?_ fun a ha=>?_
   ·dsimp only
    rw [AHeap.get_push_lt _ _ (by simp only [zla];omega),AHeap.get_push_lt _ _ (by simp only [zla];omega),AHeap.get_push_lt _ _ (by omega)];exact g1
   ·dsimp only
    rw [AHeap.get_push_lt _ _ (by simp only [zla];omega),AHeap.get_push_lt _ _ (by simp only [zla];omega),AHeap.get_push_lt _ _ (by omega)];exact g2
   ·dsimp only
    rw [AHeap.get_push_lt _ _ (by simp only [zla];omega),AHeap.get_push_lt _ _ (by simp only [zla];omega),AHeap.get_push_lt _ _ (by omega),g3];simp
   ·have hnn:H.nx≤Hc.nx:=by omega
    have hmi:min V.length (bJ (V++[lO])).length=V.length:=by rw [br,List.length_append];omega
    (simp only [bkq,enterW,aI,ltF,ne_eq,Nat.reduceEqDiff,reduceCtorEq,hcq,hm,aj,aC,hnn];try simp (disch:=first|assumption|omega|(simp;done)|(simp;omega)|(simp only [bt,and_true];first|done|omega|(simp;done))) [↓zmk,beq,ybc,ybd,ybe,ag,wk,wk2,wk1,wkM,wkL,am,ybf,byq,biq,au,hcl,hcq,hm,aj,aC,hnn];try (repeat' (first|assumption|omega|exact True.intro|refine And.intro ?_ ?_|refine af ?_|refine aa ?_|refine ae ?_ ?_|refine ah ?_ ?_|refine ak ?_|exact AHeap.Le.refl _|refine AHeap.Le.push ?_ _|refine AHeap.Le.del ?_ ?_|(simp only [bt,and_true,true_and,hcq,hm,aj,aC,hnn];first|done|omega|(simp;done)))))
    all_goals rw [hmi]
   obtain ⟨j,Hd⟩:=a
   obtain ⟨hj,hle2,hcd,q1,q2,q3,q4,q5⟩:=ha
   dsimp only at hj hle2 hcd q1 q2 q3 q4 q5 ⊢
   have p3:=AHeap.get_lt q3
   have p4:=AHeap.get_lt q4
   have p5:=AHeap.get_lt q5
   simp only [go_sem]
   refine ax (fun hc=>?_) (fun hc=>?_)
   ·have hj1:j<V.length:=by simp at hc;omega
    have e6:IntKind.i64.wrap ((j:Int)+1)=((j+1:Nat):Int):=by rw [wrap_i64]<;>omega
    have hVj:=gH hj1
    have htk:(cI fs keys[k] cK).take (j+1)=(cI fs keys[k] cK).take j++[((V[j].1,V[j].2),e9 cK V[j].2 (gl fs keys[k].field))]:=by
     rw [List.take_succ_eq_append_getElem (by rw [hkb];exact hj1)]
     congr 1
     subst hV
     simp [cI,eS]
    have r1:(H.nx=Hd.nx)=False:=eq_false (by omega)
    have r2:(Hc.nx=Hd.nx)=False:=eq_false (by omega)
    have r3:(Hc.nx+1=Hd.nx)=False:=eq_false (by omega)
    have r5:(H.nx+1+1+1=Hd.nx)=False:=eq_false (by omega)
    have r4:(H.nx+1+1+1+1=Hd.nx)=False:=eq_false (by omega)
    simp only [go_sem,br,hVj,Int.toNat_natCast,q1,ai q1,q4,ai q4,q5,ai q5,r1,r2,r3,r4,r5,e6]
    refine ⟨by omega,fs,⟨hx,hfl⟩,?_⟩
    simp only [go_sem,q1,ai q1,q4,ai q4,q5,ai q5,r1,r2,r3,r4,r5,e6]
    refine ⟨cK,⟨rfl,by decide⟩,?_⟩
    simp only [go_sem,q1,ai q1,q3,q4,ai q4,q5,ai q5,r1,r2,r3,r4,r5,e6,vv]
    obtain ⟨LL,hLL⟩:∃ LL,aV fs keys ms k++(cI fs keys[k] cK).take j=LL:=⟨_,rfl⟩
    have hll:LL.length≤2*k+2:=by
     have:=@d8 fs keys ms k
     rw [← hLL,List.length_append,List.length_take];omega
    have hln:aV fs keys ms k++(cI fs keys[k] cK).take (j+1)=LL++[((V[j].1,V[j].2),e9 cK V[j].2 (gl fs keys[k].field))]:=by rw [htk,← List.append_assoc,hLL]
    rw [hLL]
    have hsn:=eo (l:=LL) (a:=V[j].1) (b:=V[j].2) (v:=e9 cK V[j].2 (gl fs keys[k].field))
    refine ⟨⟨by rw [av],by rw [av];omega,by rw [av];omega,fun z hz=>by rw [List.mem_singleton.1 hz];rfl⟩,(j+1,Hd.set (H.nx+1+1+1+1) (.buf 4 (LL.length+1))),⟨by dsimp only;omega,aX hle2 (by omega),aa hcd,?_,?_,?_,?_,?_⟩,by dsimp only;omega,?_⟩
    ·dsimp only
     rw [aq,if_neg (by omega)];exact q1
    ·dsimp only
     rw [aq,if_neg (by omega)];exact q2
    ·dsimp only
     rw [aq,if_pos rfl,if_pos p3,hln];simp
    ·dsimp only
     rw [aq,if_neg (by omega)];exact q4
    ·dsimp only
     rw [aq,if_neg (by omega)];exact q5
    ·have hnn:H.nx≤Hd.nx:=by omega
     have hcs:=@aa Hd (H.nx+1+1+1+1) 4 (LL.length+1) hcd
     dsimp only
     rw [hln,hsn]
     simp only [av]
     (simp only [bkq,enterW,aI,ltF,ne_eq,Nat.reduceEqDiff,reduceCtorEq,hcs,hm,aj,aC,hnn];try simp (disch:=first|assumption|omega|(simp;done)|(simp;omega)|(simp only [bt,and_true];first|done|omega|(simp;done))) [↓zmk,beq,ybc,ybd,ybe,ag,wk,wk2,wk1,wkM,wkL,am,ybf,byq,biq,au,hcl,hcs,hm,aj,aC,hnn];try (repeat' (first|assumption|omega|exact True.intro|refine And.intro ?_ ?_|refine af ?_|refine aa ?_|refine ae ?_ ?_|refine ah ?_ ?_|refine ak ?_|exact AHeap.Le.refl _|refine AHeap.Le.push ?_ _|refine AHeap.Le.del ?_ ?_|(simp only [bt,and_true,true_and,hcs,hm,aj,aC,hnn];first|done|omega|(simp;done)))))
   ·have hj1:j=V.length:=by simp at hc;omega
    subst hj1
    simp only [go_sem,e5]
    rw [ybc (by rw [hkb];exact Nat.le_refl _),← hkt] at q3
    rw [ybc (by rw [hkb];exact Nat.le_refl _),← hkt]
    refine ⟨(k+1,Hd),⟨by dsimp only;omega,hle2,hcd,q1,q2,q3⟩,by dsimp only;omega,?_⟩
    have hnn:H.nx≤Hd.nx:=by omega
    (simp only [bkq,enterW,aI,ltF,ne_eq,Nat.reduceEqDiff,reduceCtorEq,hcd,hm,aj,hnn];try simp (disch:=first|assumption|omega|(simp;done)|(simp;omega)|(simp only [bt,and_true];first|done|omega|(simp;done))) [↓zmk,beq,ybc,ybd,ybe,ag,wk,wk2,wk1,wkM,wkL,am,ybf,byq,biq,au,hcl,hcd,hm,aj,hnn];try (repeat' (first|assumption|omega|exact True.intro|refine And.intro ?_ ?_|refine af ?_|refine aa ?_|refine ae ?_ ?_|refine ah ?_ ?_|refine ak ?_|exact AHeap.Le.refl _|refine AHeap.Le.push ?_ _|refine AHeap.Le.del ?_ ?_|(simp only [bt,and_true,true_and,hcd,hm,aj,hnn];first|done|omega|(simp;done)))))
    all_goals rfl
 ·have hk1:k=keys.length:=by simp at hc;omega
  subst hk1
  have hbl:=@d8 fs keys ms keys.length
  simp only [go_sem,g2,ai g2,g3,rk,av,vv]
  refine ⟨hpr,?_⟩
  have n6:(H.nx+1+1+1+1=Hc.nx)=False:=eq_false (by omega)
  have hsn:=eo (l:=aV fs keys ms keys.length) (a:=[112,114,105,111,114,105,116,121]) (b:=[]) (v:=pr.toNat)
  have htb:ju fs keys ms pr=aV fs keys ms keys.length++[(([112,114,105,111,114,105,116,121],[]),pr.toNat)]:=rfl
  rw [htb]
  generalize aV fs keys ms keys.length=G at *
  simp only [n6,if_false]
  refine ⟨⟨trivial,by omega,by omega,fun z hz=>by rw [List.mem_singleton.1 hz];rfl⟩,?_⟩
  rw [hsn]
  have hle3:=(aX hle (show H.nx≤(H.nx+1+1+1+1) by omega) (o:=.buf 4 (G.length+1))).push (.buf 4 1)
  simp (disch:=first|assumption|omega|(simp;done)|(simp;omega)|(simp only [bt,and_true];first|done|omega|(simp;done))) [↓zmk,beq,ybc,ybd,ybe,ag,wk,wk2,wk1,wkM,wkL,am,ybf,hcl,hle3,aj]
end Go.AL
open Go Go.AL Go.Proofs
namespace Go.AL
set_option linter.all false
set_option maxRecDepth 10000
/-- the bindings of arguments -/
def gf (ps:List SParam) (ws:List Nat):Nat→List (VN × Nat)
 |0=>[]
 |k+1=>gf ps ws k++[(((ps.map (·.name)).getD k [],[]),ws.getD k 0)]
theorem iK {ps:List SParam} {ws:List Nat}:∀ {k:Nat},(gf ps ws k).length=k
 |0=>rfl
 |k+1=>by rw [gf,List.length_append,iK];rfl
def lB:List AV→AHeap→(AV→Prop)→Prop
 |[.agg [a1,a2,.slice _ 2 ap,a3,a4],z],_,K=>∃ (ps:List SParam) (ws:List Nat),(ap=ps.map bq∧ps.length≤1000∧vt z 2 (fk ws))∧K (.slice .any 4 (ay (gf ps ws ps.length)))
 |_,_,_=>False
theorem xu:EntOk Try.prog 15 (Ent.pure lB):=by
 refine EntOk.pure fun args H K h=>?_
 unfold lB at h
 split at h
 rotate_left
 ·exact h.elim
 rename_i a1 a2 m ap a3 a4 z
 obtain ⟨ps,ws,⟨rfl,hpl,hz⟩,hK⟩:=h
 refine ⟨_,hK,?_⟩
 clear hK
 obtain ⟨zm,zs,rfl,hzs⟩:∃ zm zs,z=.slice zm zs (fk ws)∧(zs=2∨ws=[]):=by
  rcases hz with ⟨zm,rfl⟩|⟨rfl,h⟩
  ·exact ⟨zm,2,rfl,.inl rfl⟩
  ·exact ⟨.nil,1,by rw [h],.inr (List.map_eq_nil_iff.1 h)⟩
 refine ACalls.fW aD (TblOk.cons oJ TblOk.nil) Try.func15 [.tmp 4] (Nat.le_refl _) (T:=az []) (h:=fun hcl hlt=>?_)
 have hac:=AV.lt_mono (Nat.le_succ H.nx) _ (hlt (.agg [a1,a2,.slice m 2 (ps.map bq),a3,a4]) (by simp))
 have hm:∀ n',H.nx≤n'→AV.lt n' (.slice zm zs (fk ws)):=fun n' hn=>AV.lt_mono hn _ (hlt (.slice zm zs (fk ws)) (by simp))
 have hm2:∀ n',H.nx≤n'→AV.lt n' (.slice m 2 (ps.map bq)):=fun n' hn=>by
  have h1:=AV.lt_mono hn _ (hlt (.agg [a1,a2,.slice m 2 (ps.map bq),a3,a4]) (by simp))
  rw [znn] at h1;exact h1.2.2.1
 simp only [znn] at hac
 clear hlt
 have hc0:(((H.push (.cells [a1,a2,.slice m 2 (ps.map bq),a3,a4])).push (.buf 4 0)).push (.buf 4 0)).Closed:=af (af (ae hcl hac))
 have hal:(eY ps).length=ps.length:=by simp [eY]
 simp only [go_sem,ybb]
 refine ⟨ps,⟨rfl,hpl⟩,?_⟩
 simp only [go_sem,br,hal]
 refine aB (A:=Nat × AHeap) (fun a=>[(1,.slice zm zs (fk ws)),(5,.slice (.own (H.nx+1+1)) 4 (ay (gf ps ws a.1))),(10,.slice .any 2 (bJ (eY ps))),(11,.int .i64 (ps.length:Int)),(12,.int .i64 (a.1:Int))]) (fun a=>a.2)
  (fun a=>a.1≤ps.length∧H.Le a.2∧a.2.Closed∧a.2.get (H.nx+1+1)=some (.buf 4 a.1)) (fun a=>ps.length - a.1)
  (0,((H.push (.cells [a1,a2,.slice m 2 (ps.map bq),a3,a4])).push (.buf 4 0)).push (.buf 4 0)) ⟨Nat.zero_le _,by repeat first|exact .refl _|refine .push ?_ _,hc0,by simp only [go_sem]⟩ ?_ fun a ha=>?_
 ·(simp only [bkq,enterW,aI,ltF,ne_eq,Nat.reduceEqDiff,reduceCtorEq,hc0,hm,hm2,aj,aC];try simp (disch:=first|assumption|omega|(simp;done)|(simp;omega)|(simp only [bt,and_true];first|done|omega|(simp;done))) [↓zmk,beq,ybc,ybd,ybe,ag,wk,wk2,wk1,wkM,wkL,am,ybf,byq,biq,au,hcl,hc0,hm,hm2,aj,aC];try (repeat' (first|assumption|omega|exact True.intro|refine And.intro ?_ ?_|refine af ?_|refine aa ?_|refine ae ?_ ?_|refine ah ?_ ?_|refine ak ?_|exact AHeap.Le.refl _|refine AHeap.Le.push ?_ _|refine AHeap.Le.del ?_ ?_|(simp only [bt,and_true,true_and,hc0,hm,hm2,aj,aC];first|done|omega|(simp;done)))))
  all_goals simp [ay,gf]
 obtain ⟨k,Hc⟩:=a
 obtain ⟨hk,hle,hcc,g1⟩:=ha
 dsimp only at hk hle hcc g1 ⊢
 have nx1:=AHeap.get_lt g1
 simp only [go_sem]
 refine ax (fun hc=>?_) (fun hc=>?_)
 ·have hk1:k<ps.length:=by simp at hc;omega
  have e5:IntKind.i64.wrap ((k:Int)+1)=((k+1:Nat):Int):=by rw [wrap_i64]<;>omega
  have hkv:k<(eY ps).length:=by rw [hal];exact hk1
  have gv:=gH hkv
  have gw:(eY ps)[k]=(ps[k].name,[]):=by simp [eY]
  rw [gw] at gv
  have gp:=cJ (f:=bq) (l:=ps) (k:=k) (x:=ps[k]) (List.getElem?_eq_getElem hk1)
  have hgd:(ps.map (·.name)).getD k []=ps[k].name:=by simp [List.getD_eq_getElem?_getD,hk1]
  have r1:((H.nx+1+1)=Hc.nx)=False:=eq_false (by omega)
  have r3:(H.nx=Hc.nx)=False:=eq_false (by omega)
  have r2:((H.nx+1+1)=Hc.nx+1)=False:=eq_false (by omega)
  have hsn:∀ v,ws.getD k 0=v→ay (gf ps ws k)++[.agg [.str ps[k].name,.str [],.int .u64 ((v/2^64:Nat):Int),.int .u64 ((v % 2^64:Nat):Int)]]=ay (gf ps ws (k+1)):=by
   intro v hv
   rw [gf,hgd,hv,eo]
  have hgl:=@iK ps ws k
  by_cases hkw:k<ws.length
  ·have hvg:ws.getD k 0=ws[k]:=by simp [List.getD_eq_getElem?_getD,hkw]
   have d1:decide ((k:Int)<(ws.length:Int))=true:=decide_eq_true (by omega)
   obtain rfl:zs=2:=by
    rcases hzs with h|h
    ·exact h
    ·rw [h] at hkw;exact absurd hkw (by simp)
   simp only [go_sem,br,hal,ybb,gv,gp,bq,fT,pk hkw,d1,Int.toNat_natCast,e5,r1,r2,r3,if_false,hsn _ hvg,av,hgl,g1]
   refine ⟨by omega,by omega,⟨by omega,by omega,fun z hz=>by rw [List.mem_singleton.1 hz];rfl⟩,(k+1,Hc.set (H.nx+1+1) (.buf 4 (k+1))),⟨by dsimp only;omega,aX hle (by omega),aa hcc,?_⟩,by dsimp only;omega,?_⟩
   ·dsimp only
    rw [aq,if_pos rfl,if_pos nx1]
   ·have hnn:H.nx≤Hc.nx:=by omega
    have hcs:=@aa Hc (H.nx+1+1) 4 (k+1) hcc
    (simp only [bkq,enterW,aI,ltF,ne_eq,Nat.reduceEqDiff,reduceCtorEq,hcs,hm,hm2,aj,aC,hnn];try simp (disch:=first|assumption|omega|(simp;done)|(simp;omega)|(simp only [bt,and_true];first|done|omega|(simp;done))) [↓zmk,beq,ybc,ybd,ybe,ag,wk,wk2,wk1,wkM,wkL,am,ybf,byq,biq,au,hcl,hcs,hm,hm2,aj,aC,hnn];try (repeat' (first|assumption|omega|exact True.intro|refine And.intro ?_ ?_|refine af ?_|refine aa ?_|refine ae ?_ ?_|refine ah ?_ ?_|refine ak ?_|exact AHeap.Le.refl _|refine AHeap.Le.push ?_ _|refine AHeap.Le.del ?_ ?_|(simp only [bt,and_true,true_and,hcs,hm,hm2,aj,aC,hnn];first|done|omega|(simp;done)))))
  ·have hvg:ws.getD k 0=0:=by rw [List.getD_eq_getElem?_getD,List.getElem?_eq_none (by omega)];rfl
   have d1:decide ((k:Int)<(ws.length:Int))=false:=decide_eq_false (by omega)
   have hs0:=hsn _ hvg
   simp only [go_sem,br,hal,ybb,gv,gp,bq,fT,d1,Int.toNat_natCast,e5,r1,r2,r3,if_false,av,hgl,g1]
   refine ⟨by omega,⟨by omega,by omega,fun z hz=>by rw [List.mem_singleton.1 hz];rfl⟩,(k+1,Hc.set (H.nx+1+1) (.buf 4 (k+1))),⟨by dsimp only;omega,aX hle (by omega),aa hcc,?_⟩,by dsimp only;omega,?_⟩
   ·dsimp only
    rw [aq,if_pos rfl,if_pos nx1]
   ·have hnn:H.nx≤Hc.nx:=by omega
    have hcs:=@aa Hc (H.nx+1+1) 4 (k+1) hcc
    (simp only [bkq,enterW,aI,ltF,ne_eq,Nat.reduceEqDiff,reduceCtorEq,hcs,hm,hm2,aj,aC,hnn];try simp (disch:=first|assumption|omega|(simp;done)|(simp;omega)|(simp only [bt,and_true];first|done|omega|(simp;done))) [↓zmk,beq,ybc,ybd,ybe,ag,wk,wk2,wk1,wkM,wkL,am,ybf,byq,biq,au,hcl,hcs,hm,hm2,aj,aC,hnn];try (repeat' (first|assumption|omega|exact True.intro|refine And.intro ?_ ?_|refine af ?_|refine aa ?_|refine ae ?_ ?_|refine ah ?_ ?_|refine ak ?_|exact AHeap.Le.refl _|refine AHeap.Le.push ?_ _|refine AHeap.Le.del ?_ ?_|(simp only [bt,and_true,true_and,hcs,hm,hm2,aj,aC,hnn];first|done|omega|(simp;done)))))
 ·have hk1:k=ps.length:=by simp at hc;omega
  subst hk1
  simp only [go_sem]
  simp (disch:=first|assumption|omega|(simp;done)|(simp;omega)|(simp only [bt,and_true];first|done|omega|(simp;done))) [↓zmk,beq,ybc,ybd,ybe,ag,wk,wk2,wk1,wkM,wkL,am,ybf,hcl,hle,aj]
def lF:List AV→AHeap→(AV→Prop)→Prop
 |[.agg [a1,a2,.slice _ 2 ap,a3,a4],z],_,K=>∃ (ps:List SParam) (ws:List Nat),(ap=ps.map bq∧ps.length≤1000∧vt z 2 (fk ws))∧K (.slice .any 4 (ay (gf ps ws ps.length)))
 |_,_,_=>False
theorem yv:EntOk Try.prog 16 (Ent.pure lF):=by
 refine EntOk.pure fun args H K h=>?_
 unfold lF at h
 split at h
 rotate_left
 ·exact h.elim
 rename_i a1 a2 m ap a3 a4 z
 obtain ⟨ps,ws,⟨rfl,hpl,hz⟩,hK⟩:=h
 refine ⟨_,hK,?_⟩
 clear hK
 obtain ⟨zm,zs,rfl,hzs⟩:∃ zm zs,z=.slice zm zs (fk ws)∧(zs=2∨ws=[]):=by
  rcases hz with ⟨zm,rfl⟩|⟨rfl,h⟩
  ·exact ⟨zm,2,rfl,.inl rfl⟩
  ·exact ⟨.nil,1,by rw [h],.inr (List.map_eq_nil_iff.1 h)⟩
 refine ACalls.fW aD TblOk.nil Try.func16 [.tmp 4] (Nat.le_refl _) (T:=az []) (h:=fun hcl hlt=>?_)
 have hac:=AV.lt_mono (Nat.le_succ H.nx) _ (hlt (.agg [a1,a2,.slice m 2 (ps.map bq),a3,a4]) (by simp))
 have hm:∀ n',H.nx≤n'→AV.lt n' (.slice zm zs (fk ws)):=fun n' hn=>AV.lt_mono hn _ (hlt (.slice zm zs (fk ws)) (by simp))
 have hm2:∀ n',H.nx≤n'→AV.lt n' (.slice m 2 (ps.map bq)):=fun n' hn=>by
  have h1:=AV.lt_mono hn _ (hlt (.agg [a1,a2,.slice m 2 (ps.map bq),a3,a4]) (by simp))
  rw [znn] at h1;exact h1.2.2.1
 simp only [znn] at hac
 clear hlt
 have hc0:(((H.push (.cells [a1,a2,.slice m 2 (ps.map bq),a3,a4])).push (.buf 4 0)).push (.buf 4 0)).Closed:=af (af (ae hcl hac))
 have hal:(eY ps).length=ps.length:=by simp [eY]
 simp only [go_sem,ybb]
 refine aB (A:=Nat × AHeap) (fun a=>[(1,.slice zm zs (fk ws)),(5,.slice (.own (H.nx+1+1)) 4 (ay (gf ps ws a.1))),(10,.slice m 2 (ps.map bq)),(11,.int .i64 (ps.length:Int)),(12,.int .i64 (a.1:Int))]) (fun a=>a.2)
  (fun a=>a.1≤ps.length∧H.Le a.2∧a.2.Closed∧a.2.get (H.nx+1+1)=some (.buf 4 a.1)) (fun a=>ps.length - a.1)
  (0,((H.push (.cells [a1,a2,.slice m 2 (ps.map bq),a3,a4])).push (.buf 4 0)).push (.buf 4 0)) ⟨Nat.zero_le _,by repeat first|exact .refl _|refine .push ?_ _,hc0,by simp only [go_sem]⟩ ?_ fun a ha=>?_
 ·(simp only [bkq,enterW,aI,ltF,ne_eq,Nat.reduceEqDiff,reduceCtorEq,hc0,hm,hm2,aj,aC];try simp (disch:=first|assumption|omega|(simp;done)|(simp;omega)|(simp only [bt,and_true];first|done|omega|(simp;done))) [↓zmk,beq,ybc,ybd,ybe,ag,wk,wk2,wk1,wkM,wkL,am,ybf,byq,biq,au,hcl,hc0,hm,hm2,aj,aC];try (repeat' (first|assumption|omega|exact True.intro|refine And.intro ?_ ?_|refine af ?_|refine aa ?_|refine ae ?_ ?_|refine ah ?_ ?_|refine ak ?_|exact AHeap.Le.refl _|refine AHeap.Le.push ?_ _|refine AHeap.Le.del ?_ ?_|(simp only [bt,and_true,true_and,hc0,hm,hm2,aj,aC];first|done|omega|(simp;done)))))
  all_goals simp [ay,gf]
 obtain ⟨k,Hc⟩:=a
 obtain ⟨hk,hle,hcc,g1⟩:=ha
 dsimp only at hk hle hcc g1 ⊢
 have nx1:=AHeap.get_lt g1
 simp only [go_sem]
 refine ax (fun hc=>?_) (fun hc=>?_)
 ·have hk1:k<ps.length:=by simp at hc;omega
  have e5:IntKind.i64.wrap ((k:Int)+1)=((k+1:Nat):Int):=by rw [wrap_i64]<;>omega
  have hkv:k<(eY ps).length:=by rw [hal];exact hk1
  have gv:=gH hkv
  have gw:(eY ps)[k]=(ps[k].name,[]):=by simp [eY]
  rw [gw] at gv
  have gp:=cJ (f:=bq) (l:=ps) (k:=k) (x:=ps[k]) (List.getElem?_eq_getElem hk1)
  have hgd:(ps.map (·.name)).getD k []=ps[k].name:=by simp [List.getD_eq_getElem?_getD,hk1]
  have r1:((H.nx+1+1)=Hc.nx)=False:=eq_false (by omega)
  have r3:(H.nx=Hc.nx)=False:=eq_false (by omega)
  have r2:((H.nx+1+1)=Hc.nx+1)=False:=eq_false (by omega)
  have hsn:∀ v,ws.getD k 0=v→ay (gf ps ws k)++[.agg [.str ps[k].name,.str [],.int .u64 ((v/2^64:Nat):Int),.int .u64 ((v % 2^64:Nat):Int)]]=ay (gf ps ws (k+1)):=by
   intro v hv
   rw [gf,hgd,hv,eo]
  have hgl:=@iK ps ws k
  by_cases hkw:k<ws.length
  ·have hvg:ws.getD k 0=ws[k]:=by simp [List.getD_eq_getElem?_getD,hkw]
   have d1:decide ((k:Int)<(ws.length:Int))=true:=decide_eq_true (by omega)
   obtain rfl:zs=2:=by
    rcases hzs with h|h
    ·exact h
    ·rw [h] at hkw;exact absurd hkw (by simp)
   simp only [go_sem,br,hal,ybb,gv,gp,bq,fT,pk hkw,d1,Int.toNat_natCast,e5,r1,r2,r3,if_false,hsn _ hvg,av,hgl,g1]
   refine ⟨by omega,by omega,⟨by omega,by omega,fun z hz=>by rw [List.mem_singleton.1 hz];rfl⟩,(k+1,Hc.set (H.nx+1+1) (.buf 4 (k+1))),⟨by dsimp only;omega,aX hle (by omega),aa hcc,?_⟩,by dsimp only;omega,?_⟩
   ·dsimp only
    rw [aq,if_pos rfl,if_pos nx1]
   ·have hnn:H.nx≤Hc.nx:=by omega
    have hcs:=@aa Hc (H.nx+1+1) 4 (k+1) hcc
    (simp only [bkq,enterW,aI,ltF,ne_eq,Nat.reduceEqDiff,reduceCtorEq,hcs,hm,hm2,aj,aC,hnn];try simp (disch:=first|assumption|omega|(simp;done)|(simp;omega)|(simp only [bt,and_true];first|done|omega|(simp;done))) [↓zmk,beq,ybc,ybd,ybe,ag,wk,wk2,wk1,wkM,wkL,am,ybf,byq,biq,au,hcl,hcs,hm,hm2,aj,aC,hnn];try (repeat' (first|assumption|omega|exact True.intro|refine And.intro ?_ ?_|refine af ?_|refine aa ?_|refine ae ?_ ?_|refine ah ?_ ?_|refine ak ?_|exact AHeap.Le.refl _|refine AHeap.Le.push ?_ _|refine AHeap.Le.del ?_ ?_|(simp only [bt,and_true,true_and,hcs,hm,hm2,aj,aC,hnn];first|done|omega|(simp;done)))))
  ·have hvg:ws.getD k 0=0:=by rw [List.getD_eq_getElem?_getD,List.getElem?_eq_none (by omega)];rfl
   have d1:decide ((k:Int)<(ws.length:Int))=false:=decide_eq_false (by omega)
   have hs0:=hsn _ hvg
   simp only [go_sem,br,hal,ybb,gv,gp,bq,fT,d1,Int.toNat_natCast,e5,r1,r2,r3,if_false,av,hgl,g1]
   refine ⟨by omega,⟨by omega,by omega,fun z hz=>by rw [List.mem_singleton.1 hz];rfl⟩,(k+1,Hc.set (H.nx+1+1) (.buf 4 (k+1))),⟨by dsimp only;omega,aX hle (by omega),aa hcc,?_⟩,by dsimp only;omega,?_⟩
   ·dsimp only
    rw [aq,if_pos rfl,if_pos nx1]
   ·have hnn:H.nx≤Hc.nx:=by omega
    have hcs:=@aa Hc (H.nx+1+1) 4 (k+1) hcc
    (simp only [bkq,enterW,aI,ltF,ne_eq,Nat.reduceEqDiff,reduceCtorEq,hcs,hm,hm2,aj,aC,hnn];try simp (disch:=first|assumption|omega|(simp;done)|(simp;omega)|(simp only [bt,and_true];first|done|omega|(simp;done))) [↓zmk,beq,ybc,ybd,ybe,ag,wk,wk2,wk1,wkM,wkL,am,ybf,byq,biq,au,hcl,hcs,hm,hm2,aj,aC,hnn];try (repeat' (first|assumption|omega|exact True.intro|refine And.intro ?_ ?_|refine af ?_|refine aa ?_|refine ae ?_ ?_|refine ah ?_ ?_|refine ak ?_|exact AHeap.Le.refl _|refine AHeap.Le.push ?_ _|refine AHeap.Le.del ?_ ?_|(simp only [bt,and_true,true_and,hcs,hm,hm2,aj,aC,hnn];first|done|omega|(simp;done)))))
 ·have hk1:k=ps.length:=by simp at hc;omega
  subst hk1
  simp only [go_sem]
  simp (disch:=first|assumption|omega|(simp;done)|(simp;omega)|(simp only [bt,and_true];first|done|omega|(simp;done))) [↓zmk,beq,ybc,ybd,ybe,ag,wk,wk2,wk1,wkM,wkL,am,ybf,hcl,hle,aj]
end Go.AL
