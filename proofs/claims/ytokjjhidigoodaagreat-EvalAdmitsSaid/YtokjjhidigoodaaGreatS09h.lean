/- Contracts and plain laws, a part of the proof; no condition of its own. -/
import Derived.Test.YtokjjhidigoodaaGreatS09e
import Derived.Test.YtokjjhidigoodaaGreatS10j
set_option maxHeartbeats 32000000
open List renaming length_cons → yaz, length_nil → yba, take_of_length_le → ybc, drop_append → ybd, take_append → ybe, drop_eq_nil_of_le → ybf, length_map → ybb, cons_append → yal, nil_append → yak
open Go Go.AL Go.Proofs
namespace Go.AL
set_option linter.all false
set_option maxRecDepth 10000
theorem Do {l:List Tok}:∀ p t a q t',cQ l p t=.ok a q t'→AllN vr t→AllN vr t':=by
 intro p t a q t' h hg
 unfold cQ at h
 repeat' split at h
 all_goals first|(cases h;done)|(cases h;exact hg.snoc fun h2=>by first|(exact absurd (show (1:Nat)=2 from h2) (by decide))|(exact absurd (show (3:Nat)=2 from h2) (by decide))|exact Nat.le_refl 1|exact Nat.zero_le 1)
theorem yy {l:List Tok} {r:PR} {f:Nat} (h:run l f .imp 0 []=some r):AllN vr (ef l r).1:=by
 have h0:AllN vr ([]:List Nd):=fun n hn=>by cases hn
 cases r with
 |bad p=>exact h0
 |ok a p t =>
  dsimp only [ef]
  split
  ·exact h0
  ·split
   ·exact h0
   ·exact xN (fun _ _ _ h=>fun h3=>by simp only [nd2] at h3;omega) Do f h h0
theorem qj {kn:VN→Bool} {s:List UInt8} (h:(comp kn s).2=0):okC (comp kn s).1:=by
 obtain ⟨h1,h2,h3,h4⟩:=Ii h
 refine ⟨h3,h1,h2,?_,h4⟩
 unfold comp
 split
 ·intro n hn
  have:n=⟨2,0,0,[],[],1⟩:=by simpa [oneT] using hn
  subst this
  intro _
  decide
 ·obtain ⟨f,hf⟩:=pV (bZ s).1
  unfold v6
  repeat' split
  all_goals first|exact yy hf|(intro n hn;cases hn)
def il (l:List Nat):List AV:=l.map fun v=>.agg [.int .u64 ((v/2^64:Nat):Int),.int .u64 ((v % 2^64:Nat):Int)]
theorem i9 {l:List Nat}:(il l).length=l.length:=by simp [il]
theorem uh {l:List Nat} {k:Nat} (h:k<l.length):(il l).getD k .junk=.agg [.int .u64 ((l[k]/2^64:Nat):Int),.int .u64 ((l[k] % 2^64:Nat):Int)]:=by
 simp [il,List.getD_eq_getElem?_getD,h]
end Go.AL
open Go Go.AL Go.Proofs
namespace Go.AL
set_option linter.all false
set_option maxRecDepth 10000
theorem LJ {P:Program} {f:FuncId} {p q:List AV→AHeap→(AV→Prop)→Prop} (h1:EntOk P f (Ent.pure p)) (h2:EntOk P f (Ent.pure q)):EntOk P f (Ent.pure fun a H K=>p a H K∨q a H K) :=
 EntOk.pure fun a H K h=>h.elim (h1.1 rfl a H K) (h2.1 rfl a H K)
/-- a slice of these rows, or none -/
def Bq (x:AV) (sz:Nat) (l:List AV):Prop:=(∃ m,x=.slice m sz l)∨(x=.slice .nil 1 []∧l=[])
def sB:List AV→AHeap→(AV→Prop)→Prop
 |[.slice .nil 1 [],.func f [] [.ptr c 0]],_,K=>K (.int .i64 (-1))
 |_,_,_=>False
theorem Hs:EntOk Tryz.prog 84 (Ent.pure sB):=by
 refine EntOk.pure fun args H K h=>?_
 unfold sB at h
 split at h
 rotate_left
 ·exact h.elim
 rename_i f c
 refine ⟨_,h,?_⟩
 clear h
 refine ACalls.fW aB TblOk.nil Tryz.func84 [.tmp 4] (Nat.le_refl _) (T:=aA []) (h:=fun hcl hlt=>?_)
 have hf:AV.lt H.nx (.func f [] [.ptr c 0]):=hlt _ (by simp)
 clear hlt
 simp only [go_sem]
 refine ay (A:=Nat) (fun k=>[(0,.slice .nil 1 []),(1,.func f [] [.ptr c 0]),(7,.int .i64 0),(8,.int .i64 0)]) (fun _=>H) (fun k=>True) (fun k=>0) 0 trivial ?_ fun k hk=>?_
 ·refine ⟨Nat.le_refl _,AHeap.Le.refl _,hcl,?_,?_⟩
  ·simp [ltF,znb,hf,zmj]
  ·simp [aI,wk2,wk1,wkM,Fr.get]
 have d0:decide ((0:Int)<0)=false:=rfl
 simp only [go_sem,d0]
 exact Z0
def I6:List AV→AHeap→(AV→Prop)→Prop:=fun a H K=>Au a H K∨sB a H K
theorem zq:EntOk Tryz.prog 84 (Ent.pure I6):=LJ Jk Hs
def lT:List AV→AHeap→(AV→Prop)→Prop
 |[.agg [x,_,_,_,_,_,_,_,_,_],.int .i64 n],_,K=>∃ fs:List SField,(Bq x 3 (fs.map ce)∧fs.length≤1000000)∧K (.int .i64 (ixP (fun t:SField=>t.id==n) fs 0))
 |_,_,_=>False
theorem rC:EntOk Tryz.prog 30 (Ent.pure lT):=by
 refine EntOk.pure fun args H K h=>?_
 unfold lT at h
 split at h
 rotate_left
 ·exact h.elim
 rename_i x b1 b2 b3 b4 b5 b6 b7 b8 b9 n
 obtain ⟨fs,⟨hx,hl⟩,hK⟩:=h
 refine ⟨_,hK,?_⟩
 clear hK
 rcases hx with ⟨m,rfl⟩|⟨rfl,he⟩
 ·skip
  refine ACalls.fW aB (TblOk.cons zq TblOk.nil) Tryz.func30 [.tmp 4] (Nat.le_refl _) (T:=aA []) (h:=fun hcl hlt=>?_)
  clear hlt
  simp only [go_sem]
  refine .inl ⟨fs,n,⟨rfl,by simp only [go_sem],hl⟩,?_⟩
  simp only [go_sem]
  exact Z0
 ·obtain rfl:fs=[]:=List.map_eq_nil_iff.1 he
  refine ACalls.fW aB (TblOk.cons zq TblOk.nil) Tryz.func30 [.tmp 4] (Nat.le_refl _) (T:=aA []) (h:=fun hcl hlt=>?_)
  clear hlt
  simp only [go_sem]
  refine .inr ?_
  simp only [go_sem,sB,ixP]
  exact Z0
def Cz:List AV→AHeap→(AV→Prop)→Prop
 |[.agg [x,_,_,_,_,_,_,_,_,_],.int .i64 n],_,K=>∃ fs:List SField,(Bq x 3 (fs.map ce)∧fs.length≤1000000)∧K (.int .i64 (gh fs n))
 |_,_,_=>False
theorem Fm:EntOk Tryz.prog 132 (Ent.pure Cz):=by
 refine EntOk.pure fun args H K h=>?_
 unfold Cz at h
 split at h
 rotate_left
 ·exact h.elim
 rename_i x b1' b2' b3 b4 b5 b6 b7 b8 b9 fld
 obtain ⟨fs,⟨hx,hl⟩,hK⟩:=h
 refine ⟨_,hK,?_⟩
 clear hK
 rw [zg]
 obtain ⟨b1,b2⟩:=um (q:=fun f:SField=>f.id==fld) (l:=fs) (k:=0)
 rcases b2 with b2|b2
 ·rw [qf b2]
  refine ACalls.fW aB (TblOk.cons rC TblOk.nil) Tryz.func132 [.tmp 4] (Nat.le_refl _) (T:=aA []) (h:=fun hcl hlt=>?_)
  clear hlt
  simp only [go_sem,lT]
  (repeat with_reducible refine And.intro (by first|exact True.intro|decide|omega|(simp [zim,zgm,zgn,zgo,zgq,zgp,zgu];first|done|omega)) ?_)
  refine ⟨fs,⟨hx,hl⟩,?_⟩
  rw [b2]
  have d:decide ((-1:Int)<0)=true:=rfl
  simp only [bv,go_sem,d]
  exact Z0
 ·obtain ⟨i,hi⟩:∃ i:Nat,ixP (fun f:SField=>f.id==fld) fs 0=((0+i:Nat):Int):=⟨(ixP (fun f:SField=>f.id==fld) fs 0).toNat,by omega⟩
  obtain ⟨y,h1,h2,h3⟩:=sC hi
  rw [h3]
  rw [Nat.zero_add] at hi
  have hil:i<fs.length:=by
   rcases Nat.lt_or_ge i fs.length with h|h
   ·exact h
   ·rw [List.getElem?_eq_none h] at h1;cases h1
  have hg':=cl (f:=ce) (l:=fs) (k:=i) (x:=y) h1
  have d:decide ((i:Int)<0)=false:=by simp
  obtain ⟨m,rfl⟩:∃ m,x=.slice m 3 (fs.map ce):=by
   rcases hx with h|⟨_,h⟩
   ·exact h
   ·rw [List.map_eq_nil_iff.1 h] at hil;exact absurd hil (by simp)
  refine ACalls.fW aB (TblOk.cons rC TblOk.nil) Tryz.func132 [.tmp 4] (Nat.le_refl _) (T:=aA []) (h:=fun hcl hlt=>?_)
  clear hlt
  simp only [go_sem,lT]
  (repeat with_reducible refine And.intro (by first|exact True.intro|decide|omega|(simp [zim,zgm,zgn,zgo,zgq,zgp,zgu];first|done|omega)) ?_)
  refine ⟨fs,⟨hx,hl⟩,?_⟩
  rw [hi]
  simp only [bv,go_sem,d,Int.toNat_natCast,hg',ce,ybb]
  (repeat with_reducible refine And.intro (by first|exact True.intro|decide|omega|(simp [zim,zgm,zgn,zgo,zgq,zgp,zgu];first|done|omega)) ?_)
  exact Z0
def wL:List AV→AHeap→(AV→Prop)→Prop
 |[.int .i64 n],_,K=>n<9223372036854775808∧K (vv n.toNat)
 |_,_,_=>False
theorem HH {n:Int} (h:n<9223372036854775808):vv n.toNat=.agg [.int .u64 0,.int .u64 (max 0 n)]:=by
 unfold vv
 have h1:n.toNat/2^64=0:=by omega
 have h2:((n.toNat % 2^64:Nat):Int)=max 0 n:=by omega
 rw [h1,h2];rfl
theorem BI:EntOk Tryz.prog 133 (Ent.pure wL):=by
 refine EntOk.pure fun args H K h=>?_
 unfold wL at h
 split at h
 rotate_left
 ·exact h.elim
 rename_i n
 obtain ⟨h1,hK⟩:=h
 refine ⟨_,hK,?_⟩
 clear hK
 rw [HH h1]
 have e1:IntKind.u64.wrap (max 0 n)=max 0 n:=by rw [cL]<;>omega
 refine ACalls.fW aB (TblOk.cons qY TblOk.nil) Tryz.func133 [.cell 2 48] (Nat.le_refl _) (T:=aA []) (h:=fun hcl hlt=>?_)
 clear hlt
 simp only [go_sem,rD,e1]
 exact Z0
def oG:List UInt8:=[112,114,101,102,105,120,95,108,101,110,103,116,104]
def kD:List UInt8:=[109,97,115,107]
def kS:List UInt8:=[104,105,103,104]
/-- the value that an attribute of a match has -/
def gD (x:SMatch) (a:List UInt8) (w:Int):Nat :=
 if a=oG then x.pfx.toNat else if a=kD then x.mask else if a=kS then (if x.present=true then x.high else kh w) else x.value
def zM:List AV→AHeap→(AV→Prop)→Prop
 |[.agg l,.str a,.int .i64 w],_,K=>∃ x,(l=ea x∧x.pfx<9223372036854775808)∧K (vv (gD x a w))
 |_,_,_=>False
theorem Dn:EntOk Tryz.prog 131 (Ent.pure zM):=by
 refine EntOk.pure fun args H K h=>?_
 unfold zM at h
 split at h
 rotate_left
 ·exact h.elim
 rename_i l a w
 obtain ⟨x,⟨rfl,hp⟩,hK⟩:=h
 refine ⟨_,hK,?_⟩
 clear hK
 refine ACalls.fW aB (TblOk.cons BI (TblOk.cons Hz TblOk.nil)) Tryz.func131 [.cell 6 48] (Nat.le_refl _) (T:=aA []) (h:=fun hcl hlt=>?_)
 clear hlt
 by_cases h1:a=oG
 ·have hw:gD x a w=x.pfx.toNat:=by unfold gD;rw [if_pos h1]
  rw [hw,h1]
  simp only [go_sem,ea,vc,yal,yak,List.append_assoc,oG,beq_self_eq_true,wL,vv]
  refine ⟨hp,?_⟩
  exact Z0
 have d1:(a==[112,114,101,102,105,120,95,108,101,110,103,116,104])=false:=beq_eq_false_iff_ne.2 h1
 by_cases h2:a=kD
 ·have d2:(a==[109,97,115,107])=true:=by rw [h2];rfl
  have hw:gD x a w=x.mask:=by unfold gD;rw [if_neg h1,if_pos h2]
  rw [hw]
  simp only [go_sem,ea,vc,yal,yak,List.append_assoc,d1,d2,vv]
  exact Z0
 have d2:(a==[109,97,115,107])=false:=beq_eq_false_iff_ne.2 h2
 by_cases h3:a=kS
 ·have d3:(a==[104,105,103,104])=true:=by rw [h3];rfl
  cases hx:x.present
  ·have hw:gD x a w=kh w:=by unfold gD;rw [if_neg h1,if_neg h2,if_pos h3,hx,if_neg (by decide)]
   rw [hw]
   simp only [go_sem,ea,vc,yal,yak,List.append_assoc,d1,d2,d3,hx,wZ,vv]
   exact Z0
  ·have hw:gD x a w=x.high:=by unfold gD;rw [if_neg h1,if_neg h2,if_pos h3,hx,if_pos rfl]
   rw [hw]
   simp only [go_sem,ea,vc,yal,yak,List.append_assoc,d1,d2,d3,hx,vv]
   exact Z0
 have d3:(a==[104,105,103,104])=false:=beq_eq_false_iff_ne.2 h3
 have hw:gD x a w=x.value:=by unfold gD;rw [if_neg h1,if_neg h2,if_neg h3]
 rw [hw]
 simp only [go_sem,ea,vc,yal,yak,List.append_assoc,d1,d2,d3,vv]
 exact Z0
end Go.AL
open Go Go.AL Go.Proofs
namespace Go.AL
set_option linter.all false
set_option maxRecDepth 10000
/-- the bindings of one key -/
def dU (fs:List SField) (q:SKey) (x:SMatch):List (VN × Nat):=(dd q.kind).map fun a=>((q.name,a),gD x a (gh fs q.field))
def pZ (fs:List SField) (keys:List SKey) (ms:List SMatch) (k:Nat):List (VN × Nat):=match keys[k]? with
 |some q=>dU fs q (ms.getD k cS)
 |none=>[]
def bF (fs:List SField) (keys:List SKey) (ms:List SMatch):Nat→List (VN × Nat)
 |0=>[]
 |k+1=>bF fs keys ms k++pZ fs keys ms k
/-- the bindings of an entry -/
def ke (fs:List SField) (keys:List SKey) (ms:List SMatch) (p:Int):List (VN × Nat):=bF fs keys ms keys.length++[(mq,p.toNat)]
theorem Dz {k:Int}:(dd k).length≤2:=by
 unfold dd
 repeat' split
 all_goals simp
theorem Db {fs:List SField} {keys:List SKey} {ms:List SMatch} {k:Nat}:(pZ fs keys ms k).length≤2:=by
 unfold pZ
 split
 ·unfold dU;rw [ybb];exact Dz
 ·simp
theorem gV {fs:List SField} {keys:List SKey} {ms:List SMatch}:∀ {k:Nat},(bF fs keys ms k).length≤2*k
 |0=>Nat.le_refl _
 |k+1=>by
  rw [bF,List.length_append]
  have:=@gV fs keys ms k
  have:=@Db fs keys ms k
  omega
theorem gk {l:List (VN × Nat)} {a b:List UInt8} {v:Nat}:aN l++[.agg [.str a,.str b,.int .u64 ((v/2^64:Nat):Int),.int .u64 ((v % 2^64:Nat):Int)]]=aN (l++[((a,b),v)]):=by
 simp [aN,gA]
def xy:List AV→AHeap→(AV→Prop)→Prop
 |[.agg [x,b1,b2,b3,b4,b5,b6,b7,b8,b9],.agg [a1,a2,.slice _ 3 y,a3,a4,a5,a6,a7],.agg [.int .i64 n1,z,.int .i64 pr,.int .i64 n2,b]],_,K=>∃ (fs:List SField) (keys:List SKey) (ms:List SMatch),
   (Bq x 3 (fs.map ce)∧fs.length≤1000000∧y=keys.map ct∧keys.length≤1000∧Bq z 8 (ms.map bu)∧ms.length≤4611686018427387904∧(∀ m∈ms,m.pfx<9223372036854775808)∧pr<9223372036854775808) ∧
   K (.slice .any 4 (aN (ke fs keys ms pr)))
 |_,_,_=>False
theorem zP:EntOk Tryz.prog 56 (Ent.pure xy):=by
 refine EntOk.pure fun args H K h=>?_
 unfold xy at h
 split at h
 rotate_left
 ·exact h.elim
 rename_i x b1 b2 b3 b4 b5 b6 b7 b8 b9 a1 a2 m y a3 a4 a5 a6 a7 n1 z pr n2 b
 obtain ⟨fs,keys,ms,⟨hx,hfl,rfl,hkl,hz,hml,hmp,hpr⟩,hK⟩:=h
 refine ⟨_,hK,?_⟩
 clear hK
 refine ACalls.fW aB (TblOk.cons k7 (TblOk.cons Fm (TblOk.cons Dn (TblOk.cons BI TblOk.nil)))) Tryz.func56 [.tmp 6] (Nat.le_refl _) (T:=aA [(12,[[],[],[],[],[],[],[],[],[],[],[],[8,10],[5,7,8,10,11],[],[2,4,5,7,8,10,11,12],[2,4,5,7,8,10,11,12]])]) (h:=fun hcl hlt=>?_)
 have hsc:=AV.lt_mono (Nat.le_succ H.nx) _ (hlt (.agg [x,b1,b2,b3,b4,b5,b6,b7,b8,b9]) (by simp))
 have htc:=fun n' (hn:H.nx≤n')=>AV.lt_mono hn _ (hlt (.agg [a1,a2,.slice m 3 (keys.map ct),a3,a4,a5,a6,a7]) (by simp))
 have hec:=fun n' (hn:H.nx≤n')=>AV.lt_mono hn _ (hlt (.agg [.int .i64 n1,z,.int .i64 pr,.int .i64 n2,b]) (by simp))
 have hm:∀ n',H.nx≤n'→AV.lt n' (.slice m 3 (keys.map ct)):=fun n' hn=>by have h1:=htc n' hn;rw [znn] at h1;exact h1.2.2.1
 simp only [znn] at hsc htc hec
 clear hlt
 obtain ⟨zm,zs,rfl,hzs⟩:∃ zm zs,z=.slice zm zs (ms.map bu)∧(zs=8∨ms=[]):=by
  rcases hz with ⟨zm,rfl⟩|⟨rfl,h⟩
  ·exact ⟨zm,8,rfl,.inl rfl⟩
  ·exact ⟨.nil,1,by rw [h],.inr (List.map_eq_nil_iff.1 h)⟩
 simp only [go_sem,bC]
 have hc0:(((((H.push (.cells [x,b1,b2,b3,b4,b5,b6,b7,b8,b9])).push (.cells [a1,a2,.slice m 3 (keys.map ct),a3,a4,a5,a6,a7])).push (.cells [.int .i64 n1,.slice zm zs (ms.map bu),.int .i64 pr,.int .i64 n2,b])).push (.buf 4 0)).push (.buf 4 0)).Closed :=
  af (af (ae (ae (ae hcl hsc) (htc _ (by simp only [go_sem];omega))) (hec _ (by simp only [go_sem];omega))))
 refine ay (A:=Nat × AHeap) (fun a=>[(3,.ptr H.nx 0),(5,.ptr (H.nx+1+1) 0),(7,.slice (.own (H.nx+1+1+1+1)) 4 (aN (bF fs keys ms a.1))),(15,.slice m 3 (keys.map ct)),(16,.int .i64 (keys.length:Int)),(17,.int .i64 (a.1:Int))]) (fun a=>a.2)
  (fun a=>a.1≤keys.length∧H.Le a.2∧a.2.Closed∧a.2.get H.nx=some (.cells [x,b1,b2,b3,b4,b5,b6,b7,b8,b9])∧a.2.get (H.nx+1+1)=some (.cells [.int .i64 n1,.slice zm zs (ms.map bu),.int .i64 pr,.int .i64 n2,b])∧a.2.get (H.nx+1+1+1+1)=some (.buf 4 (bF fs keys ms a.1).length)) (fun a=>keys.length - a.1)
  (0,(((((H.push (.cells [x,b1,b2,b3,b4,b5,b6,b7,b8,b9])).push (.cells [a1,a2,.slice m 3 (keys.map ct),a3,a4,a5,a6,a7])).push (.cells [.int .i64 n1,.slice zm zs (ms.map bu),.int .i64 pr,.int .i64 n2,b])).push (.buf 4 0)).push (.buf 4 0))) ⟨Nat.zero_le _,by repeat first|exact .refl _|refine .push ?_ _,hc0,by simp only [go_sem],by simp only [go_sem],by simp only [go_sem];rfl⟩ ?_ fun a ha=>?_
 ·(simp only [bkq,enterW,aI,ltF,ne_eq,Nat.reduceEqDiff,reduceCtorEq,hc0,hm,ax];try simp (disch:=first|exact Zd|omega) [↓zmk,beq,ybc,ybd,ybe,ag,wk,wk2,wk1,wkM,wkL,au,ybf,byq,biq,ah,hcl,hc0,hm,ax];try (repeat' (first|assumption|omega|exact True.intro|refine And.intro ?_ ?_|refine af ?_|refine aa ?_|refine ae ?_ ?_|refine ai ?_ ?_|refine aj ?_|exact AHeap.Le.refl _|refine AHeap.Le.push ?_ _|refine AHeap.Le.del ?_ ?_|(simp only [bt,and_true,true_and,hc0,hm,ax];first|done|omega|(simp;done)))))
  simp [aN,bF]
 obtain ⟨k,Hc⟩:=a
 obtain ⟨hk,hle,hcc,g1,g2,g3⟩:=ha
 dsimp only at hk hle hcc g1 g2 g3 ⊢
 have nx3:=AHeap.get_lt g3
 simp only [go_sem]
 refine aq (fun hc=>?_) (fun hc=>?_)
 ·have hk1:k<keys.length:=by simp at hc;omega
  have e5:IntKind.i64.wrap ((k:Int)+1)=((k+1:Nat):Int):=by rw [wrap_i64]<;>omega
  have n1':(H.nx+1+1=Hc.nx)=False:=eq_false (by omega)
  have n2':(H.nx+1+1=Hc.nx+1)=False:=eq_false (by omega)
  have n3':(H.nx=Hc.nx)=False:=eq_false (by omega)
  have n4':(H.nx=Hc.nx+1)=False:=eq_false (by omega)
  have n5':(H.nx+1=Hc.nx)=False:=eq_false (by omega)
  have hvl:=@qN keys[k].name keys[k].kind
  obtain ⟨V,hV⟩:∃ V,dW keys[k].name keys[k].kind=V:=⟨_,rfl⟩
  rw [hV] at hvl
  have htv:kL [keys[k]]=V++[mq]:=by simp [kL,hV]
  have e7:IntKind.i64.wrap (((V.length+(0+1):Nat):Int) - 1)=(V.length:Int):=by rw [wrap_i64]<;>omega
  have hvt:(a9 (V++[mq])).take V.length=a9 V:=by rw [a9,List.map_append,List.take_left' (by rw [ybb])];rfl
  simp only [go_sem,bC,jv hk1,Int.toNat_natCast,g2,av g2,n1',n2',n5',ybb]
  by_cases hkm:k<ms.length
  ·have d1:decide ((k:Int)<(ms.length:Int))=true:=decide_eq_true (by omega)
   obtain rfl:zs=8:=by rcases hzs with h|h;exact h;rw [h] at hkm;exact absurd hkm (by simp)
   have hgm:=cl (f:=bu) (l:=ms) (k:=k) (x:=ms[k]) (List.getElem?_eq_getElem hkm)
   simp only [go_sem,g2,av g2,n1',n2',n5',d1,hgm,bu,ea,vc,yal,yak,List.append_assoc,Int.toNat_natCast,ybb]
   have hkt:pZ fs keys ms k=dU fs keys[k] ms[k]:=by
    unfold pZ;rw [List.getElem?_eq_getElem hk1];simp only [List.getD_eq_getElem?_getD,List.getElem?_eq_getElem hkm,Option.getD_some]
   have hkb:(dU fs keys[k] ms[k]).length=V.length:=by rw [← hV];unfold dU dW;rw [ybb,ybb]
   refine ⟨by omega,by omega,[keys[k]],⟨rfl,by simp⟩,?_⟩
   rw [htv]
   simp only [go_sem,bk,List.length_append,yaz,yba,e7,hvt]
   refine ⟨by omega,?_⟩
   have hcq:(((Hc.push (.cells [.str keys[k].name,.int .i64 keys[k].field,.int .i64 keys[k].kind])).push (.cells [.bool ms[k].present,.int .u64 ((ms[k].value/2^64:Nat):Int),.int .u64 ((ms[k].value % 2^64:Nat):Int),.int .u64 ((ms[k].mask/2^64:Nat):Int),.int .u64 ((ms[k].mask % 2^64:Nat):Int),.int .i64 ms[k].pfx,.int .u64 ((ms[k].high/2^64:Nat):Int),.int .u64 ((ms[k].high % 2^64:Nat):Int)])).push (.buf 3 1)).Closed:=af (ae (ae hcc (by simp [znq,znr,znd,znb])) (by simp [znq,znr,znc,znb]))
   refine ay (A:=Nat × AHeap) (fun a=>[(3,.ptr H.nx 0),(5,.ptr (H.nx+1+1) 0),(7,.slice (.own (H.nx+1+1+1+1)) 4 (aN (bF fs keys ms k++(dU fs keys[k] ms[k]).take a.1))),(9,.ptr Hc.nx 0),(10,.ptr (Hc.nx+1) 0),(15,.slice m 3 (keys.map ct)),(16,.int .i64 (keys.length:Int)),(17,.int .i64 (k:Int)),(40,.slice .any 2 (a9 V)),(41,.int .i64 (V.length:Int)),(42,.int .i64 (a.1:Int))]) (fun a=>a.2)
    (fun a=>a.1≤V.length∧H.Le a.2∧a.2.Closed∧a.2.get H.nx=some (.cells [x,b1,b2,b3,b4,b5,b6,b7,b8,b9])∧a.2.get (H.nx+1+1)=some (.cells [.int .i64 n1,.slice zm 8 (ms.map bu),.int .i64 pr,.int .i64 n2,b])∧a.2.get (H.nx+1+1+1+1)=some (.buf 4 (bF fs keys ms k++(dU fs keys[k] ms[k]).take a.1).length)∧a.2.get Hc.nx=some (.cells [.str keys[k].name,.int .i64 keys[k].field,.int .i64 keys[k].kind])∧a.2.get (Hc.nx+1)=some (.cells [.bool ms[k].present,.int .u64 ((ms[k].value/2^64:Nat):Int),.int .u64 ((ms[k].value % 2^64:Nat):Int),.int .u64 ((ms[k].mask/2^64:Nat):Int),.int .u64 ((ms[k].mask % 2^64:Nat):Int),.int .i64 ms[k].pfx,.int .u64 ((ms[k].high/2^64:Nat):Int),.int .u64 ((ms[k].high % 2^64:Nat):Int)])) (fun a=>V.length - a.1)
    (0,((Hc.push (.cells [.str keys[k].name,.int .i64 keys[k].field,.int .i64 keys[k].kind])).push (.cells [.bool ms[k].present,.int .u64 ((ms[k].value/2^64:Nat):Int),.int .u64 ((ms[k].value % 2^64:Nat):Int),.int .u64 ((ms[k].mask/2^64:Nat):Int),.int .u64 ((ms[k].mask % 2^64:Nat):Int),.int .i64 ms[k].pfx,.int .u64 ((ms[k].high/2^64:Nat):Int),.int .u64 ((ms[k].high % 2^64:Nat):Int)])).push (.buf 3 1)) ⟨Nat.zero_le _,((hle.push _).push _).push _,hcq,?_,?_,?_,by simp only [go_sem],by simp only [go_sem]⟩ ?_ fun a ha=>?_
   ·dsimp only
    rw [AHeap.get_push_lt _ _ (by simp only [zla];omega),AHeap.get_push_lt _ _ (by simp only [zla];omega),AHeap.get_push_lt _ _ (by omega)];exact g1
   ·dsimp only
    rw [AHeap.get_push_lt _ _ (by simp only [zla];omega),AHeap.get_push_lt _ _ (by simp only [zla];omega),AHeap.get_push_lt _ _ (by omega)];exact g2
   ·dsimp only
    rw [AHeap.get_push_lt _ _ (by simp only [zla];omega),AHeap.get_push_lt _ _ (by simp only [zla];omega),AHeap.get_push_lt _ _ (by omega),g3];simp
   ·have hnn:H.nx≤Hc.nx:=by omega
    have hmi:min V.length (a9 (V++[mq])).length=V.length:=by rw [bk,List.length_append];omega
    (simp only [bkq,enterW,aI,ltF,ne_eq,Nat.reduceEqDiff,reduceCtorEq,hcq,hm,ax,aD,hnn];try simp (disch:=first|exact Zd|omega) [↓zmk,beq,ybc,ybd,ybe,ag,wk,wk2,wk1,wkM,wkL,au,ybf,byq,biq,ah,hcl,hcq,hm,ax,aD,hnn];try (repeat' (first|assumption|omega|exact True.intro|refine And.intro ?_ ?_|refine af ?_|refine aa ?_|refine ae ?_ ?_|refine ai ?_ ?_|refine aj ?_|exact AHeap.Le.refl _|refine AHeap.Le.push ?_ _|refine AHeap.Le.del ?_ ?_|(simp only [bt,and_true,true_and,hcq,hm,ax,aD,hnn];first|done|omega|(simp;done)))))
    all_goals rw [hmi]
   obtain ⟨j,Hd⟩:=a
   obtain ⟨hj,hle2,hcd,q1,q2,q3,q4,q5⟩:=ha
   dsimp only at hj hle2 hcd q1 q2 q3 q4 q5 ⊢
   have p3:=AHeap.get_lt q3
   have p4:=AHeap.get_lt q4
   have p5:=AHeap.get_lt q5
   simp only [go_sem]
   refine aq (fun hc=>?_) (fun hc=>?_)
   ·have hj1:j<V.length:=by simp at hc;omega
    have e6:IntKind.i64.wrap ((j:Int)+1)=((j+1:Nat):Int):=by rw [wrap_i64]<;>omega
    have hVj:=iS hj1
    have htk:(dU fs keys[k] ms[k]).take (j+1)=(dU fs keys[k] ms[k]).take j++[((V[j].1,V[j].2),gD ms[k] V[j].2 (gh fs keys[k].field))]:=by
     rw [List.take_succ_eq_append_getElem (by rw [hkb];exact hj1)]
     congr 1
     subst hV
     simp [dU,dW]
    have r1:(H.nx=Hd.nx)=False:=eq_false (by omega)
    have r2:(Hc.nx=Hd.nx)=False:=eq_false (by omega)
    have r3:(Hc.nx+1=Hd.nx)=False:=eq_false (by omega)
    have r5:(H.nx+1+1+1=Hd.nx)=False:=eq_false (by omega)
    have r4:(H.nx+1+1+1+1=Hd.nx)=False:=eq_false (by omega)
    simp only [go_sem,bk,hVj,Int.toNat_natCast,q1,av q1,q4,av q4,q5,av q5,r1,r2,r3,r4,r5,e6]
    refine ⟨by omega,fs,⟨hx,hfl⟩,?_⟩
    simp only [go_sem,q1,av q1,q4,av q4,q5,av q5,r1,r2,r3,r4,r5,e6]
    refine ⟨ms[k],⟨rfl,hmp _ (List.getElem_mem hkm)⟩,?_⟩
    simp only [go_sem,q1,av q1,q3,q4,av q4,q5,av q5,r1,r2,r3,r4,r5,e6,vv]
    obtain ⟨LL,hLL⟩:∃ LL,bF fs keys ms k++(dU fs keys[k] ms[k]).take j=LL:=⟨_,rfl⟩
    have hll:LL.length≤2*k+2:=by
     have:=@gV fs keys ms k
     rw [← hLL,List.length_append,List.length_take];omega
    have hln:bF fs keys ms k++(dU fs keys[k] ms[k]).take (j+1)=LL++[((V[j].1,V[j].2),gD ms[k] V[j].2 (gh fs keys[k].field))]:=by rw [htk,← List.append_assoc,hLL]
    rw [hLL]
    have hsn:=gk (l:=LL) (a:=V[j].1) (b:=V[j].2) (v:=gD ms[k] V[j].2 (gh fs keys[k].field))
    refine ⟨⟨by rw [aC],by rw [aC];omega,by rw [aC];omega,fun z hz=>by rw [List.mem_singleton.1 hz];rfl⟩,(j+1,Hd.set (H.nx+1+1+1+1) (.buf 4 (LL.length+1))),⟨by dsimp only;omega,bj hle2 (by omega),aa hcd,?_,?_,?_,?_,?_⟩,by dsimp only;omega,?_⟩
    ·dsimp only
     rw [az,if_neg (by omega)];exact q1
    ·dsimp only
     rw [az,if_neg (by omega)];exact q2
    ·dsimp only
     rw [az,if_pos rfl,if_pos p3,hln];simp
    ·dsimp only
     rw [az,if_neg (by omega)];exact q4
    ·dsimp only
     rw [az,if_neg (by omega)];exact q5
    ·have hnn:H.nx≤Hd.nx:=by omega
     have hcs:=@aa Hd (H.nx+1+1+1+1) 4 (LL.length+1) hcd
     dsimp only
     rw [hln,hsn]
     simp only [aC]
     exact Z53
   ·have hj1:j=V.length:=by simp at hc;omega
    subst hj1
    simp only [go_sem,e5]
    rw [ybc (by rw [hkb];exact Nat.le_refl _),← hkt] at q3
    rw [ybc (by rw [hkb];exact Nat.le_refl _),← hkt]
    refine ⟨(k+1,Hd),⟨by dsimp only;omega,hle2,hcd,q1,q2,q3⟩,by dsimp only;omega,?_⟩
    have hnn:H.nx≤Hd.nx:=by omega
    (simp only [bkq,enterW,aI,ltF,ne_eq,Nat.reduceEqDiff,reduceCtorEq,hcd,hm,ax,hnn];try simp (disch:=first|exact Zd|omega) [↓zmk,beq,ybc,ybd,ybe,ag,wk,wk2,wk1,wkM,wkL,au,ybf,byq,biq,ah,hcl,hcd,hm,ax,hnn];try (repeat' (first|assumption|omega|exact True.intro|refine And.intro ?_ ?_|refine af ?_|refine aa ?_|refine ae ?_ ?_|refine ai ?_ ?_|refine aj ?_|exact AHeap.Le.refl _|refine AHeap.Le.push ?_ _|refine AHeap.Le.del ?_ ?_|(simp only [bt,and_true,true_and,hcd,hm,ax,hnn];first|done|omega|(simp;done)))))
    all_goals rfl
  ·have d1:decide ((k:Int)<(ms.length:Int))=false:=decide_eq_false (by omega)
   simp only [go_sem,d1]
   have hkt:pZ fs keys ms k=dU fs keys[k] cS:=by
    unfold pZ;rw [List.getElem?_eq_getElem hk1];simp only [List.getD_eq_getElem?_getD,List.getElem?_eq_none (show ms.length≤k by omega),Option.getD_none]
   have hkb:(dU fs keys[k] cS).length=V.length:=by rw [← hV];unfold dU dW;rw [ybb,ybb]
   refine ⟨by omega,[keys[k]],⟨rfl,by simp⟩,?_⟩
   rw [htv]
   simp only [go_sem,bk,List.length_append,yaz,yba,e7,hvt]
   refine ⟨by omega,?_⟩
   have hcq:(((Hc.push (.cells [.str keys[k].name,.int .i64 keys[k].field,.int .i64 keys[k].kind])).push (.cells [.bool false,.int .u64 0,.int .u64 0,.int .u64 0,.int .u64 0,.int .i64 0,.int .u64 0,.int .u64 0])).push (.buf 3 1)).Closed:=af (ae (ae hcc (by simp [znq,znr,znd,znb])) (by simp [znq,znr,znc,znb]))
   refine ay (A:=Nat × AHeap) (fun a=>[(3,.ptr H.nx 0),(5,.ptr (H.nx+1+1) 0),(7,.slice (.own (H.nx+1+1+1+1)) 4 (aN (bF fs keys ms k++(dU fs keys[k] cS).take a.1))),(9,.ptr Hc.nx 0),(10,.ptr (Hc.nx+1) 0),(15,.slice m 3 (keys.map ct)),(16,.int .i64 (keys.length:Int)),(17,.int .i64 (k:Int)),(40,.slice .any 2 (a9 V)),(41,.int .i64 (V.length:Int)),(42,.int .i64 (a.1:Int))]) (fun a=>a.2)
    (fun a=>a.1≤V.length∧H.Le a.2∧a.2.Closed∧a.2.get H.nx=some (.cells [x,b1,b2,b3,b4,b5,b6,b7,b8,b9])∧a.2.get (H.nx+1+1)=some (.cells [.int .i64 n1,.slice zm zs (ms.map bu),.int .i64 pr,.int .i64 n2,b])∧a.2.get (H.nx+1+1+1+1)=some (.buf 4 (bF fs keys ms k++(dU fs keys[k] cS).take a.1).length)∧a.2.get Hc.nx=some (.cells [.str keys[k].name,.int .i64 keys[k].field,.int .i64 keys[k].kind])∧a.2.get (Hc.nx+1)=some (.cells [.bool false,.int .u64 0,.int .u64 0,.int .u64 0,.int .u64 0,.int .i64 0,.int .u64 0,.int .u64 0])) (fun a=>V.length - a.1)
    (0,((Hc.push (.cells [.str keys[k].name,.int .i64 keys[k].field,.int .i64 keys[k].kind])).push (.cells [.bool false,.int .u64 0,.int .u64 0,.int .u64 0,.int .u64 0,.int .i64 0,.int .u64 0,.int .u64 0])).push (.buf 3 1)) ⟨Nat.zero_le _,((hle.push _).push _).push _,hcq,?_,?_,?_,by simp only [go_sem],by simp only [go_sem]⟩ ?_ fun a ha=>?_
   ·dsimp only
    rw [AHeap.get_push_lt _ _ (by simp only [zla];omega),AHeap.get_push_lt _ _ (by simp only [zla];omega),AHeap.get_push_lt _ _ (by omega)];exact g1
   ·dsimp only
    rw [AHeap.get_push_lt _ _ (by simp only [zla];omega),AHeap.get_push_lt _ _ (by simp only [zla];omega),AHeap.get_push_lt _ _ (by omega)];exact g2
   ·dsimp only
    rw [AHeap.get_push_lt _ _ (by simp only [zla];omega),AHeap.get_push_lt _ _ (by simp only [zla];omega),AHeap.get_push_lt _ _ (by omega),g3];simp
   ·have hnn:H.nx≤Hc.nx:=by omega
    have hmi:min V.length (a9 (V++[mq])).length=V.length:=by rw [bk,List.length_append];omega
    (simp only [bkq,enterW,aI,ltF,ne_eq,Nat.reduceEqDiff,reduceCtorEq,hcq,hm,ax,aD,hnn];try simp (disch:=first|exact Zd|omega) [↓zmk,beq,ybc,ybd,ybe,ag,wk,wk2,wk1,wkM,wkL,au,ybf,byq,biq,ah,hcl,hcq,hm,ax,aD,hnn];try (repeat' (first|assumption|omega|exact True.intro|refine And.intro ?_ ?_|refine af ?_|refine aa ?_|refine ae ?_ ?_|refine ai ?_ ?_|refine aj ?_|exact AHeap.Le.refl _|refine AHeap.Le.push ?_ _|refine AHeap.Le.del ?_ ?_|(simp only [bt,and_true,true_and,hcq,hm,ax,aD,hnn];first|done|omega|(simp;done)))))
    all_goals rw [hmi]
   obtain ⟨j,Hd⟩:=a
   obtain ⟨hj,hle2,hcd,q1,q2,q3,q4,q5⟩:=ha
   dsimp only at hj hle2 hcd q1 q2 q3 q4 q5 ⊢
   have p3:=AHeap.get_lt q3
   have p4:=AHeap.get_lt q4
   have p5:=AHeap.get_lt q5
   simp only [go_sem]
   refine aq (fun hc=>?_) (fun hc=>?_)
   ·have hj1:j<V.length:=by simp at hc;omega
    have e6:IntKind.i64.wrap ((j:Int)+1)=((j+1:Nat):Int):=by rw [wrap_i64]<;>omega
    have hVj:=iS hj1
    have htk:(dU fs keys[k] cS).take (j+1)=(dU fs keys[k] cS).take j++[((V[j].1,V[j].2),gD cS V[j].2 (gh fs keys[k].field))]:=by
     rw [List.take_succ_eq_append_getElem (by rw [hkb];exact hj1)]
     congr 1
     subst hV
     simp [dU,dW]
    have r1:(H.nx=Hd.nx)=False:=eq_false (by omega)
    have r2:(Hc.nx=Hd.nx)=False:=eq_false (by omega)
    have r3:(Hc.nx+1=Hd.nx)=False:=eq_false (by omega)
    have r5:(H.nx+1+1+1=Hd.nx)=False:=eq_false (by omega)
    have r4:(H.nx+1+1+1+1=Hd.nx)=False:=eq_false (by omega)
    simp only [go_sem,bk,hVj,Int.toNat_natCast,q1,av q1,q4,av q4,q5,av q5,r1,r2,r3,r4,r5,e6]
    refine ⟨by omega,fs,⟨hx,hfl⟩,?_⟩
    simp only [go_sem,q1,av q1,q4,av q4,q5,av q5,r1,r2,r3,r4,r5,e6]
    refine ⟨cS,⟨rfl,by decide⟩,?_⟩
    simp only [go_sem,q1,av q1,q3,q4,av q4,q5,av q5,r1,r2,r3,r4,r5,e6,vv]
    obtain ⟨LL,hLL⟩:∃ LL,bF fs keys ms k++(dU fs keys[k] cS).take j=LL:=⟨_,rfl⟩
    have hll:LL.length≤2*k+2:=by
     have:=@gV fs keys ms k
     rw [← hLL,List.length_append,List.length_take];omega
    have hln:bF fs keys ms k++(dU fs keys[k] cS).take (j+1)=LL++[((V[j].1,V[j].2),gD cS V[j].2 (gh fs keys[k].field))]:=by rw [htk,← List.append_assoc,hLL]
    rw [hLL]
    have hsn:=gk (l:=LL) (a:=V[j].1) (b:=V[j].2) (v:=gD cS V[j].2 (gh fs keys[k].field))
    refine ⟨⟨by rw [aC],by rw [aC];omega,by rw [aC];omega,fun z hz=>by rw [List.mem_singleton.1 hz];rfl⟩,(j+1,Hd.set (H.nx+1+1+1+1) (.buf 4 (LL.length+1))),⟨by dsimp only;omega,bj hle2 (by omega),aa hcd,?_,?_,?_,?_,?_⟩,by dsimp only;omega,?_⟩
    ·dsimp only
     rw [az,if_neg (by omega)];exact q1
    ·dsimp only
     rw [az,if_neg (by omega)];exact q2
    ·dsimp only
     rw [az,if_pos rfl,if_pos p3,hln];simp
    ·dsimp only
     rw [az,if_neg (by omega)];exact q4
    ·dsimp only
     rw [az,if_neg (by omega)];exact q5
    ·have hnn:H.nx≤Hd.nx:=by omega
     have hcs:=@aa Hd (H.nx+1+1+1+1) 4 (LL.length+1) hcd
     dsimp only
     rw [hln,hsn]
     simp only [aC]
     exact Z53
   ·have hj1:j=V.length:=by simp at hc;omega
    subst hj1
    simp only [go_sem,e5]
    rw [ybc (by rw [hkb];exact Nat.le_refl _),← hkt] at q3
    rw [ybc (by rw [hkb];exact Nat.le_refl _),← hkt]
    refine ⟨(k+1,Hd),⟨by dsimp only;omega,hle2,hcd,q1,q2,q3⟩,by dsimp only;omega,?_⟩
    have hnn:H.nx≤Hd.nx:=by omega
    (simp only [bkq,enterW,aI,ltF,ne_eq,Nat.reduceEqDiff,reduceCtorEq,hcd,hm,ax,hnn];try simp (disch:=first|exact Zd|omega) [↓zmk,beq,ybc,ybd,ybe,ag,wk,wk2,wk1,wkM,wkL,au,ybf,byq,biq,ah,hcl,hcd,hm,ax,hnn];try (repeat' (first|assumption|omega|exact True.intro|refine And.intro ?_ ?_|refine af ?_|refine aa ?_|refine ae ?_ ?_|refine ai ?_ ?_|refine aj ?_|exact AHeap.Le.refl _|refine AHeap.Le.push ?_ _|refine AHeap.Le.del ?_ ?_|(simp only [bt,and_true,true_and,hcd,hm,ax,hnn];first|done|omega|(simp;done)))))
    all_goals rfl
 ·have hk1:k=keys.length:=by simp at hc;omega
  subst hk1
  have hbl:=@gV fs keys ms keys.length
  simp only [go_sem,g2,av g2,g3,wL,aC,vv]
  refine ⟨hpr,?_⟩
  have n6:(H.nx+1+1+1+1=Hc.nx)=False:=eq_false (by omega)
  have hsn:=gk (l:=bF fs keys ms keys.length) (a:=[112,114,105,111,114,105,116,121]) (b:=[]) (v:=pr.toNat)
  have htb:ke fs keys ms pr=bF fs keys ms keys.length++[(([112,114,105,111,114,105,116,121],[]),pr.toNat)]:=rfl
  rw [htb]
  generalize bF fs keys ms keys.length=G at *
  simp only [n6,if_false]
  refine ⟨⟨trivial,by omega,by omega,fun z hz=>by rw [List.mem_singleton.1 hz];rfl⟩,?_⟩
  rw [hsn]
  have hle3:=(bj hle (show H.nx≤(H.nx+1+1+1+1) by omega) (o:=.buf 4 (G.length+1))).push (.buf 4 1)
  exact Z54
end Go.AL
