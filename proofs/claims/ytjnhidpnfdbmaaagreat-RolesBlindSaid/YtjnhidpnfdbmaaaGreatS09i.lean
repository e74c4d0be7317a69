/- Lemmas of the proof; no condition. -/
import Derived.Test.YtjnhidpnfdbmaaaGreatS09e
import Derived.Test.YtjnhidpnfdbmaaaGreatS10j
import Derived.Test.YtjnhidpnfdbmaaaGreatS07h
set_option linter.all false
set_option maxRecDepth 10000
set_option maxHeartbeats 32000000
open List renaming length_cons → yaz, length_nil → yba, take_of_length_le → ybc, drop_append → ybd, take_append → ybe, drop_eq_nil_of_le → ybf, length_map → ybb, cons_append → yal, nil_append → yak
open Go Go.AL Go.Proofs
namespace Go.AL
theorem Ez {l:List Tok}:∀ p t a q t',eD l p t=.ok a q t'→AllN y8 t→AllN y8 t':=by
 intro p t a q t' h hg
 unfold eD at h
 repeat' split at h
 all_goals first|(cases h;done)|(cases h;exact hg.snoc fun h2=>by first|(exact absurd (show (1:Nat)=2 from h2) (by decide))|(exact absurd (show (3:Nat)=2 from h2) (by decide))|exact nrq 1|exact Nat.zero_le 1)
theorem zg {l:List Tok} {r:PR} {f:Nat} (h:run l f .imp 0 []=some r):AllN y8 (dX l r).1:=by
 have h0:AllN y8 ([]:List Nd):=fun n hn=>by cases hn
 cases r with
 |bad p=>exact h0
 |ok a p t =>
  dsimp only [dX]
  split
  ·exact h0
  ·split
   ·exact h0
   ·exact wE (fun _ _ _ h=>fun h3=>by simp only [nd2] at h3;omega) Ez f h h0
theorem yq {kn:VN→Bool} {s:List UInt8} (h:(comp kn s).2=0):okC (comp kn s).1:=by
 obtain ⟨h1,h2,h3,h4⟩:=Jk h
 refine ⟨h3,h1,h2,?_,h4⟩
 unfold comp
 split
 ·intro n hn
  have:n=⟨2,0,0,[],[],1⟩:=by simpa [oneT] using hn
  subst this
  intro _
  decide
 ·obtain ⟨f,hf⟩:=xz (cD s).1
  unfold Co
  repeat' split
  all_goals first|exact zg hf|(intro n hn;cases hn)
def lI (l:List Nat):List AV:=l.map fun v=>.agg [.int .u64 ((v/2^64:Nat):Int),.int .u64 ((v % 2^64:Nat):Int)]
theorem nN {l:List Nat}:(lI l).length=l.length:=by simp [lI]
theorem Bd {l:List Nat} {k:Nat} (h:k<l.length):(lI l).getD k .junk=.agg [.int .u64 ((l[k]/2^64:Nat):Int),.int .u64 ((l[k] % 2^64:Nat):Int)]:=by
 simp [lI,gEq,h]
theorem MT {P:Program} {f:FuncId} {p q:List AV→AHeap→(AV→Prop)→Prop} (h1:EntOk P f (Ent.pure p)) (h2:EntOk P f (Ent.pure q)):EntOk P f (Ent.pure fun a H K=>p a H K∨q a H K) :=
 EntOk.pure fun a H K h=>h.elim (h1.1 rfl a H K) (h2.1 rfl a H K)
def Gh (x:AV) (sz:Nat) (l:List AV):Prop:=(∃ m,x=.slice m sz l)∨(x=.slice .nil 1 []∧l=[])
def sf:List AV→AHeap→(AV→Prop)→Prop
 |[.slice .nil 1 [],.func f [] [.ptr c 0]],_,K=>K (.int .i64 (-1))
 |_,_,_=>False
theorem Hs:EntOk Tryz.prog 139 (Ent.pure sf):=by
 refine Ype fun _ H K h=>?_
 unfold sf at h
 split at h
 rotate_left
 ·exact h.elim
 rename_i f c
 refine ⟨_,h,?_⟩
 clear h
 refine ACalls.fW au tNq Tryz.func139 [.tmp 4] (nrq _) (T:=aq []) (h:=fun hcl hlt=>?_)
 have hf:AV.lt H.nx (.func f [] [.ptr c 0]):=hlt _ (by simp)
 clear hlt
 simp only [go_sem]
 refine az (A:=Nat) (fun k=>[(0,.slice .nil 1 []),(1,.func f [] [.ptr c 0]),(7,.int .i64 0),(8,.int .i64 0)]) (fun _=>H) (fun k=>True) (fun k=>0) 0 trivial ?_ fun k hk=>?_
 ·refine ⟨nrq _,lRq _,hcl,?_,?_⟩
  ·simp [ltF,znf,hf,zmn]
  ·simp [aJ,wk2,wk1,wkM,Fr.get]
 have d0:decide ((0:Int)<0)=false:=rfl
 simp only [go_sem,d0]
 exact Z0
def Ie:List AV→AHeap→(AV→Prop)→Prop:=fun a H K=>xk a H K∨sf a H K
theorem yv:EntOk Tryz.prog 139 (Ent.pure Ie):=MT Ca Hs
def lN:List AV→AHeap→(AV→Prop)→Prop
 |[.agg [x,_,_,_,_,_,_,_,_,_],.int .i64 n],_,K=>∃ fs:List SField,(Gh x 3 (fs.map cn)∧fs.length≤1000000)∧K (.int .i64 (ixP (fun t:SField=>t.id==n) fs 0))
 |_,_,_=>False
theorem rm:EntOk Tryz.prog 107 (Ent.pure lN):=by
 refine Ype fun _ H K h=>?_
 unfold lN at h
 split at h
 rotate_left
 ·exact h.elim
 rename_i x b1 b2 b3 b4 b5 b6 b7 b8 b9 n
 obtain ⟨fs,⟨hx,hl⟩,hK⟩:=h
 refine ⟨_,hK,?_⟩
 clear hK
 rcases hx with ⟨m,rfl⟩|⟨rfl,he⟩
 ·skip
  refine ACalls.fW au (tCq yv tNq) Tryz.func107 [.tmp 4] (nrq _) (T:=aq []) (h:=fun hcl hlt=>?_)
  clear hlt
  simp only [go_sem]
  refine .inl ⟨fs,n,⟨rfl,by simp only [go_sem],hl⟩,?_⟩
  simp only [go_sem]
  exact Z0
 ·obtain rfl:fs=[]:=List.map_eq_nil_iff.1 he
  refine ACalls.fW au (tCq yv tNq) Tryz.func107 [.tmp 4] (nrq _) (T:=aq []) (h:=fun hcl hlt=>?_)
  clear hlt
  simp only [go_sem]
  refine .inr ?_
  simp only [go_sem,sf,ixP]
  exact Z0
def Ch:List AV→AHeap→(AV→Prop)→Prop
 |[.agg [x,_,_,_,_,_,_,_,_,_],.int .i64 n],_,K=>∃ fs:List SField,(Gh x 3 (fs.map cn)∧fs.length≤1000000)∧K (.int .i64 (io fs n))
 |_,_,_=>False
theorem Fu:EntOk Tryz.prog 123 (Ent.pure Ch):=by
 refine Ype fun _ H K h=>?_
 unfold Ch at h
 split at h
 rotate_left
 ·exact h.elim
 rename_i x b1' b2' b3 b4 b5 b6 b7 b8 b9 fld
 obtain ⟨fs,⟨hx,hl⟩,hK⟩:=h
 refine ⟨_,hK,?_⟩
 clear hK
 rw [um]
 obtain ⟨b1,b2⟩:=om (q:=fun f:SField=>f.id==fld) (l:=fs) (k:=0)
 rcases b2 with b2|b2
 ·rw [lf b2]
  refine ACalls.fW au (tCq rm tNq) Tryz.func123 [.tmp 4] (nrq _) (T:=aq []) (h:=fun hcl hlt=>?_)
  clear hlt
  simp only [go_sem,lN]
  (repeat with_reducible refine Yq ?_)
  refine ⟨fs,⟨hx,hl⟩,?_⟩
  rw [b2]
  have d:decide ((-1:Int)<0)=true:=rfl
  simp only [aH,go_sem,d]
  exact Z0
 ·obtain ⟨i,hi⟩:∃ i:Nat,ixP (fun f:SField=>f.id==fld) fs 0=((0+i:Nat):Int):=⟨(ixP (fun f:SField=>f.id==fld) fs 0).toNat,by omega⟩
  obtain ⟨y,h1,h2,h3⟩:=nn hi
  rw [h3]
  rw [nzq] at hi
  have hil:i<fs.length:=by
   rcases Nat.lt_or_ge i fs.length with h|h
   ·exact h
   ·rw [gNq h] at h1;cases h1
  have hg':=aU (f:=cn) (l:=fs) (k:=i) (x:=y) h1
  have d:decide ((i:Int)<0)=false:=by simp
  obtain ⟨m,rfl⟩:∃ m,x=.slice m 3 (fs.map cn):=by
   rcases hx with h|⟨_,h⟩
   ·exact h
   ·rw [List.map_eq_nil_iff.1 h] at hil;exact absurd hil (by simp)
  refine ACalls.fW au (tCq rm tNq) Tryz.func123 [.tmp 4] (nrq _) (T:=aq []) (h:=fun hcl hlt=>?_)
  clear hlt
  simp only [go_sem,lN]
  (repeat with_reducible refine Yq ?_)
  refine ⟨fs,⟨hx,hl⟩,?_⟩
  rw [hi]
  simp only [aH,go_sem,d,iNq,hg',cn,ybb]
  (repeat with_reducible refine Yq ?_)
  exact Z0
def xx:List AV→AHeap→(AV→Prop)→Prop
 |[.int .i64 n],_,K=>n<9223372036854775808∧K (vv n.toNat)
 |_,_,_=>False
theorem LI {n:Int} (h:n<9223372036854775808):vv n.toNat=.agg [.int .u64 0,.int .u64 (max 0 n)]:=by
 unfold vv
 have h1:n.toNat/2^64=0:=by omega
 have h2:((n.toNat % 2^64:Nat):Int)=max 0 n:=by omega
 rw [h1,h2];rfl
theorem BK:EntOk Tryz.prog 124 (Ent.pure xx):=by
 refine Ype fun _ H K h=>?_
 unfold xx at h
 split at h
 rotate_left
 ·exact h.elim
 rename_i n
 obtain ⟨h1,hK⟩:=h
 refine ⟨_,hK,?_⟩
 clear hK
 rw [LI h1]
 have e1:IntKind.u64.wrap (max 0 n)=max 0 n:=by rw [cP]<;>omega
 refine ACalls.fW au (tCq qt tNq) Tryz.func124 [.cell 2 29] (nrq _) (T:=aq []) (h:=fun hcl hlt=>?_)
 clear hlt
 simp only [go_sem,rA,e1]
 exact Z0
def K9:List UInt8:=[112,114,101,102,105,120,95,108,101,110,103,116,104]
def Ka:List UInt8:=[109,97,115,107]
def Km:List UInt8:=[104,105,103,104]
def kX (x:SMatch) (a:List UInt8) (w:Int):Nat :=
 if a=K9 then x.pfx.toNat else if a=Ka then x.mask else if a=Km then (if x.present=true then x.high else jh w) else x.value
def yf:List AV→AHeap→(AV→Prop)→Prop
 |[.agg l,.str a,.int .i64 w],_,K=>∃ x,(l=bq x∧x.pfx<9223372036854775808)∧K (vv (kX x a w))
 |_,_,_=>False
theorem DV:EntOk Tryz.prog 122 (Ent.pure yf):=by
 refine Ype fun _ H K h=>?_
 unfold yf at h
 split at h
 rotate_left
 ·exact h.elim
 rename_i l a w
 obtain ⟨x,⟨rfl,hp⟩,hK⟩:=h
 refine ⟨_,hK,?_⟩
 clear hK
 refine ACalls.fW au (tCq BK (tCq dK tNq)) Tryz.func122 [.cell 6 29] (nrq _) (T:=aq []) (h:=fun hcl hlt=>?_)
 clear hlt
 by_cases h1:a=K9
 ·have hw:kX x a w=x.pfx.toNat:=by unfold kX;rw [if_pos h1]
  rw [hw,h1]
  simp only [go_sem,bq,vc,yal,yak,List.append_assoc,K9,beq_self_eq_true,xx,vv]
  refine ⟨hp,?_⟩
  exact Z0
 have d1:(a==[112,114,101,102,105,120,95,108,101,110,103,116,104])=false:=beq_eq_false_iff_ne.2 h1
 by_cases h2:a=Ka
 ·have d2:(a==[109,97,115,107])=true:=by rw [h2];rfl
  have hw:kX x a w=x.mask:=by unfold kX;rw [if_neg h1,if_pos h2]
  rw [hw]
  simp only [go_sem,bq,vc,yal,yak,List.append_assoc,d1,d2,vv]
  exact Z0
 have d2:(a==[109,97,115,107])=false:=beq_eq_false_iff_ne.2 h2
 by_cases h3:a=Km
 ·have d3:(a==[104,105,103,104])=true:=by rw [h3];rfl
  cases hx:x.present
  ·have hw:kX x a w=jh w:=by unfold kX;rw [if_neg h1,if_neg h2,if_pos h3,hx,if_neg (by decide)]
   rw [hw]
   simp only [go_sem,bq,vc,yal,yak,List.append_assoc,d1,d2,d3,hx,gT,vv]
   exact Z0
  ·have hw:kX x a w=x.high:=by unfold kX;rw [if_neg h1,if_neg h2,if_pos h3,hx,if_pos rfl]
   rw [hw]
   simp only [go_sem,bq,vc,yal,yak,List.append_assoc,d1,d2,d3,hx,vv]
   exact Z0
 have d3:(a==[104,105,103,104])=false:=beq_eq_false_iff_ne.2 h3
 have hw:kX x a w=x.value:=by unfold kX;rw [if_neg h1,if_neg h2,if_neg h3]
 rw [hw]
 simp only [go_sem,bq,vc,yal,yak,List.append_assoc,d1,d2,d3,vv]
 exact Z0
def jH (fs:List SField) (q:SKey) (x:SMatch):List (VN × Nat):=(mV q.kind).map fun a=>((q.name,a),kX x a (io fs q.field))
def rz (fs:List SField) (keys:List SKey) (ms:List SMatch) (k:Nat):List (VN × Nat):=match keys[k]? with
 |some q=>jH fs q (ms.getD k cA)
 |none=>[]
def eH (fs:List SField) (keys:List SKey) (ms:List SMatch):Nat→List (VN × Nat)
 |0=>[]
 |k+1=>eH fs keys ms k++rz fs keys ms k
def oX (fs:List SField) (keys:List SKey) (ms:List SMatch) (p:Int):List (VN × Nat):=eH fs keys ms keys.length++[(pm,p.toNat)]
theorem DE {k:Int}:(mV k).length≤2:=by
 unfold mV
 repeat' split
 all_goals simp
theorem Dd {fs:List SField} {keys:List SKey} {ms:List SMatch} {k:Nat}:(rz fs keys ms k).length≤2:=by
 unfold rz
 split
 ·unfold jH;rw [ybb];exact DE
 ·simp
theorem jL {fs:List SField} {keys:List SKey} {ms:List SMatch}:∀ {k:Nat},(eH fs keys ms k).length≤2*k
 |0=>nrq _
 |k+1=>by
  rw [eH,lAq]
  have:=@jL fs keys ms k
  have:=@Dd fs keys ms k
  omega
theorem jt {l:List (VN × Nat)} {a b:List UInt8} {v:Nat}:cz l++[.agg [.str a,.str b,.int .u64 ((v/2^64:Nat):Int),.int .u64 ((v % 2^64:Nat):Int)]]=cz (l++[((a,b),v)]):=by
 simp [cz,xS]
def wG:List AV→AHeap→(AV→Prop)→Prop
 |[.agg [x,b1,b2,b3,b4,b5,b6,b7,b8,b9],.agg [a1,a2,.slice _ 3 y,a3,a4,a5,a6,a7],.agg [.int .i64 n1,z,.int .i64 pr,.int .i64 n2,b]],_,K=>∃ (fs:List SField) (keys:List SKey) (ms:List SMatch),
   (Gh x 3 (fs.map cn)∧fs.length≤1000000∧y=keys.map bU∧keys.length≤1000∧Gh z 8 (ms.map aI)∧ms.length≤4611686018427387904∧(∀ m∈ms,m.pfx<9223372036854775808)∧pr<9223372036854775808) ∧
   K (.slice .any 4 (cz (oX fs keys ms pr)))
 |_,_,_=>False
theorem EX:EntOk Tryz.prog 81 (Ent.pure wG):=by
 refine Ype fun _ H K h=>?_
 unfold wG at h
 split at h
 rotate_left
 ·exact h.elim
 rename_i x b1 b2 b3 b4 b5 b6 b7 b8 b9 a1 a2 m y a3 a4 a5 a6 a7 n1 z pr n2 b
 obtain ⟨fs,keys,ms,⟨hx,hfl,rfl,hkl,hz,hml,hmp,hpr⟩,hK⟩:=h
 refine ⟨_,hK,?_⟩
 clear hK
 refine ACalls.fW au (tCq nQ (tCq Fu (tCq DV (tCq BK tNq)))) Tryz.func81 [.tmp 6] (nrq _) (T:=aq [(12,[[],[],[],[],[],[],[],[],[],[],[],[8,10],[5,7,8,10,11],[],[2,4,5,7,8,10,11,12],[2,4,5,7,8,10,11,12]])]) (h:=fun hcl hlt=>?_)
 have hsc:=AV.lt_mono (Nat.le_succ H.nx) _ (hlt (.agg [x,b1,b2,b3,b4,b5,b6,b7,b8,b9]) (by simp))
 have htc:=fun n' (hn:H.nx≤n')=>AV.lt_mono hn _ (hlt (.agg [a1,a2,.slice m 3 (keys.map bU),a3,a4,a5,a6,a7]) (by simp))
 have hec:=fun n' (hn:H.nx≤n')=>AV.lt_mono hn _ (hlt (.agg [.int .i64 n1,z,.int .i64 pr,.int .i64 n2,b]) (by simp))
 have hm:∀ n',H.nx≤n'→AV.lt n' (.slice m 3 (keys.map bU)):=fun n' hn=>by have h1:=htc n' hn;rw [znr] at h1;exact h1.2.2.1
 simp only [znr] at hsc htc hec
 clear hlt
 obtain ⟨zm,zs,rfl,hzs⟩:∃ zm zs,z=.slice zm zs (ms.map aI)∧(zs=8∨ms=[]):=by
  rcases hz with ⟨zm,rfl⟩|⟨rfl,h⟩
  ·exact ⟨zm,8,rfl,.inl rfl⟩
  ·exact ⟨.nil,1,by rw [h],.inr (List.map_eq_nil_iff.1 h)⟩
 simp only [go_sem,pZ]
 have hc0:(((((H.push (.cells [x,b1,b2,b3,b4,b5,b6,b7,b8,b9])).push (.cells [a1,a2,.slice m 3 (keys.map bU),a3,a4,a5,a6,a7])).push (.cells [.int .i64 n1,.slice zm zs (ms.map aI),.int .i64 pr,.int .i64 n2,b])).push (.buf 4 0)).push (.buf 4 0)).Closed :=
  ag (ag (aa (aa (aa hcl hsc) (htc _ (by simp only [go_sem];omega))) (hec _ (by simp only [go_sem];omega))))
 refine az (A:=Nat × AHeap) (fun a=>[(3,.ptr H.nx 0),(5,.ptr (H.nx+1+1) 0),(7,.slice (.own (H.nx+1+1+1+1)) 4 (cz (eH fs keys ms a.1))),(15,.slice m 3 (keys.map bU)),(16,.int .i64 (keys.length:Int)),(17,.int .i64 (a.1:Int))]) (fun a=>a.2)
  (fun a=>a.1≤keys.length∧H.Le a.2∧a.2.Closed∧a.2.get H.nx=some (.cells [x,b1,b2,b3,b4,b5,b6,b7,b8,b9])∧a.2.get (H.nx+1+1)=some (.cells [.int .i64 n1,.slice zm zs (ms.map aI),.int .i64 pr,.int .i64 n2,b])∧a.2.get (H.nx+1+1+1+1)=some (.buf 4 (eH fs keys ms a.1).length)) (fun a=>keys.length - a.1)
  (0,(((((H.push (.cells [x,b1,b2,b3,b4,b5,b6,b7,b8,b9])).push (.cells [a1,a2,.slice m 3 (keys.map bU),a3,a4,a5,a6,a7])).push (.cells [.int .i64 n1,.slice zm zs (ms.map aI),.int .i64 pr,.int .i64 n2,b])).push (.buf 4 0)).push (.buf 4 0))) ⟨Nat.zero_le _,by repeat first|exact .refl _|refine .push ?_ _,hc0,by simp only [go_sem],by simp only [go_sem],by simp only [go_sem];rfl⟩ ?_ fun a ha=>?_
 ·(simp only [bkq,enterW,aJ,ltF,ne_eq,Nat.reduceEqDiff,reduceCtorEq,hc0,hm,bd];try simp (disch:=first|exact Zd|omega) [↓zmo,beq,ybc,ybd,ybe,ae,wk,wk2,wk1,wkM,wkL,ah,ybf,byq,biq,aG,hcl,hc0,hm,bd];try (repeat' (first|assumption|omega|exact True.intro|refine And.intro ?_ ?_|refine ag ?_|refine af ?_|refine aa ?_ ?_|refine aj ?_ ?_|refine ay ?_|exact lRq _|refine lPq ?_ _|refine AHeap.Le.del ?_ ?_|(simp only [bt,and_true,true_and,hc0,hm,bd];first|done|omega|(simp;done)))))
  simp [cz,eH]
 obtain ⟨k,Hc⟩:=a
 obtain ⟨hk,hle,hcc,g1,g2,g3⟩:=ha
 dsimp only at hk hle hcc g1 g2 g3 ⊢
 have nx3:=glq g3
 simp only [go_sem]
 refine ai (fun hc=>?_) (fun hc=>?_)
 ·have hk1:k<keys.length:=by simp at hc;omega
  have e5:=Yk5 k
  have n1':(H.nx+1+1=Hc.nx)=False:=eq_false (by omega)
  have n2':(H.nx+1+1=Hc.nx+1)=False:=eq_false (by omega)
  have n3':(H.nx=Hc.nx)=False:=eq_false (by omega)
  have n4':(H.nx=Hc.nx+1)=False:=eq_false (by omega)
  have n5':(H.nx+1=Hc.nx)=False:=eq_false (by omega)
  have hvl:=@qX keys[k].name keys[k].kind
  obtain ⟨V,hV⟩:∃ V,gF keys[k].name keys[k].kind=V:=⟨_,rfl⟩
  rw [hV] at hvl
  have htv:nM [keys[k]]=V++[pm]:=by simp [nM,hV]
  have e7:IntKind.i64.wrap (((V.length+(0+1):Nat):Int) - 1)=(V.length:Int):=by rw [wrap_i64]<;>omega
  have hvt:(cd (V++[pm])).take V.length=cd V:=by rw [cd,List.map_append,List.take_left' (by rw [ybb])];rfl
  simp only [go_sem,pZ,xV hk1,iNq,g2,ax g2,n1',n2',n5',ybb]
  by_cases hkm:k<ms.length
  ·have d1:decide ((k:Int)<(ms.length:Int))=true:=dtq (by omega)
   obtain rfl:zs=8:=by rcases hzs with h|h;exact h;rw [h] at hkm;exact absurd hkm (by simp)
   have hgm:=aU (f:=aI) (l:=ms) (k:=k) (x:=ms[k]) (gQq hkm)
   simp only [go_sem,g2,ax g2,n1',n2',n5',d1,hgm,aI,bq,vc,yal,yak,List.append_assoc,iNq,ybb]
   have hkt:rz fs keys ms k=jH fs keys[k] ms[k]:=by
    unfold rz;rw [gQq hk1];simp only [gEq,gQq hkm,Option.getD_some]
   have hkb:(jH fs keys[k] ms[k]).length=V.length:=by rw [← hV];unfold jH gF;rw [ybb,ybb]
   refine ⟨by omega,by omega,[keys[k]],⟨rfl,by simp⟩,?_⟩
   rw [htv]
   simp only [go_sem,bV,lAq,yaz,yba,e7,hvt]
   refine ⟨by omega,?_⟩
   have hcq:(((Hc.push (.cells [.str keys[k].name,.int .i64 keys[k].field,.int .i64 keys[k].kind])).push (.cells [.bool ms[k].present,.int .u64 ((ms[k].value/2^64:Nat):Int),.int .u64 ((ms[k].value % 2^64:Nat):Int),.int .u64 ((ms[k].mask/2^64:Nat):Int),.int .u64 ((ms[k].mask % 2^64:Nat):Int),.int .i64 ms[k].pfx,.int .u64 ((ms[k].high/2^64:Nat):Int),.int .u64 ((ms[k].high % 2^64:Nat):Int)])).push (.buf 3 1)).Closed:=ag (aa (aa hcc (by simp [znu,znv,znh,znf])) (by simp [znu,znv,zng,znf]))
   refine az (A:=Nat × AHeap) (fun a=>[(3,.ptr H.nx 0),(5,.ptr (H.nx+1+1) 0),(7,.slice (.own (H.nx+1+1+1+1)) 4 (cz (eH fs keys ms k++(jH fs keys[k] ms[k]).take a.1))),(9,.ptr Hc.nx 0),(10,.ptr (Hc.nx+1) 0),(15,.slice m 3 (keys.map bU)),(16,.int .i64 (keys.length:Int)),(17,.int .i64 (k:Int)),(40,.slice .any 2 (cd V)),(41,.int .i64 (V.length:Int)),(42,.int .i64 (a.1:Int))]) (fun a=>a.2)
    (fun a=>a.1≤V.length∧H.Le a.2∧a.2.Closed∧a.2.get H.nx=some (.cells [x,b1,b2,b3,b4,b5,b6,b7,b8,b9])∧a.2.get (H.nx+1+1)=some (.cells [.int .i64 n1,.slice zm 8 (ms.map aI),.int .i64 pr,.int .i64 n2,b])∧a.2.get (H.nx+1+1+1+1)=some (.buf 4 (eH fs keys ms k++(jH fs keys[k] ms[k]).take a.1).length)∧a.2.get Hc.nx=some (.cells [.str keys[k].name,.int .i64 keys[k].field,.int .i64 keys[k].kind])∧a.2.get (Hc.nx+1)=some (.cells [.bool ms[k].present,.int .u64 ((ms[k].value/2^64:Nat):Int),.int .u64 ((ms[k].value % 2^64:Nat):Int),.int .u64 ((ms[k].mask/2^64:Nat):Int),.int .u64 ((ms[k].mask % 2^64:Nat):Int),.int .i64 ms[k].pfx,.int .u64 ((ms[k].high/2^64:Nat):Int),.int .u64 ((ms[k].high % 2^64:Nat):Int)])) (fun a=>V.length - a.1)
    (0,((Hc.push (.cells [.str keys[k].name,.int .i64 keys[k].field,.int .i64 keys[k].kind])).push (.cells [.bool ms[k].present,.int .u64 ((ms[k].value/2^64:Nat):Int),.int .u64 ((ms[k].value % 2^64:Nat):Int),.int .u64 ((ms[k].mask/2^64:Nat):Int),.int .u64 ((ms[k].mask % 2^64:Nat):Int),.int .i64 ms[k].pfx,.int .u64 ((ms[k].high/2^64:Nat):Int),.int .u64 ((ms[k].high % 2^64:Nat):Int)])).push (.buf 3 1)) ⟨Nat.zero_le _,((hle.push _).push _).push _,hcq,?_,?_,?_,by simp only [go_sem],by simp only [go_sem]⟩ ?_ fun a ha=>?_
   ·dsimp only
    rw [gPq _ _ (by simp only [zle];omega),gPq _ _ (by simp only [zle];omega),gPq _ _ (by omega)];exact g1
   ·dsimp only
    rw [gPq _ _ (by simp only [zle];omega),gPq _ _ (by simp only [zle];omega),gPq _ _ (by omega)];exact g2
   ·dsimp only
    rw [gPq _ _ (by simp only [zle];omega),gPq _ _ (by simp only [zle];omega),gPq _ _ (by omega),g3];simp
   ·have hnn:H.nx≤Hc.nx:=by omega
    have hmi:min V.length (cd (V++[pm])).length=V.length:=by rw [bV,lAq];omega
    (simp only [bkq,enterW,aJ,ltF,ne_eq,Nat.reduceEqDiff,reduceCtorEq,hcq,hm,bd,aY,hnn];try simp (disch:=first|exact Zd|omega) [↓zmo,beq,ybc,ybd,ybe,ae,wk,wk2,wk1,wkM,wkL,ah,ybf,byq,biq,aG,hcl,hcq,hm,bd,aY,hnn];try (repeat' (first|assumption|omega|exact True.intro|refine And.intro ?_ ?_|refine ag ?_|refine af ?_|refine aa ?_ ?_|refine aj ?_ ?_|refine ay ?_|exact lRq _|refine lPq ?_ _|refine AHeap.Le.del ?_ ?_|(simp only [bt,and_true,true_and,hcq,hm,bd,aY,hnn];first|done|omega|(simp;done)))))
    all_goals rw [hmi]
   obtain ⟨j,Hd⟩:=a
   obtain ⟨hj,hle2,hcd,q1,q2,q3,q4,q5⟩:=ha
   dsimp only at hj hle2 hcd q1 q2 q3 q4 q5 ⊢
   have p3:=glq q3
   have p4:=glq q4
   have p5:=glq q5
   simp only [go_sem]
   refine ai (fun hc=>?_) (fun hc=>?_)
   ·have hj1:j<V.length:=by simp at hc;omega
    have e6:IntKind.i64.wrap ((j:Int)+1)=((j+1:Nat):Int):=by rw [wrap_i64]<;>omega
    have hVj:=lA hj1
    have htk:(jH fs keys[k] ms[k]).take (j+1)=(jH fs keys[k] ms[k]).take j++[((V[j].1,V[j].2),kX ms[k] V[j].2 (io fs keys[k].field))]:=by
     rw [List.take_succ_eq_append_getElem (by rw [hkb];exact hj1)]
     congr 1
     subst hV
     simp [jH,gF]
    have r1:(H.nx=Hd.nx)=False:=eq_false (by omega)
    have r2:(Hc.nx=Hd.nx)=False:=eq_false (by omega)
    have r3:(Hc.nx+1=Hd.nx)=False:=eq_false (by omega)
    have r5:(H.nx+1+1+1=Hd.nx)=False:=eq_false (by omega)
    have r4:(H.nx+1+1+1+1=Hd.nx)=False:=eq_false (by omega)
    simp only [go_sem,bV,hVj,iNq,q1,ax q1,q4,ax q4,q5,ax q5,r1,r2,r3,r4,r5,e6]
    refine ⟨by omega,fs,⟨hx,hfl⟩,?_⟩
    simp only [go_sem,q1,ax q1,q4,ax q4,q5,ax q5,r1,r2,r3,r4,r5,e6]
    refine ⟨ms[k],⟨rfl,hmp _ (gMq hkm)⟩,?_⟩
    simp only [go_sem,q1,ax q1,q3,q4,ax q4,q5,ax q5,r1,r2,r3,r4,r5,e6,vv]
    obtain ⟨LL,hLL⟩:∃ LL,eH fs keys ms k++(jH fs keys[k] ms[k]).take j=LL:=⟨_,rfl⟩
    have hll:LL.length≤2*k+2:=by
     have:=@jL fs keys ms k
     rw [← hLL,lAq,List.length_take];omega
    have hln:eH fs keys ms k++(jH fs keys[k] ms[k]).take (j+1)=LL++[((V[j].1,V[j].2),kX ms[k] V[j].2 (io fs keys[k].field))]:=by rw [htk,← List.append_assoc,hLL]
    rw [hLL]
    have hsn:=jt (l:=LL) (a:=V[j].1) (b:=V[j].2) (v:=kX ms[k] V[j].2 (io fs keys[k].field))
    refine ⟨⟨by rw [bT],by rw [bT];omega,by rw [bT];omega,fun z hz=>by rw [List.mem_singleton.1 hz];rfl⟩,(j+1,Hd.set (H.nx+1+1+1+1) (.buf 4 (LL.length+1))),⟨by dsimp only;omega,cU hle2 (by omega),af hcd,?_,?_,?_,?_,?_⟩,by dsimp only;omega,?_⟩
    ·dsimp only
     rw [bv,if_neg (by omega)];exact q1
    ·dsimp only
     rw [bv,if_neg (by omega)];exact q2
    ·dsimp only
     rw [bv,if_pos rfl,if_pos p3,hln];simp
    ·dsimp only
     rw [bv,if_neg (by omega)];exact q4
    ·dsimp only
     rw [bv,if_neg (by omega)];exact q5
    ·have hnn:H.nx≤Hd.nx:=by omega
     have hcs:=@af Hd (H.nx+1+1+1+1) 4 (LL.length+1) hcd
     dsimp only
     rw [hln,hsn]
     simp only [bT]
     exact Z27
   ·have hj1:j=V.length:=by simp at hc;omega
    subst hj1
    simp only [go_sem,e5]
    rw [ybc (by rw [hkb];exact nrq _),← hkt] at q3
    rw [ybc (by rw [hkb];exact nrq _),← hkt]
    refine ⟨(k+1,Hd),⟨by dsimp only;omega,hle2,hcd,q1,q2,q3⟩,by dsimp only;omega,?_⟩
    have hnn:H.nx≤Hd.nx:=by omega
    (simp only [bkq,enterW,aJ,ltF,ne_eq,Nat.reduceEqDiff,reduceCtorEq,hcd,hm,bd,hnn];try simp (disch:=first|exact Zd|omega) [↓zmo,beq,ybc,ybd,ybe,ae,wk,wk2,wk1,wkM,wkL,ah,ybf,byq,biq,aG,hcl,hcd,hm,bd,hnn];try (repeat' (first|assumption|omega|exact True.intro|refine And.intro ?_ ?_|refine ag ?_|refine af ?_|refine aa ?_ ?_|refine aj ?_ ?_|refine ay ?_|exact lRq _|refine lPq ?_ _|refine AHeap.Le.del ?_ ?_|(simp only [bt,and_true,true_and,hcd,hm,bd,hnn];first|done|omega|(simp;done)))))
    all_goals rfl
  ·have d1:decide ((k:Int)<(ms.length:Int))=false:=dfq (by omega)
   simp only [go_sem,d1]
   have hkt:rz fs keys ms k=jH fs keys[k] cA:=by
    unfold rz;rw [gQq hk1];simp only [gEq,gNq (show ms.length≤k by omega),Option.getD_none]
   have hkb:(jH fs keys[k] cA).length=V.length:=by rw [← hV];unfold jH gF;rw [ybb,ybb]
   refine ⟨by omega,[keys[k]],⟨rfl,by simp⟩,?_⟩
   rw [htv]
   simp only [go_sem,bV,lAq,yaz,yba,e7,hvt]
   refine ⟨by omega,?_⟩
   have hcq:(((Hc.push (.cells [.str keys[k].name,.int .i64 keys[k].field,.int .i64 keys[k].kind])).push (.cells [.bool false,.int .u64 0,.int .u64 0,.int .u64 0,.int .u64 0,.int .i64 0,.int .u64 0,.int .u64 0])).push (.buf 3 1)).Closed:=ag (aa (aa hcc (by simp [znu,znv,znh,znf])) (by simp [znu,znv,zng,znf]))
   refine az (A:=Nat × AHeap) (fun a=>[(3,.ptr H.nx 0),(5,.ptr (H.nx+1+1) 0),(7,.slice (.own (H.nx+1+1+1+1)) 4 (cz (eH fs keys ms k++(jH fs keys[k] cA).take a.1))),(9,.ptr Hc.nx 0),(10,.ptr (Hc.nx+1) 0),(15,.slice m 3 (keys.map bU)),(16,.int .i64 (keys.length:Int)),(17,.int .i64 (k:Int)),(40,.slice .any 2 (cd V)),(41,.int .i64 (V.length:Int)),(42,.int .i64 (a.1:Int))]) (fun a=>a.2)
    (fun a=>a.1≤V.length∧H.Le a.2∧a.2.Closed∧a.2.get H.nx=some (.cells [x,b1,b2,b3,b4,b5,b6,b7,b8,b9])∧a.2.get (H.nx+1+1)=some (.cells [.int .i64 n1,.slice zm zs (ms.map aI),.int .i64 pr,.int .i64 n2,b])∧a.2.get (H.nx+1+1+1+1)=some (.buf 4 (eH fs keys ms k++(jH fs keys[k] cA).take a.1).length)∧a.2.get Hc.nx=some (.cells [.str keys[k].name,.int .i64 keys[k].field,.int .i64 keys[k].kind])∧a.2.get (Hc.nx+1)=some (.cells [.bool false,.int .u64 0,.int .u64 0,.int .u64 0,.int .u64 0,.int .i64 0,.int .u64 0,.int .u64 0])) (fun a=>V.length - a.1)
    (0,((Hc.push (.cells [.str keys[k].name,.int .i64 keys[k].field,.int .i64 keys[k].kind])).push (.cells [.bool false,.int .u64 0,.int .u64 0,.int .u64 0,.int .u64 0,.int .i64 0,.int .u64 0,.int .u64 0])).push (.buf 3 1)) ⟨Nat.zero_le _,((hle.push _).push _).push _,hcq,?_,?_,?_,by simp only [go_sem],by simp only [go_sem]⟩ ?_ fun a ha=>?_
   ·dsimp only
    rw [gPq _ _ (by simp only [zle];omega),gPq _ _ (by simp only [zle];omega),gPq _ _ (by omega)];exact g1
   ·dsimp only
    rw [gPq _ _ (by simp only [zle];omega),gPq _ _ (by simp only [zle];omega),gPq _ _ (by omega)];exact g2
   ·dsimp only
    rw [gPq _ _ (by simp only [zle];omega),gPq _ _ (by simp only [zle];omega),gPq _ _ (by omega),g3];simp
   ·have hnn:H.nx≤Hc.nx:=by omega
    have hmi:min V.length (cd (V++[pm])).length=V.length:=by rw [bV,lAq];omega
    (simp only [bkq,enterW,aJ,ltF,ne_eq,Nat.reduceEqDiff,reduceCtorEq,hcq,hm,bd,aY,hnn];try simp (disch:=first|exact Zd|omega) [↓zmo,beq,ybc,ybd,ybe,ae,wk,wk2,wk1,wkM,wkL,ah,ybf,byq,biq,aG,hcl,hcq,hm,bd,aY,hnn];try (repeat' (first|assumption|omega|exact True.intro|refine And.intro ?_ ?_|refine ag ?_|refine af ?_|refine aa ?_ ?_|refine aj ?_ ?_|refine ay ?_|exact lRq _|refine lPq ?_ _|refine AHeap.Le.del ?_ ?_|(simp only [bt,and_true,true_and,hcq,hm,bd,aY,hnn];first|done|omega|(simp;done)))))
    all_goals rw [hmi]
   obtain ⟨j,Hd⟩:=a
   obtain ⟨hj,hle2,hcd,q1,q2,q3,q4,q5⟩:=ha
   dsimp only at hj hle2 hcd q1 q2 q3 q4 q5 ⊢
   have p3:=glq q3
   have p4:=glq q4
   have p5:=glq q5
   simp only [go_sem]
   refine ai (fun hc=>?_) (fun hc=>?_)
   ·have hj1:j<V.length:=by simp at hc;omega
    have e6:IntKind.i64.wrap ((j:Int)+1)=((j+1:Nat):Int):=by rw [wrap_i64]<;>omega
    have hVj:=lA hj1
    have htk:(jH fs keys[k] cA).take (j+1)=(jH fs keys[k] cA).take j++[((V[j].1,V[j].2),kX cA V[j].2 (io fs keys[k].field))]:=by
     rw [List.take_succ_eq_append_getElem (by rw [hkb];exact hj1)]
     congr 1
     subst hV
     simp [jH,gF]
    have r1:(H.nx=Hd.nx)=False:=eq_false (by omega)
    have r2:(Hc.nx=Hd.nx)=False:=eq_false (by omega)
    have r3:(Hc.nx+1=Hd.nx)=False:=eq_false (by omega)
    have r5:(H.nx+1+1+1=Hd.nx)=False:=eq_false (by omega)
    have r4:(H.nx+1+1+1+1=Hd.nx)=False:=eq_false (by omega)
    simp only [go_sem,bV,hVj,iNq,q1,ax q1,q4,ax q4,q5,ax q5,r1,r2,r3,r4,r5,e6]
    refine ⟨by omega,fs,⟨hx,hfl⟩,?_⟩
    simp only [go_sem,q1,ax q1,q4,ax q4,q5,ax q5,r1,r2,r3,r4,r5,e6]
    refine ⟨cA,⟨rfl,by decide⟩,?_⟩
    simp only [go_sem,q1,ax q1,q3,q4,ax q4,q5,ax q5,r1,r2,r3,r4,r5,e6,vv]
    obtain ⟨LL,hLL⟩:∃ LL,eH fs keys ms k++(jH fs keys[k] cA).take j=LL:=⟨_,rfl⟩
    have hll:LL.length≤2*k+2:=by
     have:=@jL fs keys ms k
     rw [← hLL,lAq,List.length_take];omega
    have hln:eH fs keys ms k++(jH fs keys[k] cA).take (j+1)=LL++[((V[j].1,V[j].2),kX cA V[j].2 (io fs keys[k].field))]:=by rw [htk,← List.append_assoc,hLL]
    rw [hLL]
    have hsn:=jt (l:=LL) (a:=V[j].1) (b:=V[j].2) (v:=kX cA V[j].2 (io fs keys[k].field))
    refine ⟨⟨by rw [bT],by rw [bT];omega,by rw [bT];omega,fun z hz=>by rw [List.mem_singleton.1 hz];rfl⟩,(j+1,Hd.set (H.nx+1+1+1+1) (.buf 4 (LL.length+1))),⟨by dsimp only;omega,cU hle2 (by omega),af hcd,?_,?_,?_,?_,?_⟩,by dsimp only;omega,?_⟩
    ·dsimp only
     rw [bv,if_neg (by omega)];exact q1
    ·dsimp only
     rw [bv,if_neg (by omega)];exact q2
    ·dsimp only
     rw [bv,if_pos rfl,if_pos p3,hln];simp
    ·dsimp only
     rw [bv,if_neg (by omega)];exact q4
    ·dsimp only
     rw [bv,if_neg (by omega)];exact q5
    ·have hnn:H.nx≤Hd.nx:=by omega
     have hcs:=@af Hd (H.nx+1+1+1+1) 4 (LL.length+1) hcd
     dsimp only
     rw [hln,hsn]
     simp only [bT]
     exact Z27
   ·have hj1:j=V.length:=by simp at hc;omega
    subst hj1
    simp only [go_sem,e5]
    rw [ybc (by rw [hkb];exact nrq _),← hkt] at q3
    rw [ybc (by rw [hkb];exact nrq _),← hkt]
    refine ⟨(k+1,Hd),⟨by dsimp only;omega,hle2,hcd,q1,q2,q3⟩,by dsimp only;omega,?_⟩
    have hnn:H.nx≤Hd.nx:=by omega
    (simp only [bkq,enterW,aJ,ltF,ne_eq,Nat.reduceEqDiff,reduceCtorEq,hcd,hm,bd,hnn];try simp (disch:=first|exact Zd|omega) [↓zmo,beq,ybc,ybd,ybe,ae,wk,wk2,wk1,wkM,wkL,ah,ybf,byq,biq,aG,hcl,hcd,hm,bd,hnn];try (repeat' (first|assumption|omega|exact True.intro|refine And.intro ?_ ?_|refine ag ?_|refine af ?_|refine aa ?_ ?_|refine aj ?_ ?_|refine ay ?_|exact lRq _|refine lPq ?_ _|refine AHeap.Le.del ?_ ?_|(simp only [bt,and_true,true_and,hcd,hm,bd,hnn];first|done|omega|(simp;done)))))
    all_goals rfl
 ·have hk1:k=keys.length:=by simp at hc;omega
  subst hk1
  have hbl:=@jL fs keys ms keys.length
  simp only [go_sem,g2,ax g2,g3,xx,bT,vv]
  refine ⟨hpr,?_⟩
  have n6:(H.nx+1+1+1+1=Hc.nx)=False:=eq_false (by omega)
  have hsn:=jt (l:=eH fs keys ms keys.length) (a:=[112,114,105,111,114,105,116,121]) (b:=[]) (v:=pr.toNat)
  have htb:oX fs keys ms pr=eH fs keys ms keys.length++[(([112,114,105,111,114,105,116,121],[]),pr.toNat)]:=rfl
  rw [htb]
  generalize eH fs keys ms keys.length=G at *
  simp only [n6,if_false]
  refine ⟨⟨trivial,by omega,by omega,fun z hz=>by rw [List.mem_singleton.1 hz];rfl⟩,?_⟩
  rw [hsn]
  have hle3:=(cU hle (show H.nx≤(H.nx+1+1+1+1) by omega) (o:=.buf 4 (G.length+1))).push (.buf 4 1)
  simp (disch:=first|exact Zd|omega) [↓zmo,beq,ybc,ybd,ybe,ae,wk,wk2,wk1,wkM,wkL,ah,ybf,hcl,hle3,bd]
end Go.AL
