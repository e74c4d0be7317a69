/- Lemmas of the proof; no condition. -/
import Derived.Test.YtokjjhidigoodaaGreatS09e
import Derived.Test.YtokjjhidigoodaaGreatS10j
set_option linter.all false
set_option maxRecDepth 10000
set_option maxHeartbeats 32000000
open List renaming length_cons → yaz, length_nil → yba, take_of_length_le → ybc, drop_append → ybd, take_append → ybe, drop_eq_nil_of_le → ybf, length_map → ybb, cons_append → yal, nil_append → yak
open Go Go.AL Go.Proofs
namespace Go.AL
theorem GH {l:List Tok}:∀ p t a q t',dk l p t=.ok a q t'→AllN yt t→AllN yt t':=by
 intro p t a q t' h hg
 unfold dk at h
 repeat' split at h
 all_goals first|(cases h;done)|(cases h;exact hg.snoc fun h2=>by first|(exact absurd (show (1:Nat)=2 from h2) (by decide))|(exact absurd (show (3:Nat)=2 from h2) (by decide))|exact nrq 1|exact Nat.zero_le 1)
theorem B7 {l:List Tok} {r:PR} {f:Nat} (h:run l f .imp 0 []=some r):AllN yt (fb l r).1:=by
 have h0:AllN yt ([]:List Nd):=fun n hn=>by cases hn
 cases r with
 |bad p=>exact h0
 |ok a p t =>
  dsimp only [fb]
  split
  ·exact h0
  ·split
   ·exact h0
   ·exact zO (fun _ _ _ h=>fun h3=>by simp only [nd2] at h3;omega) GH f h h0
theorem vQ {kn:VN→Bool} {s:List UInt8} (h:(comp kn s).2=0):okC (comp kn s).1:=by
 obtain ⟨h1,h2,h3,h4⟩:=Mz h
 refine ⟨h3,h1,h2,?_,h4⟩
 unfold comp
 split
 ·intro n hn
  have:n=⟨2,0,0,[],[],1⟩:=by simpa [oneT] using hn
  subst this
  intro _
  decide
 ·obtain ⟨f,hf⟩:=uY (ct s).1
  unfold Bw
  repeat' split
  all_goals first|exact B7 hf|(intro n hn;cases hn)
def jj (l:List Nat):List AV:=l.map fun v=>.agg [.int .u64 ((v/2^64:Nat):Int),.int .u64 ((v % 2^64:Nat):Int)]
theorem j4 {l:List Nat}:(jj l).length=l.length:=by simp [jj]
theorem vY {l:List Nat} {k:Nat} (h:k<l.length):(jj l).getD k .junk=.agg [.int .u64 ((l[k]/2^64:Nat):Int),.int .u64 ((l[k] % 2^64:Nat):Int)]:=by
 simp [jj,gEq,h]
theorem Ow {P:Program} {f:FuncId} {p q:List AV→AHeap→(AV→Prop)→Prop} (h1:EntOk P f (Ent.pure p)) (h2:EntOk P f (Ent.pure q)):EntOk P f (Ent.pure fun a H K=>p a H K∨q a H K) :=
 EntOk.pure fun a H K h=>h.elim (h1.1 rfl a H K) (h2.1 rfl a H K)
def D1 (x:AV) (sz:Nat) (l:List AV):Prop:=(∃ m,x=.slice m sz l)∨(x=.slice .nil 1 []∧l=[])
def uU:List AV→AHeap→(AV→Prop)→Prop
 |[.slice .nil 1 [],.func f [] [.ptr c 0]],_,K=>K (.int .i64 (-1))
 |_,_,_=>False
theorem ID:EntOk Tryz.prog 84 (Ent.pure uU):=by
 refine Ype fun _ H K h=>?_
 unfold uU at h
 split at h
 rotate_left
 ·exact h.elim
 rename_i f c
 refine ⟨_,h,?_⟩
 clear h
 refine Yfv ax tNq Tryz.func84 [.tmp 4] fun hcl hlt=>?_
 have hf:AV.lt H.nx (.func f [] [.ptr c 0]):=hlt _ (by simp)
 clear hlt
 simp only [go_sem]
 refine az (A:=Nat) (fun k=>[(0,.slice .nil 1 []),(1,.func f [] [.ptr c 0]),(7,.int .i64 0),(8,.int .i64 0)]) (fun _=>H) (fun k=>True) (fun k=>0) 0 trivial ?_ fun k hk=>?_
 ·refine ⟨nrq _,lRq _,hcl,?_,?_⟩
  ·simp [ltF,znb,hf,zmj]
  ·exact Y10
 have d0:decide ((0:Int)<0)=false:=rfl
 simp only [go_sem,d0]
 exact Z0
def Ms:List AV→AHeap→(AV→Prop)→Prop:=fun a H K=>zS a H K∨uU a H K
theorem Ce:EntOk Tryz.prog 84 (Ent.pure Ms):=Ow EM ID
def nL:List AV→AHeap→(AV→Prop)→Prop
 |[.agg [x,_,_,_,_,_,_,_,_,_],.int .i64 n],_,K=>∃ fs:List SField,(D1 x 3 (fs.map bX)∧fs.length≤1000000)∧K (.int .i64 (ixP (fun t:SField=>t.id==n) fs 0))
 |_,_,_=>False
theorem uf:EntOk Tryz.prog 30 (Ent.pure nL):=by
 refine Ype fun _ H K h=>?_
 unfold nL at h
 split at h
 rotate_left
 ·exact h.elim
 rename_i x b1 b2 b3 b4 b5 b6 b7 b8 b9 n
 obtain ⟨fs,⟨hx,hl⟩,hK⟩:=h
 refine ⟨_,hK,?_⟩
 clear hK
 rcases hx with ⟨m,rfl⟩|⟨rfl,he⟩
 ·skip
  refine Yfv ax (tCq Ce tNq) Tryz.func30 [.tmp 4] fun hcl hlt=>?_
  clear hlt
  simp only [go_sem]
  refine .inl ⟨fs,n,⟨rfl,by simp only [go_sem],hl⟩,?_⟩
  exact Y47
 ·obtain rfl:fs=[]:=List.map_eq_nil_iff.1 he
  refine Yfv ax (tCq Ce tNq) Tryz.func30 [.tmp 4] fun hcl hlt=>?_
  clear hlt
  simp only [go_sem]
  refine .inr ?_
  simp only [go_sem,uU,ixP]
  exact Z0
def E5:List AV→AHeap→(AV→Prop)→Prop
 |[.agg [x,_,_,_,_,_,_,_,_,_],.int .i64 n],_,K=>∃ fs:List SField,(D1 x 3 (fs.map bX)∧fs.length≤1000000)∧K (.int .i64 (gR fs n))
 |_,_,_=>False
theorem HQ:EntOk Tryz.prog 132 (Ent.pure E5):=by
 refine Ype fun _ H K h=>?_
 unfold E5 at h
 split at h
 rotate_left
 ·exact h.elim
 rename_i x b1' b2' b3 b4 b5 b6 b7 b8 b9 fld
 obtain ⟨fs,⟨hx,hl⟩,hK⟩:=h
 refine ⟨_,hK,?_⟩
 clear hK
 rw [ox]
 obtain ⟨b1,b2⟩:=nD (q:=fun f:SField=>f.id==fld) (l:=fs) (k:=0)
 rcases b2 with b2|b2
 ·rw [kq b2]
  refine Yfv ax (tCq uf tNq) Tryz.func132 [.tmp 4] fun hcl hlt=>?_
  clear hlt
  simp only [go_sem,nL]
  (repeat with_reducible refine Yq ?_)
  refine ⟨fs,⟨hx,hl⟩,?_⟩
  rw [b2]
  exact Y76
 ·obtain ⟨i,hi⟩:∃ i:Nat,ixP (fun f:SField=>f.id==fld) fs 0=((0+i:Nat):Int):=⟨(ixP (fun f:SField=>f.id==fld) fs 0).toNat,by omega⟩
  obtain ⟨y,h1,h2,h3⟩:=kT hi
  rw [h3]
  rw [nzq] at hi
  have hil:i<fs.length:=by
   rcases Nat.lt_or_ge i fs.length with h|h
   ·exact h
   ·rw [gNq h] at h1;cases h1
  have hg':=bC (f:=bX) (l:=fs) (k:=i) (x:=y) h1
  have d:decide ((i:Int)<0)=false:=by simp
  obtain ⟨m,rfl⟩:∃ m,x=.slice m 3 (fs.map bX):=by
   rcases hx with h|⟨_,h⟩
   ·exact h
   ·rw [List.map_eq_nil_iff.1 h] at hil;exact absurd hil (by simp)
  refine Yfv ax (tCq uf tNq) Tryz.func132 [.tmp 4] fun hcl hlt=>?_
  clear hlt
  simp only [go_sem,nL]
  (repeat with_reducible refine Yq ?_)
  refine ⟨fs,⟨hx,hl⟩,?_⟩
  exact Y136
def zt:List AV→AHeap→(AV→Prop)→Prop
 |[.int .i64 n],_,K=>n<9223372036854775808∧K (vv n.toNat)
 |_,_,_=>False
theorem IQ {n:Int} (h:n<9223372036854775808):vv n.toNat=.agg [.int .u64 0,.int .u64 (max 0 n)]:=by
 unfold vv
 have h1:n.toNat/2^64=0:=by omega
 have h2:((n.toNat % 2^64:Nat):Int)=max 0 n:=by omega
 rw [h1,h2];rfl
theorem EY:EntOk Tryz.prog 133 (Ent.pure zt):=by
 refine Ype fun _ H K h=>?_
 unfold zt at h
 split at h
 rotate_left
 ·exact h.elim
 rename_i n
 obtain ⟨h1,hK⟩:=h
 refine ⟨_,hK,?_⟩
 clear hK
 rw [IQ h1]
 have e1:IntKind.u64.wrap (max 0 n)=max 0 n:=by rw [cV]<;>omega
 refine Yfv ax (tCq tA tNq) Tryz.func133 [.cell 2 48] fun hcl hlt=>?_
 clear hlt
 simp only [go_sem,um,e1]
 exact Z0
def qS:List UInt8:=[112,114,101,102,105,120,95,108,101,110,103,116,104]
def lX:List UInt8:=[109,97,115,107]
def lY:List UInt8:=[104,105,103,104]
def iH (x:SMatch) (a:List UInt8) (w:Int):Nat :=
 if a=qS then x.pfx.toNat else if a=lX then x.mask else if a=lY then (if x.present=true then x.high else eT w) else x.value
def BI:List AV→AHeap→(AV→Prop)→Prop
 |[.agg l,.str a,.int .i64 w],_,K=>∃ x,(l=bE x∧x.pfx<9223372036854775808)∧K (vv (iH x a w))
 |_,_,_=>False
theorem FC:EntOk Tryz.prog 131 (Ent.pure BI):=by
 refine Ype fun _ H K h=>?_
 unfold BI at h
 split at h
 rotate_left
 ·exact h.elim
 rename_i l a w
 obtain ⟨x,⟨rfl,hp⟩,hK⟩:=h
 refine ⟨_,hK,?_⟩
 clear hK
 refine Yfv ax (tCq EY (tCq eZ tNq)) Tryz.func131 [.cell 6 48] fun hcl hlt=>?_
 clear hlt
 by_cases h1:a=qS
 ·have hw:iH x a w=x.pfx.toNat:=by unfold iH;rw [if_pos h1]
  rw [hw,h1]
  simp only [go_sem,bE,vc,yal,yak,List.append_assoc,qS,beq_self_eq_true,zt,vv]
  refine ⟨hp,?_⟩
  exact Z0
 have d1:(a==[112,114,101,102,105,120,95,108,101,110,103,116,104])=false:=beq_eq_false_iff_ne.2 h1
 by_cases h2:a=lX
 ·have d2:(a==[109,97,115,107])=true:=by rw [h2];rfl
  have hw:iH x a w=x.mask:=by unfold iH;rw [if_neg h1,if_pos h2]
  rw [hw]
  simp only [go_sem,bE,vc,yal,yak,List.append_assoc,d1,d2,vv]
  exact Z0
 have d2:(a==[109,97,115,107])=false:=beq_eq_false_iff_ne.2 h2
 by_cases h3:a=lY
 ·have d3:(a==[104,105,103,104])=true:=by rw [h3];rfl
  cases hx:x.present
  ·have hw:iH x a w=eT w:=by unfold iH;rw [if_neg h1,if_neg h2,if_pos h3,hx,if_neg (by decide)]
   rw [hw]
   simp only [go_sem,bE,vc,yal,yak,List.append_assoc,d1,d2,d3,hx,jo,vv]
   exact Z0
  ·have hw:iH x a w=x.high:=by unfold iH;rw [if_neg h1,if_neg h2,if_pos h3,hx,if_pos rfl]
   rw [hw]
   simp only [go_sem,bE,vc,yal,yak,List.append_assoc,d1,d2,d3,hx,vv]
   exact Z0
 have d3:(a==[104,105,103,104])=false:=beq_eq_false_iff_ne.2 h3
 have hw:iH x a w=x.value:=by unfold iH;rw [if_neg h1,if_neg h2,if_neg h3]
 rw [hw]
 simp only [go_sem,bE,vc,yal,yak,List.append_assoc,d1,d2,d3,vv]
 exact Z0
def eL (fs:List SField) (q:SKey) (x:SMatch):List (VN × Nat):=(dK q.kind).map fun a=>((q.name,a),iH x a (gR fs q.field))
def rX (fs:List SField) (keys:List SKey) (ms:List SMatch) (k:Nat):List (VN × Nat):=match keys[k]? with
 |some q=>eL fs q (ms.getD k cu)
 |none=>[]
def bT (fs:List SField) (keys:List SKey) (ms:List SMatch):Nat→List (VN × Nat)
 |0=>[]
 |k+1=>bT fs keys ms k++rX fs keys ms k
def nQ (fs:List SField) (keys:List SKey) (ms:List SMatch) (p:Int):List (VN × Nat):=bT fs keys ms keys.length++[(nW,p.toNat)]
theorem GO {k:Int}:(dK k).length≤2:=by
 unfold dK
 repeat' split
 all_goals simp
theorem FJ {fs:List SField} {keys:List SKey} {ms:List SMatch} {k:Nat}:(rX fs keys ms k).length≤2:=by
 unfold rX
 split
 ·unfold eL;rw [ybb];exact GO
 ·simp
theorem iW {fs:List SField} {keys:List SKey} {ms:List SMatch}:∀ {k:Nat},(bT fs keys ms k).length≤2*k
 |0=>nrq _
 |k+1=>by
  rw [bT,lAq]
  have:=@iW fs keys ms k
  have:=@FJ fs keys ms k
  omega
theorem ii {l:List (VN × Nat)} {a b:List UInt8} {v:Nat}:aU l++[.agg [.str a,.str b,.int .u64 ((v/2^64:Nat):Int),.int .u64 ((v % 2^64:Nat):Int)]]=aU (l++[((a,b),v)]):=by
 simp [aU,iy]
def Ae:List AV→AHeap→(AV→Prop)→Prop
 |[.agg [x,b1,b2,b3,b4,b5,b6,b7,b8,b9],.agg [a1,a2,.slice _ 3 y,a3,a4,a5,a6,a7],.agg [.int .i64 n1,z,.int .i64 pr,.int .i64 n2,b]],_,K=>∃ (fs:List SField) (keys:List SKey) (ms:List SMatch),
   (D1 x 3 (fs.map bX)∧fs.length≤1000000∧y=keys.map bL∧keys.length≤1000∧D1 z 8 (ms.map aQ)∧ms.length≤4611686018427387904∧(∀ m∈ms,m.pfx<9223372036854775808)∧pr<9223372036854775808) ∧
   K (.slice .any 4 (aU (nQ fs keys ms pr)))
 |_,_,_=>False
theorem JT:EntOk Tryz.prog 56 (Ent.pure Ae):=by
 refine Ype fun _ H K h=>?_
 unfold Ae at h
 split at h
 rotate_left
 ·exact h.elim
 rename_i x b1 b2 b3 b4 b5 b6 b7 b8 b9 a1 a2 m y a3 a4 a5 a6 a7 n1 z pr n2 b
 obtain ⟨fs,keys,ms,⟨hx,hfl,rfl,hkl,hz,hml,hmp,hpr⟩,hK⟩:=h
 refine ⟨_,hK,?_⟩
 clear hK
 refine ACalls.fW ax (tCq p9 (tCq HQ (tCq FC (tCq EY tNq)))) Tryz.func56 [.tmp 6] (nrq _) (T:=av [(12,[[],[],[],[],[],[],[],[],[],[],[],[8,10],[5,7,8,10,11],[],[2,4,5,7,8,10,11,12],[2,4,5,7,8,10,11,12]])]) (h:=fun hcl hlt=>?_)
 have hsc:=AV.lt_mono (Nat.le_succ H.nx) _ (hlt (.agg [x,b1,b2,b3,b4,b5,b6,b7,b8,b9]) (by simp))
 have htc:=fun n' (hn:H.nx≤n')=>AV.lt_mono hn _ (hlt (.agg [a1,a2,.slice m 3 (keys.map bL),a3,a4,a5,a6,a7]) (by simp))
 have hec:=fun n' (hn:H.nx≤n')=>AV.lt_mono hn _ (hlt (.agg [.int .i64 n1,z,.int .i64 pr,.int .i64 n2,b]) (by simp))
 have hm:∀ n',H.nx≤n'→AV.lt n' (.slice m 3 (keys.map bL)):=fun n' hn=>by have h1:=htc n' hn;rw [znn] at h1;exact h1.2.2.1
 simp only [znn] at hsc htc hec
 clear hlt
 obtain ⟨zm,zs,rfl,hzs⟩:∃ zm zs,z=.slice zm zs (ms.map aQ)∧(zs=8∨ms=[]):=by
  rcases hz with ⟨zm,rfl⟩|⟨rfl,h⟩
  ·exact ⟨zm,8,rfl,.inl rfl⟩
  ·exact Y104
 simp only [go_sem,bR]
 have hc0:(((((H.push (.cells [x,b1,b2,b3,b4,b5,b6,b7,b8,b9])).push (.cells [a1,a2,.slice m 3 (keys.map bL),a3,a4,a5,a6,a7])).push (.cells [.int .i64 n1,.slice zm zs (ms.map aQ),.int .i64 pr,.int .i64 n2,b])).push (.buf 4 0)).push (.buf 4 0)).Closed :=
  ag (ag (ae (ae (ae hcl hsc) (htc _ (by simp only [go_sem];omega))) (hec _ (by simp only [go_sem];omega))))
 refine az (A:=Nat × AHeap) (fun a=>[(3,.ptr H.nx 0),(5,.ptr (H.nx+1+1) 0),(7,.slice (.own (H.nx+1+1+1+1)) 4 (aU (bT fs keys ms a.1))),(15,.slice m 3 (keys.map bL)),(16,.int .i64 (keys.length:Int)),(17,.int .i64 (a.1:Int))]) (fun a=>a.2)
  (fun a=>a.1≤keys.length∧H.Le a.2∧a.2.Closed∧a.2.get H.nx=some (.cells [x,b1,b2,b3,b4,b5,b6,b7,b8,b9])∧a.2.get (H.nx+1+1)=some (.cells [.int .i64 n1,.slice zm zs (ms.map aQ),.int .i64 pr,.int .i64 n2,b])∧a.2.get (H.nx+1+1+1+1)=some (.buf 4 (bT fs keys ms a.1).length)) (fun a=>keys.length - a.1)
  (0,(((((H.push (.cells [x,b1,b2,b3,b4,b5,b6,b7,b8,b9])).push (.cells [a1,a2,.slice m 3 (keys.map bL),a3,a4,a5,a6,a7])).push (.cells [.int .i64 n1,.slice zm zs (ms.map aQ),.int .i64 pr,.int .i64 n2,b])).push (.buf 4 0)).push (.buf 4 0))) ⟨Nat.zero_le _,by repeat first|exact .refl _|refine .push ?_ _,hc0,by simp only [go_sem],by simp only [go_sem],by simp only [go_sem];rfl⟩ ?_ fun a ha=>?_
 ·exact Y40
 obtain ⟨k,Hc⟩:=a
 obtain ⟨hk,hle,hcc,g1,g2,g3⟩:=ha
 dsimp only at hk hle hcc g1 g2 g3 ⊢
 have nx3:=glq g3
 simp only [go_sem]
 refine au (fun hc=>?_) (fun hc=>?_)
 ·have hk1:k<keys.length:=by simp at hc;omega
  have e5:=Yk5 k
  have n1':(H.nx+1+1=Hc.nx)=False:=eq_false (by omega)
  have n2':(H.nx+1+1=Hc.nx+1)=False:=eq_false (by omega)
  have n3':(H.nx=Hc.nx)=False:=eq_false (by omega)
  have n4':(H.nx=Hc.nx+1)=False:=eq_false (by omega)
  have n5':(H.nx+1=Hc.nx)=False:=eq_false (by omega)
  have hvl:=@tN keys[k].name keys[k].kind
  obtain ⟨V,hV⟩:∃ V,eO keys[k].name keys[k].kind=V:=⟨_,rfl⟩
  rw [hV] at hvl
  have htv:mK [keys[k]]=V++[nW]:=by simp [mK,hV]
  have e7:IntKind.i64.wrap (((V.length+(0+1):Nat):Int) - 1)=(V.length:Int):=by rw [wrap_i64]<;>omega
  have hvt:(bz (V++[nW])).take V.length=bz V:=by rw [bz,List.map_append,List.take_left' (by rw [ybb])];rfl
  simp only [go_sem,bR,j8 hk1,iNq,g2,ay g2,n1',n2',n5',ybb]
  by_cases hkm:k<ms.length
  ·have d1:decide ((k:Int)<(ms.length:Int))=true:=dtq (by omega)
   obtain rfl:zs=8:=by rcases hzs with h|h;exact h;rw [h] at hkm;exact absurd hkm (by simp)
   have hgm:=bC (f:=aQ) (l:=ms) (k:=k) (x:=ms[k]) (gQq hkm)
   simp only [go_sem,g2,ay g2,n1',n2',n5',d1,hgm,aQ,bE,vc,yal,yak,List.append_assoc,iNq,ybb]
   have hkt:rX fs keys ms k=eL fs keys[k] ms[k]:=by
    unfold rX;rw [gQq hk1];simp only [gEq,gQq hkm,Option.getD_some]
   have hkb:(eL fs keys[k] ms[k]).length=V.length:=by rw [← hV];unfold eL eO;rw [ybb,ybb]
   refine ⟨by omega,by omega,[keys[k]],⟨rfl,by simp⟩,?_⟩
   rw [htv]
   simp only [go_sem,bH,lAq,yaz,yba,e7,hvt]
   refine ⟨by omega,?_⟩
   have hcq:(((Hc.push (.cells [.str keys[k].name,.int .i64 keys[k].field,.int .i64 keys[k].kind])).push (.cells [.bool ms[k].present,.int .u64 ((ms[k].value/2^64:Nat):Int),.int .u64 ((ms[k].value % 2^64:Nat):Int),.int .u64 ((ms[k].mask/2^64:Nat):Int),.int .u64 ((ms[k].mask % 2^64:Nat):Int),.int .i64 ms[k].pfx,.int .u64 ((ms[k].high/2^64:Nat):Int),.int .u64 ((ms[k].high % 2^64:Nat):Int)])).push (.buf 3 1)).Closed:=ag (ae (ae hcc (by simp [znq,znr,znd,znb])) (by simp [znq,znr,znc,znb]))
   refine az (A:=Nat × AHeap) (fun a=>[(3,.ptr H.nx 0),(5,.ptr (H.nx+1+1) 0),(7,.slice (.own (H.nx+1+1+1+1)) 4 (aU (bT fs keys ms k++(eL fs keys[k] ms[k]).take a.1))),(9,.ptr Hc.nx 0),(10,.ptr (Hc.nx+1) 0),(15,.slice m 3 (keys.map bL)),(16,.int .i64 (keys.length:Int)),(17,.int .i64 (k:Int)),(40,.slice .any 2 (bz V)),(41,.int .i64 (V.length:Int)),(42,.int .i64 (a.1:Int))]) (fun a=>a.2)
    (fun a=>a.1≤V.length∧H.Le a.2∧a.2.Closed∧a.2.get H.nx=some (.cells [x,b1,b2,b3,b4,b5,b6,b7,b8,b9])∧a.2.get (H.nx+1+1)=some (.cells [.int .i64 n1,.slice zm 8 (ms.map aQ),.int .i64 pr,.int .i64 n2,b])∧a.2.get (H.nx+1+1+1+1)=some (.buf 4 (bT fs keys ms k++(eL fs keys[k] ms[k]).take a.1).length)∧a.2.get Hc.nx=some (.cells [.str keys[k].name,.int .i64 keys[k].field,.int .i64 keys[k].kind])∧a.2.get (Hc.nx+1)=some (.cells [.bool ms[k].present,.int .u64 ((ms[k].value/2^64:Nat):Int),.int .u64 ((ms[k].value % 2^64:Nat):Int),.int .u64 ((ms[k].mask/2^64:Nat):Int),.int .u64 ((ms[k].mask % 2^64:Nat):Int),.int .i64 ms[k].pfx,.int .u64 ((ms[k].high/2^64:Nat):Int),.int .u64 ((ms[k].high % 2^64:Nat):Int)])) (fun a=>V.length - a.1)
    (0,((Hc.push (.cells [.str keys[k].name,.int .i64 keys[k].field,.int .i64 keys[k].kind])).push (.cells [.bool ms[k].present,.int .u64 ((ms[k].value/2^64:Nat):Int),.int .u64 ((ms[k].value % 2^64:Nat):Int),.int .u64 ((ms[k].mask/2^64:Nat):Int),.int .u64 ((ms[k].mask % 2^64:Nat):Int),.int .i64 ms[k].pfx,.int .u64 ((ms[k].high/2^64:Nat):Int),.int .u64 ((ms[k].high % 2^64:Nat):Int)])).push (.buf 3 1)) ⟨Nat.zero_le _,((hle.push _).push _).push _,hcq,?_,?_,?_,by simp only [go_sem],by simp only [go_sem]⟩ ?_ fun a ha=>?_
   ·exact Y106
   ·exact Y105
   ·exact Y107
   ·exact Y28
   obtain ⟨j,Hd⟩:=a
   obtain ⟨hj,hle2,hcd,q1,q2,q3,q4,q5⟩:=ha
   dsimp only at hj hle2 hcd q1 q2 q3 q4 q5 ⊢
   have p3:=glq q3
   have p4:=glq q4
   have p5:=glq q5
   simp only [go_sem]
   refine au (fun hc=>?_) (fun hc=>?_)
   ·have hj1:j<V.length:=by simp at hc;omega
    have e6:IntKind.i64.wrap ((j:Int)+1)=((j+1:Nat):Int):=by rw [wrap_i64]<;>omega
    have hVj:=jR hj1
    have htk:(eL fs keys[k] ms[k]).take (j+1)=(eL fs keys[k] ms[k]).take j++[((V[j].1,V[j].2),iH ms[k] V[j].2 (gR fs keys[k].field))]:=by
     exact Y150
    have r1:(H.nx=Hd.nx)=False:=eq_false (by omega)
    have r2:(Hc.nx=Hd.nx)=False:=eq_false (by omega)
    have r3:(Hc.nx+1=Hd.nx)=False:=eq_false (by omega)
    have r5:(H.nx+1+1+1=Hd.nx)=False:=eq_false (by omega)
    have r4:(H.nx+1+1+1+1=Hd.nx)=False:=eq_false (by omega)
    simp only [go_sem,bH,hVj,iNq,q1,ay q1,q4,ay q4,q5,ay q5,r1,r2,r3,r4,r5,e6]
    refine ⟨by omega,fs,⟨hx,hfl⟩,?_⟩
    simp only [go_sem,q1,ay q1,q4,ay q4,q5,ay q5,r1,r2,r3,r4,r5,e6]
    refine ⟨ms[k],⟨rfl,hmp _ (gMq hkm)⟩,?_⟩
    simp only [go_sem,q1,ay q1,q3,q4,ay q4,q5,ay q5,r1,r2,r3,r4,r5,e6,vv]
    obtain ⟨LL,hLL⟩:∃ LL,bT fs keys ms k++(eL fs keys[k] ms[k]).take j=LL:=⟨_,rfl⟩
    have hll:LL.length≤2*k+2:=by
     exact Y169
    have hln:bT fs keys ms k++(eL fs keys[k] ms[k]).take (j+1)=LL++[((V[j].1,V[j].2),iH ms[k] V[j].2 (gR fs keys[k].field))]:=by rw [htk,← List.append_assoc,hLL]
    rw [hLL]
    have hsn:=ii (l:=LL) (a:=V[j].1) (b:=V[j].2) (v:=iH ms[k] V[j].2 (gR fs keys[k].field))
    exact Y29
   ·exact Y19
  ·have d1:decide ((k:Int)<(ms.length:Int))=false:=dfq (by omega)
   simp only [go_sem,d1]
   have hkt:rX fs keys ms k=eL fs keys[k] cu:=by
    unfold rX;rw [gQq hk1];simp only [gEq,gNq (show ms.length≤k by omega),Option.getD_none]
   have hkb:(eL fs keys[k] cu).length=V.length:=by rw [← hV];unfold eL eO;rw [ybb,ybb]
   refine ⟨by omega,[keys[k]],⟨rfl,by simp⟩,?_⟩
   rw [htv]
   simp only [go_sem,bH,lAq,yaz,yba,e7,hvt]
   refine ⟨by omega,?_⟩
   have hcq:(((Hc.push (.cells [.str keys[k].name,.int .i64 keys[k].field,.int .i64 keys[k].kind])).push (.cells [.bool false,.int .u64 0,.int .u64 0,.int .u64 0,.int .u64 0,.int .i64 0,.int .u64 0,.int .u64 0])).push (.buf 3 1)).Closed:=ag (ae (ae hcc (by simp [znq,znr,znd,znb])) (by simp [znq,znr,znc,znb]))
   refine az (A:=Nat × AHeap) (fun a=>[(3,.ptr H.nx 0),(5,.ptr (H.nx+1+1) 0),(7,.slice (.own (H.nx+1+1+1+1)) 4 (aU (bT fs keys ms k++(eL fs keys[k] cu).take a.1))),(9,.ptr Hc.nx 0),(10,.ptr (Hc.nx+1) 0),(15,.slice m 3 (keys.map bL)),(16,.int .i64 (keys.length:Int)),(17,.int .i64 (k:Int)),(40,.slice .any 2 (bz V)),(41,.int .i64 (V.length:Int)),(42,.int .i64 (a.1:Int))]) (fun a=>a.2)
    (fun a=>a.1≤V.length∧H.Le a.2∧a.2.Closed∧a.2.get H.nx=some (.cells [x,b1,b2,b3,b4,b5,b6,b7,b8,b9])∧a.2.get (H.nx+1+1)=some (.cells [.int .i64 n1,.slice zm zs (ms.map aQ),.int .i64 pr,.int .i64 n2,b])∧a.2.get (H.nx+1+1+1+1)=some (.buf 4 (bT fs keys ms k++(eL fs keys[k] cu).take a.1).length)∧a.2.get Hc.nx=some (.cells [.str keys[k].name,.int .i64 keys[k].field,.int .i64 keys[k].kind])∧a.2.get (Hc.nx+1)=some (.cells [.bool false,.int .u64 0,.int .u64 0,.int .u64 0,.int .u64 0,.int .i64 0,.int .u64 0,.int .u64 0])) (fun a=>V.length - a.1)
    (0,((Hc.push (.cells [.str keys[k].name,.int .i64 keys[k].field,.int .i64 keys[k].kind])).push (.cells [.bool false,.int .u64 0,.int .u64 0,.int .u64 0,.int .u64 0,.int .i64 0,.int .u64 0,.int .u64 0])).push (.buf 3 1)) ⟨Nat.zero_le _,((hle.push _).push _).push _,hcq,?_,?_,?_,by simp only [go_sem],by simp only [go_sem]⟩ ?_ fun a ha=>?_
   ·exact Y106
   ·exact Y105
   ·exact Y107
   ·exact Y28
   obtain ⟨j,Hd⟩:=a
   obtain ⟨hj,hle2,hcd,q1,q2,q3,q4,q5⟩:=ha
   dsimp only at hj hle2 hcd q1 q2 q3 q4 q5 ⊢
   have p3:=glq q3
   have p4:=glq q4
   have p5:=glq q5
   simp only [go_sem]
   refine au (fun hc=>?_) (fun hc=>?_)
   ·have hj1:j<V.length:=by simp at hc;omega
    have e6:IntKind.i64.wrap ((j:Int)+1)=((j+1:Nat):Int):=by rw [wrap_i64]<;>omega
    have hVj:=jR hj1
    have htk:(eL fs keys[k] cu).take (j+1)=(eL fs keys[k] cu).take j++[((V[j].1,V[j].2),iH cu V[j].2 (gR fs keys[k].field))]:=by
     exact Y150
    have r1:(H.nx=Hd.nx)=False:=eq_false (by omega)
    have r2:(Hc.nx=Hd.nx)=False:=eq_false (by omega)
    have r3:(Hc.nx+1=Hd.nx)=False:=eq_false (by omega)
    have r5:(H.nx+1+1+1=Hd.nx)=False:=eq_false (by omega)
    have r4:(H.nx+1+1+1+1=Hd.nx)=False:=eq_false (by omega)
    simp only [go_sem,bH,hVj,iNq,q1,ay q1,q4,ay q4,q5,ay q5,r1,r2,r3,r4,r5,e6]
    refine ⟨by omega,fs,⟨hx,hfl⟩,?_⟩
    simp only [go_sem,q1,ay q1,q4,ay q4,q5,ay q5,r1,r2,r3,r4,r5,e6]
    refine ⟨cu,⟨rfl,by decide⟩,?_⟩
    simp only [go_sem,q1,ay q1,q3,q4,ay q4,q5,ay q5,r1,r2,r3,r4,r5,e6,vv]
    obtain ⟨LL,hLL⟩:∃ LL,bT fs keys ms k++(eL fs keys[k] cu).take j=LL:=⟨_,rfl⟩
    have hll:LL.length≤2*k+2:=by
     exact Y169
    have hln:bT fs keys ms k++(eL fs keys[k] cu).take (j+1)=LL++[((V[j].1,V[j].2),iH cu V[j].2 (gR fs keys[k].field))]:=by rw [htk,← List.append_assoc,hLL]
    rw [hLL]
    have hsn:=ii (l:=LL) (a:=V[j].1) (b:=V[j].2) (v:=iH cu V[j].2 (gR fs keys[k].field))
    exact Y29
   ·exact Y19
 ·have hk1:k=keys.length:=by simp at hc;omega
  subst hk1
  have hbl:=@iW fs keys ms keys.length
  simp only [go_sem,g2,ay g2,g3,zt,aC,vv]
  refine ⟨hpr,?_⟩
  have n6:(H.nx+1+1+1+1=Hc.nx)=False:=eq_false (by omega)
  have hsn:=ii (l:=bT fs keys ms keys.length) (a:=[112,114,105,111,114,105,116,121]) (b:=[]) (v:=pr.toNat)
  have htb:nQ fs keys ms pr=bT fs keys ms keys.length++[(([112,114,105,111,114,105,116,121],[]),pr.toNat)]:=rfl
  rw [htb]
  generalize bT fs keys ms keys.length=G at *
  exact Y82
end Go.AL
