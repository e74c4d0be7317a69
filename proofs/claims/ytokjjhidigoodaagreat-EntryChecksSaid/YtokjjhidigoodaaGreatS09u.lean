/- Lemmas of the proof; no condition. -/
import Derived.Test.YtokjjhidigoodaaGreatS09h
import Derived.Test.YtokjjhidigoodaaGreatS10r
import Derived.Test.YtokjjhidigoodaaGreatS08k
import Derived.Test.YtokjjhidigoodaaGreatS09i
set_option linter.all false
set_option maxRecDepth 10000
set_option maxHeartbeats 32000000
open List renaming length_cons → yaz, length_nil → yba, length_map → ybb, take_of_length_le → ybc, drop_append → ybd, take_append → ybe, drop_eq_nil_of_le → ybf, cons_append → yal, nil_append → yak
open Go Go.AL Go.Proofs
namespace Go.AL
def iG (ps:List SParam) (ws:List Nat):Nat→List (VN × Nat)
 |0=>[]
 |k+1=>iG ps ws k++[(((ps.map (·.name)).getD k [],[]),ws.getD k 0)]
theorem pA {ps:List SParam} {ws:List Nat}:∀ {k:Nat},(iG ps ws k).length=k
 |0=>rfl
 |k+1=>by rw [iG,lAq,pA];rfl
def wH:List AV→AHeap→(AV→Prop)→Prop
 |[.agg [a1,a2,.slice _ 2 ap,a3,a4],z],_,K=>∃ (ps:List SParam) (ws:List Nat),(ap=ps.map bS∧ps.length≤1000∧D1 z 2 (jj ws))∧K (.slice .any 4 (aU (iG ps ws ps.length)))
 |_,_,_=>False
theorem FZ:EntOk Tryz.prog 58 (Ent.pure wH):=by
 refine Ype fun _ H K h=>?_
 unfold wH at h
 split at h
 rotate_left
 ·exact h.elim
 rename_i a1 a2 m ap a3 a4 z
 obtain ⟨ps,ws,⟨rfl,hpl,hz⟩,hK⟩:=h
 refine ⟨_,hK,?_⟩
 clear hK
 obtain ⟨zm,zs,rfl,hzs⟩:∃ zm zs,z=.slice zm zs (jj ws)∧(zs=2∨ws=[]):=by
  rcases hz with ⟨zm,rfl⟩|⟨rfl,h⟩
  ·exact ⟨zm,2,rfl,.inl rfl⟩
  ·exact Y104
 refine Yfv ax (tCq pd tNq) Tryz.func58 [.tmp 4] fun hcl hlt=>?_
 have hac:=AV.lt_mono (Nat.le_succ H.nx) _ (hlt (.agg [a1,a2,.slice m 2 (ps.map bS),a3,a4]) (by simp))
 have hm:∀ n',H.nx≤n'→AV.lt n' (.slice zm zs (jj ws)):=fun n' hn=>AV.lt_mono hn _ (hlt (.slice zm zs (jj ws)) (by simp))
 have hm2:∀ n',H.nx≤n'→AV.lt n' (.slice m 2 (ps.map bS)):=fun n' hn=>by
  exact Y132
 simp only [znn] at hac
 clear hlt
 have hc0:(((H.push (.cells [a1,a2,.slice m 2 (ps.map bS),a3,a4])).push (.buf 4 0)).push (.buf 4 0)).Closed:=ag (ag (ae hcl hac))
 have hal:(eC ps).length=ps.length:=by simp [eC]
 simp only [go_sem,ybb]
 refine ⟨ps,⟨rfl,hpl⟩,?_⟩
 simp only [go_sem,bH,hal]
 refine az (A:=Nat × AHeap) (fun a=>[(1,.slice zm zs (jj ws)),(5,.slice (.own (H.nx+1+1)) 4 (aU (iG ps ws a.1))),(10,.slice .any 2 (bz (eC ps))),(11,.int .i64 (ps.length:Int)),(12,.int .i64 (a.1:Int))]) (fun a=>a.2)
  (fun a=>a.1≤ps.length∧H.Le a.2∧a.2.Closed∧a.2.get (H.nx+1+1)=some (.buf 4 a.1)) (fun a=>ps.length - a.1)
  (0,((H.push (.cells [a1,a2,.slice m 2 (ps.map bS),a3,a4])).push (.buf 4 0)).push (.buf 4 0)) ⟨Nat.zero_le _,by repeat first|exact .refl _|refine .push ?_ _,hc0,by simp only [go_sem]⟩ ?_ fun a ha=>?_
 ·exact Y36
 exact Y5
def wu:List AV→AHeap→(AV→Prop)→Prop
 |[.agg [a1,a2,.slice _ 2 ap,a3,a4],z],_,K=>∃ (ps:List SParam) (ws:List Nat),(ap=ps.map bS∧ps.length≤1000∧D1 z 2 (jj ws))∧K (.slice .any 4 (aU (iG ps ws ps.length)))
 |_,_,_=>False
theorem Gj:EntOk Tryz.prog 63 (Ent.pure wu):=by
 refine Ype fun _ H K h=>?_
 unfold wu at h
 split at h
 rotate_left
 ·exact h.elim
 rename_i a1 a2 m ap a3 a4 z
 obtain ⟨ps,ws,⟨rfl,hpl,hz⟩,hK⟩:=h
 refine ⟨_,hK,?_⟩
 clear hK
 obtain ⟨zm,zs,rfl,hzs⟩:∃ zm zs,z=.slice zm zs (jj ws)∧(zs=2∨ws=[]):=by
  rcases hz with ⟨zm,rfl⟩|⟨rfl,h⟩
  ·exact ⟨zm,2,rfl,.inl rfl⟩
  ·exact Y104
 refine Yfv ax tNq Tryz.func63 [.tmp 4] fun hcl hlt=>?_
 have hac:=AV.lt_mono (Nat.le_succ H.nx) _ (hlt (.agg [a1,a2,.slice m 2 (ps.map bS),a3,a4]) (by simp))
 have hm:∀ n',H.nx≤n'→AV.lt n' (.slice zm zs (jj ws)):=fun n' hn=>AV.lt_mono hn _ (hlt (.slice zm zs (jj ws)) (by simp))
 have hm2:∀ n',H.nx≤n'→AV.lt n' (.slice m 2 (ps.map bS)):=fun n' hn=>by
  exact Y132
 simp only [znn] at hac
 clear hlt
 have hc0:(((H.push (.cells [a1,a2,.slice m 2 (ps.map bS),a3,a4])).push (.buf 4 0)).push (.buf 4 0)).Closed:=ag (ag (ae hcl hac))
 have hal:(eC ps).length=ps.length:=by simp [eC]
 simp only [go_sem,ybb]
 refine az (A:=Nat × AHeap) (fun a=>[(1,.slice zm zs (jj ws)),(5,.slice (.own (H.nx+1+1)) 4 (aU (iG ps ws a.1))),(10,.slice m 2 (ps.map bS)),(11,.int .i64 (ps.length:Int)),(12,.int .i64 (a.1:Int))]) (fun a=>a.2)
  (fun a=>a.1≤ps.length∧H.Le a.2∧a.2.Closed∧a.2.get (H.nx+1+1)=some (.buf 4 a.1)) (fun a=>ps.length - a.1)
  (0,((H.push (.cells [a1,a2,.slice m 2 (ps.map bS),a3,a4])).push (.buf 4 0)).push (.buf 4 0)) ⟨Nat.zero_le _,by repeat first|exact .refl _|refine .push ?_ _,hc0,by simp only [go_sem]⟩ ?_ fun a ha=>?_
 ·exact Y36
 exact Y5
def Dj:List AV→AHeap→(AV→Prop)→Prop
 |[.int .i64 n],_,K=>n<9223372036854775808∧K (vv n.toNat)
 |_,_,_=>False
theorem Lo:EntOk Tryz.prog 137 (Ent.pure Dj):=by
 refine Ype fun _ H K h=>?_
 unfold Dj at h
 split at h
 rotate_left
 ·exact h.elim
 rename_i n
 obtain ⟨h1,hK⟩:=h
 refine ⟨_,hK,?_⟩
 clear hK
 rw [IQ h1]
 have e1:IntKind.u64.wrap (max n 0)=max 0 n:=by rw [cV]<;>omega
 refine Yfv ax tNq Tryz.func137 [.cell 2 48] fun hcl hlt=>?_
 clear hlt
 simp only [go_sem,e1]
 exact Z0
def Fd:List AV→AHeap→(AV→Prop)→Prop
 |[.agg l,.agg [a1,.int .i64 n,a2]],_,K=>∃ S:Sch,(l=bv S∧SLen S)∧K (.int .i64 (gR S.fields n))
 |_,_,_=>False
theorem Ic:EntOk Tryz.prog 136 (Ent.pure Fd):=by
 refine Ype fun _ H K h=>?_
 unfold Fd at h
 split at h
 rotate_left
 ·exact h.elim
 rename_i l a1 fld a2
 obtain ⟨S,⟨rfl,hS⟩,hK⟩:=h
 refine ⟨_,hK,?_⟩
 clear hK
 rw [ox]
 obtain ⟨b1,b2⟩:=nD (q:=fun f:SField=>f.id==fld) (l:=S.fields) (k:=0)
 rcases b2 with b2|b2
 ·rw [kq b2]
  refine Yfv ax (tCq oo tNq) Tryz.func136 [.tmp 4] fun hcl hlt=>?_
  clear hlt
  simp only [go_sem,bv,lF]
  refine ⟨S,⟨rfl,hS⟩,?_⟩
  rw [b2]
  exact Y76
 ·obtain ⟨i,hi⟩:∃ i:Nat,ixP (fun f:SField=>f.id==fld) S.fields 0=((0+i:Nat):Int):=⟨(ixP (fun f:SField=>f.id==fld) S.fields 0).toNat,by omega⟩
  obtain ⟨y,h1,h2,h3⟩:=kT hi
  rw [h3]
  rw [nzq] at hi
  have hil:i<S.fields.length:=by
   exact Y90
  have hg':=bC (f:=bX) (l:=S.fields) (k:=i) (x:=y) h1
  have d:decide ((i:Int)<0)=false:=by simp
  refine Yfv ax (tCq oo tNq) Tryz.func136 [.tmp 4] fun hcl hlt=>?_
  clear hlt
  simp only [go_sem,bv,lF]
  refine ⟨S,⟨rfl,hS⟩,?_⟩
  exact Y136
def z7:List AV→AHeap→(AV→Prop)→Prop
 |[.agg l,.agg [a1,a2,.slice _ 3 y,a3,a4,a5,a6,a7],.agg [.int .i64 n1,z,.int .i64 pr,.int .i64 n2,b]],_,K=>∃ (S:Sch) (keys:List SKey) (ms:List SMatch),
   (l=bv S∧SLen S∧y=keys.map bL∧keys.length≤1000∧D1 z 8 (ms.map aQ)∧ms.length≤4611686018427387904∧(∀ m∈ms,m.pfx<9223372036854775808)∧pr<9223372036854775808) ∧
   K (.slice .any 4 (aU (nQ S.fields keys ms pr)))
 |_,_,_=>False
theorem Iu:EntOk Tryz.prog 61 (Ent.pure z7):=by
 refine Ype fun _ H K h=>?_
 unfold z7 at h
 split at h
 rotate_left
 ·exact h.elim
 rename_i l a1 a2 m y a3 a4 a5 a6 a7 n1 z pr n2 b
 obtain ⟨S,keys,ms,⟨rfl,hS,rfl,hkl,hz,hml,hmp,hpr⟩,hK⟩:=h
 refine ⟨_,hK,?_⟩
 clear hK
 refine ACalls.fW ax (tCq Ic (tCq Lo (tCq dW tNq))) Tryz.func61 [.tmp 6] (nrq _) (T:=av [(15,[[],[],[],[],[],[],[],[],[],[],[9],[],[2,4,7,9,10],[2,4,7,9,10]])]) (h:=fun hcl hlt=>?_)
 have hsc:=AV.lt_mono (Nat.le_succ H.nx) _ (hlt (.agg (bv S)) (by simp))
 have htc:=fun n' (hn:H.nx≤n')=>AV.lt_mono hn _ (hlt (.agg [a1,a2,.slice m 3 (keys.map bL),a3,a4,a5,a6,a7]) (by simp))
 have hec:=fun n' (hn:H.nx≤n')=>AV.lt_mono hn _ (hlt (.agg [.int .i64 n1,z,.int .i64 pr,.int .i64 n2,b]) (by simp))
 have hm:∀ n',H.nx≤n'→AV.lt n' (.slice m 3 (keys.map bL)):=fun n' hn=>by have h1:=htc n' hn;rw [znn] at h1;exact h1.2.2.1
 obtain ⟨zm,zs,rfl,hzs⟩:∃ zm zs,z=.slice zm zs (ms.map aQ)∧(zs=8∨ms=[]):=by
  rcases hz with ⟨zm,rfl⟩|⟨rfl,h⟩
  ·exact ⟨zm,8,rfl,.inl rfl⟩
  ·exact Y104
 simp only [znn] at hsc htc hec
 clear hlt
 simp only [go_sem,bR]
 have hc0:(((((H.push (.cells (bv S))).push (.cells [a1,a2,.slice m 3 (keys.map bL),a3,a4,a5,a6,a7])).push (.cells [.int .i64 n1,.slice zm zs (ms.map aQ),.int .i64 pr,.int .i64 n2,b])).push (.buf 4 0)).push (.buf 4 0)).Closed :=
  ag (ag (ae (ae (ae hcl hsc) (htc _ (by simp only [go_sem];omega))) (hec _ (by simp only [go_sem];omega))))
 refine az (A:=Nat × AHeap) (fun a=>[(3,.ptr H.nx 0),(5,.ptr (H.nx+1+1) 0),(7,.slice (.own (H.nx+1+1+1+1)) 4 (aU (bT S.fields keys ms a.1))),(13,.slice m 3 (keys.map bL)),(14,.int .i64 (keys.length:Int)),(15,.int .i64 (a.1:Int))]) (fun a=>a.2)
  (fun a=>a.1≤keys.length∧H.Le a.2∧a.2.Closed∧a.2.get H.nx=some (.cells (bv S))∧a.2.get (H.nx+1+1)=some (.cells [.int .i64 n1,.slice zm zs (ms.map aQ),.int .i64 pr,.int .i64 n2,b])∧a.2.get (H.nx+1+1+1+1)=some (.buf 4 (bT S.fields keys ms a.1).length)) (fun a=>keys.length - a.1)
  (0,(((((H.push (.cells (bv S))).push (.cells [a1,a2,.slice m 3 (keys.map bL),a3,a4,a5,a6,a7])).push (.cells [.int .i64 n1,.slice zm zs (ms.map aQ),.int .i64 pr,.int .i64 n2,b])).push (.buf 4 0)).push (.buf 4 0))) ⟨Nat.zero_le _,by repeat first|exact .refl _|refine .push ?_ _,hc0,by simp only [go_sem],by simp only [go_sem],by simp only [go_sem];rfl⟩ ?_ fun a ha=>?_
 ·exact Y40
 obtain ⟨k,Hc⟩:=a
 obtain ⟨hk,hle,hcc,g1,g2,g3⟩:=ha
 dsimp only at hk hle hcc g1 g2 g3 ⊢
 have nx3:=glq g3
 simp only [go_sem]
 refine au (fun hc=>?_) (fun hc=>?_)
 ·have hk1:k<keys.length:=by simp at hc;omega
  have e5:=Yk5 k
  have r1:(H.nx=Hc.nx)=False:=eq_false (by omega)
  have r2:(H.nx=Hc.nx+1)=False:=eq_false (by omega)
  have r3:(H.nx=Hc.nx+1+1)=False:=eq_false (by omega)
  have r4:(H.nx+1+1=Hc.nx)=False:=eq_false (by omega)
  have r5:(H.nx+1+1=Hc.nx+1)=False:=eq_false (by omega)
  have r6:(H.nx+1+1=Hc.nx+1+1)=False:=eq_false (by omega)
  have r7:(H.nx+1+1+1+1=Hc.nx)=False:=eq_false (by omega)
  have r8:(H.nx+1+1+1+1=Hc.nx+1)=False:=eq_false (by omega)
  have r9:(H.nx+1+1+1+1=Hc.nx+1+1)=False:=eq_false (by omega)
  have r10:(H.nx+1=Hc.nx)=False:=eq_false (by omega)
  have r11:(H.nx+1+1+1=Hc.nx)=False:=eq_false (by omega)
  have r12:(H.nx+1+1+1=Hc.nx+1)=False:=eq_false (by omega)
  obtain ⟨LL,hLL⟩:∃ LL,bT S.fields keys ms k=LL:=⟨_,rfl⟩
  have hll:LL.length≤2*k:=by rw [← hLL];exact iW
  have hkt:∀ X,ms.getD k cu=X→bT S.fields keys ms (k+1)=LL++eL S.fields keys[k] X:=by
   intro X hX
   rw [bT,hLL]
   unfold rX
   rw [gQq hk1]
   dsimp only
   rw [hX]
  rw [hLL] at g3
  rw [hLL]
  obtain ⟨q,hq⟩:∃ q,keys[k]=q:=⟨_,rfl⟩
  have hkg:=j8 hk1
  rw [hq] at hkg hkt
  by_cases hkm:k<ms.length
  ·have d1:decide ((k:Int)<(ms.length:Int))=true:=dtq (by omega)
   obtain rfl:zs=8:=by
    rcases hzs with h|h
    ·exact h
    ·rw [h] at hkm;exact absurd hkm (by simp)
   obtain ⟨X,hX⟩:∃ X,ms[k]=X:=⟨_,rfl⟩
   have hXp:X.pfx<9223372036854775808:=by rw [← hX];exact hmp _ (gMq hkm)
   have hkt:=hkt X (by simp only [gEq,gQq hkm,Option.getD_some];exact hX)
   have hgm:=bC (f:=aQ) (l:=ms) (k:=k) (x:=X) (by rw [gQq hkm,hX])
   cases hpres:X.present with
   |true =>
    have hs10:(bv S).length=10:=rfl
    have ht10:(bv S).take 10=bv S:=rfl
    have hle10:(10≤10)=True:=eq_true (nrq _)
    rcases (by omega:q.kind=1∨q.kind=2∨q.kind=3∨q.kind=4∨(q.kind≠1∧q.kind≠2∧q.kind≠3∧q.kind≠4)) with hkd|hkd|hkd|hkd|⟨hq1,hq2,hq3,hq4⟩
    ·skip
     have hrow:aU LL++[.agg [.str q.name,.str [],.int .u64 ((X.value/2^64:Nat):Int),.int .u64 ((X.value % 2^64:Nat):Int)],.agg [.str q.name,.str [118,97,108,117,101],.int .u64 ((X.value/2^64:Nat):Int),.int .u64 ((X.value % 2^64:Nat):Int)]]=aU (bT S.fields keys ms (k+1)):=by
      exact Y68
     have hln:(bT S.fields keys ms (k+1)).length=LL.length+2:=by rw [hkt];simp [eL,dK,hkd]
     have c1:(q.kind==1)=true:=by rw [hkd];rfl
     have c2:(q.kind==2)=false:=by rw [hkd];rfl
     have c3:(q.kind==3)=false:=by rw [hkd];rfl
     have c4:(q.kind==4)=false:=by rw [hkd];rfl
     exact Y11
    ·skip
     have hrow:aU LL++[.agg [.str q.name,.str [118,97,108,117,101],.int .u64 ((X.value/2^64:Nat):Int),.int .u64 ((X.value % 2^64:Nat):Int)],.agg [.str q.name,.str [112,114,101,102,105,120,95,108,101,110,103,116,104],.int .u64 ((X.pfx.toNat/2^64:Nat):Int),.int .u64 ((X.pfx.toNat % 2^64:Nat):Int)]]=aU (bT S.fields keys ms (k+1)):=by
      exact Y68
     have hln:(bT S.fields keys ms (k+1)).length=LL.length+2:=by rw [hkt];simp [eL,dK,hkd]
     have c1:(q.kind==1)=false:=by rw [hkd];rfl
     have c2:(q.kind==2)=true:=by rw [hkd];rfl
     have c3:(q.kind==3)=false:=by rw [hkd];rfl
     have c4:(q.kind==4)=false:=by rw [hkd];rfl
     simp only [go_sem,hkg,bR,iNq,g1,ay g1,g2,ay g2,g3,r1,r2,r3,r4,r5,r6,r7,r8,r9,r10,r11,r12,if_false,d1,ybb,e5,hgm,aQ,bE,vc,yal,yak,List.append_assoc,hpres,c1,c2,c3,c4,hs10,ht10,hle10,aC]
     refine ⟨by omega,by omega,hXp,?_⟩
     simp only [go_sem,hkg,bR,iNq,g1,ay g1,g2,ay g2,g3,r1,r2,r3,r4,r5,r6,r7,r8,r9,r10,r11,r12,if_false,d1,ybb,e5,c1,c2,c3,c4,vv,aC]
     exact Y1
    ·skip
     have hrow:aU LL++[.agg [.str q.name,.str [118,97,108,117,101],.int .u64 ((X.value/2^64:Nat):Int),.int .u64 ((X.value % 2^64:Nat):Int)],.agg [.str q.name,.str [109,97,115,107],.int .u64 ((X.mask/2^64:Nat):Int),.int .u64 ((X.mask % 2^64:Nat):Int)]]=aU (bT S.fields keys ms (k+1)):=by
      exact Y68
     have hln:(bT S.fields keys ms (k+1)).length=LL.length+2:=by rw [hkt];simp [eL,dK,hkd]
     have c1:(q.kind==1)=false:=by rw [hkd];rfl
     have c2:(q.kind==2)=false:=by rw [hkd];rfl
     have c3:(q.kind==3)=true:=by rw [hkd];rfl
     have c4:(q.kind==4)=false:=by rw [hkd];rfl
     exact Y11
    ·skip
     have hrow:aU LL++[.agg [.str q.name,.str [108,111,119],.int .u64 ((X.value/2^64:Nat):Int),.int .u64 ((X.value % 2^64:Nat):Int)],.agg [.str q.name,.str [104,105,103,104],.int .u64 ((X.high/2^64:Nat):Int),.int .u64 ((X.high % 2^64:Nat):Int)]]=aU (bT S.fields keys ms (k+1)):=by
      exact Y68
     have hln:(bT S.fields keys ms (k+1)).length=LL.length+2:=by rw [hkt];simp [eL,dK,hkd]
     have c1:(q.kind==1)=false:=by rw [hkd];rfl
     have c2:(q.kind==2)=false:=by rw [hkd];rfl
     have c3:(q.kind==3)=false:=by rw [hkd];rfl
     have c4:(q.kind==4)=true:=by rw [hkd];rfl
     exact Y11
    ·skip
     have hrow:bT S.fields keys ms (k+1)=LL:=by rw [hkt];simp [eL,dK,hq1,hq2,hq3,hq4]
     have c1:(q.kind==1)=false:=by simp [hq1]
     have c2:(q.kind==2)=false:=by simp [hq2]
     have c3:(q.kind==3)=false:=by simp [hq3]
     have c4:(q.kind==4)=false:=by simp [hq4]
     simp only [go_sem,hkg,bR,iNq,g1,ay g1,g2,ay g2,g3,r1,r2,r3,r4,r5,r6,r7,r8,r9,r10,r11,r12,if_false,d1,ybb,e5,hgm,aQ,bE,vc,yal,yak,List.append_assoc,hpres,c1,c2,c3,c4,hs10,ht10,hle10,aC]
     refine ⟨by omega,by omega,(k+1,Hc),⟨by dsimp only;omega,hle,hcc,g1,g2,by dsimp only;rw [hrow];exact g3⟩,by dsimp only;omega,?_⟩
     have hnn:H.nx≤Hc.nx:=by omega
     dsimp only
     simp only [hrow]
     exact Z60
   |false =>
    have hs10:(bv S).length=10:=rfl
    have ht10:(bv S).take 10=bv S:=rfl
    have hle10:(10≤10)=True:=eq_true (nrq _)
    rcases (by omega:q.kind=1∨q.kind=2∨q.kind=3∨q.kind=4∨(q.kind≠1∧q.kind≠2∧q.kind≠3∧q.kind≠4)) with hkd|hkd|hkd|hkd|⟨hq1,hq2,hq3,hq4⟩
    ·skip
     have hrow:aU LL++[.agg [.str q.name,.str [],.int .u64 ((X.value/2^64:Nat):Int),.int .u64 ((X.value % 2^64:Nat):Int)],.agg [.str q.name,.str [118,97,108,117,101],.int .u64 ((X.value/2^64:Nat):Int),.int .u64 ((X.value % 2^64:Nat):Int)]]=aU (bT S.fields keys ms (k+1)):=by
      exact Y68
     have hln:(bT S.fields keys ms (k+1)).length=LL.length+2:=by rw [hkt];simp [eL,dK,hkd]
     have c1:(q.kind==1)=true:=by rw [hkd];rfl
     have c2:(q.kind==2)=false:=by rw [hkd];rfl
     have c3:(q.kind==3)=false:=by rw [hkd];rfl
     have c4:(q.kind==4)=false:=by rw [hkd];rfl
     simp only [go_sem,hkg,bR,iNq,g1,ay g1,g2,ay g2,g3,r1,r2,r3,r4,r5,r6,r7,r8,r9,r10,r11,r12,if_false,d1,ybb,e5,hgm,aQ,bE,vc,yal,yak,List.append_assoc,hpres,c1,c2,c3,c4,hs10,ht10,hle10,aC]
     refine ⟨by omega,by omega,S,⟨rfl,hS⟩,?_⟩
     simp only [go_sem,hkg,bR,iNq,g1,ay g1,g2,ay g2,g3,r1,r2,r3,r4,r5,r6,r7,r8,r9,r10,r11,r12,if_false,d1,ybb,e5,c1,c2,c3,c4,cH,vv,aC]
     exact Y1
    ·skip
     have hrow:aU LL++[.agg [.str q.name,.str [118,97,108,117,101],.int .u64 ((X.value/2^64:Nat):Int),.int .u64 ((X.value % 2^64:Nat):Int)],.agg [.str q.name,.str [112,114,101,102,105,120,95,108,101,110,103,116,104],.int .u64 ((X.pfx.toNat/2^64:Nat):Int),.int .u64 ((X.pfx.toNat % 2^64:Nat):Int)]]=aU (bT S.fields keys ms (k+1)):=by
      exact Y68
     have hln:(bT S.fields keys ms (k+1)).length=LL.length+2:=by rw [hkt];simp [eL,dK,hkd]
     have c1:(q.kind==1)=false:=by rw [hkd];rfl
     have c2:(q.kind==2)=true:=by rw [hkd];rfl
     have c3:(q.kind==3)=false:=by rw [hkd];rfl
     have c4:(q.kind==4)=false:=by rw [hkd];rfl
     simp only [go_sem,hkg,bR,iNq,g1,ay g1,g2,ay g2,g3,r1,r2,r3,r4,r5,r6,r7,r8,r9,r10,r11,r12,if_false,d1,ybb,e5,hgm,aQ,bE,vc,yal,yak,List.append_assoc,hpres,c1,c2,c3,c4,hs10,ht10,hle10,aC]
     refine ⟨by omega,by omega,S,⟨rfl,hS⟩,?_⟩
     simp only [go_sem,hkg,bR,iNq,g1,ay g1,g2,ay g2,g3,r1,r2,r3,r4,r5,r6,r7,r8,r9,r10,r11,r12,if_false,d1,ybb,e5,c1,c2,c3,c4,cH,vv,aC]
     refine ⟨hXp,?_⟩
     simp only [go_sem,hkg,bR,iNq,g1,ay g1,g2,ay g2,g3,r1,r2,r3,r4,r5,r6,r7,r8,r9,r10,r11,r12,if_false,d1,ybb,e5,c1,c2,c3,c4,vv,aC]
     exact Y1
    ·skip
     have hrow:aU LL++[.agg [.str q.name,.str [118,97,108,117,101],.int .u64 ((X.value/2^64:Nat):Int),.int .u64 ((X.value % 2^64:Nat):Int)],.agg [.str q.name,.str [109,97,115,107],.int .u64 ((X.mask/2^64:Nat):Int),.int .u64 ((X.mask % 2^64:Nat):Int)]]=aU (bT S.fields keys ms (k+1)):=by
      exact Y68
     have hln:(bT S.fields keys ms (k+1)).length=LL.length+2:=by rw [hkt];simp [eL,dK,hkd]
     have c1:(q.kind==1)=false:=by rw [hkd];rfl
     have c2:(q.kind==2)=false:=by rw [hkd];rfl
     have c3:(q.kind==3)=true:=by rw [hkd];rfl
     have c4:(q.kind==4)=false:=by rw [hkd];rfl
     simp only [go_sem,hkg,bR,iNq,g1,ay g1,g2,ay g2,g3,r1,r2,r3,r4,r5,r6,r7,r8,r9,r10,r11,r12,if_false,d1,ybb,e5,hgm,aQ,bE,vc,yal,yak,List.append_assoc,hpres,c1,c2,c3,c4,hs10,ht10,hle10,aC]
     refine ⟨by omega,by omega,S,⟨rfl,hS⟩,?_⟩
     simp only [go_sem,hkg,bR,iNq,g1,ay g1,g2,ay g2,g3,r1,r2,r3,r4,r5,r6,r7,r8,r9,r10,r11,r12,if_false,d1,ybb,e5,c1,c2,c3,c4,cH,vv,aC]
     exact Y1
    ·skip
     have hrow:aU LL++[.agg [.str q.name,.str [108,111,119],.int .u64 ((X.value/2^64:Nat):Int),.int .u64 ((X.value % 2^64:Nat):Int)],.agg [.str q.name,.str [104,105,103,104],.int .u64 ((eT (gR S.fields q.field)/2^64:Nat):Int),.int .u64 ((eT (gR S.fields q.field) % 2^64:Nat):Int)]]=aU (bT S.fields keys ms (k+1)):=by
      exact Y68
     have hln:(bT S.fields keys ms (k+1)).length=LL.length+2:=by rw [hkt];simp [eL,dK,hkd]
     have c1:(q.kind==1)=false:=by rw [hkd];rfl
     have c2:(q.kind==2)=false:=by rw [hkd];rfl
     have c3:(q.kind==3)=false:=by rw [hkd];rfl
     have c4:(q.kind==4)=true:=by rw [hkd];rfl
     simp only [go_sem,hkg,bR,iNq,g1,ay g1,g2,ay g2,g3,r1,r2,r3,r4,r5,r6,r7,r8,r9,r10,r11,r12,if_false,d1,ybb,e5,hgm,aQ,bE,vc,yal,yak,List.append_assoc,hpres,c1,c2,c3,c4,hs10,ht10,hle10,aC]
     refine ⟨by omega,by omega,S,⟨rfl,hS⟩,?_⟩
     simp only [go_sem,hkg,bR,iNq,g1,ay g1,g2,ay g2,g3,r1,r2,r3,r4,r5,r6,r7,r8,r9,r10,r11,r12,if_false,d1,ybb,e5,c1,c2,c3,c4,cH,vv,aC]
     exact Y1
    ·skip
     have hrow:bT S.fields keys ms (k+1)=LL:=by rw [hkt];simp [eL,dK,hq1,hq2,hq3,hq4]
     have c1:(q.kind==1)=false:=by simp [hq1]
     have c2:(q.kind==2)=false:=by simp [hq2]
     have c3:(q.kind==3)=false:=by simp [hq3]
     have c4:(q.kind==4)=false:=by simp [hq4]
     simp only [go_sem,hkg,bR,iNq,g1,ay g1,g2,ay g2,g3,r1,r2,r3,r4,r5,r6,r7,r8,r9,r10,r11,r12,if_false,d1,ybb,e5,hgm,aQ,bE,vc,yal,yak,List.append_assoc,hpres,c1,c2,c3,c4,hs10,ht10,hle10,aC]
     refine ⟨by omega,by omega,S,⟨rfl,hS⟩,?_⟩
     exact Y60
  ·have d1:decide ((k:Int)<(ms.length:Int))=false:=dfq (by omega)
   have hkt:=hkt cu (by simp only [gEq,gNq (show ms.length≤k by omega),Option.getD_none])
   have hs10:(bv S).length=10:=rfl
   have ht10:(bv S).take 10=bv S:=rfl
   have hle10:(10≤10)=True:=eq_true (nrq _)
   rcases (by omega:q.kind=1∨q.kind=2∨q.kind=3∨q.kind=4∨(q.kind≠1∧q.kind≠2∧q.kind≠3∧q.kind≠4)) with hkd|hkd|hkd|hkd|⟨hq1,hq2,hq3,hq4⟩
   ·skip
    have hrow:aU LL++[.agg [.str q.name,.str [],.int .u64 0,.int .u64 0],.agg [.str q.name,.str [118,97,108,117,101],.int .u64 0,.int .u64 0]]=aU (bT S.fields keys ms (k+1)):=by
     exact Y129
    have hln:(bT S.fields keys ms (k+1)).length=LL.length+2:=by rw [hkt];simp [eL,dK,hkd]
    have c1:(q.kind==1)=true:=by rw [hkd];rfl
    have c2:(q.kind==2)=false:=by rw [hkd];rfl
    have c3:(q.kind==3)=false:=by rw [hkd];rfl
    have c4:(q.kind==4)=false:=by rw [hkd];rfl
    simp only [go_sem,hkg,bR,iNq,g1,ay g1,g2,ay g2,g3,r1,r2,r3,r4,r5,r6,r7,r8,r9,r10,r11,r12,if_false,d1,ybb,e5,c1,c2,c3,c4,hs10,ht10,hle10,aC]
    refine ⟨by omega,S,⟨rfl,hS⟩,?_⟩
    simp only [go_sem,hkg,bR,iNq,g1,ay g1,g2,ay g2,g3,r1,r2,r3,r4,r5,r6,r7,r8,r9,r10,r11,r12,if_false,d1,ybb,e5,c1,c2,c3,c4,cH,vv,aC]
    exact Y1
   ·skip
    have hrow:aU LL++[.agg [.str q.name,.str [118,97,108,117,101],.int .u64 0,.int .u64 0],.agg [.str q.name,.str [112,114,101,102,105,120,95,108,101,110,103,116,104],.int .u64 (((0:Int).toNat/2^64:Nat):Int),.int .u64 (((0:Int).toNat % 2^64:Nat):Int)]]=aU (bT S.fields keys ms (k+1)):=by
     exact Y129
    have hln:(bT S.fields keys ms (k+1)).length=LL.length+2:=by rw [hkt];simp [eL,dK,hkd]
    have c1:(q.kind==1)=false:=by rw [hkd];rfl
    have c2:(q.kind==2)=true:=by rw [hkd];rfl
    have c3:(q.kind==3)=false:=by rw [hkd];rfl
    have c4:(q.kind==4)=false:=by rw [hkd];rfl
    simp only [go_sem,hkg,bR,iNq,g1,ay g1,g2,ay g2,g3,r1,r2,r3,r4,r5,r6,r7,r8,r9,r10,r11,r12,if_false,d1,ybb,e5,c1,c2,c3,c4,hs10,ht10,hle10,aC]
    refine ⟨by omega,S,⟨rfl,hS⟩,?_⟩
    simp only [go_sem,hkg,bR,iNq,g1,ay g1,g2,ay g2,g3,r1,r2,r3,r4,r5,r6,r7,r8,r9,r10,r11,r12,if_false,d1,ybb,e5,c1,c2,c3,c4,cH,vv,aC]
    refine ⟨by decide,?_⟩
    simp only [go_sem,hkg,bR,iNq,g1,ay g1,g2,ay g2,g3,r1,r2,r3,r4,r5,r6,r7,r8,r9,r10,r11,r12,if_false,d1,ybb,e5,c1,c2,c3,c4,vv,aC]
    exact Y1
   ·skip
    have hrow:aU LL++[.agg [.str q.name,.str [118,97,108,117,101],.int .u64 0,.int .u64 0],.agg [.str q.name,.str [109,97,115,107],.int .u64 0,.int .u64 0]]=aU (bT S.fields keys ms (k+1)):=by
     exact Y129
    have hln:(bT S.fields keys ms (k+1)).length=LL.length+2:=by rw [hkt];simp [eL,dK,hkd]
    have c1:(q.kind==1)=false:=by rw [hkd];rfl
    have c2:(q.kind==2)=false:=by rw [hkd];rfl
    have c3:(q.kind==3)=true:=by rw [hkd];rfl
    have c4:(q.kind==4)=false:=by rw [hkd];rfl
    simp only [go_sem,hkg,bR,iNq,g1,ay g1,g2,ay g2,g3,r1,r2,r3,r4,r5,r6,r7,r8,r9,r10,r11,r12,if_false,d1,ybb,e5,c1,c2,c3,c4,hs10,ht10,hle10,aC]
    refine ⟨by omega,S,⟨rfl,hS⟩,?_⟩
    simp only [go_sem,hkg,bR,iNq,g1,ay g1,g2,ay g2,g3,r1,r2,r3,r4,r5,r6,r7,r8,r9,r10,r11,r12,if_false,d1,ybb,e5,c1,c2,c3,c4,cH,vv,aC]
    exact Y1
   ·skip
    have hrow:aU LL++[.agg [.str q.name,.str [108,111,119],.int .u64 0,.int .u64 0],.agg [.str q.name,.str [104,105,103,104],.int .u64 ((eT (gR S.fields q.field)/2^64:Nat):Int),.int .u64 ((eT (gR S.fields q.field) % 2^64:Nat):Int)]]=aU (bT S.fields keys ms (k+1)):=by
     exact Y129
    have hln:(bT S.fields keys ms (k+1)).length=LL.length+2:=by rw [hkt];simp [eL,dK,hkd]
    have c1:(q.kind==1)=false:=by rw [hkd];rfl
    have c2:(q.kind==2)=false:=by rw [hkd];rfl
    have c3:(q.kind==3)=false:=by rw [hkd];rfl
    have c4:(q.kind==4)=true:=by rw [hkd];rfl
    simp only [go_sem,hkg,bR,iNq,g1,ay g1,g2,ay g2,g3,r1,r2,r3,r4,r5,r6,r7,r8,r9,r10,r11,r12,if_false,d1,ybb,e5,c1,c2,c3,c4,hs10,ht10,hle10,aC]
    refine ⟨by omega,S,⟨rfl,hS⟩,?_⟩
    simp only [go_sem,hkg,bR,iNq,g1,ay g1,g2,ay g2,g3,r1,r2,r3,r4,r5,r6,r7,r8,r9,r10,r11,r12,if_false,d1,ybb,e5,c1,c2,c3,c4,cH,vv,aC]
    exact Y1
   ·skip
    have hrow:bT S.fields keys ms (k+1)=LL:=by rw [hkt];simp [eL,dK,hq1,hq2,hq3,hq4]
    have c1:(q.kind==1)=false:=by simp [hq1]
    have c2:(q.kind==2)=false:=by simp [hq2]
    have c3:(q.kind==3)=false:=by simp [hq3]
    have c4:(q.kind==4)=false:=by simp [hq4]
    simp only [go_sem,hkg,bR,iNq,g1,ay g1,g2,ay g2,g3,r1,r2,r3,r4,r5,r6,r7,r8,r9,r10,r11,r12,if_false,d1,ybb,e5,c1,c2,c3,c4,hs10,ht10,hle10,aC]
    refine ⟨by omega,S,⟨rfl,hS⟩,?_⟩
    exact Y60
 ·have hk1:k=keys.length:=by simp at hc;omega
  subst hk1
  have hbl:=@iW S.fields keys ms keys.length
  simp only [go_sem,g2,ay g2,g3,Dj,aC,vv]
  refine ⟨hpr,?_⟩
  have n6:(H.nx+1+1+1+1=Hc.nx)=False:=eq_false (by omega)
  have hsn:=ii (l:=bT S.fields keys ms keys.length) (a:=[112,114,105,111,114,105,116,121]) (b:=[]) (v:=pr.toNat)
  have htb:nQ S.fields keys ms pr=bT S.fields keys ms keys.length++[(([112,114,105,111,114,105,116,121],[]),pr.toNat)]:=rfl
  rw [htb]
  generalize bT S.fields keys ms keys.length=G at *
  exact Y82
theorem LY:ti Tryz.prog 67=some ⟨.struct [(0,3,false),(1,9,false),(2,65,false),(3,56,false),(4,3,false),(5,24,false),(6,3,false),(7,9,false)],8,128,.agg [.int .i64 0,.str [],.slice .nil 1 [],.slice .nil 1 [],.int .i64 0,.slice .nil 1 [],.int .i64 0,.str []]⟩:=by kernel_rfl
theorem Mo:ti Tryz.prog 103=some ⟨.struct [(0,3,false),(1,9,false),(2,100,false),(3,101,false),(4,9,false)],5,88,.agg [.int .i64 0,.str [],.slice .nil 1 [],.slice .nil 1 [],.str []]⟩:=by kernel_rfl
theorem LW:ti Tryz.prog 26=some ⟨.struct [(0,3,false),(1,23,false),(2,3,false),(3,3,false),(4,24,false)],5,72,.agg [.int .i64 0,.slice .nil 1 [],.int .i64 0,.int .i64 0,.slice .nil 1 []]⟩:=by kernel_rfl
theorem La:ti Tryz.prog 36=some ⟨.struct [(0,27,false),(1,28,false),(2,29,false),(3,30,false),(4,31,false),(5,32,false),(6,33,false),(7,34,false),(8,3,false),(9,3,false)],10,208,.agg [.slice .nil 1 [],.slice .nil 1 [],.slice .nil 1 [],.slice .nil 1 [],.slice .nil 1 [],.slice .nil 1 [],.slice .nil 1 [],.slice .nil 1 [],.int .i64 0,.int .i64 0]⟩:=by kernel_rfl
attribute [go_sem] LY Mo LW La
end Go.AL
