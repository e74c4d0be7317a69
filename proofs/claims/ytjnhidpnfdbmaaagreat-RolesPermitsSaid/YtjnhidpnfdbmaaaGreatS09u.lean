/- Lemmas of the proof; no condition. -/
import Derived.Test.YtjnhidpnfdbmaaaGreatS09i
import Derived.Test.YtjnhidpnfdbmaaaGreatS10r
import Derived.Test.YtjnhidpnfdbmaaaGreatS08k
set_option linter.all false
set_option maxRecDepth 10000
set_option maxHeartbeats 32000000
open Go Go.AL Go.Proofs
namespace Go.AL
def jc(ps:List SParam)(ws:List Nat):Nat→List (VN × Nat)
 |0=>[]
 |k+1=>jc ps ws k++[(((ps.map (·.name)).getD k [],[]),ws.getD k 0)]
theorem qW{ps:List SParam}{ws:List Nat}:∀{k:Nat},(jc ps ws k).length=k
 |0=>rfl
 |k+1=>by rw[jc,lAq,qW];rfl
def xW:PCt
 |[.agg [a1,a2,.slice _ 2 ap,a3,a4],z],_,K=>∃ (ps:List SParam) (ws:List Nat),(ap=ps.map bV∧ps.length≤1000∧Ef z 2 (jV ws))∧K (.slice .any 4 (aS (jc ps ws ps.length)))
 |_,_,_=>False
theorem HT:EPp 83 xW:=by
 refine Ype fun _ H K h=>?_
 unfold xW at h
 split at h<;>try exact h.elim
 rename_i a1 a2 m ap a3 a4 z
 obtain⟨ps,ws,⟨rfl,hpl,hz⟩,hK⟩:=h
 refine⟨_,hK,?_⟩
 clear hK
 obtain⟨zm,zs,rfl,hzs⟩:∃ zm zs,z=.slice zm zs (jV ws)∧(zs=2∨ws=[]):=by
  rcases hz with⟨zm,rfl⟩|⟨rfl,h⟩
  ·exact⟨zm,2,rfl,.inl rfl⟩
  ·exact V100
 refine Yfv az (tCq qd tNq) Tryz.func83 [.tmp 4] fun hcl hlt=>?_
 have hac:=AV.lt_mono (Nat.le_succ H.nx) _ (hlt (.agg [a1,a2,.slice m 2 (ps.map bV),a3,a4]) Xb)
 have hm:∀ n',H.nx≤n'→AV.lt n' (.slice zm zs (jV ws)):=fun n' hn=>AV.lt_mono hn _ (hlt (.slice zm zs (jV ws)) Xb)
 have hm2:∀ n',H.nx≤n'→AV.lt n' (.slice m 2 (ps.map bV)):=fun n' hn=>by
  exact V133
 simp only[znr]at hac
 clear hlt
 have hc0:(((H.push (.cells [a1,a2,.slice m 2 (ps.map bV),a3,a4])).push (.buf 4 0)).push (.buf 4 0)).Closed:=ag (ag (aa hcl hac))
 have hal:(eR ps).length=ps.length:=by simp[eR]
 simp only[go_sem,ybb]
 refine⟨ps,⟨rfl,hpl⟩,?_⟩
 simp only[go_sem,bH,hal]
 refine aA (A:=Nat × AHeap) (fun a=>[(1,.slice zm zs (jV ws)),(5,.slice (.own (H.nx+1+1)) 4 (aS (jc ps ws a.1))),(10,.slice .any 2 (bC (eR ps))),(11,.int .i64 (ps.length:Int)),(12,.int .i64 (a.1:Int))]) (fun a=>a.2)
  (fun a=>a.1≤ps.length∧H.Le a.2∧a.2.Closed∧a.2.get (H.nx+1+1)=some (.buf 4 a.1)) (fun a=>ps.length-a.1)
  (0,((H.push (.cells [a1,a2,.slice m 2 (ps.map bV),a3,a4])).push (.buf 4 0)).push (.buf 4 0)) ⟨Nat.zero_le _,by repeat first|exact .refl _|refine .push ?_ _,hc0,Xk⟩ ?_ fun a ha=>?_
 ·exact V35
 exact V6
def xh:PCt
 |[.agg [a1,a2,.slice _ 2 ap,a3,a4],z],_,K=>∃ (ps:List SParam) (ws:List Nat),(ap=ps.map bV∧ps.length≤1000∧Ef z 2 (jV ws))∧K (.slice .any 4 (aS (jc ps ws ps.length)))
 |_,_,_=>False
theorem I0:EPp 94 xh:=by
 refine Ype fun _ H K h=>?_
 unfold xh at h
 split at h<;>try exact h.elim
 rename_i a1 a2 m ap a3 a4 z
 obtain⟨ps,ws,⟨rfl,hpl,hz⟩,hK⟩:=h
 refine⟨_,hK,?_⟩
 clear hK
 obtain⟨zm,zs,rfl,hzs⟩:∃ zm zs,z=.slice zm zs (jV ws)∧(zs=2∨ws=[]):=by
  rcases hz with⟨zm,rfl⟩|⟨rfl,h⟩
  ·exact⟨zm,2,rfl,.inl rfl⟩
  ·exact V100
 refine Yfv az tNq Tryz.func94 [.tmp 4] fun hcl hlt=>?_
 have hac:=AV.lt_mono (Nat.le_succ H.nx) _ (hlt (.agg [a1,a2,.slice m 2 (ps.map bV),a3,a4]) Xb)
 have hm:∀ n',H.nx≤n'→AV.lt n' (.slice zm zs (jV ws)):=fun n' hn=>AV.lt_mono hn _ (hlt (.slice zm zs (jV ws)) Xb)
 have hm2:∀ n',H.nx≤n'→AV.lt n' (.slice m 2 (ps.map bV)):=fun n' hn=>by
  exact V133
 simp only[znr]at hac
 clear hlt
 have hc0:(((H.push (.cells [a1,a2,.slice m 2 (ps.map bV),a3,a4])).push (.buf 4 0)).push (.buf 4 0)).Closed:=ag (ag (aa hcl hac))
 have hal:(eR ps).length=ps.length:=by simp[eR]
 simp only[go_sem,ybb]
 refine aA (A:=Nat × AHeap) (fun a=>[(1,.slice zm zs (jV ws)),(5,.slice (.own (H.nx+1+1)) 4 (aS (jc ps ws a.1))),(10,.slice m 2 (ps.map bV)),(11,.int .i64 (ps.length:Int)),(12,.int .i64 (a.1:Int))]) (fun a=>a.2)
  (fun a=>a.1≤ps.length∧H.Le a.2∧a.2.Closed∧a.2.get (H.nx+1+1)=some (.buf 4 a.1)) (fun a=>ps.length-a.1)
  (0,((H.push (.cells [a1,a2,.slice m 2 (ps.map bV),a3,a4])).push (.buf 4 0)).push (.buf 4 0)) ⟨Nat.zero_le _,by repeat first|exact .refl _|refine .push ?_ _,hc0,Xk⟩ ?_ fun a ha=>?_
 ·exact V35
 exact V6
def Fd:PCt
 |[.int .i64 n],_,K=>n<9223372036854775808∧K (vv n.toNat)
 |_,_,_=>False
theorem OS:EPp 134 Fd:=by
 refine Ype fun _ H K h=>?_
 unfold Fd at h
 split at h<;>try exact h.elim
 rename_i n
 obtain⟨h1,hK⟩:=h
 refine⟨_,hK,?_⟩
 clear hK
 rw[Lm h1]
 have e1:IntKind.u64.wrap (max n 0)=max 0 n:=Xl
 refine Yfu az tNq Tryz.func134 [.cell 2 29] fun hcl=>?_
 simp only[go_sem,e1]
 exact Z0
def G5:PCt
 |[.agg l,.agg [a1,.int .i64 n,a2]],_,K=>∃ S:Sch,(l=bb S∧SLen S)∧K (.int .i64 (iw S.fields n))
 |_,_,_=>False
theorem MU:EPp 133 G5:=by
 refine Ype fun _ H K h=>?_
 unfold G5 at h
 split at h<;>try exact h.elim
 rename_i l a1 fld a2
 obtain⟨S,⟨rfl,hS⟩,hK⟩:=h
 refine⟨_,hK,?_⟩
 clear hK
 rw[pF]
 obtain⟨b1,b2⟩:=oW (q:=fun f:SField=>f.id==fld) (l:=S.fields) (k:=0)
 rcases b2 with b2|b2
 ·rw[ll b2]
  refine Yfu az (tCq qj tNq) Tryz.func133 [.tmp 4] fun hcl=>?_
  simp only[go_sem,bb,mh]
  refine⟨S,⟨rfl,hS⟩,?_⟩
  rw[b2]
  exact V70
 ·obtain⟨i,hi⟩:∃ i:Nat,ixP (fun f:SField=>f.id==fld) S.fields 0=((0+i:Nat):Int):=⟨(ixP (fun f:SField=>f.id==fld) S.fields 0).toNat,Xa⟩
  obtain⟨y,h1,h2,h3⟩:=lQ hi
  rw[h3]
  rw[nzq]at hi
  have hil:i<S.fields.length:=by
   exact V86
  have hg':=bf (f:=cD) (l:=S.fields) (k:=i) (x:=y) h1
  have d:decide ((i:Int)<0)=false:=Xb
  refine Yfu az (tCq qj tNq) Tryz.func133 [.tmp 4] fun hcl=>?_
  simp only[go_sem,bb,mh]
  refine⟨S,⟨rfl,hS⟩,?_⟩
  exact V138
def B4:PCt
 |[.agg l,.agg [a1,a2,.slice _ 3 y,a3,a4,a5,a6,a7],.agg [.int .i64 n1,z,.int .i64 pr,.int .i64 n2,b]],_,K=>∃ (S:Sch) (keys:List SKey) (ms:List SMatch),
   (l=bb S∧SLen S∧y=keys.map bL∧keys.length≤1000∧Ef z 8 (ms.map aP)∧ms.length≤4611686018427387904∧(∀ m∈ms,m.pfx<9223372036854775808)∧pr<9223372036854775808) ∧
   K (.slice .any 4 (aS (pk S.fields keys ms pr)))
 |_,_,_=>False
theorem Mm:EPp 92 B4:=by
 refine Ype fun _ H K h=>?_
 unfold B4 at h
 split at h<;>try exact h.elim
 rename_i l a1 a2 m y a3 a4 a5 a6 a7 n1 z pr n2 b
 obtain⟨S,keys,ms,⟨rfl,hS,rfl,hkl,hz,hml,hmp,hpr⟩,hK⟩:=h
 refine⟨_,hK,?_⟩
 clear hK
 refine ACalls.fW az (tCq MU (tCq OS (tCq fD tNq))) Tryz.func92 [.tmp 6] (nrq _) (T:=ay [(15,[[],[],[],[],[],[],[],[],[],[],[9],[],[2,4,7,9,10],[2,4,7,9,10]])]) (h:=fun hcl hlt=>?_)
 have hsc:=AV.lt_mono (Nat.le_succ H.nx) _ (hlt (.agg (bb S)) Xb)
 have htc:=fun n' (hn:H.nx≤n')=>AV.lt_mono hn _ (hlt (.agg [a1,a2,.slice m 3 (keys.map bL),a3,a4,a5,a6,a7]) Xb)
 have hec:=fun n' (hn:H.nx≤n')=>AV.lt_mono hn _ (hlt (.agg [.int .i64 n1,z,.int .i64 pr,.int .i64 n2,b]) Xb)
 have hm:∀ n',H.nx≤n'→AV.lt n' (.slice m 3 (keys.map bL)):=fun n' hn=>by have h1:=htc n' hn;rw[znr]at h1;exact h1.2.2.1
 obtain⟨zm,zs,rfl,hzs⟩:∃ zm zs,z=.slice zm zs (ms.map aP)∧(zs=8∨ms=[]):=by
  rcases hz with⟨zm,rfl⟩|⟨rfl,h⟩
  ·exact⟨zm,8,rfl,.inl rfl⟩
  ·exact V100
 simp only[znr]at hsc htc hec
 clear hlt
 simp only[go_sem,bW]
 have hc0:(((((H.push (.cells (bb S))).push (.cells [a1,a2,.slice m 3 (keys.map bL),a3,a4,a5,a6,a7])).push (.cells [.int .i64 n1,.slice zm zs (ms.map aP),.int .i64 pr,.int .i64 n2,b])).push (.buf 4 0)).push (.buf 4 0)).Closed :=
  ag (ag (aa (aa (aa hcl hsc) (htc _ (by simp only[go_sem];omega))) (hec _ (by simp only[go_sem];omega))))
 refine aA (A:=Nat × AHeap) (fun a=>[(3,.ptr H.nx 0),(5,.ptr (H.nx+1+1) 0),(7,.slice (.own (H.nx+1+1+1+1)) 4 (aS (cd S.fields keys ms a.1))),(13,.slice m 3 (keys.map bL)),(14,.int .i64 (keys.length:Int)),(15,.int .i64 (a.1:Int))]) (fun a=>a.2)
  (fun a=>a.1≤keys.length∧H.Le a.2∧a.2.Closed∧a.2.get H.nx=some (.cells (bb S))∧a.2.get (H.nx+1+1)=some (.cells [.int .i64 n1,.slice zm zs (ms.map aP),.int .i64 pr,.int .i64 n2,b])∧a.2.get (H.nx+1+1+1+1)=some (.buf 4 (cd S.fields keys ms a.1).length)) (fun a=>keys.length-a.1)
  (0,(((((H.push (.cells (bb S))).push (.cells [a1,a2,.slice m 3 (keys.map bL),a3,a4,a5,a6,a7])).push (.cells [.int .i64 n1,.slice zm zs (ms.map aP),.int .i64 pr,.int .i64 n2,b])).push (.buf 4 0)).push (.buf 4 0))) ⟨Nat.zero_le _,by repeat first|exact .refl _|refine .push ?_ _,hc0,Xk,Xk,Xn⟩ ?_ fun a ha=>?_
 ·exact V37
 obtain⟨k,Hc⟩:=a
 obtain⟨hk,hle,hcc,g1,g2,g3⟩:=ha
 dsimp only at hk hle hcc g1 g2 g3 ⊢
 have nx3:=glq g3
 refine T9 ?_
 refine aq (fun hc=>?_) (fun hc=>?_)
 ·have hk1:k<keys.length:=sHc
  have e5:=Yk5 k
  have r1:(H.nx=Hc.nx)=False:=eFo
  have r2:(H.nx=Hc.nx+1)=False:=eFo
  have r3:(H.nx=Hc.nx+1+1)=False:=eFo
  have r4:(H.nx+1+1=Hc.nx)=False:=eFo
  have r5:(H.nx+1+1=Hc.nx+1)=False:=eFo
  have r6:(H.nx+1+1=Hc.nx+1+1)=False:=eFo
  have r7:(H.nx+1+1+1+1=Hc.nx)=False:=eFo
  have r8:(H.nx+1+1+1+1=Hc.nx+1)=False:=eFo
  have r9:(H.nx+1+1+1+1=Hc.nx+1+1)=False:=eFo
  have r10:(H.nx+1=Hc.nx)=False:=eFo
  have r11:(H.nx+1+1+1=Hc.nx)=False:=eFo
  have r12:(H.nx+1+1+1=Hc.nx+1)=False:=eFo
  obtain⟨LL,hLL⟩:∃ LL,cd S.fields keys ms k=LL:=⟨_,rfl⟩
  have hll:LL.length≤2*k:=by rw[← hLL];exact jr
  have hkt:∀ X,ms.getD k cC=X→cd S.fields keys ms (k+1)=LL++eY S.fields keys[k] X:=by
   intro X hX
   rw[cd,hLL]
   unfold tN
   rw[gQq hk1]
   dsimp only
   rw[hX]
  rw[hLL]at g3
  rw[hLL]
  obtain⟨q,hq⟩:∃ q,keys[k]=q:=⟨_,rfl⟩
  have hkg:=lm hk1
  rw[hq]at hkg hkt
  by_cases hkm:k<ms.length
  ·have d1:decide ((k:Int)<(ms.length:Int))=true:=dtq Xa
   obtain rfl:zs=8:=by
    rcases hzs with h|h
    ·exact h
    ·rw[h]at hkm;exact absurd hkm Xb
   obtain⟨X,hX⟩:∃ X,ms[k]=X:=⟨_,rfl⟩
   have hXp:X.pfx<9223372036854775808:=by rw[← hX];exact hmp _ (gMq hkm)
   have hkt:=hkt X (by simp only[gEq,gQq hkm,Option.getD_some];exact hX)
   have hgm:=bf (f:=aP) (l:=ms) (k:=k) (x:=X) (by rw[gQq hkm,hX])
   cases hpres:X.present with
   |true=>
    have hs10:(bb S).length=10:=rfl
    have ht10:(bb S).take 10=bb S:=rfl
    have hle10:(10≤10)=True:=eq_true (nrq _)
    rcases(Xa:q.kind=1∨q.kind=2∨q.kind=3∨q.kind=4∨(q.kind≠1∧q.kind≠2∧q.kind≠3∧q.kind≠4))with hkd|hkd|hkd|hkd|⟨hq1,hq2,hq3,hq4⟩
    ·skip
     have hrow:aS LL++[.agg [.str q.name,.str [],.int .u64 ((X.value/2^64:Nat):Int),.int .u64 ((X.value%2^64:Nat):Int)],.agg [.str q.name,.str [118,97,108,117,101],.int .u64 ((X.value/2^64:Nat):Int),.int .u64 ((X.value%2^64:Nat):Int)]]=aS (cd S.fields keys ms (k+1)):=by
      exact V63
     have hln:(cd S.fields keys ms (k+1)).length=LL.length+2:=by rw[hkt];simp[eY,dX,hkd]
     have c1:(q.kind==1)=true:=by rw[hkd];rfl
     have c2:(q.kind==2)=false:=by rw[hkd];rfl
     have c3:(q.kind==3)=false:=by rw[hkd];rfl
     have c4:(q.kind==4)=false:=by rw[hkd];rfl
     exact V12
    ·skip
     have hrow:aS LL++[.agg [.str q.name,.str [118,97,108,117,101],.int .u64 ((X.value/2^64:Nat):Int),.int .u64 ((X.value%2^64:Nat):Int)],.agg [.str q.name,.str [112,114,101,102,105,120,95,108,101,110,103,116,104],.int .u64 ((X.pfx.toNat/2^64:Nat):Int),.int .u64 ((X.pfx.toNat%2^64:Nat):Int)]]=aS (cd S.fields keys ms (k+1)):=by
      exact V63
     have hln:(cd S.fields keys ms (k+1)).length=LL.length+2:=by rw[hkt];simp[eY,dX,hkd]
     have c1:(q.kind==1)=false:=by rw[hkd];rfl
     have c2:(q.kind==2)=true:=by rw[hkd];rfl
     have c3:(q.kind==3)=false:=by rw[hkd];rfl
     have c4:(q.kind==4)=false:=by rw[hkd];rfl
     refine T2 ?_
     refine⟨Xa,Xa,hXp,?_⟩
     refine T20 ?_
     exact V2
    ·skip
     have hrow:aS LL++[.agg [.str q.name,.str [118,97,108,117,101],.int .u64 ((X.value/2^64:Nat):Int),.int .u64 ((X.value%2^64:Nat):Int)],.agg [.str q.name,.str [109,97,115,107],.int .u64 ((X.mask/2^64:Nat):Int),.int .u64 ((X.mask%2^64:Nat):Int)]]=aS (cd S.fields keys ms (k+1)):=by
      exact V63
     have hln:(cd S.fields keys ms (k+1)).length=LL.length+2:=by rw[hkt];simp[eY,dX,hkd]
     have c1:(q.kind==1)=false:=by rw[hkd];rfl
     have c2:(q.kind==2)=false:=by rw[hkd];rfl
     have c3:(q.kind==3)=true:=by rw[hkd];rfl
     have c4:(q.kind==4)=false:=by rw[hkd];rfl
     exact V12
    ·skip
     have hrow:aS LL++[.agg [.str q.name,.str [108,111,119],.int .u64 ((X.value/2^64:Nat):Int),.int .u64 ((X.value%2^64:Nat):Int)],.agg [.str q.name,.str [104,105,103,104],.int .u64 ((X.high/2^64:Nat):Int),.int .u64 ((X.high%2^64:Nat):Int)]]=aS (cd S.fields keys ms (k+1)):=by
      exact V63
     have hln:(cd S.fields keys ms (k+1)).length=LL.length+2:=by rw[hkt];simp[eY,dX,hkd]
     have c1:(q.kind==1)=false:=by rw[hkd];rfl
     have c2:(q.kind==2)=false:=by rw[hkd];rfl
     have c3:(q.kind==3)=false:=by rw[hkd];rfl
     have c4:(q.kind==4)=true:=by rw[hkd];rfl
     exact V12
    ·skip
     have hrow:cd S.fields keys ms (k+1)=LL:=by rw[hkt];simp[eY,dX,hq1,hq2,hq3,hq4]
     have c1:(q.kind==1)=false:=by simp[hq1]
     have c2:(q.kind==2)=false:=by simp[hq2]
     have c3:(q.kind==3)=false:=by simp[hq3]
     have c4:(q.kind==4)=false:=by simp[hq4]
     refine T2 ?_
     refine⟨Xa,Xa,(k+1,Hc),⟨Xf,hle,hcc,g1,g2,by dsimp only;rw[hrow];exact g3⟩,Xf,?_⟩
     have hnn:H.nx≤Hc.nx:=Xa
     dsimp only
     simp only[hrow]
     exact Z60
   |_=>
    have hs10:(bb S).length=10:=rfl
    have ht10:(bb S).take 10=bb S:=rfl
    have hle10:(10≤10)=True:=eq_true (nrq _)
    rcases(Xa:q.kind=1∨q.kind=2∨q.kind=3∨q.kind=4∨(q.kind≠1∧q.kind≠2∧q.kind≠3∧q.kind≠4))with hkd|hkd|hkd|hkd|⟨hq1,hq2,hq3,hq4⟩
    ·skip
     have hrow:aS LL++[.agg [.str q.name,.str [],.int .u64 ((X.value/2^64:Nat):Int),.int .u64 ((X.value%2^64:Nat):Int)],.agg [.str q.name,.str [118,97,108,117,101],.int .u64 ((X.value/2^64:Nat):Int),.int .u64 ((X.value%2^64:Nat):Int)]]=aS (cd S.fields keys ms (k+1)):=by
      exact V63
     have hln:(cd S.fields keys ms (k+1)).length=LL.length+2:=by rw[hkt];simp[eY,dX,hkd]
     have c1:(q.kind==1)=true:=by rw[hkd];rfl
     have c2:(q.kind==2)=false:=by rw[hkd];rfl
     have c3:(q.kind==3)=false:=by rw[hkd];rfl
     have c4:(q.kind==4)=false:=by rw[hkd];rfl
     refine T2 ?_
     refine⟨Xa,Xa,S,⟨rfl,hS⟩,?_⟩
     refine T3 ?_
     exact V2
    ·skip
     have hrow:aS LL++[.agg [.str q.name,.str [118,97,108,117,101],.int .u64 ((X.value/2^64:Nat):Int),.int .u64 ((X.value%2^64:Nat):Int)],.agg [.str q.name,.str [112,114,101,102,105,120,95,108,101,110,103,116,104],.int .u64 ((X.pfx.toNat/2^64:Nat):Int),.int .u64 ((X.pfx.toNat%2^64:Nat):Int)]]=aS (cd S.fields keys ms (k+1)):=by
      exact V63
     have hln:(cd S.fields keys ms (k+1)).length=LL.length+2:=by rw[hkt];simp[eY,dX,hkd]
     have c1:(q.kind==1)=false:=by rw[hkd];rfl
     have c2:(q.kind==2)=true:=by rw[hkd];rfl
     have c3:(q.kind==3)=false:=by rw[hkd];rfl
     have c4:(q.kind==4)=false:=by rw[hkd];rfl
     refine T2 ?_
     refine⟨Xa,Xa,S,⟨rfl,hS⟩,?_⟩
     refine T3 ?_
     refine⟨hXp,?_⟩
     refine T20 ?_
     exact V2
    ·skip
     have hrow:aS LL++[.agg [.str q.name,.str [118,97,108,117,101],.int .u64 ((X.value/2^64:Nat):Int),.int .u64 ((X.value%2^64:Nat):Int)],.agg [.str q.name,.str [109,97,115,107],.int .u64 ((X.mask/2^64:Nat):Int),.int .u64 ((X.mask%2^64:Nat):Int)]]=aS (cd S.fields keys ms (k+1)):=by
      exact V63
     have hln:(cd S.fields keys ms (k+1)).length=LL.length+2:=by rw[hkt];simp[eY,dX,hkd]
     have c1:(q.kind==1)=false:=by rw[hkd];rfl
     have c2:(q.kind==2)=false:=by rw[hkd];rfl
     have c3:(q.kind==3)=true:=by rw[hkd];rfl
     have c4:(q.kind==4)=false:=by rw[hkd];rfl
     refine T2 ?_
     refine⟨Xa,Xa,S,⟨rfl,hS⟩,?_⟩
     refine T3 ?_
     exact V2
    ·skip
     have hrow:aS LL++[.agg [.str q.name,.str [108,111,119],.int .u64 ((X.value/2^64:Nat):Int),.int .u64 ((X.value%2^64:Nat):Int)],.agg [.str q.name,.str [104,105,103,104],.int .u64 ((fC (iw S.fields q.field)/2^64:Nat):Int),.int .u64 ((fC (iw S.fields q.field)%2^64:Nat):Int)]]=aS (cd S.fields keys ms (k+1)):=by
      exact V63
     have hln:(cd S.fields keys ms (k+1)).length=LL.length+2:=by rw[hkt];simp[eY,dX,hkd]
     have c1:(q.kind==1)=false:=by rw[hkd];rfl
     have c2:(q.kind==2)=false:=by rw[hkd];rfl
     have c3:(q.kind==3)=false:=by rw[hkd];rfl
     have c4:(q.kind==4)=true:=by rw[hkd];rfl
     refine T2 ?_
     refine⟨Xa,Xa,S,⟨rfl,hS⟩,?_⟩
     refine T3 ?_
     exact V2
    ·skip
     have hrow:cd S.fields keys ms (k+1)=LL:=by rw[hkt];simp[eY,dX,hq1,hq2,hq3,hq4]
     have c1:(q.kind==1)=false:=by simp[hq1]
     have c2:(q.kind==2)=false:=by simp[hq2]
     have c3:(q.kind==3)=false:=by simp[hq3]
     have c4:(q.kind==4)=false:=by simp[hq4]
     refine T2 ?_
     refine⟨Xa,Xa,S,⟨rfl,hS⟩,?_⟩
     exact V54
  ·have d1:decide ((k:Int)<(ms.length:Int))=false:=dfq Xa
   have hkt:=hkt cC (by simp only[gEq,gNq (show ms.length≤k by omega),Option.getD_none])
   have hs10:(bb S).length=10:=rfl
   have ht10:(bb S).take 10=bb S:=rfl
   have hle10:(10≤10)=True:=eq_true (nrq _)
   rcases(Xa:q.kind=1∨q.kind=2∨q.kind=3∨q.kind=4∨(q.kind≠1∧q.kind≠2∧q.kind≠3∧q.kind≠4))with hkd|hkd|hkd|hkd|⟨hq1,hq2,hq3,hq4⟩
   ·skip
    have hrow:aS LL++[.agg [.str q.name,.str [],.int .u64 0,.int .u64 0],.agg [.str q.name,.str [118,97,108,117,101],.int .u64 0,.int .u64 0]]=aS (cd S.fields keys ms (k+1)):=by
     exact V130
    have hln:(cd S.fields keys ms (k+1)).length=LL.length+2:=by rw[hkt];simp[eY,dX,hkd]
    have c1:(q.kind==1)=true:=by rw[hkd];rfl
    have c2:(q.kind==2)=false:=by rw[hkd];rfl
    have c3:(q.kind==3)=false:=by rw[hkd];rfl
    have c4:(q.kind==4)=false:=by rw[hkd];rfl
    refine T8 ?_
    refine⟨Xa,S,⟨rfl,hS⟩,?_⟩
    refine T3 ?_
    exact V2
   ·skip
    have hrow:aS LL++[.agg [.str q.name,.str [118,97,108,117,101],.int .u64 0,.int .u64 0],.agg [.str q.name,.str [112,114,101,102,105,120,95,108,101,110,103,116,104],.int .u64 (((0:Int).toNat/2^64:Nat):Int),.int .u64 (((0:Int).toNat%2^64:Nat):Int)]]=aS (cd S.fields keys ms (k+1)):=by
     exact V130
    have hln:(cd S.fields keys ms (k+1)).length=LL.length+2:=by rw[hkt];simp[eY,dX,hkd]
    have c1:(q.kind==1)=false:=by rw[hkd];rfl
    have c2:(q.kind==2)=true:=by rw[hkd];rfl
    have c3:(q.kind==3)=false:=by rw[hkd];rfl
    have c4:(q.kind==4)=false:=by rw[hkd];rfl
    refine T8 ?_
    refine⟨Xa,S,⟨rfl,hS⟩,?_⟩
    refine T3 ?_
    refine⟨Xc,?_⟩
    refine T20 ?_
    exact V2
   ·skip
    have hrow:aS LL++[.agg [.str q.name,.str [118,97,108,117,101],.int .u64 0,.int .u64 0],.agg [.str q.name,.str [109,97,115,107],.int .u64 0,.int .u64 0]]=aS (cd S.fields keys ms (k+1)):=by
     exact V130
    have hln:(cd S.fields keys ms (k+1)).length=LL.length+2:=by rw[hkt];simp[eY,dX,hkd]
    have c1:(q.kind==1)=false:=by rw[hkd];rfl
    have c2:(q.kind==2)=false:=by rw[hkd];rfl
    have c3:(q.kind==3)=true:=by rw[hkd];rfl
    have c4:(q.kind==4)=false:=by rw[hkd];rfl
    refine T8 ?_
    refine⟨Xa,S,⟨rfl,hS⟩,?_⟩
    refine T3 ?_
    exact V2
   ·skip
    have hrow:aS LL++[.agg [.str q.name,.str [108,111,119],.int .u64 0,.int .u64 0],.agg [.str q.name,.str [104,105,103,104],.int .u64 ((fC (iw S.fields q.field)/2^64:Nat):Int),.int .u64 ((fC (iw S.fields q.field)%2^64:Nat):Int)]]=aS (cd S.fields keys ms (k+1)):=by
     exact V130
    have hln:(cd S.fields keys ms (k+1)).length=LL.length+2:=by rw[hkt];simp[eY,dX,hkd]
    have c1:(q.kind==1)=false:=by rw[hkd];rfl
    have c2:(q.kind==2)=false:=by rw[hkd];rfl
    have c3:(q.kind==3)=false:=by rw[hkd];rfl
    have c4:(q.kind==4)=true:=by rw[hkd];rfl
    refine T8 ?_
    refine⟨Xa,S,⟨rfl,hS⟩,?_⟩
    refine T3 ?_
    exact V2
   ·skip
    have hrow:cd S.fields keys ms (k+1)=LL:=by rw[hkt];simp[eY,dX,hq1,hq2,hq3,hq4]
    have c1:(q.kind==1)=false:=by simp[hq1]
    have c2:(q.kind==2)=false:=by simp[hq2]
    have c3:(q.kind==3)=false:=by simp[hq3]
    have c4:(q.kind==4)=false:=by simp[hq4]
    refine T8 ?_
    refine⟨Xa,S,⟨rfl,hS⟩,?_⟩
    exact V54
 ·have hk1:k=keys.length:=sHc
  subst hk1
  have hbl:=@jr S.fields keys ms keys.length
  simp only[go_sem,g2,ax g2,g3,Fd,aI,vv]
  refine⟨hpr,?_⟩
  have n6:(H.nx+1+1+1+1=Hc.nx)=False:=eFo
  have hsn:=iQ (l:=cd S.fields keys ms keys.length) (a:=[112,114,105,111,114,105,116,121]) (b:=[]) (v:=pr.toNat)
  have htb:pk S.fields keys ms pr=cd S.fields keys ms keys.length++[(([112,114,105,111,114,105,116,121],[]),pr.toNat)]:=rfl
  rw[htb]
  generalize cd S.fields keys ms keys.length=G at *
  exact V76
theorem Ps:ti Tryz.prog 91=some ⟨.struct [(0,3,false),(1,9,false),(2,89,false),(3,50,false),(4,3,false),(5,24,false),(6,3,false),(7,9,false)],8,128,.agg [.int .i64 0,.str [],.slice .nil 1 [],.slice .nil 1 [],.int .i64 0,.slice .nil 1 [],.int .i64 0,.str []]⟩:=krf
theorem Pk:ti Tryz.prog 107=some ⟨.struct [(0,3,false),(1,9,false),(2,104,false),(3,105,false),(4,9,false)],5,88,.agg [.int .i64 0,.str [],.slice .nil 1 [],.slice .nil 1 [],.str []]⟩:=krf
theorem Pp:ti Tryz.prog 26=some ⟨.struct [(0,3,false),(1,23,false),(2,3,false),(3,3,false),(4,24,false)],5,72,.agg [.int .i64 0,.slice .nil 1 [],.int .i64 0,.int .i64 0,.slice .nil 1 []]⟩:=krf
theorem O8:ti Tryz.prog 39=some ⟨.struct [(0,30,false),(1,31,false),(2,32,false),(3,33,false),(4,34,false),(5,35,false),(6,36,false),(7,37,false),(8,3,false),(9,3,false)],10,208,.agg [.slice .nil 1 [],.slice .nil 1 [],.slice .nil 1 [],.slice .nil 1 [],.slice .nil 1 [],.slice .nil 1 [],.slice .nil 1 [],.slice .nil 1 [],.int .i64 0,.int .i64 0]⟩:=krf
attribute [go_sem] Ps Pk Pp O8
end Go.AL
