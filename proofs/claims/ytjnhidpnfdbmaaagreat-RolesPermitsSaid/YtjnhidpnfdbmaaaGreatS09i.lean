/- Lemmas of the proof; no condition. -/
import Derived.Test.YtjnhidpnfdbmaaaGreatS09e
import Derived.Test.YtjnhidpnfdbmaaaGreatS10j
import Derived.Test.YtjnhidpnfdbmaaaGreatS07h
set_option linter.all false
set_option maxRecDepth 10000
set_option maxHeartbeats 32000000
open Go Go.AL Go.Proofs
namespace Go.AL
theorem Ih{l:List Tok}:∀ p t a q t',du l p t=.ok a q t'→AllN z9 t→AllN z9 t':=by
 intro p t a q t' h hg
 unfold du at h
 repeat' split at h
 all_goals first|(cases h;done)|(cases h;exact hg.snoc fun h2=>by first|(exact absurd (show(1:Nat)=2 from h2) Xc)|(exact absurd (show(3:Nat)=2 from h2) Xc)|exact nrq 1|exact Nat.zero_le 1)
theorem CL{l:List Tok}{r:PR}{f:Nat}(h:run l f .imp 0 []=some r):AllN z9 (fy l r).1:=by
 have h0:AllN z9 ([]:List Nd):=fun n hn=>by cases hn
 cases r with
 |bad p=>exact h0
 |ok a p t =>
  dsimp only[fy]
  split
  ·exact h0
  ·split
   ·exact h0
   ·exact BD (fun _ _ _ h=>fun h3=>by simp only[nd2]at h3;omega) Ih f h h0
theorem xg{kn:VN→Bool}{s:List UInt8}(h:(comp kn s).2=0):okC (comp kn s).1:=by
 obtain⟨h1,h2,h3,h4⟩:=N0 h
 refine⟨h3,h1,h2,?_,h4⟩
 unfold comp
 split
 ·intro n hn
  have:n=⟨2,0,0,[],[],1⟩:=by simpa[oneT]using hn
  subst this
  intro _
  decide
 ·obtain⟨f,hf⟩:=wA (cE s).1
  unfold Db
  repeat' split
  all_goals first|exact CL hf|(intro n hn;cases hn)
def jV(l:List Nat):List AV:=l.map fun v=>.agg [.int .u64 ((v/2^64:Nat):Int),.int .u64 ((v%2^64:Nat):Int)]
theorem kQ{l:List Nat}:(jV l).length=l.length:=by simp[jV]
theorem w9{l:List Nat}{k:Nat}(h:k<l.length):(jV l).getD k .junk=.agg [.int .u64 ((l[k]/2^64:Nat):Int),.int .u64 ((l[k]%2^64:Nat):Int)]:=by
 simp[jV,gEq,h]
theorem R0{P:Program}{f:FuncId}{p q:PCt}(h1:EntOk P f (Ent.pure p))(h2:EntOk P f (Ent.pure q)):EntOk P f (Ent.pure fun a H K=>p a H K∨q a H K) :=
 EntOk.pure fun a H K h=>h.elim (h1.1 rfl a H K) (h2.1 rfl a H K)
def Ef(x:AV)(sz:Nat)(l:List AV):Prop:=(∃ m,x=.slice m sz l)∨(x=.slice .nil 1 []∧l=[])
def wM:PCt
 |[.slice .nil 1 [],.func f [] [.ptr c 0]],_,K=>K (.int .i64 (-1))
 |_,_,_=>False
theorem L0:EPp 139 wM:=by
 refine Ype fun _ H K h=>?_
 unfold wM at h
 split at h<;>try exact h.elim
 rename_i f c
 refine⟨_,h,?_⟩
 clear h
 refine Yfv az tNq Tryz.func139 [.tmp 4] fun hcl hlt=>?_
 have hf:AV.lt H.nx (.func f [] [.ptr c 0]):=hlt _ Xb
 clear hlt
 refine T9 ?_
 refine aA (A:=Nat) (fun k=>[(0,.slice .nil 1 []),(1,.func f [] [.ptr c 0]),(7,.int .i64 0),(8,.int .i64 0)]) (fun _=>H) (fun k=>True) (fun k=>0) 0 trivial ?_ fun k hk=>?_
 ·refine⟨nrq _,lRq _,hcl,?_,?_⟩
  ·simp[ltF,znf,hf,zmn]
  ·exact V8
 have d0:decide ((0:Int)<0)=false:=rfl
 simp only[go_sem,d0]
 exact Z0
def Px:PCt:=fun a H K=>A6 a H K∨wM a H K
theorem Du:EPp 139 Px:=R0 Hi L0
def ot:PCt
 |[.agg [x,_,_,_,_,_,_,_,_,_],.int .i64 n],_,K=>∃ fs:List SField,(Ef x 3 (fs.map cD)∧fs.length≤1000000)∧K (.int .i64 (ixP (fun t:SField=>t.id==n) fs 0))
 |_,_,_=>False
theorem vO:EPp 107 ot:=by
 refine Ype fun _ H K h=>?_
 unfold ot at h
 split at h<;>try exact h.elim
 rename_i x b1 b2 b3 b4 b5 b6 b7 b8 b9 n
 obtain⟨fs,⟨hx,hl⟩,hK⟩:=h
 refine⟨_,hK,?_⟩
 clear hK
 rcases hx with⟨m,rfl⟩|⟨rfl,he⟩
 ·skip
  refine Yfu az (tCq Du tNq) Tryz.func107 [.tmp 4] fun hcl=>?_
  refine T9 ?_
  refine .inl ⟨fs,n,⟨rfl,Xk,hl⟩,?_⟩
  exact V33
 ·obtain rfl:fs=[]:=List.map_eq_nil_iff.1 he
  refine Yfu az (tCq Du tNq) Tryz.func107 [.tmp 4] fun hcl=>?_
  refine T9 ?_
  refine .inr ?_
  simp only[go_sem,wM,ixP]
  exact Z0
def Hk:PCt
 |[.agg [x,_,_,_,_,_,_,_,_,_],.int .i64 n],_,K=>∃ fs:List SField,(Ef x 3 (fs.map cD)∧fs.length≤1000000)∧K (.int .i64 (iw fs n))
 |_,_,_=>False
theorem K6:EPp 123 Hk:=by
 refine Ype fun _ H K h=>?_
 unfold Hk at h
 split at h<;>try exact h.elim
 rename_i x b1' b2' b3 b4 b5 b6 b7 b8 b9 fld
 obtain⟨fs,⟨hx,hl⟩,hK⟩:=h
 refine⟨_,hK,?_⟩
 clear hK
 rw[pF]
 obtain⟨b1,b2⟩:=oW (q:=fun f:SField=>f.id==fld) (l:=fs) (k:=0)
 rcases b2 with b2|b2
 ·rw[ll b2]
  refine Yfu az (tCq vO tNq) Tryz.func123 [.tmp 4] fun hcl=>?_
  simp only[go_sem,ot]
  refine T0 ?_
  refine⟨fs,⟨hx,hl⟩,?_⟩
  rw[b2]
  exact V70
 ·obtain⟨i,hi⟩:∃ i:Nat,ixP (fun f:SField=>f.id==fld) fs 0=((0+i:Nat):Int):=⟨(ixP (fun f:SField=>f.id==fld) fs 0).toNat,Xa⟩
  obtain⟨y,h1,h2,h3⟩:=lQ hi
  rw[h3]
  rw[nzq]at hi
  have hil:i<fs.length:=by
   rcases Nat.lt_or_ge i fs.length with h|h
   ·exact h
   ·rw[gNq h]at h1;cases h1
  have hg':=bf (f:=cD) (l:=fs) (k:=i) (x:=y) h1
  have d:decide ((i:Int)<0)=false:=Xb
  obtain⟨m,rfl⟩:∃ m,x=.slice m 3 (fs.map cD):=by
   rcases hx with h|⟨_,h⟩
   ·exact h
   ·rw[List.map_eq_nil_iff.1 h]at hil;exact absurd hil Xb
  refine Yfu az (tCq vO tNq) Tryz.func123 [.tmp 4] fun hcl=>?_
  simp only[go_sem,ot]
  refine T0 ?_
  refine⟨fs,⟨hx,hl⟩,?_⟩
  exact V138
def BI:PCt
 |[.int .i64 n],_,K=>n<9223372036854775808∧K (vv n.toNat)
 |_,_,_=>False
theorem Lm{n:Int}(h:n<9223372036854775808):vv n.toNat=.agg [.int .u64 0,.int .u64 (max 0 n)]:=by
 unfold vv
 have h1:n.toNat/2^64=0:=Xa
 have h2:((n.toNat%2^64:Nat):Int)=max 0 n:=Xa
 rw[h1,h2];rfl
theorem G3:EPp 124 BI:=by
 refine Ype fun _ H K h=>?_
 unfold BI at h
 split at h<;>try exact h.elim
 rename_i n
 obtain⟨h1,hK⟩:=h
 refine⟨_,hK,?_⟩
 clear hK
 rw[Lm h1]
 have e1:IntKind.u64.wrap (max 0 n)=max 0 n:=Xl
 refine Yfu az (tCq vw tNq) Tryz.func124 [.cell 2 29] fun hcl=>?_
 simp only[go_sem,vY,e1]
 exact Z0
def sA:List UInt8:=[112,114,101,102,105,120,95,108,101,110,103,116,104]
def mW:List UInt8:=[109,97,115,107]
def m8:List UInt8:=[104,105,103,104]
def jf(x:SMatch)(a:List UInt8)(w:Int):Nat :=
 if a=sA then x.pfx.toNat else if a=mW then x.mask else if a=m8 then(if x.present=true then x.high else fC w)else x.value
def CS:PCt
 |[.agg l,.str a,.int .i64 w],_,K=>∃ x,(l=bQ x∧x.pfx<9223372036854775808)∧K (vv (jf x a w))
 |_,_,_=>False
theorem Iy:EPp 122 CS:=by
 refine Ype fun _ H K h=>?_
 unfold CS at h
 split at h<;>try exact h.elim
 rename_i l a w
 obtain⟨x,⟨rfl,hp⟩,hK⟩:=h
 refine⟨_,hK,?_⟩
 clear hK
 refine Yfu az (tCq G3 (tCq fF tNq)) Tryz.func122 [.cell 6 29] fun hcl=>?_
 by_cases h1:a=sA
 ·have hw:jf x a w=x.pfx.toNat:=by unfold jf;rw[if_pos h1]
  rw[hw,h1]
  simp only[go_sem,bQ,vc,yal,yak,List.append_assoc,sA,beq_self_eq_true,BI,vv]
  refine⟨hp,?_⟩
  exact Z0
 have d1:(a==[112,114,101,102,105,120,95,108,101,110,103,116,104])=false:=beq_eq_false_iff_ne.2 h1
 by_cases h2:a=mW
 ·have d2:(a==[109,97,115,107])=true:=by rw[h2];rfl
  have hw:jf x a w=x.mask:=by unfold jf;rw[if_neg h1,if_pos h2]
  rw[hw]
  simp only[go_sem,bQ,vc,yal,yak,List.append_assoc,d1,d2,vv]
  exact Z0
 have d2:(a==[109,97,115,107])=false:=beq_eq_false_iff_ne.2 h2
 by_cases h3:a=m8
 ·have d3:(a==[104,105,103,104])=true:=by rw[h3];rfl
  cases hx:x.present
  ·have hw:jf x a w=fC w:=by unfold jf;rw[if_neg h1,if_neg h2,if_pos h3,hx,if_neg (by decide)]
   rw[hw]
   simp only[go_sem,bQ,vc,yal,yak,List.append_assoc,d1,d2,d3,hx,jQ,vv]
   exact Z0
  ·have hw:jf x a w=x.high:=by unfold jf;rw[if_neg h1,if_neg h2,if_pos h3,hx,if_pos rfl]
   rw[hw]
   simp only[go_sem,bQ,vc,yal,yak,List.append_assoc,d1,d2,d3,hx,vv]
   exact Z0
 have d3:(a==[104,105,103,104])=false:=beq_eq_false_iff_ne.2 h3
 have hw:jf x a w=x.value:=by unfold jf;rw[if_neg h1,if_neg h2,if_neg h3]
 rw[hw]
 simp only[go_sem,bQ,vc,yal,yak,List.append_assoc,d1,d2,d3,vv]
 exact Z0
def eY(fs:List SField)(q:SKey)(x:SMatch):List (VN × Nat):=(dX q.kind).map fun a=>((q.name,a),jf x a (iw fs q.field))
def tN(fs:List SField)(keys:List SKey)(ms:List SMatch)(k:Nat):List (VN × Nat):=match keys[k]? with
 |some q=>eY fs q (ms.getD k cC)
 |none=>[]
def cd(fs:List SField)(keys:List SKey)(ms:List SMatch):Nat→List (VN × Nat)
 |0=>[]
 |k+1=>cd fs keys ms k++tN fs keys ms k
def pk(fs:List SField)(keys:List SKey)(ms:List SMatch)(p:Int):List (VN × Nat):=cd fs keys ms keys.length++[(pn,p.toNat)]
theorem Ir{k:Int}:(dX k).length≤2:=by
 unfold dX
 repeat' split
 all_goals simp
theorem I3{fs:List SField}{keys:List SKey}{ms:List SMatch}{k:Nat}:(tN fs keys ms k).length≤2:=by
 unfold tN
 split
 ·unfold eY;rw[ybb];exact Ir
 ·simp
theorem jr{fs:List SField}{keys:List SKey}{ms:List SMatch}:∀{k:Nat},(cd fs keys ms k).length≤2*k
 |0=>nrq _
 |k+1=>by
  rw[cd,lAq]
  have:=@jr fs keys ms k
  have:=@I3 fs keys ms k
  omega
theorem iQ{l:List (VN × Nat)}{a b:List UInt8}{v:Nat}:aS l++[.agg [.str a,.str b,.int .u64 ((v/2^64:Nat):Int),.int .u64 ((v%2^64:Nat):Int)]]=aS (l++[((a,b),v)]):=by
 simp[aS,iX]
def A9:PCt
 |[.agg [x,b1,b2,b3,b4,b5,b6,b7,b8,b9],.agg [a1,a2,.slice _ 3 y,a3,a4,a5,a6,a7],.agg [.int .i64 n1,z,.int .i64 pr,.int .i64 n2,b]],_,K=>∃ (fs:List SField) (keys:List SKey) (ms:List SMatch),
   (Ef x 3 (fs.map cD)∧fs.length≤1000000∧y=keys.map bL∧keys.length≤1000∧Ef z 8 (ms.map aP)∧ms.length≤4611686018427387904∧(∀ m∈ms,m.pfx<9223372036854775808)∧pr<9223372036854775808) ∧
   K (.slice .any 4 (aS (pk fs keys ms pr)))
 |_,_,_=>False
theorem Lx:EPp 81 A9:=by
 refine Ype fun _ H K h=>?_
 unfold A9 at h
 split at h<;>try exact h.elim
 rename_i x b1 b2 b3 b4 b5 b6 b7 b8 b9 a1 a2 m y a3 a4 a5 a6 a7 n1 z pr n2 b
 obtain⟨fs,keys,ms,⟨hx,hfl,rfl,hkl,hz,hml,hmp,hpr⟩,hK⟩:=h
 refine⟨_,hK,?_⟩
 clear hK
 refine ACalls.fW az (tCq rD (tCq K6 (tCq Iy (tCq G3 tNq)))) Tryz.func81 [.tmp 6] (nrq _) (T:=ay [(12,[[],[],[],[],[],[],[],[],[],[],[],[8,10],[5,7,8,10,11],[],[2,4,5,7,8,10,11,12],[2,4,5,7,8,10,11,12]])]) (h:=fun hcl hlt=>?_)
 have hsc:=AV.lt_mono (Nat.le_succ H.nx) _ (hlt (.agg [x,b1,b2,b3,b4,b5,b6,b7,b8,b9]) Xb)
 have htc:=fun n' (hn:H.nx≤n')=>AV.lt_mono hn _ (hlt (.agg [a1,a2,.slice m 3 (keys.map bL),a3,a4,a5,a6,a7]) Xb)
 have hec:=fun n' (hn:H.nx≤n')=>AV.lt_mono hn _ (hlt (.agg [.int .i64 n1,z,.int .i64 pr,.int .i64 n2,b]) Xb)
 have hm:∀ n',H.nx≤n'→AV.lt n' (.slice m 3 (keys.map bL)):=fun n' hn=>by have h1:=htc n' hn;rw[znr]at h1;exact h1.2.2.1
 simp only[znr]at hsc htc hec
 clear hlt
 obtain⟨zm,zs,rfl,hzs⟩:∃ zm zs,z=.slice zm zs (ms.map aP)∧(zs=8∨ms=[]):=by
  rcases hz with⟨zm,rfl⟩|⟨rfl,h⟩
  ·exact⟨zm,8,rfl,.inl rfl⟩
  ·exact V100
 simp only[go_sem,bW]
 have hc0:(((((H.push (.cells [x,b1,b2,b3,b4,b5,b6,b7,b8,b9])).push (.cells [a1,a2,.slice m 3 (keys.map bL),a3,a4,a5,a6,a7])).push (.cells [.int .i64 n1,.slice zm zs (ms.map aP),.int .i64 pr,.int .i64 n2,b])).push (.buf 4 0)).push (.buf 4 0)).Closed :=
  ag (ag (aa (aa (aa hcl hsc) (htc _ (by simp only[go_sem];omega))) (hec _ (by simp only[go_sem];omega))))
 refine aA (A:=Nat × AHeap) (fun a=>[(3,.ptr H.nx 0),(5,.ptr (H.nx+1+1) 0),(7,.slice (.own (H.nx+1+1+1+1)) 4 (aS (cd fs keys ms a.1))),(15,.slice m 3 (keys.map bL)),(16,.int .i64 (keys.length:Int)),(17,.int .i64 (a.1:Int))]) (fun a=>a.2)
  (fun a=>a.1≤keys.length∧H.Le a.2∧a.2.Closed∧a.2.get H.nx=some (.cells [x,b1,b2,b3,b4,b5,b6,b7,b8,b9])∧a.2.get (H.nx+1+1)=some (.cells [.int .i64 n1,.slice zm zs (ms.map aP),.int .i64 pr,.int .i64 n2,b])∧a.2.get (H.nx+1+1+1+1)=some (.buf 4 (cd fs keys ms a.1).length)) (fun a=>keys.length-a.1)
  (0,(((((H.push (.cells [x,b1,b2,b3,b4,b5,b6,b7,b8,b9])).push (.cells [a1,a2,.slice m 3 (keys.map bL),a3,a4,a5,a6,a7])).push (.cells [.int .i64 n1,.slice zm zs (ms.map aP),.int .i64 pr,.int .i64 n2,b])).push (.buf 4 0)).push (.buf 4 0))) ⟨Nat.zero_le _,by repeat first|exact .refl _|refine .push ?_ _,hc0,Xk,Xk,Xn⟩ ?_ fun a ha=>?_
 ·exact V37
 obtain⟨k,Hc⟩:=a
 obtain⟨hk,hle,hcc,g1,g2,g3⟩:=ha
 dsimp only at hk hle hcc g1 g2 g3 ⊢
 have nx3:=glq g3
 refine T9 ?_
 refine aq (fun hc=>?_) (fun hc=>?_)
 ·have hk1:k<keys.length:=sHc
  have e5:=Yk5 k
  have n1':(H.nx+1+1=Hc.nx)=False:=eFo
  have n2':(H.nx+1+1=Hc.nx+1)=False:=eFo
  have n3':(H.nx=Hc.nx)=False:=eFo
  have n4':(H.nx=Hc.nx+1)=False:=eFo
  have n5':(H.nx+1=Hc.nx)=False:=eFo
  have hvl:=@vf keys[k].name keys[k].kind
  obtain⟨V,hV⟩:∃ V,fg keys[k].name keys[k].kind=V:=⟨_,rfl⟩
  rw[hV]at hvl
  have htv:nM [keys[k]]=V++[pn]:=by simp[nM,hV]
  have e7:IntKind.i64.wrap (((V.length+(0+1):Nat):Int)-1)=(V.length:Int):=Xe
  have hvt:(bC (V++[pn])).take V.length=bC V:=by rw[bC,List.map_append,List.take_left' (by rw[ybb])];rfl
  simp only[go_sem,bW,lm hk1,iNq,g2,ax g2,n1',n2',n5',ybb]
  by_cases hkm:k<ms.length
  ·have d1:decide ((k:Int)<(ms.length:Int))=true:=dtq Xa
   obtain rfl:zs=8:=by rcases hzs with h|h;exact h;rw[h]at hkm;exact absurd hkm (by simp)
   have hgm:=bf (f:=aP) (l:=ms) (k:=k) (x:=ms[k]) (gQq hkm)
   simp only[go_sem,g2,ax g2,n1',n2',n5',d1,hgm,aP,bQ,vc,yal,yak,List.append_assoc,iNq,ybb]
   have hkt:tN fs keys ms k=eY fs keys[k] ms[k]:=by
    unfold tN;rw[gQq hk1];simp only[gEq,gQq hkm,Option.getD_some]
   have hkb:(eY fs keys[k] ms[k]).length=V.length:=by rw[← hV];unfold eY fg;rw[ybb,ybb]
   refine⟨Xa,Xa,[keys[k]],⟨rfl,Xb⟩,?_⟩
   rw[htv]
   simp only[go_sem,bH,lAq,yaz,yba,e7,hvt]
   refine⟨Xa,?_⟩
   have hcq:(((Hc.push (.cells [.str keys[k].name,.int .i64 keys[k].field,.int .i64 keys[k].kind])).push (.cells [.bool ms[k].present,.int .u64 ((ms[k].value/2^64:Nat):Int),.int .u64 ((ms[k].value%2^64:Nat):Int),.int .u64 ((ms[k].mask/2^64:Nat):Int),.int .u64 ((ms[k].mask%2^64:Nat):Int),.int .i64 ms[k].pfx,.int .u64 ((ms[k].high/2^64:Nat):Int),.int .u64 ((ms[k].high%2^64:Nat):Int)])).push (.buf 3 1)).Closed:=ag (aa (aa hcc (by simp[znu,znv,znh,znf])) (by simp[znu,znv,zng,znf]))
   refine aA (A:=Nat × AHeap) (fun a=>[(3,.ptr H.nx 0),(5,.ptr (H.nx+1+1) 0),(7,.slice (.own (H.nx+1+1+1+1)) 4 (aS (cd fs keys ms k++(eY fs keys[k] ms[k]).take a.1))),(9,.ptr Hc.nx 0),(10,.ptr (Hc.nx+1) 0),(15,.slice m 3 (keys.map bL)),(16,.int .i64 (keys.length:Int)),(17,.int .i64 (k:Int)),(40,.slice .any 2 (bC V)),(41,.int .i64 (V.length:Int)),(42,.int .i64 (a.1:Int))]) (fun a=>a.2)
    (fun a=>a.1≤V.length∧H.Le a.2∧a.2.Closed∧a.2.get H.nx=some (.cells [x,b1,b2,b3,b4,b5,b6,b7,b8,b9])∧a.2.get (H.nx+1+1)=some (.cells [.int .i64 n1,.slice zm 8 (ms.map aP),.int .i64 pr,.int .i64 n2,b])∧a.2.get (H.nx+1+1+1+1)=some (.buf 4 (cd fs keys ms k++(eY fs keys[k] ms[k]).take a.1).length)∧a.2.get Hc.nx=some (.cells [.str keys[k].name,.int .i64 keys[k].field,.int .i64 keys[k].kind])∧a.2.get (Hc.nx+1)=some (.cells [.bool ms[k].present,.int .u64 ((ms[k].value/2^64:Nat):Int),.int .u64 ((ms[k].value%2^64:Nat):Int),.int .u64 ((ms[k].mask/2^64:Nat):Int),.int .u64 ((ms[k].mask%2^64:Nat):Int),.int .i64 ms[k].pfx,.int .u64 ((ms[k].high/2^64:Nat):Int),.int .u64 ((ms[k].high%2^64:Nat):Int)])) (fun a=>V.length-a.1)
    (0,((Hc.push (.cells [.str keys[k].name,.int .i64 keys[k].field,.int .i64 keys[k].kind])).push (.cells [.bool ms[k].present,.int .u64 ((ms[k].value/2^64:Nat):Int),.int .u64 ((ms[k].value%2^64:Nat):Int),.int .u64 ((ms[k].mask/2^64:Nat):Int),.int .u64 ((ms[k].mask%2^64:Nat):Int),.int .i64 ms[k].pfx,.int .u64 ((ms[k].high/2^64:Nat):Int),.int .u64 ((ms[k].high%2^64:Nat):Int)])).push (.buf 3 1)) ⟨Nat.zero_le _,((hle.push _).push _).push _,hcq,?_,?_,?_,Xk,Xk⟩ ?_ fun a ha=>?_
   ·exact V102
   ·exact V101
   ·exact V103
   ·exact V26
   obtain⟨j,Hd⟩:=a
   obtain⟨hj,hle2,hcd,q1,q2,q3,q4,q5⟩:=ha
   dsimp only at hj hle2 hcd q1 q2 q3 q4 q5 ⊢
   have p3:=glq q3
   have p4:=glq q4
   have p5:=glq q5
   refine T9 ?_
   refine aq (fun hc=>?_) (fun hc=>?_)
   ·have hj1:j<V.length:=sHc
    have e6:IntKind.i64.wrap ((j:Int)+1)=((j+1:Nat):Int):=Xe
    have hVj:=ki hj1
    have htk:(eY fs keys[k] ms[k]).take (j+1)=(eY fs keys[k] ms[k]).take j++[((V[j].1,V[j].2),jf ms[k] V[j].2 (iw fs keys[k].field))]:=by
     exact V151
    have r1:(H.nx=Hd.nx)=False:=eFo
    have r2:(Hc.nx=Hd.nx)=False:=eFo
    have r3:(Hc.nx+1=Hd.nx)=False:=eFo
    have r5:(H.nx+1+1+1=Hd.nx)=False:=eFo
    have r4:(H.nx+1+1+1+1=Hd.nx)=False:=eFo
    simp only[go_sem,bH,hVj,iNq,q1,ax q1,q4,ax q4,q5,ax q5,r1,r2,r3,r4,r5,e6]
    refine⟨Xa,fs,⟨hx,hfl⟩,?_⟩
    simp only[go_sem,q1,ax q1,q4,ax q4,q5,ax q5,r1,r2,r3,r4,r5,e6]
    refine⟨ms[k],⟨rfl,hmp _ (gMq hkm)⟩,?_⟩
    simp only[go_sem,q1,ax q1,q3,q4,ax q4,q5,ax q5,r1,r2,r3,r4,r5,e6,vv]
    obtain⟨LL,hLL⟩:∃ LL,cd fs keys ms k++(eY fs keys[k] ms[k]).take j=LL:=⟨_,rfl⟩
    have hll:LL.length≤2*k+2:=by
     exact V170
    have hln:cd fs keys ms k++(eY fs keys[k] ms[k]).take (j+1)=LL++[((V[j].1,V[j].2),jf ms[k] V[j].2 (iw fs keys[k].field))]:=by rw[htk,← List.append_assoc,hLL]
    rw[hLL]
    have hsn:=iQ (l:=LL) (a:=V[j].1) (b:=V[j].2) (v:=jf ms[k] V[j].2 (iw fs keys[k].field))
    exact V27
   ·exact V18
  ·have d1:decide ((k:Int)<(ms.length:Int))=false:=dfq Xa
   simp only[go_sem,d1]
   have hkt:tN fs keys ms k=eY fs keys[k] cC:=by
    unfold tN;rw[gQq hk1];simp only[gEq,gNq (show ms.length≤k by omega),Option.getD_none]
   have hkb:(eY fs keys[k] cC).length=V.length:=by rw[← hV];unfold eY fg;rw[ybb,ybb]
   refine⟨Xa,[keys[k]],⟨rfl,Xb⟩,?_⟩
   rw[htv]
   simp only[go_sem,bH,lAq,yaz,yba,e7,hvt]
   refine⟨Xa,?_⟩
   have hcq:(((Hc.push (.cells [.str keys[k].name,.int .i64 keys[k].field,.int .i64 keys[k].kind])).push (.cells [.bool false,.int .u64 0,.int .u64 0,.int .u64 0,.int .u64 0,.int .i64 0,.int .u64 0,.int .u64 0])).push (.buf 3 1)).Closed:=ag (aa (aa hcc (by simp[znu,znv,znh,znf])) (by simp[znu,znv,zng,znf]))
   refine aA (A:=Nat × AHeap) (fun a=>[(3,.ptr H.nx 0),(5,.ptr (H.nx+1+1) 0),(7,.slice (.own (H.nx+1+1+1+1)) 4 (aS (cd fs keys ms k++(eY fs keys[k] cC).take a.1))),(9,.ptr Hc.nx 0),(10,.ptr (Hc.nx+1) 0),(15,.slice m 3 (keys.map bL)),(16,.int .i64 (keys.length:Int)),(17,.int .i64 (k:Int)),(40,.slice .any 2 (bC V)),(41,.int .i64 (V.length:Int)),(42,.int .i64 (a.1:Int))]) (fun a=>a.2)
    (fun a=>a.1≤V.length∧H.Le a.2∧a.2.Closed∧a.2.get H.nx=some (.cells [x,b1,b2,b3,b4,b5,b6,b7,b8,b9])∧a.2.get (H.nx+1+1)=some (.cells [.int .i64 n1,.slice zm zs (ms.map aP),.int .i64 pr,.int .i64 n2,b])∧a.2.get (H.nx+1+1+1+1)=some (.buf 4 (cd fs keys ms k++(eY fs keys[k] cC).take a.1).length)∧a.2.get Hc.nx=some (.cells [.str keys[k].name,.int .i64 keys[k].field,.int .i64 keys[k].kind])∧a.2.get (Hc.nx+1)=some (.cells [.bool false,.int .u64 0,.int .u64 0,.int .u64 0,.int .u64 0,.int .i64 0,.int .u64 0,.int .u64 0])) (fun a=>V.length-a.1)
    (0,((Hc.push (.cells [.str keys[k].name,.int .i64 keys[k].field,.int .i64 keys[k].kind])).push (.cells [.bool false,.int .u64 0,.int .u64 0,.int .u64 0,.int .u64 0,.int .i64 0,.int .u64 0,.int .u64 0])).push (.buf 3 1)) ⟨Nat.zero_le _,((hle.push _).push _).push _,hcq,?_,?_,?_,Xk,Xk⟩ ?_ fun a ha=>?_
   ·exact V102
   ·exact V101
   ·exact V103
   ·exact V26
   obtain⟨j,Hd⟩:=a
   obtain⟨hj,hle2,hcd,q1,q2,q3,q4,q5⟩:=ha
   dsimp only at hj hle2 hcd q1 q2 q3 q4 q5 ⊢
   have p3:=glq q3
   have p4:=glq q4
   have p5:=glq q5
   refine T9 ?_
   refine aq (fun hc=>?_) (fun hc=>?_)
   ·have hj1:j<V.length:=sHc
    have e6:IntKind.i64.wrap ((j:Int)+1)=((j+1:Nat):Int):=Xe
    have hVj:=ki hj1
    have htk:(eY fs keys[k] cC).take (j+1)=(eY fs keys[k] cC).take j++[((V[j].1,V[j].2),jf cC V[j].2 (iw fs keys[k].field))]:=by
     exact V151
    have r1:(H.nx=Hd.nx)=False:=eFo
    have r2:(Hc.nx=Hd.nx)=False:=eFo
    have r3:(Hc.nx+1=Hd.nx)=False:=eFo
    have r5:(H.nx+1+1+1=Hd.nx)=False:=eFo
    have r4:(H.nx+1+1+1+1=Hd.nx)=False:=eFo
    simp only[go_sem,bH,hVj,iNq,q1,ax q1,q4,ax q4,q5,ax q5,r1,r2,r3,r4,r5,e6]
    refine⟨Xa,fs,⟨hx,hfl⟩,?_⟩
    simp only[go_sem,q1,ax q1,q4,ax q4,q5,ax q5,r1,r2,r3,r4,r5,e6]
    refine⟨cC,⟨rfl,Xc⟩,?_⟩
    simp only[go_sem,q1,ax q1,q3,q4,ax q4,q5,ax q5,r1,r2,r3,r4,r5,e6,vv]
    obtain⟨LL,hLL⟩:∃ LL,cd fs keys ms k++(eY fs keys[k] cC).take j=LL:=⟨_,rfl⟩
    have hll:LL.length≤2*k+2:=by
     exact V170
    have hln:cd fs keys ms k++(eY fs keys[k] cC).take (j+1)=LL++[((V[j].1,V[j].2),jf cC V[j].2 (iw fs keys[k].field))]:=by rw[htk,← List.append_assoc,hLL]
    rw[hLL]
    have hsn:=iQ (l:=LL) (a:=V[j].1) (b:=V[j].2) (v:=jf cC V[j].2 (iw fs keys[k].field))
    exact V27
   ·exact V18
 ·have hk1:k=keys.length:=sHc
  subst hk1
  have hbl:=@jr fs keys ms keys.length
  simp only[go_sem,g2,ax g2,g3,BI,aI,vv]
  refine⟨hpr,?_⟩
  have n6:(H.nx+1+1+1+1=Hc.nx)=False:=eFo
  have hsn:=iQ (l:=cd fs keys ms keys.length) (a:=[112,114,105,111,114,105,116,121]) (b:=[]) (v:=pr.toNat)
  have htb:pk fs keys ms pr=cd fs keys ms keys.length++[(([112,114,105,111,114,105,116,121],[]),pr.toNat)]:=rfl
  rw[htb]
  generalize cd fs keys ms keys.length=G at *
  exact V76
end Go.AL
