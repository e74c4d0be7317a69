/- Lemmas of the proof; no condition. -/
import Derived.Test.YtjnhidpnfdbmaaaGreatS07p
import Derived.Test.YtjnhidpnfdbmaaaGreatLTyp
import Derived.Test.YtjnhidpnfdbmaaaGreatAlMap
import Derived.Test.YtjnhidpnfdbmaaaGreatS07w
import Derived.Test.YtjnhidpnfdbmaaaGreatS10e
set_option linter.all false
set_option maxRecDepth 10000
set_option maxHeartbeats 32000000
open Go Go.AL Go.Proofs
namespace Go.AL
theorem Py:ti Tryz.prog 228=some ⟨.struct [(0,3,false),(1,3,false)],2,16,.agg [.int .i64 0,.int .i64 0]⟩:=krf
theorem Ni:tSl Tryz.prog 261 228:=kSl
theorem Gf:ti Tryz.prog 186=some ⟨.struct [(0,9,false),(1,9,false)],2,32,.agg [.str [],.str []]⟩:=krf
theorem Lb:tSl Tryz.prog 142 186:=kSl
theorem LT:tSl Tryz.prog 153 208:=kSl
theorem G6:ti Tryz.prog 208=some ⟨.struct [(0,9,false),(1,9,false)],2,32,.agg [.str [],.str []]⟩:=krf
attribute [go_sem] Py Ni Gf Lb LT G6
def rulesL:List AV:=(List.range 16).map fun i=>.agg [.int .i64 (CC (i+1):Int),.int .i64 (pE (i+1):Int)]
theorem Jv:rulesL=[.agg [.int .i64 0,.int .i64 1],.agg [.int .i64 0,.int .i64 2],.agg [.int .i64 0,.int .i64 1],.agg [.int .i64 1,.int .i64 1],.agg [.int .i64 2,.int .i64 2],.agg [.int .i64 1,.int .i64 1],.agg [.int .i64 1,.int .i64 1],.agg [.int .i64 0,.int .i64 2],
 .agg [.int .i64 0,.int .i64 2],.agg [.int .i64 1,.int .i64 2],.agg [.int .i64 1,.int .i64 2],.agg [.int .i64 1,.int .i64 2],.agg [.int .i64 1,.int .i64 2],.agg [.int .i64 2,.int .i64 2],.agg [.int .i64 2,.int .i64 2],.agg [.int .i64 2,.int .i64 2]]:=by rfl
theorem Ex{k:Nat}(h:k<16):rulesL.getD k .junk=.agg [.int .i64 (CC (k+1):Int),.int .i64 (pE (k+1):Int)]:=by
 simp[rulesL,gEq,h]
theorem Fm:rulesL.length=16:=by simp[rulesL]
def xE:PCt
 |[],_,K=>K (.slice .any 2 rulesL)
 |_,_,_=>False
theorem JH:EPp 178 xE:=by
 refine Ype fun _ H K h=>?_
 unfold xE at h
 split at h<;>try exact h.elim
 refine⟨_,h,?_⟩
 clear h
 rw[Jv]
 refine Yfu az tNq Tryz.func178 [.tmp 0] fun hcl=>?_
 refine T9 ?_
 simp (disch:=first|exact Zd|omega) [↓zmo,beq,ybc,ybd,ybe,af,wk,wk2,wk1,wkM,wkL,aj,ybf,hcl,aN,znr,znu,znv,znf]
def lU:PCt
 |[.int .i64 n],_,K=>∃ op:Nat,(n=(op:Int)∧1≤op∧op≤16)∧K (.agg [.int .i64 (CC op:Int),.int .i64 (pE op:Int)])
 |_,_,_=>False
theorem yA:EPp 151 lU:=by
 refine Ype fun _ H K h=>?_
 unfold lU at h
 split at h<;>try exact h.elim
 obtain⟨op,⟨rfl,h1,h2⟩,hK⟩:=h
 refine⟨_,hK,?_⟩
 clear hK
 refine Yfu az (tCq JH tNq) Tryz.func151 [.cell 2 228] fun hcl=>?_
 have d1:decide ((op:Int)<1)=false:=Xd
 have d2:decide ((op:Int)>16)=false:=Xd
 have e1:IntKind.i64.wrap ((op:Int)-1)=((op-1:Nat):Int):=Xe
 have e2:rulesL.getD (op-1) .junk=.agg [.int .i64 (CC op:Int),.int .i64 (pE op:Int)]:=by rw[Ex (by omega),show op-1+1=op by omega]
 simp only[go_sem,d1,d2,e1,xE,Fm,iNq,e2]
 refine⟨Xa,?_⟩
 simp (disch:=first|exact Zd|omega) [↓zmo,beq,ybc,ybd,ybe,af,wk,wk2,wk1,wkM,wkL,aj,ybf,hcl,znr,znu,znv,znf]
def p7:PCt
 |[x],_,K=>∃ n,(x=lM n∧1≤n.op∧n.op≤16)∧K (.slice .any 1 (its (yT n)))
 |_,_,_=>False
theorem BM:EPp 177 p7:=by
 refine Ype fun _ H K h=>?_
 unfold p7 at h
 split at h<;>try exact h.elim
 obtain⟨n,⟨rfl,h1,h2⟩,hK⟩:=h
 refine⟨_,hK,?_⟩
 clear hK
 unfold yT
 by_cases h3:n.op≤3
 ·rw[if_pos h3]
  refine Yfu az tNq Tryz.func177 [.tmp 2] fun hcl=>?_
  rcases(Xa:(n.op:Int)=1∨(n.op:Int)=2∨(n.op:Int)=3)with h|h|h <;>
  ·simp only[go_sem,lM,h,Int.reduceBEq]
   exact Z39
 rw[if_neg h3]
 by_cases h4:n.op=4∨n.op=5
 ·rw[if_pos h4]
  refine Yfu az tNq Tryz.func177 [.tmp 2] fun hcl=>?_
  rcases(Xa:(n.op:Int)=4∨(n.op:Int)=5)with h|h <;>
  ·simp only[go_sem,lM,h,Int.reduceBEq]
   exact Z39
 ·rw[if_neg h4]
  have d1:((n.op:Int)==1)=false:=beq_eq_false_iff_ne.2 Xa
  have d2:((n.op:Int)==2)=false:=beq_eq_false_iff_ne.2 Xa
  have d3:((n.op:Int)==3)=false:=beq_eq_false_iff_ne.2 Xa
  have d4:((n.op:Int)==4)=false:=beq_eq_false_iff_ne.2 Xa
  have d5:((n.op:Int)==5)=false:=beq_eq_false_iff_ne.2 Xa
  refine Yfu az tNq Tryz.func177 [.tmp 2] fun hcl=>?_
  simp only[go_sem,lM,d1,d2,d3,d4,d5]
  exact Z39
def yI(t:List Nd)(k:Nat):Bool:=match t[k]? with
 |some n=>jK t n
 |none=>true
theorem zN{t:List Nd}{k:Nat}(h:k<t.length):yI t k=jK t t[k]:=by
 unfold yI;rw[gQq h]
theorem ji{t:List Nd}(hg:Good t){k:Nat}(h:k<t.length):1≤t[k].op∧t[k].op≤16∧t[k].v<2^128∧(t[k].op≤3∨(t[k].a<k∧t[k].b<k)):=hg k t[k] (gQq h)
theorem OP{t:List Nd}(hg:Good t){k:Nat}(h:k<t.length){j:Nat}(hj:j<(yT t[k]).length):(yT t[k]).getD j 0<k:=by
 obtain⟨h1,h2,h3,h4⟩:=ji hg h
 generalize t[k]=n at *
 unfold yT at *
 by_cases h5:n.op≤3
 ·rw[if_pos h5]at hj;exact absurd hj (Nat.not_lt_zero _)
 ·have h4':n.a<k∧n.b<k:=Xa
  rw[if_neg h5]at hj ⊢
  split at hj
  ·rename_i h6
   rw[if_pos h6]
   have:j=0:=by simpa using hj
   subst this;exact h4'.1
  ·rename_i h6
   rw[if_neg h6]
   rcases(by simp at hj;omega:j=0∨j=1)with rfl|rfl
   ·exact h4'.1
   ·exact h4'.2
theorem Kl{n:Nd}:(yT n).length≤2:=by
 unfold yT
 split
 ·exact Nat.zero_le _
 ·split<;>simp
def lN:PCt
 |[.slice _ 7 x,.int .i64 i],_,K=>∃ t k,(x=nds t∧i=((k:Nat):Int)∧k<t.length∧Good t∧t.length≤1000)∧K (.bool (yI t k))
 |_,_,_=>False
theorem M5:EPp 150 lN:=by
 refine Ype fun _ H K h=>?_
 unfold lN at h
 split at h<;>try exact h.elim
 rename_i m x i
 obtain⟨t,k,⟨rfl,rfl,hk,hg,hl⟩,hK⟩:=h
 refine⟨_,hK,?_⟩
 clear hK
 obtain⟨g1,g2,g3,g4⟩:=ji hg hk
 have hQ:BU t (CC t[k].op) (yT t[k])=yI t k:=by
  rw[zN hk]
  refine Ns ⟨g1,g2⟩ ?_
  rcases g4 with h|h
  ·exact .inl h
  ·exact .inr Xa
 generalize yI t k=Q at *
 refine Yfv az (tCq yA (tCq BM tNq)) Tryz.func150 [.tmp 4] fun hcl hlt=>?_
 have hm:∀ n',H.nx≤n'→AV.lt n' (.slice m 7 (nds t)):=fun n' hn=>AV.lt_mono hn _ (hlt (.slice m 7 (nds t)) Xb)
 clear hlt
 simp only[go_sem,aO,dm hk,iNq,lU,p7]
 refine⟨Xa,t[k].op,⟨rfl,g1,g2⟩,t[k],⟨rfl,g1,g2⟩,?_⟩
 simp only[go_sem,iM]
 have hol:=@Kl t[k]
 have hon:=@OP t hg k hk
 generalize yT t[k]=d at *
 refine aA (A:=Nat × Nat) (fun a=>[(0,.slice m 7 (nds t)),(1,.int .i64 (k:Int)),(6,.int .i64 (a.2:Int)),(19,.slice .any 1 (its d)),(20,.int .i64 (d.length:Int)),(21,.int .i64 (a.1:Int))]) (fun a=>H)
  (fun a=>a.1≤d.length∧BU t a.2 (d.drop a.1)=Q) (fun a=>d.length-a.1) (0,CC t[k].op) ⟨Xa,hQ⟩ ?_ fun a ha=>?_
 ·exact Z38
 obtain⟨j,w⟩:=a
 obtain⟨hj,hq⟩:=ha
 dsimp only at hj hq ⊢
 refine T9 ?_
 refine aq (fun hc=>?_) (fun hc=>?_)
 ·have hj1:j<d.length:=sHc
  have e5:IntKind.i64.wrap ((j:Int)+1)=((j+1:Nat):Int):=Xe
  have ha:=hon hj1
  have hdr:d.drop j=d.getD j 0::d.drop (j+1):=by rw[dcq hj1];simp[gEq,hj1]
  rw[hdr]at hq
  simp only[BU]at hq
  have hget:=@BN d j hj1
  generalize d.getD j 0=b at *
  have hb:b<t.length:=Xa
  obtain⟨q1,q2,q3,q4⟩:=ji hg hb
  rw[Bl hb]at hq
  have d1:decide ((b:Int)<0)=false:=Xb
  have d2:decide ((b:Int) ≥ (k:Int))=false:=Xd
  simp only[go_sem,iM,iNq,hget,d1,d2,aO,dm hb,lU]
  refine⟨Xa,Xa,t[b].op,⟨rfl,q1,q2⟩,?_⟩
  generalize pE t[b].op=r at *
  by_cases hw:w=0
  ·subst hw
   have c1:(((0:Nat):Int)==0)=true:=rfl
   rw[if_pos (by rw[if_pos rfl]),if_pos rfl]at hq
   simp only[go_sem,c1,bne_self_eq_false,e5]
   exact V163
  ·have c1:((w:Int)==0)=false:=Xd
   rw[if_neg hw]at hq
   by_cases hr:r=w
   ·subst hr
    rw[if_pos rfl]at hq
    simp only[go_sem,c1,bne_self_eq_false,e5]
    exact V163
   ·have c2:((r:Int) !=(w:Int))=true:=Xd
    rw[if_neg hr]at hq
    subst hq
    simp only[go_sem,c1,c2]
    exact Z0
 ·have hj1:j=d.length:=sHc
  subst hj1
  rw[List.drop_length]at hq
  subst hq
  simp only[go_sem,BU]
  exact Z0
theorem Nt:ti Tryz.prog 225=some ⟨.map 186 4,1,8,.nilm⟩:=krf
attribute [go_sem] Nt
def okT(t:List Nd):Prop:=Good t∧AllN xS t∧t.length≤1000
def DF(vs:List VN):Prop:=vs.length≤1000∧∀ v∈vs,v.1.length≤1000∧v.2.length≤1000
theorem qD:Maps.Keyed Tryz.prog 186:=Maps.Keyed.of_law (deep_law (m:=3) Xc Xh Xh Xh)
theorem lR{v:VN}(h1:v.1.length≤1000)(h2:v.2.length≤1000):iU Tryz.prog 186 (.agg [.str v.1,.str v.2]) :=
 JL (n:=Tryz.prog.types.size-1) (by rw[Gf];rfl) (by rw[rV];rfl) Xh Xh Xh Xh h1 h2
theorem Aq{vs:List VN}(h:∀ v∈vs,v.1.length≤1000∧v.2.length≤1000)(k:Nat):∀ p∈rT (vs.take k),iU Tryz.prog 186 p.1:=by
 intro p hp
 obtain⟨v,hv,rfl⟩:=ML hp
 obtain⟨h1,h2⟩:=h v (List.mem_of_mem_take hv)
 exact lR h1 h2
def yS:PCt
 |[.slice _ 7 x,.slice _ 2 y],_,K=>∃ t vs,(x=nds t∧y=bC vs∧okT t∧DF vs)∧K (.tup [.int .i64 ((chk (bX vs) t).1:Int),.int .i64 ((chk (bX vs) t).2:Int)])
 |_,_,_=>False
theorem Hq:EPp 116 yS:=by
 refine Ype fun _ H K h=>?_
 unfold yS at h
 split at h<;>try exact h.elim
 rename_i m x m2 y
 obtain⟨t,vs,⟨rfl,rfl,⟨hg,hsh,hl⟩,hvl,hvs⟩,hK⟩:=h
 refine⟨_,hK,?_⟩
 clear hK
 refine Yfv az (tCq M5 (tCq yA tNq)) Tryz.func116 [.tmp 4,.tmp 5] fun hcl hlt=>?_
 have hm:∀ n',H.nx≤n'→AV.lt n' (.slice m 7 (nds t)):=fun n' hn=>AV.lt_mono hn _ (hlt (.slice m 7 (nds t)) Xb)
 have hm2:∀ n',H.nx≤n'→AV.lt n' (.slice m2 2 (bC vs)):=fun n' hn=>AV.lt_mono hn _ (hlt (.slice m2 2 (bC vs)) Xb)
 clear hlt
 simp only[go_sem,ziw,bH,aO]
 refine aA (A:=Nat × AHeap) (fun a=>[(0,.slice m 7 (nds t)),(6,.mapv H.nx),(13,.slice m2 2 (bC vs)),(14,.int .i64 (vs.length:Int)),(15,.int .i64 (a.1:Int))]) (fun a=>a.2)
  (fun a=>a.1≤vs.length∧H.Le a.2∧a.2.Closed∧a.2.get H.nx=some (.mapo (rT (vs.take a.1)))) (fun a=>vs.length-a.1) (0,H.push (.mapo [])) ⟨Nat.zero_le _,(lRq _).push _,xC hcl,AHeap.get_push_new _ _⟩ ?_ fun a ha=>?_
 ·(simp only[bkq,enterW,aJ,ltF,ne_eq,Nat.reduceEqDiff,reduceCtorEq,hm,hm2];try simp (disch:=first|exact Zd|omega) [↓zmo,beq,ybc,ybd,ybe,af,wk,wk2,wk1,wkM,wkL,aj,ybf,byq,biq,ah,hcl,hm,hm2];try(repeat' (first|assumption|omega|exact True.intro|refine And.intro ?_ ?_|refine ag ?_|refine ae ?_|refine aa ?_ ?_|refine ai ?_ ?_|refine au ?_|exact lRq _|refine lPq ?_ _|refine AHeap.Le.del ?_ ?_|(simp only[bt,and_true,true_and,hm,hm2];first|done|omega|(simp;done)))))
  exact xC hcl
 obtain⟨k,Hc⟩:=a
 obtain⟨hk,hle,hcc,hid⟩:=ha
 dsimp only at hk hle hcc hid ⊢
 have hnx:H.nx<Hc.nx:=glq hid
 have hne:(H.nx=Hc.nx)=False:=eFo
 refine T9 ?_
 refine aq (fun hc=>?_) (fun hc=>?_)
 ·have hk1:k<vs.length:=sHc
  have e5:=Yk5 k
  obtain⟨v1,v2⟩:=hvs vs[k] (gMq hk1)
  simp only[go_sem,bH,ki hk1,iNq,ziy,hne,hid,e5]
  refine⟨Xa,⟨qD,Aq hvs k,lR v1 v2,rfl,rfl⟩,(k+1,Hc.set H.nx (.mapo (rT (vs.take (k+1))))),⟨Xf,bF hle (nrq _),pO hcc,?_⟩,Xf,?_⟩
  ·dsimp only
   rw[aC,if_pos rfl,if_pos hnx]
  ·rw[HO hk1]
   have hcs:=@pO Hc H.nx ((gD vs[k],.bool true)::rT (vs.take k)) hcc
   simp only[gD]at hcs ⊢
   (simp only[bkq,enterW,aJ,ltF,ne_eq,Nat.reduceEqDiff,reduceCtorEq,hm,hm2,hcs];try simp (disch:=first|exact Zd|omega) [↓zmo,beq,ybc,ybd,ybe,af,wk,wk2,wk1,wkM,wkL,aj,ybf,byq,biq,ah,hcl,hm,hm2,hcs];try(repeat' (first|assumption|omega|exact True.intro|refine And.intro ?_ ?_|refine ag ?_|refine ae ?_|refine aa ?_ ?_|refine ai ?_ ?_|refine au ?_|exact lRq _|refine lPq ?_ _|refine AHeap.Le.del ?_ ?_|(simp only[bt,and_true,true_and,hm,hm2,hcs];first|done|omega|(simp;done)))))
 ·have hk1:k=vs.length:=sHc
  subst hk1
  rw[List.take_length]at hid
  have hvg:∀ p∈rT vs,iU Tryz.prog 186 p.1:=by
   have:=Aq hvs vs.length
   rwa[List.take_length]at this
  have hle2:H.nx≤Hc.nx:=hle.nx
  simp only[go_sem,aO]
  unfold chk
  obtain⟨Q,hQ⟩:∃ Q,jq (bX vs) t t.length 0=Q:=⟨_,rfl⟩
  rw[hQ]
  refine aA (A:=Nat) (fun k=>[(0,.slice m 7 (nds t)),(6,.mapv H.nx),(22,.slice m 7 (nds t)),(23,.int .i64 (t.length:Int)),(24,.int .i64 (k:Int))]) (fun _=>Hc)
   (fun k=>k≤t.length∧jq (bX vs) t (t.length-k) k=Q) (fun k=>t.length-k) 0 ⟨Nat.zero_le _,hQ⟩ ?_ fun k ha=>?_
  ·exact Z40
  obtain⟨hk,hq⟩:=ha
  refine T9 ?_
  refine aq (fun hc=>?_) (fun hc=>?_)
  ·have hk1:k<t.length:=sHc
   have e5:=Yk5 k
   rw[v7 hk1,vo hk1]at hq
   have hf:=zN hk1
   obtain⟨s1,s2,s3⟩:=hsh t[k] (gMq hk1)
   have hmg:li (rT vs) (.agg [.str t[k].name,.str t[k].attr])=if bX vs (t[k].name,t[k].attr)then some (.bool true)else none:=Ik (x:=(t[k].name,t[k].attr))
   by_cases h3:t[k].op=3
   ·have d3:((t[k].op:Int)==3)=true:=by simp[h3]
    cases hkn:bX vs (t[k].name,t[k].attr)
    ·rw[hkn,if_neg Bool.false_ne_true]at hmg
     have hz:ka (bX vs) t t[k]=6:=by unfold ka;rw[if_pos ⟨h3,hkn⟩]
     rw[hz,if_neg (Xc)]at hq
     subst hq
     refine T44 ?_
     refine⟨Xa,⟨qD,hvg,lR (v:=(t[k].name,t[k].attr)) s1 s2,rfl⟩,?_⟩
     exact Z41
    ·rw[hkn,if_pos rfl]at hmg
     have hx:¬ (t[k].op=3∧bX vs (t[k].name,t[k].attr)=false):=fun h=>by rw[hkn]at h;cases h.2
     refine T44 ?_
     refine⟨Xa,⟨qD,hvg,lR (v:=(t[k].name,t[k].attr)) s1 s2,rfl⟩,?_⟩
     exact V31
   ·have d3:((t[k].op:Int)==3)=false:=beq_eq_false_iff_ne.2 Xa
    have hx:¬ (t[k].op=3∧bX vs (t[k].name,t[k].attr)=false):=fun h=>h3 h.1
    refine T44 ?_
    refine⟨Xa,?_⟩
    exact V31
  ·have hk1:k=t.length:=sHc
   subst hk1
   rw[Nat.sub_self]at hq
   have hq':none=Q:=hq
   subst hq'
   by_cases ht0:t.length=0
   ·have d1:decide (IntKind.i64.wrap ((t.length:Int)-1)<0)=true:=by rw[ht0];rfl
    rw[if_pos ht0]
    simp only[go_sem,aO,d1]
    exact Z41
   ·have e6:IntKind.i64.wrap ((t.length:Int)-1)=((t.length-1:Nat):Int):=Xe
    have d1:decide (((t.length-1:Nat):Int)<0)=false:=Xb
    have hk2:t.length-1<t.length:=Xa
    obtain⟨g1,g2,_⟩:=ji hg hk2
    rw[if_neg ht0]
    have hna:=BX hk2
    rw[Bl hk2]at hna
    rw[hna]
    rcases sG t[t.length-1].op with hr|hr
    ·have d2:((pE t[t.length-1].op:Int) !=2)=true:=by rw[hr];rfl
     rw[hr,if_pos (show((1:Nat)==1)=true from rfl)]
     exact V105
    ·have d2:((pE t[t.length-1].op:Int) !=2)=false:=by rw[hr];rfl
     rw[hr,if_neg (show ¬ ((2:Nat)==1)=true by decide)]
     exact V105
def qK:PCt
 |[x],_,K=>∃ n,(x=lM n∧1≤n.op∧n.op≤16)∧K (.bool (mj n.op))
 |_,_,_=>False
theorem xj:EPp 190 qK:=by
 refine Ype fun _ H K h=>?_
 unfold qK at h
 split at h<;>try exact h.elim
 obtain⟨n,⟨rfl,h1,h2⟩,hK⟩:=h
 refine⟨_,hK,?_⟩
 clear hK
 cases hn:mj n.op
 ·have hx:¬ (n.op=1∨n.op=3∨n.op=4∨n.op=6∨n.op=7):=fun h=>by rw[isNum_cases.2 h]at hn;cases hn
  have d1:((n.op:Int)==1)=false:=beq_eq_false_iff_ne.2 Xa
  have d3:((n.op:Int)==3)=false:=beq_eq_false_iff_ne.2 Xa
  have d4:((n.op:Int)==4)=false:=beq_eq_false_iff_ne.2 Xa
  have d6:((n.op:Int)==6)=false:=beq_eq_false_iff_ne.2 Xa
  have d7:((n.op:Int)==7)=false:=beq_eq_false_iff_ne.2 Xa
  refine Yfu az tNq Tryz.func190 [.tmp 2] fun hcl=>?_
  simp only[go_sem,lM,d1,d3,d4,d6,d7]
  exact Z0
 ·skip
  refine Yfv az tNq Tryz.func190 [.tmp 2] fun hcl hlt=>?_
  exact V87
theorem bqs:((false==false)=true)∧((true==true)=true)∧((false==true)=false)∧((true==false)=false):=Xc
theorem El{v x:VN}{l:List VN}:bX (v::l) x=(decide (v=x)||bX l x):=by
 unfold bX
 rw[List.contains_cons]
 congr 1
 rw[Bool.eq_iff_iff];simp;exact⟨fun h=>h.symm,fun h=>h.symm⟩
theorem Kw:Tryz.prog.eqGuardType Tryz.prog.depth 208=false:=krf
theorem K7{a b c d:List UInt8}:teq Tryz.prog 9 208 (.agg [.str a,.str b]) (.agg [.str c,.str d])=some (decide ((a,b)=((c,d):VN))):=by
 have g1:Tryz.prog.stoodInHeld 208=false:=krf
 simp[G6,teq,teq.go,teq.part,rV,ceq,g1,TD.agg]
 rw[Bool.eq_iff_iff];simp
def B9:PCt
 |[.slice _ 7 x,y,.slice _ 2 z],_,K=>∃ t k vs,(x=nds t∧y=lM (t.getD k default)∧k<t.length∧z=bC vs∧okT t∧DF vs)∧K (.int .i64 (pP (bX vs) t k:Int))
 |_,_,_=>False
theorem MN:EPp 189 B9:=by
 refine Ype fun _ H K h=>?_
 unfold B9 at h
 split at h<;>try exact h.elim
 rename_i m x y m2 z
 obtain⟨t,k,vs,⟨rfl,hy,hk,rfl,⟨hg,hsh,hl⟩,hvl,hvs⟩,hK⟩:=h
 have hgd:t.getD k default=t[k]:=by simp[gEq,hk]
 rw[hgd]at hy
 subst hy
 rw[vo hk]at hK
 refine⟨_,hK,?_⟩
 clear hK
 obtain⟨g1,g2,g3,g4⟩:=ji hg hk
 obtain⟨s1,s2,s3⟩:=hsh t[k] (gMq hk)
 generalize t[k]=n at *
 have ha:n.a<t.length:=by
  rcases g4 with h|h
  ·have:=s3 h;omega
  ·omega
 have hb:n.b<t.length:=by
  rcases g4 with h|h
  ·have:=s3 h;omega
  ·omega
 obtain⟨a1,a2,_⟩:=ji hg ha
 obtain⟨b1,b2,_⟩:=ji hg hb
 have hna:=iS ha
 have hnb:=iS hb
 have hga:=dm ha
 have hgb:=dm hb
 refine ACalls.fW az (tCq xj tNq) Tryz.func189 [.tmp 6] (nrq _) (T:=ay [(1,[[],[],[],[],[],[2,4],[],[],[],[],[],[2,4,5,8,10]])]) (h:=fun hcl hlt=>?_)
 have hm:∀ n',H.nx≤n'→AV.lt n' (.slice m 7 (nds t)):=fun n' hn=>AV.lt_mono hn _ (hlt (.slice m 7 (nds t)) Xb)
 have hm2:∀ n',H.nx≤n'→AV.lt n' (.slice m2 2 (bC vs)):=fun n' hn=>AV.lt_mono hn _ (hlt (.slice m2 2 (bC vs)) Xb)
 clear hlt
 simp only[go_sem,lM,aO,iNq,hga,hgb,qK]
 refine⟨Xa,t[n.a],⟨rfl,a1,a2⟩,Xa,t[n.b],⟨rfl,b1,b2⟩,?_⟩
 by_cases h3:n.op=3
 ·have hi:(n.op:Int)=3:=Xa
  obtain⟨Q,hQ⟩:∃ Q,bX vs (n.name,n.attr)=Q:=⟨_,rfl⟩
  have hE:ka (bX vs) t n=if Q=false then 6 else 0:=by
   unfold ka
   rw[hQ]
   cases Q
   ·rw[if_pos ⟨h3,rfl⟩];rfl
   ·rw[if_neg (fun h=>by cases h.2)]
    simp[jK,h3]
  rw[hE]
  simp only[go_sem,hi,Int.reduceBEq,bH]
  refine aA (A:=Nat) (fun j=>[(4,.ptr H.nx 0),(30,.slice m2 2 (bC vs)),(31,.int .i64 (vs.length:Int)),(32,.int .i64 (j:Int))])
   (fun _=>H.push (.cells [.int .i64 (n.op:Int),.int .i64 (n.a:Int),.int .i64 (n.b:Int),.str n.name,.str n.attr,.int .u64 ((n.v/2^64:Nat):Int),.int .u64 ((n.v%2^64:Nat):Int)])) (fun j=>j≤vs.length∧bX (vs.drop j) (n.name,n.attr)=Q) (fun j=>vs.length-j) 0 ⟨Nat.zero_le _,hQ⟩ ?_ fun j hj=>?_
  ·rw[← hi]
   exact Z42
  obtain⟨hj,hq⟩:=hj
  refine T9 ?_
  refine aq (fun hc=>?_) (fun hc=>?_)
  ·have hj1:j<vs.length:=sHc
   have e5:IntKind.i64.wrap ((j:Int)+1)=((j+1:Nat):Int):=Xe
   have hne:(H.nx=H.nx+1)=False:=eFo
   rw[dcq hj1,El]at hq
   simp only[go_sem,bH,ki hj1,iNq,hne,K7,Kw,e5]
   refine⟨Xa,?_⟩
   cases hv:decide (vs[j]=(n.name,n.attr))
   ·rw[hv,Bool.false_or]at hq
    have hv':decide ((vs[j].1,vs[j].2)=(n.name,n.attr))=false:=hv
    simp only[go_sem,hv',Bool.bne_false,Bool.bne_true,bqs,Bool.not_true,Bool.not_false]
    exact V142
   ·rw[hv,Bool.true_or]at hq
    subst hq
    have hv':decide ((vs[j].1,vs[j].2)=(n.name,n.attr))=true:=hv
    simp only[go_sem,hv',Bool.bne_false,Bool.bne_true,bqs,Bool.not_true,Bool.not_false]
    exact Z0
  ·have hj1:j=vs.length:=sHc
   subst hj1
   rw[List.drop_length]at hq
   have hq':false=Q:=hq
   subst hq'
   exact V33
 have hE0:ka (bX vs) t n=if jK t n=true then 0 else 12:=by unfold ka;rw[if_neg (fun h=>h3 h.1)]
 obtain⟨E,hE⟩:∃ E,(if jK t n=true then 0 else 12)=E:=⟨_,rfl⟩
 rw[hE0,hE]
 clear hE0
 generalize mj t[n.a].op=A at *
 generalize mj t[n.b].op=B at *
 rcases(Xa:n.op=1∨n.op=2∨n.op=4∨n.op=5∨n.op=8∨n.op=9∨n.op=14∨n.op=15∨n.op=16∨(n.op=6∨n.op=7∨(10≤n.op∧n.op≤13)))with h|h|h|h|h|h|h|h|h|h
 ·have hi:(n.op:Int)=1:=Xa
  exact V14
 ·have hi:(n.op:Int)=2:=Xa
  exact V14
 ·have hi:(n.op:Int)=4:=Xa
  exact V14
 ·have hi:(n.op:Int)=5:=Xa
  exact V14
 ·have hi:(n.op:Int)=8:=Xa
  exact V14
 ·have hi:(n.op:Int)=9:=Xa
  exact V14
 ·have hi:(n.op:Int)=14:=Xa
  exact V14
 ·have hi:(n.op:Int)=15:=Xa
  exact V14
 ·have hi:(n.op:Int)=16:=Xa
  exact V14
 ·have x1:¬ n.op≤3:=Xa
  have x2:¬ n.op=4:=Xa
  have x3:¬ n.op=5:=Xa
  have x4:¬ (n.op=8∨n.op=9):=Xa
  have x5:¬ 14≤n.op:=Xa
  have d1:((n.op:Int)==1)=false:=beq_eq_false_iff_ne.2 Xa
  have d2:((n.op:Int)==2)=false:=beq_eq_false_iff_ne.2 Xa
  have d3:((n.op:Int)==3)=false:=beq_eq_false_iff_ne.2 Xa
  have d4:((n.op:Int)==4)=false:=beq_eq_false_iff_ne.2 Xa
  have d5:((n.op:Int)==5)=false:=beq_eq_false_iff_ne.2 Xa
  have d8:((n.op:Int)==8)=false:=beq_eq_false_iff_ne.2 Xa
  have d9:((n.op:Int)==9)=false:=beq_eq_false_iff_ne.2 Xa
  have d14:((n.op:Int)==14)=false:=beq_eq_false_iff_ne.2 Xa
  have d15:((n.op:Int)==15)=false:=beq_eq_false_iff_ne.2 Xa
  have d16:((n.op:Int)==16)=false:=beq_eq_false_iff_ne.2 Xa
  unfold jK at hE
  rw[if_neg x1,if_neg x2,if_neg x3,if_neg x4,if_neg x5,hna,hnb]at hE
  cases A<;>cases B <;>
  ·simp at hE
   subst hE
   simp only[go_sem,d1,d2,d3,d4,d5,d8,d9,d14,d15,d16]
   exact Z0
def y6:PCt
 |[.slice _ 7 x,.slice _ 2 y],_,K=>∃ t vs,(x=nds t∧y=bC vs∧okT t∧DF vs)∧K (.tup [.int .i64 ((chk (bX vs) t).1:Int),.int .i64 ((chk (bX vs) t).2:Int)])
 |_,_,_=>False
theorem IF:EPp 164 y6:=by
 refine Ype fun _ H K h=>?_
 unfold y6 at h
 split at h<;>try exact h.elim
 rename_i m x m2 y
 obtain⟨t,vs,⟨rfl,rfl,hot,hov⟩,hK⟩:=h
 obtain⟨hg,hsh,hl⟩:=id hot
 refine⟨_,hK,?_⟩
 clear hK
 refine Yfv az (tCq MN (tCq xj tNq)) Tryz.func164 [.tmp 4,.tmp 5] fun hcl hlt=>?_
 have hm:∀ n',H.nx≤n'→AV.lt n' (.slice m 7 (nds t)):=fun n' hn=>AV.lt_mono hn _ (hlt (.slice m 7 (nds t)) Xb)
 have hm2:∀ n',H.nx≤n'→AV.lt n' (.slice m2 2 (bC vs)):=fun n' hn=>AV.lt_mono hn _ (hlt (.slice m2 2 (bC vs)) Xb)
 clear hlt
 simp only[go_sem,aO]
 unfold chk
 obtain⟨Q,hQ⟩:∃ Q,jq (bX vs) t t.length 0=Q:=⟨_,rfl⟩
 rw[hQ]
 refine aA (A:=Nat) (fun k=>[(0,.slice m 7 (nds t)),(1,.slice m2 2 (bC vs)),(9,.slice m 7 (nds t)),(10,.int .i64 (t.length:Int)),(11,.int .i64 (k:Int))]) (fun _=>H)
  (fun k=>k≤t.length∧jq (bX vs) t (t.length-k) k=Q) (fun k=>t.length-k) 0 ⟨Nat.zero_le _,hQ⟩ ?_ fun k ha=>?_
 ·exact Z43
 obtain⟨hk,hq⟩:=ha
 refine T9 ?_
 refine aq (fun hc=>?_) (fun hc=>?_)
 ·have hk1:k<t.length:=sHc
  have e5:=Yk5 k
  rw[v7 hk1]at hq
  have hgd:t.getD k default=t[k]:=by simp[gEq,hk1]
  have hnd:AV.agg [.int .i64 (t[k].op:Int),.int .i64 (t[k].a:Int),.int .i64 (t[k].b:Int),.str t[k].name,.str t[k].attr,.int .u64 ((t[k].v/2^64:Nat):Int),.int .u64 ((t[k].v%2^64:Nat):Int)]=lM (t.getD k default):=by rw[hgd];rfl
  have he:=@CU (bX vs) t k
  obtain⟨E,hE⟩:∃ E,pP (bX vs) t k=E:=⟨_,rfl⟩
  rw[hE]at hq
  simp only[go_sem,aO,dm hk1,iNq,B9,e5]
  refine⟨Xa,t,k,vs,⟨rfl,hnd,hk1,rfl,hot,hov⟩,?_⟩
  rw[hE]
  by_cases hz:E=0
  ·have d1:((E:Int) !=0)=false:=by rw[hz];rfl
   rw[if_pos hz]at hq
   simp only[go_sem,d1,e5]
   refine⟨k+1,⟨Xa,hq⟩,Xa,?_⟩
   exact Z43
  ·have d1:((E:Int) !=0)=true:=bne_iff_ne.2 Xa
   rw[if_neg hz]at hq
   subst hq
   simp only[go_sem,d1]
   exact Z0
 ·have hk1:k=t.length:=sHc
  subst hk1
  rw[Nat.sub_self]at hq
  have hq':none=Q:=hq
  subst hq'
  by_cases ht0:t.length=0
  ·have d1:((t.length:Int)==0)=true:=by rw[ht0];rfl
   rw[if_pos ht0]
   simp only[go_sem,aO,d1]
   exact Z0
  ·have e6:IntKind.i64.wrap ((t.length:Int)-1)=((t.length-1:Nat):Int):=Xe
   have d1:((t.length:Int)==0)=false:=beq_eq_false_iff_ne.2 Xa
   have hk2:t.length-1<t.length:=Xa
   obtain⟨g1,g2,_⟩:=ji hg hk2
   rw[if_neg ht0,iS hk2]
   simp only[go_sem,aO,dm hk2,iNq,e6,d1,qK]
   refine⟨Xa,t[t.length-1],⟨rfl,g1,g2⟩,?_⟩
   cases mj t[t.length-1].op
   ·rw[if_neg Bool.false_ne_true]
    simp only[go_sem,e6,aO]
    exact Z0
   ·rw[if_pos rfl]
    simp only[go_sem,e6,aO]
    exact Z0
def il(x:List Nd × Nat):AV:=.tup [.slice .any 7 (nds x.1),.int .i64 (x.2:Int)]
theorem Gd(l:List Tok)(r:PR):∃ i:Int,jS l r=.tup [.slice .any 7 (nds (fy l r).1),.int .i64 i,.int .i64 ((fy l r).2:Int)]:=by
 cases r with
 |bad q=>exact⟨(q:Int),rfl⟩
 |ok a p t =>
  by_cases hp:p<l.length
  ·exact⟨(p:Int),by simp only[jS,fy];rw[if_pos hp,if_pos hp];rfl⟩
  ·by_cases hb:uf t=true
   ·exact⟨0,by simp only[jS,fy];rw[if_neg hp,if_neg hp,if_pos hb,if_pos (show NF t=true from hb)];rfl⟩
   ·exact⟨0,by simp only[jS,fy];rw[if_neg hp,if_neg hp,if_neg hb,if_neg (show ¬ NF t=true from hb)];rfl⟩
def oC:PCt
 |[.str s,.slice _ 2 y],_,K=>∃ vs,(y=bC vs∧DF vs∧s.length≤140737488355328)∧K (il (comp (bX vs) s))
 |_,_,_=>False
theorem CK:EPp 78 oC:=by
 refine Ype fun _ H K h=>?_
 unfold oC at h
 split at h<;>try exact h.elim
 rename_i s m2 y
 obtain⟨vs,⟨rfl,hov,hsl⟩,hK⟩:=h
 refine⟨_,hK,?_⟩
 clear hK
 refine Yfv az (tCq vw (tCq Ng (tCq IZ (tCq Hq tNq)))) Tryz.func78 [.tmp 4,.tmp 5] fun hcl hlt=>?_
 have hm2:∀ n',H.nx≤n'→AV.lt n' (.slice m2 2 (bC vs)):=fun n' hn=>AV.lt_mono hn _ (hlt (.slice m2 2 (bC vs)) Xb)
 clear hlt
 unfold comp
 by_cases hs:s=[]
 ·subst hs
  have d1:(([]:List UInt8)==[])=true:=rfl
  rw[if_pos rfl]
  simp only[go_sem,d1,vY]
  exact Z44
 ·have d1:(s==[])=false:=by simp[hs]
  rw[if_neg hs]
  obtain⟨hg1,hg2⟩:=tI s
  obtain⟨f,hf⟩:=wA (cE s).1
  generalize prs (cE s).1=r at *
  obtain⟨i,hpi⟩:=Gd (cE s).1 r
  obtain⟨hpg,hpl,_⟩:=pV hf
  have hps:=uj hg2 hf
  generalize fy (cE s).1 r=te at *
  obtain⟨t,e⟩:=te
  dsimp only at hpi hpg hpl hps
  have hot:okT t:=⟨hpg,hps,Xa⟩
  obtain⟨hc1,hc2⟩:=@Nl (bX vs) t
  unfold Db
  by_cases he0:(cE s).2.2=0
  ·have d2:((((cE s).2.2:Nat):Int) !=0)=false:=by rw[he0];rfl
   rw[if_neg (fun h=>h he0)]
   simp only[go_sem,d1,wz,pH,hsl,d2,yr]
   refine⟨(cE s).1,f,r,⟨rfl,hf,Xa,hg2⟩,?_⟩
   simp only[go_sem,hpi]
   by_cases he:e=0
   ·subst he
    have d3:(((0:Nat):Int) !=0)=false:=rfl
    rw[if_neg (fun h=>h rfl)]
    simp only[go_sem,d3,yS]
    exact V52
   ·exact V143
  ·have d2:((((cE s).2.2:Nat):Int) !=0)=true:=bne_iff_ne.2 Xa
   rw[if_pos he0]
   simp only[go_sem,d1,wz,pH,hsl,d2]
   exact Z46
theorem Ht{P:Program}{f:FuncId}{args:List AV}{H:AHeap}{X:AV}(h:ACallsP P f args H (fun x H1=>x=X∧H1=H)):ACalls P f args H (.ret X) H:=by
 intro w γ vs hs hr
 have h:=h w γ vs hs hr
 generalize (callFunc f vs).run P w=rr at h ⊢
 unfold UponCall at h ⊢
 split at h
 ·exact h.mono fun en w' ⟨γ',x,H1,⟨hx,hH⟩,g1,g2,g3⟩=>by subst hx;subst hH;exact⟨γ',g1,g2,g3⟩
 ·obtain⟨γ',x,H1,⟨hx,hH⟩,g1,g2,g3⟩:=h
  subst hx;subst hH
  exact⟨γ',g1,g2,g3⟩
 ·exact h
def yg:PCt
 |[.slice _ 3 x],_,K=>∃ l f r,(x=dN l∧run l f .imp 0 []=some r∧l.length≤1000∧rB l)∧K (jS l r)
 |_,_,_=>False
theorem IP:EPp 163 yg:=by
 refine Ype fun _ H K h=>?_
 unfold yg at h
 split at h<;>try exact h.elim
 rename_i m x
 obtain⟨l,f,r,⟨rfl,hr,hl,hg⟩,hK⟩:=h
 refine⟨_,hK,Ht ?_⟩
 have h0:EntOk Tryz.prog 163 (Ent.some (yw True 0)):=Dc Ok
 exact h0.2.2 _ rfl [.slice m 3 (dN l)] H _ ⟨l,f,r,⟨rfl,hr,hl,hg,fun _ _=>trivial⟩,rfl,rfl⟩
def sy:PCt
 |[.str s,.slice _ 2 y],_,K=>∃ vs,(y=bC vs∧DF vs∧s.length≤140737488355328)∧K (il (comp (bX vs) s))
 |_,_,_=>False
theorem De:EPp 131 sy:=by
 refine Ype fun _ H K h=>?_
 unfold sy at h
 split at h<;>try exact h.elim
 rename_i s m2 y
 obtain⟨vs,⟨rfl,hov,hsl⟩,hK⟩:=h
 refine⟨_,hK,?_⟩
 clear hK
 refine Yfv az (tCq MO (tCq IP (tCq IF tNq))) Tryz.func131 [.tmp 4,.tmp 5] fun hcl hlt=>?_
 have hm2:∀ n',H.nx≤n'→AV.lt n' (.slice m2 2 (bC vs)):=fun n' hn=>AV.lt_mono hn _ (hlt (.slice m2 2 (bC vs)) Xb)
 clear hlt
 unfold comp
 by_cases hs:s=[]
 ·subst hs
  have d1:(([]:List UInt8)==[])=true:=rfl
  rw[if_pos rfl]
  simp only[go_sem,d1]
  exact Z44
 ·have d1:(s==[])=false:=by simp[hs]
  rw[if_neg hs]
  obtain⟨hg1,hg2⟩:=tI s
  obtain⟨f,hf⟩:=wA (cE s).1
  generalize prs (cE s).1=r at *
  obtain⟨i,hpi⟩:=Gd (cE s).1 r
  obtain⟨hpg,hpl,_⟩:=pV hf
  have hps:=uj hg2 hf
  generalize fy (cE s).1 r=te at *
  obtain⟨t,e⟩:=te
  dsimp only at hpi hpg hpl hps
  have hot:okT t:=⟨hpg,hps,Xa⟩
  obtain⟨hc1,hc2⟩:=@Nl (bX vs) t
  unfold Db
  by_cases he0:(cE s).2.2=0
  ·have d2:((((cE s).2.2:Nat):Int) !=0)=false:=by rw[he0];rfl
   rw[if_neg (fun h=>h he0)]
   simp only[go_sem,d1,wO,pH,hsl,d2,yg]
   refine⟨(cE s).1,f,r,⟨rfl,hf,Xa,hg2⟩,?_⟩
   simp only[go_sem,hpi]
   by_cases he:e=0
   ·subst he
    have d3:(((0:Nat):Int) !=0)=false:=rfl
    rw[if_neg (fun h=>h rfl)]
    simp only[go_sem,d3,y6]
    exact V52
   ·exact V143
  ·have d2:((((cE s).2.2:Nat):Int) !=0)=true:=bne_iff_ne.2 Xa
   rw[if_pos he0]
   simp only[go_sem,d1,wO,pH,hsl,d2]
   exact Z46
theorem Od:ti Tryz.prog 102=some ⟨.struct [(0,9,false),(1,3,false),(2,3,false)],3,32,.agg [.str [],.int .i64 0,.int .i64 0]⟩:=krf
theorem J7:tSl Tryz.prog 89 102:=kSl
theorem IU:ti Tryz.prog 91=some ⟨.struct [(0,3,false),(1,9,false),(2,89,false),(3,50,false),(4,3,false),(5,24,false),(6,3,false),(7,9,false)],8,128,.agg [.int .i64 0,.str [],.slice .nil 1 [],.slice .nil 1 [],.int .i64 0,.slice .nil 1 [],.int .i64 0,.str []]⟩:=krf
theorem JM:ti Tryz.prog 110=some ⟨.struct [(0,9,false),(1,3,false)],2,24,.agg [.str [],.int .i64 0]⟩:=krf
theorem EF:tSl Tryz.prog 104 110:=kSl
theorem EU:ti Tryz.prog 107=some ⟨.struct [(0,3,false),(1,9,false),(2,104,false),(3,105,false),(4,9,false)],5,88,.agg [.int .i64 0,.str [],.slice .nil 1 [],.slice .nil 1 [],.str []]⟩:=krf
theorem MK:tSl Tryz.prog 124 9:=kSl
attribute [go_sem] Od J7 IU JM EF EU MK
def Bq:PCt
 |[.int .i64 k],_,K=>K (.slice .any 1 (sAV (dX k)))
 |_,_,_=>False
theorem MA:EPp 117 Bq:=by
 refine Ype fun _ H K h=>?_
 unfold Bq at h
 split at h<;>try exact h.elim
 rename_i k
 refine⟨_,h,?_⟩
 clear h
 unfold dX
 by_cases h1:k=1
 ·subst h1
  exact V44
 rw[if_neg h1]
 have d1:(k==1)=false:=beq_eq_false_iff_ne.2 h1
 by_cases h2:k=2
 ·subst h2
  exact V44
 rw[if_neg h2]
 have d2:(k==2)=false:=beq_eq_false_iff_ne.2 h2
 by_cases h3:k=3
 ·subst h3
  exact V44
 rw[if_neg h3]
 have d3:(k==3)=false:=beq_eq_false_iff_ne.2 h3
 by_cases h4:k=4
 ·subst h4
  exact V44
 rw[if_neg h4]
 have d4:(k==4)=false:=beq_eq_false_iff_ne.2 h4
 refine Yfu az tNq Tryz.func117 [.tmp 2] fun hcl=>?_
 simp only[go_sem,d1,d2,d3,d4]
 simp (disch:=first|exact Zd|omega) [↓zmo,beq,ybc,ybd,ybe,af,wk,wk2,wk1,wkM,wkL,aj,ybf,hcl,sAV]
theorem bW{l:List SKey}:(l.map bL).length=l.length:=ybb ..
theorem lm{l:List SKey}{k:Nat}(h:k<l.length):(l.map bL).getD k .junk=.agg [.str l[k].name,.int .i64 l[k].field,.int .i64 l[k].kind]:=by
 simp[gEq,h,bL]
def nM(l:List SKey):List VN:=(l.flatMap fun k=>fg k.name k.kind)++[pn]
def oy:PCt
 |[.agg [_,_,.slice _ 3 x,_,_,_,_,_]],_,K=>∃ keys,(x=keys.map bL∧keys.length≤1000)∧K (.slice .any 2 (bC (nM keys)))
 |_,_,_=>False
theorem oL{α β:Type}{f:α→List β}{l:List α}{k:Nat}(h:k<l.length):(l.take (k+1)).flatMap f=(l.take k).flatMap f++f l[k]:=by
 rw[← List.take_append_getElem h,List.flatMap_append];simp
theorem vf{n:List UInt8}{k:Int}:(fg n k).length≤2:=by
 unfold fg dX
 rw[ybb]
 split
 ·simp
 ·split
  ·simp
  ·split
   ·simp
   ·split<;>simp
theorem lZ{l:List SKey}:∀{k:Nat},((l.take k).flatMap fun k=>fg k.name k.kind).length≤2*k
 |0=>Xb
 |k+1=>by
  rcases Nat.lt_or_ge k l.length with h|h
  ·rw[oL h,lAq]
   have:=lZ (l:=l) (k:=k)
   have:=@vf l[k].name l[k].kind
   omega
  ·rw[ybc (Xa:l.length≤k+1),← ybc h]
   have:=lZ (l:=l) (k:=k)
   omega
theorem rD:EPp 79 oy:=by
 refine Ype fun _ H K h=>?_
 unfold oy at h
 split at h<;>try exact h.elim
 rename_i a1 a2 m x a3 a4 a5 a6 a7
 obtain⟨keys,⟨rfl,hl⟩,hK⟩:=h
 refine⟨_,hK,?_⟩
 clear hK
 refine Yfv az (tCq MA tNq) Tryz.func79 [.tmp 2] fun hcl hlt=>?_
 have hx:=AV.lt_mono (Nat.le_succ H.nx) _ (hlt (.agg [a1,a2,.slice m 3 (keys.map bL),a3,a4,a5,a6,a7]) Xb)
 have hm:∀ n',H.nx≤n'→AV.lt n' (.slice m 3 (keys.map bL)):=fun n' hn=>AV.lt_mono hn _ (by have h1:=hlt (.agg [a1,a2,.slice m 3 (keys.map bL),a3,a4,a5,a6,a7]) (Xb);rw[znr]at h1;exact h1.2.2.1)
 simp only[znr]at hx
 clear hlt
 simp only[go_sem,bW]
 refine aA (A:=Nat × AHeap) (fun a=>[(3,.slice (.own (H.nx+1+1)) 2 (bC ((keys.take a.1).flatMap fun k=>fg k.name k.kind))),(9,.slice m 3 (keys.map bL)),(10,.int .i64 (keys.length:Int)),(11,.int .i64 (a.1:Int))]) (fun a=>a.2)
  (fun a=>a.1≤keys.length∧H.Le a.2∧a.2.Closed∧a.2.get (H.nx+1+1)=some (.buf 2 ((keys.take a.1).flatMap fun k=>fg k.name k.kind).length)) (fun a=>keys.length-a.1)
  (0,((H.push (.cells [a1,a2,.slice m 3 (keys.map bL),a3,a4,a5,a6,a7])).push (.buf 2 0)).push (.buf 2 0)) ⟨Nat.zero_le _,(((lRq _).push _).push _).push _,ag (ag (aa hcl hx)),AHeap.get_push_new _ _⟩ ?_ fun a ha=>?_
 ·exact V29
 obtain⟨k,Hc⟩:=a
 obtain⟨hk,hle,hcc,hid⟩:=ha
 dsimp only at hk hle hcc hid ⊢
 have hnx:=glq hid
 refine T9 ?_
 refine aq (fun hc=>?_) (fun hc=>?_)
 ·have hk1:k<keys.length:=sHc
  have e5:=Yk5 k
  have hfl:=@lZ keys k
  have hkl:=@vf keys[k].name keys[k].kind
  have hkv:fg keys[k].name keys[k].kind=(dX keys[k].kind).map fun a=>(keys[k].name,a):=rfl
  simp only[go_sem,bW,lm hk1,iNq,Bq]
  generalize dX keys[k].kind=at0 at *
  have hk0:fg keys[k].name keys[k].kind=at0.map fun a=>(keys[k].name,a):=hkv
  have hal:at0.length≤2:=by rw[hk0,ybb]at hkl;exact hkl
  refine⟨Xa,?_⟩
  simp only[go_sem,kI]
  refine aA (A:=Nat × AHeap) (fun a=>[(3,.slice (.own (H.nx+1+1)) 2 (bC (((keys.take k).flatMap fun k=>fg k.name k.kind)++(at0.take a.1).map fun x=>(keys[k].name,x)))),(5,.ptr Hc.nx 0),(9,.slice m 3 (keys.map bL)),(10,.int .i64 (keys.length:Int)),(11,.int .i64 (k:Int)),(17,.slice .any 1 (sAV at0)),(18,.int .i64 (at0.length:Int)),(19,.int .i64 (a.1:Int))]) (fun a=>a.2)
   (fun a=>a.1≤at0.length∧H.Le a.2∧a.2.Closed∧a.2.get (H.nx+1+1)=some (.buf 2 (((keys.take k).flatMap fun k=>fg k.name k.kind)++(at0.take a.1).map fun x=>(keys[k].name,x)).length)∧a.2.get Hc.nx=some (.cells [.str keys[k].name,.int .i64 keys[k].field,.int .i64 keys[k].kind])) (fun a=>at0.length-a.1)
   (0,Hc.push (.cells [.str keys[k].name,.int .i64 keys[k].field,.int .i64 keys[k].kind])) ⟨Nat.zero_le _,hle.push _,aa hcc (by simp[znu,znv,znh,znf]),?_,AHeap.get_push_new _ _⟩ ?_ fun a ha=>?_
  ·dsimp only
   rw[gPq _ _ hnx,hid];simp
  ·have hc0:=aa (cs:=[.str keys[k].name,.int .i64 keys[k].field,.int .i64 keys[k].kind]) hcc (by simp[znu,znv,znh,znf])
   have hnn:H.nx≤Hc.nx:=Xa
   (simp only[bkq,enterW,aJ,ltF,ne_eq,Nat.reduceEqDiff,reduceCtorEq,hc0,hm,aL,df,hnn];try simp (disch:=first|exact Zd|omega) [↓zmo,beq,ybc,ybd,ybe,af,wk,wk2,wk1,wkM,wkL,aj,ybf,byq,biq,ah,hcl,hc0,hm,aL,df,hnn];try(repeat' (first|assumption|omega|exact True.intro|refine And.intro ?_ ?_|refine ag ?_|refine ae ?_|refine aa ?_ ?_|refine ai ?_ ?_|refine au ?_|exact lRq _|refine lPq ?_ _|refine AHeap.Le.del ?_ ?_|(simp only[bt,and_true,true_and,hc0,hm,aL,df,hnn];first|done|omega|(simp;done)))))
  obtain⟨j,Hd⟩:=a
  obtain⟨hj,hle2,hcd,hid2,hky⟩:=ha
  dsimp only at hj hle2 hcd hid2 hky ⊢
  have hnx2:=glq hid2
  have hnx3:=glq hky
  refine T9 ?_
  refine aq (fun hc=>?_) (fun hc=>?_)
  ·have hj1:j<at0.length:=sHc
   have e6:IntKind.i64.wrap ((j:Int)+1)=((j+1:Nat):Int):=Xe
   have hsg:(sAV at0).getD j .junk=.str at0[j]:=by rw[A0 hj1];simp[gEq,hj1]
   have htk:(at0.take (j+1)).map (fun x=>(keys[k].name,x))=(at0.take j).map (fun x=>(keys[k].name,x))++[(keys[k].name,at0[j])]:=by rw[← List.take_append_getElem hj1,List.map_append];rfl
   have n1:(Hc.nx=Hd.nx)=False:=eFo
   have n2:(H.nx+1+1=Hd.nx)=False:=eFo
   simp only[go_sem,kI,hsg,iNq,hky,ax hky,hid2,bH,n1,n2,e6]
   obtain⟨LL,hLL⟩:∃ LL,(((keys.take k).flatMap fun k=>fg k.name k.kind)++(at0.take j).map fun x=>(keys[k].name,x))=LL:=⟨_,rfl⟩
   have hll:LL.length≤2*k+2:=by rw[← hLL,lAq,ybb,List.length_take];omega
   have hln:((keys.take k).flatMap fun k=>fg k.name k.kind)++(at0.take (j+1)).map (fun x=>(keys[k].name,x))=LL++[(keys[k].name,at0[j])]:=by rw[htk,← List.append_assoc,hLL]
   have hsn:bC LL++[.agg [.str keys[k].name,.str at0[j]]]=bC (LL++[(keys[k].name,at0[j])]):=qp (v:=(keys[k].name,at0[j]))
   rw[hLL]
   refine⟨Xa,⟨Xa,Xa,fun z hz=>by rw[List.mem_singleton.1 hz];rfl⟩,(j+1,Hd.set (H.nx+1+1) (.buf 2 (LL.length+1))),⟨Xf,bF hle2 Xa,ae hcd,?_,?_⟩,Xf,?_⟩
   ·dsimp only
    rw[aC,if_pos rfl,if_pos hnx2,hln];simp
   ·dsimp only
    rw[aC,if_neg Xa,hky]
   ·have hnn:H.nx≤Hd.nx:=Xa
    have hcs:=@ae Hd (H.nx+1+1) 2 (LL.length+1) hcd
    dsimp only
    rw[hln,hsn]
    (simp only[bkq,enterW,aJ,ltF,ne_eq,Nat.reduceEqDiff,reduceCtorEq,hcs,hm,aL,df,hnn];try simp (disch:=first|exact Zd|omega) [↓zmo,beq,ybc,ybd,ybe,af,wk,wk2,wk1,wkM,wkL,aj,ybf,byq,biq,ah,hcl,hcs,hm,aL,df,hnn];try(repeat' (first|assumption|omega|exact True.intro|refine And.intro ?_ ?_|refine ag ?_|refine ae ?_|refine aa ?_ ?_|refine ai ?_ ?_|refine au ?_|exact lRq _|refine lPq ?_ _|refine AHeap.Le.del ?_ ?_|(simp only[bt,and_true,true_and,hcs,hm,aL,df,hnn];first|done|omega|(simp;done)))))
  ·have hj1:j=at0.length:=sHc
   subst hj1
   rw[List.take_length,← hk0,← oL hk1]at hid2
   rw[List.take_length,← hk0,← oL (f:=fun k:SKey=>fg k.name k.kind) hk1]
   refine T37 ?_
   refine⟨(k+1,Hd),⟨Xf,hle2,hcd,hid2⟩,Xf,?_⟩
   have hnn:H.nx≤Hd.nx:=Xa
   (simp only[bkq,enterW,aJ,ltF,ne_eq,Nat.reduceEqDiff,reduceCtorEq,hcd,hm,aL,hnn];try simp (disch:=first|exact Zd|omega) [↓zmo,beq,ybc,ybd,ybe,af,wk,wk2,wk1,wkM,wkL,aj,ybf,byq,biq,ah,hcl,hcd,hm,aL,hnn];try(repeat' (first|assumption|omega|exact True.intro|refine And.intro ?_ ?_|refine ag ?_|refine ae ?_|refine aa ?_ ?_|refine ai ?_ ?_|refine au ?_|exact lRq _|refine lPq ?_ _|refine AHeap.Le.del ?_ ?_|(simp only[bt,and_true,true_and,hcd,hm,aL,hnn];first|done|omega|(simp;done)))))
 ·exact V23
theorem oV{l:List SParam}:(l.map bV).length=l.length:=ybb ..
theorem xH{l:List SParam}{k:Nat}(h:k<l.length):(l.map bV).getD k .junk=.agg [.str l[k].name,.int .i64 l[k].bits]:=by
 simp[gEq,h,bV]
def eR(l:List SParam):List VN:=l.map fun p=>(p.name,[])
def oN:PCt
 |[.agg [_,_,.slice _ 3 x,_,_,_,_,_]],_,K=>∃ keys,(x=keys.map bL∧keys.length≤1000)∧K (.slice .any 2 (bC (nM keys)))
 |_,_,_=>False
theorem zb:EPp 91 oN:=by
 refine Ype fun _ H K h=>?_
 unfold oN at h
 split at h<;>try exact h.elim
 rename_i a1 a2 m x a3 a4 a5 a6 a7
 obtain⟨keys,⟨rfl,hl⟩,hK⟩:=h
 refine⟨_,hK,?_⟩
 clear hK
 refine Yfv az tNq Tryz.func91 [.tmp 2] fun hcl hlt=>?_
 have hx:=AV.lt_mono (Nat.le_succ H.nx) _ (hlt (.agg [a1,a2,.slice m 3 (keys.map bL),a3,a4,a5,a6,a7]) Xb)
 have hm:∀ n',H.nx≤n'→AV.lt n' (.slice m 3 (keys.map bL)):=fun n' hn=>AV.lt_mono hn _ (by have h1:=hlt (.agg [a1,a2,.slice m 3 (keys.map bL),a3,a4,a5,a6,a7]) (Xb);rw[znr]at h1;exact h1.2.2.1)
 simp only[znr]at hx
 clear hlt
 simp only[go_sem,bW]
 refine aA (A:=Nat × AHeap) (fun a=>[(3,.slice (.own (H.nx+1+1)) 2 (bC ((keys.take a.1).flatMap fun k=>fg k.name k.kind))),(7,.slice m 3 (keys.map bL)),(8,.int .i64 (keys.length:Int)),(9,.int .i64 (a.1:Int))]) (fun a=>a.2)
  (fun a=>a.1≤keys.length∧H.Le a.2∧a.2.Closed∧a.2.get (H.nx+1+1)=some (.buf 2 ((keys.take a.1).flatMap fun k=>fg k.name k.kind).length)) (fun a=>keys.length-a.1)
  (0,((H.push (.cells [a1,a2,.slice m 3 (keys.map bL),a3,a4,a5,a6,a7])).push (.buf 2 0)).push (.buf 2 0)) ⟨Nat.zero_le _,(((lRq _).push _).push _).push _,ag (ag (aa hcl hx)),AHeap.get_push_new _ _⟩ ?_ fun a ha=>?_
 ·exact V29
 obtain⟨k,Hc⟩:=a
 obtain⟨hk,hle,hcc,hid⟩:=ha
 dsimp only at hk hle hcc hid ⊢
 have hnx:=glq hid
 refine T9 ?_
 refine aq (fun hc=>?_) (fun hc=>?_)
 ·have hk1:k<keys.length:=sHc
  have e5:=Yk5 k
  have hfl:=@lZ keys k
  have n1:(Hc.nx=H.nx+1+1)=False:=eFo
  have n2:(H.nx+1+1=Hc.nx)=False:=eFo
  have n3:(H.nx+1+1=Hc.nx+1)=False:=eFo
  obtain⟨LL,hLL⟩:∃ LL,((keys.take k).flatMap fun k=>fg k.name k.kind)=LL:=⟨_,rfl⟩
  rw[hLL]at hid hfl ⊢
  have hnn:H.nx≤Hc.nx:=Xa
  have hln0:(keys.take (k+1)).flatMap (fun k=>fg k.name k.kind)=LL++fg keys[k].name keys[k].kind:=by rw[oL hk1,hLL]
  generalize hkd:keys[k].kind=kd at *
  by_cases h1:kd=1
  ·subst h1
   have hln:(keys.take (k+1)).flatMap (fun k=>fg k.name k.kind)=LL++[(keys[k].name,[]),(keys[k].name,[118,97,108,117,101])]:=hln0
   have hsn:bC LL++[.agg [.str keys[k].name,.str []],.agg [.str keys[k].name,.str [118,97,108,117,101]]]=bC (LL++[(keys[k].name,[]),(keys[k].name,[118,97,108,117,101])]):=by simp[bC,gD]
   exact V11
  have d1:(kd==1)=false:=beq_eq_false_iff_ne.2 h1
  by_cases h2:kd=2
  ·subst h2
   have hln:(keys.take (k+1)).flatMap (fun k=>fg k.name k.kind)=LL++[(keys[k].name,[118,97,108,117,101]),(keys[k].name,[112,114,101,102,105,120,95,108,101,110,103,116,104])]:=hln0
   have hsn:bC LL++[.agg [.str keys[k].name,.str [118,97,108,117,101]],.agg [.str keys[k].name,.str [112,114,101,102,105,120,95,108,101,110,103,116,104]]]=bC (LL++[(keys[k].name,[118,97,108,117,101]),(keys[k].name,[112,114,101,102,105,120,95,108,101,110,103,116,104])]):=by simp[bC,gD]
   exact V11
  have d2:(kd==2)=false:=beq_eq_false_iff_ne.2 h2
  by_cases h3:kd=3
  ·subst h3
   have hln:(keys.take (k+1)).flatMap (fun k=>fg k.name k.kind)=LL++[(keys[k].name,[118,97,108,117,101]),(keys[k].name,[109,97,115,107])]:=hln0
   have hsn:bC LL++[.agg [.str keys[k].name,.str [118,97,108,117,101]],.agg [.str keys[k].name,.str [109,97,115,107]]]=bC (LL++[(keys[k].name,[118,97,108,117,101]),(keys[k].name,[109,97,115,107])]):=by simp[bC,gD]
   exact V11
  have d3:(kd==3)=false:=beq_eq_false_iff_ne.2 h3
  by_cases h4:kd=4
  ·subst h4
   have hln:(keys.take (k+1)).flatMap (fun k=>fg k.name k.kind)=LL++[(keys[k].name,[108,111,119]),(keys[k].name,[104,105,103,104])]:=hln0
   have hsn:bC LL++[.agg [.str keys[k].name,.str [108,111,119]],.agg [.str keys[k].name,.str [104,105,103,104]]]=bC (LL++[(keys[k].name,[108,111,119]),(keys[k].name,[104,105,103,104])]):=by simp[bC,gD]
   exact V11
  have d4:(kd==4)=false:=beq_eq_false_iff_ne.2 h4
  have hln:(keys.take (k+1)).flatMap (fun k=>fg k.name k.kind)=LL:=by
   rw[hln0]
   unfold fg dX
   rw[if_neg h1,if_neg h2,if_neg h3,if_neg h4];simp
  simp only[go_sem,bW,lm hk1,iNq,hkd,d1,d2,d3,d4,e5]
  refine⟨Xa,(k+1,Hc),⟨Xf,hle,hcc,?_⟩,Xf,?_⟩
  ·dsimp only
   rw[hln,hid]
  ·dsimp only
   rw[hln]
   (simp only[bkq,enterW,aJ,ltF,ne_eq,Nat.reduceEqDiff,reduceCtorEq,hcc,hm,aL,hnn];try simp (disch:=first|exact Zd|omega) [↓zmo,beq,ybc,ybd,ybe,af,wk,wk2,wk1,wkM,wkL,aj,ybf,byq,biq,ah,hcl,hcc,hm,aL,hnn];try(repeat' (first|assumption|omega|exact True.intro|refine And.intro ?_ ?_|refine ag ?_|refine ae ?_|refine aa ?_ ?_|refine ai ?_ ?_|refine au ?_|exact lRq _|refine lPq ?_ _|refine AHeap.Le.del ?_ ?_|(simp only[bt,and_true,true_and,hcc,hm,aL,hnn];first|done|omega|(simp;done)))))
 ·exact V23
def np:PCt
 |[.agg [_,_,.slice _ 2 x,_,_]],_,K=>∃ keys,(x=keys.map bV∧keys.length≤1000)∧K (.slice .any 2 (bC (eR keys)))
 |_,_,_=>False
theorem qd:EPp 82 np:=by
 refine Ype fun _ H K h=>?_
 unfold np at h
 split at h<;>try exact h.elim
 rename_i a1 a2 m x a3 a4
 obtain⟨keys,⟨rfl,hl⟩,hK⟩:=h
 refine⟨_,hK,?_⟩
 clear hK
 refine Yfv az tNq Tryz.func82 [.tmp 2] fun hcl hlt=>?_
 exact V4
def nj:PCt
 |[.agg [_,_,.slice _ 2 x,_,_]],_,K=>∃ keys,(x=keys.map bV∧keys.length≤1000)∧K (.slice .any 2 (bC (eR keys)))
 |_,_,_=>False
theorem yV:EPp 93 nj:=by
 refine Ype fun _ H K h=>?_
 unfold nj at h
 split at h<;>try exact h.elim
 rename_i a1 a2 m x a3 a4
 obtain⟨keys,⟨rfl,hl⟩,hK⟩:=h
 refine⟨_,hK,?_⟩
 clear hK
 refine Yfv az tNq Tryz.func93 [.tmp 2] fun hcl hlt=>?_
 exact V4
end Go.AL
