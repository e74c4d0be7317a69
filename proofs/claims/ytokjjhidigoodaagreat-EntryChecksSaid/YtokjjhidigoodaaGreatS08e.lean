/- Lemmas of the proof; no condition. -/
import Derived.Test.YtokjjhidigoodaaGreatS07p
import Derived.Test.YtokjjhidigoodaaGreatLTyp
import Derived.Test.YtokjjhidigoodaaGreatAlMap
set_option linter.all false
set_option maxRecDepth 10000
set_option maxHeartbeats 32000000
open List renaming length_cons → yaz, length_nil → yba, take_of_length_le → ybc, drop_append → ybd, take_append → ybe, drop_eq_nil_of_le → ybf
open Go Go.AL Go.Proofs
namespace Go.AL
theorem Lw:ti Tryz.prog 349=some ⟨.struct [(0,3,false),(1,3,false)],2,16,.agg [.int .i64 0,.int .i64 0]⟩:=by kernel_rfl
theorem Jw:ti Tryz.prog 445=some ⟨.slice 349,1,24,.slice .nil 1 []⟩:=by kernel_rfl
theorem Ff:ti Tryz.prog 190=some ⟨.struct [(0,9,false),(1,9,false)],2,32,.agg [.str [],.str []]⟩:=by kernel_rfl
theorem Ij:ti Tryz.prog 95=some ⟨.slice 190,1,24,.slice .nil 1 []⟩:=by kernel_rfl
theorem Id:ti Tryz.prog 107=some ⟨.slice 211,1,24,.slice .nil 1 []⟩:=by kernel_rfl
theorem Ep:ti Tryz.prog 211=some ⟨.struct [(0,9,false),(1,9,false)],2,32,.agg [.str [],.str []]⟩:=by kernel_rfl
attribute [go_sem] Lw Jw Ff Ij Id Ep
def rulesL:List AV:=(List.range 16).map fun i=>.agg [.int .i64 (BF (i+1):Int),.int .i64 (pj (i+1):Int)]
theorem GX:rulesL=[.agg [.int .i64 0,.int .i64 1],.agg [.int .i64 0,.int .i64 2],.agg [.int .i64 0,.int .i64 1],.agg [.int .i64 1,.int .i64 1],.agg [.int .i64 2,.int .i64 2],.agg [.int .i64 1,.int .i64 1],.agg [.int .i64 1,.int .i64 1],.agg [.int .i64 0,.int .i64 2],
 .agg [.int .i64 0,.int .i64 2],.agg [.int .i64 1,.int .i64 2],.agg [.int .i64 1,.int .i64 2],.agg [.int .i64 1,.int .i64 2],.agg [.int .i64 1,.int .i64 2],.agg [.int .i64 2,.int .i64 2],.agg [.int .i64 2,.int .i64 2],.agg [.int .i64 2,.int .i64 2]]:=by rfl
theorem D7 {k:Nat} (h:k<16):rulesL.getD k .junk=.agg [.int .i64 (BF (k+1):Int),.int .i64 (pj (k+1):Int)]:=by
 simp [rulesL,gEq,h]
theorem Dp:rulesL.length=16:=by simp [rulesL]
def v6:List AV→AHeap→(AV→Prop)→Prop
 |[],_,K=>K (.slice .any 2 rulesL)
 |_,_,_=>False
theorem Hn:EntOk Tryz.prog 402 (Ent.pure v6):=by
 refine Ype fun _ H K h=>?_
 unfold v6 at h
 split at h
 rotate_left
 ·exact h.elim
 refine ⟨_,h,?_⟩
 clear h
 rw [GX]
 refine Yfv ax tNq Tryz.func402 [.tmp 0] fun hcl hlt=>?_
 clear hlt
 simp only [go_sem]
 simp (disch:=first|exact Zd|omega) [↓zmk,beq,ybc,ybd,ybe,af,wk,wk2,wk1,wkM,wkL,aj,ybf,hcl,aS,znn,znq,znr,znb]
def k7:List AV→AHeap→(AV→Prop)→Prop
 |[.int .i64 n],_,K=>∃ op:Nat,(n=(op:Int)∧1≤op∧op≤16)∧K (.agg [.int .i64 (BF op:Int),.int .i64 (pj op:Int)])
 |_,_,_=>False
theorem vD:EntOk Tryz.prog 286 (Ent.pure k7):=by
 refine Ype fun _ H K h=>?_
 unfold k7 at h
 split at h
 rotate_left
 ·exact h.elim
 obtain ⟨op,⟨rfl,h1,h2⟩,hK⟩:=h
 refine ⟨_,hK,?_⟩
 clear hK
 refine Yfv ax (tCq Hn tNq) Tryz.func286 [.cell 2 349] fun hcl hlt=>?_
 clear hlt
 have d1:decide ((op:Int)<1)=false:=by simp;omega
 have d2:decide ((op:Int) > 16)=false:=by simp;omega
 have e1:IntKind.i64.wrap ((op:Int) - 1)=((op - 1:Nat):Int):=by rw [wrap_i64]<;>omega
 have e2:rulesL.getD (op - 1) .junk=.agg [.int .i64 (BF op:Int),.int .i64 (pj op:Int)]:=by rw [D7 (by omega),show op - 1+1=op by omega]
 simp only [go_sem,d1,d2,e1,v6,Dp,iNq,e2]
 refine ⟨by omega,?_⟩
 simp (disch:=first|exact Zd|omega) [↓zmk,beq,ybc,ybd,ybe,af,wk,wk2,wk1,wkM,wkL,aj,ybf,hcl,znn,znq,znr,znb]
def ot:List AV→AHeap→(AV→Prop)→Prop
 |[x],_,K=>∃ n,(x=kL n∧1≤n.op∧n.op≤16)∧K (.slice .any 1 (its (xa n)))
 |_,_,_=>False
theorem Ad:EntOk Tryz.prog 401 (Ent.pure ot):=by
 refine Ype fun _ H K h=>?_
 unfold ot at h
 split at h
 rotate_left
 ·exact h.elim
 obtain ⟨n,⟨rfl,h1,h2⟩,hK⟩:=h
 refine ⟨_,hK,?_⟩
 clear hK
 unfold xa
 by_cases h3:n.op≤3
 ·rw [if_pos h3]
  refine Yfv ax tNq Tryz.func401 [.tmp 2] fun hcl hlt=>?_
  clear hlt
  rcases (by omega:(n.op:Int)=1∨(n.op:Int)=2∨(n.op:Int)=3) with h|h|h <;>
  ·simp only [go_sem,kL,h,Int.reduceBEq]
   exact Z39
 rw [if_neg h3]
 by_cases h4:n.op=4∨n.op=5
 ·rw [if_pos h4]
  refine Yfv ax tNq Tryz.func401 [.tmp 2] fun hcl hlt=>?_
  clear hlt
  rcases (by omega:(n.op:Int)=4∨(n.op:Int)=5) with h|h <;>
  ·simp only [go_sem,kL,h,Int.reduceBEq]
   exact Z39
 ·rw [if_neg h4]
  have d1:((n.op:Int)==1)=false:=beq_eq_false_iff_ne.2 (by omega)
  have d2:((n.op:Int)==2)=false:=beq_eq_false_iff_ne.2 (by omega)
  have d3:((n.op:Int)==3)=false:=beq_eq_false_iff_ne.2 (by omega)
  have d4:((n.op:Int)==4)=false:=beq_eq_false_iff_ne.2 (by omega)
  have d5:((n.op:Int)==5)=false:=beq_eq_false_iff_ne.2 (by omega)
  refine Yfv ax tNq Tryz.func401 [.tmp 2] fun hcl hlt=>?_
  clear hlt
  simp only [go_sem,kL,d1,d2,d3,d4,d5]
  exact Z39
def wb (t:List Nd) (k:Nat):Bool:=match t[k]? with
 |some n=>jv t n
 |none=>true
theorem y5 {t:List Nd} {k:Nat} (h:k<t.length):wb t k=jv t t[k]:=by
 unfold wb;rw [gQq h]
theorem iL {t:List Nd} (hg:Good t) {k:Nat} (h:k<t.length):1≤t[k].op∧t[k].op≤16∧t[k].v<2^128∧(t[k].op≤3∨(t[k].a<k∧t[k].b<k)):=hg k t[k] (gQq h)
theorem L2 {t:List Nd} (hg:Good t) {k:Nat} (h:k<t.length) {j:Nat} (hj:j<(xa t[k]).length):(xa t[k]).getD j 0<k:=by
 obtain ⟨h1,h2,h3,h4⟩:=iL hg h
 generalize t[k]=n at *
 unfold xa at *
 by_cases h5:n.op≤3
 ·rw [if_pos h5] at hj;exact absurd hj (Nat.not_lt_zero _)
 ·have h4':n.a<k∧n.b<k:=by omega
  rw [if_neg h5] at hj ⊢
  split at hj
  ·rename_i h6
   rw [if_pos h6]
   have:j=0:=by simpa using hj
   subst this;exact h4'.1
  ·rename_i h6
   rw [if_neg h6]
   rcases (by simp at hj;omega:j=0∨j=1) with rfl|rfl
   ·exact h4'.1
   ·exact h4'.2
theorem JX {n:Nd}:(xa n).length≤2:=by
 unfold xa
 split
 ·exact Nat.zero_le _
 ·split<;>simp
def kP:List AV→AHeap→(AV→Prop)→Prop
 |[.slice _ 7 x,.int .i64 i],_,K=>∃ t k,(x=nds t∧i=((k:Nat):Int)∧k<t.length∧Good t∧t.length≤1000)∧K (.bool (wb t k))
 |_,_,_=>False
theorem IA:EntOk Tryz.prog 285 (Ent.pure kP):=by
 refine Ype fun _ H K h=>?_
 unfold kP at h
 split at h
 rotate_left
 ·exact h.elim
 rename_i m x i
 obtain ⟨t,k,⟨rfl,rfl,hk,hg,hl⟩,hK⟩:=h
 refine ⟨_,hK,?_⟩
 clear hK
 obtain ⟨g1,g2,g3,g4⟩:=iL hg hk
 have hQ:AM t (BF t[k].op) (xa t[k])=wb t k:=by
  rw [y5 hk]
  refine K6 ⟨g1,g2⟩ ?_
  rcases g4 with h|h
  ·exact .inl h
  ·exact .inr (by omega)
 generalize wb t k=Q at *
 refine Yfv ax (tCq vD (tCq Ad tNq)) Tryz.func285 [.tmp 4] fun hcl hlt=>?_
 have hm:∀ n',H.nx≤n'→AV.lt n' (.slice m 7 (nds t)):=fun n' hn=>AV.lt_mono hn _ (hlt (.slice m 7 (nds t)) (by simp))
 clear hlt
 simp only [go_sem,aJ,c7 hk,iNq,k7,ot]
 refine ⟨by omega,t[k].op,⟨rfl,g1,g2⟩,t[k],⟨rfl,g1,g2⟩,?_⟩
 simp only [go_sem,gT]
 have hol:=@JX t[k]
 have hon:=@L2 t hg k hk
 generalize xa t[k]=d at *
 refine az (A:=Nat × Nat) (fun a=>[(0,.slice m 7 (nds t)),(1,.int .i64 (k:Int)),(6,.int .i64 (a.2:Int)),(19,.slice .any 1 (its d)),(20,.int .i64 (d.length:Int)),(21,.int .i64 (a.1:Int))]) (fun a=>H)
  (fun a=>a.1≤d.length∧AM t a.2 (d.drop a.1)=Q) (fun a=>d.length - a.1) (0,BF t[k].op) ⟨by omega,hQ⟩ ?_ fun a ha=>?_
 ·exact Z38
 obtain ⟨j,w⟩:=a
 obtain ⟨hj,hq⟩:=ha
 dsimp only at hj hq ⊢
 simp only [go_sem]
 refine au (fun hc=>?_) (fun hc=>?_)
 ·have hj1:j<d.length:=by simp at hc;omega
  have e5:IntKind.i64.wrap ((j:Int)+1)=((j+1:Nat):Int):=by rw [wrap_i64]<;>omega
  have ha:=hon hj1
  have hdr:d.drop j=d.getD j 0::d.drop (j+1):=by rw [dcq hj1];simp [gEq,hj1]
  rw [hdr] at hq
  simp only [AM] at hq
  have hget:=@zb d j hj1
  generalize d.getD j 0=b at *
  have hb:b<t.length:=by omega
  obtain ⟨q1,q2,q3,q4⟩:=iL hg hb
  rw [zQ hb] at hq
  have d1:decide ((b:Int)<0)=false:=by simp
  have d2:decide ((b:Int) ≥ (k:Int))=false:=by simp;omega
  simp only [go_sem,gT,iNq,hget,d1,d2,aJ,c7 hb,k7]
  refine ⟨by omega,by omega,t[b].op,⟨rfl,q1,q2⟩,?_⟩
  generalize pj t[b].op=r at *
  by_cases hw:w=0
  ·subst hw
   have c1:(((0:Nat):Int)==0)=true:=rfl
   rw [if_pos (by rw [if_pos rfl]),if_pos rfl] at hq
   simp only [go_sem,c1,bne_self_eq_false,e5]
   exact Y161
  ·have c1:((w:Int)==0)=false:=by simp;omega
   rw [if_neg hw] at hq
   by_cases hr:r=w
   ·subst hr
    rw [if_pos rfl] at hq
    simp only [go_sem,c1,bne_self_eq_false,e5]
    exact Y161
   ·have c2:((r:Int) != (w:Int))=true:=by simp;omega
    rw [if_neg hr] at hq
    subst hq
    simp only [go_sem,c1,c2]
    exact Z0
 ·have hj1:j=d.length:=by simp at hc;omega
  subst hj1
  rw [List.drop_length] at hq
  subst hq
  simp only [go_sem,AM]
  exact Z0
theorem Lx:ti Tryz.prog 346=some ⟨.map 190 4,1,8,.nilm⟩:=by kernel_rfl
attribute [go_sem] Lx
def okT (t:List Nd):Prop:=Good t∧AllN we t∧t.length≤1000
def Cx (vs:List VN):Prop:=vs.length≤1000∧∀ v∈vs,v.1.length≤1000∧v.2.length≤1000
theorem oc:WideMaps.KeyLaw Tryz.prog 190:=deep_law (m:=3) (by decide) (by kernel_rfl) (by kernel_rfl) (by kernel_rfl)
theorem kK {v:VN} (h1:v.1.length≤1000) (h2:v.2.length≤1000):jq Tryz.prog 190 (.agg [.str v.1,.str v.2]) :=
 Hp (n:=Tryz.prog.types.size - 1) (by rw [Ff];rfl) (by rw [qN];rfl) (by kernel_rfl) (by kernel_rfl) (by kernel_rfl) (by kernel_rfl) h1 h2
theorem x9 {vs:List VN} (h:∀ v∈vs,v.1.length≤1000∧v.2.length≤1000) (k:Nat):∀ p∈qX (vs.take k),jq Tryz.prog 190 p.1:=by
 intro p hp
 obtain ⟨v,hv,rfl⟩:=Km hp
 obtain ⟨h1,h2⟩:=h v (List.mem_of_mem_take hv)
 exact kK h1 h2
def xf:List AV→AHeap→(AV→Prop)→Prop
 |[.slice _ 7 x,.slice _ 2 y],_,K=>∃ t vs,(x=nds t∧y=bz vs∧okT t∧Cx vs)∧K (.tup [.int .i64 ((chk (bV vs) t).1:Int),.int .i64 ((chk (bV vs) t).2:Int)])
 |_,_,_=>False
theorem Fv:EntOk Tryz.prog 125 (Ent.pure xf):=by
 refine Ype fun _ H K h=>?_
 unfold xf at h
 split at h
 rotate_left
 ·exact h.elim
 rename_i m x m2 y
 obtain ⟨t,vs,⟨rfl,rfl,⟨hg,hsh,hl⟩,hvl,hvs⟩,hK⟩:=h
 refine ⟨_,hK,?_⟩
 clear hK
 refine Yfv ax (tCq IA (tCq vD tNq)) Tryz.func125 [.tmp 4,.tmp 5] fun hcl hlt=>?_
 have hm:∀ n',H.nx≤n'→AV.lt n' (.slice m 7 (nds t)):=fun n' hn=>AV.lt_mono hn _ (hlt (.slice m 7 (nds t)) (by simp))
 have hm2:∀ n',H.nx≤n'→AV.lt n' (.slice m2 2 (bz vs)):=fun n' hn=>AV.lt_mono hn _ (hlt (.slice m2 2 (bz vs)) (by simp))
 clear hlt
 simp only [go_sem,zis,bH,aJ]
 refine az (A:=Nat × AHeap) (fun a=>[(0,.slice m 7 (nds t)),(6,.mapv H.nx),(13,.slice m2 2 (bz vs)),(14,.int .i64 (vs.length:Int)),(15,.int .i64 (a.1:Int))]) (fun a=>a.2)
  (fun a=>a.1≤vs.length∧H.Le a.2∧a.2.Closed∧a.2.get H.nx=some (.mapo (qX (vs.take a.1)))) (fun a=>vs.length - a.1) (0,H.push (.mapo [])) ⟨Nat.zero_le _,(lRq _).push _,vU hcl,AHeap.get_push_new _ _⟩ ?_ fun a ha=>?_
 ·(simp only [bkq,enterW,aK,ltF,ne_eq,Nat.reduceEqDiff,reduceCtorEq,hm,hm2];try simp (disch:=first|exact Zd|omega) [↓zmk,beq,ybc,ybd,ybe,af,wk,wk2,wk1,wkM,wkL,aj,ybf,byq,biq,ah,hcl,hm,hm2];try (repeat' (first|assumption|omega|exact True.intro|refine And.intro ?_ ?_|refine ag ?_|refine aa ?_|refine ae ?_ ?_|refine ai ?_ ?_|refine aq ?_|exact lRq _|refine lPq ?_ _|refine AHeap.Le.del ?_ ?_|(simp only [bt,and_true,true_and,hm,hm2];first|done|omega|(simp;done)))))
  exact vU hcl
 obtain ⟨k,Hc⟩:=a
 obtain ⟨hk,hle,hcc,hid⟩:=ha
 dsimp only at hk hle hcc hid ⊢
 have hnx:H.nx<Hc.nx:=glq hid
 have hne:(H.nx=Hc.nx)=False:=eq_false (by omega)
 simp only [go_sem]
 refine au (fun hc=>?_) (fun hc=>?_)
 ·have hk1:k<vs.length:=by simp at hc;omega
  have e5:=Yk5 k
  obtain ⟨v1,v2⟩:=hvs vs[k] (gMq hk1)
  simp only [go_sem,bH,jR hk1,iNq,ziu,hne,hid,e5]
  refine ⟨by omega,⟨oc,x9 hvs k,kK v1 v2,rfl,rfl⟩,(k+1,Hc.set H.nx (.mapo (qX (vs.take (k+1))))),⟨by dsimp only;omega,bF hle (nrq _),oO hcc,?_⟩,by dsimp only;omega,?_⟩
  ·dsimp only
   rw [aB,if_pos rfl,if_pos hnx]
  ·rw [Ft hk1]
   have hcs:=@oO Hc H.nx ((gg vs[k],.bool true)::qX (vs.take k)) hcc
   simp only [gg] at hcs ⊢
   (simp only [bkq,enterW,aK,ltF,ne_eq,Nat.reduceEqDiff,reduceCtorEq,hm,hm2,hcs];try simp (disch:=first|exact Zd|omega) [↓zmk,beq,ybc,ybd,ybe,af,wk,wk2,wk1,wkM,wkL,aj,ybf,byq,biq,ah,hcl,hm,hm2,hcs];try (repeat' (first|assumption|omega|exact True.intro|refine And.intro ?_ ?_|refine ag ?_|refine aa ?_|refine ae ?_ ?_|refine ai ?_ ?_|refine aq ?_|exact lRq _|refine lPq ?_ _|refine AHeap.Le.del ?_ ?_|(simp only [bt,and_true,true_and,hm,hm2,hcs];first|done|omega|(simp;done)))))
 ·have hk1:k=vs.length:=by simp at hc;omega
  subst hk1
  rw [List.take_length] at hid
  have hvg:∀ p∈qX vs,jq Tryz.prog 190 p.1:=by
   have:=x9 hvs vs.length
   rwa [List.take_length] at this
  have hle2:H.nx≤Hc.nx:=hle.nx
  simp only [go_sem,aJ]
  unfold chk
  obtain ⟨Q,hQ⟩:∃ Q,iQ (bV vs) t t.length 0=Q:=⟨_,rfl⟩
  rw [hQ]
  refine az (A:=Nat) (fun k=>[(0,.slice m 7 (nds t)),(6,.mapv H.nx),(22,.slice m 7 (nds t)),(23,.int .i64 (t.length:Int)),(24,.int .i64 (k:Int))]) (fun _=>Hc)
   (fun k=>k≤t.length∧iQ (bV vs) t (t.length - k) k=Q) (fun k=>t.length - k) 0 ⟨Nat.zero_le _,hQ⟩ ?_ fun k ha=>?_
  ·exact Z40
  obtain ⟨hk,hq⟩:=ha
  simp only [go_sem]
  refine au (fun hc=>?_) (fun hc=>?_)
  ·have hk1:k<t.length:=by simp at hc;omega
   have e5:=Yk5 k
   rw [uk hk1,tK hk1] at hq
   have hf:=y5 hk1
   obtain ⟨s1,s2,s3⟩:=hsh t[k] (gMq hk1)
   have hmg:nu (qX vs) (.agg [.str t[k].name,.str t[k].attr])=if bV vs (t[k].name,t[k].attr) then some (.bool true) else none:=Gy (x:=(t[k].name,t[k].attr))
   by_cases h3:t[k].op=3
   ·have d3:((t[k].op:Int)==3)=true:=by simp [h3]
    cases hkn:bV vs (t[k].name,t[k].attr)
    ·rw [hkn,if_neg Bool.false_ne_true] at hmg
     have hz:jB (bV vs) t t[k]=6:=by unfold jB;rw [if_pos ⟨h3,hkn⟩]
     rw [hz,if_neg (by decide)] at hq
     subst hq
     simp only [go_sem,aJ,c7 hk1,iNq,zit,hid,hne,hmg,kP,e5,d3]
     refine ⟨by omega,⟨oc,hvg,kK (v:=(t[k].name,t[k].attr)) s1 s2,rfl⟩,?_⟩
     exact Z41
    ·rw [hkn,if_pos rfl] at hmg
     have hx:¬ (t[k].op=3∧bV vs (t[k].name,t[k].attr)=false):=fun h=>by rw [hkn] at h;cases h.2
     simp only [go_sem,aJ,c7 hk1,iNq,zit,hid,hne,hmg,kP,e5,d3]
     refine ⟨by omega,⟨oc,hvg,kK (v:=(t[k].name,t[k].attr)) s1 s2,rfl⟩,?_⟩
     exact Y33
   ·have d3:((t[k].op:Int)==3)=false:=beq_eq_false_iff_ne.2 (by omega)
    have hx:¬ (t[k].op=3∧bV vs (t[k].name,t[k].attr)=false):=fun h=>h3 h.1
    simp only [go_sem,aJ,c7 hk1,iNq,zit,hid,hne,hmg,kP,e5,d3]
    refine ⟨by omega,?_⟩
    exact Y33
  ·have hk1:k=t.length:=by simp at hc;omega
   subst hk1
   rw [Nat.sub_self] at hq
   have hq':none=Q:=hq
   subst hq'
   by_cases ht0:t.length=0
   ·have d1:decide (IntKind.i64.wrap ((t.length:Int) - 1)<0)=true:=by rw [ht0];rfl
    rw [if_pos ht0]
    simp only [go_sem,aJ,d1]
    exact Z41
   ·have e6:IntKind.i64.wrap ((t.length:Int) - 1)=((t.length - 1:Nat):Int):=by rw [wrap_i64]<;>omega
    have d1:decide (((t.length - 1:Nat):Int)<0)=false:=by simp
    have hk2:t.length - 1<t.length:=by omega
    obtain ⟨g1,g2,_⟩:=iL hg hk2
    rw [if_neg ht0]
    have hna:=AF hk2
    rw [zQ hk2] at hna
    rw [hna]
    rcases qJ t[t.length - 1].op with hr|hr
    ·have d2:((pj t[t.length - 1].op:Int) != 2)=true:=by rw [hr];rfl
     rw [hr,if_pos (show ((1:Nat)==1)=true from rfl)]
     exact Y109
    ·have d2:((pj t[t.length - 1].op:Int) != 2)=false:=by rw [hr];rfl
     rw [hr,if_neg (show ¬ ((2:Nat)==1)=true by decide)]
     exact Y109
def pX:List AV→AHeap→(AV→Prop)→Prop
 |[x],_,K=>∃ n,(x=kL n∧1≤n.op∧n.op≤16)∧K (.bool (lr n.op))
 |_,_,_=>False
theorem v9:EntOk Tryz.prog 414 (Ent.pure pX):=by
 refine Ype fun _ H K h=>?_
 unfold pX at h
 split at h
 rotate_left
 ·exact h.elim
 obtain ⟨n,⟨rfl,h1,h2⟩,hK⟩:=h
 refine ⟨_,hK,?_⟩
 clear hK
 cases hn:lr n.op
 ·have hx:¬ (n.op=1∨n.op=3∨n.op=4∨n.op=6∨n.op=7):=fun h=>by rw [isNum_cases.2 h] at hn;cases hn
  have d1:((n.op:Int)==1)=false:=beq_eq_false_iff_ne.2 (by omega)
  have d3:((n.op:Int)==3)=false:=beq_eq_false_iff_ne.2 (by omega)
  have d4:((n.op:Int)==4)=false:=beq_eq_false_iff_ne.2 (by omega)
  have d6:((n.op:Int)==6)=false:=beq_eq_false_iff_ne.2 (by omega)
  have d7:((n.op:Int)==7)=false:=beq_eq_false_iff_ne.2 (by omega)
  refine Yfv ax tNq Tryz.func414 [.tmp 2] fun hcl hlt=>?_
  clear hlt
  simp only [go_sem,kL,d1,d3,d4,d6,d7]
  exact Z0
 ·skip
  refine Yfv ax tNq Tryz.func414 [.tmp 2] fun hcl hlt=>?_
  exact Y91
theorem bqs:((false==false)=true)∧((true==true)=true)∧((false==true)=false)∧((true==false)=false):=by decide
theorem DK {v x:VN} {l:List VN}:bV (v::l) x=(decide (v=x)||bV l x):=by
 unfold bV
 rw [List.contains_cons]
 congr 1
 rw [Bool.eq_iff_iff];simp;exact ⟨fun h=>h.symm,fun h=>h.symm⟩
theorem IM:Tryz.prog.eqGuardType Tryz.prog.depth 211=false:=by kernel_rfl
theorem Jg {a b c d:List UInt8}:teq Tryz.prog 9 211 (.agg [.str a,.str b]) (.agg [.str c,.str d])=some (decide ((a,b)=((c,d):VN))):=by
 have g1:Tryz.prog.stoodInHeld 211=false:=by kernel_rfl
 simp [Ep,teq,teq.go,teq.part,qN,ceq,g1,TD.agg]
 rw [Bool.eq_iff_iff];simp
def Ao:List AV→AHeap→(AV→Prop)→Prop
 |[.slice _ 7 x,y,.slice _ 2 z],_,K=>∃ t k vs,(x=nds t∧y=kL (t.getD k default)∧k<t.length∧z=bz vs∧okT t∧Cx vs)∧K (.int .i64 (oK (bV vs) t k:Int))
 |_,_,_=>False
theorem Jz:EntOk Tryz.prog 413 (Ent.pure Ao):=by
 refine Ype fun _ H K h=>?_
 unfold Ao at h
 split at h
 rotate_left
 ·exact h.elim
 rename_i m x y m2 z
 obtain ⟨t,k,vs,⟨rfl,hy,hk,rfl,⟨hg,hsh,hl⟩,hvl,hvs⟩,hK⟩:=h
 have hgd:t.getD k default=t[k]:=by simp [gEq,hk]
 rw [hgd] at hy
 subst hy
 rw [tK hk] at hK
 refine ⟨_,hK,?_⟩
 clear hK
 obtain ⟨g1,g2,g3,g4⟩:=iL hg hk
 obtain ⟨s1,s2,s3⟩:=hsh t[k] (gMq hk)
 generalize t[k]=n at *
 have ha:n.a<t.length:=by
  rcases g4 with h|h
  ·have:=s3 h;omega
  ·omega
 have hb:n.b<t.length:=by
  rcases g4 with h|h
  ·have:=s3 h;omega
  ·omega
 obtain ⟨a1,a2,_⟩:=iL hg ha
 obtain ⟨b1,b2,_⟩:=iL hg hb
 have hna:=ik ha
 have hnb:=ik hb
 have hga:=c7 ha
 have hgb:=c7 hb
 refine ACalls.fW ax (tCq v9 tNq) Tryz.func413 [.tmp 6] (nrq _) (T:=av [(1,[[],[],[],[],[],[2,4],[],[],[],[],[],[2,4,5,8,10]])]) (h:=fun hcl hlt=>?_)
 have hm:∀ n',H.nx≤n'→AV.lt n' (.slice m 7 (nds t)):=fun n' hn=>AV.lt_mono hn _ (hlt (.slice m 7 (nds t)) (by simp))
 have hm2:∀ n',H.nx≤n'→AV.lt n' (.slice m2 2 (bz vs)):=fun n' hn=>AV.lt_mono hn _ (hlt (.slice m2 2 (bz vs)) (by simp))
 clear hlt
 simp only [go_sem,kL,aJ,iNq,hga,hgb,pX]
 refine ⟨by omega,t[n.a],⟨rfl,a1,a2⟩,by omega,t[n.b],⟨rfl,b1,b2⟩,?_⟩
 by_cases h3:n.op=3
 ·have hi:(n.op:Int)=3:=by omega
  obtain ⟨Q,hQ⟩:∃ Q,bV vs (n.name,n.attr)=Q:=⟨_,rfl⟩
  have hE:jB (bV vs) t n=if Q=false then 6 else 0:=by
   unfold jB
   rw [hQ]
   cases Q
   ·rw [if_pos ⟨h3,rfl⟩];rfl
   ·rw [if_neg (fun h=>by cases h.2)]
    simp [jv,h3]
  rw [hE]
  simp only [go_sem,hi,Int.reduceBEq,bH]
  refine az (A:=Nat) (fun j=>[(4,.ptr H.nx 0),(30,.slice m2 2 (bz vs)),(31,.int .i64 (vs.length:Int)),(32,.int .i64 (j:Int))])
   (fun _=>H.push (.cells [.int .i64 (n.op:Int),.int .i64 (n.a:Int),.int .i64 (n.b:Int),.str n.name,.str n.attr,.int .u64 ((n.v/2^64:Nat):Int),.int .u64 ((n.v % 2^64:Nat):Int)])) (fun j=>j≤vs.length∧bV (vs.drop j) (n.name,n.attr)=Q) (fun j=>vs.length - j) 0 ⟨Nat.zero_le _,hQ⟩ ?_ fun j hj=>?_
  ·rw [← hi]
   exact Z42
  obtain ⟨hj,hq⟩:=hj
  simp only [go_sem]
  refine au (fun hc=>?_) (fun hc=>?_)
  ·have hj1:j<vs.length:=by simp at hc;omega
   have e5:IntKind.i64.wrap ((j:Int)+1)=((j+1:Nat):Int):=by rw [wrap_i64]<;>omega
   have hne:(H.nx=H.nx+1)=False:=eq_false (by omega)
   rw [dcq hj1,DK] at hq
   simp only [go_sem,bH,jR hj1,iNq,hne,Jg,IM,e5]
   refine ⟨by omega,?_⟩
   cases hv:decide (vs[j]=(n.name,n.attr))
   ·rw [hv,Bool.false_or] at hq
    have hv':decide ((vs[j].1,vs[j].2)=(n.name,n.attr))=false:=hv
    simp only [go_sem,hv',Bool.bne_false,Bool.bne_true,bqs,Bool.not_true,Bool.not_false]
    exact Y140
   ·rw [hv,Bool.true_or] at hq
    subst hq
    have hv':decide ((vs[j].1,vs[j].2)=(n.name,n.attr))=true:=hv
    simp only [go_sem,hv',Bool.bne_false,Bool.bne_true,bqs,Bool.not_true,Bool.not_false]
    exact Z0
  ·have hj1:j=vs.length:=by simp at hc;omega
   subst hj1
   rw [List.drop_length] at hq
   have hq':false=Q:=hq
   subst hq'
   exact Y47
 have hE0:jB (bV vs) t n=if jv t n=true then 0 else 12:=by unfold jB;rw [if_neg (fun h=>h3 h.1)]
 obtain ⟨E,hE⟩:∃ E,(if jv t n=true then 0 else 12)=E:=⟨_,rfl⟩
 rw [hE0,hE]
 clear hE0
 generalize lr t[n.a].op=A at *
 generalize lr t[n.b].op=B at *
 rcases (by omega:n.op=1∨n.op=2∨n.op=4∨n.op=5∨n.op=8∨n.op=9∨n.op=14∨n.op=15∨n.op=16∨(n.op=6∨n.op=7∨(10≤n.op∧n.op≤13))) with h|h|h|h|h|h|h|h|h|h
 ·have hi:(n.op:Int)=1:=by omega
  exact Y14
 ·have hi:(n.op:Int)=2:=by omega
  exact Y14
 ·have hi:(n.op:Int)=4:=by omega
  exact Y14
 ·have hi:(n.op:Int)=5:=by omega
  exact Y14
 ·have hi:(n.op:Int)=8:=by omega
  exact Y14
 ·have hi:(n.op:Int)=9:=by omega
  exact Y14
 ·have hi:(n.op:Int)=14:=by omega
  exact Y14
 ·have hi:(n.op:Int)=15:=by omega
  exact Y14
 ·have hi:(n.op:Int)=16:=by omega
  exact Y14
 ·have x1:¬ n.op≤3:=by omega
  have x2:¬ n.op=4:=by omega
  have x3:¬ n.op=5:=by omega
  have x4:¬ (n.op=8∨n.op=9):=by omega
  have x5:¬ 14≤n.op:=by omega
  have d1:((n.op:Int)==1)=false:=beq_eq_false_iff_ne.2 (by omega)
  have d2:((n.op:Int)==2)=false:=beq_eq_false_iff_ne.2 (by omega)
  have d3:((n.op:Int)==3)=false:=beq_eq_false_iff_ne.2 (by omega)
  have d4:((n.op:Int)==4)=false:=beq_eq_false_iff_ne.2 (by omega)
  have d5:((n.op:Int)==5)=false:=beq_eq_false_iff_ne.2 (by omega)
  have d8:((n.op:Int)==8)=false:=beq_eq_false_iff_ne.2 (by omega)
  have d9:((n.op:Int)==9)=false:=beq_eq_false_iff_ne.2 (by omega)
  have d14:((n.op:Int)==14)=false:=beq_eq_false_iff_ne.2 (by omega)
  have d15:((n.op:Int)==15)=false:=beq_eq_false_iff_ne.2 (by omega)
  have d16:((n.op:Int)==16)=false:=beq_eq_false_iff_ne.2 (by omega)
  unfold jv at hE
  rw [if_neg x1,if_neg x2,if_neg x3,if_neg x4,if_neg x5,hna,hnb] at hE
  cases A<;>cases B <;>
  ·simp at hE
   subst hE
   simp only [go_sem,d1,d2,d3,d4,d5,d8,d9,d14,d15,d16]
   exact Z0
def wS:List AV→AHeap→(AV→Prop)→Prop
 |[.slice _ 7 x,.slice _ 2 y],_,K=>∃ t vs,(x=nds t∧y=bz vs∧okT t∧Cx vs)∧K (.tup [.int .i64 ((chk (bV vs) t).1:Int),.int .i64 ((chk (bV vs) t).2:Int)])
 |_,_,_=>False
theorem F1:EntOk Tryz.prog 293 (Ent.pure wS):=by
 refine Ype fun _ H K h=>?_
 unfold wS at h
 split at h
 rotate_left
 ·exact h.elim
 rename_i m x m2 y
 obtain ⟨t,vs,⟨rfl,rfl,hot,hov⟩,hK⟩:=h
 obtain ⟨hg,hsh,hl⟩:=id hot
 refine ⟨_,hK,?_⟩
 clear hK
 refine Yfv ax (tCq Jz (tCq v9 tNq)) Tryz.func293 [.tmp 4,.tmp 5] fun hcl hlt=>?_
 have hm:∀ n',H.nx≤n'→AV.lt n' (.slice m 7 (nds t)):=fun n' hn=>AV.lt_mono hn _ (hlt (.slice m 7 (nds t)) (by simp))
 have hm2:∀ n',H.nx≤n'→AV.lt n' (.slice m2 2 (bz vs)):=fun n' hn=>AV.lt_mono hn _ (hlt (.slice m2 2 (bz vs)) (by simp))
 clear hlt
 simp only [go_sem,aJ]
 unfold chk
 obtain ⟨Q,hQ⟩:∃ Q,iQ (bV vs) t t.length 0=Q:=⟨_,rfl⟩
 rw [hQ]
 refine az (A:=Nat) (fun k=>[(0,.slice m 7 (nds t)),(1,.slice m2 2 (bz vs)),(9,.slice m 7 (nds t)),(10,.int .i64 (t.length:Int)),(11,.int .i64 (k:Int))]) (fun _=>H)
  (fun k=>k≤t.length∧iQ (bV vs) t (t.length - k) k=Q) (fun k=>t.length - k) 0 ⟨Nat.zero_le _,hQ⟩ ?_ fun k ha=>?_
 ·exact Z43
 obtain ⟨hk,hq⟩:=ha
 simp only [go_sem]
 refine au (fun hc=>?_) (fun hc=>?_)
 ·have hk1:k<t.length:=by simp at hc;omega
  have e5:=Yk5 k
  rw [uk hk1] at hq
  have hgd:t.getD k default=t[k]:=by simp [gEq,hk1]
  have hnd:AV.agg [.int .i64 (t[k].op:Int),.int .i64 (t[k].a:Int),.int .i64 (t[k].b:Int),.str t[k].name,.str t[k].attr,.int .u64 ((t[k].v/2^64:Nat):Int),.int .u64 ((t[k].v % 2^64:Nat):Int)]=kL (t.getD k default):=by rw [hgd];rfl
  have he:=@Cf (bV vs) t k
  obtain ⟨E,hE⟩:∃ E,oK (bV vs) t k=E:=⟨_,rfl⟩
  rw [hE] at hq
  simp only [go_sem,aJ,c7 hk1,iNq,Ao,e5]
  refine ⟨by omega,t,k,vs,⟨rfl,hnd,hk1,rfl,hot,hov⟩,?_⟩
  rw [hE]
  by_cases hz:E=0
  ·have d1:((E:Int) != 0)=false:=by rw [hz];rfl
   rw [if_pos hz] at hq
   simp only [go_sem,d1,e5]
   refine ⟨k+1,⟨by omega,hq⟩,by omega,?_⟩
   exact Z43
  ·have d1:((E:Int) != 0)=true:=bne_iff_ne.2 (by omega)
   rw [if_neg hz] at hq
   subst hq
   simp only [go_sem,d1]
   exact Z0
 ·have hk1:k=t.length:=by simp at hc;omega
  subst hk1
  rw [Nat.sub_self] at hq
  have hq':none=Q:=hq
  subst hq'
  by_cases ht0:t.length=0
  ·have d1:((t.length:Int)==0)=true:=by rw [ht0];rfl
   rw [if_pos ht0]
   simp only [go_sem,aJ,d1]
   exact Z0
  ·have e6:IntKind.i64.wrap ((t.length:Int) - 1)=((t.length - 1:Nat):Int):=by rw [wrap_i64]<;>omega
   have d1:((t.length:Int)==0)=false:=beq_eq_false_iff_ne.2 (by omega)
   have hk2:t.length - 1<t.length:=by omega
   obtain ⟨g1,g2,_⟩:=iL hg hk2
   rw [if_neg ht0,ik hk2]
   simp only [go_sem,aJ,c7 hk2,iNq,e6,d1,pX]
   refine ⟨by omega,t[t.length - 1],⟨rfl,g1,g2⟩,?_⟩
   cases lr t[t.length - 1].op
   ·rw [if_neg Bool.false_ne_true]
    simp only [go_sem,e6,aJ]
    exact Z0
   ·rw [if_pos rfl]
    simp only [go_sem,e6,aJ]
    exact Z0
def gJ (x:List Nd × Nat):AV:=.tup [.slice .any 7 (nds x.1),.int .i64 (x.2:Int)]
theorem EH (l:List Tok) (r:PR):∃ i:Int,jy l r=.tup [.slice .any 7 (nds (fb l r).1),.int .i64 i,.int .i64 ((fb l r).2:Int)]:=by
 cases r with
 |bad q=>exact ⟨(q:Int),rfl⟩
 |ok a p t =>
  by_cases hp:p<l.length
  ·exact ⟨(p:Int),by simp only [jy,fb];rw [if_pos hp,if_pos hp];rfl⟩
  ·by_cases hb:sA t=true
   ·exact ⟨0,by simp only [jy,fb];rw [if_neg hp,if_neg hp,if_pos hb,if_pos (show LA t=true from hb)];rfl⟩
   ·exact ⟨0,by simp only [jy,fb];rw [if_neg hp,if_neg hp,if_neg hb,if_neg (show ¬ LA t=true from hb)];rfl⟩
def nK:List AV→AHeap→(AV→Prop)→Prop
 |[.str s,.slice _ 2 y],_,K=>∃ vs,(y=bz vs∧Cx vs∧s.length≤140737488355328)∧K (gJ (comp (bV vs) s))
 |_,_,_=>False
theorem AU:EntOk Tryz.prog 53 (Ent.pure nK):=by
 refine Ype fun _ H K h=>?_
 unfold nK at h
 split at h
 rotate_left
 ·exact h.elim
 rename_i s m2 y
 obtain ⟨vs,⟨rfl,hov,hsl⟩,hK⟩:=h
 refine ⟨_,hK,?_⟩
 clear hK
 refine Yfv ax (tCq tA (tCq Jn (tCq Fz (tCq Fv tNq)))) Tryz.func53 [.tmp 4,.tmp 5] fun hcl hlt=>?_
 have hm2:∀ n',H.nx≤n'→AV.lt n' (.slice m2 2 (bz vs)):=fun n' hn=>AV.lt_mono hn _ (hlt (.slice m2 2 (bz vs)) (by simp))
 clear hlt
 unfold comp
 by_cases hs:s=[]
 ·subst hs
  have d1:(([]:List UInt8)==[])=true:=rfl
  rw [if_pos rfl]
  simp only [go_sem,d1,um]
  exact Z44
 ·have d1:(s==[])=false:=by simp [hs]
  rw [if_neg hs]
  obtain ⟨hg1,hg2⟩:=sN s
  obtain ⟨f,hf⟩:=uY (ct s).1
  generalize prs (ct s).1=r at *
  obtain ⟨i,hpi⟩:=EH (ct s).1 r
  obtain ⟨hpg,hpl,_⟩:=oN hf
  have hps:=rK hg2 hf
  generalize fb (ct s).1 r=te at *
  obtain ⟨t,e⟩:=te
  dsimp only at hpi hpg hpl hps
  have hot:okT t:=⟨hpg,hps,by omega⟩
  obtain ⟨hc1,hc2⟩:=@Kt (bV vs) t
  unfold Bw
  by_cases he0:(ct s).2.2=0
  ·have d2:((((ct s).2.2:Nat):Int) != 0)=false:=by rw [he0];rfl
   rw [if_neg (fun h=>h he0)]
   simp only [go_sem,d1,uP,pk,hsl,d2,wP]
   refine ⟨(ct s).1,f,r,⟨rfl,hf,by omega,hg2⟩,?_⟩
   simp only [go_sem,hpi]
   by_cases he:e=0
   ·subst he
    have d3:(((0:Nat):Int) != 0)=false:=rfl
    rw [if_neg (fun h=>h rfl)]
    simp only [go_sem,d3,xf]
    exact Y57
   ·exact Y141
  ·have d2:((((ct s).2.2:Nat):Int) != 0)=true:=bne_iff_ne.2 (by omega)
   rw [if_pos he0]
   simp only [go_sem,d1,uP,pk,hsl,d2]
   exact Z46
end Go.AL
