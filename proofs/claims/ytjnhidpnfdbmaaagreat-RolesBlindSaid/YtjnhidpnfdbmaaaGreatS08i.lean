/- Lemmas of the proof; no condition. -/
import Derived.Test.YtjnhidpnfdbmaaaGreatS07p
import Derived.Test.YtjnhidpnfdbmaaaGreatLTyp
import Derived.Test.YtjnhidpnfdbmaaaGreatAlMap
import Derived.Test.YtjnhidpnfdbmaaaGreatS07w
import Derived.Test.YtjnhidpnfdbmaaaGreatS10e
set_option linter.all false
set_option maxRecDepth 10000
set_option maxHeartbeats 32000000
open List renaming length_cons → yaz, length_nil → yba, take_of_length_le → ybc, drop_append → ybd, take_append → ybe, drop_eq_nil_of_le → ybf, length_map → ybb, map_cons → yae, map_nil → yaf
open Go Go.AL Go.Proofs
namespace Go.AL
theorem JR:ti Tryz.prog 228=some ⟨.struct [(0,3,false),(1,3,false)],2,16,.agg [.int .i64 0,.int .i64 0]⟩:=by kernel_rfl
theorem Gj:ti Tryz.prog 261=some ⟨.slice 228,1,24,.slice .nil 1 []⟩:=by kernel_rfl
theorem BX:ti Tryz.prog 186=some ⟨.struct [(0,9,false),(1,9,false)],2,32,.agg [.str [],.str []]⟩:=by kernel_rfl
theorem E5:ti Tryz.prog 142=some ⟨.slice 186,1,24,.slice .nil 1 []⟩:=by kernel_rfl
theorem G0:ti Tryz.prog 153=some ⟨.slice 208,1,24,.slice .nil 1 []⟩:=by kernel_rfl
theorem IM:ti Tryz.prog 208=some ⟨.struct [(0,9,false),(1,9,false)],2,32,.agg [.str [],.str []]⟩:=by kernel_rfl
attribute [go_sem] JR Gj BX E5 G0 IM
def rulesL:List AV:=(List.range 16).map fun i=>.agg [.int .i64 (yD (i+1):Int),.int .i64 (mT (i+1):Int)]
theorem Dx:rulesL=[.agg [.int .i64 0,.int .i64 1],.agg [.int .i64 0,.int .i64 2],.agg [.int .i64 0,.int .i64 1],.agg [.int .i64 1,.int .i64 1],.agg [.int .i64 2,.int .i64 2],.agg [.int .i64 1,.int .i64 1],.agg [.int .i64 1,.int .i64 1],.agg [.int .i64 0,.int .i64 2],
 .agg [.int .i64 0,.int .i64 2],.agg [.int .i64 1,.int .i64 2],.agg [.int .i64 1,.int .i64 2],.agg [.int .i64 1,.int .i64 2],.agg [.int .i64 1,.int .i64 2],.agg [.int .i64 2,.int .i64 2],.agg [.int .i64 2,.int .i64 2],.agg [.int .i64 2,.int .i64 2]]:=by rfl
theorem AJ {k:Nat} (h:k<16):rulesL.getD k .junk=.agg [.int .i64 (yD (k+1):Int),.int .i64 (mT (k+1):Int)]:=by
 simp [rulesL,gEq,h]
theorem Ah:rulesL.length=16:=by simp [rulesL]
def ul:List AV→AHeap→(AV→Prop)→Prop
 |[],_,K=>K (.slice .any 2 rulesL)
 |_,_,_=>False
theorem Es:EntOk Tryz.prog 178 (Ent.pure ul):=by
 refine Ype fun _ H K h=>?_
 unfold ul at h
 split at h
 rotate_left
 ·exact h.elim
 refine ⟨_,h,?_⟩
 clear h
 rw [Dx]
 refine ACalls.fW au tNq Tryz.func178 [.tmp 0] (nrq _) (T:=aq []) (h:=fun hcl hlt=>?_)
 clear hlt
 simp only [go_sem]
 simp (disch:=first|exact Zd|omega) [↓zmo,beq,ybc,ybd,ybe,ae,wk,wk2,wk1,wkM,wkL,ah,ybf,hcl,aF,znr,znu,znv,znf]
def jy:List AV→AHeap→(AV→Prop)→Prop
 |[.int .i64 n],_,K=>∃ op:Nat,(n=(op:Int)∧1≤op∧op≤16)∧K (.agg [.int .i64 (yD op:Int),.int .i64 (mT op:Int)])
 |_,_,_=>False
theorem tD:EntOk Tryz.prog 151 (Ent.pure jy):=by
 refine Ype fun _ H K h=>?_
 unfold jy at h
 split at h
 rotate_left
 ·exact h.elim
 obtain ⟨op,⟨rfl,h1,h2⟩,hK⟩:=h
 refine ⟨_,hK,?_⟩
 clear hK
 refine ACalls.fW au (tCq Es tNq) Tryz.func151 [.cell 2 228] (nrq _) (T:=aq []) (h:=fun hcl hlt=>?_)
 clear hlt
 have d1:decide ((op:Int)<1)=false:=by simp;omega
 have d2:decide ((op:Int) > 16)=false:=by simp;omega
 have e1:IntKind.i64.wrap ((op:Int) - 1)=((op - 1:Nat):Int):=by rw [wrap_i64]<;>omega
 have e2:rulesL.getD (op - 1) .junk=.agg [.int .i64 (yD op:Int),.int .i64 (mT op:Int)]:=by rw [AJ (by omega),show op - 1+1=op by omega]
 simp only [go_sem,d1,d2,e1,ul,Ah,iNq,e2]
 refine ⟨by omega,?_⟩
 simp (disch:=first|exact Zd|omega) [↓zmo,beq,ybc,ybd,ybe,ae,wk,wk2,wk1,wkM,wkL,ah,ybf,hcl,znr,znu,znv,znf]
def mC:List AV→AHeap→(AV→Prop)→Prop
 |[x],_,K=>∃ n,(x=qP n∧1≤n.op∧n.op≤16)∧K (.slice .any 1 (its (sJ n)))
 |_,_,_=>False
theorem wQ:EntOk Tryz.prog 177 (Ent.pure mC):=by
 refine Ype fun _ H K h=>?_
 unfold mC at h
 split at h
 rotate_left
 ·exact h.elim
 obtain ⟨n,⟨rfl,h1,h2⟩,hK⟩:=h
 refine ⟨_,hK,?_⟩
 clear hK
 unfold sJ
 by_cases h3:n.op≤3
 ·rw [if_pos h3]
  refine ACalls.fW au tNq Tryz.func177 [.tmp 2] (nrq _) (T:=aq []) (h:=fun hcl hlt=>?_)
  clear hlt
  rcases (by omega:(n.op:Int)=1∨(n.op:Int)=2∨(n.op:Int)=3) with h|h|h <;>
  ·simp only [go_sem,qP,h,Int.reduceBEq]
   exact Z19
 rw [if_neg h3]
 by_cases h4:n.op=4∨n.op=5
 ·rw [if_pos h4]
  refine ACalls.fW au tNq Tryz.func177 [.tmp 2] (nrq _) (T:=aq []) (h:=fun hcl hlt=>?_)
  clear hlt
  rcases (by omega:(n.op:Int)=4∨(n.op:Int)=5) with h|h <;>
  ·simp only [go_sem,qP,h,Int.reduceBEq]
   exact Z19
 ·rw [if_neg h4]
  have d1:((n.op:Int)==1)=false:=beq_eq_false_iff_ne.2 (by omega)
  have d2:((n.op:Int)==2)=false:=beq_eq_false_iff_ne.2 (by omega)
  have d3:((n.op:Int)==3)=false:=beq_eq_false_iff_ne.2 (by omega)
  have d4:((n.op:Int)==4)=false:=beq_eq_false_iff_ne.2 (by omega)
  have d5:((n.op:Int)==5)=false:=beq_eq_false_iff_ne.2 (by omega)
  refine ACalls.fW au tNq Tryz.func177 [.tmp 2] (nrq _) (T:=aq []) (h:=fun hcl hlt=>?_)
  clear hlt
  simp only [go_sem,qP,d1,d2,d3,d4,d5]
  exact Z19
def tK (t:List Nd) (k:Nat):Bool:=match t[k]? with
 |some n=>Cy t n
 |none=>true
theorem wi {t:List Nd} {k:Nat} (h:k<t.length):tK t k=Cy t t[k]:=by
 unfold tK;rw [gQq h]
theorem pk {t:List Nd} (hg:Good t) {k:Nat} (h:k<t.length):1≤t[k].op∧t[k].op≤16∧t[k].v<2^128∧(t[k].op≤3∨(t[k].a<k∧t[k].b<k)):=hg k t[k] (gQq h)
theorem HY {t:List Nd} (hg:Good t) {k:Nat} (h:k<t.length) {j:Nat} (hj:j<(sJ t[k]).length):(sJ t[k]).getD j 0<k:=by
 obtain ⟨h1,h2,h3,h4⟩:=pk hg h
 generalize t[k]=n at *
 unfold sJ at *
 by_cases h5:n.op≤3
 ·rw [if_pos h5] at hj;exact absurd hj (Nat.not_lt_zero _)
 ·have h4':n.a<k∧n.b<k:=by omega
  rw [if_neg h5] at hj ⊢
  split at hj
  ·rename_i h6
   rw [if_pos h6]
   have:j=0:=by simpa using hj
   subst this;exact h4'.1
  ·rename_i h6
   rw [if_neg h6]
   rcases (by simp at hj;omega:j=0∨j=1) with rfl|rfl
   ·exact h4'.1
   ·exact h4'.2
theorem FB {n:Nd}:(sJ n).length≤2:=by
 unfold sJ
 split
 ·exact Nat.zero_le _
 ·split<;>simp
def jq:List AV→AHeap→(AV→Prop)→Prop
 |[.slice _ 7 x,.int .i64 i],_,K=>∃ t k,(x=nds t∧i=((k:Nat):Int)∧k<t.length∧Good t∧t.length≤1000)∧K (.bool (tK t k))
 |_,_,_=>False
theorem Fs:EntOk Tryz.prog 150 (Ent.pure jq):=by
 refine Ype fun _ H K h=>?_
 unfold jq at h
 split at h
 rotate_left
 ·exact h.elim
 rename_i m x i
 obtain ⟨t,k,⟨rfl,rfl,hk,hg,hl⟩,hK⟩:=h
 refine ⟨_,hK,?_⟩
 clear hK
 obtain ⟨g1,g2,g3,g4⟩:=pk hg hk
 have hQ:wM t (yD t[k].op) (sJ t[k])=tK t k:=by
  rw [wi hk]
  refine JN ⟨g1,g2⟩ ?_
  rcases g4 with h|h
  ·exact .inl h
  ·exact .inr (by omega)
 generalize tK t k=Q at *
 refine ACalls.fW au (tCq tD (tCq wQ tNq)) Tryz.func150 [.tmp 4] (nrq _) (T:=aq []) (h:=fun hcl hlt=>?_)
 have hm:∀ n',H.nx≤n'→AV.lt n' (.slice m 7 (nds t)):=fun n' hn=>AV.lt_mono hn _ (hlt (.slice m 7 (nds t)) (by simp))
 clear hlt
 simp only [go_sem,a9,fQ hk,iNq,jy,mC]
 refine ⟨by omega,t[k].op,⟨rfl,g1,g2⟩,t[k],⟨rfl,g1,g2⟩,?_⟩
 simp only [go_sem,jO]
 have hol:=@FB t[k]
 have hon:=@HY t hg k hk
 generalize sJ t[k]=d at *
 refine az (A:=Nat × Nat) (fun a=>[(0,.slice m 7 (nds t)),(1,.int .i64 (k:Int)),(6,.int .i64 (a.2:Int)),(19,.slice .any 1 (its d)),(20,.int .i64 (d.length:Int)),(21,.int .i64 (a.1:Int))]) (fun a=>H)
  (fun a=>a.1≤d.length∧wM t a.2 (d.drop a.1)=Q) (fun a=>d.length - a.1) (0,yD t[k].op) ⟨by omega,hQ⟩ ?_ fun a ha=>?_
 ·exact Z18
 obtain ⟨j,w⟩:=a
 obtain ⟨hj,hq⟩:=ha
 dsimp only at hj hq ⊢
 simp only [go_sem]
 refine ai (fun hc=>?_) (fun hc=>?_)
 ·have hj1:j<d.length:=by simp at hc;omega
  have e5:IntKind.i64.wrap ((j:Int)+1)=((j+1:Nat):Int):=by rw [wrap_i64]<;>omega
  have ha:=hon hj1
  have hdr:d.drop j=d.getD j 0::d.drop (j+1):=by rw [dcq hj1];simp [gEq,hj1]
  rw [hdr] at hq
  simp only [wM] at hq
  have hget:=@wz d j hj1
  generalize d.getD j 0=b at *
  have hb:b<t.length:=by omega
  obtain ⟨q1,q2,q3,q4⟩:=pk hg hb
  rw [ww hb] at hq
  have d1:decide ((b:Int)<0)=false:=by simp
  have d2:decide ((b:Int) ≥ (k:Int))=false:=by simp;omega
  simp only [go_sem,jO,iNq,hget,d1,d2,a9,fQ hb,jy]
  refine ⟨by omega,by omega,t[b].op,⟨rfl,q1,q2⟩,?_⟩
  generalize mT t[b].op=r at *
  by_cases hw:w=0
  ·subst hw
   have c1:(((0:Nat):Int)==0)=true:=rfl
   rw [if_pos (by rw [if_pos rfl]),if_pos rfl] at hq
   simp only [go_sem,c1,bne_self_eq_false,e5]
   refine ⟨(j+1,r),⟨by dsimp only;omega,hq⟩,by dsimp only;omega,?_⟩
   exact Z18
  ·have c1:((w:Int)==0)=false:=by simp;omega
   rw [if_neg hw] at hq
   by_cases hr:r=w
   ·subst hr
    rw [if_pos rfl] at hq
    simp only [go_sem,c1,bne_self_eq_false,e5]
    refine ⟨(j+1,r),⟨by dsimp only;omega,hq⟩,by dsimp only;omega,?_⟩
    exact Z18
   ·have c2:((r:Int) != (w:Int))=true:=by simp;omega
    rw [if_neg hr] at hq
    subst hq
    simp only [go_sem,c1,c2]
    exact Z0
 ·have hj1:j=d.length:=by simp at hc;omega
  subst hj1
  rw [List.drop_length] at hq
  subst hq
  simp only [go_sem,wM]
  exact Z0
theorem JC:ti Tryz.prog 225=some ⟨.map 186 4,1,8,.nilm⟩:=by kernel_rfl
attribute [go_sem] JC
def okT (t:List Nd):Prop:=Good t∧AllN s9 t∧t.length≤1000
def Iq (vs:List VN):Prop:=vs.length≤1000∧∀ v∈vs,v.1.length≤1000∧v.2.length≤1000
theorem mj:Maps.Keyed Tryz.prog 186:=Maps.Keyed.of_law (deep_law (m:=3) (by decide) (by kernel_rfl) (by kernel_rfl) (by kernel_rfl))
theorem jo {v:VN} (h1:v.1.length≤1000) (h2:v.2.length≤1000):fJ Tryz.prog 186 (.agg [.str v.1,.str v.2]) :=
 Dr (n:=Tryz.prog.types.size - 1) (by rw [BX];rfl) (by rw [sU];rfl) (by kernel_rfl) (by kernel_rfl) (by kernel_rfl) (by kernel_rfl) h1 h2
theorem v4 {vs:List VN} (h:∀ v∈vs,v.1.length≤1000∧v.2.length≤1000) (k:Nat):∀ p∈oD (vs.take k),fJ Tryz.prog 186 p.1:=by
 intro p hp
 obtain ⟨v,hv,rfl⟩:=HE hp
 obtain ⟨h1,h2⟩:=h v (List.mem_of_mem_take hv)
 exact jo h1 h2
def uC:List AV→AHeap→(AV→Prop)→Prop
 |[.slice _ 7 x,.slice _ 2 y],_,K=>∃ t vs,(x=nds t∧y=cd vs∧okT t∧Iq vs)∧K (.tup [.int .i64 ((chk (bQ vs) t).1:Int),.int .i64 ((chk (bQ vs) t).2:Int)])
 |_,_,_=>False
theorem Ei:EntOk Tryz.prog 116 (Ent.pure uC):=by
 refine Ype fun _ H K h=>?_
 unfold uC at h
 split at h
 rotate_left
 ·exact h.elim
 rename_i m x m2 y
 obtain ⟨t,vs,⟨rfl,rfl,⟨hg,hsh,hl⟩,hvl,hvs⟩,hK⟩:=h
 refine ⟨_,hK,?_⟩
 clear hK
 refine ACalls.fW au (tCq Fs (tCq tD tNq)) Tryz.func116 [.tmp 4,.tmp 5] (nrq _) (T:=aq []) (h:=fun hcl hlt=>?_)
 have hm:∀ n',H.nx≤n'→AV.lt n' (.slice m 7 (nds t)):=fun n' hn=>AV.lt_mono hn _ (hlt (.slice m 7 (nds t)) (by simp))
 have hm2:∀ n',H.nx≤n'→AV.lt n' (.slice m2 2 (cd vs)):=fun n' hn=>AV.lt_mono hn _ (hlt (.slice m2 2 (cd vs)) (by simp))
 clear hlt
 simp only [go_sem,ziw,bV,a9]
 refine az (A:=Nat × AHeap) (fun a=>[(0,.slice m 7 (nds t)),(6,.mapv H.nx),(13,.slice m2 2 (cd vs)),(14,.int .i64 (vs.length:Int)),(15,.int .i64 (a.1:Int))]) (fun a=>a.2)
  (fun a=>a.1≤vs.length∧H.Le a.2∧a.2.Closed∧a.2.get H.nx=some (.mapo (oD (vs.take a.1)))) (fun a=>vs.length - a.1) (0,H.push (.mapo [])) ⟨Nat.zero_le _,(lRq _).push _,tf hcl,AHeap.get_push_new _ _⟩ ?_ fun a ha=>?_
 ·(simp only [bkq,enterW,aJ,ltF,ne_eq,Nat.reduceEqDiff,reduceCtorEq,hm,hm2];try simp (disch:=first|exact Zd|omega) [↓zmo,beq,ybc,ybd,ybe,ae,wk,wk2,wk1,wkM,wkL,ah,ybf,byq,biq,aG,hcl,hm,hm2];try (repeat' (first|assumption|omega|exact True.intro|refine And.intro ?_ ?_|refine ag ?_|refine af ?_|refine aa ?_ ?_|refine aj ?_ ?_|refine ay ?_|exact lRq _|refine lPq ?_ _|refine AHeap.Le.del ?_ ?_|(simp only [bt,and_true,true_and,hm,hm2];first|done|omega|(simp;done)))))
  exact tf hcl
 obtain ⟨k,Hc⟩:=a
 obtain ⟨hk,hle,hcc,hid⟩:=ha
 dsimp only at hk hle hcc hid ⊢
 have hnx:H.nx<Hc.nx:=glq hid
 have hne:(H.nx=Hc.nx)=False:=eq_false (by omega)
 simp only [go_sem]
 refine ai (fun hc=>?_) (fun hc=>?_)
 ·have hk1:k<vs.length:=by simp at hc;omega
  have e5:=Yk5 k
  obtain ⟨v1,v2⟩:=hvs vs[k] (gMq hk1)
  simp only [go_sem,bV,lA hk1,iNq,ziy,hne,hid,e5]
  refine ⟨by omega,⟨mj,v4 hvs k,jo v1 v2,rfl,rfl⟩,(k+1,Hc.set H.nx (.mapo (oD (vs.take (k+1))))),⟨by dsimp only;omega,cU hle (nrq _),mZ hcc,?_⟩,by dsimp only;omega,?_⟩
  ·dsimp only
   rw [bv,if_pos rfl,if_pos hnx]
  ·rw [EB hk1]
   have hcs:=@mZ Hc H.nx ((fZ vs[k],.bool true)::oD (vs.take k)) hcc
   simp only [fZ] at hcs ⊢
   (simp only [bkq,enterW,aJ,ltF,ne_eq,Nat.reduceEqDiff,reduceCtorEq,hm,hm2,hcs];try simp (disch:=first|exact Zd|omega) [↓zmo,beq,ybc,ybd,ybe,ae,wk,wk2,wk1,wkM,wkL,ah,ybf,byq,biq,aG,hcl,hm,hm2,hcs];try (repeat' (first|assumption|omega|exact True.intro|refine And.intro ?_ ?_|refine ag ?_|refine af ?_|refine aa ?_ ?_|refine aj ?_ ?_|refine ay ?_|exact lRq _|refine lPq ?_ _|refine AHeap.Le.del ?_ ?_|(simp only [bt,and_true,true_and,hm,hm2,hcs];first|done|omega|(simp;done)))))
 ·have hk1:k=vs.length:=by simp at hc;omega
  subst hk1
  rw [List.take_length] at hid
  have hvg:∀ p∈oD vs,fJ Tryz.prog 186 p.1:=by
   have:=v4 hvs vs.length
   rwa [List.take_length] at this
  have hle2:H.nx≤Hc.nx:=hle.nx
  simp only [go_sem,a9]
  unfold chk
  obtain ⟨Q,hQ⟩:∃ Q,iJ (bQ vs) t t.length 0=Q:=⟨_,rfl⟩
  rw [hQ]
  refine az (A:=Nat) (fun k=>[(0,.slice m 7 (nds t)),(6,.mapv H.nx),(22,.slice m 7 (nds t)),(23,.int .i64 (t.length:Int)),(24,.int .i64 (k:Int))]) (fun _=>Hc)
   (fun k=>k≤t.length∧iJ (bQ vs) t (t.length - k) k=Q) (fun k=>t.length - k) 0 ⟨Nat.zero_le _,hQ⟩ ?_ fun k ha=>?_
  ·exact Z20
  obtain ⟨hk,hq⟩:=ha
  simp only [go_sem]
  refine ai (fun hc=>?_) (fun hc=>?_)
  ·have hk1:k<t.length:=by simp at hc;omega
   have e5:=Yk5 k
   rw [yh hk1,vw hk1] at hq
   have hf:=wi hk1
   obtain ⟨s1,s2,s3⟩:=hsh t[k] (gMq hk1)
   have hmg:i0 (oD vs) (.agg [.str t[k].name,.str t[k].attr])=if bQ vs (t[k].name,t[k].attr) then some (.bool true) else none:=C3 (x:=(t[k].name,t[k].attr))
   by_cases h3:t[k].op=3
   ·have d3:((t[k].op:Int)==3)=true:=by simp [h3]
    cases hkn:bQ vs (t[k].name,t[k].attr)
    ·rw [hkn,if_neg Bool.false_ne_true] at hmg
     have hz:km (bQ vs) t t[k]=6:=by unfold km;rw [if_pos ⟨h3,hkn⟩]
     rw [hz,if_neg (by decide)] at hq
     subst hq
     simp only [go_sem,a9,fQ hk1,iNq,zix,hid,hne,hmg,jq,e5,d3]
     refine ⟨by omega,⟨mj,hvg,jo (v:=(t[k].name,t[k].attr)) s1 s2,rfl⟩,?_⟩
     exact Z21
    ·rw [hkn,if_pos rfl] at hmg
     have hx:¬ (t[k].op=3∧bQ vs (t[k].name,t[k].attr)=false):=fun h=>by rw [hkn] at h;cases h.2
     simp only [go_sem,a9,fQ hk1,iNq,zix,hid,hne,hmg,jq,e5,d3]
     refine ⟨by omega,⟨mj,hvg,jo (v:=(t[k].name,t[k].attr)) s1 s2,rfl⟩,?_⟩
     cases hfb:tK t k
     ·have hz:km (bQ vs) t t[k]=12:=by unfold km;rw [if_neg hx,← hf,hfb];rfl
      rw [hz,if_neg (by decide)] at hq
      subst hq
      refine ⟨t,k,⟨rfl,rfl,hk1,hg,hl⟩,?_⟩
      simp only [go_sem,a9,fQ hk1,iNq,zix,hid,hne,hmg,jq,e5,d3,hfb]
      exact Z21
     ·have hz:km (bQ vs) t t[k]=0:=by unfold km;rw [if_neg hx,← hf,hfb];rfl
      rw [hz,if_pos rfl] at hq
      refine ⟨t,k,⟨rfl,rfl,hk1,hg,hl⟩,?_⟩
      simp only [go_sem,a9,fQ hk1,iNq,zix,hid,hne,hmg,jq,e5,d3,hfb]
      refine ⟨k+1,⟨by omega,hq⟩,by omega,?_⟩
      exact Z20
   ·have d3:((t[k].op:Int)==3)=false:=beq_eq_false_iff_ne.2 (by omega)
    have hx:¬ (t[k].op=3∧bQ vs (t[k].name,t[k].attr)=false):=fun h=>h3 h.1
    simp only [go_sem,a9,fQ hk1,iNq,zix,hid,hne,hmg,jq,e5,d3]
    refine ⟨by omega,?_⟩
    cases hfb:tK t k
    ·have hz:km (bQ vs) t t[k]=12:=by unfold km;rw [if_neg hx,← hf,hfb];rfl
     rw [hz,if_neg (by decide)] at hq
     subst hq
     refine ⟨t,k,⟨rfl,rfl,hk1,hg,hl⟩,?_⟩
     simp only [go_sem,a9,fQ hk1,iNq,zix,hid,hne,hmg,jq,e5,d3,hfb]
     exact Z21
    ·have hz:km (bQ vs) t t[k]=0:=by unfold km;rw [if_neg hx,← hf,hfb];rfl
     rw [hz,if_pos rfl] at hq
     refine ⟨t,k,⟨rfl,rfl,hk1,hg,hl⟩,?_⟩
     simp only [go_sem,a9,fQ hk1,iNq,zix,hid,hne,hmg,jq,e5,d3,hfb]
     refine ⟨k+1,⟨by omega,hq⟩,by omega,?_⟩
     exact Z20
  ·have hk1:k=t.length:=by simp at hc;omega
   subst hk1
   rw [Nat.sub_self] at hq
   have hq':none=Q:=hq
   subst hq'
   by_cases ht0:t.length=0
   ·have d1:decide (IntKind.i64.wrap ((t.length:Int) - 1)<0)=true:=by rw [ht0];rfl
    rw [if_pos ht0]
    simp only [go_sem,a9,d1]
    exact Z21
   ·have e6:IntKind.i64.wrap ((t.length:Int) - 1)=((t.length - 1:Nat):Int):=by rw [wrap_i64]<;>omega
    have d1:decide (((t.length - 1:Nat):Int)<0)=false:=by simp
    have hk2:t.length - 1<t.length:=by omega
    obtain ⟨g1,g2,_⟩:=pk hg hk2
    rw [if_neg ht0]
    have hna:=wv hk2
    rw [ww hk2] at hna
    rw [hna]
    rcases ou t[t.length - 1].op with hr|hr
    ·have d2:((mT t[t.length - 1].op:Int) != 2)=true:=by rw [hr];rfl
     rw [hr,if_pos (show ((1:Nat)==1)=true from rfl)]
     simp only [go_sem,a9,fQ hk2,iNq,e6,d1,d2,jy]
     refine ⟨by omega,t[t.length - 1].op,⟨rfl,g1,g2⟩,?_⟩
     simp only [go_sem,d2]
     exact Z21
    ·have d2:((mT t[t.length - 1].op:Int) != 2)=false:=by rw [hr];rfl
     rw [hr,if_neg (show ¬ ((2:Nat)==1)=true by decide)]
     simp only [go_sem,a9,fQ hk2,iNq,e6,d1,d2,jy]
     refine ⟨by omega,t[t.length - 1].op,⟨rfl,g1,g2⟩,?_⟩
     simp only [go_sem,d2]
     exact Z21
def kA (x:List Nd × Nat):AV:=.tup [.slice .any 7 (nds x.1),.int .i64 (x.2:Int)]
theorem Jh (l:List Tok) (r:PR):∃ i:Int,lD l r=.tup [.slice .any 7 (nds (dX l r).1),.int .i64 i,.int .i64 ((dX l r).2:Int)]:=by
 cases r with
 |bad q=>exact ⟨(q:Int),rfl⟩
 |ok a p t =>
  by_cases hp:p<l.length
  ·exact ⟨(p:Int),by simp only [lD,dX];rw [if_pos hp,if_pos hp];rfl⟩
  ·by_cases hb:yj t=true
   ·exact ⟨0,by simp only [lD,dX];rw [if_neg hp,if_neg hp,if_pos hb,if_pos (show H7 t=true from hb)];rfl⟩
   ·exact ⟨0,by simp only [lD,dX];rw [if_neg hp,if_neg hp,if_neg hb,if_neg (show ¬ H7 t=true from hb)];rfl⟩
def lR:List AV→AHeap→(AV→Prop)→Prop
 |[.str s,.slice _ 2 y],_,K=>∃ vs,(y=cd vs∧Iq vs∧s.length≤140737488355328)∧K (kA (comp (bQ vs) s))
 |_,_,_=>False
theorem yl:EntOk Tryz.prog 78 (Ent.pure lR):=by
 refine Ype fun _ H K h=>?_
 unfold lR at h
 split at h
 rotate_left
 ·exact h.elim
 rename_i s m2 y
 obtain ⟨vs,⟨rfl,hov,hsl⟩,hK⟩:=h
 refine ⟨_,hK,?_⟩
 clear hK
 refine ACalls.fW au (tCq qt (tCq ES (tCq EF (tCq Ei tNq)))) Tryz.func78 [.tmp 4,.tmp 5] (nrq _) (T:=aq []) (h:=fun hcl hlt=>?_)
 have hm2:∀ n',H.nx≤n'→AV.lt n' (.slice m2 2 (cd vs)):=fun n' hn=>AV.lt_mono hn _ (hlt (.slice m2 2 (cd vs)) (by simp))
 clear hlt
 unfold comp
 by_cases hs:s=[]
 ·subst hs
  have d1:(([]:List UInt8)==[])=true:=rfl
  rw [if_pos rfl]
  simp only [go_sem,d1,rA]
  simp (disch:=first|exact Zd|omega) [↓zmo,beq,ybc,ybd,ybe,ae,wk,wk2,wk1,wkM,wkL,ah,ybf,hcl,kA,oneT,nds,qP,zns,aF,znr,znf,znh,znu,znv]
 ·have d1:(s==[])=false:=by simp [hs]
  rw [if_neg hs]
  obtain ⟨hg1,hg2⟩:=xM s
  obtain ⟨f,hf⟩:=xz (cD s).1
  generalize prs (cD s).1=r at *
  obtain ⟨i,hpi⟩:=Jh (cD s).1 r
  obtain ⟨hpg,hpl,_⟩:=ri hf
  have hps:=xP hg2 hf
  generalize dX (cD s).1 r=te at *
  obtain ⟨t,e⟩:=te
  dsimp only at hpi hpg hpl hps
  have hot:okT t:=⟨hpg,hps,by omega⟩
  obtain ⟨hc1,hc2⟩:=@KX (bQ vs) t
  unfold Co
  by_cases he0:(cD s).2.2=0
  ·have d2:((((cD s).2.2:Nat):Int) != 0)=false:=by rw [he0];rfl
   rw [if_neg (fun h=>h he0)]
   simp only [go_sem,d1,sE,xC,hsl,d2,tS]
   refine ⟨(cD s).1,f,r,⟨rfl,hf,by omega,hg2⟩,?_⟩
   simp only [go_sem,hpi]
   by_cases he:e=0
   ·subst he
    have d3:(((0:Nat):Int) != 0)=false:=rfl
    rw [if_neg (fun h=>h rfl)]
    simp only [go_sem,d3,uC]
    refine ⟨t,vs,⟨rfl,rfl,hot,hov⟩,?_⟩
    by_cases hch:(chk (bQ vs) t).2=0
    ·have d4:((((chk (bQ vs) t).2:Nat):Int) != 0)=false:=by rw [hch];rfl
     rw [if_neg (fun h=>h hch)]
     simp only [go_sem,d4]
     simp (disch:=first|exact Zd|omega) [↓zmo,beq,ybc,ybd,ybe,ae,wk,wk2,wk1,wkM,wkL,ah,ybf,hcl,kA,zns,qA,znf,znu,znv]
    ·have d4:((((chk (bQ vs) t).2:Nat):Int) != 0)=true:=bne_iff_ne.2 (by omega)
     rw [if_pos hch]
     simp only [go_sem,d4]
     exact Z22
   ·have d3:((e:Int) != 0)=true:=bne_iff_ne.2 (by omega)
    rw [if_pos he]
    simp only [go_sem,d3]
    exact Z22
  ·have d2:((((cD s).2.2:Nat):Int) != 0)=true:=bne_iff_ne.2 (by omega)
   rw [if_pos he0]
   simp only [go_sem,d1,sE,xC,hsl,d2]
   exact Z22
theorem Iv:ti Tryz.prog 102=some ⟨.struct [(0,9,false),(1,3,false),(2,3,false)],3,32,.agg [.str [],.int .i64 0,.int .i64 0]⟩:=by kernel_rfl
theorem E2:ti Tryz.prog 89=some ⟨.slice 102,1,24,.slice .nil 1 []⟩:=by kernel_rfl
theorem EG:ti Tryz.prog 91=some ⟨.struct [(0,3,false),(1,9,false),(2,89,false),(3,50,false),(4,3,false),(5,24,false),(6,3,false),(7,9,false)],8,128,.agg [.int .i64 0,.str [],.slice .nil 1 [],.slice .nil 1 [],.int .i64 0,.slice .nil 1 [],.int .i64 0,.str []]⟩:=by kernel_rfl
theorem EA:ti Tryz.prog 110=some ⟨.struct [(0,9,false),(1,3,false)],2,24,.agg [.str [],.int .i64 0]⟩:=by kernel_rfl
theorem AH:ti Tryz.prog 104=some ⟨.slice 110,1,24,.slice .nil 1 []⟩:=by kernel_rfl
theorem AC:ti Tryz.prog 107=some ⟨.struct [(0,3,false),(1,9,false),(2,104,false),(3,105,false),(4,9,false)],5,88,.agg [.int .i64 0,.str [],.slice .nil 1 [],.slice .nil 1 [],.str []]⟩:=by kernel_rfl
theorem E3:ti Tryz.prog 124=some ⟨.slice 9,1,24,.slice .nil 1 []⟩:=by kernel_rfl
attribute [go_sem] Iv E2 EG EA AH AC E3
def wU:List AV→AHeap→(AV→Prop)→Prop
 |[.int .i64 k],_,K=>K (.slice .any 1 (sAV (mV k)))
 |_,_,_=>False
theorem Gp:EntOk Tryz.prog 117 (Ent.pure wU):=by
 refine Ype fun _ H K h=>?_
 unfold wU at h
 split at h
 rotate_left
 ·exact h.elim
 rename_i k
 refine ⟨_,h,?_⟩
 clear h
 unfold mV
 by_cases h1:k=1
 ·subst h1
  rw [if_pos rfl]
  refine ACalls.fW au tNq Tryz.func117 [.tmp 2] (nrq _) (T:=aq []) (h:=fun hcl hlt=>?_)
  clear hlt
  simp only [go_sem,Int.reduceBEq]
  exact Z23
 rw [if_neg h1]
 have d1:(k==1)=false:=beq_eq_false_iff_ne.2 h1
 by_cases h2:k=2
 ·subst h2
  rw [if_pos rfl]
  refine ACalls.fW au tNq Tryz.func117 [.tmp 2] (nrq _) (T:=aq []) (h:=fun hcl hlt=>?_)
  clear hlt
  simp only [go_sem,Int.reduceBEq]
  exact Z23
 rw [if_neg h2]
 have d2:(k==2)=false:=beq_eq_false_iff_ne.2 h2
 by_cases h3:k=3
 ·subst h3
  rw [if_pos rfl]
  refine ACalls.fW au tNq Tryz.func117 [.tmp 2] (nrq _) (T:=aq []) (h:=fun hcl hlt=>?_)
  clear hlt
  simp only [go_sem,Int.reduceBEq]
  exact Z23
 rw [if_neg h3]
 have d3:(k==3)=false:=beq_eq_false_iff_ne.2 h3
 by_cases h4:k=4
 ·subst h4
  rw [if_pos rfl]
  refine ACalls.fW au tNq Tryz.func117 [.tmp 2] (nrq _) (T:=aq []) (h:=fun hcl hlt=>?_)
  clear hlt
  simp only [go_sem,Int.reduceBEq]
  exact Z23
 rw [if_neg h4]
 have d4:(k==4)=false:=beq_eq_false_iff_ne.2 h4
 refine ACalls.fW au tNq Tryz.func117 [.tmp 2] (nrq _) (T:=aq []) (h:=fun hcl hlt=>?_)
 clear hlt
 simp only [go_sem,d1,d2,d3,d4]
 simp (disch:=first|exact Zd|omega) [↓zmo,beq,ybc,ybd,ybe,ae,wk,wk2,wk1,wkM,wkL,ah,ybf,hcl,sAV]
theorem pZ {l:List SKey}:(l.map bU).length=l.length:=ybb ..
theorem xV {l:List SKey} {k:Nat} (h:k<l.length):(l.map bU).getD k .junk=.agg [.str l[k].name,.int .i64 l[k].field,.int .i64 l[k].kind]:=by
 simp [gEq,h,bU]
def nM (l:List SKey):List VN:=(l.flatMap fun k=>gF k.name k.kind)++[pm]
def lM:List AV→AHeap→(AV→Prop)→Prop
 |[.agg [_,_,.slice _ 3 x,_,_,_,_,_]],_,K=>∃ keys,(x=keys.map bU∧keys.length≤1000)∧K (.slice .any 2 (cd (nM keys)))
 |_,_,_=>False
theorem oz {α β:Type} {f:α→List β} {l:List α} {k:Nat} (h:k<l.length):(l.take (k+1)).flatMap f=(l.take k).flatMap f++f l[k]:=by
 rw [← List.take_append_getElem h,List.flatMap_append];simp
theorem qX {n:List UInt8} {k:Int}:(gF n k).length≤2:=by
 unfold gF mV
 rw [ybb]
 split
 ·simp
 ·split
  ·simp
  ·split
   ·simp
   ·split<;>simp
theorem mc {l:List SKey}:∀ {k:Nat},((l.take k).flatMap fun k=>gF k.name k.kind).length≤2*k
 |0=>by simp
 |k+1=>by
  rcases Nat.lt_or_ge k l.length with h|h
  ·rw [oz h,lAq]
   have:=mc (l:=l) (k:=k)
   have:=@qX l[k].name l[k].kind
   omega
  ·rw [ybc (by omega:l.length≤k+1),← ybc h]
   have:=mc (l:=l) (k:=k)
   omega
theorem nQ:EntOk Tryz.prog 79 (Ent.pure lM):=by
 refine Ype fun _ H K h=>?_
 unfold lM at h
 split at h
 rotate_left
 ·exact h.elim
 rename_i a1 a2 m x a3 a4 a5 a6 a7
 obtain ⟨keys,⟨rfl,hl⟩,hK⟩:=h
 refine ⟨_,hK,?_⟩
 clear hK
 refine ACalls.fW au (tCq Gp tNq) Tryz.func79 [.tmp 2] (nrq _) (T:=aq []) (h:=fun hcl hlt=>?_)
 have hx:=AV.lt_mono (Nat.le_succ H.nx) _ (hlt (.agg [a1,a2,.slice m 3 (keys.map bU),a3,a4,a5,a6,a7]) (by simp))
 have hm:∀ n',H.nx≤n'→AV.lt n' (.slice m 3 (keys.map bU)):=fun n' hn=>AV.lt_mono hn _ (by have h1:=hlt (.agg [a1,a2,.slice m 3 (keys.map bU),a3,a4,a5,a6,a7]) (by simp);rw [znr] at h1;exact h1.2.2.1)
 simp only [znr] at hx
 clear hlt
 simp only [go_sem,pZ]
 refine az (A:=Nat × AHeap) (fun a=>[(3,.slice (.own (H.nx+1+1)) 2 (cd ((keys.take a.1).flatMap fun k=>gF k.name k.kind))),(9,.slice m 3 (keys.map bU)),(10,.int .i64 (keys.length:Int)),(11,.int .i64 (a.1:Int))]) (fun a=>a.2)
  (fun a=>a.1≤keys.length∧H.Le a.2∧a.2.Closed∧a.2.get (H.nx+1+1)=some (.buf 2 ((keys.take a.1).flatMap fun k=>gF k.name k.kind).length)) (fun a=>keys.length - a.1)
  (0,((H.push (.cells [a1,a2,.slice m 3 (keys.map bU),a3,a4,a5,a6,a7])).push (.buf 2 0)).push (.buf 2 0)) ⟨Nat.zero_le _,(((lRq _).push _).push _).push _,ag (ag (aa hcl hx)),AHeap.get_push_new _ _⟩ ?_ fun a ha=>?_
 ·have hc0:=ag (a:=2) (b:=0) (ag (a:=2) (b:=0) (aa hcl hx))
  (simp only [bkq,enterW,aJ,ltF,ne_eq,Nat.reduceEqDiff,reduceCtorEq,hc0,hm,aY];try simp (disch:=first|exact Zd|omega) [↓zmo,beq,ybc,ybd,ybe,ae,wk,wk2,wk1,wkM,wkL,ah,ybf,byq,biq,aG,hcl,hc0,hm,aY];try (repeat' (first|assumption|omega|exact True.intro|refine And.intro ?_ ?_|refine ag ?_|refine af ?_|refine aa ?_ ?_|refine aj ?_ ?_|refine ay ?_|exact lRq _|refine lPq ?_ _|refine AHeap.Le.del ?_ ?_|(simp only [bt,and_true,true_and,hc0,hm,aY];first|done|omega|(simp;done)))))
  simp [cd]
 obtain ⟨k,Hc⟩:=a
 obtain ⟨hk,hle,hcc,hid⟩:=ha
 dsimp only at hk hle hcc hid ⊢
 have hnx:=glq hid
 simp only [go_sem]
 refine ai (fun hc=>?_) (fun hc=>?_)
 ·have hk1:k<keys.length:=by simp at hc;omega
  have e5:=Yk5 k
  have hfl:=@mc keys k
  have hkl:=@qX keys[k].name keys[k].kind
  have hkv:gF keys[k].name keys[k].kind=(mV keys[k].kind).map fun a=>(keys[k].name,a):=rfl
  simp only [go_sem,pZ,xV hk1,iNq,wU]
  generalize mV keys[k].kind=at0 at *
  have hk0:gF keys[k].name keys[k].kind=at0.map fun a=>(keys[k].name,a):=hkv
  have hal:at0.length≤2:=by rw [hk0,ybb] at hkl;exact hkl
  refine ⟨by omega,?_⟩
  simp only [go_sem,lE]
  refine az (A:=Nat × AHeap) (fun a=>[(3,.slice (.own (H.nx+1+1)) 2 (cd (((keys.take k).flatMap fun k=>gF k.name k.kind)++(at0.take a.1).map fun x=>(keys[k].name,x)))),(5,.ptr Hc.nx 0),(9,.slice m 3 (keys.map bU)),(10,.int .i64 (keys.length:Int)),(11,.int .i64 (k:Int)),(17,.slice .any 1 (sAV at0)),(18,.int .i64 (at0.length:Int)),(19,.int .i64 (a.1:Int))]) (fun a=>a.2)
   (fun a=>a.1≤at0.length∧H.Le a.2∧a.2.Closed∧a.2.get (H.nx+1+1)=some (.buf 2 (((keys.take k).flatMap fun k=>gF k.name k.kind)++(at0.take a.1).map fun x=>(keys[k].name,x)).length)∧a.2.get Hc.nx=some (.cells [.str keys[k].name,.int .i64 keys[k].field,.int .i64 keys[k].kind])) (fun a=>at0.length - a.1)
   (0,Hc.push (.cells [.str keys[k].name,.int .i64 keys[k].field,.int .i64 keys[k].kind])) ⟨Nat.zero_le _,hle.push _,aa hcc (by simp [znu,znv,znh,znf]),?_,AHeap.get_push_new _ _⟩ ?_ fun a ha=>?_
  ·dsimp only
   rw [gPq _ _ hnx,hid];simp
  ·have hc0:=aa (cs:=[.str keys[k].name,.int .i64 keys[k].field,.int .i64 keys[k].kind]) hcc (by simp [znu,znv,znh,znf])
   have hnn:H.nx≤Hc.nx:=by omega
   (simp only [bkq,enterW,aJ,ltF,ne_eq,Nat.reduceEqDiff,reduceCtorEq,hc0,hm,aY,iL,hnn];try simp (disch:=first|exact Zd|omega) [↓zmo,beq,ybc,ybd,ybe,ae,wk,wk2,wk1,wkM,wkL,ah,ybf,byq,biq,aG,hcl,hc0,hm,aY,iL,hnn];try (repeat' (first|assumption|omega|exact True.intro|refine And.intro ?_ ?_|refine ag ?_|refine af ?_|refine aa ?_ ?_|refine aj ?_ ?_|refine ay ?_|exact lRq _|refine lPq ?_ _|refine AHeap.Le.del ?_ ?_|(simp only [bt,and_true,true_and,hc0,hm,aY,iL,hnn];first|done|omega|(simp;done)))))
  obtain ⟨j,Hd⟩:=a
  obtain ⟨hj,hle2,hcd,hid2,hky⟩:=ha
  dsimp only at hj hle2 hcd hid2 hky ⊢
  have hnx2:=glq hid2
  have hnx3:=glq hky
  simp only [go_sem]
  refine ai (fun hc=>?_) (fun hc=>?_)
  ·have hj1:j<at0.length:=by simp at hc;omega
   have e6:IntKind.i64.wrap ((j:Int)+1)=((j+1:Nat):Int):=by rw [wrap_i64]<;>omega
   have hsg:(sAV at0).getD j .junk=.str at0[j]:=by rw [B9 hj1];simp [gEq,hj1]
   have htk:(at0.take (j+1)).map (fun x=>(keys[k].name,x))=(at0.take j).map (fun x=>(keys[k].name,x))++[(keys[k].name,at0[j])]:=by rw [← List.take_append_getElem hj1,List.map_append];rfl
   have n1:(Hc.nx=Hd.nx)=False:=eq_false (by omega)
   have n2:(H.nx+1+1=Hd.nx)=False:=eq_false (by omega)
   simp only [go_sem,lE,hsg,iNq,hky,ax hky,hid2,bV,n1,n2,e6]
   obtain ⟨LL,hLL⟩:∃ LL,(((keys.take k).flatMap fun k=>gF k.name k.kind)++(at0.take j).map fun x=>(keys[k].name,x))=LL:=⟨_,rfl⟩
   have hll:LL.length≤2*k+2:=by rw [← hLL,lAq,ybb,List.length_take];omega
   have hln:((keys.take k).flatMap fun k=>gF k.name k.kind)++(at0.take (j+1)).map (fun x=>(keys[k].name,x))=LL++[(keys[k].name,at0[j])]:=by rw [htk,← List.append_assoc,hLL]
   have hsn:cd LL++[.agg [.str keys[k].name,.str at0[j]]]=cd (LL++[(keys[k].name,at0[j])]):=rn (v:=(keys[k].name,at0[j]))
   rw [hLL]
   refine ⟨by omega,⟨by omega,by omega,fun z hz=>by rw [List.mem_singleton.1 hz];rfl⟩,(j+1,Hd.set (H.nx+1+1) (.buf 2 (LL.length+1))),⟨by dsimp only;omega,cU hle2 (by omega),af hcd,?_,?_⟩,by dsimp only;omega,?_⟩
   ·dsimp only
    rw [bv,if_pos rfl,if_pos hnx2,hln];simp
   ·dsimp only
    rw [bv,if_neg (by omega),hky]
   ·have hnn:H.nx≤Hd.nx:=by omega
    have hcs:=@af Hd (H.nx+1+1) 2 (LL.length+1) hcd
    dsimp only
    rw [hln,hsn]
    (simp only [bkq,enterW,aJ,ltF,ne_eq,Nat.reduceEqDiff,reduceCtorEq,hcs,hm,aY,iL,hnn];try simp (disch:=first|exact Zd|omega) [↓zmo,beq,ybc,ybd,ybe,ae,wk,wk2,wk1,wkM,wkL,ah,ybf,byq,biq,aG,hcl,hcs,hm,aY,iL,hnn];try (repeat' (first|assumption|omega|exact True.intro|refine And.intro ?_ ?_|refine ag ?_|refine af ?_|refine aa ?_ ?_|refine aj ?_ ?_|refine ay ?_|exact lRq _|refine lPq ?_ _|refine AHeap.Le.del ?_ ?_|(simp only [bt,and_true,true_and,hcs,hm,aY,iL,hnn];first|done|omega|(simp;done)))))
  ·have hj1:j=at0.length:=by simp at hc;omega
   subst hj1
   rw [List.take_length,← hk0,← oz hk1] at hid2
   rw [List.take_length,← hk0,← oz (f:=fun k:SKey=>gF k.name k.kind) hk1]
   simp only [go_sem,e5]
   refine ⟨(k+1,Hd),⟨by dsimp only;omega,hle2,hcd,hid2⟩,by dsimp only;omega,?_⟩
   have hnn:H.nx≤Hd.nx:=by omega
   (simp only [bkq,enterW,aJ,ltF,ne_eq,Nat.reduceEqDiff,reduceCtorEq,hcd,hm,aY,hnn];try simp (disch:=first|exact Zd|omega) [↓zmo,beq,ybc,ybd,ybe,ae,wk,wk2,wk1,wkM,wkL,ah,ybf,byq,biq,aG,hcl,hcd,hm,aY,hnn];try (repeat' (first|assumption|omega|exact True.intro|refine And.intro ?_ ?_|refine ag ?_|refine af ?_|refine aa ?_ ?_|refine aj ?_ ?_|refine ay ?_|exact lRq _|refine lPq ?_ _|refine AHeap.Le.del ?_ ?_|(simp only [bt,and_true,true_and,hcd,hm,aY,hnn];first|done|omega|(simp;done)))))
 ·have hk1:k=keys.length:=by simp at hc;omega
  subst hk1
  rw [List.take_length] at hid
  rw [List.take_length]
  have hfl:=@mc keys keys.length
  rw [List.take_length] at hfl
  have n1:(H.nx+1+1=Hc.nx)=False:=eq_false (by omega)
  have htab:nM keys=(keys.flatMap fun k=>gF k.name k.kind)++[pm]:=rfl
  rw [htab]
  clear htab
  generalize (keys.flatMap fun k=>gF k.name k.kind)=G at *
  have hsn:cd G++[.agg [.str [112,114,105,111,114,105,116,121],.str []]]=cd (G++[pm]):=rn (v:=pm)
  simp only [go_sem,hid,n1,bV]
  refine ⟨⟨by omega,by omega,fun z hz=>by rw [List.mem_singleton.1 hz];rfl⟩,?_⟩
  rw [hsn]
  have hle3:=(cU hle (show H.nx≤H.nx+1+1 by omega) (o:=.buf 2 (G.length+1))).push (.buf 2 1)
  simp (disch:=first|exact Zd|omega) [↓zmo,beq,ybc,ybd,ybe,ae,wk,wk2,wk1,wkM,wkL,ah,ybf,hcl,hle3,aY]
theorem tF {l:List SParam}:(l.map cq).length=l.length:=ybb ..
theorem z5 {l:List SParam} {k:Nat} (h:k<l.length):(l.map cq).getD k .junk=.agg [.str l[k].name,.int .i64 l[k].bits]:=by
 simp [gEq,h,cq]
def gq (l:List SParam):List VN:=l.map fun p=>(p.name,[])
def kC:List AV→AHeap→(AV→Prop)→Prop
 |[.agg [_,_,.slice _ 2 x,_,_]],_,K=>∃ keys,(x=keys.map cq∧keys.length≤1000)∧K (.slice .any 2 (cd (gq keys)))
 |_,_,_=>False
theorem nb:EntOk Tryz.prog 82 (Ent.pure kC):=by
 refine Ype fun _ H K h=>?_
 unfold kC at h
 split at h
 rotate_left
 ·exact h.elim
 rename_i a1 a2 m x a3 a4
 obtain ⟨keys,⟨rfl,hl⟩,hK⟩:=h
 refine ⟨_,hK,?_⟩
 clear hK
 refine ACalls.fW au tNq Tryz.func82 [.tmp 2] (nrq _) (T:=aq []) (h:=fun hcl hlt=>?_)
 have hx:=AV.lt_mono (Nat.le_succ H.nx) _ (hlt (.agg [a1,a2,.slice m 2 (keys.map cq),a3,a4]) (by simp))
 have hm:∀ n',H.nx≤n'→AV.lt n' (.slice m 2 (keys.map cq)):=fun n' hn=>AV.lt_mono hn _ (by have h1:=hlt (.agg [a1,a2,.slice m 2 (keys.map cq),a3,a4]) (by simp);rw [znr] at h1;exact h1.2.2.1)
 simp only [znr] at hx
 clear hlt
 simp only [go_sem,tF]
 refine az (A:=Nat × AHeap) (fun a=>[(3,.slice (.own (H.nx+1+1)) 2 (cd (gq (keys.take a.1)))),(7,.slice m 2 (keys.map cq)),(8,.int .i64 (keys.length:Int)),(9,.int .i64 (a.1:Int))]) (fun a=>a.2)
  (fun a=>a.1≤keys.length∧H.Le a.2∧a.2.Closed∧a.2.get (H.nx+1+1)=some (.buf 2 (gq (keys.take a.1)).length)) (fun a=>keys.length - a.1)
  (0,((H.push (.cells [a1,a2,.slice m 2 (keys.map cq),a3,a4])).push (.buf 2 0)).push (.buf 2 0)) ⟨Nat.zero_le _,(((lRq _).push _).push _).push _,ag (ag (aa hcl hx)),AHeap.get_push_new _ _⟩ ?_ fun a ha=>?_
 ·have hc0:=ag (a:=2) (b:=0) (ag (a:=2) (b:=0) (aa hcl hx))
  (simp only [bkq,enterW,aJ,ltF,ne_eq,Nat.reduceEqDiff,reduceCtorEq,hc0,hm,aY];try simp (disch:=first|exact Zd|omega) [↓zmo,beq,ybc,ybd,ybe,ae,wk,wk2,wk1,wkM,wkL,ah,ybf,byq,biq,aG,hcl,hc0,hm,aY];try (repeat' (first|assumption|omega|exact True.intro|refine And.intro ?_ ?_|refine ag ?_|refine af ?_|refine aa ?_ ?_|refine aj ?_ ?_|refine ay ?_|exact lRq _|refine lPq ?_ _|refine AHeap.Le.del ?_ ?_|(simp only [bt,and_true,true_and,hc0,hm,aY];first|done|omega|(simp;done)))))
  simp [cd,gq]
 obtain ⟨k,Hc⟩:=a
 obtain ⟨hk,hle,hcc,hid⟩:=ha
 dsimp only at hk hle hcc hid ⊢
 have hnx:=glq hid
 simp only [go_sem]
 refine ai (fun hc=>?_) (fun hc=>?_)
 ·have hk1:k<keys.length:=by simp at hc;omega
  have e5:=Yk5 k
  have hfl:(gq (keys.take k)).length≤2*k:=by simp only [gq,ybb,List.length_take];omega
  have n1:(Hc.nx=H.nx+1+1)=False:=eq_false (by omega)
  have n2:(H.nx+1+1=Hc.nx)=False:=eq_false (by omega)
  have n3:(H.nx+1+1=Hc.nx+1)=False:=eq_false (by omega)
  obtain ⟨LL,hLL⟩:∃ LL,(gq (keys.take k))=LL:=⟨_,rfl⟩
  rw [hLL] at hid hfl ⊢
  have hnn:H.nx≤Hc.nx:=by omega
  have hln:gq (keys.take (k+1))=LL++[(keys[k].name,[])]:=by rw [← hLL,← List.take_append_getElem hk1];simp only [gq,List.map_append,yae,yaf]
  have hsn:cd LL++[.agg [.str keys[k].name,.str []]]=cd (LL++[(keys[k].name,[])]):=by simp [cd,fZ]
  simp only [go_sem,tF,z5 hk1,iNq,hid,bV,n1,n2,n3,e5]
  refine ⟨by omega,⟨by omega,by omega,fun z hz=>by simp only [List.mem_cons,List.not_mem_nil,or_false] at hz;(try rcases hz with rfl|rfl)<;>(try subst hz)<;>rfl⟩,(k+1,Hc.set (H.nx+1+1) (.buf 2 (LL.length+1))),⟨by dsimp only;omega,cU hle (by omega),af hcc,?_⟩,by dsimp only;omega,?_⟩
  ·dsimp only
   rw [bv,if_pos rfl,if_pos hnx,hln];simp
  ·have hcs:=@af Hc (H.nx+1+1) 2 (LL.length+1) hcc
   dsimp only
   rw [hln]
   try rw [hsn]
   (simp only [bkq,enterW,aJ,ltF,ne_eq,Nat.reduceEqDiff,reduceCtorEq,hcs,hm,aY,hnn];try simp (disch:=first|exact Zd|omega) [↓zmo,beq,ybc,ybd,ybe,ae,wk,wk2,wk1,wkM,wkL,ah,ybf,byq,biq,aG,hcl,hcs,hm,aY,hnn];try (repeat' (first|assumption|omega|exact True.intro|refine And.intro ?_ ?_|refine ag ?_|refine af ?_|refine aa ?_ ?_|refine aj ?_ ?_|refine ay ?_|exact lRq _|refine lPq ?_ _|refine AHeap.Le.del ?_ ?_|(simp only [bt,and_true,true_and,hcs,hm,aY,hnn];first|done|omega|(simp;done)))))
 ·have hk1:k=keys.length:=by simp at hc;omega
  subst hk1
  rw [List.take_length] at hid
  rw [List.take_length]
  simp only [go_sem]
  simp (disch:=first|exact Zd|omega) [↓zmo,beq,ybc,ybd,ybe,ae,wk,wk2,wk1,wkM,wkL,ah,ybf,hcl,hle,aY]
end Go.AL
