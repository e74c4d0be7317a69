/- Contracts and plain laws, a part of the proof; no condition of its own. -/
import Derived.Test.YtiiiljghmilepaaGreatS08e
import Derived.Test.YtiiiljghmilepaaGreatS07w
import Derived.Test.YtiiiljghmilepaaGreatS10e
set_option maxHeartbeats 32000000
open List renaming length_cons → yaz, length_nil → yba, take_of_length_le → ybc, drop_append → ybd, take_append → ybe, drop_eq_nil_of_le → ybf, length_map → ybb, map_cons → yae, map_nil → yaf, append_nil → yaj
open Go Go.AL Go.Proofs
namespace Go.AL
set_option linter.all false
set_option maxRecDepth 10000
theorem yO {P:Program} {f:FuncId} {args:List AV} {H:AHeap} {X:AV} (h:ACallsP P f args H (fun x H1=>x=X∧H1=H)):ACalls P f args H (.ret X) H:=by
 intro w γ vs hs hr
 have h:=h w γ vs hs hr
 generalize (callFunc f vs).run P w=rr at h ⊢
 unfold jq at h ⊢
 split at h
 ·exact h.mono fun en w' ⟨γ',x,H1,⟨hx,hH⟩,g1,g2,g3⟩=>by subst hx;subst hH;exact ⟨γ',g1,g2,g3⟩
 ·obtain ⟨γ',x,H1,⟨hx,hH⟩,g1,g2,g3⟩:=h
  subst hx;subst hH
  exact ⟨γ',g1,g2,g3⟩
 ·exact h
def pd:List AV→AHeap→(AV→Prop)→Prop
 |[.slice _ 3 x],_,K=>∃ l f r,(x=cm l∧run l f .imp 0 []=some r∧l.length≤1000∧lK l)∧K (fU l r)
 |_,_,_=>False
theorem xX:EntOk Tryz.prog 106 (Ent.pure pd):=by
 refine EntOk.pure fun args H K h=>?_
 unfold pd at h
 split at h
 rotate_left
 ·exact h.elim
 rename_i m x
 obtain ⟨l,f,r,⟨rfl,hr,hl,hg⟩,hK⟩:=h
 refine ⟨_,hK,yO ?_⟩
 have h0:EntOk Tryz.prog 106 (Ent.some (ql True 0)):=u9 Cg
 exact h0.2.2 _ rfl [.slice m 3 (cm l)] H _ ⟨l,f,r,⟨rfl,hr,hl,hg,fun _ _=>trivial⟩,rfl,rfl⟩
def jQ:List AV→AHeap→(AV→Prop)→Prop
 |[.str s,.slice _ 2 y],_,K=>∃ vs,(y=aX vs∧tF vs∧s.length≤140737488355328)∧K (c9 (comp (aV vs) s))
 |_,_,_=>False
theorem tJ:EntOk Tryz.prog 102 (Ent.pure jQ):=by
 refine EntOk.pure fun args H K h=>?_
 unfold jQ at h
 split at h
 rotate_left
 ·exact h.elim
 rename_i s m2 y
 obtain ⟨vs,⟨rfl,hov,hsl⟩,hK⟩:=h
 refine ⟨_,hK,?_⟩
 clear hK
 refine ACalls.fW aF (TblOk.cons zy (TblOk.cons xX (TblOk.cons yK TblOk.nil))) Tryz.func102 [.tmp 4,.tmp 5] (Nat.le_refl _) (T:=aD []) (h:=fun hcl hlt=>?_)
 have hm2:∀ n',H.nx≤n'→AV.lt n' (.slice m2 2 (aX vs)):=fun n' hn=>AV.lt_mono hn _ (hlt (.slice m2 2 (aX vs)) (by simp))
 clear hlt
 unfold comp
 by_cases hs:s=[]
 ·subst hs
  have d1:(([]:List UInt8)==[])=true:=rfl
  rw [if_pos rfl]
  simp only [go_sem,d1]
  simp (disch:=first|assumption|omega|(simp;done)|(simp;omega)|(simp only [bt,and_true];first|done|omega|(simp;done))) [↓zmi,beq,ybc,ybd,ybe,ah,wk,wk2,wk1,wkM,wkL,ap,ybf,hcl,c9,A7,nds,jG,znm,bf,znl,zmz,znb,zno,znp]
 ·have d1:(s==[])=false:=by simp [hs]
  rw [if_neg hs]
  obtain ⟨hg1,hg2⟩:=mK s
  obtain ⟨f,hf⟩:=tA (bn s).1
  generalize prs (bn s).1=r at *
  obtain ⟨i,hpi⟩:=xp (bn s).1 r
  obtain ⟨hpg,hpl,_⟩:=ov hf
  have hps:=nj hg2 hf
  generalize dk (bn s).1 r=te at *
  obtain ⟨t,e⟩:=te
  dsimp only at hpi hpg hpl hps
  have hot:okT t:=⟨hpg,hps,by omega⟩
  obtain ⟨hc1,hc2⟩:=@chk_le (aV vs) t
  unfold qi
  by_cases he0:(bn s).2.2=0
  ·have d2:((((bn s).2.2:Nat):Int) != 0)=false:=by rw [he0];rfl
   rw [if_neg (fun h=>h he0)]
   simp only [go_sem,d1,oM,kN,hsl,d2,pd]
   refine ⟨(bn s).1,f,r,⟨rfl,hf,by omega,hg2⟩,?_⟩
   simp only [go_sem,hpi]
   by_cases he:e=0
   ·subst he
    have d3:(((0:Nat):Int) != 0)=false:=rfl
    rw [if_neg (fun h=>h rfl)]
    simp only [go_sem,d3,pS]
    refine ⟨t,vs,⟨rfl,rfl,hot,hov⟩,?_⟩
    by_cases hch:(chk (aV vs) t).2=0
    ·have d4:((((chk (aV vs) t).2:Nat):Int) != 0)=false:=by rw [hch];rfl
     rw [if_neg (fun h=>h hch)]
     simp only [go_sem,d4]
     simp (disch:=first|assumption|omega|(simp;done)|(simp;omega)|(simp only [bt,and_true];first|done|omega|(simp;done))) [↓zmi,beq,ybc,ybd,ybe,ah,wk,wk2,wk1,wkM,wkL,ap,ybf,hcl,c9,znm,gQ,zmz,zno,znp]
    ·have d4:((((chk (aV vs) t).2:Nat):Int) != 0)=true:=bne_iff_ne.2 (by omega)
     rw [if_pos hch]
     simp only [go_sem,d4]
     simp (disch:=first|assumption|omega|(simp;done)|(simp;omega)|(simp only [bt,and_true];first|done|omega|(simp;done))) [↓zmi,beq,ybc,ybd,ybe,ah,wk,wk2,wk1,wkM,wkL,ap,ybf,hcl,c9,nds,znm,bf,zmz,zno,znp]
   ·have d3:((e:Int) != 0)=true:=bne_iff_ne.2 (by omega)
    rw [if_pos he]
    simp only [go_sem,d3]
    simp (disch:=first|assumption|omega|(simp;done)|(simp;omega)|(simp only [bt,and_true];first|done|omega|(simp;done))) [↓zmi,beq,ybc,ybd,ybe,ah,wk,wk2,wk1,wkM,wkL,ap,ybf,hcl,c9,nds,znm,bf,zmz,zno,znp]
  ·have d2:((((bn s).2.2:Nat):Int) != 0)=true:=bne_iff_ne.2 (by omega)
   rw [if_pos he0]
   simp only [go_sem,d1,oM,kN,hsl,d2]
   simp (disch:=first|assumption|omega|(simp;done)|(simp;omega)|(simp only [bt,and_true];first|done|omega|(simp;done))) [↓zmi,beq,ybc,ybd,ybe,ah,wk,wk2,wk1,wkM,wkL,ap,ybf,hcl,c9,nds,znm,bf,zmz,zno,znp]
end Go.AL
open Go Go.AL Go.Proofs
namespace Go.AL
set_option linter.all false
set_option maxRecDepth 10000
theorem B0:ti Tryz.prog 204=some ⟨.struct [(0,9,false),(1,3,false),(2,3,false)],3,32,.agg [.str [],.int .i64 0,.int .i64 0]⟩:=by kernel_rfl
theorem AD:ti Tryz.prog 50=some ⟨.slice 204,1,24,.slice .nil 1 []⟩:=by kernel_rfl
theorem x8:ti Tryz.prog 54=some ⟨.struct [(0,3,false),(1,9,false),(2,50,false),(3,51,false),(4,3,false),(5,52,false),(6,3,false),(7,9,false)],8,128,.agg [.int .i64 0,.str [],.slice .nil 1 [],.slice .nil 1 [],.int .i64 0,.slice .nil 1 [],.int .i64 0,.str []]⟩:=by kernel_rfl
theorem yJ:ti Tryz.prog 247=some ⟨.struct [(0,9,false),(1,3,false)],2,24,.agg [.str [],.int .i64 0]⟩:=by kernel_rfl
theorem wy:ti Tryz.prog 55=some ⟨.slice 247,1,24,.slice .nil 1 []⟩:=by kernel_rfl
theorem v9:ti Tryz.prog 58=some ⟨.struct [(0,3,false),(1,9,false),(2,55,false),(3,56,false),(4,9,false)],5,88,.agg [.int .i64 0,.str [],.slice .nil 1 [],.slice .nil 1 [],.str []]⟩:=by kernel_rfl
theorem AK:ti Tryz.prog 49=some ⟨.slice 9,1,24,.slice .nil 1 []⟩:=by kernel_rfl
attribute [go_sem] B0 AD x8 yJ wy v9 AK
def tr:List AV→AHeap→(AV→Prop)→Prop
 |[.int .i64 k],_,K=>K (.slice .any 1 (sAV (nh k)))
 |_,_,_=>False
theorem zI:EntOk Tryz.prog 199 (Ent.pure tr):=by
 refine EntOk.pure fun args H K h=>?_
 unfold tr at h
 split at h
 rotate_left
 ·exact h.elim
 rename_i k
 refine ⟨_,h,?_⟩
 clear h
 unfold nh
 by_cases h1:k=1
 ·subst h1
  rw [if_pos rfl]
  refine ACalls.fW aF TblOk.nil Tryz.func199 [.tmp 2] (Nat.le_refl _) (T:=aD []) (h:=fun hcl hlt=>?_)
  clear hlt
  simp only [go_sem,Int.reduceBEq]
  simp (disch:=first|assumption|omega|(simp;done)|(simp;omega)|(simp only [bt,and_true];first|done|omega|(simp;done))) [↓zmi,beq,ybc,ybd,ybe,ah,wk,wk2,wk1,wkM,wkL,ap,ybf,hcl,sAV,bf,zno,znp,znb]
 rw [if_neg h1]
 have d1:(k==1)=false:=beq_eq_false_iff_ne.2 h1
 by_cases h2:k=2
 ·subst h2
  rw [if_pos rfl]
  refine ACalls.fW aF TblOk.nil Tryz.func199 [.tmp 2] (Nat.le_refl _) (T:=aD []) (h:=fun hcl hlt=>?_)
  clear hlt
  simp only [go_sem,Int.reduceBEq]
  simp (disch:=first|assumption|omega|(simp;done)|(simp;omega)|(simp only [bt,and_true];first|done|omega|(simp;done))) [↓zmi,beq,ybc,ybd,ybe,ah,wk,wk2,wk1,wkM,wkL,ap,ybf,hcl,sAV,bf,zno,znp,znb]
 rw [if_neg h2]
 have d2:(k==2)=false:=beq_eq_false_iff_ne.2 h2
 by_cases h3:k=3
 ·subst h3
  rw [if_pos rfl]
  refine ACalls.fW aF TblOk.nil Tryz.func199 [.tmp 2] (Nat.le_refl _) (T:=aD []) (h:=fun hcl hlt=>?_)
  clear hlt
  simp only [go_sem,Int.reduceBEq]
  simp (disch:=first|assumption|omega|(simp;done)|(simp;omega)|(simp only [bt,and_true];first|done|omega|(simp;done))) [↓zmi,beq,ybc,ybd,ybe,ah,wk,wk2,wk1,wkM,wkL,ap,ybf,hcl,sAV,bf,zno,znp,znb]
 rw [if_neg h3]
 have d3:(k==3)=false:=beq_eq_false_iff_ne.2 h3
 by_cases h4:k=4
 ·subst h4
  rw [if_pos rfl]
  refine ACalls.fW aF TblOk.nil Tryz.func199 [.tmp 2] (Nat.le_refl _) (T:=aD []) (h:=fun hcl hlt=>?_)
  clear hlt
  simp only [go_sem,Int.reduceBEq]
  simp (disch:=first|assumption|omega|(simp;done)|(simp;omega)|(simp only [bt,and_true];first|done|omega|(simp;done))) [↓zmi,beq,ybc,ybd,ybe,ah,wk,wk2,wk1,wkM,wkL,ap,ybf,hcl,sAV,bf,zno,znp,znb]
 rw [if_neg h4]
 have d4:(k==4)=false:=beq_eq_false_iff_ne.2 h4
 refine ACalls.fW aF TblOk.nil Tryz.func199 [.tmp 2] (Nat.le_refl _) (T:=aD []) (h:=fun hcl hlt=>?_)
 clear hlt
 simp only [go_sem,d1,d2,d3,d4]
 simp (disch:=first|assumption|omega|(simp;done)|(simp;omega)|(simp only [bt,and_true];first|done|omega|(simp;done))) [↓zmi,beq,ybc,ybd,ybe,ah,wk,wk2,wk1,wkM,wkL,ap,ybf,hcl,sAV]
theorem gJ {l:List SKey}:(l.map dh).length=l.length:=ybb ..
theorem jm {l:List SKey} {k:Nat} (h:k<l.length):(l.map dh).getD k .junk=.agg [.str l[k].name,.int .i64 l[k].field,.int .i64 l[k].kind]:=by
 simp [List.getD_eq_getElem?_getD,h,dh]
def eI (l:List SKey):List VN:=(l.flatMap fun k=>du k.name k.kind)++[qh]
def gZ:List AV→AHeap→(AV→Prop)→Prop
 |[.agg [_,_,.slice _ 3 x,_,_,_,_,_]],_,K=>∃ keys,(x=keys.map dh∧keys.length≤1000)∧K (.slice .any 2 (aX (eI keys)))
 |_,_,_=>False
theorem jE {α β:Type} {f:α→List β} {l:List α} {k:Nat} (h:k<l.length):(l.take (k+1)).flatMap f=(l.take k).flatMap f++f l[k]:=by
 rw [← List.take_append_getElem h,List.flatMap_append];simp
theorem r8 {n:List UInt8} {k:Int}:(du n k).length≤2:=by
 unfold du nh
 rw [ybb]
 split
 ·simp
 ·split
  ·simp
  ·split
   ·simp
   ·split<;>simp
theorem ij {l:List SKey}:∀ {k:Nat},((l.take k).flatMap fun k=>du k.name k.kind).length≤2*k
 |0=>by simp
 |k+1=>by
  rcases Nat.lt_or_ge k l.length with h|h
  ·rw [jE h,List.length_append]
   have:=ij (l:=l) (k:=k)
   have:=@r8 l[k].name l[k].kind
   omega
  ·rw [ybc (by omega:l.length≤k+1),← ybc h]
   have:=ij (l:=l) (k:=k)
   omega
theorem lL:EntOk Tryz.prog 99 (Ent.pure gZ):=by
 refine EntOk.pure fun args H K h=>?_
 unfold gZ at h
 split at h
 rotate_left
 ·exact h.elim
 rename_i a1 a2 m x a3 a4 a5 a6 a7
 obtain ⟨keys,⟨rfl,hl⟩,hK⟩:=h
 refine ⟨_,hK,?_⟩
 clear hK
 refine ACalls.fW aF (TblOk.cons zI TblOk.nil) Tryz.func99 [.tmp 2] (Nat.le_refl _) (T:=aD []) (h:=fun hcl hlt=>?_)
 have hx:=AV.lt_mono (Nat.le_succ H.nx) _ (hlt (.agg [a1,a2,.slice m 3 (keys.map dh),a3,a4,a5,a6,a7]) (by simp))
 have hm:∀ n',H.nx≤n'→AV.lt n' (.slice m 3 (keys.map dh)):=fun n' hn=>AV.lt_mono hn _ (by have h1:=hlt (.agg [a1,a2,.slice m 3 (keys.map dh),a3,a4,a5,a6,a7]) (by simp);rw [znl] at h1;exact h1.2.2.1)
 simp only [znl] at hx
 clear hlt
 simp only [go_sem,gJ]
 refine av (A:=Nat × AHeap) (fun a=>[(3,.slice (.own (H.nx+1+1)) 2 (aX ((keys.take a.1).flatMap fun k=>du k.name k.kind))),(9,.slice m 3 (keys.map dh)),(10,.int .i64 (keys.length:Int)),(11,.int .i64 (a.1:Int))]) (fun a=>a.2)
  (fun a=>a.1≤keys.length∧H.Le a.2∧a.2.Closed∧a.2.get (H.nx+1+1)=some (.buf 2 ((keys.take a.1).flatMap fun k=>du k.name k.kind).length)) (fun a=>keys.length - a.1)
  (0,((H.push (.cells [a1,a2,.slice m 3 (keys.map dh),a3,a4,a5,a6,a7])).push (.buf 2 0)).push (.buf 2 0)) ⟨Nat.zero_le _,(((AHeap.Le.refl _).push _).push _).push _,af (af (ae hcl hx)),AHeap.get_push_new _ _⟩ ?_ fun a ha=>?_
 ·have hc0:=af (a:=2) (b:=0) (af (a:=2) (b:=0) (ae hcl hx))
  (simp only [bkq,enterW,aR,ltF,ne_eq,Nat.reduceEqDiff,reduceCtorEq,hc0,hm,aN];try simp (disch:=first|assumption|omega|(simp;done)|(simp;omega)|(simp only [bt,and_true];first|done|omega|(simp;done))) [↓zmi,beq,ybc,ybd,ybe,ah,wk,wk2,wk1,wkM,wkL,ap,ybf,byq,biq,ag,hcl,hc0,hm,aN];try (repeat' (first|assumption|omega|exact True.intro|refine And.intro ?_ ?_|refine af ?_|refine aa ?_|refine ae ?_ ?_|refine ai ?_ ?_|refine ak ?_|exact AHeap.Le.refl _|refine AHeap.Le.push ?_ _|refine AHeap.Le.del ?_ ?_|(simp only [bt,and_true,true_and,hc0,hm,aN];first|done|omega|(simp;done)))))
  simp [aX]
 obtain ⟨k,Hc⟩:=a
 obtain ⟨hk,hle,hcc,hid⟩:=ha
 dsimp only at hk hle hcc hid ⊢
 have hnx:=AHeap.get_lt hid
 simp only [go_sem]
 refine aj (fun hc=>?_) (fun hc=>?_)
 ·have hk1:k<keys.length:=by simp at hc;omega
  have e5:IntKind.i64.wrap ((k:Int)+1)=((k+1:Nat):Int):=by rw [wrap_i64]<;>omega
  have hfl:=@ij keys k
  have hkl:=@r8 keys[k].name keys[k].kind
  have hkv:du keys[k].name keys[k].kind=(nh keys[k].kind).map fun a=>(keys[k].name,a):=rfl
  simp only [go_sem,gJ,jm hk1,Int.toNat_natCast,tr]
  generalize nh keys[k].kind=at0 at *
  have hk0:du keys[k].name keys[k].kind=at0.map fun a=>(keys[k].name,a):=hkv
  have hal:at0.length≤2:=by rw [hk0,ybb] at hkl;exact hkl
  refine ⟨by omega,?_⟩
  simp only [go_sem,am]
  refine av (A:=Nat × AHeap) (fun a=>[(3,.slice (.own (H.nx+1+1)) 2 (aX (((keys.take k).flatMap fun k=>du k.name k.kind)++(at0.take a.1).map fun x=>(keys[k].name,x)))),(5,.ptr Hc.nx 0),(9,.slice m 3 (keys.map dh)),(10,.int .i64 (keys.length:Int)),(11,.int .i64 (k:Int)),(17,.slice .any 1 (sAV at0)),(18,.int .i64 (at0.length:Int)),(19,.int .i64 (a.1:Int))]) (fun a=>a.2)
   (fun a=>a.1≤at0.length∧H.Le a.2∧a.2.Closed∧a.2.get (H.nx+1+1)=some (.buf 2 (((keys.take k).flatMap fun k=>du k.name k.kind)++(at0.take a.1).map fun x=>(keys[k].name,x)).length)∧a.2.get Hc.nx=some (.cells [.str keys[k].name,.int .i64 keys[k].field,.int .i64 keys[k].kind])) (fun a=>at0.length - a.1)
   (0,Hc.push (.cells [.str keys[k].name,.int .i64 keys[k].field,.int .i64 keys[k].kind])) ⟨Nat.zero_le _,hle.push _,ae hcc (by simp [zno,znp,znb,zmz]),?_,AHeap.get_push_new _ _⟩ ?_ fun a ha=>?_
  ·dsimp only
   rw [AHeap.get_push_lt _ _ hnx,hid];simp
  ·have hc0:=ae (cs:=[.str keys[k].name,.int .i64 keys[k].field,.int .i64 keys[k].kind]) hcc (by simp [zno,znp,znb,zmz])
   have hnn:H.nx≤Hc.nx:=by omega
   (simp only [bkq,enterW,aR,ltF,ne_eq,Nat.reduceEqDiff,reduceCtorEq,hc0,hm,aN,bQ,hnn];try simp (disch:=first|assumption|omega|(simp;done)|(simp;omega)|(simp only [bt,and_true];first|done|omega|(simp;done))) [↓zmi,beq,ybc,ybd,ybe,ah,wk,wk2,wk1,wkM,wkL,ap,ybf,byq,biq,ag,hcl,hc0,hm,aN,bQ,hnn];try (repeat' (first|assumption|omega|exact True.intro|refine And.intro ?_ ?_|refine af ?_|refine aa ?_|refine ae ?_ ?_|refine ai ?_ ?_|refine ak ?_|exact AHeap.Le.refl _|refine AHeap.Le.push ?_ _|refine AHeap.Le.del ?_ ?_|(simp only [bt,and_true,true_and,hc0,hm,aN,bQ,hnn];first|done|omega|(simp;done)))))
  obtain ⟨j,Hd⟩:=a
  obtain ⟨hj,hle2,hcd,hid2,hky⟩:=ha
  dsimp only at hj hle2 hcd hid2 hky ⊢
  have hnx2:=AHeap.get_lt hid2
  have hnx3:=AHeap.get_lt hky
  simp only [go_sem]
  refine aj (fun hc=>?_) (fun hc=>?_)
  ·have hj1:j<at0.length:=by simp at hc;omega
   have e6:IntKind.i64.wrap ((j:Int)+1)=((j+1:Nat):Int):=by rw [wrap_i64]<;>omega
   have hsg:(sAV at0).getD j .junk=.str at0[j]:=by rw [iQ hj1];simp [List.getD_eq_getElem?_getD,hj1]
   have htk:(at0.take (j+1)).map (fun x=>(keys[k].name,x))=(at0.take j).map (fun x=>(keys[k].name,x))++[(keys[k].name,at0[j])]:=by rw [← List.take_append_getElem hj1,List.map_append];rfl
   have n1:(Hc.nx=Hd.nx)=False:=eq_false (by omega)
   have n2:(H.nx+1+1=Hd.nx)=False:=eq_false (by omega)
   simp only [go_sem,am,hsg,Int.toNat_natCast,hky,bE hky,hid2,bX,n1,n2,e6]
   obtain ⟨LL,hLL⟩:∃ LL,(((keys.take k).flatMap fun k=>du k.name k.kind)++(at0.take j).map fun x=>(keys[k].name,x))=LL:=⟨_,rfl⟩
   have hll:LL.length≤2*k+2:=by rw [← hLL,List.length_append,ybb,List.length_take];omega
   have hln:((keys.take k).flatMap fun k=>du k.name k.kind)++(at0.take (j+1)).map (fun x=>(keys[k].name,x))=LL++[(keys[k].name,at0[j])]:=by rw [htk,← List.append_assoc,hLL]
   have hsn:aX LL++[.agg [.str keys[k].name,.str at0[j]]]=aX (LL++[(keys[k].name,at0[j])]):=kS (v:=(keys[k].name,at0[j]))
   rw [hLL]
   refine ⟨by omega,⟨by omega,by omega,fun z hz=>by rw [List.mem_singleton.1 hz];rfl⟩,(j+1,Hd.set (H.nx+1+1) (.buf 2 (LL.length+1))),⟨by dsimp only;omega,ce hle2 (by omega),aa hcd,?_,?_⟩,by dsimp only;omega,?_⟩
   ·dsimp only
    rw [bm,if_pos rfl,if_pos hnx2,hln];simp
   ·dsimp only
    rw [bm,if_neg (by omega),hky]
   ·have hnn:H.nx≤Hd.nx:=by omega
    have hcs:=@aa Hd (H.nx+1+1) 2 (LL.length+1) hcd
    dsimp only
    rw [hln,hsn]
    (simp only [bkq,enterW,aR,ltF,ne_eq,Nat.reduceEqDiff,reduceCtorEq,hcs,hm,aN,bQ,hnn];try simp (disch:=first|assumption|omega|(simp;done)|(simp;omega)|(simp only [bt,and_true];first|done|omega|(simp;done))) [↓zmi,beq,ybc,ybd,ybe,ah,wk,wk2,wk1,wkM,wkL,ap,ybf,byq,biq,ag,hcl,hcs,hm,aN,bQ,hnn];try (repeat' (first|assumption|omega|exact True.intro|refine And.intro ?_ ?_|refine af ?_|refine aa ?_|refine ae ?_ ?_|refine ai ?_ ?_|refine ak ?_|exact AHeap.Le.refl _|refine AHeap.Le.push ?_ _|refine AHeap.Le.del ?_ ?_|(simp only [bt,and_true,true_and,hcs,hm,aN,bQ,hnn];first|done|omega|(simp;done)))))
  ·have hj1:j=at0.length:=by simp at hc;omega
   subst hj1
   rw [List.take_length,← hk0,← jE hk1] at hid2
   rw [List.take_length,← hk0,← jE (f:=fun k:SKey=>du k.name k.kind) hk1]
   simp only [go_sem,e5]
   refine ⟨(k+1,Hd),⟨by dsimp only;omega,hle2,hcd,hid2⟩,by dsimp only;omega,?_⟩
   have hnn:H.nx≤Hd.nx:=by omega
   (simp only [bkq,enterW,aR,ltF,ne_eq,Nat.reduceEqDiff,reduceCtorEq,hcd,hm,aN,hnn];try simp (disch:=first|assumption|omega|(simp;done)|(simp;omega)|(simp only [bt,and_true];first|done|omega|(simp;done))) [↓zmi,beq,ybc,ybd,ybe,ah,wk,wk2,wk1,wkM,wkL,ap,ybf,byq,biq,ag,hcl,hcd,hm,aN,hnn];try (repeat' (first|assumption|omega|exact True.intro|refine And.intro ?_ ?_|refine af ?_|refine aa ?_|refine ae ?_ ?_|refine ai ?_ ?_|refine ak ?_|exact AHeap.Le.refl _|refine AHeap.Le.push ?_ _|refine AHeap.Le.del ?_ ?_|(simp only [bt,and_true,true_and,hcd,hm,aN,hnn];first|done|omega|(simp;done)))))
 ·have hk1:k=keys.length:=by simp at hc;omega
  subst hk1
  rw [List.take_length] at hid
  rw [List.take_length]
  have hfl:=@ij keys keys.length
  rw [List.take_length] at hfl
  have n1:(H.nx+1+1=Hc.nx)=False:=eq_false (by omega)
  have htab:eI keys=(keys.flatMap fun k=>du k.name k.kind)++[qh]:=rfl
  rw [htab]
  clear htab
  generalize (keys.flatMap fun k=>du k.name k.kind)=G at *
  have hsn:aX G++[.agg [.str [112,114,105,111,114,105,116,121],.str []]]=aX (G++[qh]):=kS (v:=qh)
  simp only [go_sem,hid,n1,bX]
  refine ⟨⟨by omega,by omega,fun z hz=>by rw [List.mem_singleton.1 hz];rfl⟩,?_⟩
  rw [hsn]
  have hle3:=(ce hle (show H.nx≤H.nx+1+1 by omega) (o:=.buf 2 (G.length+1))).push (.buf 2 1)
  simp (disch:=first|assumption|omega|(simp;done)|(simp;omega)|(simp only [bt,and_true];first|done|omega|(simp;done))) [↓zmi,beq,ybc,ybd,ybe,ah,wk,wk2,wk1,wkM,wkL,ap,ybf,hcl,hle3,aN]
end Go.AL
open Go Go.AL Go.Proofs
namespace Go.AL
set_option linter.all false
set_option maxRecDepth 10000
theorem jR {l:List SParam}:(l.map cR).length=l.length:=ybb ..
theorem pD {l:List SParam} {k:Nat} (h:k<l.length):(l.map cR).getD k .junk=.agg [.str l[k].name,.int .i64 l[k].bits]:=by
 simp [List.getD_eq_getElem?_getD,h,cR]
def di (l:List SParam):List VN:=l.map fun p=>(p.name,[])
def jx:List AV→AHeap→(AV→Prop)→Prop
 |[.agg [_,_,.slice _ 3 x,_,_,_,_,_]],_,K=>∃ keys,(x=keys.map dh∧keys.length≤1000)∧K (.slice .any 2 (aX (eI keys)))
 |_,_,_=>False
theorem qJ:EntOk Tryz.prog 103 (Ent.pure jx):=by
 refine EntOk.pure fun args H K h=>?_
 unfold jx at h
 split at h
 rotate_left
 ·exact h.elim
 rename_i a1 a2 m x a3 a4 a5 a6 a7
 obtain ⟨keys,⟨rfl,hl⟩,hK⟩:=h
 refine ⟨_,hK,?_⟩
 clear hK
 refine ACalls.fW aF TblOk.nil Tryz.func103 [.tmp 2] (Nat.le_refl _) (T:=aD []) (h:=fun hcl hlt=>?_)
 have hx:=AV.lt_mono (Nat.le_succ H.nx) _ (hlt (.agg [a1,a2,.slice m 3 (keys.map dh),a3,a4,a5,a6,a7]) (by simp))
 have hm:∀ n',H.nx≤n'→AV.lt n' (.slice m 3 (keys.map dh)):=fun n' hn=>AV.lt_mono hn _ (by have h1:=hlt (.agg [a1,a2,.slice m 3 (keys.map dh),a3,a4,a5,a6,a7]) (by simp);rw [znl] at h1;exact h1.2.2.1)
 simp only [znl] at hx
 clear hlt
 simp only [go_sem,gJ]
 refine av (A:=Nat × AHeap) (fun a=>[(3,.slice (.own (H.nx+1+1)) 2 (aX ((keys.take a.1).flatMap fun k=>du k.name k.kind))),(7,.slice m 3 (keys.map dh)),(8,.int .i64 (keys.length:Int)),(9,.int .i64 (a.1:Int))]) (fun a=>a.2)
  (fun a=>a.1≤keys.length∧H.Le a.2∧a.2.Closed∧a.2.get (H.nx+1+1)=some (.buf 2 ((keys.take a.1).flatMap fun k=>du k.name k.kind).length)) (fun a=>keys.length - a.1)
  (0,((H.push (.cells [a1,a2,.slice m 3 (keys.map dh),a3,a4,a5,a6,a7])).push (.buf 2 0)).push (.buf 2 0)) ⟨Nat.zero_le _,(((AHeap.Le.refl _).push _).push _).push _,af (af (ae hcl hx)),AHeap.get_push_new _ _⟩ ?_ fun a ha=>?_
 ·have hc0:=af (a:=2) (b:=0) (af (a:=2) (b:=0) (ae hcl hx))
  (simp only [bkq,enterW,aR,ltF,ne_eq,Nat.reduceEqDiff,reduceCtorEq,hc0,hm,aN];try simp (disch:=first|assumption|omega|(simp;done)|(simp;omega)|(simp only [bt,and_true];first|done|omega|(simp;done))) [↓zmi,beq,ybc,ybd,ybe,ah,wk,wk2,wk1,wkM,wkL,ap,ybf,byq,biq,ag,hcl,hc0,hm,aN];try (repeat' (first|assumption|omega|exact True.intro|refine And.intro ?_ ?_|refine af ?_|refine aa ?_|refine ae ?_ ?_|refine ai ?_ ?_|refine ak ?_|exact AHeap.Le.refl _|refine AHeap.Le.push ?_ _|refine AHeap.Le.del ?_ ?_|(simp only [bt,and_true,true_and,hc0,hm,aN];first|done|omega|(simp;done)))))
  simp [aX]
 obtain ⟨k,Hc⟩:=a
 obtain ⟨hk,hle,hcc,hid⟩:=ha
 dsimp only at hk hle hcc hid ⊢
 have hnx:=AHeap.get_lt hid
 simp only [go_sem]
 refine aj (fun hc=>?_) (fun hc=>?_)
 ·have hk1:k<keys.length:=by simp at hc;omega
  have e5:IntKind.i64.wrap ((k:Int)+1)=((k+1:Nat):Int):=by rw [wrap_i64]<;>omega
  have hfl:=@ij keys k
  have n1:(Hc.nx=H.nx+1+1)=False:=eq_false (by omega)
  have n2:(H.nx+1+1=Hc.nx)=False:=eq_false (by omega)
  have n3:(H.nx+1+1=Hc.nx+1)=False:=eq_false (by omega)
  obtain ⟨LL,hLL⟩:∃ LL,((keys.take k).flatMap fun k=>du k.name k.kind)=LL:=⟨_,rfl⟩
  rw [hLL] at hid hfl ⊢
  have hnn:H.nx≤Hc.nx:=by omega
  have hln0:(keys.take (k+1)).flatMap (fun k=>du k.name k.kind)=LL++du keys[k].name keys[k].kind:=by rw [jE hk1,hLL]
  generalize hkd:keys[k].kind=kd at *
  by_cases h1:kd=1
  ·subst h1
   have hln:(keys.take (k+1)).flatMap (fun k=>du k.name k.kind)=LL++[(keys[k].name,[]),(keys[k].name,[118,97,108,117,101])]:=hln0
   have hsn:aX LL++[.agg [.str keys[k].name,.str []],.agg [.str keys[k].name,.str [118,97,108,117,101]]]=aX (LL++[(keys[k].name,[]),(keys[k].name,[118,97,108,117,101])]):=by simp [aX,dT]
   simp only [go_sem,gJ,jm hk1,Int.toNat_natCast,hkd,Int.reduceBEq,hid,bX,n1,n2,n3,e5]
   refine ⟨by omega,⟨by omega,by omega,fun z hz=>by simp only [List.mem_cons,List.not_mem_nil,or_false] at hz;(try rcases hz with rfl|rfl)<;>(try subst hz)<;>rfl⟩,(k+1,Hc.set (H.nx+1+1) (.buf 2 (LL.length+2))),⟨by dsimp only;omega,ce hle (by omega),aa hcc,?_⟩,by dsimp only;omega,?_⟩
   ·dsimp only
    rw [bm,if_pos rfl,if_pos hnx,hln];simp
   ·have hcs:=@aa Hc (H.nx+1+1) 2 (LL.length+2) hcc
    dsimp only
    rw [hln]
    try rw [hsn]
    (simp only [bkq,enterW,aR,ltF,ne_eq,Nat.reduceEqDiff,reduceCtorEq,hcs,hm,aN,hnn];try simp (disch:=first|assumption|omega|(simp;done)|(simp;omega)|(simp only [bt,and_true];first|done|omega|(simp;done))) [↓zmi,beq,ybc,ybd,ybe,ah,wk,wk2,wk1,wkM,wkL,ap,ybf,byq,biq,ag,hcl,hcs,hm,aN,hnn];try (repeat' (first|assumption|omega|exact True.intro|refine And.intro ?_ ?_|refine af ?_|refine aa ?_|refine ae ?_ ?_|refine ai ?_ ?_|refine ak ?_|exact AHeap.Le.refl _|refine AHeap.Le.push ?_ _|refine AHeap.Le.del ?_ ?_|(simp only [bt,and_true,true_and,hcs,hm,aN,hnn];first|done|omega|(simp;done)))))
  have d1:(kd==1)=false:=beq_eq_false_iff_ne.2 h1
  by_cases h2:kd=2
  ·subst h2
   have hln:(keys.take (k+1)).flatMap (fun k=>du k.name k.kind)=LL++[(keys[k].name,[118,97,108,117,101]),(keys[k].name,[112,114,101,102,105,120,95,108,101,110,103,116,104])]:=hln0
   have hsn:aX LL++[.agg [.str keys[k].name,.str [118,97,108,117,101]],.agg [.str keys[k].name,.str [112,114,101,102,105,120,95,108,101,110,103,116,104]]]=aX (LL++[(keys[k].name,[118,97,108,117,101]),(keys[k].name,[112,114,101,102,105,120,95,108,101,110,103,116,104])]):=by simp [aX,dT]
   simp only [go_sem,gJ,jm hk1,Int.toNat_natCast,hkd,Int.reduceBEq,hid,bX,n1,n2,n3,e5]
   refine ⟨by omega,⟨by omega,by omega,fun z hz=>by simp only [List.mem_cons,List.not_mem_nil,or_false] at hz;(try rcases hz with rfl|rfl)<;>(try subst hz)<;>rfl⟩,(k+1,Hc.set (H.nx+1+1) (.buf 2 (LL.length+2))),⟨by dsimp only;omega,ce hle (by omega),aa hcc,?_⟩,by dsimp only;omega,?_⟩
   ·dsimp only
    rw [bm,if_pos rfl,if_pos hnx,hln];simp
   ·have hcs:=@aa Hc (H.nx+1+1) 2 (LL.length+2) hcc
    dsimp only
    rw [hln]
    try rw [hsn]
    (simp only [bkq,enterW,aR,ltF,ne_eq,Nat.reduceEqDiff,reduceCtorEq,hcs,hm,aN,hnn];try simp (disch:=first|assumption|omega|(simp;done)|(simp;omega)|(simp only [bt,and_true];first|done|omega|(simp;done))) [↓zmi,beq,ybc,ybd,ybe,ah,wk,wk2,wk1,wkM,wkL,ap,ybf,byq,biq,ag,hcl,hcs,hm,aN,hnn];try (repeat' (first|assumption|omega|exact True.intro|refine And.intro ?_ ?_|refine af ?_|refine aa ?_|refine ae ?_ ?_|refine ai ?_ ?_|refine ak ?_|exact AHeap.Le.refl _|refine AHeap.Le.push ?_ _|refine AHeap.Le.del ?_ ?_|(simp only [bt,and_true,true_and,hcs,hm,aN,hnn];first|done|omega|(simp;done)))))
  have d2:(kd==2)=false:=beq_eq_false_iff_ne.2 h2
  by_cases h3:kd=3
  ·subst h3
   have hln:(keys.take (k+1)).flatMap (fun k=>du k.name k.kind)=LL++[(keys[k].name,[118,97,108,117,101]),(keys[k].name,[109,97,115,107])]:=hln0
   have hsn:aX LL++[.agg [.str keys[k].name,.str [118,97,108,117,101]],.agg [.str keys[k].name,.str [109,97,115,107]]]=aX (LL++[(keys[k].name,[118,97,108,117,101]),(keys[k].name,[109,97,115,107])]):=by simp [aX,dT]
   simp only [go_sem,gJ,jm hk1,Int.toNat_natCast,hkd,Int.reduceBEq,hid,bX,n1,n2,n3,e5]
   refine ⟨by omega,⟨by omega,by omega,fun z hz=>by simp only [List.mem_cons,List.not_mem_nil,or_false] at hz;(try rcases hz with rfl|rfl)<;>(try subst hz)<;>rfl⟩,(k+1,Hc.set (H.nx+1+1) (.buf 2 (LL.length+2))),⟨by dsimp only;omega,ce hle (by omega),aa hcc,?_⟩,by dsimp only;omega,?_⟩
   ·dsimp only
    rw [bm,if_pos rfl,if_pos hnx,hln];simp
   ·have hcs:=@aa Hc (H.nx+1+1) 2 (LL.length+2) hcc
    dsimp only
    rw [hln]
    try rw [hsn]
    (simp only [bkq,enterW,aR,ltF,ne_eq,Nat.reduceEqDiff,reduceCtorEq,hcs,hm,aN,hnn];try simp (disch:=first|assumption|omega|(simp;done)|(simp;omega)|(simp only [bt,and_true];first|done|omega|(simp;done))) [↓zmi,beq,ybc,ybd,ybe,ah,wk,wk2,wk1,wkM,wkL,ap,ybf,byq,biq,ag,hcl,hcs,hm,aN,hnn];try (repeat' (first|assumption|omega|exact True.intro|refine And.intro ?_ ?_|refine af ?_|refine aa ?_|refine ae ?_ ?_|refine ai ?_ ?_|refine ak ?_|exact AHeap.Le.refl _|refine AHeap.Le.push ?_ _|refine AHeap.Le.del ?_ ?_|(simp only [bt,and_true,true_and,hcs,hm,aN,hnn];first|done|omega|(simp;done)))))
  have d3:(kd==3)=false:=beq_eq_false_iff_ne.2 h3
  by_cases h4:kd=4
  ·subst h4
   have hln:(keys.take (k+1)).flatMap (fun k=>du k.name k.kind)=LL++[(keys[k].name,[108,111,119]),(keys[k].name,[104,105,103,104])]:=hln0
   have hsn:aX LL++[.agg [.str keys[k].name,.str [108,111,119]],.agg [.str keys[k].name,.str [104,105,103,104]]]=aX (LL++[(keys[k].name,[108,111,119]),(keys[k].name,[104,105,103,104])]):=by simp [aX,dT]
   simp only [go_sem,gJ,jm hk1,Int.toNat_natCast,hkd,Int.reduceBEq,hid,bX,n1,n2,n3,e5]
   refine ⟨by omega,⟨by omega,by omega,fun z hz=>by simp only [List.mem_cons,List.not_mem_nil,or_false] at hz;(try rcases hz with rfl|rfl)<;>(try subst hz)<;>rfl⟩,(k+1,Hc.set (H.nx+1+1) (.buf 2 (LL.length+2))),⟨by dsimp only;omega,ce hle (by omega),aa hcc,?_⟩,by dsimp only;omega,?_⟩
   ·dsimp only
    rw [bm,if_pos rfl,if_pos hnx,hln];simp
   ·have hcs:=@aa Hc (H.nx+1+1) 2 (LL.length+2) hcc
    dsimp only
    rw [hln]
    try rw [hsn]
    (simp only [bkq,enterW,aR,ltF,ne_eq,Nat.reduceEqDiff,reduceCtorEq,hcs,hm,aN,hnn];try simp (disch:=first|assumption|omega|(simp;done)|(simp;omega)|(simp only [bt,and_true];first|done|omega|(simp;done))) [↓zmi,beq,ybc,ybd,ybe,ah,wk,wk2,wk1,wkM,wkL,ap,ybf,byq,biq,ag,hcl,hcs,hm,aN,hnn];try (repeat' (first|assumption|omega|exact True.intro|refine And.intro ?_ ?_|refine af ?_|refine aa ?_|refine ae ?_ ?_|refine ai ?_ ?_|refine ak ?_|exact AHeap.Le.refl _|refine AHeap.Le.push ?_ _|refine AHeap.Le.del ?_ ?_|(simp only [bt,and_true,true_and,hcs,hm,aN,hnn];first|done|omega|(simp;done)))))
  have d4:(kd==4)=false:=beq_eq_false_iff_ne.2 h4
  have hln:(keys.take (k+1)).flatMap (fun k=>du k.name k.kind)=LL:=by
   rw [hln0]
   unfold du nh
   rw [if_neg h1,if_neg h2,if_neg h3,if_neg h4];simp
  simp only [go_sem,gJ,jm hk1,Int.toNat_natCast,hkd,d1,d2,d3,d4,e5]
  refine ⟨by omega,(k+1,Hc),⟨by dsimp only;omega,hle,hcc,?_⟩,by dsimp only;omega,?_⟩
  ·dsimp only
   rw [hln,hid]
  ·dsimp only
   rw [hln]
   (simp only [bkq,enterW,aR,ltF,ne_eq,Nat.reduceEqDiff,reduceCtorEq,hcc,hm,aN,hnn];try simp (disch:=first|assumption|omega|(simp;done)|(simp;omega)|(simp only [bt,and_true];first|done|omega|(simp;done))) [↓zmi,beq,ybc,ybd,ybe,ah,wk,wk2,wk1,wkM,wkL,ap,ybf,byq,biq,ag,hcl,hcc,hm,aN,hnn];try (repeat' (first|assumption|omega|exact True.intro|refine And.intro ?_ ?_|refine af ?_|refine aa ?_|refine ae ?_ ?_|refine ai ?_ ?_|refine ak ?_|exact AHeap.Le.refl _|refine AHeap.Le.push ?_ _|refine AHeap.Le.del ?_ ?_|(simp only [bt,and_true,true_and,hcc,hm,aN,hnn];first|done|omega|(simp;done)))))
 ·have hk1:k=keys.length:=by simp at hc;omega
  subst hk1
  rw [List.take_length] at hid
  rw [List.take_length]
  have hfl:=@ij keys keys.length
  rw [List.take_length] at hfl
  have n1:(H.nx+1+1=Hc.nx)=False:=eq_false (by omega)
  have htab:eI keys=(keys.flatMap fun k=>du k.name k.kind)++[qh]:=rfl
  rw [htab]
  clear htab
  generalize (keys.flatMap fun k=>du k.name k.kind)=G at *
  have hsn:aX G++[.agg [.str [112,114,105,111,114,105,116,121],.str []]]=aX (G++[qh]):=kS (v:=qh)
  simp only [go_sem,hid,n1,bX]
  refine ⟨⟨by omega,by omega,fun z hz=>by rw [List.mem_singleton.1 hz];rfl⟩,?_⟩
  rw [hsn]
  have hle3:=(ce hle (show H.nx≤H.nx+1+1 by omega) (o:=.buf 2 (G.length+1))).push (.buf 2 1)
  simp (disch:=first|assumption|omega|(simp;done)|(simp;omega)|(simp only [bt,and_true];first|done|omega|(simp;done))) [↓zmi,beq,ybc,ybd,ybe,ah,wk,wk2,wk1,wkM,wkL,ap,ybf,hcl,hle3,aN]
def iZ:List AV→AHeap→(AV→Prop)→Prop
 |[.agg [_,_,.slice _ 2 x,_,_]],_,K=>∃ keys,(x=keys.map cR∧keys.length≤1000)∧K (.slice .any 2 (aX (di keys)))
 |_,_,_=>False
theorem qg:EntOk Tryz.prog 100 (Ent.pure iZ):=by
 refine EntOk.pure fun args H K h=>?_
 unfold iZ at h
 split at h
 rotate_left
 ·exact h.elim
 rename_i a1 a2 m x a3 a4
 obtain ⟨keys,⟨rfl,hl⟩,hK⟩:=h
 refine ⟨_,hK,?_⟩
 clear hK
 refine ACalls.fW aF TblOk.nil Tryz.func100 [.tmp 2] (Nat.le_refl _) (T:=aD []) (h:=fun hcl hlt=>?_)
 have hx:=AV.lt_mono (Nat.le_succ H.nx) _ (hlt (.agg [a1,a2,.slice m 2 (keys.map cR),a3,a4]) (by simp))
 have hm:∀ n',H.nx≤n'→AV.lt n' (.slice m 2 (keys.map cR)):=fun n' hn=>AV.lt_mono hn _ (by have h1:=hlt (.agg [a1,a2,.slice m 2 (keys.map cR),a3,a4]) (by simp);rw [znl] at h1;exact h1.2.2.1)
 simp only [znl] at hx
 clear hlt
 simp only [go_sem,jR]
 refine av (A:=Nat × AHeap) (fun a=>[(3,.slice (.own (H.nx+1+1)) 2 (aX (di (keys.take a.1)))),(7,.slice m 2 (keys.map cR)),(8,.int .i64 (keys.length:Int)),(9,.int .i64 (a.1:Int))]) (fun a=>a.2)
  (fun a=>a.1≤keys.length∧H.Le a.2∧a.2.Closed∧a.2.get (H.nx+1+1)=some (.buf 2 (di (keys.take a.1)).length)) (fun a=>keys.length - a.1)
  (0,((H.push (.cells [a1,a2,.slice m 2 (keys.map cR),a3,a4])).push (.buf 2 0)).push (.buf 2 0)) ⟨Nat.zero_le _,(((AHeap.Le.refl _).push _).push _).push _,af (af (ae hcl hx)),AHeap.get_push_new _ _⟩ ?_ fun a ha=>?_
 ·have hc0:=af (a:=2) (b:=0) (af (a:=2) (b:=0) (ae hcl hx))
  (simp only [bkq,enterW,aR,ltF,ne_eq,Nat.reduceEqDiff,reduceCtorEq,hc0,hm,aN];try simp (disch:=first|assumption|omega|(simp;done)|(simp;omega)|(simp only [bt,and_true];first|done|omega|(simp;done))) [↓zmi,beq,ybc,ybd,ybe,ah,wk,wk2,wk1,wkM,wkL,ap,ybf,byq,biq,ag,hcl,hc0,hm,aN];try (repeat' (first|assumption|omega|exact True.intro|refine And.intro ?_ ?_|refine af ?_|refine aa ?_|refine ae ?_ ?_|refine ai ?_ ?_|refine ak ?_|exact AHeap.Le.refl _|refine AHeap.Le.push ?_ _|refine AHeap.Le.del ?_ ?_|(simp only [bt,and_true,true_and,hc0,hm,aN];first|done|omega|(simp;done)))))
  simp [aX,di]
 obtain ⟨k,Hc⟩:=a
 obtain ⟨hk,hle,hcc,hid⟩:=ha
 dsimp only at hk hle hcc hid ⊢
 have hnx:=AHeap.get_lt hid
 simp only [go_sem]
 refine aj (fun hc=>?_) (fun hc=>?_)
 ·have hk1:k<keys.length:=by simp at hc;omega
  have e5:IntKind.i64.wrap ((k:Int)+1)=((k+1:Nat):Int):=by rw [wrap_i64]<;>omega
  have hfl:(di (keys.take k)).length≤2*k:=by simp only [di,ybb,List.length_take];omega
  have n1:(Hc.nx=H.nx+1+1)=False:=eq_false (by omega)
  have n2:(H.nx+1+1=Hc.nx)=False:=eq_false (by omega)
  have n3:(H.nx+1+1=Hc.nx+1)=False:=eq_false (by omega)
  obtain ⟨LL,hLL⟩:∃ LL,(di (keys.take k))=LL:=⟨_,rfl⟩
  rw [hLL] at hid hfl ⊢
  have hnn:H.nx≤Hc.nx:=by omega
  have hln:di (keys.take (k+1))=LL++[(keys[k].name,[])]:=by rw [← hLL,← List.take_append_getElem hk1];simp only [di,List.map_append,yae,yaf]
  have hsn:aX LL++[.agg [.str keys[k].name,.str []]]=aX (LL++[(keys[k].name,[])]):=by simp [aX,dT]
  simp only [go_sem,jR,pD hk1,Int.toNat_natCast,hid,bX,n1,n2,n3,e5]
  refine ⟨by omega,⟨by omega,by omega,fun z hz=>by simp only [List.mem_cons,List.not_mem_nil,or_false] at hz;(try rcases hz with rfl|rfl)<;>(try subst hz)<;>rfl⟩,(k+1,Hc.set (H.nx+1+1) (.buf 2 (LL.length+1))),⟨by dsimp only;omega,ce hle (by omega),aa hcc,?_⟩,by dsimp only;omega,?_⟩
  ·dsimp only
   rw [bm,if_pos rfl,if_pos hnx,hln];simp
  ·have hcs:=@aa Hc (H.nx+1+1) 2 (LL.length+1) hcc
   dsimp only
   rw [hln]
   try rw [hsn]
   (simp only [bkq,enterW,aR,ltF,ne_eq,Nat.reduceEqDiff,reduceCtorEq,hcs,hm,aN,hnn];try simp (disch:=first|assumption|omega|(simp;done)|(simp;omega)|(simp only [bt,and_true];first|done|omega|(simp;done))) [↓zmi,beq,ybc,ybd,ybe,ah,wk,wk2,wk1,wkM,wkL,ap,ybf,byq,biq,ag,hcl,hcs,hm,aN,hnn];try (repeat' (first|assumption|omega|exact True.intro|refine And.intro ?_ ?_|refine af ?_|refine aa ?_|refine ae ?_ ?_|refine ai ?_ ?_|refine ak ?_|exact AHeap.Le.refl _|refine AHeap.Le.push ?_ _|refine AHeap.Le.del ?_ ?_|(simp only [bt,and_true,true_and,hcs,hm,aN,hnn];first|done|omega|(simp;done)))))
 ·have hk1:k=keys.length:=by simp at hc;omega
  subst hk1
  rw [List.take_length] at hid
  rw [List.take_length]
  simp only [go_sem]
  simp (disch:=first|assumption|omega|(simp;done)|(simp;omega)|(simp only [bt,and_true];first|done|omega|(simp;done))) [↓zmi,beq,ybc,ybd,ybe,ah,wk,wk2,wk1,wkM,wkL,ap,ybf,hcl,hle,aN]
def iY:List AV→AHeap→(AV→Prop)→Prop
 |[.agg [_,_,.slice _ 2 x,_,_]],_,K=>∃ keys,(x=keys.map cR∧keys.length≤1000)∧K (.slice .any 2 (aX (di keys)))
 |_,_,_=>False
theorem pA:EntOk Tryz.prog 104 (Ent.pure iY):=by
 refine EntOk.pure fun args H K h=>?_
 unfold iY at h
 split at h
 rotate_left
 ·exact h.elim
 rename_i a1 a2 m x a3 a4
 obtain ⟨keys,⟨rfl,hl⟩,hK⟩:=h
 refine ⟨_,hK,?_⟩
 clear hK
 refine ACalls.fW aF TblOk.nil Tryz.func104 [.tmp 2] (Nat.le_refl _) (T:=aD []) (h:=fun hcl hlt=>?_)
 have hx:=AV.lt_mono (Nat.le_succ H.nx) _ (hlt (.agg [a1,a2,.slice m 2 (keys.map cR),a3,a4]) (by simp))
 have hm:∀ n',H.nx≤n'→AV.lt n' (.slice m 2 (keys.map cR)):=fun n' hn=>AV.lt_mono hn _ (by have h1:=hlt (.agg [a1,a2,.slice m 2 (keys.map cR),a3,a4]) (by simp);rw [znl] at h1;exact h1.2.2.1)
 simp only [znl] at hx
 clear hlt
 simp only [go_sem,jR]
 refine av (A:=Nat × AHeap) (fun a=>[(3,.slice (.own (H.nx+1+1)) 2 (aX (di (keys.take a.1)))),(7,.slice m 2 (keys.map cR)),(8,.int .i64 (keys.length:Int)),(9,.int .i64 (a.1:Int))]) (fun a=>a.2)
  (fun a=>a.1≤keys.length∧H.Le a.2∧a.2.Closed∧a.2.get (H.nx+1+1)=some (.buf 2 (di (keys.take a.1)).length)) (fun a=>keys.length - a.1)
  (0,((H.push (.cells [a1,a2,.slice m 2 (keys.map cR),a3,a4])).push (.buf 2 0)).push (.buf 2 0)) ⟨Nat.zero_le _,(((AHeap.Le.refl _).push _).push _).push _,af (af (ae hcl hx)),AHeap.get_push_new _ _⟩ ?_ fun a ha=>?_
 ·have hc0:=af (a:=2) (b:=0) (af (a:=2) (b:=0) (ae hcl hx))
  (simp only [bkq,enterW,aR,ltF,ne_eq,Nat.reduceEqDiff,reduceCtorEq,hc0,hm,aN];try simp (disch:=first|assumption|omega|(simp;done)|(simp;omega)|(simp only [bt,and_true];first|done|omega|(simp;done))) [↓zmi,beq,ybc,ybd,ybe,ah,wk,wk2,wk1,wkM,wkL,ap,ybf,byq,biq,ag,hcl,hc0,hm,aN];try (repeat' (first|assumption|omega|exact True.intro|refine And.intro ?_ ?_|refine af ?_|refine aa ?_|refine ae ?_ ?_|refine ai ?_ ?_|refine ak ?_|exact AHeap.Le.refl _|refine AHeap.Le.push ?_ _|refine AHeap.Le.del ?_ ?_|(simp only [bt,and_true,true_and,hc0,hm,aN];first|done|omega|(simp;done)))))
  simp [aX,di]
 obtain ⟨k,Hc⟩:=a
 obtain ⟨hk,hle,hcc,hid⟩:=ha
 dsimp only at hk hle hcc hid ⊢
 have hnx:=AHeap.get_lt hid
 simp only [go_sem]
 refine aj (fun hc=>?_) (fun hc=>?_)
 ·have hk1:k<keys.length:=by simp at hc;omega
  have e5:IntKind.i64.wrap ((k:Int)+1)=((k+1:Nat):Int):=by rw [wrap_i64]<;>omega
  have hfl:(di (keys.take k)).length≤2*k:=by simp only [di,ybb,List.length_take];omega
  have n1:(Hc.nx=H.nx+1+1)=False:=eq_false (by omega)
  have n2:(H.nx+1+1=Hc.nx)=False:=eq_false (by omega)
  have n3:(H.nx+1+1=Hc.nx+1)=False:=eq_false (by omega)
  obtain ⟨LL,hLL⟩:∃ LL,(di (keys.take k))=LL:=⟨_,rfl⟩
  rw [hLL] at hid hfl ⊢
  have hnn:H.nx≤Hc.nx:=by omega
  have hln:di (keys.take (k+1))=LL++[(keys[k].name,[])]:=by rw [← hLL,← List.take_append_getElem hk1];simp only [di,List.map_append,yae,yaf]
  have hsn:aX LL++[.agg [.str keys[k].name,.str []]]=aX (LL++[(keys[k].name,[])]):=by simp [aX,dT]
  simp only [go_sem,jR,pD hk1,Int.toNat_natCast,hid,bX,n1,n2,n3,e5]
  refine ⟨by omega,⟨by omega,by omega,fun z hz=>by simp only [List.mem_cons,List.not_mem_nil,or_false] at hz;(try rcases hz with rfl|rfl)<;>(try subst hz)<;>rfl⟩,(k+1,Hc.set (H.nx+1+1) (.buf 2 (LL.length+1))),⟨by dsimp only;omega,ce hle (by omega),aa hcc,?_⟩,by dsimp only;omega,?_⟩
  ·dsimp only
   rw [bm,if_pos rfl,if_pos hnx,hln];simp
  ·have hcs:=@aa Hc (H.nx+1+1) 2 (LL.length+1) hcc
   dsimp only
   rw [hln]
   try rw [hsn]
   (simp only [bkq,enterW,aR,ltF,ne_eq,Nat.reduceEqDiff,reduceCtorEq,hcs,hm,aN,hnn];try simp (disch:=first|assumption|omega|(simp;done)|(simp;omega)|(simp only [bt,and_true];first|done|omega|(simp;done))) [↓zmi,beq,ybc,ybd,ybe,ah,wk,wk2,wk1,wkM,wkL,ap,ybf,byq,biq,ag,hcl,hcs,hm,aN,hnn];try (repeat' (first|assumption|omega|exact True.intro|refine And.intro ?_ ?_|refine af ?_|refine aa ?_|refine ae ?_ ?_|refine ai ?_ ?_|refine ak ?_|exact AHeap.Le.refl _|refine AHeap.Le.push ?_ _|refine AHeap.Le.del ?_ ?_|(simp only [bt,and_true,true_and,hcs,hm,aN,hnn];first|done|omega|(simp;done)))))
 ·have hk1:k=keys.length:=by simp at hc;omega
  subst hk1
  rw [List.take_length] at hid
  rw [List.take_length]
  simp only [go_sem]
  simp (disch:=first|assumption|omega|(simp;done)|(simp;omega)|(simp only [bt,and_true];first|done|omega|(simp;done))) [↓zmi,beq,ybc,ybd,ybe,ah,wk,wk2,wk1,wkM,wkL,ap,ybf,hcl,hle,aN]
end Go.AL
open Go Go.AL Go.Proofs
namespace Go.AL
set_option linter.all false
set_option maxRecDepth 10000
theorem zm:bn [97,32,43,32,49]=([(2,[97],0),(3,[43],2),(1,[49],4)],0,0):=by decide +kernel
theorem CA:run [(2,[97],0),(3,[43],2),(1,[49],4)] 20 .imp 0 []=some (.ok 2 3 [⟨3,0,0,[97],[],0⟩,⟨1,0,0,[],[],1⟩,⟨6,0,1,[],[],0⟩]):=by kernel_rfl
theorem AG:bn [97,58,58,109,97,115,107,32,62,32,48]=([(2,[97],0),(3,[58,58],1),(2,[109,97,115,107],3),(3,[62],8),(1,[48],10)],0,0):=by decide +kernel
theorem Ct:run [(2,[97],0),(3,[58,58],1),(2,[109,97,115,107],3),(3,[62],8),(1,[48],10)] 20 .imp 0 []=some (.ok 2 5 [⟨3,0,0,[97],[109,97,115,107],0⟩,⟨1,0,0,[],[],0⟩,⟨12,0,1,[],[],0⟩]):=by kernel_rfl
theorem si {kn:VN→Bool} {s:List UInt8} {l:List Tok} {f:Nat} {r:PR} {a b:Nat} (hs:s≠[]) (h1:bn s=(l,a,b)) (h2:run l f .imp 0 []=some r):comp kn s=qi kn b (dk l r):=by
 unfold comp
 rw [if_neg hs,h1]
 dsimp only
 rw [Du h2]
def tR:List VN:=eI [⟨[97],0,1⟩]
theorem Ai:(comp (aV tR) [97,32,43,32,49]).2=12:=by
 rw [si (by simp) zm CA]
 decide +kernel
theorem BA:(comp (aV tR) [97,58,58,109,97,115,107,32,62,32,48]).2=6:=by
 rw [si (by simp) AG Ct]
 decide +kernel
theorem pb {kn:VN→Bool}:comp kn []=(A7,0):=by unfold comp;rw [if_pos rfl]
theorem sU {s:List UInt8}:(bn s).2.2=0∨(bn s).2.2=3∨(bn s).2.2=10:=by
 unfold bn
 split
 ·exact .inr (.inl rfl)
 ·split
  ·exact .inl rfl
  ·exact .inr (.inr rfl)
def kX:List AV→AHeap→(AV→Prop)→Prop
 |[],_,K=>K (.bool true)
 |_,_,_=>False
theorem p8:EntOk Tryz.prog 20 (Ent.pure kX):=by
 refine EntOk.pure fun args H K h=>?_
 unfold kX at h
 split at h
 rotate_left
 ·exact h.elim
 refine ⟨_,h,?_⟩
 clear h
 refine ACalls.fW aF (TblOk.cons lL (TblOk.cons og TblOk.nil)) Tryz.func20 [.tmp 0] (Nat.le_refl _) (T:=aD []) (h:=fun hcl hlt=>?_)
 clear hlt
 simp only [go_sem,gZ]
 refine ⟨[⟨[97],0,1⟩],⟨rfl,by decide⟩,?_⟩
 have hov:tF tR:=⟨by decide,by decide⟩
 have hvl:(aX (eI [⟨[97],0,1⟩])).length=3:=rfl
 simp only [go_sem,fC]
 refine ⟨tR,⟨rfl,hov⟩,?_⟩
 have c1:=Ai
 generalize comp (aV tR) [97,32,43,32,49]=q1 at *
 obtain ⟨t1,e1⟩:=q1
 have c1':e1=12:=c1
 subst c1'
 simp only [go_sem,fC,c9]
 refine ⟨tR,⟨rfl,hov⟩,?_⟩
 have c2:=BA
 generalize comp (aV tR) [97,58,58,109,97,115,107,32,62,32,48]=q2 at *
 obtain ⟨t2,e2⟩:=q2
 have c2':e2=6:=c2
 subst c2'
 simp only [go_sem,fC,c9]
 refine ⟨tR,⟨rfl,hov⟩,?_⟩
 rw [pb]
 have d1:(((12:Nat):Int)==12)=true:=rfl
 have d2:(((6:Nat):Int)==6)=true:=rfl
 have d3:(((0:Nat):Int)==0)=true:=rfl
 have d4:(((1:Nat):Int)==1)=true:=rfl
 have d5:(((3:Nat):Int)==3)=true:=rfl
 have hol:(nds A7).length=1:=rfl
 simp only [go_sem,c9,d1,d2,d3,d4,d5,hol,hvl]
 simp (disch:=first|assumption|omega|(simp;done)|(simp;omega)|(simp only [bt,and_true];first|done|omega|(simp;done))) [↓zmi,beq,ybc,ybd,ybe,ah,wk,wk2,wk1,wkM,wkL,ap,ybf,hcl]
/-- the first error of the restrictions -/
noncomputable def oz (t:STable):Nat:=(comp (aV (eI t.keys)) t.restr).2
noncomputable def qD (a:SAction):Nat:=(comp (aV (di a.params)) a.restr).2
def dH {α:Type} (f:α→Nat):List α→Nat
 |[]=>0
 |x::l=>if f x=0 then dH f l else f x
noncomputable def qK (ts:List STable) (al:List SAction):Nat:=if dH oz ts=0 then dH qD al else dH oz ts
theorem iz {kn:VN→Bool} {s:List UInt8}:(comp kn s).2≤12:=by
 unfold comp
 split
 ·exact Nat.zero_le _
 ·unfold qi
  split
  ·rcases sU (s:=s) with h|h|h<;>simp only [h]<;>omega
  ·split
   ·have:∀ l r,(dk l r).2≤12:=by
     intro l r
     cases r with
     |bad p=>simp [dk]
     |ok a p t=>dsimp only [dk];split;simp;split<;>simp
    exact this _ _
   ·split
    ·exact chk_le.2
    ·exact Nat.zero_le _
end Go.AL
open Go Go.AL Go.Proofs
namespace Go.AL
set_option linter.all false
set_option maxRecDepth 10000
theorem wq:ti Tryz.prog 30=some ⟨.slice 54,1,24,.slice .nil 1 []⟩:=by kernel_rfl
theorem ub:ti Tryz.prog 29=some ⟨.slice 58,1,24,.slice .nil 1 []⟩:=by kernel_rfl
theorem vI:ti Tryz.prog 35=some ⟨.struct [(0,26,false),(1,27,false),(2,28,false),(3,29,false),(4,30,false),(5,31,false),(6,32,false),(7,33,false),(8,3,false),(9,3,false)],10,208,.agg [.slice .nil 1 [],.slice .nil 1 [],.slice .nil 1 [],.slice .nil 1 [],.slice .nil 1 [],.slice .nil 1 [],.slice .nil 1 [],.slice .nil 1 [],.int .i64 0,.int .i64 0]⟩:=by kernel_rfl
attribute [go_sem] wq ub vI
def uN (t:STable):Prop:=t.keys.length≤400∧(∀ k∈t.keys,k.name.length≤1000)∧t.restr.length≤140737488355328
def uJ (a:SAction):Prop:=a.params.length≤400∧(∀ k∈a.params,k.name.length≤1000)∧a.restr.length≤140737488355328
theorem tK {k:Int}:∀ a∈nh k,a.length≤1000:=by
 unfold nh
 split
 ·decide
 ·split
  ·decide
  ·split
   ·decide
   ·split
    ·decide
    ·intro a h;cases h
theorem ua {t:STable} (h:uN t):tF (eI t.keys):=by
 obtain ⟨h1,h2,_⟩:=h
 constructor
 ·have:=ij (l:=t.keys) (k:=t.keys.length)
  rw [List.take_length] at this
  unfold eI
  rw [List.length_append]
  simp only [yaz,yba]
  omega
 ·intro v hv
  rcases List.mem_append.1 hv with h|h
  ·obtain ⟨k,hk,hv⟩:=List.mem_flatMap.1 h
   obtain ⟨a,ha,rfl⟩:=List.mem_map.1 hv
   exact ⟨h2 k hk,tK a ha⟩
  ·rw [List.mem_singleton.1 h];decide
theorem uq {a:SAction} (h:uJ a):tF (di a.params):=by
 obtain ⟨h1,h2,_⟩:=h
 refine ⟨by unfold di;rw [ybb];omega,fun v hv=>?_⟩
 obtain ⟨p,hp,rfl⟩:=List.mem_map.1 hv
 exact ⟨h2 p hp,Nat.zero_le _⟩
theorem mT {l:List STable}:(l.map aU).length=l.length:=ybb ..
theorem um {l:List STable} {k:Nat} (h:k<l.length):(l.map aU).getD k .junk=.agg [.int .i64 l[k].id,.str l[k].name,.slice .any 3 (l[k].keys.map dh),.slice .any 1 (inL l[k].actions),.int .i64 l[k].dflt,.slice .any 2 (l[k].dargs.map vv),.int .i64 l[k].size,.str l[k].restr]:=by
 simp [List.getD_eq_getElem?_getD,h,aU]
theorem ng {l:List SAction}:(l.map aS).length=l.length:=ybb ..
theorem tX {l:List SAction} {k:Nat} (h:k<l.length):(l.map aS).getD k .junk=.agg [.int .i64 l[k].id,.str l[k].name,.slice .any 2 (l[k].params.map cR),.slice .any 6 (l[k].body.map nN),.str l[k].restr]:=by
 simp [List.getD_eq_getElem?_getD,h,aS]
theorem lg {α:Type} {f:α→Nat} {l:List α} (h:∀ x,f x≤12):dH f l≤12:=by
 induction l with
 |nil=>exact Nat.zero_le _
 |cons x l ih =>
  unfold dH
  split
  ·exact ih
  ·exact h x
def nC:List AV→AHeap→(AV→Prop)→Prop
 |[.agg [_,_,_,.slice _ 5 x,.slice _ 8 y,_,_,_,_,_]],_,K=>∃ al ts,(x=al.map aS∧y=ts.map aU∧al.length≤100000∧ts.length≤100000∧(∀ a∈al,uJ a)∧∀ t∈ts,uN t)∧K (.int .i64 (qK ts al:Int))
 |_,_,_=>False
theorem wT:EntOk Tryz.prog 17 (Ent.pure nC):=by
 refine EntOk.pure fun args H K h=>?_
 unfold nC at h
 split at h
 rotate_left
 ·exact h.elim
 rename_i a1 a2 a3 m x m2 y b1 b2 b3 b4 b5
 obtain ⟨al,ts,⟨rfl,rfl,hal,htl,hao,hto⟩,hK⟩:=h
 refine ⟨_,hK,?_⟩
 clear hK
 refine ACalls.fW aF (TblOk.cons lL (TblOk.cons qg (TblOk.cons og TblOk.nil))) Tryz.func17 [.tmp 2] (Nat.le_refl _) (T:=aD [(4,[[],[],[],[2],[1,2,3]]),(11,[[],[],[],[2],[1,2,3]])]) (h:=fun hcl hlt=>?_)
 have hx:=AV.lt_mono (Nat.le_succ H.nx) _ (hlt (.agg [a1,a2,a3,.slice m 5 (al.map aS),.slice m2 8 (ts.map aU),b1,b2,b3,b4,b5]) (by simp))
 have hm:∀ n',H.nx≤n'→AV.lt n' (.slice m 5 (al.map aS))∧AV.lt n' (.slice m2 8 (ts.map aU)):=fun n' hn=>by
  have h1:=hlt (.agg [a1,a2,a3,.slice m 5 (al.map aS),.slice m2 8 (ts.map aU),b1,b2,b3,b4,b5]) (by simp)
  rw [znl] at h1
  exact ⟨AV.lt_mono hn _ h1.2.2.2.1,AV.lt_mono hn _ h1.2.2.2.2.1⟩
 have hm1:=fun n' hn=>(hm n' hn).1
 have hm2:=fun n' hn=>(hm n' hn).2
 simp only [znl] at hx
 clear hlt hm
 have hcc:=ae hcl hx
 unfold qK
 obtain ⟨Q,hQ⟩:∃ Q,dH oz ts=Q:=⟨_,rfl⟩
 rw [hQ]
 simp only [go_sem,mT]
 refine av (A:=Nat) (fun k=>[(1,.ptr H.nx 0),(12,.slice m2 8 (ts.map aU)),(13,.int .i64 (ts.length:Int)),(14,.int .i64 (k:Int))]) (fun _=>H.push (.cells [a1,a2,a3,.slice m 5 (al.map aS),.slice m2 8 (ts.map aU),b1,b2,b3,b4,b5]))
  (fun k=>k≤ts.length∧dH oz (ts.drop k)=Q) (fun k=>ts.length - k) 0 ⟨Nat.zero_le _,hQ⟩ ?_ fun k ha=>?_
 ·(simp only [bkq,enterW,aR,ltF,ne_eq,Nat.reduceEqDiff,reduceCtorEq,hcc,hm2];try simp (disch:=first|assumption|omega|(simp;done)|(simp;omega)|(simp only [bt,and_true];first|done|omega|(simp;done))) [↓zmi,beq,ybc,ybd,ybe,ah,wk,wk2,wk1,wkM,wkL,ap,ybf,byq,biq,ag,hcl,hcc,hm2];try (repeat' (first|assumption|omega|exact True.intro|refine And.intro ?_ ?_|refine af ?_|refine aa ?_|refine ae ?_ ?_|refine ai ?_ ?_|refine ak ?_|exact AHeap.Le.refl _|refine AHeap.Le.push ?_ _|refine AHeap.Le.del ?_ ?_|(simp only [bt,and_true,true_and,hcc,hm2];first|done|omega|(simp;done)))))
 obtain ⟨hk,hq⟩:=ha
 have hn1:(H.nx=H.nx+1)=False:=eq_false (by omega)
 simp only [go_sem]
 refine aj (fun hc=>?_) (fun hc=>?_)
 ·have hk1:k<ts.length:=by simp at hc;omega
  have e5:IntKind.i64.wrap ((k:Int)+1)=((k+1:Nat):Int):=by rw [wrap_i64]<;>omega
  have hot:=hto ts[k] (List.getElem_mem hk1)
  have hov:=ua hot
  obtain ⟨o1,o2,o3⟩:=hot
  rw [List.drop_eq_getElem_cons hk1] at hq
  simp only [dH] at hq
  have he:=@iz (aV (eI ts[k].keys)) ts[k].restr
  have hte:oz ts[k]=(comp (aV (eI ts[k].keys)) ts[k].restr).2:=rfl
  rw [hte] at hq
  simp only [go_sem,mT,um hk1,Int.toNat_natCast,gZ,hn1]
  refine ⟨by omega,ts[k].keys,⟨rfl,by omega⟩,?_⟩
  simp only [go_sem,fC]
  refine ⟨eI ts[k].keys,⟨rfl,hov,o3⟩,?_⟩
  generalize comp (aV (eI ts[k].keys)) ts[k].restr=c at *
  by_cases hz:c.2=0
  ·have d1:((c.2:Int) != 0)=false:=by rw [hz];rfl
   rw [if_pos hz] at hq
   simp only [go_sem,c9,d1,e5]
   refine ⟨k+1,⟨by omega,hq⟩,by omega,?_⟩
   (simp only [bkq,enterW,aR,ltF,ne_eq,Nat.reduceEqDiff,reduceCtorEq,hcc,hm2];try simp (disch:=first|assumption|omega|(simp;done)|(simp;omega)|(simp only [bt,and_true];first|done|omega|(simp;done))) [↓zmi,beq,ybc,ybd,ybe,ah,wk,wk2,wk1,wkM,wkL,ap,ybf,byq,biq,ag,hcl,hcc,hm2];try (repeat' (first|assumption|omega|exact True.intro|refine And.intro ?_ ?_|refine af ?_|refine aa ?_|refine ae ?_ ?_|refine ai ?_ ?_|refine ak ?_|exact AHeap.Le.refl _|refine AHeap.Le.push ?_ _|refine AHeap.Le.del ?_ ?_|(simp only [bt,and_true,true_and,hcc,hm2];first|done|omega|(simp;done)))))
  ·have d1:((c.2:Int) != 0)=true:=bne_iff_ne.2 (by omega)
   rw [if_neg hz] at hq
   subst hq
   rw [if_neg hz]
   simp only [go_sem,c9,d1]
   simp (disch:=first|assumption|omega|(simp;done)|(simp;omega)|(simp only [bt,and_true];first|done|omega|(simp;done))) [↓zmi,beq,ybc,ybd,ybe,ah,wk,wk2,wk1,wkM,wkL,ap,ybf,hcl]
 ·have hk1:k=ts.length:=by simp at hc;omega
  subst hk1
  rw [List.drop_length] at hq
  have hq':0=Q:=hq
  subst hq'
  rw [if_pos rfl]
  obtain ⟨Q,hQ⟩:∃ Q,dH qD al=Q:=⟨_,rfl⟩
  rw [hQ]
  simp only [go_sem,ng]
  refine av (A:=Nat) (fun k=>[(31,.slice m 5 (al.map aS)),(32,.int .i64 (al.length:Int)),(33,.int .i64 (k:Int))]) (fun _=>H)
   (fun k=>k≤al.length∧dH qD (al.drop k)=Q) (fun k=>al.length - k) 0 ⟨Nat.zero_le _,hQ⟩ ?_ fun k ha=>?_
  ·(simp only [bkq,enterW,aR,ltF,ne_eq,Nat.reduceEqDiff,reduceCtorEq,hm1];try simp (disch:=first|assumption|omega|(simp;done)|(simp;omega)|(simp only [bt,and_true];first|done|omega|(simp;done))) [↓zmi,beq,ybc,ybd,ybe,ah,wk,wk2,wk1,wkM,wkL,ap,ybf,byq,biq,ag,hcl,hm1];try (repeat' (first|assumption|omega|exact True.intro|refine And.intro ?_ ?_|refine af ?_|refine aa ?_|refine ae ?_ ?_|refine ai ?_ ?_|refine ak ?_|exact AHeap.Le.refl _|refine AHeap.Le.push ?_ _|refine AHeap.Le.del ?_ ?_|(simp only [bt,and_true,true_and,hm1];first|done|omega|(simp;done)))))
  obtain ⟨hk,hq⟩:=ha
  simp only [go_sem]
  refine aj (fun hc=>?_) (fun hc=>?_)
  ·have hk1:k<al.length:=by simp at hc;omega
   have e5:IntKind.i64.wrap ((k:Int)+1)=((k+1:Nat):Int):=by rw [wrap_i64]<;>omega
   have hot:=hao al[k] (List.getElem_mem hk1)
   have hov:=uq hot
   obtain ⟨o1,o2,o3⟩:=hot
   rw [List.drop_eq_getElem_cons hk1] at hq
   simp only [dH] at hq
   have he:=@iz (aV (di al[k].params)) al[k].restr
   have hte:qD al[k]=(comp (aV (di al[k].params)) al[k].restr).2:=rfl
   rw [hte] at hq
   simp only [go_sem,ng,tX hk1,Int.toNat_natCast,iZ]
   refine ⟨by omega,al[k].params,⟨rfl,by omega⟩,?_⟩
   simp only [go_sem,fC]
   refine ⟨di al[k].params,⟨rfl,hov,o3⟩,?_⟩
   generalize comp (aV (di al[k].params)) al[k].restr=c at *
   by_cases hz:c.2=0
   ·have d1:((c.2:Int) != 0)=false:=by rw [hz];rfl
    rw [if_pos hz] at hq
    simp only [go_sem,c9,d1,e5]
    refine ⟨k+1,⟨by omega,hq⟩,by omega,?_⟩
    (simp only [bkq,enterW,aR,ltF,ne_eq,Nat.reduceEqDiff,reduceCtorEq,hm1];try simp (disch:=first|assumption|omega|(simp;done)|(simp;omega)|(simp only [bt,and_true];first|done|omega|(simp;done))) [↓zmi,beq,ybc,ybd,ybe,ah,wk,wk2,wk1,wkM,wkL,ap,ybf,byq,biq,ag,hcl,hm1];try (repeat' (first|assumption|omega|exact True.intro|refine And.intro ?_ ?_|refine af ?_|refine aa ?_|refine ae ?_ ?_|refine ai ?_ ?_|refine ak ?_|exact AHeap.Le.refl _|refine AHeap.Le.push ?_ _|refine AHeap.Le.del ?_ ?_|(simp only [bt,and_true,true_and,hm1];first|done|omega|(simp;done)))))
   ·have d1:((c.2:Int) != 0)=true:=bne_iff_ne.2 (by omega)
    rw [if_neg hz] at hq
    subst hq
    simp only [go_sem,c9,d1]
    simp (disch:=first|assumption|omega|(simp;done)|(simp;omega)|(simp only [bt,and_true];first|done|omega|(simp;done))) [↓zmi,beq,ybc,ybd,ybe,ah,wk,wk2,wk1,wkM,wkL,ap,ybf,hcl]
  ·have hk1:k=al.length:=by simp at hc;omega
   subst hk1
   rw [List.drop_length] at hq
   have hq':0=Q:=hq
   subst hq'
   simp only [go_sem]
   simp (disch:=first|assumption|omega|(simp;done)|(simp;omega)|(simp only [bt,and_true];first|done|omega|(simp;done))) [↓zmi,beq,ybc,ybd,ybe,ah,wk,wk2,wk1,wkM,wkL,ap,ybf,hcl]
def sW:List AV→AHeap→(AV→Prop)→Prop
 |[.agg [_,_,_,.slice _ 5 x,.slice _ 8 y,_,_,_,_,_]],_,K=>∃ al ts,(x=al.map aS∧y=ts.map aU∧al.length≤100000∧ts.length≤100000∧(∀ a∈al,uJ a)∧∀ t∈ts,uN t)∧K (.int .i64 (qK ts al:Int))
 |_,_,_=>False
theorem w4:EntOk Tryz.prog 19 (Ent.pure sW):=by
 refine EntOk.pure fun args H K h=>?_
 unfold sW at h
 split at h
 rotate_left
 ·exact h.elim
 rename_i a1 a2 a3 m x m2 y b1 b2 b3 b4 b5
 obtain ⟨al,ts,⟨rfl,rfl,hal,htl,hao,hto⟩,hK⟩:=h
 refine ⟨_,hK,?_⟩
 clear hK
 refine ACalls.fW aF (TblOk.cons qJ (TblOk.cons pA (TblOk.cons tJ TblOk.nil))) Tryz.func19 [.tmp 2] (Nat.le_refl _) (T:=aD [(4,[[],[],[],[2],[1,2,3]]),(11,[[],[],[],[2],[1,2,3]])]) (h:=fun hcl hlt=>?_)
 have hx:=AV.lt_mono (Nat.le_succ H.nx) _ (hlt (.agg [a1,a2,a3,.slice m 5 (al.map aS),.slice m2 8 (ts.map aU),b1,b2,b3,b4,b5]) (by simp))
 have hm:∀ n',H.nx≤n'→AV.lt n' (.slice m 5 (al.map aS))∧AV.lt n' (.slice m2 8 (ts.map aU)):=fun n' hn=>by
  have h1:=hlt (.agg [a1,a2,a3,.slice m 5 (al.map aS),.slice m2 8 (ts.map aU),b1,b2,b3,b4,b5]) (by simp)
  rw [znl] at h1
  exact ⟨AV.lt_mono hn _ h1.2.2.2.1,AV.lt_mono hn _ h1.2.2.2.2.1⟩
 have hm1:=fun n' hn=>(hm n' hn).1
 have hm2:=fun n' hn=>(hm n' hn).2
 simp only [znl] at hx
 clear hlt hm
 have hcc:=ae hcl hx
 unfold qK
 obtain ⟨Q,hQ⟩:∃ Q,dH oz ts=Q:=⟨_,rfl⟩
 rw [hQ]
 simp only [go_sem,mT]
 refine av (A:=Nat) (fun k=>[(1,.ptr H.nx 0),(12,.slice m2 8 (ts.map aU)),(13,.int .i64 (ts.length:Int)),(14,.int .i64 (k:Int))]) (fun _=>H.push (.cells [a1,a2,a3,.slice m 5 (al.map aS),.slice m2 8 (ts.map aU),b1,b2,b3,b4,b5]))
  (fun k=>k≤ts.length∧dH oz (ts.drop k)=Q) (fun k=>ts.length - k) 0 ⟨Nat.zero_le _,hQ⟩ ?_ fun k ha=>?_
 ·(simp only [bkq,enterW,aR,ltF,ne_eq,Nat.reduceEqDiff,reduceCtorEq,hcc,hm2];try simp (disch:=first|assumption|omega|(simp;done)|(simp;omega)|(simp only [bt,and_true];first|done|omega|(simp;done))) [↓zmi,beq,ybc,ybd,ybe,ah,wk,wk2,wk1,wkM,wkL,ap,ybf,byq,biq,ag,hcl,hcc,hm2];try (repeat' (first|assumption|omega|exact True.intro|refine And.intro ?_ ?_|refine af ?_|refine aa ?_|refine ae ?_ ?_|refine ai ?_ ?_|refine ak ?_|exact AHeap.Le.refl _|refine AHeap.Le.push ?_ _|refine AHeap.Le.del ?_ ?_|(simp only [bt,and_true,true_and,hcc,hm2];first|done|omega|(simp;done)))))
 obtain ⟨hk,hq⟩:=ha
 have hn1:(H.nx=H.nx+1)=False:=eq_false (by omega)
 simp only [go_sem]
 refine aj (fun hc=>?_) (fun hc=>?_)
 ·have hk1:k<ts.length:=by simp at hc;omega
  have e5:IntKind.i64.wrap ((k:Int)+1)=((k+1:Nat):Int):=by rw [wrap_i64]<;>omega
  have hot:=hto ts[k] (List.getElem_mem hk1)
  have hov:=ua hot
  obtain ⟨o1,o2,o3⟩:=hot
  rw [List.drop_eq_getElem_cons hk1] at hq
  simp only [dH] at hq
  have he:=@iz (aV (eI ts[k].keys)) ts[k].restr
  have hte:oz ts[k]=(comp (aV (eI ts[k].keys)) ts[k].restr).2:=rfl
  rw [hte] at hq
  simp only [go_sem,mT,um hk1,Int.toNat_natCast,jx,hn1]
  refine ⟨by omega,ts[k].keys,⟨rfl,by omega⟩,?_⟩
  simp only [go_sem,jQ]
  refine ⟨eI ts[k].keys,⟨rfl,hov,o3⟩,?_⟩
  generalize comp (aV (eI ts[k].keys)) ts[k].restr=c at *
  by_cases hz:c.2=0
  ·have d1:((c.2:Int) != 0)=false:=by rw [hz];rfl
   rw [if_pos hz] at hq
   simp only [go_sem,c9,d1,e5]
   refine ⟨k+1,⟨by omega,hq⟩,by omega,?_⟩
   (simp only [bkq,enterW,aR,ltF,ne_eq,Nat.reduceEqDiff,reduceCtorEq,hcc,hm2];try simp (disch:=first|assumption|omega|(simp;done)|(simp;omega)|(simp only [bt,and_true];first|done|omega|(simp;done))) [↓zmi,beq,ybc,ybd,ybe,ah,wk,wk2,wk1,wkM,wkL,ap,ybf,byq,biq,ag,hcl,hcc,hm2];try (repeat' (first|assumption|omega|exact True.intro|refine And.intro ?_ ?_|refine af ?_|refine aa ?_|refine ae ?_ ?_|refine ai ?_ ?_|refine ak ?_|exact AHeap.Le.refl _|refine AHeap.Le.push ?_ _|refine AHeap.Le.del ?_ ?_|(simp only [bt,and_true,true_and,hcc,hm2];first|done|omega|(simp;done)))))
  ·have d1:((c.2:Int) != 0)=true:=bne_iff_ne.2 (by omega)
   rw [if_neg hz] at hq
   subst hq
   rw [if_neg hz]
   simp only [go_sem,c9,d1]
   simp (disch:=first|assumption|omega|(simp;done)|(simp;omega)|(simp only [bt,and_true];first|done|omega|(simp;done))) [↓zmi,beq,ybc,ybd,ybe,ah,wk,wk2,wk1,wkM,wkL,ap,ybf,hcl]
 ·have hk1:k=ts.length:=by simp at hc;omega
  subst hk1
  rw [List.drop_length] at hq
  have hq':0=Q:=hq
  subst hq'
  rw [if_pos rfl]
  obtain ⟨Q,hQ⟩:∃ Q,dH qD al=Q:=⟨_,rfl⟩
  rw [hQ]
  simp only [go_sem,ng]
  refine av (A:=Nat) (fun k=>[(31,.slice m 5 (al.map aS)),(32,.int .i64 (al.length:Int)),(33,.int .i64 (k:Int))]) (fun _=>H)
   (fun k=>k≤al.length∧dH qD (al.drop k)=Q) (fun k=>al.length - k) 0 ⟨Nat.zero_le _,hQ⟩ ?_ fun k ha=>?_
  ·(simp only [bkq,enterW,aR,ltF,ne_eq,Nat.reduceEqDiff,reduceCtorEq,hm1];try simp (disch:=first|assumption|omega|(simp;done)|(simp;omega)|(simp only [bt,and_true];first|done|omega|(simp;done))) [↓zmi,beq,ybc,ybd,ybe,ah,wk,wk2,wk1,wkM,wkL,ap,ybf,byq,biq,ag,hcl,hm1];try (repeat' (first|assumption|omega|exact True.intro|refine And.intro ?_ ?_|refine af ?_|refine aa ?_|refine ae ?_ ?_|refine ai ?_ ?_|refine ak ?_|exact AHeap.Le.refl _|refine AHeap.Le.push ?_ _|refine AHeap.Le.del ?_ ?_|(simp only [bt,and_true,true_and,hm1];first|done|omega|(simp;done)))))
  obtain ⟨hk,hq⟩:=ha
  simp only [go_sem]
  refine aj (fun hc=>?_) (fun hc=>?_)
  ·have hk1:k<al.length:=by simp at hc;omega
   have e5:IntKind.i64.wrap ((k:Int)+1)=((k+1:Nat):Int):=by rw [wrap_i64]<;>omega
   have hot:=hao al[k] (List.getElem_mem hk1)
   have hov:=uq hot
   obtain ⟨o1,o2,o3⟩:=hot
   rw [List.drop_eq_getElem_cons hk1] at hq
   simp only [dH] at hq
   have he:=@iz (aV (di al[k].params)) al[k].restr
   have hte:qD al[k]=(comp (aV (di al[k].params)) al[k].restr).2:=rfl
   rw [hte] at hq
   simp only [go_sem,ng,tX hk1,Int.toNat_natCast,iY]
   refine ⟨by omega,al[k].params,⟨rfl,by omega⟩,?_⟩
   simp only [go_sem,jQ]
   refine ⟨di al[k].params,⟨rfl,hov,o3⟩,?_⟩
   generalize comp (aV (di al[k].params)) al[k].restr=c at *
   by_cases hz:c.2=0
   ·have d1:((c.2:Int) != 0)=false:=by rw [hz];rfl
    rw [if_pos hz] at hq
    simp only [go_sem,c9,d1,e5]
    refine ⟨k+1,⟨by omega,hq⟩,by omega,?_⟩
    (simp only [bkq,enterW,aR,ltF,ne_eq,Nat.reduceEqDiff,reduceCtorEq,hm1];try simp (disch:=first|assumption|omega|(simp;done)|(simp;omega)|(simp only [bt,and_true];first|done|omega|(simp;done))) [↓zmi,beq,ybc,ybd,ybe,ah,wk,wk2,wk1,wkM,wkL,ap,ybf,byq,biq,ag,hcl,hm1];try (repeat' (first|assumption|omega|exact True.intro|refine And.intro ?_ ?_|refine af ?_|refine aa ?_|refine ae ?_ ?_|refine ai ?_ ?_|refine ak ?_|exact AHeap.Le.refl _|refine AHeap.Le.push ?_ _|refine AHeap.Le.del ?_ ?_|(simp only [bt,and_true,true_and,hm1];first|done|omega|(simp;done)))))
   ·have d1:((c.2:Int) != 0)=true:=bne_iff_ne.2 (by omega)
    rw [if_neg hz] at hq
    subst hq
    simp only [go_sem,c9,d1]
    simp (disch:=first|assumption|omega|(simp;done)|(simp;omega)|(simp only [bt,and_true];first|done|omega|(simp;done))) [↓zmi,beq,ybc,ybd,ybe,ah,wk,wk2,wk1,wkM,wkL,ap,ybf,hcl]
  ·have hk1:k=al.length:=by simp at hc;omega
   subst hk1
   rw [List.drop_length] at hq
   have hq':0=Q:=hq
   subst hq'
   simp only [go_sem]
   simp (disch:=first|assumption|omega|(simp;done)|(simp;omega)|(simp only [bt,and_true];first|done|omega|(simp;done))) [↓zmi,beq,ybc,ybd,ybe,ah,wk,wk2,wk1,wkM,wkL,ap,ybf,hcl]
end Go.AL
open Go Go.AL Go.Proofs
namespace Go.AL
set_option linter.all false
set_option maxRecDepth 10000
def okC (kn:VN→Bool) (s:List UInt8) (f:Nat):Bool:=match bn s with
 |(l,_,e)=>match run l f .imp 0 [] with
  |some r=>(qi kn e (dk l r)).2==0
  |none=>false
theorem uF {kn:VN→Bool} {s:List UInt8} {f:Nat} (hs:s≠[]) (h:okC kn s f=true):(comp kn s).2=0:=by
 unfold okC at h
 obtain ⟨l,a,e⟩:List Tok × Nat × Nat:=bn s
 cases hq:bn s with
 |mk l q =>
  obtain ⟨a,e⟩:=q
  rw [hq] at h
  dsimp only at h
  cases hr:run l f .imp 0 [] with
  |none=>rw [hr] at h;cases h
  |some r =>
   rw [hr] at h
   rw [si hs hq hr]
   simpa using h
theorem yc {vs:List VN} {x:VN}:aV vs x=true↔x∈vs:=by simp [aV]
theorem py {k r:List SKey} {s:List UInt8} (h:(comp (aV (eI k)) s).2=0):(comp (aV (eI (k++r))) s).2=0:=by
 refine xD (fun x hx=>?_) h
 rw [yc] at *
 unfold eI at *
 rw [List.flatMap_append]
 rcases List.mem_append.1 hx with h|h
 ·exact List.mem_append.2 (.inl (List.mem_append.2 (.inl h)))
 ·exact List.mem_append.2 (.inr h)
theorem oF {kn:VN→Bool} {L:List (List UInt8)} (h:∀ s∈L,s≠[]→okC kn s 60=true) (i:Nat):(comp kn (L.getD i [])).2=0:=by
 have key:∀ s,s=[]∨s∈L→(comp kn s).2=0:=by
  intro s hs
  by_cases h0:s=[]
  ·subst h0;rw [pb]
  ·rcases hs with h1|h1
   ·exact absurd h1 h0
   ·exact uF h0 (h s h1 h0)
 refine key _ ?_
 rw [List.getD_eq_getElem?_getD]
 cases hi:L[i]? with
 |none=>exact .inl rfl
 |some s=>exact .inr (List.mem_of_getElem? hi)
theorem DH (b:List UInt8) (v:Nat):oz (jK b v)=0:=oF (L:=gText0) (kn:=aV (eI [⟨[97],4,1⟩])) (by decide +kernel) _
theorem DY (b:List UInt8) (v:Nat):oz (mG b v)=0:=py (oF (L:=gText1) (kn:=aV (eI [⟨[100],7,2⟩])) (by decide +kernel) _)
theorem DA (b:List UInt8) (v:Nat):oz (ef b v)=0:=py (oF (L:=gText2) (kn:=aV (eI [⟨[101],6,3⟩,⟨[97],4,3⟩])) (by decide +kernel) _)
theorem Dk (b:List UInt8) (v:Nat):oz (ei b v)=0:=py (oF (L:=gText3) (kn:=aV (eI [⟨[102],8,4⟩])) (by decide +kernel) _)
theorem DU {a:SAction} (h:a.restr=[]∨okC (aV (di a.params)) a.restr 60=true):qD a=0:=by
 unfold qD
 by_cases h0:a.restr=[]
 ·rw [h0,pb]
 ·exact uF h0 (h.resolve_left h0)
theorem zS (b:List UInt8) (v:Nat):∀ a∈cl b v,qD a=0:=by
 intro a ha
 refine DU ?_
 simp only [cl,List.mem_cons,List.not_mem_nil,or_false] at ha
 rcases ha with rfl|rfl|rfl|rfl|rfl|rfl
 ·exact .inl rfl
 ·exact .inl rfl
 ·dsimp only
  split
  ·exact .inr (by decide +kernel)
  ·exact .inl rfl
 ·exact .inl rfl
 ·dsimp only
  split
  ·exact .inr (by decide +kernel)
  ·exact .inl rfl
 ·exact .inl rfl
theorem pX {α:Type} {f:α→Nat}:∀ {l:List α},(∀ x∈l,f x=0)→dH f l=0
 |[],_=>rfl
 |x::l,h=>by
  unfold dH
  rw [if_pos (h x List.mem_cons_self)]
  exact pX fun y hy=>h y (List.mem_cons_of_mem _ hy)
theorem AE (b:List UInt8) (v w:Nat):qK (cf b v) (cl b w)=0:=by
 unfold qK
 rw [pX,if_pos rfl,pX (zS b w)]
 intro t ht
 simp only [cf,List.mem_cons,List.not_mem_nil,or_false] at ht
 rcases ht with rfl|rfl|rfl|rfl
 ·exact DH b v
 ·exact DY b v
 ·exact DA b v
 ·exact Dk b v
theorem yh (b:List UInt8) (v:Nat):∀ t∈cf b v,uN t:=by
 have hk:∀ (l r:List SKey) (c:Prop) [Decidable c],(∀ k∈l++r,k.name.length≤1000)→(l++r).length≤400→(l++if c then r else []).length≤400∧∀ k∈l++(if c then r else []),k.name.length≤1000:=by
  intro l r c _ h1 h2
  split
  ·exact ⟨h2,h1⟩
  ·rw [yaj]
   rw [List.length_append] at h2
   exact ⟨by omega,fun k hk=>h1 k (List.mem_append_left _ hk)⟩
 have hr:∀ (L:List (List UInt8)) (i:Nat),(∀ s∈L,s.length≤1000)→(L.getD i []).length≤140737488355328:=by
  intro L i h
  rw [List.getD_eq_getElem?_getD]
  cases hi:L[i]? with
  |none=>exact Nat.zero_le _
  |some s=>have:=h s (List.mem_of_getElem? hi);simp only [Option.getD_some];omega
 intro t ht
 simp only [cf,List.mem_cons,List.not_mem_nil,or_false] at ht
 rcases ht with rfl|rfl|rfl|rfl
 ·exact ⟨by simp [jK],by simp [jK],hr _ _ (by decide)⟩
 ·obtain ⟨h1,h2⟩:=hk [⟨[100],7,2⟩] [⟨[109],3,1⟩] (cv b (v+3) 2=1) (by decide) (by decide)
  exact ⟨h1,h2,hr _ _ (by decide)⟩
 ·obtain ⟨h1,h2⟩:=hk [⟨[101],6,3⟩,⟨[97],4,3⟩] [⟨[98],5,1⟩] (cv b (v+5) 2=1) (by decide) (by decide)
  exact ⟨h1,h2,hr _ _ (by decide)⟩
 ·obtain ⟨h1,h2⟩:=hk [⟨[102],8,4⟩] [⟨[103],9,1⟩,⟨[100],7,2⟩] (cv b (v+7) 2=1) (by decide) (by decide)
  exact ⟨h1,h2,hr _ _ (by decide)⟩
theorem xZ (b:List UInt8) (v:Nat):∀ a∈cl b v,uJ a:=by
 intro a ha
 simp only [cl,List.mem_cons,List.not_mem_nil,or_false] at ha
 rcases ha with rfl|rfl|rfl|rfl|rfl|rfl<;>refine ⟨by simp,by simp,?_⟩<;>dsimp only<;>first|(split<;>simp)|simp
end Go.AL
