/- Contracts and plain laws, a part of the proof; no condition of its own. -/
import Derived.Test.YtcnkffeikmkeiaaGreatS08e
import Derived.Test.YtcnkffeikmkeiaaGreatS07w
import Derived.Test.YtcnkffeikmkeiaaGreatS10e
set_option maxHeartbeats 32000000
open List renaming length_cons → yaz, length_nil → yba, take_of_length_le → ybc, drop_append → ybd, take_append → ybe, drop_eq_nil_of_le → ybf, length_map → ybb
open Go Go.AL Go.Proofs
namespace Go.AL
set_option linter.all false
set_option maxRecDepth 10000
theorem yE {P:Program} {f:FuncId} {args:List AV} {H:AHeap} {X:AV} (h:ACallsP P f args H (fun x H1=>x=X∧H1=H)):ACalls P f args H (.ret X) H:=by
 intro w γ vs hs hr
 have h:=h w γ vs hs hr
 generalize (callFunc f vs).run P w=rr at h ⊢
 unfold iE at h ⊢
 split at h
 ·exact h.mono fun en w' ⟨γ',x,H1,⟨hx,hH⟩,g1,g2,g3⟩=>by subst hx;subst hH;exact ⟨γ',g1,g2,g3⟩
 ·obtain ⟨γ',x,H1,⟨hx,hH⟩,g1,g2,g3⟩:=h
  subst hx;subst hH
  exact ⟨γ',g1,g2,g3⟩
 ·exact h
def n7:List AV→AHeap→(AV→Prop)→Prop
 |[.slice _ 3 x],_,K=>∃ l f r,(x=cb l∧run l f .imp 0 []=some r∧l.length≤1000∧kM l)∧K (fk l r)
 |_,_,_=>False
theorem yW:EntOk Tryz.prog 25 (Ent.pure n7):=by
 refine EntOk.pure fun args H K h=>?_
 unfold n7 at h
 split at h
 rotate_left
 ·exact h.elim
 rename_i m x
 obtain ⟨l,f,r,⟨rfl,hr,hl,hg⟩,hK⟩:=h
 refine ⟨_,hK,yE ?_⟩
 have h0:EntOk Tryz.prog 25 (Ent.some (ot True 0)):=tS CU
 exact h0.2.2 _ rfl [.slice m 3 (cb l)] H _ ⟨l,f,r,⟨rfl,hr,hl,hg,fun _ _=>trivial⟩,rfl,rfl⟩
def lm:List AV→AHeap→(AV→Prop)→Prop
 |[.str s,.slice _ 2 y],_,K=>∃ vs,(y=bm vs∧uU vs∧s.length≤140737488355328)∧K (eA (comp (bg vs) s))
 |_,_,_=>False
theorem tY:EntOk Tryz.prog 9 (Ent.pure lm):=by
 refine EntOk.pure fun args H K h=>?_
 unfold lm at h
 split at h
 rotate_left
 ·exact h.elim
 rename_i s m2 y
 obtain ⟨vs,⟨rfl,hov,hsl⟩,hK⟩:=h
 refine ⟨_,hK,?_⟩
 clear hK
 refine ACalls.fW aA (TblOk.cons Bh (TblOk.cons yW (TblOk.cons xC TblOk.nil))) Tryz.func9 [.tmp 4,.tmp 5] (Nat.le_refl _) (T:=au []) (h:=fun hcl hlt=>?_)
 have hm2:∀ n',H.nx≤n'→AV.lt n' (.slice m2 2 (bm vs)):=fun n' hn=>AV.lt_mono hn _ (hlt (.slice m2 2 (bm vs)) (by simp))
 clear hlt
 unfold comp
 by_cases hs:s=[]
 ·subst hs
  have d1:(([]:List UInt8)==[])=true:=rfl
  rw [if_pos rfl]
  simp only [go_sem,d1]
  simp (disch:=first|assumption|omega|(simp;done)|(simp;omega)|(simp only [bt,and_true];first|done|omega|(simp;done))) [↓zmk,beq,ybc,ybd,ybe,ae,wk,wk2,wk1,wkM,wkL,al,ybf,hcl,eA,oneT,nds,gp,zno,bT,znn,znb,znd,znq,znr]
 ·have d1:(s==[])=false:=by simp [hs]
  rw [if_neg hs]
  obtain ⟨hg1,hg2⟩:=lS s
  obtain ⟨f,hf⟩:=mq (bx s).1
  generalize prs (bx s).1=r at *
  obtain ⟨i,hpi⟩:=xa (bx s).1 r
  obtain ⟨hpg,hpl,_⟩:=jq hf
  have hps:=lF hg2 hf
  generalize cI (bx s).1 r=te at *
  obtain ⟨t,e⟩:=te
  dsimp only at hpi hpg hpl hps
  have hot:okT t:=⟨hpg,hps,by omega⟩
  obtain ⟨hc1,hc2⟩:=@zJ (bg vs) t
  unfold q0
  by_cases he0:(bx s).2.2=0
  ·have d2:((((bx s).2.2:Nat):Int) != 0)=false:=by rw [he0];rfl
   rw [if_neg (fun h=>h he0)]
   simp only [go_sem,d1,nJ,jU,hsl,d2,n7]
   refine ⟨(bx s).1,f,r,⟨rfl,hf,by omega,hg2⟩,?_⟩
   simp only [go_sem,hpi]
   by_cases he:e=0
   ·subst he
    have d3:(((0:Nat):Int) != 0)=false:=rfl
    rw [if_neg (fun h=>h rfl)]
    simp only [go_sem,d3,pN]
    refine ⟨t,vs,⟨rfl,rfl,hot,hov⟩,?_⟩
    by_cases hch:(chk (bg vs) t).2=0
    ·have d4:((((chk (bg vs) t).2:Nat):Int) != 0)=false:=by rw [hch];rfl
     rw [if_neg (fun h=>h hch)]
     simp only [go_sem,d4]
     simp (disch:=first|assumption|omega|(simp;done)|(simp;omega)|(simp only [bt,and_true];first|done|omega|(simp;done))) [↓zmk,beq,ybc,ybd,ybe,ae,wk,wk2,wk1,wkM,wkL,al,ybf,hcl,eA,zno,f9,znb,znq,znr]
    ·have d4:((((chk (bg vs) t).2:Nat):Int) != 0)=true:=bne_iff_ne.2 (by omega)
     rw [if_pos hch]
     simp only [go_sem,d4]
     simp (disch:=first|assumption|omega|(simp;done)|(simp;omega)|(simp only [bt,and_true];first|done|omega|(simp;done))) [↓zmk,beq,ybc,ybd,ybe,ae,wk,wk2,wk1,wkM,wkL,al,ybf,hcl,eA,nds,zno,bT,znb,znq,znr]
   ·have d3:((e:Int) != 0)=true:=bne_iff_ne.2 (by omega)
    rw [if_pos he]
    simp only [go_sem,d3]
    simp (disch:=first|assumption|omega|(simp;done)|(simp;omega)|(simp only [bt,and_true];first|done|omega|(simp;done))) [↓zmk,beq,ybc,ybd,ybe,ae,wk,wk2,wk1,wkM,wkL,al,ybf,hcl,eA,nds,zno,bT,znb,znq,znr]
  ·have d2:((((bx s).2.2:Nat):Int) != 0)=true:=bne_iff_ne.2 (by omega)
   rw [if_pos he0]
   simp only [go_sem,d1,nJ,jU,hsl,d2]
   simp (disch:=first|assumption|omega|(simp;done)|(simp;omega)|(simp only [bt,and_true];first|done|omega|(simp;done))) [↓zmk,beq,ybc,ybd,ybe,ae,wk,wk2,wk1,wkM,wkL,al,ybf,hcl,eA,nds,zno,bT,znb,znq,znr]
end Go.AL
open Go Go.AL Go.Proofs
namespace Go.AL
set_option linter.all false
set_option maxRecDepth 10000
theorem BR:ti Tryz.prog 108=some ⟨.struct [(0,9,false),(1,3,false),(2,3,false)],3,32,.agg [.str [],.int .i64 0,.int .i64 0]⟩:=by kernel_rfl
theorem BA:ti Tryz.prog 109=some ⟨.slice 108,1,24,.slice .nil 1 []⟩:=by kernel_rfl
theorem xy:ti Tryz.prog 112=some ⟨.struct [(0,3,false),(1,9,false),(2,109,false),(3,110,false),(4,3,false),(5,23,false),(6,3,false),(7,9,false)],8,128,.agg [.int .i64 0,.str [],.slice .nil 1 [],.slice .nil 1 [],.int .i64 0,.slice .nil 1 [],.int .i64 0,.str []]⟩:=by kernel_rfl
theorem yN:ti Tryz.prog 190=some ⟨.struct [(0,9,false),(1,3,false)],2,24,.agg [.str [],.int .i64 0]⟩:=by kernel_rfl
theorem vr:ti Tryz.prog 129=some ⟨.slice 190,1,24,.slice .nil 1 []⟩:=by kernel_rfl
theorem vO:ti Tryz.prog 132=some ⟨.struct [(0,3,false),(1,9,false),(2,129,false),(3,130,false),(4,9,false)],5,88,.agg [.int .i64 0,.str [],.slice .nil 1 [],.slice .nil 1 [],.str []]⟩:=by kernel_rfl
theorem Bg:ti Tryz.prog 75=some ⟨.slice 9,1,24,.slice .nil 1 []⟩:=by kernel_rfl
attribute [go_sem] BR BA xy yN vr vO Bg
def sJ:List AV→AHeap→(AV→Prop)→Prop
 |[.int .i64 k],_,K=>K (.slice .any 1 (sAV (mu k)))
 |_,_,_=>False
theorem A6:EntOk Tryz.prog 75 (Ent.pure sJ):=by
 refine EntOk.pure fun args H K h=>?_
 unfold sJ at h
 split at h
 rotate_left
 ·exact h.elim
 rename_i k
 refine ⟨_,h,?_⟩
 clear h
 unfold mu
 by_cases h1:k=1
 ·subst h1
  rw [if_pos rfl]
  refine ACalls.fW aA TblOk.nil Tryz.func75 [.tmp 2] (Nat.le_refl _) (T:=au []) (h:=fun hcl hlt=>?_)
  clear hlt
  simp only [go_sem,Int.reduceBEq]
  simp (disch:=first|assumption|omega|(simp;done)|(simp;omega)|(simp only [bt,and_true];first|done|omega|(simp;done))) [↓zmk,beq,ybc,ybd,ybe,ae,wk,wk2,wk1,wkM,wkL,al,ybf,hcl,sAV,bT,znq,znr,znd]
 rw [if_neg h1]
 have d1:(k==1)=false:=beq_eq_false_iff_ne.2 h1
 by_cases h2:k=2
 ·subst h2
  rw [if_pos rfl]
  refine ACalls.fW aA TblOk.nil Tryz.func75 [.tmp 2] (Nat.le_refl _) (T:=au []) (h:=fun hcl hlt=>?_)
  clear hlt
  simp only [go_sem,Int.reduceBEq]
  simp (disch:=first|assumption|omega|(simp;done)|(simp;omega)|(simp only [bt,and_true];first|done|omega|(simp;done))) [↓zmk,beq,ybc,ybd,ybe,ae,wk,wk2,wk1,wkM,wkL,al,ybf,hcl,sAV,bT,znq,znr,znd]
 rw [if_neg h2]
 have d2:(k==2)=false:=beq_eq_false_iff_ne.2 h2
 by_cases h3:k=3
 ·subst h3
  rw [if_pos rfl]
  refine ACalls.fW aA TblOk.nil Tryz.func75 [.tmp 2] (Nat.le_refl _) (T:=au []) (h:=fun hcl hlt=>?_)
  clear hlt
  simp only [go_sem,Int.reduceBEq]
  simp (disch:=first|assumption|omega|(simp;done)|(simp;omega)|(simp only [bt,and_true];first|done|omega|(simp;done))) [↓zmk,beq,ybc,ybd,ybe,ae,wk,wk2,wk1,wkM,wkL,al,ybf,hcl,sAV,bT,znq,znr,znd]
 rw [if_neg h3]
 have d3:(k==3)=false:=beq_eq_false_iff_ne.2 h3
 by_cases h4:k=4
 ·subst h4
  rw [if_pos rfl]
  refine ACalls.fW aA TblOk.nil Tryz.func75 [.tmp 2] (Nat.le_refl _) (T:=au []) (h:=fun hcl hlt=>?_)
  clear hlt
  simp only [go_sem,Int.reduceBEq]
  simp (disch:=first|assumption|omega|(simp;done)|(simp;omega)|(simp only [bt,and_true];first|done|omega|(simp;done))) [↓zmk,beq,ybc,ybd,ybe,ae,wk,wk2,wk1,wkM,wkL,al,ybf,hcl,sAV,bT,znq,znr,znd]
 rw [if_neg h4]
 have d4:(k==4)=false:=beq_eq_false_iff_ne.2 h4
 refine ACalls.fW aA TblOk.nil Tryz.func75 [.tmp 2] (Nat.le_refl _) (T:=au []) (h:=fun hcl hlt=>?_)
 clear hlt
 simp only [go_sem,d1,d2,d3,d4]
 simp (disch:=first|assumption|omega|(simp;done)|(simp;omega)|(simp only [bt,and_true];first|done|omega|(simp;done))) [↓zmk,beq,ybc,ybd,ybe,ae,wk,wk2,wk1,wkM,wkL,al,ybf,hcl,sAV]
theorem lO {l:List SKey}:(l.map fB).length=l.length:=ybb ..
theorem uv {l:List SKey} {k:Nat} (h:k<l.length):(l.map fB).getD k .junk=.agg [.str l[k].name,.int .i64 l[k].field,.int .i64 l[k].kind]:=by
 simp [List.getD_eq_getElem?_getD,h,fB]
def tC (l:List SKey):List VN:=(l.flatMap fun k=>eU k.name k.kind)++[mc]
def iT:List AV→AHeap→(AV→Prop)→Prop
 |[.agg [_,_,.slice _ 3 x,_,_,_,_,_]],_,K=>∃ keys,(x=keys.map fB∧keys.length≤1000)∧K (.slice .any 2 (bm (tC keys)))
 |_,_,_=>False
theorem kX {α β:Type} {f:α→List β} {l:List α} {k:Nat} (h:k<l.length):(l.take (k+1)).flatMap f=(l.take k).flatMap f++f l[k]:=by
 rw [← List.take_append_getElem h,List.flatMap_append];simp
theorem mv {n:List UInt8} {k:Int}:(eU n k).length≤2:=by
 unfold eU mu
 rw [ybb]
 split
 ·simp
 ·split
  ·simp
  ·split
   ·simp
   ·split<;>simp
theorem lT {l:List SKey}:∀ {k:Nat},((l.take k).flatMap fun k=>eU k.name k.kind).length≤2*k
 |0=>by simp
 |k+1=>by
  rcases Nat.lt_or_ge k l.length with h|h
  ·rw [kX h,List.length_append]
   have:=lT (l:=l) (k:=k)
   have:=@mv l[k].name l[k].kind
   omega
  ·rw [ybc (by omega:l.length≤k+1),← ybc h]
   have:=lT (l:=l) (k:=k)
   omega
theorem kE:EntOk Tryz.prog 32 (Ent.pure iT):=by
 refine EntOk.pure fun args H K h=>?_
 unfold iT at h
 split at h
 rotate_left
 ·exact h.elim
 rename_i a1 a2 m x a3 a4 a5 a6 a7
 obtain ⟨keys,⟨rfl,hl⟩,hK⟩:=h
 refine ⟨_,hK,?_⟩
 clear hK
 refine ACalls.fW aA (TblOk.cons A6 TblOk.nil) Tryz.func32 [.tmp 2] (Nat.le_refl _) (T:=au []) (h:=fun hcl hlt=>?_)
 have hx:=AV.lt_mono (Nat.le_succ H.nx) _ (hlt (.agg [a1,a2,.slice m 3 (keys.map fB),a3,a4,a5,a6,a7]) (by simp))
 have hm:∀ n',H.nx≤n'→AV.lt n' (.slice m 3 (keys.map fB)):=fun n' hn=>AV.lt_mono hn _ (by have h1:=hlt (.agg [a1,a2,.slice m 3 (keys.map fB),a3,a4,a5,a6,a7]) (by simp);rw [znn] at h1;exact h1.2.2.1)
 simp only [znn] at hx
 clear hlt
 simp only [go_sem,lO]
 refine av (A:=Nat × AHeap) (fun a=>[(3,.slice (.own (H.nx+1+1)) 2 (bm ((keys.take a.1).flatMap fun k=>eU k.name k.kind))),(9,.slice m 3 (keys.map fB)),(10,.int .i64 (keys.length:Int)),(11,.int .i64 (a.1:Int))]) (fun a=>a.2)
  (fun a=>a.1≤keys.length∧H.Le a.2∧a.2.Closed∧a.2.get (H.nx+1+1)=some (.buf 2 ((keys.take a.1).flatMap fun k=>eU k.name k.kind).length)) (fun a=>keys.length - a.1)
  (0,((H.push (.cells [a1,a2,.slice m 3 (keys.map fB),a3,a4,a5,a6,a7])).push (.buf 2 0)).push (.buf 2 0)) ⟨Nat.zero_le _,(((AHeap.Le.refl _).push _).push _).push _,ag (ag (ac hcl hx)),AHeap.get_push_new _ _⟩ ?_ fun a ha=>?_
 ·have hc0:=ag (a:=2) (b:=0) (ag (a:=2) (b:=0) (ac hcl hx))
  (simp only [bkq,enterW,aS,ltF,ne_eq,Nat.reduceEqDiff,reduceCtorEq,hc0,hm,varsAV_lt];try simp (disch:=first|assumption|omega|(simp;done)|(simp;omega)|(simp only [bt,and_true];first|done|omega|(simp;done))) [↓zmk,beq,ybc,ybd,ybe,ae,wk,wk2,wk1,wkM,wkL,al,ybf,byq,biq,af,hcl,hc0,hm,varsAV_lt];try (repeat' (first|assumption|omega|exact True.intro|refine And.intro ?_ ?_|refine ag ?_|refine aa ?_|refine ac ?_ ?_|refine ah ?_ ?_|refine ai ?_|exact AHeap.Le.refl _|refine AHeap.Le.push ?_ _|refine AHeap.Le.del ?_ ?_|(simp only [bt,and_true,true_and,hc0,hm,varsAV_lt];first|done|omega|(simp;done)))))
  simp [bm]
 obtain ⟨k,Hc⟩:=a
 obtain ⟨hk,hle,hcc,hid⟩:=ha
 dsimp only at hk hle hcc hid ⊢
 have hnx:=AHeap.get_lt hid
 simp only [go_sem]
 refine aj (fun hc=>?_) (fun hc=>?_)
 ·have hk1:k<keys.length:=by simp at hc;omega
  have e5:IntKind.i64.wrap ((k:Int)+1)=((k+1:Nat):Int):=by rw [wrap_i64]<;>omega
  have hfl:=@lT keys k
  have hkl:=@mv keys[k].name keys[k].kind
  have hkv:eU keys[k].name keys[k].kind=(mu keys[k].kind).map fun a=>(keys[k].name,a):=rfl
  simp only [go_sem,lO,uv hk1,Int.toNat_natCast,sJ]
  generalize mu keys[k].kind=at0 at *
  have hk0:eU keys[k].name keys[k].kind=at0.map fun a=>(keys[k].name,a):=hkv
  have hal:at0.length≤2:=by rw [hk0,ybb] at hkl;exact hkl
  refine ⟨by omega,?_⟩
  simp only [go_sem,ak]
  refine av (A:=Nat × AHeap) (fun a=>[(3,.slice (.own (H.nx+1+1)) 2 (bm (((keys.take k).flatMap fun k=>eU k.name k.kind)++(at0.take a.1).map fun x=>(keys[k].name,x)))),(5,.ptr Hc.nx 0),(9,.slice m 3 (keys.map fB)),(10,.int .i64 (keys.length:Int)),(11,.int .i64 (k:Int)),(17,.slice .any 1 (sAV at0)),(18,.int .i64 (at0.length:Int)),(19,.int .i64 (a.1:Int))]) (fun a=>a.2)
   (fun a=>a.1≤at0.length∧H.Le a.2∧a.2.Closed∧a.2.get (H.nx+1+1)=some (.buf 2 (((keys.take k).flatMap fun k=>eU k.name k.kind)++(at0.take a.1).map fun x=>(keys[k].name,x)).length)∧a.2.get Hc.nx=some (.cells [.str keys[k].name,.int .i64 keys[k].field,.int .i64 keys[k].kind])) (fun a=>at0.length - a.1)
   (0,Hc.push (.cells [.str keys[k].name,.int .i64 keys[k].field,.int .i64 keys[k].kind])) ⟨Nat.zero_le _,hle.push _,ac hcc (by simp [znq,znr,znd,znb]),?_,AHeap.get_push_new _ _⟩ ?_ fun a ha=>?_
  ·dsimp only
   rw [AHeap.get_push_lt _ _ hnx,hid];simp
  ·have hc0:=ac (cs:=[.str keys[k].name,.int .i64 keys[k].field,.int .i64 keys[k].kind]) hcc (by simp [znq,znr,znd,znb])
   have hnn:H.nx≤Hc.nx:=by omega
   (simp only [bkq,enterW,aS,ltF,ne_eq,Nat.reduceEqDiff,reduceCtorEq,hc0,hm,varsAV_lt,bU,hnn];try simp (disch:=first|assumption|omega|(simp;done)|(simp;omega)|(simp only [bt,and_true];first|done|omega|(simp;done))) [↓zmk,beq,ybc,ybd,ybe,ae,wk,wk2,wk1,wkM,wkL,al,ybf,byq,biq,af,hcl,hc0,hm,varsAV_lt,bU,hnn];try (repeat' (first|assumption|omega|exact True.intro|refine And.intro ?_ ?_|refine ag ?_|refine aa ?_|refine ac ?_ ?_|refine ah ?_ ?_|refine ai ?_|exact AHeap.Le.refl _|refine AHeap.Le.push ?_ _|refine AHeap.Le.del ?_ ?_|(simp only [bt,and_true,true_and,hc0,hm,varsAV_lt,bU,hnn];first|done|omega|(simp;done)))))
  obtain ⟨j,Hd⟩:=a
  obtain ⟨hj,hle2,hcd,hid2,hky⟩:=ha
  dsimp only at hj hle2 hcd hid2 hky ⊢
  have hnx2:=AHeap.get_lt hid2
  have hnx3:=AHeap.get_lt hky
  simp only [go_sem]
  refine aj (fun hc=>?_) (fun hc=>?_)
  ·have hj1:j<at0.length:=by simp at hc;omega
   have e6:IntKind.i64.wrap ((j:Int)+1)=((j+1:Nat):Int):=by rw [wrap_i64]<;>omega
   have hsg:(sAV at0).getD j .junk=.str at0[j]:=by rw [j7 hj1];simp [List.getD_eq_getElem?_getD,hj1]
   have htk:(at0.take (j+1)).map (fun x=>(keys[k].name,x))=(at0.take j).map (fun x=>(keys[k].name,x))++[(keys[k].name,at0[j])]:=by rw [← List.take_append_getElem hj1,List.map_append];rfl
   have n1:(Hc.nx=Hd.nx)=False:=eq_false (by omega)
   have n2:(H.nx+1+1=Hd.nx)=False:=eq_false (by omega)
   simp only [go_sem,ak,hsg,Int.toNat_natCast,hky,aJ hky,hid2,aP,n1,n2,e6]
   obtain ⟨LL,hLL⟩:∃ LL,(((keys.take k).flatMap fun k=>eU k.name k.kind)++(at0.take j).map fun x=>(keys[k].name,x))=LL:=⟨_,rfl⟩
   have hll:LL.length≤2*k+2:=by rw [← hLL,List.length_append,ybb,List.length_take];omega
   have hln:((keys.take k).flatMap fun k=>eU k.name k.kind)++(at0.take (j+1)).map (fun x=>(keys[k].name,x))=LL++[(keys[k].name,at0[j])]:=by rw [htk,← List.append_assoc,hLL]
   have hsn:bm LL++[.agg [.str keys[k].name,.str at0[j]]]=bm (LL++[(keys[k].name,at0[j])]):=nv (v:=(keys[k].name,at0[j]))
   rw [hLL]
   refine ⟨by omega,⟨by omega,by omega,fun z hz=>by rw [List.mem_singleton.1 hz];rfl⟩,(j+1,Hd.set (H.nx+1+1) (.buf 2 (LL.length+1))),⟨by dsimp only;omega,cr hle2 (by omega),aa hcd,?_,?_⟩,by dsimp only;omega,?_⟩
   ·dsimp only
    rw [bc,if_pos rfl,if_pos hnx2,hln];simp
   ·dsimp only
    rw [bc,if_neg (by omega),hky]
   ·have hnn:H.nx≤Hd.nx:=by omega
    have hcs:=@aa Hd (H.nx+1+1) 2 (LL.length+1) hcd
    dsimp only
    rw [hln,hsn]
    (simp only [bkq,enterW,aS,ltF,ne_eq,Nat.reduceEqDiff,reduceCtorEq,hcs,hm,varsAV_lt,bU,hnn];try simp (disch:=first|assumption|omega|(simp;done)|(simp;omega)|(simp only [bt,and_true];first|done|omega|(simp;done))) [↓zmk,beq,ybc,ybd,ybe,ae,wk,wk2,wk1,wkM,wkL,al,ybf,byq,biq,af,hcl,hcs,hm,varsAV_lt,bU,hnn];try (repeat' (first|assumption|omega|exact True.intro|refine And.intro ?_ ?_|refine ag ?_|refine aa ?_|refine ac ?_ ?_|refine ah ?_ ?_|refine ai ?_|exact AHeap.Le.refl _|refine AHeap.Le.push ?_ _|refine AHeap.Le.del ?_ ?_|(simp only [bt,and_true,true_and,hcs,hm,varsAV_lt,bU,hnn];first|done|omega|(simp;done)))))
  ·have hj1:j=at0.length:=by simp at hc;omega
   subst hj1
   rw [List.take_length,← hk0,← kX hk1] at hid2
   rw [List.take_length,← hk0,← kX (f:=fun k:SKey=>eU k.name k.kind) hk1]
   simp only [go_sem,e5]
   refine ⟨(k+1,Hd),⟨by dsimp only;omega,hle2,hcd,hid2⟩,by dsimp only;omega,?_⟩
   have hnn:H.nx≤Hd.nx:=by omega
   (simp only [bkq,enterW,aS,ltF,ne_eq,Nat.reduceEqDiff,reduceCtorEq,hcd,hm,varsAV_lt,hnn];try simp (disch:=first|assumption|omega|(simp;done)|(simp;omega)|(simp only [bt,and_true];first|done|omega|(simp;done))) [↓zmk,beq,ybc,ybd,ybe,ae,wk,wk2,wk1,wkM,wkL,al,ybf,byq,biq,af,hcl,hcd,hm,varsAV_lt,hnn];try (repeat' (first|assumption|omega|exact True.intro|refine And.intro ?_ ?_|refine ag ?_|refine aa ?_|refine ac ?_ ?_|refine ah ?_ ?_|refine ai ?_|exact AHeap.Le.refl _|refine AHeap.Le.push ?_ _|refine AHeap.Le.del ?_ ?_|(simp only [bt,and_true,true_and,hcd,hm,varsAV_lt,hnn];first|done|omega|(simp;done)))))
 ·have hk1:k=keys.length:=by simp at hc;omega
  subst hk1
  rw [List.take_length] at hid
  rw [List.take_length]
  have hfl:=@lT keys keys.length
  rw [List.take_length] at hfl
  have n1:(H.nx+1+1=Hc.nx)=False:=eq_false (by omega)
  have htab:tC keys=(keys.flatMap fun k=>eU k.name k.kind)++[mc]:=rfl
  rw [htab]
  clear htab
  generalize (keys.flatMap fun k=>eU k.name k.kind)=G at *
  have hsn:bm G++[.agg [.str [112,114,105,111,114,105,116,121],.str []]]=bm (G++[mc]):=nv (v:=mc)
  simp only [go_sem,hid,n1,aP]
  refine ⟨⟨by omega,by omega,fun z hz=>by rw [List.mem_singleton.1 hz];rfl⟩,?_⟩
  rw [hsn]
  have hle3:=(cr hle (show H.nx≤H.nx+1+1 by omega) (o:=.buf 2 (G.length+1))).push (.buf 2 1)
  simp (disch:=first|assumption|omega|(simp;done)|(simp;omega)|(simp only [bt,and_true];first|done|omega|(simp;done))) [↓zmk,beq,ybc,ybd,ybe,ae,wk,wk2,wk1,wkM,wkL,al,ybf,hcl,hle3,varsAV_lt]
end Go.AL
open Go Go.AL Go.Proofs
namespace Go.AL
set_option linter.all false
set_option maxRecDepth 10000
end Go.AL
open Go Go.AL Go.Proofs
namespace Go.AL
set_option linter.all false
set_option maxRecDepth 10000
theorem Dd {kn:VN→Bool} {s:List UInt8} {l:List Tok} {f:Nat} {r:PR} {a b:Nat} (hs:s≠[]) (h1:bx s=(l,a,b)) (h2:run l f .imp 0 []=some r):comp kn s=q0 kn b (cI l r):=by
 unfold comp
 rw [if_neg hs,h1]
 dsimp only
 rw [Eo h2]
end Go.AL
