/- Contracts and plain laws, a part of the proof; no condition of its own. -/
import Derived.Test.YtiiiljghmilepaaS08e
import Derived.Test.YtiiiljghmilepaaS07w
import Derived.Test.YtiiiljghmilepaaS10e
set_option maxHeartbeats 32000000
open List renaming length_cons → yaz, length_nil → yba, take_of_length_le → ybc, drop_append → ybd, take_append → ybe, drop_eq_nil_of_le → ybf, length_map → ybb
open Go Go.AL Go.Proofs
namespace Go.AL
set_option linter.all false
set_option maxRecDepth 10000
theorem uM {P:Program} {f:FuncId} {args:List AV} {H:AHeap} {X:AV} (h:ACallsP P f args H (fun x H1=>x=X∧H1=H)):ACalls P f args H (.ret X) H:=by
 intro w γ vs hs hr
 have h:=h w γ vs hs hr
 generalize (callFunc f vs).run P w=rr at h ⊢
 unfold gG at h ⊢
 split at h
 ·exact h.mono fun en w' ⟨γ',x,H1,⟨hx,hH⟩,g1,g2,g3⟩=>by subst hx;subst hH;exact ⟨γ',g1,g2,g3⟩
 ·obtain ⟨γ',x,H1,⟨hx,hH⟩,g1,g2,g3⟩:=h
  subst hx;subst hH
  exact ⟨γ',g1,g2,g3⟩
 ·exact h
def nn:List AV→AHeap→(AV→Prop)→Prop
 |[.slice _ 3 x],_,K=>∃ l f r,(x=bR l∧run l f .imp 0 []=some r∧l.length≤1000∧jV l)∧K (eM l r)
 |_,_,_=>False
theorem vr:EntOk Try.prog 12 (Ent.pure nn):=by
 refine EntOk.pure fun args H K h=>?_
 unfold nn at h
 split at h
 rotate_left
 ·exact h.elim
 rename_i m x
 obtain ⟨l,f,r,⟨rfl,hr,hl,hg⟩,hK⟩:=h
 refine ⟨_,hK,uM ?_⟩
 have h0:EntOk Try.prog 12 (Ent.some (mj True 0)):=rc y6
 exact h0.2.2 _ rfl [.slice m 3 (bR l)] H _ ⟨l,f,r,⟨rfl,hr,hl,hg,fun _ _=>trivial⟩,rfl,rfl⟩
def jX:List AV→AHeap→(AV→Prop)→Prop
 |[.str s,.slice _ 2 y],_,K=>∃ vs,(y=aY vs∧r9 vs∧s.length≤140737488355328)∧K (dt (comp (aZ vs) s))
 |_,_,_=>False
theorem rA:EntOk Try.prog 20 (Ent.pure jX):=by
 refine EntOk.pure fun args H K h=>?_
 unfold jX at h
 split at h
 rotate_left
 ·exact h.elim
 rename_i s m2 y
 obtain ⟨vs,⟨rfl,hov,hsl⟩,hK⟩:=h
 refine ⟨_,hK,?_⟩
 clear hK
 refine ACalls.fW aI (TblOk.cons vL (TblOk.cons vr (TblOk.cons vF TblOk.nil))) Try.func20 [.tmp 4,.tmp 5] (Nat.le_refl _) (T:=aA []) (h:=fun hcl hlt=>?_)
 have hm2:∀ n',H.nx≤n'→AV.lt n' (.slice m2 2 (aY vs)):=fun n' hn=>AV.lt_mono hn _ (hlt (.slice m2 2 (aY vs)) (by simp))
 clear hlt
 unfold comp
 by_cases hs:s=[]
 ·subst hs
  have d1:(([]:List UInt8)==[])=true:=rfl
  rw [if_pos rfl]
  simp only [go_sem,d1]
  simp (disch:=first|assumption|omega|(simp;done)|(simp;omega)|(simp only [bt,and_true];first|done|omega|(simp;done))) [↓zmi,beq,ybc,ybd,ybe,ag,wk,wk2,wk1,wkM,wkL,am,ybf,hcl,dt,v5,nds,ik,znm,bx,znl,zmz,znb,zno,znp]
 ·have d1:(s==[])=false:=by simp [hs]
  rw [if_neg hs]
  obtain ⟨hg1,hg2⟩:=kS s
  obtain ⟨f,hf⟩:=md (bp s).1
  generalize prs (bp s).1=r at *
  obtain ⟨i,hpi⟩:=tn (bp s).1 r
  obtain ⟨hpg,hpl,_⟩:=iT hf
  have hps:=kO hg2 hf
  generalize df (bp s).1 r=te at *
  obtain ⟨t,e⟩:=te
  dsimp only at hpi hpg hpl hps
  have hot:okT t:=⟨hpg,hps,by omega⟩
  obtain ⟨hc1,hc2⟩:=@wX (aZ vs) t
  unfold rk
  by_cases he0:(bp s).2.2=0
  ·have d2:((((bp s).2.2:Nat):Int) != 0)=false:=by rw [he0];rfl
   rw [if_neg (fun h=>h he0)]
   simp only [go_sem,d1,mc,iK,hsl,d2,nn]
   refine ⟨(bp s).1,f,r,⟨rfl,hf,by omega,hg2⟩,?_⟩
   simp only [go_sem,hpi]
   by_cases he:e=0
   ·subst he
    have d3:(((0:Nat):Int) != 0)=false:=rfl
    rw [if_neg (fun h=>h rfl)]
    simp only [go_sem,d3,nB]
    refine ⟨t,vs,⟨rfl,rfl,hot,hov⟩,?_⟩
    by_cases hch:(chk (aZ vs) t).2=0
    ·have d4:((((chk (aZ vs) t).2:Nat):Int) != 0)=false:=by rw [hch];rfl
     rw [if_neg (fun h=>h hch)]
     simp only [go_sem,d4]
     simp (disch:=first|assumption|omega|(simp;done)|(simp;omega)|(simp only [bt,and_true];first|done|omega|(simp;done))) [↓zmi,beq,ybc,ybd,ybe,ag,wk,wk2,wk1,wkM,wkL,am,ybf,hcl,dt,znm,cI,zmz,zno,znp]
    ·have d4:((((chk (aZ vs) t).2:Nat):Int) != 0)=true:=bne_iff_ne.2 (by omega)
     rw [if_pos hch]
     simp only [go_sem,d4]
     simp (disch:=first|assumption|omega|(simp;done)|(simp;omega)|(simp only [bt,and_true];first|done|omega|(simp;done))) [↓zmi,beq,ybc,ybd,ybe,ag,wk,wk2,wk1,wkM,wkL,am,ybf,hcl,dt,nds,znm,bx,zmz,zno,znp]
   ·have d3:((e:Int) != 0)=true:=bne_iff_ne.2 (by omega)
    rw [if_pos he]
    simp only [go_sem,d3]
    simp (disch:=first|assumption|omega|(simp;done)|(simp;omega)|(simp only [bt,and_true];first|done|omega|(simp;done))) [↓zmi,beq,ybc,ybd,ybe,ag,wk,wk2,wk1,wkM,wkL,am,ybf,hcl,dt,nds,znm,bx,zmz,zno,znp]
  ·have d2:((((bp s).2.2:Nat):Int) != 0)=true:=bne_iff_ne.2 (by omega)
   rw [if_pos he0]
   simp only [go_sem,d1,mc,iK,hsl,d2]
   simp (disch:=first|assumption|omega|(simp;done)|(simp;omega)|(simp only [bt,and_true];first|done|omega|(simp;done))) [↓zmi,beq,ybc,ybd,ybe,ag,wk,wk2,wk1,wkM,wkL,am,ybf,hcl,dt,nds,znm,bx,zmz,zno,znp]
end Go.AL
open Go Go.AL Go.Proofs
namespace Go.AL
set_option linter.all false
set_option maxRecDepth 10000
theorem zj:ti Try.prog 119=some ⟨.struct [(0,9,false),(1,3,false),(2,3,false)],3,32,.agg [.str [],.int .i64 0,.int .i64 0]⟩:=by kernel_rfl
theorem xH:ti Try.prog 65=some ⟨.slice 119,1,24,.slice .nil 1 []⟩:=by kernel_rfl
theorem vh:ti Try.prog 69=some ⟨.struct [(0,3,false),(1,9,false),(2,65,false),(3,66,false),(4,3,false),(5,67,false),(6,3,false),(7,9,false)],8,128,.agg [.int .i64 0,.str [],.slice .nil 1 [],.slice .nil 1 [],.int .i64 0,.slice .nil 1 [],.int .i64 0,.str []]⟩:=by kernel_rfl
theorem t4:ti Try.prog 132=some ⟨.struct [(0,9,false),(1,3,false)],2,24,.agg [.str [],.int .i64 0]⟩:=by kernel_rfl
theorem rX:ti Try.prog 70=some ⟨.slice 132,1,24,.slice .nil 1 []⟩:=by kernel_rfl
theorem sf:ti Try.prog 73=some ⟨.struct [(0,3,false),(1,9,false),(2,70,false),(3,71,false),(4,9,false)],5,88,.agg [.int .i64 0,.str [],.slice .nil 1 [],.slice .nil 1 [],.str []]⟩:=by kernel_rfl
theorem vT:ti Try.prog 49=some ⟨.slice 9,1,24,.slice .nil 1 []⟩:=by kernel_rfl
attribute [go_sem] zj xH vh t4 rX sf vT
def pr:List AV→AHeap→(AV→Prop)→Prop
 |[.int .i64 k],_,K=>K (.slice .any 1 (sAV (oO k)))
 |_,_,_=>False
theorem wR:EntOk Try.prog 48 (Ent.pure pr):=by
 refine EntOk.pure fun args H K h=>?_
 unfold pr at h
 split at h
 rotate_left
 ·exact h.elim
 rename_i k
 refine ⟨_,h,?_⟩
 clear h
 unfold oO
 by_cases h1:k=1
 ·subst h1
  rw [if_pos rfl]
  refine ACalls.fW aI TblOk.nil Try.func48 [.tmp 2] (Nat.le_refl _) (T:=aA []) (h:=fun hcl hlt=>?_)
  clear hlt
  simp only [go_sem,Int.reduceBEq]
  simp (disch:=first|assumption|omega|(simp;done)|(simp;omega)|(simp only [bt,and_true];first|done|omega|(simp;done))) [↓zmi,beq,ybc,ybd,ybe,ag,wk,wk2,wk1,wkM,wkL,am,ybf,hcl,sAV,bx,zno,znp,znb]
 rw [if_neg h1]
 have d1:(k==1)=false:=beq_eq_false_iff_ne.2 h1
 by_cases h2:k=2
 ·subst h2
  rw [if_pos rfl]
  refine ACalls.fW aI TblOk.nil Try.func48 [.tmp 2] (Nat.le_refl _) (T:=aA []) (h:=fun hcl hlt=>?_)
  clear hlt
  simp only [go_sem,Int.reduceBEq]
  simp (disch:=first|assumption|omega|(simp;done)|(simp;omega)|(simp only [bt,and_true];first|done|omega|(simp;done))) [↓zmi,beq,ybc,ybd,ybe,ag,wk,wk2,wk1,wkM,wkL,am,ybf,hcl,sAV,bx,zno,znp,znb]
 rw [if_neg h2]
 have d2:(k==2)=false:=beq_eq_false_iff_ne.2 h2
 by_cases h3:k=3
 ·subst h3
  rw [if_pos rfl]
  refine ACalls.fW aI TblOk.nil Try.func48 [.tmp 2] (Nat.le_refl _) (T:=aA []) (h:=fun hcl hlt=>?_)
  clear hlt
  simp only [go_sem,Int.reduceBEq]
  simp (disch:=first|assumption|omega|(simp;done)|(simp;omega)|(simp only [bt,and_true];first|done|omega|(simp;done))) [↓zmi,beq,ybc,ybd,ybe,ag,wk,wk2,wk1,wkM,wkL,am,ybf,hcl,sAV,bx,zno,znp,znb]
 rw [if_neg h3]
 have d3:(k==3)=false:=beq_eq_false_iff_ne.2 h3
 by_cases h4:k=4
 ·subst h4
  rw [if_pos rfl]
  refine ACalls.fW aI TblOk.nil Try.func48 [.tmp 2] (Nat.le_refl _) (T:=aA []) (h:=fun hcl hlt=>?_)
  clear hlt
  simp only [go_sem,Int.reduceBEq]
  simp (disch:=first|assumption|omega|(simp;done)|(simp;omega)|(simp only [bt,and_true];first|done|omega|(simp;done))) [↓zmi,beq,ybc,ybd,ybe,ag,wk,wk2,wk1,wkM,wkL,am,ybf,hcl,sAV,bx,zno,znp,znb]
 rw [if_neg h4]
 have d4:(k==4)=false:=beq_eq_false_iff_ne.2 h4
 refine ACalls.fW aI TblOk.nil Try.func48 [.tmp 2] (Nat.le_refl _) (T:=aA []) (h:=fun hcl hlt=>?_)
 clear hlt
 simp only [go_sem,d1,d2,d3,d4]
 simp (disch:=first|assumption|omega|(simp;done)|(simp;omega)|(simp only [bt,and_true];first|done|omega|(simp;done))) [↓zmi,beq,ybc,ybd,ybe,ag,wk,wk2,wk1,wkM,wkL,am,ybf,hcl,sAV]
theorem rd {l:List SKey}:(l.map jQ).length=l.length:=ybb ..
theorem xA {l:List SKey} {k:Nat} (h:k<l.length):(l.map jQ).getD k .junk=.agg [.str l[k].name,.int .i64 l[k].field,.int .i64 l[k].kind]:=by
 simp [List.getD_eq_getElem?_getD,h,jQ]
def tz (l:List SKey):List VN:=(l.flatMap fun k=>fJ k.name k.kind)++[tL]
def iu:List AV→AHeap→(AV→Prop)→Prop
 |[.agg [_,_,.slice _ 3 x,_,_,_,_,_]],_,K=>∃ keys,(x=keys.map jQ∧keys.length≤1000)∧K (.slice .any 2 (aY (tz keys)))
 |_,_,_=>False
theorem kj {α β:Type} {f:α→List β} {l:List α} {k:Nat} (h:k<l.length):(l.take (k+1)).flatMap f=(l.take k).flatMap f++f l[k]:=by
 rw [← List.take_append_getElem h,List.flatMap_append];simp
theorem o9 {n:List UInt8} {k:Int}:(fJ n k).length≤2:=by
 unfold fJ oO
 rw [ybb]
 split
 ·simp
 ·split
  ·simp
  ·split
   ·simp
   ·split<;>simp
theorem kI {l:List SKey}:∀ {k:Nat},((l.take k).flatMap fun k=>fJ k.name k.kind).length≤2*k
 |0=>by simp
 |k+1=>by
  rcases Nat.lt_or_ge k l.length with h|h
  ·rw [kj h,List.length_append]
   have:=kI (l:=l) (k:=k)
   have:=@o9 l[k].name l[k].kind
   omega
  ·rw [ybc (by omega:l.length≤k+1),← ybc h]
   have:=kI (l:=l) (k:=k)
   omega
theorem nR:EntOk Try.prog 23 (Ent.pure iu):=by
 refine EntOk.pure fun args H K h=>?_
 unfold iu at h
 split at h
 rotate_left
 ·exact h.elim
 rename_i a1 a2 m x a3 a4 a5 a6 a7
 obtain ⟨keys,⟨rfl,hl⟩,hK⟩:=h
 refine ⟨_,hK,?_⟩
 clear hK
 refine ACalls.fW aI (TblOk.cons wR TblOk.nil) Try.func23 [.tmp 2] (Nat.le_refl _) (T:=aA []) (h:=fun hcl hlt=>?_)
 have hx:=AV.lt_mono (Nat.le_succ H.nx) _ (hlt (.agg [a1,a2,.slice m 3 (keys.map jQ),a3,a4,a5,a6,a7]) (by simp))
 have hm:∀ n',H.nx≤n'→AV.lt n' (.slice m 3 (keys.map jQ)):=fun n' hn=>AV.lt_mono hn _ (by have h1:=hlt (.agg [a1,a2,.slice m 3 (keys.map jQ),a3,a4,a5,a6,a7]) (by simp);rw [znl] at h1;exact h1.2.2.1)
 simp only [znl] at hx
 clear hlt
 simp only [go_sem,rd]
 refine ax (A:=Nat × AHeap) (fun a=>[(3,.slice (.own (H.nx+1+1)) 2 (aY ((keys.take a.1).flatMap fun k=>fJ k.name k.kind))),(9,.slice m 3 (keys.map jQ)),(10,.int .i64 (keys.length:Int)),(11,.int .i64 (a.1:Int))]) (fun a=>a.2)
  (fun a=>a.1≤keys.length∧H.Le a.2∧a.2.Closed∧a.2.get (H.nx+1+1)=some (.buf 2 ((keys.take a.1).flatMap fun k=>fJ k.name k.kind).length)) (fun a=>keys.length - a.1)
  (0,((H.push (.cells [a1,a2,.slice m 3 (keys.map jQ),a3,a4,a5,a6,a7])).push (.buf 2 0)).push (.buf 2 0)) ⟨Nat.zero_le _,(((AHeap.Le.refl _).push _).push _).push _,af (af (ac hcl hx)),AHeap.get_push_new _ _⟩ ?_ fun a ha=>?_
 ·have hc0:=af (a:=2) (b:=0) (af (a:=2) (b:=0) (ac hcl hx))
  (simp only [bkq,enterW,aR,ltF,ne_eq,Nat.reduceEqDiff,reduceCtorEq,hc0,hm,varsAV_lt];try simp (disch:=first|assumption|omega|(simp;done)|(simp;omega)|(simp only [bt,and_true];first|done|omega|(simp;done))) [↓zmi,beq,ybc,ybd,ybe,ag,wk,wk2,wk1,wkM,wkL,am,ybf,byq,biq,ae,hcl,hc0,hm,varsAV_lt];try (repeat' (first|assumption|omega|exact True.intro|refine And.intro ?_ ?_|refine af ?_|refine aa ?_|refine ac ?_ ?_|refine ah ?_ ?_|refine aj ?_|exact AHeap.Le.refl _|refine AHeap.Le.push ?_ _|refine AHeap.Le.del ?_ ?_|(simp only [bt,and_true,true_and,hc0,hm,varsAV_lt];first|done|omega|(simp;done)))))
  simp [aY]
 obtain ⟨k,Hc⟩:=a
 obtain ⟨hk,hle,hcc,hid⟩:=ha
 dsimp only at hk hle hcc hid ⊢
 have hnx:=AHeap.get_lt hid
 simp only [go_sem]
 refine ak (fun hc=>?_) (fun hc=>?_)
 ·have hk1:k<keys.length:=by simp at hc;omega
  have e5:IntKind.i64.wrap ((k:Int)+1)=((k+1:Nat):Int):=by rw [wrap_i64]<;>omega
  have hfl:=@kI keys k
  have hkl:=@o9 keys[k].name keys[k].kind
  have hkv:fJ keys[k].name keys[k].kind=(oO keys[k].kind).map fun a=>(keys[k].name,a):=rfl
  simp only [go_sem,rd,xA hk1,Int.toNat_natCast,pr]
  generalize oO keys[k].kind=at0 at *
  have hk0:fJ keys[k].name keys[k].kind=at0.map fun a=>(keys[k].name,a):=hkv
  have hal:at0.length≤2:=by rw [hk0,ybb] at hkl;exact hkl
  refine ⟨by omega,?_⟩
  simp only [go_sem,ai]
  refine ax (A:=Nat × AHeap) (fun a=>[(3,.slice (.own (H.nx+1+1)) 2 (aY (((keys.take k).flatMap fun k=>fJ k.name k.kind)++(at0.take a.1).map fun x=>(keys[k].name,x)))),(5,.ptr Hc.nx 0),(9,.slice m 3 (keys.map jQ)),(10,.int .i64 (keys.length:Int)),(11,.int .i64 (k:Int)),(17,.slice .any 1 (sAV at0)),(18,.int .i64 (at0.length:Int)),(19,.int .i64 (a.1:Int))]) (fun a=>a.2)
   (fun a=>a.1≤at0.length∧H.Le a.2∧a.2.Closed∧a.2.get (H.nx+1+1)=some (.buf 2 (((keys.take k).flatMap fun k=>fJ k.name k.kind)++(at0.take a.1).map fun x=>(keys[k].name,x)).length)∧a.2.get Hc.nx=some (.cells [.str keys[k].name,.int .i64 keys[k].field,.int .i64 keys[k].kind])) (fun a=>at0.length - a.1)
   (0,Hc.push (.cells [.str keys[k].name,.int .i64 keys[k].field,.int .i64 keys[k].kind])) ⟨Nat.zero_le _,hle.push _,ac hcc (by simp [zno,znp,znb,zmz]),?_,AHeap.get_push_new _ _⟩ ?_ fun a ha=>?_
  ·dsimp only
   rw [AHeap.get_push_lt _ _ hnx,hid];simp
  ·have hc0:=ac (cs:=[.str keys[k].name,.int .i64 keys[k].field,.int .i64 keys[k].kind]) hcc (by simp [zno,znp,znb,zmz])
   have hnn:H.nx≤Hc.nx:=by omega
   (simp only [bkq,enterW,aR,ltF,ne_eq,Nat.reduceEqDiff,reduceCtorEq,hc0,hm,varsAV_lt,br,hnn];try simp (disch:=first|assumption|omega|(simp;done)|(simp;omega)|(simp only [bt,and_true];first|done|omega|(simp;done))) [↓zmi,beq,ybc,ybd,ybe,ag,wk,wk2,wk1,wkM,wkL,am,ybf,byq,biq,ae,hcl,hc0,hm,varsAV_lt,br,hnn];try (repeat' (first|assumption|omega|exact True.intro|refine And.intro ?_ ?_|refine af ?_|refine aa ?_|refine ac ?_ ?_|refine ah ?_ ?_|refine aj ?_|exact AHeap.Le.refl _|refine AHeap.Le.push ?_ _|refine AHeap.Le.del ?_ ?_|(simp only [bt,and_true,true_and,hc0,hm,varsAV_lt,br,hnn];first|done|omega|(simp;done)))))
  obtain ⟨j,Hd⟩:=a
  obtain ⟨hj,hle2,hcd,hid2,hky⟩:=ha
  dsimp only at hj hle2 hcd hid2 hky ⊢
  have hnx2:=AHeap.get_lt hid2
  have hnx3:=AHeap.get_lt hky
  simp only [go_sem]
  refine ak (fun hc=>?_) (fun hc=>?_)
  ·have hj1:j<at0.length:=by simp at hc;omega
   have e6:IntKind.i64.wrap ((j:Int)+1)=((j+1:Nat):Int):=by rw [wrap_i64]<;>omega
   have hsg:(sAV at0).getD j .junk=.str at0[j]:=by rw [gf hj1];simp [List.getD_eq_getElem?_getD,hj1]
   have htk:(at0.take (j+1)).map (fun x=>(keys[k].name,x))=(at0.take j).map (fun x=>(keys[k].name,x))++[(keys[k].name,at0[j])]:=by rw [← List.take_append_getElem hj1,List.map_append];rfl
   have n1:(Hc.nx=Hd.nx)=False:=eq_false (by omega)
   have n2:(H.nx+1+1=Hd.nx)=False:=eq_false (by omega)
   simp only [go_sem,ai,hsg,Int.toNat_natCast,hky,bz hky,hid2,ci,n1,n2,e6]
   obtain ⟨LL,hLL⟩:∃ LL,(((keys.take k).flatMap fun k=>fJ k.name k.kind)++(at0.take j).map fun x=>(keys[k].name,x))=LL:=⟨_,rfl⟩
   have hll:LL.length≤2*k+2:=by rw [← hLL,List.length_append,ybb,List.length_take];omega
   have hln:((keys.take k).flatMap fun k=>fJ k.name k.kind)++(at0.take (j+1)).map (fun x=>(keys[k].name,x))=LL++[(keys[k].name,at0[j])]:=by rw [htk,← List.append_assoc,hLL]
   have hsn:aY LL++[.agg [.str keys[k].name,.str at0[j]]]=aY (LL++[(keys[k].name,at0[j])]):=fZ (v:=(keys[k].name,at0[j]))
   rw [hLL]
   refine ⟨by omega,⟨by omega,by omega,fun z hz=>by rw [List.mem_singleton.1 hz];rfl⟩,(j+1,Hd.set (H.nx+1+1) (.buf 2 (LL.length+1))),⟨by dsimp only;omega,cm hle2 (by omega),aa hcd,?_,?_⟩,by dsimp only;omega,?_⟩
   ·dsimp only
    rw [bL,if_pos rfl,if_pos hnx2,hln];simp
   ·dsimp only
    rw [bL,if_neg (by omega),hky]
   ·have hnn:H.nx≤Hd.nx:=by omega
    have hcs:=@aa Hd (H.nx+1+1) 2 (LL.length+1) hcd
    dsimp only
    rw [hln,hsn]
    (simp only [bkq,enterW,aR,ltF,ne_eq,Nat.reduceEqDiff,reduceCtorEq,hcs,hm,varsAV_lt,br,hnn];try simp (disch:=first|assumption|omega|(simp;done)|(simp;omega)|(simp only [bt,and_true];first|done|omega|(simp;done))) [↓zmi,beq,ybc,ybd,ybe,ag,wk,wk2,wk1,wkM,wkL,am,ybf,byq,biq,ae,hcl,hcs,hm,varsAV_lt,br,hnn];try (repeat' (first|assumption|omega|exact True.intro|refine And.intro ?_ ?_|refine af ?_|refine aa ?_|refine ac ?_ ?_|refine ah ?_ ?_|refine aj ?_|exact AHeap.Le.refl _|refine AHeap.Le.push ?_ _|refine AHeap.Le.del ?_ ?_|(simp only [bt,and_true,true_and,hcs,hm,varsAV_lt,br,hnn];first|done|omega|(simp;done)))))
  ·have hj1:j=at0.length:=by simp at hc;omega
   subst hj1
   rw [List.take_length,← hk0,← kj hk1] at hid2
   rw [List.take_length,← hk0,← kj (f:=fun k:SKey=>fJ k.name k.kind) hk1]
   simp only [go_sem,e5]
   refine ⟨(k+1,Hd),⟨by dsimp only;omega,hle2,hcd,hid2⟩,by dsimp only;omega,?_⟩
   have hnn:H.nx≤Hd.nx:=by omega
   (simp only [bkq,enterW,aR,ltF,ne_eq,Nat.reduceEqDiff,reduceCtorEq,hcd,hm,varsAV_lt,hnn];try simp (disch:=first|assumption|omega|(simp;done)|(simp;omega)|(simp only [bt,and_true];first|done|omega|(simp;done))) [↓zmi,beq,ybc,ybd,ybe,ag,wk,wk2,wk1,wkM,wkL,am,ybf,byq,biq,ae,hcl,hcd,hm,varsAV_lt,hnn];try (repeat' (first|assumption|omega|exact True.intro|refine And.intro ?_ ?_|refine af ?_|refine aa ?_|refine ac ?_ ?_|refine ah ?_ ?_|refine aj ?_|exact AHeap.Le.refl _|refine AHeap.Le.push ?_ _|refine AHeap.Le.del ?_ ?_|(simp only [bt,and_true,true_and,hcd,hm,varsAV_lt,hnn];first|done|omega|(simp;done)))))
 ·have hk1:k=keys.length:=by simp at hc;omega
  subst hk1
  rw [List.take_length] at hid
  rw [List.take_length]
  have hfl:=@kI keys keys.length
  rw [List.take_length] at hfl
  have n1:(H.nx+1+1=Hc.nx)=False:=eq_false (by omega)
  have htab:tz keys=(keys.flatMap fun k=>fJ k.name k.kind)++[tL]:=rfl
  rw [htab]
  clear htab
  generalize (keys.flatMap fun k=>fJ k.name k.kind)=G at *
  have hsn:aY G++[.agg [.str [112,114,105,111,114,105,116,121],.str []]]=aY (G++[tL]):=fZ (v:=tL)
  simp only [go_sem,hid,n1,ci]
  refine ⟨⟨by omega,by omega,fun z hz=>by rw [List.mem_singleton.1 hz];rfl⟩,?_⟩
  rw [hsn]
  have hle3:=(cm hle (show H.nx≤H.nx+1+1 by omega) (o:=.buf 2 (G.length+1))).push (.buf 2 1)
  simp (disch:=first|assumption|omega|(simp;done)|(simp;omega)|(simp only [bt,and_true];first|done|omega|(simp;done))) [↓zmi,beq,ybc,ybd,ybe,ag,wk,wk2,wk1,wkM,wkL,am,ybf,hcl,hle3,varsAV_lt]
end Go.AL
open Go Go.AL Go.Proofs
namespace Go.AL
set_option linter.all false
set_option maxRecDepth 10000
end Go.AL
open Go Go.AL Go.Proofs
namespace Go.AL
set_option linter.all false
set_option maxRecDepth 10000
theorem xU:bp [97,32,43,32,49]=([(2,[97],0),(3,[43],2),(1,[49],4)],0,0):=by decide +kernel
theorem y4:run [(2,[97],0),(3,[43],2),(1,[49],4)] 20 .imp 0 []=some (.ok 2 3 [⟨3,0,0,[97],[],0⟩,⟨1,0,0,[],[],1⟩,⟨6,0,1,[],[],0⟩]):=by kernel_rfl
theorem xY:bp [97,58,58,109,97,115,107,32,62,32,48]=([(2,[97],0),(3,[58,58],1),(2,[109,97,115,107],3),(3,[62],8),(1,[48],10)],0,0):=by decide +kernel
theorem yp:run [(2,[97],0),(3,[58,58],1),(2,[109,97,115,107],3),(3,[62],8),(1,[48],10)] 20 .imp 0 []=some (.ok 2 5 [⟨3,0,0,[97],[109,97,115,107],0⟩,⟨1,0,0,[],[],0⟩,⟨12,0,1,[],[],0⟩]):=by kernel_rfl
theorem tU {kn:VN→Bool} {s:List UInt8} {l:List Tok} {f:Nat} {r:PR} {a b:Nat} (hs:s≠[]) (h1:bp s=(l,a,b)) (h2:run l f .imp 0 []=some r):comp kn s=rk kn b (df l r):=by
 unfold comp
 rw [if_neg hs,h1]
 dsimp only
 rw [zP h2]
def qA:List VN:=tz [⟨[97],0,1⟩]
theorem vJ:(comp (aZ qA) [97,32,43,32,49]).2=12:=by
 rw [tU (by simp) xU y4]
 decide +kernel
theorem wD:(comp (aZ qA) [97,58,58,109,97,115,107,32,62,32,48]).2=6:=by
 rw [tU (by simp) xY yp]
 decide +kernel
theorem wo {kn:VN→Bool}:comp kn []=(v5,0):=by unfold comp;rw [if_pos rfl]
def lg:List AV→AHeap→(AV→Prop)→Prop
 |[],_,K=>K (.bool true)
 |_,_,_=>False
theorem sq:EntOk Try.prog 13 (Ent.pure lg):=by
 refine EntOk.pure fun args H K h=>?_
 unfold lg at h
 split at h
 rotate_left
 ·exact h.elim
 refine ⟨_,h,?_⟩
 clear h
 refine ACalls.fW aI (TblOk.cons nR (TblOk.cons lH TblOk.nil)) Try.func13 [.tmp 0] (Nat.le_refl _) (T:=aA []) (h:=fun hcl hlt=>?_)
 clear hlt
 simp only [go_sem,iu]
 refine ⟨[⟨[97],0,1⟩],⟨rfl,by decide⟩,?_⟩
 have hov:r9 qA:=⟨by decide,by decide⟩
 have hvl:(aY (tz [⟨[97],0,1⟩])).length=3:=rfl
 simp only [go_sem,eY]
 refine ⟨qA,⟨rfl,hov⟩,?_⟩
 have c1:=vJ
 generalize comp (aZ qA) [97,32,43,32,49]=q1 at *
 obtain ⟨t1,e1⟩:=q1
 have c1':e1=12:=c1
 subst c1'
 simp only [go_sem,eY,dt]
 refine ⟨qA,⟨rfl,hov⟩,?_⟩
 have c2:=wD
 generalize comp (aZ qA) [97,58,58,109,97,115,107,32,62,32,48]=q2 at *
 obtain ⟨t2,e2⟩:=q2
 have c2':e2=6:=c2
 subst c2'
 simp only [go_sem,eY,dt]
 refine ⟨qA,⟨rfl,hov⟩,?_⟩
 rw [wo]
 have d1:(((12:Nat):Int)==12)=true:=rfl
 have d2:(((6:Nat):Int)==6)=true:=rfl
 have d3:(((0:Nat):Int)==0)=true:=rfl
 have d4:(((1:Nat):Int)==1)=true:=rfl
 have d5:(((3:Nat):Int)==3)=true:=rfl
 have hol:(nds v5).length=1:=rfl
 simp only [go_sem,dt,d1,d2,d3,d4,d5,hol,hvl]
 simp (disch:=first|assumption|omega|(simp;done)|(simp;omega)|(simp only [bt,and_true];first|done|omega|(simp;done))) [↓zmi,beq,ybc,ybd,ybe,ag,wk,wk2,wk1,wkM,wkL,am,ybf,hcl]
end Go.AL
open Go Go.AL Go.Proofs
namespace Go.AL
set_option linter.all false
set_option maxRecDepth 10000
theorem tf:ti Try.prog 83=some ⟨.slice 69,1,24,.slice .nil 1 []⟩:=by kernel_rfl
theorem rh:ti Try.prog 82=some ⟨.slice 73,1,24,.slice .nil 1 []⟩:=by kernel_rfl
theorem sW:ti Try.prog 88=some ⟨.struct [(0,79,false),(1,80,false),(2,81,false),(3,82,false),(4,83,false),(5,84,false),(6,85,false),(7,86,false),(8,3,false),(9,3,false)],10,208,.agg [.slice .nil 1 [],.slice .nil 1 [],.slice .nil 1 [],.slice .nil 1 [],.slice .nil 1 [],.slice .nil 1 [],.slice .nil 1 [],.slice .nil 1 [],.int .i64 0,.int .i64 0]⟩:=by kernel_rfl
attribute [go_sem] tf rh sW
end Go.AL
