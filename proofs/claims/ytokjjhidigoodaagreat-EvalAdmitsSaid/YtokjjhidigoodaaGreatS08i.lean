/- Contracts and plain laws, a part of the proof; no condition of its own. -/
import Derived.Test.YtokjjhidigoodaaGreatS08e
import Derived.Test.YtokjjhidigoodaaGreatS07w
import Derived.Test.YtokjjhidigoodaaGreatS10e
set_option maxHeartbeats 32000000
open List renaming length_cons → yaz, length_nil → yba, take_of_length_le → ybc, drop_append → ybd, take_append → ybe, drop_eq_nil_of_le → ybf, length_map → ybb, map_cons → yae, map_nil → yaf
open Go Go.AL Go.Proofs
namespace Go.AL
set_option linter.all false
set_option maxRecDepth 10000
theorem Dj {P:Program} {f:FuncId} {args:List AV} {H:AHeap} {X:AV} (h:ACallsP P f args H (fun x H1=>x=X∧H1=H)):ACalls P f args H (.ret X) H:=by
 intro w γ vs hs hr
 have h:=h w γ vs hs hr
 generalize (callFunc f vs).run P w=rr at h ⊢
 unfold lB at h ⊢
 split at h
 ·exact h.mono fun en w' ⟨γ',x,H1,⟨hx,hH⟩,g1,g2,g3⟩=>by subst hx;subst hH;exact ⟨γ',g1,g2,g3⟩
 ·obtain ⟨γ',x,H1,⟨hx,hH⟩,g1,g2,g3⟩:=h
  subst hx;subst hH
  exact ⟨γ',g1,g2,g3⟩
 ·exact h
def tZ:List AV→AHeap→(AV→Prop)→Prop
 |[.slice _ 3 x],_,K=>∃ l f r,(x=cU l∧run l f .imp 0 []=some r∧l.length≤1000∧oq l)∧K (iC l r)
 |_,_,_=>False
theorem Ej:EntOk Tryz.prog 292 (Ent.pure tZ):=by
 refine EntOk.pure fun args H K h=>?_
 unfold tZ at h
 split at h
 rotate_left
 ·exact h.elim
 rename_i m x
 obtain ⟨l,f,r,⟨rfl,hr,hl,hg⟩,hK⟩:=h
 refine ⟨_,hK,Dj ?_⟩
 have h0:EntOk Tryz.prog 292 (Ent.some (ux True 0)):=yX Jl
 exact h0.2.2 _ rfl [.slice m 3 (cU l)] H _ ⟨l,f,r,⟨rfl,hr,hl,hg,fun _ _=>trivial⟩,rfl,rfl⟩
def oI:List AV→AHeap→(AV→Prop)→Prop
 |[.str s,.slice _ 2 y],_,K=>∃ vs,(y=a9 vs∧xO vs∧s.length≤140737488355328)∧K (fA (comp (bE vs) s))
 |_,_,_=>False
theorem zZ:EntOk Tryz.prog 134 (Ent.pure oI):=by
 refine EntOk.pure fun args H K h=>?_
 unfold oI at h
 split at h
 rotate_left
 ·exact h.elim
 rename_i s m2 y
 obtain ⟨vs,⟨rfl,hov,hsl⟩,hK⟩:=h
 refine ⟨_,hK,?_⟩
 clear hK
 refine ACalls.fW aB (TblOk.cons Hw (TblOk.cons Ej (TblOk.cons CM TblOk.nil))) Tryz.func134 [.tmp 4,.tmp 5] (Nat.le_refl _) (T:=aA []) (h:=fun hcl hlt=>?_)
 have hm2:∀ n',H.nx≤n'→AV.lt n' (.slice m2 2 (a9 vs)):=fun n' hn=>AV.lt_mono hn _ (hlt (.slice m2 2 (a9 vs)) (by simp))
 clear hlt
 unfold comp
 by_cases hs:s=[]
 ·subst hs
  have d1:(([]:List UInt8)==[])=true:=rfl
  rw [if_pos rfl]
  simp only [go_sem,d1]
  exact Z42
 ·have d1:(s==[])=false:=by simp [hs]
  rw [if_neg hs]
  obtain ⟨hg1,hg2⟩:=qk s
  obtain ⟨f,hf⟩:=pV (bZ s).1
  generalize prs (bZ s).1=r at *
  obtain ⟨i,hpi⟩:=Cm (bZ s).1 r
  obtain ⟨hpg,hpl,_⟩:=mR hf
  have hps:=pM hg2 hf
  generalize ef (bZ s).1 r=te at *
  obtain ⟨t,e⟩:=te
  dsimp only at hpi hpg hpl hps
  have hot:okT t:=⟨hpg,hps,by omega⟩
  obtain ⟨hc1,hc2⟩:=@E5 (bE vs) t
  unfold v6
  by_cases he0:(bZ s).2.2=0
  ·have d2:((((bZ s).2.2:Nat):Int) != 0)=false:=by rw [he0];rfl
   rw [if_neg (fun h=>h he0)]
   simp only [go_sem,d1,ss,nd,hsl,d2,tZ]
   refine ⟨(bZ s).1,f,r,⟨rfl,hf,by omega,hg2⟩,?_⟩
   simp only [go_sem,hpi]
   by_cases he:e=0
   ·subst he
    have d3:(((0:Nat):Int) != 0)=false:=rfl
    rw [if_neg (fun h=>h rfl)]
    simp only [go_sem,d3,tv]
    refine ⟨t,vs,⟨rfl,rfl,hot,hov⟩,?_⟩
    by_cases hch:(chk (bE vs) t).2=0
    ·have d4:((((chk (bE vs) t).2:Nat):Int) != 0)=false:=by rw [hch];rfl
     rw [if_neg (fun h=>h hch)]
     simp only [go_sem,d4]
     exact Z43
    ·have d4:((((chk (bE vs) t).2:Nat):Int) != 0)=true:=bne_iff_ne.2 (by omega)
     rw [if_pos hch]
     simp only [go_sem,d4]
     exact Z44
   ·have d3:((e:Int) != 0)=true:=bne_iff_ne.2 (by omega)
    rw [if_pos he]
    simp only [go_sem,d3]
    exact Z44
  ·have d2:((((bZ s).2.2:Nat):Int) != 0)=true:=bne_iff_ne.2 (by omega)
   rw [if_pos he0]
   simp only [go_sem,d1,ss,nd,hsl,d2]
   exact Z44
end Go.AL
open Go Go.AL Go.Proofs
namespace Go.AL
set_option linter.all false
set_option maxRecDepth 10000
theorem Iy:ti Tryz.prog 64=some ⟨.struct [(0,9,false),(1,3,false),(2,3,false)],3,32,.agg [.str [],.int .i64 0,.int .i64 0]⟩:=by kernel_rfl
theorem He:ti Tryz.prog 65=some ⟨.slice 64,1,24,.slice .nil 1 []⟩:=by kernel_rfl
theorem Dp:ti Tryz.prog 67=some ⟨.struct [(0,3,false),(1,9,false),(2,65,false),(3,56,false),(4,3,false),(5,24,false),(6,3,false),(7,9,false)],8,128,.agg [.int .i64 0,.str [],.slice .nil 1 [],.slice .nil 1 [],.int .i64 0,.slice .nil 1 [],.int .i64 0,.str []]⟩:=by kernel_rfl
theorem CY:ti Tryz.prog 118=some ⟨.struct [(0,9,false),(1,3,false)],2,24,.agg [.str [],.int .i64 0]⟩:=by kernel_rfl
theorem Bf:ti Tryz.prog 100=some ⟨.slice 118,1,24,.slice .nil 1 []⟩:=by kernel_rfl
theorem A3:ti Tryz.prog 103=some ⟨.struct [(0,3,false),(1,9,false),(2,100,false),(3,101,false),(4,9,false)],5,88,.agg [.int .i64 0,.str [],.slice .nil 1 [],.slice .nil 1 [],.str []]⟩:=by kernel_rfl
theorem Ga:ti Tryz.prog 173=some ⟨.slice 9,1,24,.slice .nil 1 []⟩:=by kernel_rfl
attribute [go_sem] Iy He Dp CY Bf A3 Ga
def xv:List AV→AHeap→(AV→Prop)→Prop
 |[.int .i64 k],_,K=>K (.slice .any 1 (sAV (dd k)))
 |_,_,_=>False
theorem E3:EntOk Tryz.prog 126 (Ent.pure xv):=by
 refine EntOk.pure fun args H K h=>?_
 unfold xv at h
 split at h
 rotate_left
 ·exact h.elim
 rename_i k
 refine ⟨_,h,?_⟩
 clear h
 unfold dd
 by_cases h1:k=1
 ·subst h1
  rw [if_pos rfl]
  refine ACalls.fW aB TblOk.nil Tryz.func126 [.tmp 2] (Nat.le_refl _) (T:=aA []) (h:=fun hcl hlt=>?_)
  clear hlt
  simp only [go_sem,Int.reduceBEq]
  exact Z45
 rw [if_neg h1]
 have d1:(k==1)=false:=beq_eq_false_iff_ne.2 h1
 by_cases h2:k=2
 ·subst h2
  rw [if_pos rfl]
  refine ACalls.fW aB TblOk.nil Tryz.func126 [.tmp 2] (Nat.le_refl _) (T:=aA []) (h:=fun hcl hlt=>?_)
  clear hlt
  simp only [go_sem,Int.reduceBEq]
  exact Z45
 rw [if_neg h2]
 have d2:(k==2)=false:=beq_eq_false_iff_ne.2 h2
 by_cases h3:k=3
 ·subst h3
  rw [if_pos rfl]
  refine ACalls.fW aB TblOk.nil Tryz.func126 [.tmp 2] (Nat.le_refl _) (T:=aA []) (h:=fun hcl hlt=>?_)
  clear hlt
  simp only [go_sem,Int.reduceBEq]
  exact Z45
 rw [if_neg h3]
 have d3:(k==3)=false:=beq_eq_false_iff_ne.2 h3
 by_cases h4:k=4
 ·subst h4
  rw [if_pos rfl]
  refine ACalls.fW aB TblOk.nil Tryz.func126 [.tmp 2] (Nat.le_refl _) (T:=aA []) (h:=fun hcl hlt=>?_)
  clear hlt
  simp only [go_sem,Int.reduceBEq]
  exact Z45
 rw [if_neg h4]
 have d4:(k==4)=false:=beq_eq_false_iff_ne.2 h4
 refine ACalls.fW aB TblOk.nil Tryz.func126 [.tmp 2] (Nat.le_refl _) (T:=aA []) (h:=fun hcl hlt=>?_)
 clear hlt
 simp only [go_sem,d1,d2,d3,d4]
 simp (disch:=first|exact Zd|omega) [↓zmk,beq,ybc,ybd,ybe,ag,wk,wk2,wk1,wkM,wkL,au,ybf,hcl,sAV]
theorem bC {l:List SKey}:(l.map ct).length=l.length:=ybb ..
theorem jv {l:List SKey} {k:Nat} (h:k<l.length):(l.map ct).getD k .junk=.agg [.str l[k].name,.int .i64 l[k].field,.int .i64 l[k].kind]:=by
 simp [List.getD_eq_getElem?_getD,h,ct]
def kL (l:List SKey):List VN:=(l.flatMap fun k=>dW k.name k.kind)++[mq]
def jM:List AV→AHeap→(AV→Prop)→Prop
 |[.agg [_,_,.slice _ 3 x,_,_,_,_,_]],_,K=>∃ keys,(x=keys.map ct∧keys.length≤1000)∧K (.slice .any 2 (a9 (kL keys)))
 |_,_,_=>False
theorem l6 {α β:Type} {f:α→List β} {l:List α} {k:Nat} (h:k<l.length):(l.take (k+1)).flatMap f=(l.take k).flatMap f++f l[k]:=by
 rw [← List.take_append_getElem h,List.flatMap_append];simp
theorem qN {n:List UInt8} {k:Int}:(dW n k).length≤2:=by
 unfold dW dd
 rw [ybb]
 split
 ·simp
 ·split
  ·simp
  ·split
   ·simp
   ·split<;>simp
theorem kf {l:List SKey}:∀ {k:Nat},((l.take k).flatMap fun k=>dW k.name k.kind).length≤2*k
 |0=>by simp
 |k+1=>by
  rcases Nat.lt_or_ge k l.length with h|h
  ·rw [l6 h,List.length_append]
   have:=kf (l:=l) (k:=k)
   have:=@qN l[k].name l[k].kind
   omega
  ·rw [ybc (by omega:l.length≤k+1),← ybc h]
   have:=kf (l:=l) (k:=k)
   omega
theorem k7:EntOk Tryz.prog 54 (Ent.pure jM):=by
 refine EntOk.pure fun args H K h=>?_
 unfold jM at h
 split at h
 rotate_left
 ·exact h.elim
 rename_i a1 a2 m x a3 a4 a5 a6 a7
 obtain ⟨keys,⟨rfl,hl⟩,hK⟩:=h
 refine ⟨_,hK,?_⟩
 clear hK
 refine ACalls.fW aB (TblOk.cons E3 TblOk.nil) Tryz.func54 [.tmp 2] (Nat.le_refl _) (T:=aA []) (h:=fun hcl hlt=>?_)
 have hx:=AV.lt_mono (Nat.le_succ H.nx) _ (hlt (.agg [a1,a2,.slice m 3 (keys.map ct),a3,a4,a5,a6,a7]) (by simp))
 have hm:∀ n',H.nx≤n'→AV.lt n' (.slice m 3 (keys.map ct)):=fun n' hn=>AV.lt_mono hn _ (by have h1:=hlt (.agg [a1,a2,.slice m 3 (keys.map ct),a3,a4,a5,a6,a7]) (by simp);rw [znn] at h1;exact h1.2.2.1)
 simp only [znn] at hx
 clear hlt
 simp only [go_sem,bC]
 refine ay (A:=Nat × AHeap) (fun a=>[(3,.slice (.own (H.nx+1+1)) 2 (a9 ((keys.take a.1).flatMap fun k=>dW k.name k.kind))),(9,.slice m 3 (keys.map ct)),(10,.int .i64 (keys.length:Int)),(11,.int .i64 (a.1:Int))]) (fun a=>a.2)
  (fun a=>a.1≤keys.length∧H.Le a.2∧a.2.Closed∧a.2.get (H.nx+1+1)=some (.buf 2 ((keys.take a.1).flatMap fun k=>dW k.name k.kind).length)) (fun a=>keys.length - a.1)
  (0,((H.push (.cells [a1,a2,.slice m 3 (keys.map ct),a3,a4,a5,a6,a7])).push (.buf 2 0)).push (.buf 2 0)) ⟨Nat.zero_le _,(((AHeap.Le.refl _).push _).push _).push _,af (af (ae hcl hx)),AHeap.get_push_new _ _⟩ ?_ fun a ha=>?_
 ·have hc0:=af (a:=2) (b:=0) (af (a:=2) (b:=0) (ae hcl hx))
  (simp only [bkq,enterW,aI,ltF,ne_eq,Nat.reduceEqDiff,reduceCtorEq,hc0,hm,aD];try simp (disch:=first|exact Zd|omega) [↓zmk,beq,ybc,ybd,ybe,ag,wk,wk2,wk1,wkM,wkL,au,ybf,byq,biq,ah,hcl,hc0,hm,aD];try (repeat' (first|assumption|omega|exact True.intro|refine And.intro ?_ ?_|refine af ?_|refine aa ?_|refine ae ?_ ?_|refine ai ?_ ?_|refine aj ?_|exact AHeap.Le.refl _|refine AHeap.Le.push ?_ _|refine AHeap.Le.del ?_ ?_|(simp only [bt,and_true,true_and,hc0,hm,aD];first|done|omega|(simp;done)))))
  simp [a9]
 obtain ⟨k,Hc⟩:=a
 obtain ⟨hk,hle,hcc,hid⟩:=ha
 dsimp only at hk hle hcc hid ⊢
 have hnx:=AHeap.get_lt hid
 simp only [go_sem]
 refine aq (fun hc=>?_) (fun hc=>?_)
 ·have hk1:k<keys.length:=by simp at hc;omega
  have e5:IntKind.i64.wrap ((k:Int)+1)=((k+1:Nat):Int):=by rw [wrap_i64]<;>omega
  have hfl:=@kf keys k
  have hkl:=@qN keys[k].name keys[k].kind
  have hkv:dW keys[k].name keys[k].kind=(dd keys[k].kind).map fun a=>(keys[k].name,a):=rfl
  simp only [go_sem,bC,jv hk1,Int.toNat_natCast,xv]
  generalize dd keys[k].kind=at0 at *
  have hk0:dW keys[k].name keys[k].kind=at0.map fun a=>(keys[k].name,a):=hkv
  have hal:at0.length≤2:=by rw [hk0,ybb] at hkl;exact hkl
  refine ⟨by omega,?_⟩
  simp only [go_sem,iN]
  refine ay (A:=Nat × AHeap) (fun a=>[(3,.slice (.own (H.nx+1+1)) 2 (a9 (((keys.take k).flatMap fun k=>dW k.name k.kind)++(at0.take a.1).map fun x=>(keys[k].name,x)))),(5,.ptr Hc.nx 0),(9,.slice m 3 (keys.map ct)),(10,.int .i64 (keys.length:Int)),(11,.int .i64 (k:Int)),(17,.slice .any 1 (sAV at0)),(18,.int .i64 (at0.length:Int)),(19,.int .i64 (a.1:Int))]) (fun a=>a.2)
   (fun a=>a.1≤at0.length∧H.Le a.2∧a.2.Closed∧a.2.get (H.nx+1+1)=some (.buf 2 (((keys.take k).flatMap fun k=>dW k.name k.kind)++(at0.take a.1).map fun x=>(keys[k].name,x)).length)∧a.2.get Hc.nx=some (.cells [.str keys[k].name,.int .i64 keys[k].field,.int .i64 keys[k].kind])) (fun a=>at0.length - a.1)
   (0,Hc.push (.cells [.str keys[k].name,.int .i64 keys[k].field,.int .i64 keys[k].kind])) ⟨Nat.zero_le _,hle.push _,ae hcc (by simp [znq,znr,znd,znb]),?_,AHeap.get_push_new _ _⟩ ?_ fun a ha=>?_
  ·dsimp only
   rw [AHeap.get_push_lt _ _ hnx,hid];simp
  ·have hc0:=ae (cs:=[.str keys[k].name,.int .i64 keys[k].field,.int .i64 keys[k].kind]) hcc (by simp [znq,znr,znd,znb])
   have hnn:H.nx≤Hc.nx:=by omega
   (simp only [bkq,enterW,aI,ltF,ne_eq,Nat.reduceEqDiff,reduceCtorEq,hc0,hm,aD,cK,hnn];try simp (disch:=first|exact Zd|omega) [↓zmk,beq,ybc,ybd,ybe,ag,wk,wk2,wk1,wkM,wkL,au,ybf,byq,biq,ah,hcl,hc0,hm,aD,cK,hnn];try (repeat' (first|assumption|omega|exact True.intro|refine And.intro ?_ ?_|refine af ?_|refine aa ?_|refine ae ?_ ?_|refine ai ?_ ?_|refine aj ?_|exact AHeap.Le.refl _|refine AHeap.Le.push ?_ _|refine AHeap.Le.del ?_ ?_|(simp only [bt,and_true,true_and,hc0,hm,aD,cK,hnn];first|done|omega|(simp;done)))))
  obtain ⟨j,Hd⟩:=a
  obtain ⟨hj,hle2,hcd,hid2,hky⟩:=ha
  dsimp only at hj hle2 hcd hid2 hky ⊢
  have hnx2:=AHeap.get_lt hid2
  have hnx3:=AHeap.get_lt hky
  simp only [go_sem]
  refine aq (fun hc=>?_) (fun hc=>?_)
  ·have hj1:j<at0.length:=by simp at hc;omega
   have e6:IntKind.i64.wrap ((j:Int)+1)=((j+1:Nat):Int):=by rw [wrap_i64]<;>omega
   have hsg:(sAV at0).getD j .junk=.str at0[j]:=by rw [wP hj1];simp [List.getD_eq_getElem?_getD,hj1]
   have htk:(at0.take (j+1)).map (fun x=>(keys[k].name,x))=(at0.take j).map (fun x=>(keys[k].name,x))++[(keys[k].name,at0[j])]:=by rw [← List.take_append_getElem hj1,List.map_append];rfl
   have n1:(Hc.nx=Hd.nx)=False:=eq_false (by omega)
   have n2:(H.nx+1+1=Hd.nx)=False:=eq_false (by omega)
   simp only [go_sem,iN,hsg,Int.toNat_natCast,hky,av hky,hid2,bk,n1,n2,e6]
   obtain ⟨LL,hLL⟩:∃ LL,(((keys.take k).flatMap fun k=>dW k.name k.kind)++(at0.take j).map fun x=>(keys[k].name,x))=LL:=⟨_,rfl⟩
   have hll:LL.length≤2*k+2:=by rw [← hLL,List.length_append,ybb,List.length_take];omega
   have hln:((keys.take k).flatMap fun k=>dW k.name k.kind)++(at0.take (j+1)).map (fun x=>(keys[k].name,x))=LL++[(keys[k].name,at0[j])]:=by rw [htk,← List.append_assoc,hLL]
   have hsn:a9 LL++[.agg [.str keys[k].name,.str at0[j]]]=a9 (LL++[(keys[k].name,at0[j])]):=nu (v:=(keys[k].name,at0[j]))
   rw [hLL]
   refine ⟨by omega,⟨by omega,by omega,fun z hz=>by rw [List.mem_singleton.1 hz];rfl⟩,(j+1,Hd.set (H.nx+1+1) (.buf 2 (LL.length+1))),⟨by dsimp only;omega,bj hle2 (by omega),aa hcd,?_,?_⟩,by dsimp only;omega,?_⟩
   ·dsimp only
    rw [az,if_pos rfl,if_pos hnx2,hln];simp
   ·dsimp only
    rw [az,if_neg (by omega),hky]
   ·have hnn:H.nx≤Hd.nx:=by omega
    have hcs:=@aa Hd (H.nx+1+1) 2 (LL.length+1) hcd
    dsimp only
    rw [hln,hsn]
    (simp only [bkq,enterW,aI,ltF,ne_eq,Nat.reduceEqDiff,reduceCtorEq,hcs,hm,aD,cK,hnn];try simp (disch:=first|exact Zd|omega) [↓zmk,beq,ybc,ybd,ybe,ag,wk,wk2,wk1,wkM,wkL,au,ybf,byq,biq,ah,hcl,hcs,hm,aD,cK,hnn];try (repeat' (first|assumption|omega|exact True.intro|refine And.intro ?_ ?_|refine af ?_|refine aa ?_|refine ae ?_ ?_|refine ai ?_ ?_|refine aj ?_|exact AHeap.Le.refl _|refine AHeap.Le.push ?_ _|refine AHeap.Le.del ?_ ?_|(simp only [bt,and_true,true_and,hcs,hm,aD,cK,hnn];first|done|omega|(simp;done)))))
  ·have hj1:j=at0.length:=by simp at hc;omega
   subst hj1
   rw [List.take_length,← hk0,← l6 hk1] at hid2
   rw [List.take_length,← hk0,← l6 (f:=fun k:SKey=>dW k.name k.kind) hk1]
   simp only [go_sem,e5]
   refine ⟨(k+1,Hd),⟨by dsimp only;omega,hle2,hcd,hid2⟩,by dsimp only;omega,?_⟩
   have hnn:H.nx≤Hd.nx:=by omega
   (simp only [bkq,enterW,aI,ltF,ne_eq,Nat.reduceEqDiff,reduceCtorEq,hcd,hm,aD,hnn];try simp (disch:=first|exact Zd|omega) [↓zmk,beq,ybc,ybd,ybe,ag,wk,wk2,wk1,wkM,wkL,au,ybf,byq,biq,ah,hcl,hcd,hm,aD,hnn];try (repeat' (first|assumption|omega|exact True.intro|refine And.intro ?_ ?_|refine af ?_|refine aa ?_|refine ae ?_ ?_|refine ai ?_ ?_|refine aj ?_|exact AHeap.Le.refl _|refine AHeap.Le.push ?_ _|refine AHeap.Le.del ?_ ?_|(simp only [bt,and_true,true_and,hcd,hm,aD,hnn];first|done|omega|(simp;done)))))
 ·have hk1:k=keys.length:=by simp at hc;omega
  subst hk1
  rw [List.take_length] at hid
  rw [List.take_length]
  have hfl:=@kf keys keys.length
  rw [List.take_length] at hfl
  have n1:(H.nx+1+1=Hc.nx)=False:=eq_false (by omega)
  have htab:kL keys=(keys.flatMap fun k=>dW k.name k.kind)++[mq]:=rfl
  rw [htab]
  clear htab
  generalize (keys.flatMap fun k=>dW k.name k.kind)=G at *
  have hsn:a9 G++[.agg [.str [112,114,105,111,114,105,116,121],.str []]]=a9 (G++[mq]):=nu (v:=mq)
  simp only [go_sem,hid,n1,bk]
  refine ⟨⟨by omega,by omega,fun z hz=>by rw [List.mem_singleton.1 hz];rfl⟩,?_⟩
  rw [hsn]
  have hle3:=(bj hle (show H.nx≤H.nx+1+1 by omega) (o:=.buf 2 (G.length+1))).push (.buf 2 1)
  exact Z46
end Go.AL
open Go Go.AL Go.Proofs
namespace Go.AL
set_option linter.all false
set_option maxRecDepth 10000
theorem lO {l:List SParam}:(l.map bK).length=l.length:=ybb ..
theorem sW {l:List SParam} {k:Nat} (h:k<l.length):(l.map bK).getD k .junk=.agg [.str l[k].name,.int .i64 l[k].bits]:=by
 simp [List.getD_eq_getElem?_getD,h,bK]
def dx (l:List SParam):List VN:=l.map fun p=>(p.name,[])
def lX:List AV→AHeap→(AV→Prop)→Prop
 |[.agg [_,_,.slice _ 3 x,_,_,_,_,_]],_,K=>∃ keys,(x=keys.map ct∧keys.length≤1000)∧K (.slice .any 2 (a9 (kL keys)))
 |_,_,_=>False
theorem uW:EntOk Tryz.prog 60 (Ent.pure lX):=by
 refine EntOk.pure fun args H K h=>?_
 unfold lX at h
 split at h
 rotate_left
 ·exact h.elim
 rename_i a1 a2 m x a3 a4 a5 a6 a7
 obtain ⟨keys,⟨rfl,hl⟩,hK⟩:=h
 refine ⟨_,hK,?_⟩
 clear hK
 refine ACalls.fW aB TblOk.nil Tryz.func60 [.tmp 2] (Nat.le_refl _) (T:=aA []) (h:=fun hcl hlt=>?_)
 have hx:=AV.lt_mono (Nat.le_succ H.nx) _ (hlt (.agg [a1,a2,.slice m 3 (keys.map ct),a3,a4,a5,a6,a7]) (by simp))
 have hm:∀ n',H.nx≤n'→AV.lt n' (.slice m 3 (keys.map ct)):=fun n' hn=>AV.lt_mono hn _ (by have h1:=hlt (.agg [a1,a2,.slice m 3 (keys.map ct),a3,a4,a5,a6,a7]) (by simp);rw [znn] at h1;exact h1.2.2.1)
 simp only [znn] at hx
 clear hlt
 simp only [go_sem,bC]
 refine ay (A:=Nat × AHeap) (fun a=>[(3,.slice (.own (H.nx+1+1)) 2 (a9 ((keys.take a.1).flatMap fun k=>dW k.name k.kind))),(7,.slice m 3 (keys.map ct)),(8,.int .i64 (keys.length:Int)),(9,.int .i64 (a.1:Int))]) (fun a=>a.2)
  (fun a=>a.1≤keys.length∧H.Le a.2∧a.2.Closed∧a.2.get (H.nx+1+1)=some (.buf 2 ((keys.take a.1).flatMap fun k=>dW k.name k.kind).length)) (fun a=>keys.length - a.1)
  (0,((H.push (.cells [a1,a2,.slice m 3 (keys.map ct),a3,a4,a5,a6,a7])).push (.buf 2 0)).push (.buf 2 0)) ⟨Nat.zero_le _,(((AHeap.Le.refl _).push _).push _).push _,af (af (ae hcl hx)),AHeap.get_push_new _ _⟩ ?_ fun a ha=>?_
 ·have hc0:=af (a:=2) (b:=0) (af (a:=2) (b:=0) (ae hcl hx))
  (simp only [bkq,enterW,aI,ltF,ne_eq,Nat.reduceEqDiff,reduceCtorEq,hc0,hm,aD];try simp (disch:=first|exact Zd|omega) [↓zmk,beq,ybc,ybd,ybe,ag,wk,wk2,wk1,wkM,wkL,au,ybf,byq,biq,ah,hcl,hc0,hm,aD];try (repeat' (first|assumption|omega|exact True.intro|refine And.intro ?_ ?_|refine af ?_|refine aa ?_|refine ae ?_ ?_|refine ai ?_ ?_|refine aj ?_|exact AHeap.Le.refl _|refine AHeap.Le.push ?_ _|refine AHeap.Le.del ?_ ?_|(simp only [bt,and_true,true_and,hc0,hm,aD];first|done|omega|(simp;done)))))
  simp [a9]
 obtain ⟨k,Hc⟩:=a
 obtain ⟨hk,hle,hcc,hid⟩:=ha
 dsimp only at hk hle hcc hid ⊢
 have hnx:=AHeap.get_lt hid
 simp only [go_sem]
 refine aq (fun hc=>?_) (fun hc=>?_)
 ·have hk1:k<keys.length:=by simp at hc;omega
  have e5:IntKind.i64.wrap ((k:Int)+1)=((k+1:Nat):Int):=by rw [wrap_i64]<;>omega
  have hfl:=@kf keys k
  have n1:(Hc.nx=H.nx+1+1)=False:=eq_false (by omega)
  have n2:(H.nx+1+1=Hc.nx)=False:=eq_false (by omega)
  have n3:(H.nx+1+1=Hc.nx+1)=False:=eq_false (by omega)
  obtain ⟨LL,hLL⟩:∃ LL,((keys.take k).flatMap fun k=>dW k.name k.kind)=LL:=⟨_,rfl⟩
  rw [hLL] at hid hfl ⊢
  have hnn:H.nx≤Hc.nx:=by omega
  have hln0:(keys.take (k+1)).flatMap (fun k=>dW k.name k.kind)=LL++dW keys[k].name keys[k].kind:=by rw [l6 hk1,hLL]
  generalize hkd:keys[k].kind=kd at *
  by_cases h1:kd=1
  ·subst h1
   have hln:(keys.take (k+1)).flatMap (fun k=>dW k.name k.kind)=LL++[(keys[k].name,[]),(keys[k].name,[118,97,108,117,101])]:=hln0
   have hsn:a9 LL++[.agg [.str keys[k].name,.str []],.agg [.str keys[k].name,.str [118,97,108,117,101]]]=a9 (LL++[(keys[k].name,[]),(keys[k].name,[118,97,108,117,101])]):=by simp [a9,fo]
   simp only [go_sem,bC,jv hk1,Int.toNat_natCast,hkd,Int.reduceBEq,hid,bk,n1,n2,n3,e5]
   refine ⟨by omega,⟨by omega,by omega,fun z hz=>by simp only [List.mem_cons,List.not_mem_nil,or_false] at hz;(try rcases hz with rfl|rfl)<;>(try subst hz)<;>rfl⟩,(k+1,Hc.set (H.nx+1+1) (.buf 2 (LL.length+2))),⟨by dsimp only;omega,bj hle (by omega),aa hcc,?_⟩,by dsimp only;omega,?_⟩
   ·dsimp only
    rw [az,if_pos rfl,if_pos hnx,hln];simp
   ·have hcs:=@aa Hc (H.nx+1+1) 2 (LL.length+2) hcc
    dsimp only
    rw [hln]
    try rw [hsn]
    exact Z47
  have d1:(kd==1)=false:=beq_eq_false_iff_ne.2 h1
  by_cases h2:kd=2
  ·subst h2
   have hln:(keys.take (k+1)).flatMap (fun k=>dW k.name k.kind)=LL++[(keys[k].name,[118,97,108,117,101]),(keys[k].name,[112,114,101,102,105,120,95,108,101,110,103,116,104])]:=hln0
   have hsn:a9 LL++[.agg [.str keys[k].name,.str [118,97,108,117,101]],.agg [.str keys[k].name,.str [112,114,101,102,105,120,95,108,101,110,103,116,104]]]=a9 (LL++[(keys[k].name,[118,97,108,117,101]),(keys[k].name,[112,114,101,102,105,120,95,108,101,110,103,116,104])]):=by simp [a9,fo]
   simp only [go_sem,bC,jv hk1,Int.toNat_natCast,hkd,Int.reduceBEq,hid,bk,n1,n2,n3,e5]
   refine ⟨by omega,⟨by omega,by omega,fun z hz=>by simp only [List.mem_cons,List.not_mem_nil,or_false] at hz;(try rcases hz with rfl|rfl)<;>(try subst hz)<;>rfl⟩,(k+1,Hc.set (H.nx+1+1) (.buf 2 (LL.length+2))),⟨by dsimp only;omega,bj hle (by omega),aa hcc,?_⟩,by dsimp only;omega,?_⟩
   ·dsimp only
    rw [az,if_pos rfl,if_pos hnx,hln];simp
   ·have hcs:=@aa Hc (H.nx+1+1) 2 (LL.length+2) hcc
    dsimp only
    rw [hln]
    try rw [hsn]
    exact Z47
  have d2:(kd==2)=false:=beq_eq_false_iff_ne.2 h2
  by_cases h3:kd=3
  ·subst h3
   have hln:(keys.take (k+1)).flatMap (fun k=>dW k.name k.kind)=LL++[(keys[k].name,[118,97,108,117,101]),(keys[k].name,[109,97,115,107])]:=hln0
   have hsn:a9 LL++[.agg [.str keys[k].name,.str [118,97,108,117,101]],.agg [.str keys[k].name,.str [109,97,115,107]]]=a9 (LL++[(keys[k].name,[118,97,108,117,101]),(keys[k].name,[109,97,115,107])]):=by simp [a9,fo]
   simp only [go_sem,bC,jv hk1,Int.toNat_natCast,hkd,Int.reduceBEq,hid,bk,n1,n2,n3,e5]
   refine ⟨by omega,⟨by omega,by omega,fun z hz=>by simp only [List.mem_cons,List.not_mem_nil,or_false] at hz;(try rcases hz with rfl|rfl)<;>(try subst hz)<;>rfl⟩,(k+1,Hc.set (H.nx+1+1) (.buf 2 (LL.length+2))),⟨by dsimp only;omega,bj hle (by omega),aa hcc,?_⟩,by dsimp only;omega,?_⟩
   ·dsimp only
    rw [az,if_pos rfl,if_pos hnx,hln];simp
   ·have hcs:=@aa Hc (H.nx+1+1) 2 (LL.length+2) hcc
    dsimp only
    rw [hln]
    try rw [hsn]
    exact Z47
  have d3:(kd==3)=false:=beq_eq_false_iff_ne.2 h3
  by_cases h4:kd=4
  ·subst h4
   have hln:(keys.take (k+1)).flatMap (fun k=>dW k.name k.kind)=LL++[(keys[k].name,[108,111,119]),(keys[k].name,[104,105,103,104])]:=hln0
   have hsn:a9 LL++[.agg [.str keys[k].name,.str [108,111,119]],.agg [.str keys[k].name,.str [104,105,103,104]]]=a9 (LL++[(keys[k].name,[108,111,119]),(keys[k].name,[104,105,103,104])]):=by simp [a9,fo]
   simp only [go_sem,bC,jv hk1,Int.toNat_natCast,hkd,Int.reduceBEq,hid,bk,n1,n2,n3,e5]
   refine ⟨by omega,⟨by omega,by omega,fun z hz=>by simp only [List.mem_cons,List.not_mem_nil,or_false] at hz;(try rcases hz with rfl|rfl)<;>(try subst hz)<;>rfl⟩,(k+1,Hc.set (H.nx+1+1) (.buf 2 (LL.length+2))),⟨by dsimp only;omega,bj hle (by omega),aa hcc,?_⟩,by dsimp only;omega,?_⟩
   ·dsimp only
    rw [az,if_pos rfl,if_pos hnx,hln];simp
   ·have hcs:=@aa Hc (H.nx+1+1) 2 (LL.length+2) hcc
    dsimp only
    rw [hln]
    try rw [hsn]
    exact Z47
  have d4:(kd==4)=false:=beq_eq_false_iff_ne.2 h4
  have hln:(keys.take (k+1)).flatMap (fun k=>dW k.name k.kind)=LL:=by
   rw [hln0]
   unfold dW dd
   rw [if_neg h1,if_neg h2,if_neg h3,if_neg h4];simp
  simp only [go_sem,bC,jv hk1,Int.toNat_natCast,hkd,d1,d2,d3,d4,e5]
  refine ⟨by omega,(k+1,Hc),⟨by dsimp only;omega,hle,hcc,?_⟩,by dsimp only;omega,?_⟩
  ·dsimp only
   rw [hln,hid]
  ·dsimp only
   rw [hln]
   (simp only [bkq,enterW,aI,ltF,ne_eq,Nat.reduceEqDiff,reduceCtorEq,hcc,hm,aD,hnn];try simp (disch:=first|exact Zd|omega) [↓zmk,beq,ybc,ybd,ybe,ag,wk,wk2,wk1,wkM,wkL,au,ybf,byq,biq,ah,hcl,hcc,hm,aD,hnn];try (repeat' (first|assumption|omega|exact True.intro|refine And.intro ?_ ?_|refine af ?_|refine aa ?_|refine ae ?_ ?_|refine ai ?_ ?_|refine aj ?_|exact AHeap.Le.refl _|refine AHeap.Le.push ?_ _|refine AHeap.Le.del ?_ ?_|(simp only [bt,and_true,true_and,hcc,hm,aD,hnn];first|done|omega|(simp;done)))))
 ·have hk1:k=keys.length:=by simp at hc;omega
  subst hk1
  rw [List.take_length] at hid
  rw [List.take_length]
  have hfl:=@kf keys keys.length
  rw [List.take_length] at hfl
  have n1:(H.nx+1+1=Hc.nx)=False:=eq_false (by omega)
  have htab:kL keys=(keys.flatMap fun k=>dW k.name k.kind)++[mq]:=rfl
  rw [htab]
  clear htab
  generalize (keys.flatMap fun k=>dW k.name k.kind)=G at *
  have hsn:a9 G++[.agg [.str [112,114,105,111,114,105,116,121],.str []]]=a9 (G++[mq]):=nu (v:=mq)
  simp only [go_sem,hid,n1,bk]
  refine ⟨⟨by omega,by omega,fun z hz=>by rw [List.mem_singleton.1 hz];rfl⟩,?_⟩
  rw [hsn]
  have hle3:=(bj hle (show H.nx≤H.nx+1+1 by omega) (o:=.buf 2 (G.length+1))).push (.buf 2 1)
  exact Z46
def kV:List AV→AHeap→(AV→Prop)→Prop
 |[.agg [_,_,.slice _ 2 x,_,_]],_,K=>∃ keys,(x=keys.map bK∧keys.length≤1000)∧K (.slice .any 2 (a9 (dx keys)))
 |_,_,_=>False
theorem ne:EntOk Tryz.prog 57 (Ent.pure kV):=by
 refine EntOk.pure fun args H K h=>?_
 unfold kV at h
 split at h
 rotate_left
 ·exact h.elim
 rename_i a1 a2 m x a3 a4
 obtain ⟨keys,⟨rfl,hl⟩,hK⟩:=h
 refine ⟨_,hK,?_⟩
 clear hK
 refine ACalls.fW aB TblOk.nil Tryz.func57 [.tmp 2] (Nat.le_refl _) (T:=aA []) (h:=fun hcl hlt=>?_)
 have hx:=AV.lt_mono (Nat.le_succ H.nx) _ (hlt (.agg [a1,a2,.slice m 2 (keys.map bK),a3,a4]) (by simp))
 have hm:∀ n',H.nx≤n'→AV.lt n' (.slice m 2 (keys.map bK)):=fun n' hn=>AV.lt_mono hn _ (by have h1:=hlt (.agg [a1,a2,.slice m 2 (keys.map bK),a3,a4]) (by simp);rw [znn] at h1;exact h1.2.2.1)
 simp only [znn] at hx
 clear hlt
 simp only [go_sem,lO]
 refine ay (A:=Nat × AHeap) (fun a=>[(3,.slice (.own (H.nx+1+1)) 2 (a9 (dx (keys.take a.1)))),(7,.slice m 2 (keys.map bK)),(8,.int .i64 (keys.length:Int)),(9,.int .i64 (a.1:Int))]) (fun a=>a.2)
  (fun a=>a.1≤keys.length∧H.Le a.2∧a.2.Closed∧a.2.get (H.nx+1+1)=some (.buf 2 (dx (keys.take a.1)).length)) (fun a=>keys.length - a.1)
  (0,((H.push (.cells [a1,a2,.slice m 2 (keys.map bK),a3,a4])).push (.buf 2 0)).push (.buf 2 0)) ⟨Nat.zero_le _,(((AHeap.Le.refl _).push _).push _).push _,af (af (ae hcl hx)),AHeap.get_push_new _ _⟩ ?_ fun a ha=>?_
 ·have hc0:=af (a:=2) (b:=0) (af (a:=2) (b:=0) (ae hcl hx))
  (simp only [bkq,enterW,aI,ltF,ne_eq,Nat.reduceEqDiff,reduceCtorEq,hc0,hm,aD];try simp (disch:=first|exact Zd|omega) [↓zmk,beq,ybc,ybd,ybe,ag,wk,wk2,wk1,wkM,wkL,au,ybf,byq,biq,ah,hcl,hc0,hm,aD];try (repeat' (first|assumption|omega|exact True.intro|refine And.intro ?_ ?_|refine af ?_|refine aa ?_|refine ae ?_ ?_|refine ai ?_ ?_|refine aj ?_|exact AHeap.Le.refl _|refine AHeap.Le.push ?_ _|refine AHeap.Le.del ?_ ?_|(simp only [bt,and_true,true_and,hc0,hm,aD];first|done|omega|(simp;done)))))
  simp [a9,dx]
 obtain ⟨k,Hc⟩:=a
 obtain ⟨hk,hle,hcc,hid⟩:=ha
 dsimp only at hk hle hcc hid ⊢
 have hnx:=AHeap.get_lt hid
 simp only [go_sem]
 refine aq (fun hc=>?_) (fun hc=>?_)
 ·have hk1:k<keys.length:=by simp at hc;omega
  have e5:IntKind.i64.wrap ((k:Int)+1)=((k+1:Nat):Int):=by rw [wrap_i64]<;>omega
  have hfl:(dx (keys.take k)).length≤2*k:=by simp only [dx,ybb,List.length_take];omega
  have n1:(Hc.nx=H.nx+1+1)=False:=eq_false (by omega)
  have n2:(H.nx+1+1=Hc.nx)=False:=eq_false (by omega)
  have n3:(H.nx+1+1=Hc.nx+1)=False:=eq_false (by omega)
  obtain ⟨LL,hLL⟩:∃ LL,(dx (keys.take k))=LL:=⟨_,rfl⟩
  rw [hLL] at hid hfl ⊢
  have hnn:H.nx≤Hc.nx:=by omega
  have hln:dx (keys.take (k+1))=LL++[(keys[k].name,[])]:=by rw [← hLL,← List.take_append_getElem hk1];simp only [dx,List.map_append,yae,yaf]
  have hsn:a9 LL++[.agg [.str keys[k].name,.str []]]=a9 (LL++[(keys[k].name,[])]):=by simp [a9,fo]
  simp only [go_sem,lO,sW hk1,Int.toNat_natCast,hid,bk,n1,n2,n3,e5]
  refine ⟨by omega,⟨by omega,by omega,fun z hz=>by simp only [List.mem_cons,List.not_mem_nil,or_false] at hz;(try rcases hz with rfl|rfl)<;>(try subst hz)<;>rfl⟩,(k+1,Hc.set (H.nx+1+1) (.buf 2 (LL.length+1))),⟨by dsimp only;omega,bj hle (by omega),aa hcc,?_⟩,by dsimp only;omega,?_⟩
  ·dsimp only
   rw [az,if_pos rfl,if_pos hnx,hln];simp
  ·have hcs:=@aa Hc (H.nx+1+1) 2 (LL.length+1) hcc
   dsimp only
   rw [hln]
   try rw [hsn]
   exact Z47
 ·have hk1:k=keys.length:=by simp at hc;omega
  subst hk1
  rw [List.take_length] at hid
  rw [List.take_length]
  simp only [go_sem]
  exact Z48
def kY:List AV→AHeap→(AV→Prop)→Prop
 |[.agg [_,_,.slice _ 2 x,_,_]],_,K=>∃ keys,(x=keys.map bK∧keys.length≤1000)∧K (.slice .any 2 (a9 (dx keys)))
 |_,_,_=>False
theorem sQ:EntOk Tryz.prog 62 (Ent.pure kY):=by
 refine EntOk.pure fun args H K h=>?_
 unfold kY at h
 split at h
 rotate_left
 ·exact h.elim
 rename_i a1 a2 m x a3 a4
 obtain ⟨keys,⟨rfl,hl⟩,hK⟩:=h
 refine ⟨_,hK,?_⟩
 clear hK
 refine ACalls.fW aB TblOk.nil Tryz.func62 [.tmp 2] (Nat.le_refl _) (T:=aA []) (h:=fun hcl hlt=>?_)
 have hx:=AV.lt_mono (Nat.le_succ H.nx) _ (hlt (.agg [a1,a2,.slice m 2 (keys.map bK),a3,a4]) (by simp))
 have hm:∀ n',H.nx≤n'→AV.lt n' (.slice m 2 (keys.map bK)):=fun n' hn=>AV.lt_mono hn _ (by have h1:=hlt (.agg [a1,a2,.slice m 2 (keys.map bK),a3,a4]) (by simp);rw [znn] at h1;exact h1.2.2.1)
 simp only [znn] at hx
 clear hlt
 simp only [go_sem,lO]
 refine ay (A:=Nat × AHeap) (fun a=>[(3,.slice (.own (H.nx+1+1)) 2 (a9 (dx (keys.take a.1)))),(7,.slice m 2 (keys.map bK)),(8,.int .i64 (keys.length:Int)),(9,.int .i64 (a.1:Int))]) (fun a=>a.2)
  (fun a=>a.1≤keys.length∧H.Le a.2∧a.2.Closed∧a.2.get (H.nx+1+1)=some (.buf 2 (dx (keys.take a.1)).length)) (fun a=>keys.length - a.1)
  (0,((H.push (.cells [a1,a2,.slice m 2 (keys.map bK),a3,a4])).push (.buf 2 0)).push (.buf 2 0)) ⟨Nat.zero_le _,(((AHeap.Le.refl _).push _).push _).push _,af (af (ae hcl hx)),AHeap.get_push_new _ _⟩ ?_ fun a ha=>?_
 ·have hc0:=af (a:=2) (b:=0) (af (a:=2) (b:=0) (ae hcl hx))
  (simp only [bkq,enterW,aI,ltF,ne_eq,Nat.reduceEqDiff,reduceCtorEq,hc0,hm,aD];try simp (disch:=first|exact Zd|omega) [↓zmk,beq,ybc,ybd,ybe,ag,wk,wk2,wk1,wkM,wkL,au,ybf,byq,biq,ah,hcl,hc0,hm,aD];try (repeat' (first|assumption|omega|exact True.intro|refine And.intro ?_ ?_|refine af ?_|refine aa ?_|refine ae ?_ ?_|refine ai ?_ ?_|refine aj ?_|exact AHeap.Le.refl _|refine AHeap.Le.push ?_ _|refine AHeap.Le.del ?_ ?_|(simp only [bt,and_true,true_and,hc0,hm,aD];first|done|omega|(simp;done)))))
  simp [a9,dx]
 obtain ⟨k,Hc⟩:=a
 obtain ⟨hk,hle,hcc,hid⟩:=ha
 dsimp only at hk hle hcc hid ⊢
 have hnx:=AHeap.get_lt hid
 simp only [go_sem]
 refine aq (fun hc=>?_) (fun hc=>?_)
 ·have hk1:k<keys.length:=by simp at hc;omega
  have e5:IntKind.i64.wrap ((k:Int)+1)=((k+1:Nat):Int):=by rw [wrap_i64]<;>omega
  have hfl:(dx (keys.take k)).length≤2*k:=by simp only [dx,ybb,List.length_take];omega
  have n1:(Hc.nx=H.nx+1+1)=False:=eq_false (by omega)
  have n2:(H.nx+1+1=Hc.nx)=False:=eq_false (by omega)
  have n3:(H.nx+1+1=Hc.nx+1)=False:=eq_false (by omega)
  obtain ⟨LL,hLL⟩:∃ LL,(dx (keys.take k))=LL:=⟨_,rfl⟩
  rw [hLL] at hid hfl ⊢
  have hnn:H.nx≤Hc.nx:=by omega
  have hln:dx (keys.take (k+1))=LL++[(keys[k].name,[])]:=by rw [← hLL,← List.take_append_getElem hk1];simp only [dx,List.map_append,yae,yaf]
  have hsn:a9 LL++[.agg [.str keys[k].name,.str []]]=a9 (LL++[(keys[k].name,[])]):=by simp [a9,fo]
  simp only [go_sem,lO,sW hk1,Int.toNat_natCast,hid,bk,n1,n2,n3,e5]
  refine ⟨by omega,⟨by omega,by omega,fun z hz=>by simp only [List.mem_cons,List.not_mem_nil,or_false] at hz;(try rcases hz with rfl|rfl)<;>(try subst hz)<;>rfl⟩,(k+1,Hc.set (H.nx+1+1) (.buf 2 (LL.length+1))),⟨by dsimp only;omega,bj hle (by omega),aa hcc,?_⟩,by dsimp only;omega,?_⟩
  ·dsimp only
   rw [az,if_pos rfl,if_pos hnx,hln];simp
  ·have hcs:=@aa Hc (H.nx+1+1) 2 (LL.length+1) hcc
   dsimp only
   rw [hln]
   try rw [hsn]
   exact Z47
 ·have hk1:k=keys.length:=by simp at hc;omega
  subst hk1
  rw [List.take_length] at hid
  rw [List.take_length]
  simp only [go_sem]
  exact Z48
end Go.AL
open Go Go.AL Go.Proofs
namespace Go.AL
set_option linter.all false
set_option maxRecDepth 10000
theorem Ir {kn:VN→Bool} {s:List UInt8} {l:List Tok} {f:Nat} {r:PR} {a b:Nat} (hs:s≠[]) (h1:bZ s=(l,a,b)) (h2:run l f .imp 0 []=some r):comp kn s=v6 kn b (ef l r):=by
 unfold comp
 rw [if_neg hs,h1]
 dsimp only
 rw [Kf h2]
end Go.AL
