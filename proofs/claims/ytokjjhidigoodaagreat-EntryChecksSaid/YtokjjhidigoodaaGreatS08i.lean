/- Lemmas of the proof; no condition. -/
import Derived.Test.YtokjjhidigoodaaGreatS08e
import Derived.Test.YtokjjhidigoodaaGreatS07w
import Derived.Test.YtokjjhidigoodaaGreatS10e
set_option linter.all false
set_option maxRecDepth 10000
set_option maxHeartbeats 32000000
open List renaming length_cons → yaz, length_nil → yba, take_of_length_le → ybc, drop_append → ybd, take_append → ybe, drop_eq_nil_of_le → ybf, length_map → ybb, map_cons → yae, map_nil → yaf
open Go Go.AL Go.Proofs
namespace Go.AL
theorem GK {P:Program} {f:FuncId} {args:List AV} {H:AHeap} {X:AV} (h:ACallsP P f args H (fun x H1=>x=X∧H1=H)):ACalls P f args H (.ret X) H:=by
 intro w γ vs hs hr
 have h:=h w γ vs hs hr
 generalize (callFunc f vs).run P w=rr at h ⊢
 unfold mR at h ⊢
 split at h
 ·exact h.mono fun en w' ⟨γ',x,H1,⟨hx,hH⟩,g1,g2,g3⟩=>by subst hx;subst hH;exact ⟨γ',g1,g2,g3⟩
 ·obtain ⟨γ',x,H1,⟨hx,hH⟩,g1,g2,g3⟩:=h
  subst hx;subst hH
  exact ⟨γ',g1,g2,g3⟩
 ·exact h
def wz:List AV→AHeap→(AV→Prop)→Prop
 |[.slice _ 3 x],_,K=>∃ l f r,(x=dr l∧run l f .imp 0 []=some r∧l.length≤1000∧qd l)∧K (jy l r)
 |_,_,_=>False
theorem Hs:EntOk Tryz.prog 292 (Ent.pure wz):=by
 refine Ype fun _ H K h=>?_
 unfold wz at h
 split at h
 rotate_left
 ·exact h.elim
 rename_i m x
 obtain ⟨l,f,r,⟨rfl,hr,hl,hg⟩,hK⟩:=h
 refine ⟨_,hK,GK ?_⟩
 have h0:EntOk Tryz.prog 292 (Ent.some (vV True 0)):=Bs Md
 exact h0.2.2 _ rfl [.slice m 3 (dr l)] H _ ⟨l,f,r,⟨rfl,hr,hl,hg,fun _ _=>trivial⟩,rfl,rfl⟩
def qC:List AV→AHeap→(AV→Prop)→Prop
 |[.str s,.slice _ 2 y],_,K=>∃ vs,(y=bz vs∧Cx vs∧s.length≤140737488355328)∧K (gJ (comp (bV vs) s))
 |_,_,_=>False
theorem Cn:EntOk Tryz.prog 134 (Ent.pure qC):=by
 refine Ype fun _ H K h=>?_
 unfold qC at h
 split at h
 rotate_left
 ·exact h.elim
 rename_i s m2 y
 obtain ⟨vs,⟨rfl,hov,hsl⟩,hK⟩:=h
 refine ⟨_,hK,?_⟩
 clear hK
 refine Yfv ax (tCq J6 (tCq Hs (tCq F1 tNq))) Tryz.func134 [.tmp 4,.tmp 5] fun hcl hlt=>?_
 have hm2:∀ n',H.nx≤n'→AV.lt n' (.slice m2 2 (bz vs)):=fun n' hn=>AV.lt_mono hn _ (hlt (.slice m2 2 (bz vs)) (by simp))
 clear hlt
 unfold comp
 by_cases hs:s=[]
 ·subst hs
  have d1:(([]:List UInt8)==[])=true:=rfl
  rw [if_pos rfl]
  simp only [go_sem,d1]
  exact Z44
 ·have d1:(s==[])=false:=by simp [hs]
  rw [if_neg hs]
  obtain ⟨hg1,hg2⟩:=sN s
  obtain ⟨f,hf⟩:=uY (ct s).1
  generalize prs (ct s).1=r at *
  obtain ⟨i,hpi⟩:=EH (ct s).1 r
  obtain ⟨hpg,hpl,_⟩:=oN hf
  have hps:=rK hg2 hf
  generalize fb (ct s).1 r=te at *
  obtain ⟨t,e⟩:=te
  dsimp only at hpi hpg hpl hps
  have hot:okT t:=⟨hpg,hps,by omega⟩
  obtain ⟨hc1,hc2⟩:=@Kt (bV vs) t
  unfold Bw
  by_cases he0:(ct s).2.2=0
  ·have d2:((((ct s).2.2:Nat):Int) != 0)=false:=by rw [he0];rfl
   rw [if_neg (fun h=>h he0)]
   simp only [go_sem,d1,uZ,pk,hsl,d2,wz]
   refine ⟨(ct s).1,f,r,⟨rfl,hf,by omega,hg2⟩,?_⟩
   simp only [go_sem,hpi]
   by_cases he:e=0
   ·subst he
    have d3:(((0:Nat):Int) != 0)=false:=rfl
    rw [if_neg (fun h=>h rfl)]
    simp only [go_sem,d3,wS]
    exact Y57
   ·exact Y141
  ·have d2:((((ct s).2.2:Nat):Int) != 0)=true:=bne_iff_ne.2 (by omega)
   rw [if_pos he0]
   simp only [go_sem,d1,uZ,pk,hsl,d2]
   exact Z46
theorem MG:ti Tryz.prog 64=some ⟨.struct [(0,9,false),(1,3,false),(2,3,false)],3,32,.agg [.str [],.int .i64 0,.int .i64 0]⟩:=by kernel_rfl
theorem H8:ti Tryz.prog 65=some ⟨.slice 64,1,24,.slice .nil 1 []⟩:=by kernel_rfl
theorem Gd:ti Tryz.prog 67=some ⟨.struct [(0,3,false),(1,9,false),(2,65,false),(3,56,false),(4,3,false),(5,24,false),(6,3,false),(7,9,false)],8,128,.agg [.int .i64 0,.str [],.slice .nil 1 [],.slice .nil 1 [],.int .i64 0,.slice .nil 1 [],.int .i64 0,.str []]⟩:=by kernel_rfl
theorem GR:ti Tryz.prog 118=some ⟨.struct [(0,9,false),(1,3,false)],2,24,.agg [.str [],.int .i64 0]⟩:=by kernel_rfl
theorem DC:ti Tryz.prog 100=some ⟨.slice 118,1,24,.slice .nil 1 []⟩:=by kernel_rfl
theorem DO:ti Tryz.prog 103=some ⟨.struct [(0,3,false),(1,9,false),(2,100,false),(3,101,false),(4,9,false)],5,88,.agg [.int .i64 0,.str [],.slice .nil 1 [],.slice .nil 1 [],.str []]⟩:=by kernel_rfl
theorem H5:ti Tryz.prog 173=some ⟨.slice 9,1,24,.slice .nil 1 []⟩:=by kernel_rfl
attribute [go_sem] MG H8 Gd GR DC DO H5
def Ac:List AV→AHeap→(AV→Prop)→Prop
 |[.int .i64 k],_,K=>K (.slice .any 1 (sAV (dK k)))
 |_,_,_=>False
theorem HY:EntOk Tryz.prog 126 (Ent.pure Ac):=by
 refine Ype fun _ H K h=>?_
 unfold Ac at h
 split at h
 rotate_left
 ·exact h.elim
 rename_i k
 refine ⟨_,h,?_⟩
 clear h
 unfold dK
 by_cases h1:k=1
 ·subst h1
  exact Y48
 rw [if_neg h1]
 have d1:(k==1)=false:=beq_eq_false_iff_ne.2 h1
 by_cases h2:k=2
 ·subst h2
  exact Y48
 rw [if_neg h2]
 have d2:(k==2)=false:=beq_eq_false_iff_ne.2 h2
 by_cases h3:k=3
 ·subst h3
  exact Y48
 rw [if_neg h3]
 have d3:(k==3)=false:=beq_eq_false_iff_ne.2 h3
 by_cases h4:k=4
 ·subst h4
  exact Y48
 rw [if_neg h4]
 have d4:(k==4)=false:=beq_eq_false_iff_ne.2 h4
 refine Yfv ax tNq Tryz.func126 [.tmp 2] fun hcl hlt=>?_
 clear hlt
 simp only [go_sem,d1,d2,d3,d4]
 simp (disch:=first|exact Zd|omega) [↓zmk,beq,ybc,ybd,ybe,af,wk,wk2,wk1,wkM,wkL,aj,ybf,hcl,sAV]
theorem bR {l:List SKey}:(l.map bL).length=l.length:=ybb ..
theorem j8 {l:List SKey} {k:Nat} (h:k<l.length):(l.map bL).getD k .junk=.agg [.str l[k].name,.int .i64 l[k].field,.int .i64 l[k].kind]:=by
 simp [gEq,h,bL]
def mK (l:List SKey):List VN:=(l.flatMap fun k=>eO k.name k.kind)++[nW]
def ny:List AV→AHeap→(AV→Prop)→Prop
 |[.agg [_,_,.slice _ 3 x,_,_,_,_,_]],_,K=>∃ keys,(x=keys.map bL∧keys.length≤1000)∧K (.slice .any 2 (bz (mK keys)))
 |_,_,_=>False
theorem nG {α β:Type} {f:α→List β} {l:List α} {k:Nat} (h:k<l.length):(l.take (k+1)).flatMap f=(l.take k).flatMap f++f l[k]:=by
 rw [← List.take_append_getElem h,List.flatMap_append];simp
theorem tN {n:List UInt8} {k:Int}:(eO n k).length≤2:=by
 unfold eO dK
 rw [ybb]
 split
 ·simp
 ·split
  ·simp
  ·split
   ·simp
   ·split<;>simp
theorem lv {l:List SKey}:∀ {k:Nat},((l.take k).flatMap fun k=>eO k.name k.kind).length≤2*k
 |0=>by simp
 |k+1=>by
  rcases Nat.lt_or_ge k l.length with h|h
  ·rw [nG h,lAq]
   have:=lv (l:=l) (k:=k)
   have:=@tN l[k].name l[k].kind
   omega
  ·rw [ybc (by omega:l.length≤k+1),← ybc h]
   have:=lv (l:=l) (k:=k)
   omega
theorem p9:EntOk Tryz.prog 54 (Ent.pure ny):=by
 refine Ype fun _ H K h=>?_
 unfold ny at h
 split at h
 rotate_left
 ·exact h.elim
 rename_i a1 a2 m x a3 a4 a5 a6 a7
 obtain ⟨keys,⟨rfl,hl⟩,hK⟩:=h
 refine ⟨_,hK,?_⟩
 clear hK
 refine Yfv ax (tCq HY tNq) Tryz.func54 [.tmp 2] fun hcl hlt=>?_
 have hx:=AV.lt_mono (Nat.le_succ H.nx) _ (hlt (.agg [a1,a2,.slice m 3 (keys.map bL),a3,a4,a5,a6,a7]) (by simp))
 have hm:∀ n',H.nx≤n'→AV.lt n' (.slice m 3 (keys.map bL)):=fun n' hn=>AV.lt_mono hn _ (by have h1:=hlt (.agg [a1,a2,.slice m 3 (keys.map bL),a3,a4,a5,a6,a7]) (by simp);rw [znn] at h1;exact h1.2.2.1)
 simp only [znn] at hx
 clear hlt
 simp only [go_sem,bR]
 refine az (A:=Nat × AHeap) (fun a=>[(3,.slice (.own (H.nx+1+1)) 2 (bz ((keys.take a.1).flatMap fun k=>eO k.name k.kind))),(9,.slice m 3 (keys.map bL)),(10,.int .i64 (keys.length:Int)),(11,.int .i64 (a.1:Int))]) (fun a=>a.2)
  (fun a=>a.1≤keys.length∧H.Le a.2∧a.2.Closed∧a.2.get (H.nx+1+1)=some (.buf 2 ((keys.take a.1).flatMap fun k=>eO k.name k.kind).length)) (fun a=>keys.length - a.1)
  (0,((H.push (.cells [a1,a2,.slice m 3 (keys.map bL),a3,a4,a5,a6,a7])).push (.buf 2 0)).push (.buf 2 0)) ⟨Nat.zero_le _,(((lRq _).push _).push _).push _,ag (ag (ae hcl hx)),AHeap.get_push_new _ _⟩ ?_ fun a ha=>?_
 ·exact Y31
 obtain ⟨k,Hc⟩:=a
 obtain ⟨hk,hle,hcc,hid⟩:=ha
 dsimp only at hk hle hcc hid ⊢
 have hnx:=glq hid
 simp only [go_sem]
 refine au (fun hc=>?_) (fun hc=>?_)
 ·have hk1:k<keys.length:=by simp at hc;omega
  have e5:=Yk5 k
  have hfl:=@lv keys k
  have hkl:=@tN keys[k].name keys[k].kind
  have hkv:eO keys[k].name keys[k].kind=(dK keys[k].kind).map fun a=>(keys[k].name,a):=rfl
  simp only [go_sem,bR,j8 hk1,iNq,Ac]
  generalize dK keys[k].kind=at0 at *
  have hk0:eO keys[k].name keys[k].kind=at0.map fun a=>(keys[k].name,a):=hkv
  have hal:at0.length≤2:=by rw [hk0,ybb] at hkl;exact hkl
  refine ⟨by omega,?_⟩
  simp only [go_sem,jP]
  refine az (A:=Nat × AHeap) (fun a=>[(3,.slice (.own (H.nx+1+1)) 2 (bz (((keys.take k).flatMap fun k=>eO k.name k.kind)++(at0.take a.1).map fun x=>(keys[k].name,x)))),(5,.ptr Hc.nx 0),(9,.slice m 3 (keys.map bL)),(10,.int .i64 (keys.length:Int)),(11,.int .i64 (k:Int)),(17,.slice .any 1 (sAV at0)),(18,.int .i64 (at0.length:Int)),(19,.int .i64 (a.1:Int))]) (fun a=>a.2)
   (fun a=>a.1≤at0.length∧H.Le a.2∧a.2.Closed∧a.2.get (H.nx+1+1)=some (.buf 2 (((keys.take k).flatMap fun k=>eO k.name k.kind)++(at0.take a.1).map fun x=>(keys[k].name,x)).length)∧a.2.get Hc.nx=some (.cells [.str keys[k].name,.int .i64 keys[k].field,.int .i64 keys[k].kind])) (fun a=>at0.length - a.1)
   (0,Hc.push (.cells [.str keys[k].name,.int .i64 keys[k].field,.int .i64 keys[k].kind])) ⟨Nat.zero_le _,hle.push _,ae hcc (by simp [znq,znr,znd,znb]),?_,AHeap.get_push_new _ _⟩ ?_ fun a ha=>?_
  ·dsimp only
   rw [gPq _ _ hnx,hid];simp
  ·have hc0:=ae (cs:=[.str keys[k].name,.int .i64 keys[k].field,.int .i64 keys[k].kind]) hcc (by simp [znq,znr,znd,znb])
   have hnn:H.nx≤Hc.nx:=by omega
   (simp only [bkq,enterW,aK,ltF,ne_eq,Nat.reduceEqDiff,reduceCtorEq,hc0,hm,aH,cY,hnn];try simp (disch:=first|exact Zd|omega) [↓zmk,beq,ybc,ybd,ybe,af,wk,wk2,wk1,wkM,wkL,aj,ybf,byq,biq,ah,hcl,hc0,hm,aH,cY,hnn];try (repeat' (first|assumption|omega|exact True.intro|refine And.intro ?_ ?_|refine ag ?_|refine aa ?_|refine ae ?_ ?_|refine ai ?_ ?_|refine aq ?_|exact lRq _|refine lPq ?_ _|refine AHeap.Le.del ?_ ?_|(simp only [bt,and_true,true_and,hc0,hm,aH,cY,hnn];first|done|omega|(simp;done)))))
  obtain ⟨j,Hd⟩:=a
  obtain ⟨hj,hle2,hcd,hid2,hky⟩:=ha
  dsimp only at hj hle2 hcd hid2 hky ⊢
  have hnx2:=glq hid2
  have hnx3:=glq hky
  simp only [go_sem]
  refine au (fun hc=>?_) (fun hc=>?_)
  ·have hj1:j<at0.length:=by simp at hc;omega
   have e6:IntKind.i64.wrap ((j:Int)+1)=((j+1:Nat):Int):=by rw [wrap_i64]<;>omega
   have hsg:(sAV at0).getD j .junk=.str at0[j]:=by rw [zn hj1];simp [gEq,hj1]
   have htk:(at0.take (j+1)).map (fun x=>(keys[k].name,x))=(at0.take j).map (fun x=>(keys[k].name,x))++[(keys[k].name,at0[j])]:=by rw [← List.take_append_getElem hj1,List.map_append];rfl
   have n1:(Hc.nx=Hd.nx)=False:=eq_false (by omega)
   have n2:(H.nx+1+1=Hd.nx)=False:=eq_false (by omega)
   simp only [go_sem,jP,hsg,iNq,hky,ay hky,hid2,bH,n1,n2,e6]
   obtain ⟨LL,hLL⟩:∃ LL,(((keys.take k).flatMap fun k=>eO k.name k.kind)++(at0.take j).map fun x=>(keys[k].name,x))=LL:=⟨_,rfl⟩
   have hll:LL.length≤2*k+2:=by rw [← hLL,lAq,ybb,List.length_take];omega
   have hln:((keys.take k).flatMap fun k=>eO k.name k.kind)++(at0.take (j+1)).map (fun x=>(keys[k].name,x))=LL++[(keys[k].name,at0[j])]:=by rw [htk,← List.append_assoc,hLL]
   have hsn:bz LL++[.agg [.str keys[k].name,.str at0[j]]]=bz (LL++[(keys[k].name,at0[j])]):=ol (v:=(keys[k].name,at0[j]))
   rw [hLL]
   refine ⟨by omega,⟨by omega,by omega,fun z hz=>by rw [List.mem_singleton.1 hz];rfl⟩,(j+1,Hd.set (H.nx+1+1) (.buf 2 (LL.length+1))),⟨by dsimp only;omega,bF hle2 (by omega),aa hcd,?_,?_⟩,by dsimp only;omega,?_⟩
   ·dsimp only
    rw [aB,if_pos rfl,if_pos hnx2,hln];simp
   ·dsimp only
    rw [aB,if_neg (by omega),hky]
   ·have hnn:H.nx≤Hd.nx:=by omega
    have hcs:=@aa Hd (H.nx+1+1) 2 (LL.length+1) hcd
    dsimp only
    rw [hln,hsn]
    (simp only [bkq,enterW,aK,ltF,ne_eq,Nat.reduceEqDiff,reduceCtorEq,hcs,hm,aH,cY,hnn];try simp (disch:=first|exact Zd|omega) [↓zmk,beq,ybc,ybd,ybe,af,wk,wk2,wk1,wkM,wkL,aj,ybf,byq,biq,ah,hcl,hcs,hm,aH,cY,hnn];try (repeat' (first|assumption|omega|exact True.intro|refine And.intro ?_ ?_|refine ag ?_|refine aa ?_|refine ae ?_ ?_|refine ai ?_ ?_|refine aq ?_|exact lRq _|refine lPq ?_ _|refine AHeap.Le.del ?_ ?_|(simp only [bt,and_true,true_and,hcs,hm,aH,cY,hnn];first|done|omega|(simp;done)))))
  ·have hj1:j=at0.length:=by simp at hc;omega
   subst hj1
   rw [List.take_length,← hk0,← nG hk1] at hid2
   rw [List.take_length,← hk0,← nG (f:=fun k:SKey=>eO k.name k.kind) hk1]
   simp only [go_sem,e5]
   refine ⟨(k+1,Hd),⟨by dsimp only;omega,hle2,hcd,hid2⟩,by dsimp only;omega,?_⟩
   have hnn:H.nx≤Hd.nx:=by omega
   (simp only [bkq,enterW,aK,ltF,ne_eq,Nat.reduceEqDiff,reduceCtorEq,hcd,hm,aH,hnn];try simp (disch:=first|exact Zd|omega) [↓zmk,beq,ybc,ybd,ybe,af,wk,wk2,wk1,wkM,wkL,aj,ybf,byq,biq,ah,hcl,hcd,hm,aH,hnn];try (repeat' (first|assumption|omega|exact True.intro|refine And.intro ?_ ?_|refine ag ?_|refine aa ?_|refine ae ?_ ?_|refine ai ?_ ?_|refine aq ?_|exact lRq _|refine lPq ?_ _|refine AHeap.Le.del ?_ ?_|(simp only [bt,and_true,true_and,hcd,hm,aH,hnn];first|done|omega|(simp;done)))))
 ·exact Y26
theorem nF {l:List SParam}:(l.map bS).length=l.length:=ybb ..
theorem wv {l:List SParam} {k:Nat} (h:k<l.length):(l.map bS).getD k .junk=.agg [.str l[k].name,.int .i64 l[k].bits]:=by
 simp [gEq,h,bS]
def eC (l:List SParam):List VN:=l.map fun p=>(p.name,[])
def nH:List AV→AHeap→(AV→Prop)→Prop
 |[.agg [_,_,.slice _ 3 x,_,_,_,_,_]],_,K=>∃ keys,(x=keys.map bL∧keys.length≤1000)∧K (.slice .any 2 (bz (mK keys)))
 |_,_,_=>False
theorem xn:EntOk Tryz.prog 60 (Ent.pure nH):=by
 refine Ype fun _ H K h=>?_
 unfold nH at h
 split at h
 rotate_left
 ·exact h.elim
 rename_i a1 a2 m x a3 a4 a5 a6 a7
 obtain ⟨keys,⟨rfl,hl⟩,hK⟩:=h
 refine ⟨_,hK,?_⟩
 clear hK
 refine Yfv ax tNq Tryz.func60 [.tmp 2] fun hcl hlt=>?_
 have hx:=AV.lt_mono (Nat.le_succ H.nx) _ (hlt (.agg [a1,a2,.slice m 3 (keys.map bL),a3,a4,a5,a6,a7]) (by simp))
 have hm:∀ n',H.nx≤n'→AV.lt n' (.slice m 3 (keys.map bL)):=fun n' hn=>AV.lt_mono hn _ (by have h1:=hlt (.agg [a1,a2,.slice m 3 (keys.map bL),a3,a4,a5,a6,a7]) (by simp);rw [znn] at h1;exact h1.2.2.1)
 simp only [znn] at hx
 clear hlt
 simp only [go_sem,bR]
 refine az (A:=Nat × AHeap) (fun a=>[(3,.slice (.own (H.nx+1+1)) 2 (bz ((keys.take a.1).flatMap fun k=>eO k.name k.kind))),(7,.slice m 3 (keys.map bL)),(8,.int .i64 (keys.length:Int)),(9,.int .i64 (a.1:Int))]) (fun a=>a.2)
  (fun a=>a.1≤keys.length∧H.Le a.2∧a.2.Closed∧a.2.get (H.nx+1+1)=some (.buf 2 ((keys.take a.1).flatMap fun k=>eO k.name k.kind).length)) (fun a=>keys.length - a.1)
  (0,((H.push (.cells [a1,a2,.slice m 3 (keys.map bL),a3,a4,a5,a6,a7])).push (.buf 2 0)).push (.buf 2 0)) ⟨Nat.zero_le _,(((lRq _).push _).push _).push _,ag (ag (ae hcl hx)),AHeap.get_push_new _ _⟩ ?_ fun a ha=>?_
 ·exact Y31
 obtain ⟨k,Hc⟩:=a
 obtain ⟨hk,hle,hcc,hid⟩:=ha
 dsimp only at hk hle hcc hid ⊢
 have hnx:=glq hid
 simp only [go_sem]
 refine au (fun hc=>?_) (fun hc=>?_)
 ·have hk1:k<keys.length:=by simp at hc;omega
  have e5:=Yk5 k
  have hfl:=@lv keys k
  have n1:(Hc.nx=H.nx+1+1)=False:=eq_false (by omega)
  have n2:(H.nx+1+1=Hc.nx)=False:=eq_false (by omega)
  have n3:(H.nx+1+1=Hc.nx+1)=False:=eq_false (by omega)
  obtain ⟨LL,hLL⟩:∃ LL,((keys.take k).flatMap fun k=>eO k.name k.kind)=LL:=⟨_,rfl⟩
  rw [hLL] at hid hfl ⊢
  have hnn:H.nx≤Hc.nx:=by omega
  have hln0:(keys.take (k+1)).flatMap (fun k=>eO k.name k.kind)=LL++eO keys[k].name keys[k].kind:=by rw [nG hk1,hLL]
  generalize hkd:keys[k].kind=kd at *
  by_cases h1:kd=1
  ·subst h1
   have hln:(keys.take (k+1)).flatMap (fun k=>eO k.name k.kind)=LL++[(keys[k].name,[]),(keys[k].name,[118,97,108,117,101])]:=hln0
   have hsn:bz LL++[.agg [.str keys[k].name,.str []],.agg [.str keys[k].name,.str [118,97,108,117,101]]]=bz (LL++[(keys[k].name,[]),(keys[k].name,[118,97,108,117,101])]):=by simp [bz,gg]
   exact Y9
  have d1:(kd==1)=false:=beq_eq_false_iff_ne.2 h1
  by_cases h2:kd=2
  ·subst h2
   have hln:(keys.take (k+1)).flatMap (fun k=>eO k.name k.kind)=LL++[(keys[k].name,[118,97,108,117,101]),(keys[k].name,[112,114,101,102,105,120,95,108,101,110,103,116,104])]:=hln0
   have hsn:bz LL++[.agg [.str keys[k].name,.str [118,97,108,117,101]],.agg [.str keys[k].name,.str [112,114,101,102,105,120,95,108,101,110,103,116,104]]]=bz (LL++[(keys[k].name,[118,97,108,117,101]),(keys[k].name,[112,114,101,102,105,120,95,108,101,110,103,116,104])]):=by simp [bz,gg]
   exact Y9
  have d2:(kd==2)=false:=beq_eq_false_iff_ne.2 h2
  by_cases h3:kd=3
  ·subst h3
   have hln:(keys.take (k+1)).flatMap (fun k=>eO k.name k.kind)=LL++[(keys[k].name,[118,97,108,117,101]),(keys[k].name,[109,97,115,107])]:=hln0
   have hsn:bz LL++[.agg [.str keys[k].name,.str [118,97,108,117,101]],.agg [.str keys[k].name,.str [109,97,115,107]]]=bz (LL++[(keys[k].name,[118,97,108,117,101]),(keys[k].name,[109,97,115,107])]):=by simp [bz,gg]
   exact Y9
  have d3:(kd==3)=false:=beq_eq_false_iff_ne.2 h3
  by_cases h4:kd=4
  ·subst h4
   have hln:(keys.take (k+1)).flatMap (fun k=>eO k.name k.kind)=LL++[(keys[k].name,[108,111,119]),(keys[k].name,[104,105,103,104])]:=hln0
   have hsn:bz LL++[.agg [.str keys[k].name,.str [108,111,119]],.agg [.str keys[k].name,.str [104,105,103,104]]]=bz (LL++[(keys[k].name,[108,111,119]),(keys[k].name,[104,105,103,104])]):=by simp [bz,gg]
   exact Y9
  have d4:(kd==4)=false:=beq_eq_false_iff_ne.2 h4
  have hln:(keys.take (k+1)).flatMap (fun k=>eO k.name k.kind)=LL:=by
   rw [hln0]
   unfold eO dK
   rw [if_neg h1,if_neg h2,if_neg h3,if_neg h4];simp
  simp only [go_sem,bR,j8 hk1,iNq,hkd,d1,d2,d3,d4,e5]
  refine ⟨by omega,(k+1,Hc),⟨by dsimp only;omega,hle,hcc,?_⟩,by dsimp only;omega,?_⟩
  ·dsimp only
   rw [hln,hid]
  ·dsimp only
   rw [hln]
   (simp only [bkq,enterW,aK,ltF,ne_eq,Nat.reduceEqDiff,reduceCtorEq,hcc,hm,aH,hnn];try simp (disch:=first|exact Zd|omega) [↓zmk,beq,ybc,ybd,ybe,af,wk,wk2,wk1,wkM,wkL,aj,ybf,byq,biq,ah,hcl,hcc,hm,aH,hnn];try (repeat' (first|assumption|omega|exact True.intro|refine And.intro ?_ ?_|refine ag ?_|refine aa ?_|refine ae ?_ ?_|refine ai ?_ ?_|refine aq ?_|exact lRq _|refine lPq ?_ _|refine AHeap.Le.del ?_ ?_|(simp only [bt,and_true,true_and,hcc,hm,aH,hnn];first|done|omega|(simp;done)))))
 ·exact Y26
def mE:List AV→AHeap→(AV→Prop)→Prop
 |[.agg [_,_,.slice _ 2 x,_,_]],_,K=>∃ keys,(x=keys.map bS∧keys.length≤1000)∧K (.slice .any 2 (bz (eC keys)))
 |_,_,_=>False
theorem pd:EntOk Tryz.prog 57 (Ent.pure mE):=by
 refine Ype fun _ H K h=>?_
 unfold mE at h
 split at h
 rotate_left
 ·exact h.elim
 rename_i a1 a2 m x a3 a4
 obtain ⟨keys,⟨rfl,hl⟩,hK⟩:=h
 refine ⟨_,hK,?_⟩
 clear hK
 refine Yfv ax tNq Tryz.func57 [.tmp 2] fun hcl hlt=>?_
 exact Y2
def mD:List AV→AHeap→(AV→Prop)→Prop
 |[.agg [_,_,.slice _ 2 x,_,_]],_,K=>∃ keys,(x=keys.map bS∧keys.length≤1000)∧K (.slice .any 2 (bz (eC keys)))
 |_,_,_=>False
theorem xh:EntOk Tryz.prog 62 (Ent.pure mD):=by
 refine Ype fun _ H K h=>?_
 unfold mD at h
 split at h
 rotate_left
 ·exact h.elim
 rename_i a1 a2 m x a3 a4
 obtain ⟨keys,⟨rfl,hl⟩,hK⟩:=h
 refine ⟨_,hK,?_⟩
 clear hK
 refine Yfv ax tNq Tryz.func62 [.tmp 2] fun hcl hlt=>?_
 exact Y2
end Go.AL
