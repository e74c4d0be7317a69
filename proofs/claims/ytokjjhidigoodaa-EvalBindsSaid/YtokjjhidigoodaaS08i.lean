/- Contracts and plain laws, a part of the proof; no condition of its own. -/
import Derived.Test.YtokjjhidigoodaaS08e
import Derived.Test.YtokjjhidigoodaaS07w
import Derived.Test.YtokjjhidigoodaaS10e
set_option maxHeartbeats 32000000
open List renaming length_cons → yaz, length_nil → yba, take_of_length_le → ybc, drop_append → ybd, take_append → ybe, drop_eq_nil_of_le → ybf, length_map → ybb, map_cons → yae, map_nil → yaf
open Go Go.AL Go.Proofs
namespace Go.AL
set_option linter.all false
set_option maxRecDepth 10000
end Go.AL
open Go Go.AL Go.Proofs
namespace Go.AL
set_option linter.all false
set_option maxRecDepth 10000
theorem B6:ti Try.prog 79=some ⟨.struct [(0,9,false),(1,3,false),(2,3,false)],3,32,.agg [.str [],.int .i64 0,.int .i64 0]⟩:=by kernel_rfl
theorem zz:ti Try.prog 35=some ⟨.slice 79,1,24,.slice .nil 1 []⟩:=by kernel_rfl
theorem xF:ti Try.prog 38=some ⟨.struct [(0,3,false),(1,9,false),(2,35,false),(3,36,false),(4,3,false),(5,23,false),(6,3,false),(7,9,false)],8,128,.agg [.int .i64 0,.str [],.slice .nil 1 [],.slice .nil 1 [],.int .i64 0,.slice .nil 1 [],.int .i64 0,.str []]⟩:=by kernel_rfl
theorem wL:ti Try.prog 109=some ⟨.struct [(0,9,false),(1,3,false)],2,24,.agg [.str [],.int .i64 0]⟩:=by kernel_rfl
theorem uV:ti Try.prog 42=some ⟨.slice 109,1,24,.slice .nil 1 []⟩:=by kernel_rfl
theorem uF:ti Try.prog 45=some ⟨.struct [(0,3,false),(1,9,false),(2,42,false),(3,43,false),(4,9,false)],5,88,.agg [.int .i64 0,.str [],.slice .nil 1 [],.slice .nil 1 [],.str []]⟩:=by kernel_rfl
theorem A2:ti Try.prog 33=some ⟨.slice 9,1,24,.slice .nil 1 []⟩:=by kernel_rfl
attribute [go_sem] B6 zz xF wL uV uF A2
def rD:List AV→AHeap→(AV→Prop)→Prop
 |[.int .i64 k],_,K=>K (.slice .any 1 (sAV (cu k)))
 |_,_,_=>False
theorem Aq:EntOk Try.prog 44 (Ent.pure rD):=by
 refine EntOk.pure fun args H K h=>?_
 unfold rD at h
 split at h
 rotate_left
 ·exact h.elim
 rename_i k
 refine ⟨_,h,?_⟩
 clear h
 unfold cu
 by_cases h1:k=1
 ·subst h1
  rw [if_pos rfl]
  refine ACalls.fW aD TblOk.nil Try.func44 [.tmp 2] (Nat.le_refl _) (T:=az []) (h:=fun hcl hlt=>?_)
  clear hlt
  simp only [go_sem,Int.reduceBEq]
  simp (disch:=first|assumption|omega|(simp;done)|(simp;omega)|(simp only [bt,and_true];first|done|omega|(simp;done))) [↓zmk,beq,ybc,ybd,ybe,ag,wk,wk2,wk1,wkM,wkL,am,ybf,hcl,sAV,aG,znq,znr,znd]
 rw [if_neg h1]
 have d1:(k==1)=false:=beq_eq_false_iff_ne.2 h1
 by_cases h2:k=2
 ·subst h2
  rw [if_pos rfl]
  refine ACalls.fW aD TblOk.nil Try.func44 [.tmp 2] (Nat.le_refl _) (T:=az []) (h:=fun hcl hlt=>?_)
  clear hlt
  simp only [go_sem,Int.reduceBEq]
  simp (disch:=first|assumption|omega|(simp;done)|(simp;omega)|(simp only [bt,and_true];first|done|omega|(simp;done))) [↓zmk,beq,ybc,ybd,ybe,ag,wk,wk2,wk1,wkM,wkL,am,ybf,hcl,sAV,aG,znq,znr,znd]
 rw [if_neg h2]
 have d2:(k==2)=false:=beq_eq_false_iff_ne.2 h2
 by_cases h3:k=3
 ·subst h3
  rw [if_pos rfl]
  refine ACalls.fW aD TblOk.nil Try.func44 [.tmp 2] (Nat.le_refl _) (T:=az []) (h:=fun hcl hlt=>?_)
  clear hlt
  simp only [go_sem,Int.reduceBEq]
  simp (disch:=first|assumption|omega|(simp;done)|(simp;omega)|(simp only [bt,and_true];first|done|omega|(simp;done))) [↓zmk,beq,ybc,ybd,ybe,ag,wk,wk2,wk1,wkM,wkL,am,ybf,hcl,sAV,aG,znq,znr,znd]
 rw [if_neg h3]
 have d3:(k==3)=false:=beq_eq_false_iff_ne.2 h3
 by_cases h4:k=4
 ·subst h4
  rw [if_pos rfl]
  refine ACalls.fW aD TblOk.nil Try.func44 [.tmp 2] (Nat.le_refl _) (T:=az []) (h:=fun hcl hlt=>?_)
  clear hlt
  simp only [go_sem,Int.reduceBEq]
  simp (disch:=first|assumption|omega|(simp;done)|(simp;omega)|(simp only [bt,and_true];first|done|omega|(simp;done))) [↓zmk,beq,ybc,ybd,ybe,ag,wk,wk2,wk1,wkM,wkL,am,ybf,hcl,sAV,aG,znq,znr,znd]
 rw [if_neg h4]
 have d4:(k==4)=false:=beq_eq_false_iff_ne.2 h4
 refine ACalls.fW aD TblOk.nil Try.func44 [.tmp 2] (Nat.le_refl _) (T:=az []) (h:=fun hcl hlt=>?_)
 clear hlt
 simp only [go_sem,d1,d2,d3,d4]
 simp (disch:=first|assumption|omega|(simp;done)|(simp;omega)|(simp only [bt,and_true];first|done|omega|(simp;done))) [↓zmk,beq,ybc,ybd,ybe,ag,wk,wk2,wk1,wkM,wkL,am,ybf,hcl,sAV]
theorem a9 {l:List SKey}:(l.map cg).length=l.length:=ybb ..
theorem ot {l:List SKey} {k:Nat} (h:k<l.length):(l.map cg).getD k .junk=.agg [.str l[k].name,.int .i64 l[k].field,.int .i64 l[k].kind]:=by
 simp [List.getD_eq_getElem?_getD,h,cg]
def sF (l:List SKey):List VN:=(l.flatMap fun k=>eS k.name k.kind)++[lO]
def ja:List AV→AHeap→(AV→Prop)→Prop
 |[.agg [_,_,.slice _ 3 x,_,_,_,_,_]],_,K=>∃ keys,(x=keys.map cg∧keys.length≤1000)∧K (.slice .any 2 (bJ (sF keys)))
 |_,_,_=>False
theorem lf {α β:Type} {f:α→List β} {l:List α} {k:Nat} (h:k<l.length):(l.take (k+1)).flatMap f=(l.take k).flatMap f++f l[k]:=by
 rw [← List.take_append_getElem h,List.flatMap_append];simp
theorem mj {n:List UInt8} {k:Int}:(eS n k).length≤2:=by
 unfold eS cu
 rw [ybb]
 split
 ·simp
 ·split
  ·simp
  ·split
   ·simp
   ·split<;>simp
theorem lI {l:List SKey}:∀ {k:Nat},((l.take k).flatMap fun k=>eS k.name k.kind).length≤2*k
 |0=>by simp
 |k+1=>by
  rcases Nat.lt_or_ge k l.length with h|h
  ·rw [lf h,List.length_append]
   have:=lI (l:=l) (k:=k)
   have:=@mj l[k].name l[k].kind
   omega
  ·rw [ybc (by omega:l.length≤k+1),← ybc h]
   have:=lI (l:=l) (k:=k)
   omega
theorem kE:EntOk Try.prog 22 (Ent.pure ja):=by
 refine EntOk.pure fun args H K h=>?_
 unfold ja at h
 split at h
 rotate_left
 ·exact h.elim
 rename_i a1 a2 m x a3 a4 a5 a6 a7
 obtain ⟨keys,⟨rfl,hl⟩,hK⟩:=h
 refine ⟨_,hK,?_⟩
 clear hK
 refine ACalls.fW aD (TblOk.cons Aq TblOk.nil) Try.func22 [.tmp 2] (Nat.le_refl _) (T:=az []) (h:=fun hcl hlt=>?_)
 have hx:=AV.lt_mono (Nat.le_succ H.nx) _ (hlt (.agg [a1,a2,.slice m 3 (keys.map cg),a3,a4,a5,a6,a7]) (by simp))
 have hm:∀ n',H.nx≤n'→AV.lt n' (.slice m 3 (keys.map cg)):=fun n' hn=>AV.lt_mono hn _ (by have h1:=hlt (.agg [a1,a2,.slice m 3 (keys.map cg),a3,a4,a5,a6,a7]) (by simp);rw [znn] at h1;exact h1.2.2.1)
 simp only [znn] at hx
 clear hlt
 simp only [go_sem,a9]
 refine aB (A:=Nat × AHeap) (fun a=>[(3,.slice (.own (H.nx+1+1)) 2 (bJ ((keys.take a.1).flatMap fun k=>eS k.name k.kind))),(9,.slice m 3 (keys.map cg)),(10,.int .i64 (keys.length:Int)),(11,.int .i64 (a.1:Int))]) (fun a=>a.2)
  (fun a=>a.1≤keys.length∧H.Le a.2∧a.2.Closed∧a.2.get (H.nx+1+1)=some (.buf 2 ((keys.take a.1).flatMap fun k=>eS k.name k.kind).length)) (fun a=>keys.length - a.1)
  (0,((H.push (.cells [a1,a2,.slice m 3 (keys.map cg),a3,a4,a5,a6,a7])).push (.buf 2 0)).push (.buf 2 0)) ⟨Nat.zero_le _,(((AHeap.Le.refl _).push _).push _).push _,af (af (ae hcl hx)),AHeap.get_push_new _ _⟩ ?_ fun a ha=>?_
 ·have hc0:=af (a:=2) (b:=0) (af (a:=2) (b:=0) (ae hcl hx))
  (simp only [bkq,enterW,aI,ltF,ne_eq,Nat.reduceEqDiff,reduceCtorEq,hc0,hm,aC];try simp (disch:=first|assumption|omega|(simp;done)|(simp;omega)|(simp only [bt,and_true];first|done|omega|(simp;done))) [↓zmk,beq,ybc,ybd,ybe,ag,wk,wk2,wk1,wkM,wkL,am,ybf,byq,biq,au,hcl,hc0,hm,aC];try (repeat' (first|assumption|omega|exact True.intro|refine And.intro ?_ ?_|refine af ?_|refine aa ?_|refine ae ?_ ?_|refine ah ?_ ?_|refine ak ?_|exact AHeap.Le.refl _|refine AHeap.Le.push ?_ _|refine AHeap.Le.del ?_ ?_|(simp only [bt,and_true,true_and,hc0,hm,aC];first|done|omega|(simp;done)))))
  simp [bJ]
 obtain ⟨k,Hc⟩:=a
 obtain ⟨hk,hle,hcc,hid⟩:=ha
 dsimp only at hk hle hcc hid ⊢
 have hnx:=AHeap.get_lt hid
 simp only [go_sem]
 refine ax (fun hc=>?_) (fun hc=>?_)
 ·have hk1:k<keys.length:=by simp at hc;omega
  have e5:IntKind.i64.wrap ((k:Int)+1)=((k+1:Nat):Int):=by rw [wrap_i64]<;>omega
  have hfl:=@lI keys k
  have hkl:=@mj keys[k].name keys[k].kind
  have hkv:eS keys[k].name keys[k].kind=(cu keys[k].kind).map fun a=>(keys[k].name,a):=rfl
  simp only [go_sem,a9,ot hk1,Int.toNat_natCast,rD]
  generalize cu keys[k].kind=at0 at *
  have hk0:eS keys[k].name keys[k].kind=at0.map fun a=>(keys[k].name,a):=hkv
  have hal:at0.length≤2:=by rw [hk0,ybb] at hkl;exact hkl
  refine ⟨by omega,?_⟩
  simp only [go_sem,jf]
  refine aB (A:=Nat × AHeap) (fun a=>[(3,.slice (.own (H.nx+1+1)) 2 (bJ (((keys.take k).flatMap fun k=>eS k.name k.kind)++(at0.take a.1).map fun x=>(keys[k].name,x)))),(5,.ptr Hc.nx 0),(9,.slice m 3 (keys.map cg)),(10,.int .i64 (keys.length:Int)),(11,.int .i64 (k:Int)),(17,.slice .any 1 (sAV at0)),(18,.int .i64 (at0.length:Int)),(19,.int .i64 (a.1:Int))]) (fun a=>a.2)
   (fun a=>a.1≤at0.length∧H.Le a.2∧a.2.Closed∧a.2.get (H.nx+1+1)=some (.buf 2 (((keys.take k).flatMap fun k=>eS k.name k.kind)++(at0.take a.1).map fun x=>(keys[k].name,x)).length)∧a.2.get Hc.nx=some (.cells [.str keys[k].name,.int .i64 keys[k].field,.int .i64 keys[k].kind])) (fun a=>at0.length - a.1)
   (0,Hc.push (.cells [.str keys[k].name,.int .i64 keys[k].field,.int .i64 keys[k].kind])) ⟨Nat.zero_le _,hle.push _,ae hcc (by simp [znq,znr,znd,znb]),?_,AHeap.get_push_new _ _⟩ ?_ fun a ha=>?_
  ·dsimp only
   rw [AHeap.get_push_lt _ _ hnx,hid];simp
  ·have hc0:=ae (cs:=[.str keys[k].name,.int .i64 keys[k].field,.int .i64 keys[k].kind]) hcc (by simp [znq,znr,znd,znb])
   have hnn:H.nx≤Hc.nx:=by omega
   (simp only [bkq,enterW,aI,ltF,ne_eq,Nat.reduceEqDiff,reduceCtorEq,hc0,hm,aC,fK,hnn];try simp (disch:=first|assumption|omega|(simp;done)|(simp;omega)|(simp only [bt,and_true];first|done|omega|(simp;done))) [↓zmk,beq,ybc,ybd,ybe,ag,wk,wk2,wk1,wkM,wkL,am,ybf,byq,biq,au,hcl,hc0,hm,aC,fK,hnn];try (repeat' (first|assumption|omega|exact True.intro|refine And.intro ?_ ?_|refine af ?_|refine aa ?_|refine ae ?_ ?_|refine ah ?_ ?_|refine ak ?_|exact AHeap.Le.refl _|refine AHeap.Le.push ?_ _|refine AHeap.Le.del ?_ ?_|(simp only [bt,and_true,true_and,hc0,hm,aC,fK,hnn];first|done|omega|(simp;done)))))
  obtain ⟨j,Hd⟩:=a
  obtain ⟨hj,hle2,hcd,hid2,hky⟩:=ha
  dsimp only at hj hle2 hcd hid2 hky ⊢
  have hnx2:=AHeap.get_lt hid2
  have hnx3:=AHeap.get_lt hky
  simp only [go_sem]
  refine ax (fun hc=>?_) (fun hc=>?_)
  ·have hj1:j<at0.length:=by simp at hc;omega
   have e6:IntKind.i64.wrap ((j:Int)+1)=((j+1:Nat):Int):=by rw [wrap_i64]<;>omega
   have hsg:(sAV at0).getD j .junk=.str at0[j]:=by rw [vR hj1];simp [List.getD_eq_getElem?_getD,hj1]
   have htk:(at0.take (j+1)).map (fun x=>(keys[k].name,x))=(at0.take j).map (fun x=>(keys[k].name,x))++[(keys[k].name,at0[j])]:=by rw [← List.take_append_getElem hj1,List.map_append];rfl
   have n1:(Hc.nx=Hd.nx)=False:=eq_false (by omega)
   have n2:(H.nx+1+1=Hd.nx)=False:=eq_false (by omega)
   simp only [go_sem,jf,hsg,Int.toNat_natCast,hky,ai hky,hid2,br,n1,n2,e6]
   obtain ⟨LL,hLL⟩:∃ LL,(((keys.take k).flatMap fun k=>eS k.name k.kind)++(at0.take j).map fun x=>(keys[k].name,x))=LL:=⟨_,rfl⟩
   have hll:LL.length≤2*k+2:=by rw [← hLL,List.length_append,ybb,List.length_take];omega
   have hln:((keys.take k).flatMap fun k=>eS k.name k.kind)++(at0.take (j+1)).map (fun x=>(keys[k].name,x))=LL++[(keys[k].name,at0[j])]:=by rw [htk,← List.append_assoc,hLL]
   have hsn:bJ LL++[.agg [.str keys[k].name,.str at0[j]]]=bJ (LL++[(keys[k].name,at0[j])]):=mS (v:=(keys[k].name,at0[j]))
   rw [hLL]
   refine ⟨by omega,⟨by omega,by omega,fun z hz=>by rw [List.mem_singleton.1 hz];rfl⟩,(j+1,Hd.set (H.nx+1+1) (.buf 2 (LL.length+1))),⟨by dsimp only;omega,aX hle2 (by omega),aa hcd,?_,?_⟩,by dsimp only;omega,?_⟩
   ·dsimp only
    rw [aq,if_pos rfl,if_pos hnx2,hln];simp
   ·dsimp only
    rw [aq,if_neg (by omega),hky]
   ·have hnn:H.nx≤Hd.nx:=by omega
    have hcs:=@aa Hd (H.nx+1+1) 2 (LL.length+1) hcd
    dsimp only
    rw [hln,hsn]
    (simp only [bkq,enterW,aI,ltF,ne_eq,Nat.reduceEqDiff,reduceCtorEq,hcs,hm,aC,fK,hnn];try simp (disch:=first|assumption|omega|(simp;done)|(simp;omega)|(simp only [bt,and_true];first|done|omega|(simp;done))) [↓zmk,beq,ybc,ybd,ybe,ag,wk,wk2,wk1,wkM,wkL,am,ybf,byq,biq,au,hcl,hcs,hm,aC,fK,hnn];try (repeat' (first|assumption|omega|exact True.intro|refine And.intro ?_ ?_|refine af ?_|refine aa ?_|refine ae ?_ ?_|refine ah ?_ ?_|refine ak ?_|exact AHeap.Le.refl _|refine AHeap.Le.push ?_ _|refine AHeap.Le.del ?_ ?_|(simp only [bt,and_true,true_and,hcs,hm,aC,fK,hnn];first|done|omega|(simp;done)))))
  ·have hj1:j=at0.length:=by simp at hc;omega
   subst hj1
   rw [List.take_length,← hk0,← lf hk1] at hid2
   rw [List.take_length,← hk0,← lf (f:=fun k:SKey=>eS k.name k.kind) hk1]
   simp only [go_sem,e5]
   refine ⟨(k+1,Hd),⟨by dsimp only;omega,hle2,hcd,hid2⟩,by dsimp only;omega,?_⟩
   have hnn:H.nx≤Hd.nx:=by omega
   (simp only [bkq,enterW,aI,ltF,ne_eq,Nat.reduceEqDiff,reduceCtorEq,hcd,hm,aC,hnn];try simp (disch:=first|assumption|omega|(simp;done)|(simp;omega)|(simp only [bt,and_true];first|done|omega|(simp;done))) [↓zmk,beq,ybc,ybd,ybe,ag,wk,wk2,wk1,wkM,wkL,am,ybf,byq,biq,au,hcl,hcd,hm,aC,hnn];try (repeat' (first|assumption|omega|exact True.intro|refine And.intro ?_ ?_|refine af ?_|refine aa ?_|refine ae ?_ ?_|refine ah ?_ ?_|refine ak ?_|exact AHeap.Le.refl _|refine AHeap.Le.push ?_ _|refine AHeap.Le.del ?_ ?_|(simp only [bt,and_true,true_and,hcd,hm,aC,hnn];first|done|omega|(simp;done)))))
 ·have hk1:k=keys.length:=by simp at hc;omega
  subst hk1
  rw [List.take_length] at hid
  rw [List.take_length]
  have hfl:=@lI keys keys.length
  rw [List.take_length] at hfl
  have n1:(H.nx+1+1=Hc.nx)=False:=eq_false (by omega)
  have htab:sF keys=(keys.flatMap fun k=>eS k.name k.kind)++[lO]:=rfl
  rw [htab]
  clear htab
  generalize (keys.flatMap fun k=>eS k.name k.kind)=G at *
  have hsn:bJ G++[.agg [.str [112,114,105,111,114,105,116,121],.str []]]=bJ (G++[lO]):=mS (v:=lO)
  simp only [go_sem,hid,n1,br]
  refine ⟨⟨by omega,by omega,fun z hz=>by rw [List.mem_singleton.1 hz];rfl⟩,?_⟩
  rw [hsn]
  have hle3:=(aX hle (show H.nx≤H.nx+1+1 by omega) (o:=.buf 2 (G.length+1))).push (.buf 2 1)
  simp (disch:=first|assumption|omega|(simp;done)|(simp;omega)|(simp only [bt,and_true];first|done|omega|(simp;done))) [↓zmk,beq,ybc,ybd,ybe,ag,wk,wk2,wk1,wkM,wkL,am,ybf,hcl,hle3,aC]
end Go.AL
open Go Go.AL Go.Proofs
namespace Go.AL
set_option linter.all false
set_option maxRecDepth 10000
theorem oH {l:List SParam}:(l.map bq).length=l.length:=ybb ..
theorem vh {l:List SParam} {k:Nat} (h:k<l.length):(l.map bq).getD k .junk=.agg [.str l[k].name,.int .i64 l[k].bits]:=by
 simp [List.getD_eq_getElem?_getD,h,bq]
def eY (l:List SParam):List VN:=l.map fun p=>(p.name,[])
def kH:List AV→AHeap→(AV→Prop)→Prop
 |[.agg [_,_,.slice _ 2 x,_,_]],_,K=>∃ keys,(x=keys.map bq∧keys.length≤1000)∧K (.slice .any 2 (bJ (eY keys)))
 |_,_,_=>False
theorem oJ:EntOk Try.prog 34 (Ent.pure kH):=by
 refine EntOk.pure fun args H K h=>?_
 unfold kH at h
 split at h
 rotate_left
 ·exact h.elim
 rename_i a1 a2 m x a3 a4
 obtain ⟨keys,⟨rfl,hl⟩,hK⟩:=h
 refine ⟨_,hK,?_⟩
 clear hK
 refine ACalls.fW aD TblOk.nil Try.func34 [.tmp 2] (Nat.le_refl _) (T:=az []) (h:=fun hcl hlt=>?_)
 have hx:=AV.lt_mono (Nat.le_succ H.nx) _ (hlt (.agg [a1,a2,.slice m 2 (keys.map bq),a3,a4]) (by simp))
 have hm:∀ n',H.nx≤n'→AV.lt n' (.slice m 2 (keys.map bq)):=fun n' hn=>AV.lt_mono hn _ (by have h1:=hlt (.agg [a1,a2,.slice m 2 (keys.map bq),a3,a4]) (by simp);rw [znn] at h1;exact h1.2.2.1)
 simp only [znn] at hx
 clear hlt
 simp only [go_sem,oH]
 refine aB (A:=Nat × AHeap) (fun a=>[(3,.slice (.own (H.nx+1+1)) 2 (bJ (eY (keys.take a.1)))),(7,.slice m 2 (keys.map bq)),(8,.int .i64 (keys.length:Int)),(9,.int .i64 (a.1:Int))]) (fun a=>a.2)
  (fun a=>a.1≤keys.length∧H.Le a.2∧a.2.Closed∧a.2.get (H.nx+1+1)=some (.buf 2 (eY (keys.take a.1)).length)) (fun a=>keys.length - a.1)
  (0,((H.push (.cells [a1,a2,.slice m 2 (keys.map bq),a3,a4])).push (.buf 2 0)).push (.buf 2 0)) ⟨Nat.zero_le _,(((AHeap.Le.refl _).push _).push _).push _,af (af (ae hcl hx)),AHeap.get_push_new _ _⟩ ?_ fun a ha=>?_
 ·have hc0:=af (a:=2) (b:=0) (af (a:=2) (b:=0) (ae hcl hx))
  (simp only [bkq,enterW,aI,ltF,ne_eq,Nat.reduceEqDiff,reduceCtorEq,hc0,hm,aC];try simp (disch:=first|assumption|omega|(simp;done)|(simp;omega)|(simp only [bt,and_true];first|done|omega|(simp;done))) [↓zmk,beq,ybc,ybd,ybe,ag,wk,wk2,wk1,wkM,wkL,am,ybf,byq,biq,au,hcl,hc0,hm,aC];try (repeat' (first|assumption|omega|exact True.intro|refine And.intro ?_ ?_|refine af ?_|refine aa ?_|refine ae ?_ ?_|refine ah ?_ ?_|refine ak ?_|exact AHeap.Le.refl _|refine AHeap.Le.push ?_ _|refine AHeap.Le.del ?_ ?_|(simp only [bt,and_true,true_and,hc0,hm,aC];first|done|omega|(simp;done)))))
  simp [bJ,eY]
 obtain ⟨k,Hc⟩:=a
 obtain ⟨hk,hle,hcc,hid⟩:=ha
 dsimp only at hk hle hcc hid ⊢
 have hnx:=AHeap.get_lt hid
 simp only [go_sem]
 refine ax (fun hc=>?_) (fun hc=>?_)
 ·have hk1:k<keys.length:=by simp at hc;omega
  have e5:IntKind.i64.wrap ((k:Int)+1)=((k+1:Nat):Int):=by rw [wrap_i64]<;>omega
  have hfl:(eY (keys.take k)).length≤2*k:=by simp only [eY,ybb,List.length_take];omega
  have n1:(Hc.nx=H.nx+1+1)=False:=eq_false (by omega)
  have n2:(H.nx+1+1=Hc.nx)=False:=eq_false (by omega)
  have n3:(H.nx+1+1=Hc.nx+1)=False:=eq_false (by omega)
  obtain ⟨LL,hLL⟩:∃ LL,(eY (keys.take k))=LL:=⟨_,rfl⟩
  rw [hLL] at hid hfl ⊢
  have hnn:H.nx≤Hc.nx:=by omega
  have hln:eY (keys.take (k+1))=LL++[(keys[k].name,[])]:=by rw [← hLL,← List.take_append_getElem hk1];simp only [eY,List.map_append,yae,yaf]
  have hsn:bJ LL++[.agg [.str keys[k].name,.str []]]=bJ (LL++[(keys[k].name,[])]):=by simp [bJ,eA]
  simp only [go_sem,oH,vh hk1,Int.toNat_natCast,hid,br,n1,n2,n3,e5]
  refine ⟨by omega,⟨by omega,by omega,fun z hz=>by simp only [List.mem_cons,List.not_mem_nil,or_false] at hz;(try rcases hz with rfl|rfl)<;>(try subst hz)<;>rfl⟩,(k+1,Hc.set (H.nx+1+1) (.buf 2 (LL.length+1))),⟨by dsimp only;omega,aX hle (by omega),aa hcc,?_⟩,by dsimp only;omega,?_⟩
  ·dsimp only
   rw [aq,if_pos rfl,if_pos hnx,hln];simp
  ·have hcs:=@aa Hc (H.nx+1+1) 2 (LL.length+1) hcc
   dsimp only
   rw [hln]
   try rw [hsn]
   (simp only [bkq,enterW,aI,ltF,ne_eq,Nat.reduceEqDiff,reduceCtorEq,hcs,hm,aC,hnn];try simp (disch:=first|assumption|omega|(simp;done)|(simp;omega)|(simp only [bt,and_true];first|done|omega|(simp;done))) [↓zmk,beq,ybc,ybd,ybe,ag,wk,wk2,wk1,wkM,wkL,am,ybf,byq,biq,au,hcl,hcs,hm,aC,hnn];try (repeat' (first|assumption|omega|exact True.intro|refine And.intro ?_ ?_|refine af ?_|refine aa ?_|refine ae ?_ ?_|refine ah ?_ ?_|refine ak ?_|exact AHeap.Le.refl _|refine AHeap.Le.push ?_ _|refine AHeap.Le.del ?_ ?_|(simp only [bt,and_true,true_and,hcs,hm,aC,hnn];first|done|omega|(simp;done)))))
 ·have hk1:k=keys.length:=by simp at hc;omega
  subst hk1
  rw [List.take_length] at hid
  rw [List.take_length]
  simp only [go_sem]
  simp (disch:=first|assumption|omega|(simp;done)|(simp;omega)|(simp only [bt,and_true];first|done|omega|(simp;done))) [↓zmk,beq,ybc,ybd,ybe,ag,wk,wk2,wk1,wkM,wkL,am,ybf,hcl,hle,aC]
end Go.AL
open Go Go.AL Go.Proofs
namespace Go.AL
set_option linter.all false
set_option maxRecDepth 10000
theorem BI {kn:VN→Bool} {s:List UInt8} {l:List Tok} {f:Nat} {r:PR} {a b:Nat} (hs:s≠[]) (h1:bX s=(l,a,b)) (h2:run l f .imp 0 []=some r):comp kn s=tY kn b (cT l r):=by
 unfold comp
 rw [if_neg hs,h1]
 dsimp only
 rw [Dm h2]
end Go.AL
