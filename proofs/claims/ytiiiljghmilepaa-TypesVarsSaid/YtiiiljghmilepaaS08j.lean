/- Contracts and plain laws, a part of the proof; no condition of its own. -/
import Derived.Test.YtiiiljghmilepaaS08e
import Derived.Test.YtiiiljghmilepaaS07w
import Derived.Test.YtiiiljghmilepaaS10e
set_option maxHeartbeats 32000000
open List renaming length_cons → yaz, length_nil → yba, take_of_length_le → ybc, drop_append → ybd, take_append → ybe, drop_eq_nil_of_le → ybf, length_map → ybb, map_cons → yae, map_nil → yaf
open Go Go.AL Go.Proofs
namespace Go.AL
set_option linter.all false
set_option maxRecDepth 10000
end Go.AL
open Go Go.AL Go.Proofs
namespace Go.AL
set_option linter.all false
set_option maxRecDepth 10000
theorem wW:ti Try.prog 119=some ⟨.struct [(0,9,false),(1,3,false),(2,3,false)],3,32,.agg [.str [],.int .i64 0,.int .i64 0]⟩:=by kernel_rfl
theorem ux:ti Try.prog 65=some ⟨.slice 119,1,24,.slice .nil 1 []⟩:=by kernel_rfl
theorem tA:ti Try.prog 69=some ⟨.struct [(0,3,false),(1,9,false),(2,65,false),(3,66,false),(4,3,false),(5,67,false),(6,3,false),(7,9,false)],8,128,.agg [.int .i64 0,.str [],.slice .nil 1 [],.slice .nil 1 [],.int .i64 0,.slice .nil 1 [],.int .i64 0,.str []]⟩:=by kernel_rfl
theorem tI:ti Try.prog 132=some ⟨.struct [(0,9,false),(1,3,false)],2,24,.agg [.str [],.int .i64 0]⟩:=by kernel_rfl
theorem rg:ti Try.prog 70=some ⟨.slice 132,1,24,.slice .nil 1 []⟩:=by kernel_rfl
theorem q0:ti Try.prog 73=some ⟨.struct [(0,3,false),(1,9,false),(2,70,false),(3,71,false),(4,9,false)],5,88,.agg [.int .i64 0,.str [],.slice .nil 1 [],.slice .nil 1 [],.str []]⟩:=by kernel_rfl
theorem vy:ti Try.prog 49=some ⟨.slice 9,1,24,.slice .nil 1 []⟩:=by kernel_rfl
attribute [go_sem] wW ux tA tI rg q0 vy
def nY:List AV→AHeap→(AV→Prop)→Prop
 |[.int .i64 k],_,K=>K (.slice .any 1 (sAV (jO k)))
 |_,_,_=>False
theorem vL:EntOk Try.prog 48 (Ent.pure nY):=by
 refine EntOk.pure fun args H K h=>?_
 unfold nY at h
 split at h
 rotate_left
 ·exact h.elim
 rename_i k
 refine ⟨_,h,?_⟩
 clear h
 unfold jO
 by_cases h1:k=1
 ·subst h1
  rw [if_pos rfl]
  refine ACalls.fW aE TblOk.nil Try.func48 [.tmp 2] (Nat.le_refl _) (T:=ax []) (h:=fun hcl hlt=>?_)
  clear hlt
  simp only [go_sem,Int.reduceBEq]
  simp (disch:=first|assumption|omega|(simp;done)|(simp;omega)|(simp only [bt,and_true];first|done|omega|(simp;done))) [↓zmi,beq,ybc,ybd,ybe,ag,wk,wk2,wk1,wkM,wkL,ak,ybf,hcl,sAV,bm,zno,znp,znb]
 rw [if_neg h1]
 have d1:(k==1)=false:=beq_eq_false_iff_ne.2 h1
 by_cases h2:k=2
 ·subst h2
  rw [if_pos rfl]
  refine ACalls.fW aE TblOk.nil Try.func48 [.tmp 2] (Nat.le_refl _) (T:=ax []) (h:=fun hcl hlt=>?_)
  clear hlt
  simp only [go_sem,Int.reduceBEq]
  simp (disch:=first|assumption|omega|(simp;done)|(simp;omega)|(simp only [bt,and_true];first|done|omega|(simp;done))) [↓zmi,beq,ybc,ybd,ybe,ag,wk,wk2,wk1,wkM,wkL,ak,ybf,hcl,sAV,bm,zno,znp,znb]
 rw [if_neg h2]
 have d2:(k==2)=false:=beq_eq_false_iff_ne.2 h2
 by_cases h3:k=3
 ·subst h3
  rw [if_pos rfl]
  refine ACalls.fW aE TblOk.nil Try.func48 [.tmp 2] (Nat.le_refl _) (T:=ax []) (h:=fun hcl hlt=>?_)
  clear hlt
  simp only [go_sem,Int.reduceBEq]
  simp (disch:=first|assumption|omega|(simp;done)|(simp;omega)|(simp only [bt,and_true];first|done|omega|(simp;done))) [↓zmi,beq,ybc,ybd,ybe,ag,wk,wk2,wk1,wkM,wkL,ak,ybf,hcl,sAV,bm,zno,znp,znb]
 rw [if_neg h3]
 have d3:(k==3)=false:=beq_eq_false_iff_ne.2 h3
 by_cases h4:k=4
 ·subst h4
  rw [if_pos rfl]
  refine ACalls.fW aE TblOk.nil Try.func48 [.tmp 2] (Nat.le_refl _) (T:=ax []) (h:=fun hcl hlt=>?_)
  clear hlt
  simp only [go_sem,Int.reduceBEq]
  simp (disch:=first|assumption|omega|(simp;done)|(simp;omega)|(simp only [bt,and_true];first|done|omega|(simp;done))) [↓zmi,beq,ybc,ybd,ybe,ag,wk,wk2,wk1,wkM,wkL,ak,ybf,hcl,sAV,bm,zno,znp,znb]
 rw [if_neg h4]
 have d4:(k==4)=false:=beq_eq_false_iff_ne.2 h4
 refine ACalls.fW aE TblOk.nil Try.func48 [.tmp 2] (Nat.le_refl _) (T:=ax []) (h:=fun hcl hlt=>?_)
 clear hlt
 simp only [go_sem,d1,d2,d3,d4]
 simp (disch:=first|assumption|omega|(simp;done)|(simp;omega)|(simp only [bt,and_true];first|done|omega|(simp;done))) [↓zmi,beq,ybc,ybd,ybe,ag,wk,wk2,wk1,wkM,wkL,ak,ybf,hcl,sAV]
theorem c6 {l:List SKey}:(l.map bS).length=l.length:=ybb ..
theorem f7 {l:List SKey} {k:Nat} (h:k<l.length):(l.map bS).getD k .junk=.agg [.str l[k].name,.int .i64 l[k].field,.int .i64 l[k].kind]:=by
 simp [List.getD_eq_getElem?_getD,h,bS]
def gO (l:List SKey):List VN:=(l.flatMap fun k=>cz k.name k.kind)++[l4]
def d8:List AV→AHeap→(AV→Prop)→Prop
 |[.agg [_,_,.slice _ 3 x,_,_,_,_,_]],_,K=>∃ keys,(x=keys.map bS∧keys.length≤1000)∧K (.slice .any 2 (av (gO keys)))
 |_,_,_=>False
theorem gv {α β:Type} {f:α→List β} {l:List α} {k:Nat} (h:k<l.length):(l.take (k+1)).flatMap f=(l.take k).flatMap f++f l[k]:=by
 rw [← List.take_append_getElem h,List.flatMap_append];simp
theorem ny {n:List UInt8} {k:Int}:(cz n k).length≤2:=by
 unfold cz jO
 rw [ybb]
 split
 ·simp
 ·split
  ·simp
  ·split
   ·simp
   ·split<;>simp
theorem eO {l:List SKey}:∀ {k:Nat},((l.take k).flatMap fun k=>cz k.name k.kind).length≤2*k
 |0=>by simp
 |k+1=>by
  rcases Nat.lt_or_ge k l.length with h|h
  ·rw [gv h,List.length_append]
   have:=eO (l:=l) (k:=k)
   have:=@ny l[k].name l[k].kind
   omega
  ·rw [ybc (by omega:l.length≤k+1),← ybc h]
   have:=eO (l:=l) (k:=k)
   omega
theorem i9:EntOk Try.prog 23 (Ent.pure d8):=by
 refine EntOk.pure fun args H K h=>?_
 unfold d8 at h
 split at h
 rotate_left
 ·exact h.elim
 rename_i a1 a2 m x a3 a4 a5 a6 a7
 obtain ⟨keys,⟨rfl,hl⟩,hK⟩:=h
 refine ⟨_,hK,?_⟩
 clear hK
 refine ACalls.fW aE (TblOk.cons vL TblOk.nil) Try.func23 [.tmp 2] (Nat.le_refl _) (T:=ax []) (h:=fun hcl hlt=>?_)
 have hx:=AV.lt_mono (Nat.le_succ H.nx) _ (hlt (.agg [a1,a2,.slice m 3 (keys.map bS),a3,a4,a5,a6,a7]) (by simp))
 have hm:∀ n',H.nx≤n'→AV.lt n' (.slice m 3 (keys.map bS)):=fun n' hn=>AV.lt_mono hn _ (by have h1:=hlt (.agg [a1,a2,.slice m 3 (keys.map bS),a3,a4,a5,a6,a7]) (by simp);rw [znl] at h1;exact h1.2.2.1)
 simp only [znl] at hx
 clear hlt
 simp only [go_sem,c6]
 refine az (A:=Nat × AHeap) (fun a=>[(3,.slice (.own (H.nx+1+1)) 2 (av ((keys.take a.1).flatMap fun k=>cz k.name k.kind))),(9,.slice m 3 (keys.map bS)),(10,.int .i64 (keys.length:Int)),(11,.int .i64 (a.1:Int))]) (fun a=>a.2)
  (fun a=>a.1≤keys.length∧H.Le a.2∧a.2.Closed∧a.2.get (H.nx+1+1)=some (.buf 2 ((keys.take a.1).flatMap fun k=>cz k.name k.kind).length)) (fun a=>keys.length - a.1)
  (0,((H.push (.cells [a1,a2,.slice m 3 (keys.map bS),a3,a4,a5,a6,a7])).push (.buf 2 0)).push (.buf 2 0)) ⟨Nat.zero_le _,(((AHeap.Le.refl _).push _).push _).push _,af (af (ae hcl hx)),AHeap.get_push_new _ _⟩ ?_ fun a ha=>?_
 ·have hc0:=af (a:=2) (b:=0) (af (a:=2) (b:=0) (ae hcl hx))
  (simp only [bkq,enterW,bd,ltF,ne_eq,Nat.reduceEqDiff,reduceCtorEq,hc0,hm,varsAV_lt];try simp (disch:=first|assumption|omega|(simp;done)|(simp;omega)|(simp only [bt,and_true];first|done|omega|(simp;done))) [↓zmi,beq,ybc,ybd,ybe,ag,wk,wk2,wk1,wkM,wkL,ak,ybf,byq,biq,aj,hcl,hc0,hm,varsAV_lt];try (repeat' (first|assumption|omega|exact True.intro|refine And.intro ?_ ?_|refine af ?_|refine aa ?_|refine ae ?_ ?_|refine ah ?_ ?_|refine ai ?_|exact AHeap.Le.refl _|refine AHeap.Le.push ?_ _|refine AHeap.Le.del ?_ ?_|(simp only [bt,and_true,true_and,hc0,hm,varsAV_lt];first|done|omega|(simp;done)))))
  simp [av]
 obtain ⟨k,Hc⟩:=a
 obtain ⟨hk,hle,hcc,hid⟩:=ha
 dsimp only at hk hle hcc hid ⊢
 have hnx:=AHeap.get_lt hid
 simp only [go_sem]
 refine al (fun hc=>?_) (fun hc=>?_)
 ·have hk1:k<keys.length:=by simp at hc;omega
  have e5:IntKind.i64.wrap ((k:Int)+1)=((k+1:Nat):Int):=by rw [wrap_i64]<;>omega
  have hfl:=@eO keys k
  have hkl:=@ny keys[k].name keys[k].kind
  have hkv:cz keys[k].name keys[k].kind=(jO keys[k].kind).map fun a=>(keys[k].name,a):=rfl
  simp only [go_sem,c6,f7 hk1,Int.toNat_natCast,nY]
  generalize jO keys[k].kind=at0 at *
  have hk0:cz keys[k].name keys[k].kind=at0.map fun a=>(keys[k].name,a):=hkv
  have hal:at0.length≤2:=by rw [hk0,ybb] at hkl;exact hkl
  refine ⟨by omega,?_⟩
  simp only [go_sem,gL]
  refine az (A:=Nat × AHeap) (fun a=>[(3,.slice (.own (H.nx+1+1)) 2 (av (((keys.take k).flatMap fun k=>cz k.name k.kind)++(at0.take a.1).map fun x=>(keys[k].name,x)))),(5,.ptr Hc.nx 0),(9,.slice m 3 (keys.map bS)),(10,.int .i64 (keys.length:Int)),(11,.int .i64 (k:Int)),(17,.slice .any 1 (sAV at0)),(18,.int .i64 (at0.length:Int)),(19,.int .i64 (a.1:Int))]) (fun a=>a.2)
   (fun a=>a.1≤at0.length∧H.Le a.2∧a.2.Closed∧a.2.get (H.nx+1+1)=some (.buf 2 (((keys.take k).flatMap fun k=>cz k.name k.kind)++(at0.take a.1).map fun x=>(keys[k].name,x)).length)∧a.2.get Hc.nx=some (.cells [.str keys[k].name,.int .i64 keys[k].field,.int .i64 keys[k].kind])) (fun a=>at0.length - a.1)
   (0,Hc.push (.cells [.str keys[k].name,.int .i64 keys[k].field,.int .i64 keys[k].kind])) ⟨Nat.zero_le _,hle.push _,ae hcc (by simp [zno,znp,znb,zmz]),?_,AHeap.get_push_new _ _⟩ ?_ fun a ha=>?_
  ·dsimp only
   rw [AHeap.get_push_lt _ _ hnx,hid];simp
  ·have hc0:=ae (cs:=[.str keys[k].name,.int .i64 keys[k].field,.int .i64 keys[k].kind]) hcc (by simp [zno,znp,znb,zmz])
   have hnn:H.nx≤Hc.nx:=by omega
   (simp only [bkq,enterW,bd,ltF,ne_eq,Nat.reduceEqDiff,reduceCtorEq,hc0,hm,varsAV_lt,eB,hnn];try simp (disch:=first|assumption|omega|(simp;done)|(simp;omega)|(simp only [bt,and_true];first|done|omega|(simp;done))) [↓zmi,beq,ybc,ybd,ybe,ag,wk,wk2,wk1,wkM,wkL,ak,ybf,byq,biq,aj,hcl,hc0,hm,varsAV_lt,eB,hnn];try (repeat' (first|assumption|omega|exact True.intro|refine And.intro ?_ ?_|refine af ?_|refine aa ?_|refine ae ?_ ?_|refine ah ?_ ?_|refine ai ?_|exact AHeap.Le.refl _|refine AHeap.Le.push ?_ _|refine AHeap.Le.del ?_ ?_|(simp only [bt,and_true,true_and,hc0,hm,varsAV_lt,eB,hnn];first|done|omega|(simp;done)))))
  obtain ⟨j,Hd⟩:=a
  obtain ⟨hj,hle2,hcd,hid2,hky⟩:=ha
  dsimp only at hj hle2 hcd hid2 hky ⊢
  have hnx2:=AHeap.get_lt hid2
  have hnx3:=AHeap.get_lt hky
  simp only [go_sem]
  refine al (fun hc=>?_) (fun hc=>?_)
  ·have hj1:j<at0.length:=by simp at hc;omega
   have e6:IntKind.i64.wrap ((j:Int)+1)=((j+1:Nat):Int):=by rw [wrap_i64]<;>omega
   have hsg:(sAV at0).getD j .junk=.str at0[j]:=by rw [rC hj1];simp [List.getD_eq_getElem?_getD,hj1]
   have htk:(at0.take (j+1)).map (fun x=>(keys[k].name,x))=(at0.take j).map (fun x=>(keys[k].name,x))++[(keys[k].name,at0[j])]:=by rw [← List.take_append_getElem hj1,List.map_append];rfl
   have n1:(Hc.nx=Hd.nx)=False:=eq_false (by omega)
   have n2:(H.nx+1+1=Hd.nx)=False:=eq_false (by omega)
   simp only [go_sem,gL,hsg,Int.toNat_natCast,hky,bx hky,hid2,aV,n1,n2,e6]
   obtain ⟨LL,hLL⟩:∃ LL,(((keys.take k).flatMap fun k=>cz k.name k.kind)++(at0.take j).map fun x=>(keys[k].name,x))=LL:=⟨_,rfl⟩
   have hll:LL.length≤2*k+2:=by rw [← hLL,List.length_append,ybb,List.length_take];omega
   have hln:((keys.take k).flatMap fun k=>cz k.name k.kind)++(at0.take (j+1)).map (fun x=>(keys[k].name,x))=LL++[(keys[k].name,at0[j])]:=by rw [htk,← List.append_assoc,hLL]
   have hsn:av LL++[.agg [.str keys[k].name,.str at0[j]]]=av (LL++[(keys[k].name,at0[j])]):=fE (v:=(keys[k].name,at0[j]))
   rw [hLL]
   refine ⟨by omega,⟨by omega,by omega,fun z hz=>by rw [List.mem_singleton.1 hz];rfl⟩,(j+1,Hd.set (H.nx+1+1) (.buf 2 (LL.length+1))),⟨by dsimp only;omega,bB hle2 (by omega),aa hcd,?_,?_⟩,by dsimp only;omega,?_⟩
   ·dsimp only
    rw [bb,if_pos rfl,if_pos hnx2,hln];simp
   ·dsimp only
    rw [bb,if_neg (by omega),hky]
   ·have hnn:H.nx≤Hd.nx:=by omega
    have hcs:=@aa Hd (H.nx+1+1) 2 (LL.length+1) hcd
    dsimp only
    rw [hln,hsn]
    (simp only [bkq,enterW,bd,ltF,ne_eq,Nat.reduceEqDiff,reduceCtorEq,hcs,hm,varsAV_lt,eB,hnn];try simp (disch:=first|assumption|omega|(simp;done)|(simp;omega)|(simp only [bt,and_true];first|done|omega|(simp;done))) [↓zmi,beq,ybc,ybd,ybe,ag,wk,wk2,wk1,wkM,wkL,ak,ybf,byq,biq,aj,hcl,hcs,hm,varsAV_lt,eB,hnn];try (repeat' (first|assumption|omega|exact True.intro|refine And.intro ?_ ?_|refine af ?_|refine aa ?_|refine ae ?_ ?_|refine ah ?_ ?_|refine ai ?_|exact AHeap.Le.refl _|refine AHeap.Le.push ?_ _|refine AHeap.Le.del ?_ ?_|(simp only [bt,and_true,true_and,hcs,hm,varsAV_lt,eB,hnn];first|done|omega|(simp;done)))))
  ·have hj1:j=at0.length:=by simp at hc;omega
   subst hj1
   rw [List.take_length,← hk0,← gv hk1] at hid2
   rw [List.take_length,← hk0,← gv (f:=fun k:SKey=>cz k.name k.kind) hk1]
   simp only [go_sem,e5]
   refine ⟨(k+1,Hd),⟨by dsimp only;omega,hle2,hcd,hid2⟩,by dsimp only;omega,?_⟩
   have hnn:H.nx≤Hd.nx:=by omega
   (simp only [bkq,enterW,bd,ltF,ne_eq,Nat.reduceEqDiff,reduceCtorEq,hcd,hm,varsAV_lt,hnn];try simp (disch:=first|assumption|omega|(simp;done)|(simp;omega)|(simp only [bt,and_true];first|done|omega|(simp;done))) [↓zmi,beq,ybc,ybd,ybe,ag,wk,wk2,wk1,wkM,wkL,ak,ybf,byq,biq,aj,hcl,hcd,hm,varsAV_lt,hnn];try (repeat' (first|assumption|omega|exact True.intro|refine And.intro ?_ ?_|refine af ?_|refine aa ?_|refine ae ?_ ?_|refine ah ?_ ?_|refine ai ?_|exact AHeap.Le.refl _|refine AHeap.Le.push ?_ _|refine AHeap.Le.del ?_ ?_|(simp only [bt,and_true,true_and,hcd,hm,varsAV_lt,hnn];first|done|omega|(simp;done)))))
 ·have hk1:k=keys.length:=by simp at hc;omega
  subst hk1
  rw [List.take_length] at hid
  rw [List.take_length]
  have hfl:=@eO keys keys.length
  rw [List.take_length] at hfl
  have n1:(H.nx+1+1=Hc.nx)=False:=eq_false (by omega)
  have htab:gO keys=(keys.flatMap fun k=>cz k.name k.kind)++[l4]:=rfl
  rw [htab]
  clear htab
  generalize (keys.flatMap fun k=>cz k.name k.kind)=G at *
  have hsn:av G++[.agg [.str [112,114,105,111,114,105,116,121],.str []]]=av (G++[l4]):=fE (v:=l4)
  simp only [go_sem,hid,n1,aV]
  refine ⟨⟨by omega,by omega,fun z hz=>by rw [List.mem_singleton.1 hz];rfl⟩,?_⟩
  rw [hsn]
  have hle3:=(bB hle (show H.nx≤H.nx+1+1 by omega) (o:=.buf 2 (G.length+1))).push (.buf 2 1)
  simp (disch:=first|assumption|omega|(simp;done)|(simp;omega)|(simp only [bt,and_true];first|done|omega|(simp;done))) [↓zmi,beq,ybc,ybd,ybe,ag,wk,wk2,wk1,wkM,wkL,ak,ybf,hcl,hle3,varsAV_lt]
end Go.AL
open Go Go.AL Go.Proofs
namespace Go.AL
set_option linter.all false
set_option maxRecDepth 10000
theorem eA {l:List SParam}:(l.map bv).length=l.length:=ybb ..
theorem lK {l:List SParam} {k:Nat} (h:k<l.length):(l.map bv).getD k .junk=.agg [.str l[k].name,.int .i64 l[k].bits]:=by
 simp [List.getD_eq_getElem?_getD,h,bv]
def cW (l:List SParam):List VN:=l.map fun p=>(p.name,[])
def e7:List AV→AHeap→(AV→Prop)→Prop
 |[.agg [_,_,.slice _ 3 x,_,_,_,_,_]],_,K=>∃ keys,(x=keys.map bS∧keys.length≤1000)∧K (.slice .any 2 (av (gO keys)))
 |_,_,_=>False
theorem my:EntOk Try.prog 24 (Ent.pure e7):=by
 refine EntOk.pure fun args H K h=>?_
 unfold e7 at h
 split at h
 rotate_left
 ·exact h.elim
 rename_i a1 a2 m x a3 a4 a5 a6 a7
 obtain ⟨keys,⟨rfl,hl⟩,hK⟩:=h
 refine ⟨_,hK,?_⟩
 clear hK
 refine ACalls.fW aE TblOk.nil Try.func24 [.tmp 2] (Nat.le_refl _) (T:=ax []) (h:=fun hcl hlt=>?_)
 have hx:=AV.lt_mono (Nat.le_succ H.nx) _ (hlt (.agg [a1,a2,.slice m 3 (keys.map bS),a3,a4,a5,a6,a7]) (by simp))
 have hm:∀ n',H.nx≤n'→AV.lt n' (.slice m 3 (keys.map bS)):=fun n' hn=>AV.lt_mono hn _ (by have h1:=hlt (.agg [a1,a2,.slice m 3 (keys.map bS),a3,a4,a5,a6,a7]) (by simp);rw [znl] at h1;exact h1.2.2.1)
 simp only [znl] at hx
 clear hlt
 simp only [go_sem,c6]
 refine az (A:=Nat × AHeap) (fun a=>[(3,.slice (.own (H.nx+1+1)) 2 (av ((keys.take a.1).flatMap fun k=>cz k.name k.kind))),(7,.slice m 3 (keys.map bS)),(8,.int .i64 (keys.length:Int)),(9,.int .i64 (a.1:Int))]) (fun a=>a.2)
  (fun a=>a.1≤keys.length∧H.Le a.2∧a.2.Closed∧a.2.get (H.nx+1+1)=some (.buf 2 ((keys.take a.1).flatMap fun k=>cz k.name k.kind).length)) (fun a=>keys.length - a.1)
  (0,((H.push (.cells [a1,a2,.slice m 3 (keys.map bS),a3,a4,a5,a6,a7])).push (.buf 2 0)).push (.buf 2 0)) ⟨Nat.zero_le _,(((AHeap.Le.refl _).push _).push _).push _,af (af (ae hcl hx)),AHeap.get_push_new _ _⟩ ?_ fun a ha=>?_
 ·have hc0:=af (a:=2) (b:=0) (af (a:=2) (b:=0) (ae hcl hx))
  (simp only [bkq,enterW,bd,ltF,ne_eq,Nat.reduceEqDiff,reduceCtorEq,hc0,hm,varsAV_lt];try simp (disch:=first|assumption|omega|(simp;done)|(simp;omega)|(simp only [bt,and_true];first|done|omega|(simp;done))) [↓zmi,beq,ybc,ybd,ybe,ag,wk,wk2,wk1,wkM,wkL,ak,ybf,byq,biq,aj,hcl,hc0,hm,varsAV_lt];try (repeat' (first|assumption|omega|exact True.intro|refine And.intro ?_ ?_|refine af ?_|refine aa ?_|refine ae ?_ ?_|refine ah ?_ ?_|refine ai ?_|exact AHeap.Le.refl _|refine AHeap.Le.push ?_ _|refine AHeap.Le.del ?_ ?_|(simp only [bt,and_true,true_and,hc0,hm,varsAV_lt];first|done|omega|(simp;done)))))
  simp [av]
 obtain ⟨k,Hc⟩:=a
 obtain ⟨hk,hle,hcc,hid⟩:=ha
 dsimp only at hk hle hcc hid ⊢
 have hnx:=AHeap.get_lt hid
 simp only [go_sem]
 refine al (fun hc=>?_) (fun hc=>?_)
 ·have hk1:k<keys.length:=by simp at hc;omega
  have e5:IntKind.i64.wrap ((k:Int)+1)=((k+1:Nat):Int):=by rw [wrap_i64]<;>omega
  have hfl:=@eO keys k
  have n1:(Hc.nx=H.nx+1+1)=False:=eq_false (by omega)
  have n2:(H.nx+1+1=Hc.nx)=False:=eq_false (by omega)
  have n3:(H.nx+1+1=Hc.nx+1)=False:=eq_false (by omega)
  obtain ⟨LL,hLL⟩:∃ LL,((keys.take k).flatMap fun k=>cz k.name k.kind)=LL:=⟨_,rfl⟩
  rw [hLL] at hid hfl ⊢
  have hnn:H.nx≤Hc.nx:=by omega
  have hln0:(keys.take (k+1)).flatMap (fun k=>cz k.name k.kind)=LL++cz keys[k].name keys[k].kind:=by rw [gv hk1,hLL]
  generalize hkd:keys[k].kind=kd at *
  by_cases h1:kd=1
  ·subst h1
   have hln:(keys.take (k+1)).flatMap (fun k=>cz k.name k.kind)=LL++[(keys[k].name,[]),(keys[k].name,[118,97,108,117,101])]:=hln0
   have hsn:av LL++[.agg [.str keys[k].name,.str []],.agg [.str keys[k].name,.str [118,97,108,117,101]]]=av (LL++[(keys[k].name,[]),(keys[k].name,[118,97,108,117,101])]):=by simp [av,cK]
   simp only [go_sem,c6,f7 hk1,Int.toNat_natCast,hkd,Int.reduceBEq,hid,aV,n1,n2,n3,e5]
   refine ⟨by omega,⟨by omega,by omega,fun z hz=>by simp only [List.mem_cons,List.not_mem_nil,or_false] at hz;(try rcases hz with rfl|rfl)<;>(try subst hz)<;>rfl⟩,(k+1,Hc.set (H.nx+1+1) (.buf 2 (LL.length+2))),⟨by dsimp only;omega,bB hle (by omega),aa hcc,?_⟩,by dsimp only;omega,?_⟩
   ·dsimp only
    rw [bb,if_pos rfl,if_pos hnx,hln];simp
   ·have hcs:=@aa Hc (H.nx+1+1) 2 (LL.length+2) hcc
    dsimp only
    rw [hln]
    try rw [hsn]
    (simp only [bkq,enterW,bd,ltF,ne_eq,Nat.reduceEqDiff,reduceCtorEq,hcs,hm,varsAV_lt,hnn];try simp (disch:=first|assumption|omega|(simp;done)|(simp;omega)|(simp only [bt,and_true];first|done|omega|(simp;done))) [↓zmi,beq,ybc,ybd,ybe,ag,wk,wk2,wk1,wkM,wkL,ak,ybf,byq,biq,aj,hcl,hcs,hm,varsAV_lt,hnn];try (repeat' (first|assumption|omega|exact True.intro|refine And.intro ?_ ?_|refine af ?_|refine aa ?_|refine ae ?_ ?_|refine ah ?_ ?_|refine ai ?_|exact AHeap.Le.refl _|refine AHeap.Le.push ?_ _|refine AHeap.Le.del ?_ ?_|(simp only [bt,and_true,true_and,hcs,hm,varsAV_lt,hnn];first|done|omega|(simp;done)))))
  have d1:(kd==1)=false:=beq_eq_false_iff_ne.2 h1
  by_cases h2:kd=2
  ·subst h2
   have hln:(keys.take (k+1)).flatMap (fun k=>cz k.name k.kind)=LL++[(keys[k].name,[118,97,108,117,101]),(keys[k].name,[112,114,101,102,105,120,95,108,101,110,103,116,104])]:=hln0
   have hsn:av LL++[.agg [.str keys[k].name,.str [118,97,108,117,101]],.agg [.str keys[k].name,.str [112,114,101,102,105,120,95,108,101,110,103,116,104]]]=av (LL++[(keys[k].name,[118,97,108,117,101]),(keys[k].name,[112,114,101,102,105,120,95,108,101,110,103,116,104])]):=by simp [av,cK]
   simp only [go_sem,c6,f7 hk1,Int.toNat_natCast,hkd,Int.reduceBEq,hid,aV,n1,n2,n3,e5]
   refine ⟨by omega,⟨by omega,by omega,fun z hz=>by simp only [List.mem_cons,List.not_mem_nil,or_false] at hz;(try rcases hz with rfl|rfl)<;>(try subst hz)<;>rfl⟩,(k+1,Hc.set (H.nx+1+1) (.buf 2 (LL.length+2))),⟨by dsimp only;omega,bB hle (by omega),aa hcc,?_⟩,by dsimp only;omega,?_⟩
   ·dsimp only
    rw [bb,if_pos rfl,if_pos hnx,hln];simp
   ·have hcs:=@aa Hc (H.nx+1+1) 2 (LL.length+2) hcc
    dsimp only
    rw [hln]
    try rw [hsn]
    (simp only [bkq,enterW,bd,ltF,ne_eq,Nat.reduceEqDiff,reduceCtorEq,hcs,hm,varsAV_lt,hnn];try simp (disch:=first|assumption|omega|(simp;done)|(simp;omega)|(simp only [bt,and_true];first|done|omega|(simp;done))) [↓zmi,beq,ybc,ybd,ybe,ag,wk,wk2,wk1,wkM,wkL,ak,ybf,byq,biq,aj,hcl,hcs,hm,varsAV_lt,hnn];try (repeat' (first|assumption|omega|exact True.intro|refine And.intro ?_ ?_|refine af ?_|refine aa ?_|refine ae ?_ ?_|refine ah ?_ ?_|refine ai ?_|exact AHeap.Le.refl _|refine AHeap.Le.push ?_ _|refine AHeap.Le.del ?_ ?_|(simp only [bt,and_true,true_and,hcs,hm,varsAV_lt,hnn];first|done|omega|(simp;done)))))
  have d2:(kd==2)=false:=beq_eq_false_iff_ne.2 h2
  by_cases h3:kd=3
  ·subst h3
   have hln:(keys.take (k+1)).flatMap (fun k=>cz k.name k.kind)=LL++[(keys[k].name,[118,97,108,117,101]),(keys[k].name,[109,97,115,107])]:=hln0
   have hsn:av LL++[.agg [.str keys[k].name,.str [118,97,108,117,101]],.agg [.str keys[k].name,.str [109,97,115,107]]]=av (LL++[(keys[k].name,[118,97,108,117,101]),(keys[k].name,[109,97,115,107])]):=by simp [av,cK]
   simp only [go_sem,c6,f7 hk1,Int.toNat_natCast,hkd,Int.reduceBEq,hid,aV,n1,n2,n3,e5]
   refine ⟨by omega,⟨by omega,by omega,fun z hz=>by simp only [List.mem_cons,List.not_mem_nil,or_false] at hz;(try rcases hz with rfl|rfl)<;>(try subst hz)<;>rfl⟩,(k+1,Hc.set (H.nx+1+1) (.buf 2 (LL.length+2))),⟨by dsimp only;omega,bB hle (by omega),aa hcc,?_⟩,by dsimp only;omega,?_⟩
   ·dsimp only
    rw [bb,if_pos rfl,if_pos hnx,hln];simp
   ·have hcs:=@aa Hc (H.nx+1+1) 2 (LL.length+2) hcc
    dsimp only
    rw [hln]
    try rw [hsn]
    (simp only [bkq,enterW,bd,ltF,ne_eq,Nat.reduceEqDiff,reduceCtorEq,hcs,hm,varsAV_lt,hnn];try simp (disch:=first|assumption|omega|(simp;done)|(simp;omega)|(simp only [bt,and_true];first|done|omega|(simp;done))) [↓zmi,beq,ybc,ybd,ybe,ag,wk,wk2,wk1,wkM,wkL,ak,ybf,byq,biq,aj,hcl,hcs,hm,varsAV_lt,hnn];try (repeat' (first|assumption|omega|exact True.intro|refine And.intro ?_ ?_|refine af ?_|refine aa ?_|refine ae ?_ ?_|refine ah ?_ ?_|refine ai ?_|exact AHeap.Le.refl _|refine AHeap.Le.push ?_ _|refine AHeap.Le.del ?_ ?_|(simp only [bt,and_true,true_and,hcs,hm,varsAV_lt,hnn];first|done|omega|(simp;done)))))
  have d3:(kd==3)=false:=beq_eq_false_iff_ne.2 h3
  by_cases h4:kd=4
  ·subst h4
   have hln:(keys.take (k+1)).flatMap (fun k=>cz k.name k.kind)=LL++[(keys[k].name,[108,111,119]),(keys[k].name,[104,105,103,104])]:=hln0
   have hsn:av LL++[.agg [.str keys[k].name,.str [108,111,119]],.agg [.str keys[k].name,.str [104,105,103,104]]]=av (LL++[(keys[k].name,[108,111,119]),(keys[k].name,[104,105,103,104])]):=by simp [av,cK]
   simp only [go_sem,c6,f7 hk1,Int.toNat_natCast,hkd,Int.reduceBEq,hid,aV,n1,n2,n3,e5]
   refine ⟨by omega,⟨by omega,by omega,fun z hz=>by simp only [List.mem_cons,List.not_mem_nil,or_false] at hz;(try rcases hz with rfl|rfl)<;>(try subst hz)<;>rfl⟩,(k+1,Hc.set (H.nx+1+1) (.buf 2 (LL.length+2))),⟨by dsimp only;omega,bB hle (by omega),aa hcc,?_⟩,by dsimp only;omega,?_⟩
   ·dsimp only
    rw [bb,if_pos rfl,if_pos hnx,hln];simp
   ·have hcs:=@aa Hc (H.nx+1+1) 2 (LL.length+2) hcc
    dsimp only
    rw [hln]
    try rw [hsn]
    (simp only [bkq,enterW,bd,ltF,ne_eq,Nat.reduceEqDiff,reduceCtorEq,hcs,hm,varsAV_lt,hnn];try simp (disch:=first|assumption|omega|(simp;done)|(simp;omega)|(simp only [bt,and_true];first|done|omega|(simp;done))) [↓zmi,beq,ybc,ybd,ybe,ag,wk,wk2,wk1,wkM,wkL,ak,ybf,byq,biq,aj,hcl,hcs,hm,varsAV_lt,hnn];try (repeat' (first|assumption|omega|exact True.intro|refine And.intro ?_ ?_|refine af ?_|refine aa ?_|refine ae ?_ ?_|refine ah ?_ ?_|refine ai ?_|exact AHeap.Le.refl _|refine AHeap.Le.push ?_ _|refine AHeap.Le.del ?_ ?_|(simp only [bt,and_true,true_and,hcs,hm,varsAV_lt,hnn];first|done|omega|(simp;done)))))
  have d4:(kd==4)=false:=beq_eq_false_iff_ne.2 h4
  have hln:(keys.take (k+1)).flatMap (fun k=>cz k.name k.kind)=LL:=by
   rw [hln0]
   unfold cz jO
   rw [if_neg h1,if_neg h2,if_neg h3,if_neg h4];simp
  simp only [go_sem,c6,f7 hk1,Int.toNat_natCast,hkd,d1,d2,d3,d4,e5]
  refine ⟨by omega,(k+1,Hc),⟨by dsimp only;omega,hle,hcc,?_⟩,by dsimp only;omega,?_⟩
  ·dsimp only
   rw [hln,hid]
  ·dsimp only
   rw [hln]
   (simp only [bkq,enterW,bd,ltF,ne_eq,Nat.reduceEqDiff,reduceCtorEq,hcc,hm,varsAV_lt,hnn];try simp (disch:=first|assumption|omega|(simp;done)|(simp;omega)|(simp only [bt,and_true];first|done|omega|(simp;done))) [↓zmi,beq,ybc,ybd,ybe,ag,wk,wk2,wk1,wkM,wkL,ak,ybf,byq,biq,aj,hcl,hcc,hm,varsAV_lt,hnn];try (repeat' (first|assumption|omega|exact True.intro|refine And.intro ?_ ?_|refine af ?_|refine aa ?_|refine ae ?_ ?_|refine ah ?_ ?_|refine ai ?_|exact AHeap.Le.refl _|refine AHeap.Le.push ?_ _|refine AHeap.Le.del ?_ ?_|(simp only [bt,and_true,true_and,hcc,hm,varsAV_lt,hnn];first|done|omega|(simp;done)))))
 ·have hk1:k=keys.length:=by simp at hc;omega
  subst hk1
  rw [List.take_length] at hid
  rw [List.take_length]
  have hfl:=@eO keys keys.length
  rw [List.take_length] at hfl
  have n1:(H.nx+1+1=Hc.nx)=False:=eq_false (by omega)
  have htab:gO keys=(keys.flatMap fun k=>cz k.name k.kind)++[l4]:=rfl
  rw [htab]
  clear htab
  generalize (keys.flatMap fun k=>cz k.name k.kind)=G at *
  have hsn:av G++[.agg [.str [112,114,105,111,114,105,116,121],.str []]]=av (G++[l4]):=fE (v:=l4)
  simp only [go_sem,hid,n1,aV]
  refine ⟨⟨by omega,by omega,fun z hz=>by rw [List.mem_singleton.1 hz];rfl⟩,?_⟩
  rw [hsn]
  have hle3:=(bB hle (show H.nx≤H.nx+1+1 by omega) (o:=.buf 2 (G.length+1))).push (.buf 2 1)
  simp (disch:=first|assumption|omega|(simp;done)|(simp;omega)|(simp only [bt,and_true];first|done|omega|(simp;done))) [↓zmi,beq,ybc,ybd,ybe,ag,wk,wk2,wk1,wkM,wkL,ak,ybf,hcl,hle3,varsAV_lt]
def eL:List AV→AHeap→(AV→Prop)→Prop
 |[.agg [_,_,.slice _ 2 x,_,_]],_,K=>∃ keys,(x=keys.map bv∧keys.length≤1000)∧K (.slice .any 2 (av (cW keys)))
 |_,_,_=>False
theorem mi:EntOk Try.prog 25 (Ent.pure eL):=by
 refine EntOk.pure fun args H K h=>?_
 unfold eL at h
 split at h
 rotate_left
 ·exact h.elim
 rename_i a1 a2 m x a3 a4
 obtain ⟨keys,⟨rfl,hl⟩,hK⟩:=h
 refine ⟨_,hK,?_⟩
 clear hK
 refine ACalls.fW aE TblOk.nil Try.func25 [.tmp 2] (Nat.le_refl _) (T:=ax []) (h:=fun hcl hlt=>?_)
 have hx:=AV.lt_mono (Nat.le_succ H.nx) _ (hlt (.agg [a1,a2,.slice m 2 (keys.map bv),a3,a4]) (by simp))
 have hm:∀ n',H.nx≤n'→AV.lt n' (.slice m 2 (keys.map bv)):=fun n' hn=>AV.lt_mono hn _ (by have h1:=hlt (.agg [a1,a2,.slice m 2 (keys.map bv),a3,a4]) (by simp);rw [znl] at h1;exact h1.2.2.1)
 simp only [znl] at hx
 clear hlt
 simp only [go_sem,eA]
 refine az (A:=Nat × AHeap) (fun a=>[(3,.slice (.own (H.nx+1+1)) 2 (av (cW (keys.take a.1)))),(7,.slice m 2 (keys.map bv)),(8,.int .i64 (keys.length:Int)),(9,.int .i64 (a.1:Int))]) (fun a=>a.2)
  (fun a=>a.1≤keys.length∧H.Le a.2∧a.2.Closed∧a.2.get (H.nx+1+1)=some (.buf 2 (cW (keys.take a.1)).length)) (fun a=>keys.length - a.1)
  (0,((H.push (.cells [a1,a2,.slice m 2 (keys.map bv),a3,a4])).push (.buf 2 0)).push (.buf 2 0)) ⟨Nat.zero_le _,(((AHeap.Le.refl _).push _).push _).push _,af (af (ae hcl hx)),AHeap.get_push_new _ _⟩ ?_ fun a ha=>?_
 ·have hc0:=af (a:=2) (b:=0) (af (a:=2) (b:=0) (ae hcl hx))
  (simp only [bkq,enterW,bd,ltF,ne_eq,Nat.reduceEqDiff,reduceCtorEq,hc0,hm,varsAV_lt];try simp (disch:=first|assumption|omega|(simp;done)|(simp;omega)|(simp only [bt,and_true];first|done|omega|(simp;done))) [↓zmi,beq,ybc,ybd,ybe,ag,wk,wk2,wk1,wkM,wkL,ak,ybf,byq,biq,aj,hcl,hc0,hm,varsAV_lt];try (repeat' (first|assumption|omega|exact True.intro|refine And.intro ?_ ?_|refine af ?_|refine aa ?_|refine ae ?_ ?_|refine ah ?_ ?_|refine ai ?_|exact AHeap.Le.refl _|refine AHeap.Le.push ?_ _|refine AHeap.Le.del ?_ ?_|(simp only [bt,and_true,true_and,hc0,hm,varsAV_lt];first|done|omega|(simp;done)))))
  simp [av,cW]
 obtain ⟨k,Hc⟩:=a
 obtain ⟨hk,hle,hcc,hid⟩:=ha
 dsimp only at hk hle hcc hid ⊢
 have hnx:=AHeap.get_lt hid
 simp only [go_sem]
 refine al (fun hc=>?_) (fun hc=>?_)
 ·have hk1:k<keys.length:=by simp at hc;omega
  have e5:IntKind.i64.wrap ((k:Int)+1)=((k+1:Nat):Int):=by rw [wrap_i64]<;>omega
  have hfl:(cW (keys.take k)).length≤2*k:=by simp only [cW,ybb,List.length_take];omega
  have n1:(Hc.nx=H.nx+1+1)=False:=eq_false (by omega)
  have n2:(H.nx+1+1=Hc.nx)=False:=eq_false (by omega)
  have n3:(H.nx+1+1=Hc.nx+1)=False:=eq_false (by omega)
  obtain ⟨LL,hLL⟩:∃ LL,(cW (keys.take k))=LL:=⟨_,rfl⟩
  rw [hLL] at hid hfl ⊢
  have hnn:H.nx≤Hc.nx:=by omega
  have hln:cW (keys.take (k+1))=LL++[(keys[k].name,[])]:=by rw [← hLL,← List.take_append_getElem hk1];simp only [cW,List.map_append,yae,yaf]
  have hsn:av LL++[.agg [.str keys[k].name,.str []]]=av (LL++[(keys[k].name,[])]):=by simp [av,cK]
  simp only [go_sem,eA,lK hk1,Int.toNat_natCast,hid,aV,n1,n2,n3,e5]
  refine ⟨by omega,⟨by omega,by omega,fun z hz=>by simp only [List.mem_cons,List.not_mem_nil,or_false] at hz;(try rcases hz with rfl|rfl)<;>(try subst hz)<;>rfl⟩,(k+1,Hc.set (H.nx+1+1) (.buf 2 (LL.length+1))),⟨by dsimp only;omega,bB hle (by omega),aa hcc,?_⟩,by dsimp only;omega,?_⟩
  ·dsimp only
   rw [bb,if_pos rfl,if_pos hnx,hln];simp
  ·have hcs:=@aa Hc (H.nx+1+1) 2 (LL.length+1) hcc
   dsimp only
   rw [hln]
   try rw [hsn]
   (simp only [bkq,enterW,bd,ltF,ne_eq,Nat.reduceEqDiff,reduceCtorEq,hcs,hm,varsAV_lt,hnn];try simp (disch:=first|assumption|omega|(simp;done)|(simp;omega)|(simp only [bt,and_true];first|done|omega|(simp;done))) [↓zmi,beq,ybc,ybd,ybe,ag,wk,wk2,wk1,wkM,wkL,ak,ybf,byq,biq,aj,hcl,hcs,hm,varsAV_lt,hnn];try (repeat' (first|assumption|omega|exact True.intro|refine And.intro ?_ ?_|refine af ?_|refine aa ?_|refine ae ?_ ?_|refine ah ?_ ?_|refine ai ?_|exact AHeap.Le.refl _|refine AHeap.Le.push ?_ _|refine AHeap.Le.del ?_ ?_|(simp only [bt,and_true,true_and,hcs,hm,varsAV_lt,hnn];first|done|omega|(simp;done)))))
 ·have hk1:k=keys.length:=by simp at hc;omega
  subst hk1
  rw [List.take_length] at hid
  rw [List.take_length]
  simp only [go_sem]
  simp (disch:=first|assumption|omega|(simp;done)|(simp;omega)|(simp only [bt,and_true];first|done|omega|(simp;done))) [↓zmi,beq,ybc,ybd,ybe,ag,wk,wk2,wk1,wkM,wkL,ak,ybf,hcl,hle,varsAV_lt]
def eJ:List AV→AHeap→(AV→Prop)→Prop
 |[.agg [_,_,.slice _ 2 x,_,_]],_,K=>∃ keys,(x=keys.map bv∧keys.length≤1000)∧K (.slice .any 2 (av (cW keys)))
 |_,_,_=>False
theorem lB:EntOk Try.prog 26 (Ent.pure eJ):=by
 refine EntOk.pure fun args H K h=>?_
 unfold eJ at h
 split at h
 rotate_left
 ·exact h.elim
 rename_i a1 a2 m x a3 a4
 obtain ⟨keys,⟨rfl,hl⟩,hK⟩:=h
 refine ⟨_,hK,?_⟩
 clear hK
 refine ACalls.fW aE TblOk.nil Try.func26 [.tmp 2] (Nat.le_refl _) (T:=ax []) (h:=fun hcl hlt=>?_)
 have hx:=AV.lt_mono (Nat.le_succ H.nx) _ (hlt (.agg [a1,a2,.slice m 2 (keys.map bv),a3,a4]) (by simp))
 have hm:∀ n',H.nx≤n'→AV.lt n' (.slice m 2 (keys.map bv)):=fun n' hn=>AV.lt_mono hn _ (by have h1:=hlt (.agg [a1,a2,.slice m 2 (keys.map bv),a3,a4]) (by simp);rw [znl] at h1;exact h1.2.2.1)
 simp only [znl] at hx
 clear hlt
 simp only [go_sem,eA]
 refine az (A:=Nat × AHeap) (fun a=>[(3,.slice (.own (H.nx+1+1)) 2 (av (cW (keys.take a.1)))),(7,.slice m 2 (keys.map bv)),(8,.int .i64 (keys.length:Int)),(9,.int .i64 (a.1:Int))]) (fun a=>a.2)
  (fun a=>a.1≤keys.length∧H.Le a.2∧a.2.Closed∧a.2.get (H.nx+1+1)=some (.buf 2 (cW (keys.take a.1)).length)) (fun a=>keys.length - a.1)
  (0,((H.push (.cells [a1,a2,.slice m 2 (keys.map bv),a3,a4])).push (.buf 2 0)).push (.buf 2 0)) ⟨Nat.zero_le _,(((AHeap.Le.refl _).push _).push _).push _,af (af (ae hcl hx)),AHeap.get_push_new _ _⟩ ?_ fun a ha=>?_
 ·have hc0:=af (a:=2) (b:=0) (af (a:=2) (b:=0) (ae hcl hx))
  (simp only [bkq,enterW,bd,ltF,ne_eq,Nat.reduceEqDiff,reduceCtorEq,hc0,hm,varsAV_lt];try simp (disch:=first|assumption|omega|(simp;done)|(simp;omega)|(simp only [bt,and_true];first|done|omega|(simp;done))) [↓zmi,beq,ybc,ybd,ybe,ag,wk,wk2,wk1,wkM,wkL,ak,ybf,byq,biq,aj,hcl,hc0,hm,varsAV_lt];try (repeat' (first|assumption|omega|exact True.intro|refine And.intro ?_ ?_|refine af ?_|refine aa ?_|refine ae ?_ ?_|refine ah ?_ ?_|refine ai ?_|exact AHeap.Le.refl _|refine AHeap.Le.push ?_ _|refine AHeap.Le.del ?_ ?_|(simp only [bt,and_true,true_and,hc0,hm,varsAV_lt];first|done|omega|(simp;done)))))
  simp [av,cW]
 obtain ⟨k,Hc⟩:=a
 obtain ⟨hk,hle,hcc,hid⟩:=ha
 dsimp only at hk hle hcc hid ⊢
 have hnx:=AHeap.get_lt hid
 simp only [go_sem]
 refine al (fun hc=>?_) (fun hc=>?_)
 ·have hk1:k<keys.length:=by simp at hc;omega
  have e5:IntKind.i64.wrap ((k:Int)+1)=((k+1:Nat):Int):=by rw [wrap_i64]<;>omega
  have hfl:(cW (keys.take k)).length≤2*k:=by simp only [cW,ybb,List.length_take];omega
  have n1:(Hc.nx=H.nx+1+1)=False:=eq_false (by omega)
  have n2:(H.nx+1+1=Hc.nx)=False:=eq_false (by omega)
  have n3:(H.nx+1+1=Hc.nx+1)=False:=eq_false (by omega)
  obtain ⟨LL,hLL⟩:∃ LL,(cW (keys.take k))=LL:=⟨_,rfl⟩
  rw [hLL] at hid hfl ⊢
  have hnn:H.nx≤Hc.nx:=by omega
  have hln:cW (keys.take (k+1))=LL++[(keys[k].name,[])]:=by rw [← hLL,← List.take_append_getElem hk1];simp only [cW,List.map_append,yae,yaf]
  have hsn:av LL++[.agg [.str keys[k].name,.str []]]=av (LL++[(keys[k].name,[])]):=by simp [av,cK]
  simp only [go_sem,eA,lK hk1,Int.toNat_natCast,hid,aV,n1,n2,n3,e5]
  refine ⟨by omega,⟨by omega,by omega,fun z hz=>by simp only [List.mem_cons,List.not_mem_nil,or_false] at hz;(try rcases hz with rfl|rfl)<;>(try subst hz)<;>rfl⟩,(k+1,Hc.set (H.nx+1+1) (.buf 2 (LL.length+1))),⟨by dsimp only;omega,bB hle (by omega),aa hcc,?_⟩,by dsimp only;omega,?_⟩
  ·dsimp only
   rw [bb,if_pos rfl,if_pos hnx,hln];simp
  ·have hcs:=@aa Hc (H.nx+1+1) 2 (LL.length+1) hcc
   dsimp only
   rw [hln]
   try rw [hsn]
   (simp only [bkq,enterW,bd,ltF,ne_eq,Nat.reduceEqDiff,reduceCtorEq,hcs,hm,varsAV_lt,hnn];try simp (disch:=first|assumption|omega|(simp;done)|(simp;omega)|(simp only [bt,and_true];first|done|omega|(simp;done))) [↓zmi,beq,ybc,ybd,ybe,ag,wk,wk2,wk1,wkM,wkL,ak,ybf,byq,biq,aj,hcl,hcs,hm,varsAV_lt,hnn];try (repeat' (first|assumption|omega|exact True.intro|refine And.intro ?_ ?_|refine af ?_|refine aa ?_|refine ae ?_ ?_|refine ah ?_ ?_|refine ai ?_|exact AHeap.Le.refl _|refine AHeap.Le.push ?_ _|refine AHeap.Le.del ?_ ?_|(simp only [bt,and_true,true_and,hcs,hm,varsAV_lt,hnn];first|done|omega|(simp;done)))))
 ·have hk1:k=keys.length:=by simp at hc;omega
  subst hk1
  rw [List.take_length] at hid
  rw [List.take_length]
  simp only [go_sem]
  simp (disch:=first|assumption|omega|(simp;done)|(simp;omega)|(simp only [bt,and_true];first|done|omega|(simp;done))) [↓zmi,beq,ybc,ybd,ybe,ag,wk,wk2,wk1,wkM,wkL,ak,ybf,hcl,hle,varsAV_lt]
end Go.AL
open Go Go.AL Go.Proofs
namespace Go.AL
set_option linter.all false
set_option maxRecDepth 10000
theorem vG:bz [97,32,43,32,49]=([(2,[97],0),(3,[43],2),(1,[49],4)],0,0):=by decide +kernel
theorem wB:run [(2,[97],0),(3,[43],2),(1,[49],4)] 20 .imp 0 []=some (.ok 2 3 [⟨3,0,0,[97],[],0⟩,⟨1,0,0,[],[],1⟩,⟨6,0,1,[],[],0⟩]):=by kernel_rfl
theorem ul:bz [97,58,58,109,97,115,107,32,62,32,48]=([(2,[97],0),(3,[58,58],1),(2,[109,97,115,107],3),(3,[62],8),(1,[48],10)],0,0):=by decide +kernel
theorem wt:run [(2,[97],0),(3,[58,58],1),(2,[109,97,115,107],3),(3,[62],8),(1,[48],10)] 20 .imp 0 []=some (.ok 2 5 [⟨3,0,0,[97],[109,97,115,107],0⟩,⟨1,0,0,[],[],0⟩,⟨12,0,1,[],[],0⟩]):=by kernel_rfl
theorem rN {kn:VN→Bool} {s:List UInt8} {l:List Tok} {f:Nat} {r:PR} {a b:Nat} (hs:s≠[]) (h1:bz s=(l,a,b)) (h2:run l f .imp 0 []=some r):comp kn s=ur kn b (da l r):=by
 unfold comp
 rw [if_neg hs,h1]
 dsimp only
 rw [xS h2]
def pJ:List VN:=gO [⟨[97],0,1⟩]
theorem uT:(comp (bn pJ) [97,32,43,32,49]).2=12:=by
 rw [rN (by simp) vG wB]
 decide +kernel
theorem uc:(comp (bn pJ) [97,58,58,109,97,115,107,32,62,32,48]).2=6:=by
 rw [rN (by simp) ul wt]
 decide +kernel
theorem ve {kn:VN→Bool}:comp kn []=(wo,0):=by unfold comp;rw [if_pos rfl]
def fZ:List AV→AHeap→(AV→Prop)→Prop
 |[],_,K=>K (.bool true)
 |_,_,_=>False
theorem qF:EntOk Try.prog 13 (Ent.pure fZ):=by
 refine EntOk.pure fun args H K h=>?_
 unfold fZ at h
 split at h
 rotate_left
 ·exact h.elim
 refine ⟨_,h,?_⟩
 clear h
 refine ACalls.fW aE (TblOk.cons i9 (TblOk.cons p5 TblOk.nil)) Try.func13 [.tmp 0] (Nat.le_refl _) (T:=ax []) (h:=fun hcl hlt=>?_)
 clear hlt
 simp only [go_sem,d8]
 refine ⟨[⟨[97],0,1⟩],⟨rfl,by decide⟩,?_⟩
 have hov:vt pJ:=⟨by decide,by decide⟩
 have hvl:(av (gO [⟨[97],0,1⟩])).length=3:=rfl
 simp only [go_sem,fp]
 refine ⟨pJ,⟨rfl,hov⟩,?_⟩
 have c1:=uT
 generalize comp (bn pJ) [97,32,43,32,49]=q1 at *
 obtain ⟨t1,e1⟩:=q1
 have c1':e1=12:=c1
 subst c1'
 simp only [go_sem,fp,gE]
 refine ⟨pJ,⟨rfl,hov⟩,?_⟩
 have c2:=uc
 generalize comp (bn pJ) [97,58,58,109,97,115,107,32,62,32,48]=q2 at *
 obtain ⟨t2,e2⟩:=q2
 have c2':e2=6:=c2
 subst c2'
 simp only [go_sem,fp,gE]
 refine ⟨pJ,⟨rfl,hov⟩,?_⟩
 rw [ve]
 have d1:(((12:Nat):Int)==12)=true:=rfl
 have d2:(((6:Nat):Int)==6)=true:=rfl
 have d3:(((0:Nat):Int)==0)=true:=rfl
 have d4:(((1:Nat):Int)==1)=true:=rfl
 have d5:(((3:Nat):Int)==3)=true:=rfl
 have hol:(nds wo).length=1:=rfl
 simp only [go_sem,gE,d1,d2,d3,d4,d5,hol,hvl]
 simp (disch:=first|assumption|omega|(simp;done)|(simp;omega)|(simp only [bt,and_true];first|done|omega|(simp;done))) [↓zmi,beq,ybc,ybd,ybe,ag,wk,wk2,wk1,wkM,wkL,ak,ybf,hcl]
end Go.AL
open Go Go.AL Go.Proofs
namespace Go.AL
set_option linter.all false
set_option maxRecDepth 10000
theorem qj:ti Try.prog 83=some ⟨.slice 69,1,24,.slice .nil 1 []⟩:=by kernel_rfl
theorem pN:ti Try.prog 82=some ⟨.slice 73,1,24,.slice .nil 1 []⟩:=by kernel_rfl
theorem qC:ti Try.prog 88=some ⟨.struct [(0,79,false),(1,80,false),(2,81,false),(3,82,false),(4,83,false),(5,84,false),(6,85,false),(7,86,false),(8,3,false),(9,3,false)],10,208,.agg [.slice .nil 1 [],.slice .nil 1 [],.slice .nil 1 [],.slice .nil 1 [],.slice .nil 1 [],.slice .nil 1 [],.slice .nil 1 [],.slice .nil 1 [],.int .i64 0,.int .i64 0]⟩:=by kernel_rfl
attribute [go_sem] qj pN qC
def xx (t:STable):Prop:=t.keys.length≤400∧(∀ k∈t.keys,k.name.length≤1000)∧t.restr.length≤140737488355328
def xr (a:SAction):Prop:=a.params.length≤400∧(∀ k∈a.params,k.name.length≤1000)∧a.restr.length≤140737488355328
theorem oU {k:Int}:∀ a∈jO k,a.length≤1000:=by
 unfold jO
 split
 ·decide
 ·split
  ·decide
  ·split
   ·decide
   ·split
    ·decide
    ·intro a h;cases h
theorem uS {t:STable} (h:xx t):vt (gO t.keys):=by
 obtain ⟨h1,h2,_⟩:=h
 constructor
 ·have:=eO (l:=t.keys) (k:=t.keys.length)
  rw [List.take_length] at this
  unfold gO
  rw [List.length_append]
  simp only [yaz,yba]
  omega
 ·intro v hv
  rcases List.mem_append.1 hv with h|h
  ·obtain ⟨k,hk,hv⟩:=List.mem_flatMap.1 h
   obtain ⟨a,ha,rfl⟩:=List.mem_map.1 hv
   exact ⟨h2 k hk,oU a ha⟩
  ·rw [List.mem_singleton.1 h];decide
theorem uw {a:SAction} (h:xr a):vt (cW a.params):=by
 obtain ⟨h1,h2,_⟩:=h
 refine ⟨by unfold cW;rw [ybb];omega,fun v hv=>?_⟩
 obtain ⟨p,hp,rfl⟩:=List.mem_map.1 hv
 exact ⟨h2 p hp,Nat.zero_le _⟩
theorem tT {l:List STable}:(l.map bk).length=l.length:=ybb ..
theorem ug {l:List STable} {k:Nat} (h:k<l.length):(l.map bk).getD k .junk=.agg [.int .i64 l[k].id,.str l[k].name,.slice .any 3 (l[k].keys.map bS),.slice .any 1 (inL l[k].actions),.int .i64 l[k].dflt,.slice .any 2 (l[k].dargs.map vv),.int .i64 l[k].size,.str l[k].restr]:=by
 simp [List.getD_eq_getElem?_getD,h,bk]
theorem oZ {l:List SAction}:(l.map bw).length=l.length:=ybb ..
theorem ud {l:List SAction} {k:Nat} (h:k<l.length):(l.map bw).getD k .junk=.agg [.int .i64 l[k].id,.str l[k].name,.slice .any 2 (l[k].params.map bv),.slice .any 6 (l[k].body.map lv),.str l[k].restr]:=by
 simp [List.getD_eq_getElem?_getD,h,bw]
end Go.AL
