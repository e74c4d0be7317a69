/- Contracts and plain laws, a part of the proof; no condition of its own. -/
import Derived.Test.YtiiiljghmilepaaS08e
import Derived.Test.YtiiiljghmilepaaS07w
import Derived.Test.YtiiiljghmilepaaS10e
open List renaming length_cons → yaz, length_nil → yba, take_of_length_le → ybc, drop_append → ybd, take_append → ybe, drop_eq_nil_of_le → ybf, length_map → ybb
open Go Go.AL Go.Proofs
namespace Go.AL
set_option linter.all false
set_option maxRecDepth 10000
theorem uQ {P:Program} {f:FuncId} {args:List AV} {H:AHeap} {X:AV} (h:ACallsP P f args H (fun x H1=>x=X∧H1=H)):ACalls P f args H (.ret X) H:=by
 intro w γ vs hs hr
 have h:=h w γ vs hs hr
 generalize (callFunc f vs).run P w=rr at h ⊢
 unfold gM at h ⊢
 split at h
 ·exact h.mono fun en w' ⟨γ',x,H1,⟨hx,hH⟩,g1,g2,g3⟩=>by subst hx;subst hH;exact ⟨γ',g1,g2,g3⟩
 ·obtain ⟨γ',x,H1,⟨hx,hH⟩,g1,g2,g3⟩:=h
  subst hx;subst hH
  exact ⟨γ',g1,g2,g3⟩
 ·exact h
def mr:List AV→AHeap→(AV→Prop)→Prop
 |[.slice _ 3 x],_,K=>∃ l f r,(x=bP l∧run l f .imp 0 []=some r∧l.length≤1000∧jI l)∧K (eJ l r)
 |_,_,_=>False
theorem tU:EntOk Try.prog 12 (Ent.pure mr):=by
 refine EntOk.pure fun args H K h=>?_
 unfold mr at h
 split at h
 rotate_left
 ·exact h.elim
 rename_i m x
 obtain ⟨l,f,r,⟨rfl,hr,hl,hg⟩,hK⟩:=h
 refine ⟨_,hK,uQ ?_⟩
 have h0:EntOk Try.prog 12 (Ent.some (nc True 0)):=rn yC
 exact h0.2.2 _ rfl [.slice m 3 (bP l)] H _ ⟨l,f,r,⟨rfl,hr,hl,hg,fun _ _=>trivial⟩,rfl,rfl⟩
end Go.AL
open Go Go.AL Go.Proofs
namespace Go.AL
set_option linter.all false
set_option maxRecDepth 10000
theorem yx:ti Try.prog 119=some ⟨.struct [(0,9,false),(1,3,false),(2,3,false)],3,32,.agg [.str [],.int .i64 0,.int .i64 0]⟩:=by kernel_rfl
theorem xG:ti Try.prog 65=some ⟨.slice 119,1,24,.slice .nil 1 []⟩:=by kernel_rfl
theorem uM:ti Try.prog 69=some ⟨.struct [(0,3,false),(1,9,false),(2,65,false),(3,66,false),(4,3,false),(5,67,false),(6,3,false),(7,9,false)],8,128,.agg [.int .i64 0,.str [],.slice .nil 1 [],.slice .nil 1 [],.int .i64 0,.slice .nil 1 [],.int .i64 0,.str []]⟩:=by kernel_rfl
theorem uR:ti Try.prog 132=some ⟨.struct [(0,9,false),(1,3,false)],2,24,.agg [.str [],.int .i64 0]⟩:=by kernel_rfl
theorem sm:ti Try.prog 70=some ⟨.slice 132,1,24,.slice .nil 1 []⟩:=by kernel_rfl
theorem sR:ti Try.prog 73=some ⟨.struct [(0,3,false),(1,9,false),(2,70,false),(3,71,false),(4,9,false)],5,88,.agg [.int .i64 0,.str [],.slice .nil 1 [],.slice .nil 1 [],.str []]⟩:=by kernel_rfl
theorem vC:ti Try.prog 49=some ⟨.slice 9,1,24,.slice .nil 1 []⟩:=by kernel_rfl
attribute [go_sem] yx xG uM uR sm sR vC
def p7:List AV→AHeap→(AV→Prop)→Prop
 |[.int .i64 k],_,K=>K (.slice .any 1 (sAV (ot k)))
 |_,_,_=>False
theorem vG:EntOk Try.prog 48 (Ent.pure p7):=by
 refine EntOk.pure fun args H K h=>?_
 unfold p7 at h
 split at h
 rotate_left
 ·exact h.elim
 rename_i k
 refine ⟨_,h,?_⟩
 clear h
 unfold ot
 by_cases h1:k=1
 ·subst h1
  rw [if_pos rfl]
  refine ACalls.fW aI TblOk.nil Try.func48 [.tmp 2] (Nat.le_refl _) (T:=aA []) (h:=fun hcl hlt=>?_)
  clear hlt
  simp only [go_sem,Int.reduceBEq]
  simp (disch:=first|assumption|omega|(simp;done)|(simp;omega)|(simp only [bt,and_true];first|done|omega|(simp;done))) [↓zmi,beq,ybc,ybd,ybe,ag,wk,wk2,wk1,wkM,wkL,am,ybf,hcl,sAV,cg,zno,znp,znb]
 rw [if_neg h1]
 have d1:(k==1)=false:=beq_eq_false_iff_ne.2 h1
 by_cases h2:k=2
 ·subst h2
  rw [if_pos rfl]
  refine ACalls.fW aI TblOk.nil Try.func48 [.tmp 2] (Nat.le_refl _) (T:=aA []) (h:=fun hcl hlt=>?_)
  clear hlt
  simp only [go_sem,Int.reduceBEq]
  simp (disch:=first|assumption|omega|(simp;done)|(simp;omega)|(simp only [bt,and_true];first|done|omega|(simp;done))) [↓zmi,beq,ybc,ybd,ybe,ag,wk,wk2,wk1,wkM,wkL,am,ybf,hcl,sAV,cg,zno,znp,znb]
 rw [if_neg h2]
 have d2:(k==2)=false:=beq_eq_false_iff_ne.2 h2
 by_cases h3:k=3
 ·subst h3
  rw [if_pos rfl]
  refine ACalls.fW aI TblOk.nil Try.func48 [.tmp 2] (Nat.le_refl _) (T:=aA []) (h:=fun hcl hlt=>?_)
  clear hlt
  simp only [go_sem,Int.reduceBEq]
  simp (disch:=first|assumption|omega|(simp;done)|(simp;omega)|(simp only [bt,and_true];first|done|omega|(simp;done))) [↓zmi,beq,ybc,ybd,ybe,ag,wk,wk2,wk1,wkM,wkL,am,ybf,hcl,sAV,cg,zno,znp,znb]
 rw [if_neg h3]
 have d3:(k==3)=false:=beq_eq_false_iff_ne.2 h3
 by_cases h4:k=4
 ·subst h4
  rw [if_pos rfl]
  refine ACalls.fW aI TblOk.nil Try.func48 [.tmp 2] (Nat.le_refl _) (T:=aA []) (h:=fun hcl hlt=>?_)
  clear hlt
  simp only [go_sem,Int.reduceBEq]
  simp (disch:=first|assumption|omega|(simp;done)|(simp;omega)|(simp only [bt,and_true];first|done|omega|(simp;done))) [↓zmi,beq,ybc,ybd,ybe,ag,wk,wk2,wk1,wkM,wkL,am,ybf,hcl,sAV,cg,zno,znp,znb]
 rw [if_neg h4]
 have d4:(k==4)=false:=beq_eq_false_iff_ne.2 h4
 refine ACalls.fW aI TblOk.nil Try.func48 [.tmp 2] (Nat.le_refl _) (T:=aA []) (h:=fun hcl hlt=>?_)
 clear hlt
 simp only [go_sem,d1,d2,d3,d4]
 simp (disch:=first|assumption|omega|(simp;done)|(simp;omega)|(simp only [bt,and_true];first|done|omega|(simp;done))) [↓zmi,beq,ybc,ybd,ybe,ag,wk,wk2,wk1,wkM,wkL,am,ybf,hcl,sAV]
theorem qW {l:List SKey}:(l.map jQ).length=l.length:=ybb ..
theorem xJ {l:List SKey} {k:Nat} (h:k<l.length):(l.map jQ).getD k .junk=.agg [.str l[k].name,.int .i64 l[k].field,.int .i64 l[k].kind]:=by
 simp [List.getD_eq_getElem?_getD,h,jQ]
def tf (l:List SKey):List VN:=(l.flatMap fun k=>fL k.name k.kind)++[tw]
def hJ:List AV→AHeap→(AV→Prop)→Prop
 |[.agg [_,_,.slice _ 3 x,_,_,_,_,_]],_,K=>∃ keys,(x=keys.map jQ∧keys.length≤1000)∧K (.slice .any 2 (bm (tf keys)))
 |_,_,_=>False
theorem j1 {α β:Type} {f:α→List β} {l:List α} {k:Nat} (h:k<l.length):(l.take (k+1)).flatMap f=(l.take k).flatMap f++f l[k]:=by
 rw [← List.take_append_getElem h,List.flatMap_append];simp
theorem nY {n:List UInt8} {k:Int}:(fL n k).length≤2:=by
 unfold fL ot
 rw [ybb]
 split
 ·simp
 ·split
  ·simp
  ·split
   ·simp
   ·split<;>simp
theorem kM {l:List SKey}:∀ {k:Nat},((l.take k).flatMap fun k=>fL k.name k.kind).length≤2*k
 |0=>by simp
 |k+1=>by
  rcases Nat.lt_or_ge k l.length with h|h
  ·rw [j1 h,List.length_append]
   have:=kM (l:=l) (k:=k)
   have:=@nY l[k].name l[k].kind
   omega
  ·rw [ybc (by omega:l.length≤k+1),← ybc h]
   have:=kM (l:=l) (k:=k)
   omega
set_option maxHeartbeats 4000000 in
theorem nO:EntOk Try.prog 23 (Ent.pure hJ):=by
 refine EntOk.pure fun args H K h=>?_
 unfold hJ at h
 split at h
 rotate_left
 ·exact h.elim
 rename_i a1 a2 m x a3 a4 a5 a6 a7
 obtain ⟨keys,⟨rfl,hl⟩,hK⟩:=h
 refine ⟨_,hK,?_⟩
 clear hK
 refine ACalls.fW aI (TblOk.cons vG TblOk.nil) Try.func23 [.tmp 2] (Nat.le_refl _) (T:=aA []) (h:=fun hcl hlt=>?_)
 have hx:=AV.lt_mono (Nat.le_succ H.nx) _ (hlt (.agg [a1,a2,.slice m 3 (keys.map jQ),a3,a4,a5,a6,a7]) (by simp))
 have hm:∀ n',H.nx≤n'→AV.lt n' (.slice m 3 (keys.map jQ)):=fun n' hn=>AV.lt_mono hn _ (by have h1:=hlt (.agg [a1,a2,.slice m 3 (keys.map jQ),a3,a4,a5,a6,a7]) (by simp);rw [znl] at h1;exact h1.2.2.1)
 simp only [znl] at hx
 clear hlt
 simp only [go_sem,qW]
 refine az (A:=Nat × AHeap) (fun a=>[(3,.slice (.own (H.nx+1+1)) 2 (bm ((keys.take a.1).flatMap fun k=>fL k.name k.kind))),(9,.slice m 3 (keys.map jQ)),(10,.int .i64 (keys.length:Int)),(11,.int .i64 (a.1:Int))]) (fun a=>a.2)
  (fun a=>a.1≤keys.length∧H.Le a.2∧a.2.Closed∧a.2.get (H.nx+1+1)=some (.buf 2 ((keys.take a.1).flatMap fun k=>fL k.name k.kind).length)) (fun a=>keys.length - a.1)
  (0,((H.push (.cells [a1,a2,.slice m 3 (keys.map jQ),a3,a4,a5,a6,a7])).push (.buf 2 0)).push (.buf 2 0)) ⟨Nat.zero_le _,(((AHeap.Le.refl _).push _).push _).push _,af (af (ac hcl hx)),AHeap.get_push_new _ _⟩ ?_ fun a ha=>?_
 ·have hc0:=af (a:=2) (b:=0) (af (a:=2) (b:=0) (ac hcl hx))
  (simp only [bkq,enterW,aT,ltF,ne_eq,Nat.reduceEqDiff,reduceCtorEq,hc0,hm,varsAV_lt];try simp (disch:=first|assumption|omega|(simp;done)|(simp;omega)|(simp only [bt,and_true];first|done|omega|(simp;done))) [↓zmi,beq,ybc,ybd,ybe,ag,wk,wk2,wk1,wkM,wkL,am,ybf,byq,biq,ae,hcl,hc0,hm,varsAV_lt];try (repeat' (first|assumption|omega|exact True.intro|refine And.intro ?_ ?_|refine af ?_|refine aa ?_|refine ac ?_ ?_|refine ah ?_ ?_|refine aj ?_|exact AHeap.Le.refl _|refine AHeap.Le.push ?_ _|refine AHeap.Le.del ?_ ?_|(simp only [bt,and_true,true_and,hc0,hm,varsAV_lt];first|done|omega|(simp;done)))))
  simp [bm]
 obtain ⟨k,Hc⟩:=a
 obtain ⟨hk,hle,hcc,hid⟩:=ha
 dsimp only at hk hle hcc hid ⊢
 have hnx:=AHeap.get_lt hid
 simp only [go_sem]
 refine ak (fun hc=>?_) (fun hc=>?_)
 ·have hk1:k<keys.length:=by simp at hc;omega
  have e5:IntKind.i64.wrap ((k:Int)+1)=((k+1:Nat):Int):=by rw [wrap_i64]<;>omega
  have hfl:=@kM keys k
  have hkl:=@nY keys[k].name keys[k].kind
  have hkv:fL keys[k].name keys[k].kind=(ot keys[k].kind).map fun a=>(keys[k].name,a):=rfl
  simp only [go_sem,qW,xJ hk1,Int.toNat_natCast,p7]
  generalize ot keys[k].kind=at0 at *
  have hk0:fL keys[k].name keys[k].kind=at0.map fun a=>(keys[k].name,a):=hkv
  have hal:at0.length≤2:=by rw [hk0,ybb] at hkl;exact hkl
  refine ⟨by omega,?_⟩
  simp only [go_sem,ai]
  refine az (A:=Nat × AHeap) (fun a=>[(3,.slice (.own (H.nx+1+1)) 2 (bm (((keys.take k).flatMap fun k=>fL k.name k.kind)++(at0.take a.1).map fun x=>(keys[k].name,x)))),(5,.ptr Hc.nx 0),(9,.slice m 3 (keys.map jQ)),(10,.int .i64 (keys.length:Int)),(11,.int .i64 (k:Int)),(17,.slice .any 1 (sAV at0)),(18,.int .i64 (at0.length:Int)),(19,.int .i64 (a.1:Int))]) (fun a=>a.2)
   (fun a=>a.1≤at0.length∧H.Le a.2∧a.2.Closed∧a.2.get (H.nx+1+1)=some (.buf 2 (((keys.take k).flatMap fun k=>fL k.name k.kind)++(at0.take a.1).map fun x=>(keys[k].name,x)).length)∧a.2.get Hc.nx=some (.cells [.str keys[k].name,.int .i64 keys[k].field,.int .i64 keys[k].kind])) (fun a=>at0.length - a.1)
   (0,Hc.push (.cells [.str keys[k].name,.int .i64 keys[k].field,.int .i64 keys[k].kind])) ⟨Nat.zero_le _,hle.push _,ac hcc (by simp [zno,znp,znb,zmz]),?_,AHeap.get_push_new _ _⟩ ?_ fun a ha=>?_
  ·dsimp only
   rw [AHeap.get_push_lt _ _ hnx,hid];simp
  ·have hc0:=ac (cs:=[.str keys[k].name,.int .i64 keys[k].field,.int .i64 keys[k].kind]) hcc (by simp [zno,znp,znb,zmz])
   have hnn:H.nx≤Hc.nx:=by omega
   (simp only [bkq,enterW,aT,ltF,ne_eq,Nat.reduceEqDiff,reduceCtorEq,hc0,hm,varsAV_lt,bJ,hnn];try simp (disch:=first|assumption|omega|(simp;done)|(simp;omega)|(simp only [bt,and_true];first|done|omega|(simp;done))) [↓zmi,beq,ybc,ybd,ybe,ag,wk,wk2,wk1,wkM,wkL,am,ybf,byq,biq,ae,hcl,hc0,hm,varsAV_lt,bJ,hnn];try (repeat' (first|assumption|omega|exact True.intro|refine And.intro ?_ ?_|refine af ?_|refine aa ?_|refine ac ?_ ?_|refine ah ?_ ?_|refine aj ?_|exact AHeap.Le.refl _|refine AHeap.Le.push ?_ _|refine AHeap.Le.del ?_ ?_|(simp only [bt,and_true,true_and,hc0,hm,varsAV_lt,bJ,hnn];first|done|omega|(simp;done)))))
  obtain ⟨j,Hd⟩:=a
  obtain ⟨hj,hle2,hcd,hid2,hky⟩:=ha
  dsimp only at hj hle2 hcd hid2 hky ⊢
  have hnx2:=AHeap.get_lt hid2
  have hnx3:=AHeap.get_lt hky
  simp only [go_sem]
  refine ak (fun hc=>?_) (fun hc=>?_)
  ·have hj1:j<at0.length:=by simp at hc;omega
   have e6:IntKind.i64.wrap ((j:Int)+1)=((j+1:Nat):Int):=by rw [wrap_i64]<;>omega
   have hsg:(sAV at0).getD j .junk=.str at0[j]:=by rw [jm hj1];simp [List.getD_eq_getElem?_getD,hj1]
   have htk:(at0.take (j+1)).map (fun x=>(keys[k].name,x))=(at0.take j).map (fun x=>(keys[k].name,x))++[(keys[k].name,at0[j])]:=by rw [← List.take_append_getElem hj1,List.map_append];rfl
   have n1:(Hc.nx=Hd.nx)=False:=eq_false (by omega)
   have n2:(H.nx+1+1=Hd.nx)=False:=eq_false (by omega)
   simp only [go_sem,ai,hsg,Int.toNat_natCast,hky,bv hky,hid2,ci,n1,n2,e6]
   obtain ⟨LL,hLL⟩:∃ LL,(((keys.take k).flatMap fun k=>fL k.name k.kind)++(at0.take j).map fun x=>(keys[k].name,x))=LL:=⟨_,rfl⟩
   have hll:LL.length≤2*k+2:=by rw [← hLL,List.length_append,ybb,List.length_take];omega
   have hln:((keys.take k).flatMap fun k=>fL k.name k.kind)++(at0.take (j+1)).map (fun x=>(keys[k].name,x))=LL++[(keys[k].name,at0[j])]:=by rw [htk,← List.append_assoc,hLL]
   have hsn:bm LL++[.agg [.str keys[k].name,.str at0[j]]]=bm (LL++[(keys[k].name,at0[j])]):=fZ (v:=(keys[k].name,at0[j]))
   rw [hLL]
   refine ⟨by omega,⟨by omega,by omega,fun z hz=>by rw [List.mem_singleton.1 hz];rfl⟩,(j+1,Hd.set (H.nx+1+1) (.buf 2 (LL.length+1))),⟨by dsimp only;omega,cm hle2 (by omega),aa hcd,?_,?_⟩,by dsimp only;omega,?_⟩
   ·dsimp only
    rw [bK,if_pos rfl,if_pos hnx2,hln];simp
   ·dsimp only
    rw [bK,if_neg (by omega),hky]
   ·have hnn:H.nx≤Hd.nx:=by omega
    have hcs:=@aa Hd (H.nx+1+1) 2 (LL.length+1) hcd
    dsimp only
    rw [hln,hsn]
    (simp only [bkq,enterW,aT,ltF,ne_eq,Nat.reduceEqDiff,reduceCtorEq,hcs,hm,varsAV_lt,bJ,hnn];try simp (disch:=first|assumption|omega|(simp;done)|(simp;omega)|(simp only [bt,and_true];first|done|omega|(simp;done))) [↓zmi,beq,ybc,ybd,ybe,ag,wk,wk2,wk1,wkM,wkL,am,ybf,byq,biq,ae,hcl,hcs,hm,varsAV_lt,bJ,hnn];try (repeat' (first|assumption|omega|exact True.intro|refine And.intro ?_ ?_|refine af ?_|refine aa ?_|refine ac ?_ ?_|refine ah ?_ ?_|refine aj ?_|exact AHeap.Le.refl _|refine AHeap.Le.push ?_ _|refine AHeap.Le.del ?_ ?_|(simp only [bt,and_true,true_and,hcs,hm,varsAV_lt,bJ,hnn];first|done|omega|(simp;done)))))
  ·have hj1:j=at0.length:=by simp at hc;omega
   subst hj1
   rw [List.take_length,← hk0,← j1 hk1] at hid2
   rw [List.take_length,← hk0,← j1 (f:=fun k:SKey=>fL k.name k.kind) hk1]
   simp only [go_sem,e5]
   refine ⟨(k+1,Hd),⟨by dsimp only;omega,hle2,hcd,hid2⟩,by dsimp only;omega,?_⟩
   have hnn:H.nx≤Hd.nx:=by omega
   (simp only [bkq,enterW,aT,ltF,ne_eq,Nat.reduceEqDiff,reduceCtorEq,hcd,hm,varsAV_lt,hnn];try simp (disch:=first|assumption|omega|(simp;done)|(simp;omega)|(simp only [bt,and_true];first|done|omega|(simp;done))) [↓zmi,beq,ybc,ybd,ybe,ag,wk,wk2,wk1,wkM,wkL,am,ybf,byq,biq,ae,hcl,hcd,hm,varsAV_lt,hnn];try (repeat' (first|assumption|omega|exact True.intro|refine And.intro ?_ ?_|refine af ?_|refine aa ?_|refine ac ?_ ?_|refine ah ?_ ?_|refine aj ?_|exact AHeap.Le.refl _|refine AHeap.Le.push ?_ _|refine AHeap.Le.del ?_ ?_|(simp only [bt,and_true,true_and,hcd,hm,varsAV_lt,hnn];first|done|omega|(simp;done)))))
 ·have hk1:k=keys.length:=by simp at hc;omega
  subst hk1
  rw [List.take_length] at hid
  rw [List.take_length]
  have hfl:=@kM keys keys.length
  rw [List.take_length] at hfl
  have n1:(H.nx+1+1=Hc.nx)=False:=eq_false (by omega)
  have htab:tf keys=(keys.flatMap fun k=>fL k.name k.kind)++[tw]:=rfl
  rw [htab]
  clear htab
  generalize (keys.flatMap fun k=>fL k.name k.kind)=G at *
  have hsn:bm G++[.agg [.str [112,114,105,111,114,105,116,121],.str []]]=bm (G++[tw]):=fZ (v:=tw)
  simp only [go_sem,hid,n1,ci]
  refine ⟨⟨by omega,by omega,fun z hz=>by rw [List.mem_singleton.1 hz];rfl⟩,?_⟩
  rw [hsn]
  have hle3:=(cm hle (show H.nx≤H.nx+1+1 by omega) (o:=.buf 2 (G.length+1))).push (.buf 2 1)
  simp (disch:=first|assumption|omega|(simp;done)|(simp;omega)|(simp only [bt,and_true];first|done|omega|(simp;done))) [↓zmi,beq,ybc,ybd,ybe,ag,wk,wk2,wk1,wkM,wkL,am,ybf,hcl,hle3,varsAV_lt]
end Go.AL
open Go Go.AL Go.Proofs
namespace Go.AL
set_option linter.all false
set_option maxRecDepth 10000
end Go.AL
open Go Go.AL Go.Proofs
namespace Go.AL
set_option linter.all false
set_option maxRecDepth 10000
theorem vS:bp [97,32,43,32,49]=([(2,[97],0),(3,[43],2),(1,[49],4)],0,0):=by decide +kernel
theorem yh:run [(2,[97],0),(3,[43],2),(1,[49],4)] 20 .imp 0 []=some (.ok 2 3 [⟨3,0,0,[97],[],0⟩,⟨1,0,0,[],[],1⟩,⟨6,0,1,[],[],0⟩]):=by kernel_rfl
theorem xH:bp [97,58,58,109,97,115,107,32,62,32,48]=([(2,[97],0),(3,[58,58],1),(2,[109,97,115,107],3),(3,[62],8),(1,[48],10)],0,0):=by decide +kernel
theorem yt:run [(2,[97],0),(3,[58,58],1),(2,[109,97,115,107],3),(3,[62],8),(1,[48],10)] 20 .imp 0 []=some (.ok 2 5 [⟨3,0,0,[97],[109,97,115,107],0⟩,⟨1,0,0,[],[],0⟩,⟨12,0,1,[],[],0⟩]):=by kernel_rfl
theorem tM {kn:VN→Bool} {s:List UInt8} {l:List Tok} {f:Nat} {r:PR} {a b:Nat} (hs:s≠[]) (h1:bp s=(l,a,b)) (h2:run l f .imp 0 []=some r):comp kn s=xy kn b (dh l r):=by
 unfold comp
 rw [if_neg hs,h1]
 dsimp only
 rw [zP h2]
def qp:List VN:=tf [⟨[97],0,1⟩]
theorem wG:(comp (bj qp) [97,32,43,32,49]).2=12:=by
 rw [tM (by simp) vS yh]
 decide +kernel
theorem xe:(comp (bj qp) [97,58,58,109,97,115,107,32,62,32,48]).2=6:=by
 rw [tM (by simp) xH yt]
 decide +kernel
theorem vH {kn:VN→Bool}:comp kn []=(yw,0):=by unfold comp;rw [if_pos rfl]
def gG:List AV→AHeap→(AV→Prop)→Prop
 |[],_,K=>K (.bool true)
 |_,_,_=>False
theorem sf:EntOk Try.prog 13 (Ent.pure gG):=by
 refine EntOk.pure fun args H K h=>?_
 unfold gG at h
 split at h
 rotate_left
 ·exact h.elim
 refine ⟨_,h,?_⟩
 clear h
 refine ACalls.fW aI (TblOk.cons nO (TblOk.cons rf TblOk.nil)) Try.func13 [.tmp 0] (Nat.le_refl _) (T:=aA []) (h:=fun hcl hlt=>?_)
 clear hlt
 simp only [go_sem,hJ]
 refine ⟨[⟨[97],0,1⟩],⟨rfl,by decide⟩,?_⟩
 have hov:uv qp:=⟨by decide,by decide⟩
 have hvl:(bm (tf [⟨[97],0,1⟩])).length=3:=rfl
 simp only [go_sem,fP]
 refine ⟨qp,⟨rfl,hov⟩,?_⟩
 have c1:=wG
 generalize comp (bj qp) [97,32,43,32,49]=q1 at *
 obtain ⟨t1,e1⟩:=q1
 have c1':e1=12:=c1
 subst c1'
 simp only [go_sem,fP,hG]
 refine ⟨qp,⟨rfl,hov⟩,?_⟩
 have c2:=xe
 generalize comp (bj qp) [97,58,58,109,97,115,107,32,62,32,48]=q2 at *
 obtain ⟨t2,e2⟩:=q2
 have c2':e2=6:=c2
 subst c2'
 simp only [go_sem,fP,hG]
 refine ⟨qp,⟨rfl,hov⟩,?_⟩
 rw [vH]
 have d1:(((12:Nat):Int)==12)=true:=rfl
 have d2:(((6:Nat):Int)==6)=true:=rfl
 have d3:(((0:Nat):Int)==0)=true:=rfl
 have d4:(((1:Nat):Int)==1)=true:=rfl
 have d5:(((3:Nat):Int)==3)=true:=rfl
 have hol:(nds yw).length=1:=rfl
 simp only [go_sem,hG,d1,d2,d3,d4,d5,hol,hvl]
 simp (disch:=first|assumption|omega|(simp;done)|(simp;omega)|(simp only [bt,and_true];first|done|omega|(simp;done))) [↓zmi,beq,ybc,ybd,ybe,ag,wk,wk2,wk1,wkM,wkL,am,ybf,hcl]
end Go.AL
open Go Go.AL Go.Proofs
namespace Go.AL
set_option linter.all false
set_option maxRecDepth 10000
theorem se:ti Try.prog 83=some ⟨.slice 69,1,24,.slice .nil 1 []⟩:=by kernel_rfl
theorem qZ:ti Try.prog 82=some ⟨.slice 73,1,24,.slice .nil 1 []⟩:=by kernel_rfl
theorem rZ:ti Try.prog 88=some ⟨.struct [(0,79,false),(1,80,false),(2,81,false),(3,82,false),(4,83,false),(5,84,false),(6,85,false),(7,86,false),(8,3,false),(9,3,false)],10,208,.agg [.slice .nil 1 [],.slice .nil 1 [],.slice .nil 1 [],.slice .nil 1 [],.slice .nil 1 [],.slice .nil 1 [],.slice .nil 1 [],.slice .nil 1 [],.int .i64 0,.int .i64 0]⟩:=by kernel_rfl
attribute [go_sem] se qZ rZ
end Go.AL
