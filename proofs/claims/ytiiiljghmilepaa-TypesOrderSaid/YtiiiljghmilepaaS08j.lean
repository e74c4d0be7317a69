/- Contracts and plain laws, a part of the proof; no condition of its own. -/
import Derived.Test.YtiiiljghmilepaaS08e
import Derived.Test.YtiiiljghmilepaaS07w
import Derived.Test.YtiiiljghmilepaaS10e
open List renaming length_cons → yaz, length_nil → yba, take_of_length_le → ybc, drop_append → ybd, take_append → ybe, drop_eq_nil_of_le → ybf, length_map → ybb
open Go Go.AL Go.Proofs
namespace Go.AL
set_option linter.all false
set_option maxRecDepth 10000
end Go.AL
open Go Go.AL Go.Proofs
namespace Go.AL
set_option linter.all false
set_option maxRecDepth 10000
theorem uq:ti Try.prog 119=some ⟨.struct [(0,9,false),(1,3,false),(2,3,false)],3,32,.agg [.str [],.int .i64 0,.int .i64 0]⟩:=by kernel_rfl
theorem sy:ti Try.prog 65=some ⟨.slice 119,1,24,.slice .nil 1 []⟩:=by kernel_rfl
theorem qs:ti Try.prog 69=some ⟨.struct [(0,3,false),(1,9,false),(2,65,false),(3,66,false),(4,3,false),(5,67,false),(6,3,false),(7,9,false)],8,128,.agg [.int .i64 0,.str [],.slice .nil 1 [],.slice .nil 1 [],.int .i64 0,.slice .nil 1 [],.int .i64 0,.str []]⟩:=by kernel_rfl
theorem qD:ti Try.prog 132=some ⟨.struct [(0,9,false),(1,3,false)],2,24,.agg [.str [],.int .i64 0]⟩:=by kernel_rfl
theorem og:ti Try.prog 70=some ⟨.slice 132,1,24,.slice .nil 1 []⟩:=by kernel_rfl
theorem oH:ti Try.prog 73=some ⟨.struct [(0,3,false),(1,9,false),(2,70,false),(3,71,false),(4,9,false)],5,88,.agg [.int .i64 0,.str [],.slice .nil 1 [],.slice .nil 1 [],.str []]⟩:=by kernel_rfl
theorem rA:ti Try.prog 49=some ⟨.slice 9,1,24,.slice .nil 1 []⟩:=by kernel_rfl
attribute [go_sem] uq sy qs qD og oH rA
def lW:List AV→AHeap→(AV→Prop)→Prop
 |[.int .i64 k],_,K=>K (.slice .any 1 (sAV (lV k)))
 |_,_,_=>False
theorem sm:EntOk Try.prog 48 (Ent.pure lW):=by
 refine EntOk.pure fun args H K h=>?_
 unfold lW at h
 split at h
 rotate_left
 ·exact h.elim
 rename_i k
 refine ⟨_,h,?_⟩
 clear h
 unfold lV
 by_cases h1:k=1
 ·subst h1
  rw [if_pos rfl]
  refine ACalls.fW aI TblOk.nil Try.func48 [.tmp 2] (Nat.le_refl _) (T:=az []) (h:=fun hcl hlt=>?_)
  clear hlt
  simp only [go_sem,Int.reduceBEq]
  simp (disch:=first|assumption|omega|(simp;done)|(simp;omega)|(simp only [bt,and_true];first|done|omega|(simp;done))) [↓zmi,beq,ybc,ybd,ybe,ah,wk,wk2,wk1,wkM,wkL,ap,ybf,hcl,sAV,bw,zno,znp,znb]
 rw [if_neg h1]
 have d1:(k==1)=false:=beq_eq_false_iff_ne.2 h1
 by_cases h2:k=2
 ·subst h2
  rw [if_pos rfl]
  refine ACalls.fW aI TblOk.nil Try.func48 [.tmp 2] (Nat.le_refl _) (T:=az []) (h:=fun hcl hlt=>?_)
  clear hlt
  simp only [go_sem,Int.reduceBEq]
  simp (disch:=first|assumption|omega|(simp;done)|(simp;omega)|(simp only [bt,and_true];first|done|omega|(simp;done))) [↓zmi,beq,ybc,ybd,ybe,ah,wk,wk2,wk1,wkM,wkL,ap,ybf,hcl,sAV,bw,zno,znp,znb]
 rw [if_neg h2]
 have d2:(k==2)=false:=beq_eq_false_iff_ne.2 h2
 by_cases h3:k=3
 ·subst h3
  rw [if_pos rfl]
  refine ACalls.fW aI TblOk.nil Try.func48 [.tmp 2] (Nat.le_refl _) (T:=az []) (h:=fun hcl hlt=>?_)
  clear hlt
  simp only [go_sem,Int.reduceBEq]
  simp (disch:=first|assumption|omega|(simp;done)|(simp;omega)|(simp only [bt,and_true];first|done|omega|(simp;done))) [↓zmi,beq,ybc,ybd,ybe,ah,wk,wk2,wk1,wkM,wkL,ap,ybf,hcl,sAV,bw,zno,znp,znb]
 rw [if_neg h3]
 have d3:(k==3)=false:=beq_eq_false_iff_ne.2 h3
 by_cases h4:k=4
 ·subst h4
  rw [if_pos rfl]
  refine ACalls.fW aI TblOk.nil Try.func48 [.tmp 2] (Nat.le_refl _) (T:=az []) (h:=fun hcl hlt=>?_)
  clear hlt
  simp only [go_sem,Int.reduceBEq]
  simp (disch:=first|assumption|omega|(simp;done)|(simp;omega)|(simp only [bt,and_true];first|done|omega|(simp;done))) [↓zmi,beq,ybc,ybd,ybe,ah,wk,wk2,wk1,wkM,wkL,ap,ybf,hcl,sAV,bw,zno,znp,znb]
 rw [if_neg h4]
 have d4:(k==4)=false:=beq_eq_false_iff_ne.2 h4
 refine ACalls.fW aI TblOk.nil Try.func48 [.tmp 2] (Nat.le_refl _) (T:=az []) (h:=fun hcl hlt=>?_)
 clear hlt
 simp only [go_sem,d1,d2,d3,d4]
 simp (disch:=first|assumption|omega|(simp;done)|(simp;omega)|(simp only [bt,and_true];first|done|omega|(simp;done))) [↓zmi,beq,ybc,ybd,ybe,ah,wk,wk2,wk1,wkM,wkL,ap,ybf,hcl,sAV]
theorem nY {l:List SKey}:(l.map gO).length=l.length:=ybb ..
theorem se {l:List SKey} {k:Nat} (h:k<l.length):(l.map gO).getD k .junk=.agg [.str l[k].name,.int .i64 l[k].field,.int .i64 l[k].kind]:=by
 simp [List.getD_eq_getElem?_getD,h,gO]
def pN (l:List SKey):List VN:=(l.flatMap fun k=>ey k.name k.kind)++[pA]
def fp:List AV→AHeap→(AV→Prop)→Prop
 |[.agg [_,_,.slice _ 3 x,_,_,_,_,_]],_,K=>∃ keys,(x=keys.map gO∧keys.length≤1000)∧K (.slice .any 2 (aW (pN keys)))
 |_,_,_=>False
theorem hX {α β:Type} {f:α→List β} {l:List α} {k:Nat} (h:k<l.length):(l.take (k+1)).flatMap f=(l.take k).flatMap f++f l[k]:=by
 rw [← List.take_append_getElem h,List.flatMap_append];simp
theorem lu {n:List UInt8} {k:Int}:(ey n k).length≤2:=by
 unfold ey lV
 rw [ybb]
 split
 ·simp
 ·split
  ·simp
  ·split
   ·simp
   ·split<;>simp
theorem iw {l:List SKey}:∀ {k:Nat},((l.take k).flatMap fun k=>ey k.name k.kind).length≤2*k
 |0=>by simp
 |k+1=>by
  rcases Nat.lt_or_ge k l.length with h|h
  ·rw [hX h,List.length_append]
   have:=iw (l:=l) (k:=k)
   have:=@lu l[k].name l[k].kind
   omega
  ·rw [ybc (by omega:l.length≤k+1),← ybc h]
   have:=iw (l:=l) (k:=k)
   omega
set_option maxHeartbeats 4000000 in
theorem kE:EntOk Try.prog 23 (Ent.pure fp):=by
 refine EntOk.pure fun args H K h=>?_
 unfold fp at h
 split at h
 rotate_left
 ·exact h.elim
 rename_i a1 a2 m x a3 a4 a5 a6 a7
 obtain ⟨keys,⟨rfl,hl⟩,hK⟩:=h
 refine ⟨_,hK,?_⟩
 clear hK
 refine ACalls.fW aI (TblOk.cons sm TblOk.nil) Try.func23 [.tmp 2] (Nat.le_refl _) (T:=az []) (h:=fun hcl hlt=>?_)
 have hx:=AV.lt_mono (Nat.le_succ H.nx) _ (hlt (.agg [a1,a2,.slice m 3 (keys.map gO),a3,a4,a5,a6,a7]) (by simp))
 have hm:∀ n',H.nx≤n'→AV.lt n' (.slice m 3 (keys.map gO)):=fun n' hn=>AV.lt_mono hn _ (by have h1:=hlt (.agg [a1,a2,.slice m 3 (keys.map gO),a3,a4,a5,a6,a7]) (by simp);rw [znl] at h1;exact h1.2.2.1)
 simp only [znl] at hx
 clear hlt
 simp only [go_sem,nY]
 refine aV (A:=Nat × AHeap) (fun a=>[(3,.slice (.own (H.nx+1+1)) 2 (aW ((keys.take a.1).flatMap fun k=>ey k.name k.kind))),(9,.slice m 3 (keys.map gO)),(10,.int .i64 (keys.length:Int)),(11,.int .i64 (a.1:Int))]) (fun a=>a.2)
  (fun a=>a.1≤keys.length∧H.Le a.2∧a.2.Closed∧a.2.get (H.nx+1+1)=some (.buf 2 ((keys.take a.1).flatMap fun k=>ey k.name k.kind).length)) (fun a=>keys.length - a.1)
  (0,((H.push (.cells [a1,a2,.slice m 3 (keys.map gO),a3,a4,a5,a6,a7])).push (.buf 2 0)).push (.buf 2 0)) ⟨Nat.zero_le _,(((AHeap.Le.refl _).push _).push _).push _,ai (ai (af hcl hx)),AHeap.get_push_new _ _⟩ ?_ fun a ha=>?_
 ·have hc0:=ai (a:=2) (b:=0) (ai (a:=2) (b:=0) (af hcl hx))
  (simp only [bkq,enterW,bF,ltF,ne_eq,Nat.reduceEqDiff,reduceCtorEq,hc0,hm,aM];try simp (disch:=first|assumption|omega|(simp;done)|(simp;omega)|(simp only [bt,and_true];first|done|omega|(simp;done))) [↓zmi,beq,ybc,ybd,ybe,ah,wk,wk2,wk1,wkM,wkL,ap,ybf,byq,biq,au,hcl,hc0,hm,aM];try (repeat' (first|assumption|omega|exact True.intro|refine And.intro ?_ ?_|refine ai ?_|refine ac ?_|refine af ?_ ?_|refine aj ?_ ?_|refine al ?_|exact AHeap.Le.refl _|refine AHeap.Le.push ?_ _|refine AHeap.Le.del ?_ ?_|(simp only [bt,and_true,true_and,hc0,hm,aM];first|done|omega|(simp;done)))))
  simp [aW]
 obtain ⟨k,Hc⟩:=a
 obtain ⟨hk,hle,hcc,hid⟩:=ha
 dsimp only at hk hle hcc hid ⊢
 have hnx:=AHeap.get_lt hid
 simp only [go_sem]
 refine am (fun hc=>?_) (fun hc=>?_)
 ·have hk1:k<keys.length:=by simp at hc;omega
  have e5:IntKind.i64.wrap ((k:Int)+1)=((k+1:Nat):Int):=by rw [wrap_i64]<;>omega
  have hfl:=@iw keys k
  have hkl:=@lu keys[k].name keys[k].kind
  have hkv:ey keys[k].name keys[k].kind=(lV keys[k].kind).map fun a=>(keys[k].name,a):=rfl
  simp only [go_sem,nY,se hk1,Int.toNat_natCast,lW]
  generalize lV keys[k].kind=at0 at *
  have hk0:ey keys[k].name keys[k].kind=at0.map fun a=>(keys[k].name,a):=hkv
  have hal:at0.length≤2:=by rw [hk0,ybb] at hkl;exact hkl
  refine ⟨by omega,?_⟩
  simp only [go_sem,aa]
  refine aV (A:=Nat × AHeap) (fun a=>[(3,.slice (.own (H.nx+1+1)) 2 (aW (((keys.take k).flatMap fun k=>ey k.name k.kind)++(at0.take a.1).map fun x=>(keys[k].name,x)))),(5,.ptr Hc.nx 0),(9,.slice m 3 (keys.map gO)),(10,.int .i64 (keys.length:Int)),(11,.int .i64 (k:Int)),(17,.slice .any 1 (sAV at0)),(18,.int .i64 (at0.length:Int)),(19,.int .i64 (a.1:Int))]) (fun a=>a.2)
   (fun a=>a.1≤at0.length∧H.Le a.2∧a.2.Closed∧a.2.get (H.nx+1+1)=some (.buf 2 (((keys.take k).flatMap fun k=>ey k.name k.kind)++(at0.take a.1).map fun x=>(keys[k].name,x)).length)∧a.2.get Hc.nx=some (.cells [.str keys[k].name,.int .i64 keys[k].field,.int .i64 keys[k].kind])) (fun a=>at0.length - a.1)
   (0,Hc.push (.cells [.str keys[k].name,.int .i64 keys[k].field,.int .i64 keys[k].kind])) ⟨Nat.zero_le _,hle.push _,af hcc (by simp [zno,znp,znb,zmz]),?_,AHeap.get_push_new _ _⟩ ?_ fun a ha=>?_
  ·dsimp only
   rw [AHeap.get_push_lt _ _ hnx,hid];simp
  ·have hc0:=af (cs:=[.str keys[k].name,.int .i64 keys[k].field,.int .i64 keys[k].kind]) hcc (by simp [zno,znp,znb,zmz])
   have hnn:H.nx≤Hc.nx:=by omega
   (simp only [bkq,enterW,bF,ltF,ne_eq,Nat.reduceEqDiff,reduceCtorEq,hc0,hm,aM,dz,hnn];try simp (disch:=first|assumption|omega|(simp;done)|(simp;omega)|(simp only [bt,and_true];first|done|omega|(simp;done))) [↓zmi,beq,ybc,ybd,ybe,ah,wk,wk2,wk1,wkM,wkL,ap,ybf,byq,biq,au,hcl,hc0,hm,aM,dz,hnn];try (repeat' (first|assumption|omega|exact True.intro|refine And.intro ?_ ?_|refine ai ?_|refine ac ?_|refine af ?_ ?_|refine aj ?_ ?_|refine al ?_|exact AHeap.Le.refl _|refine AHeap.Le.push ?_ _|refine AHeap.Le.del ?_ ?_|(simp only [bt,and_true,true_and,hc0,hm,aM,dz,hnn];first|done|omega|(simp;done)))))
  obtain ⟨j,Hd⟩:=a
  obtain ⟨hj,hle2,hcd,hid2,hky⟩:=ha
  dsimp only at hj hle2 hcd hid2 hky ⊢
  have hnx2:=AHeap.get_lt hid2
  have hnx3:=AHeap.get_lt hky
  simp only [go_sem]
  refine am (fun hc=>?_) (fun hc=>?_)
  ·have hj1:j<at0.length:=by simp at hc;omega
   have e6:IntKind.i64.wrap ((j:Int)+1)=((j+1:Nat):Int):=by rw [wrap_i64]<;>omega
   have hsg:(sAV at0).getD j .junk=.str at0[j]:=by rw [iI hj1];simp [List.getD_eq_getElem?_getD,hj1]
   have htk:(at0.take (j+1)).map (fun x=>(keys[k].name,x))=(at0.take j).map (fun x=>(keys[k].name,x))++[(keys[k].name,at0[j])]:=by rw [← List.take_append_getElem hj1,List.map_append];rfl
   have n1:(Hc.nx=Hd.nx)=False:=eq_false (by omega)
   have n2:(H.nx+1+1=Hd.nx)=False:=eq_false (by omega)
   simp only [go_sem,aa,hsg,Int.toNat_natCast,hky,bp hky,hid2,bE,n1,n2,e6]
   obtain ⟨LL,hLL⟩:∃ LL,(((keys.take k).flatMap fun k=>ey k.name k.kind)++(at0.take j).map fun x=>(keys[k].name,x))=LL:=⟨_,rfl⟩
   have hll:LL.length≤2*k+2:=by rw [← hLL,List.length_append,ybb,List.length_take];omega
   have hln:((keys.take k).flatMap fun k=>ey k.name k.kind)++(at0.take (j+1)).map (fun x=>(keys[k].name,x))=LL++[(keys[k].name,at0[j])]:=by rw [htk,← List.append_assoc,hLL]
   have hsn:aW LL++[.agg [.str keys[k].name,.str at0[j]]]=aW (LL++[(keys[k].name,at0[j])]):=eD (v:=(keys[k].name,at0[j]))
   rw [hLL]
   refine ⟨by omega,⟨by omega,by omega,fun z hz=>by rw [List.mem_singleton.1 hz];rfl⟩,(j+1,Hd.set (H.nx+1+1) (.buf 2 (LL.length+1))),⟨by dsimp only;omega,cC hle2 (by omega),ac hcd,?_,?_⟩,by dsimp only;omega,?_⟩
   ·dsimp only
    rw [bD,if_pos rfl,if_pos hnx2,hln];simp
   ·dsimp only
    rw [bD,if_neg (by omega),hky]
   ·have hnn:H.nx≤Hd.nx:=by omega
    have hcs:=@ac Hd (H.nx+1+1) 2 (LL.length+1) hcd
    dsimp only
    rw [hln,hsn]
    (simp only [bkq,enterW,bF,ltF,ne_eq,Nat.reduceEqDiff,reduceCtorEq,hcs,hm,aM,dz,hnn];try simp (disch:=first|assumption|omega|(simp;done)|(simp;omega)|(simp only [bt,and_true];first|done|omega|(simp;done))) [↓zmi,beq,ybc,ybd,ybe,ah,wk,wk2,wk1,wkM,wkL,ap,ybf,byq,biq,au,hcl,hcs,hm,aM,dz,hnn];try (repeat' (first|assumption|omega|exact True.intro|refine And.intro ?_ ?_|refine ai ?_|refine ac ?_|refine af ?_ ?_|refine aj ?_ ?_|refine al ?_|exact AHeap.Le.refl _|refine AHeap.Le.push ?_ _|refine AHeap.Le.del ?_ ?_|(simp only [bt,and_true,true_and,hcs,hm,aM,dz,hnn];first|done|omega|(simp;done)))))
  ·have hj1:j=at0.length:=by simp at hc;omega
   subst hj1
   rw [List.take_length,← hk0,← hX hk1] at hid2
   rw [List.take_length,← hk0,← hX (f:=fun k:SKey=>ey k.name k.kind) hk1]
   simp only [go_sem,e5]
   refine ⟨(k+1,Hd),⟨by dsimp only;omega,hle2,hcd,hid2⟩,by dsimp only;omega,?_⟩
   have hnn:H.nx≤Hd.nx:=by omega
   (simp only [bkq,enterW,bF,ltF,ne_eq,Nat.reduceEqDiff,reduceCtorEq,hcd,hm,aM,hnn];try simp (disch:=first|assumption|omega|(simp;done)|(simp;omega)|(simp only [bt,and_true];first|done|omega|(simp;done))) [↓zmi,beq,ybc,ybd,ybe,ah,wk,wk2,wk1,wkM,wkL,ap,ybf,byq,biq,au,hcl,hcd,hm,aM,hnn];try (repeat' (first|assumption|omega|exact True.intro|refine And.intro ?_ ?_|refine ai ?_|refine ac ?_|refine af ?_ ?_|refine aj ?_ ?_|refine al ?_|exact AHeap.Le.refl _|refine AHeap.Le.push ?_ _|refine AHeap.Le.del ?_ ?_|(simp only [bt,and_true,true_and,hcd,hm,aM,hnn];first|done|omega|(simp;done)))))
 ·have hk1:k=keys.length:=by simp at hc;omega
  subst hk1
  rw [List.take_length] at hid
  rw [List.take_length]
  have hfl:=@iw keys keys.length
  rw [List.take_length] at hfl
  have n1:(H.nx+1+1=Hc.nx)=False:=eq_false (by omega)
  have htab:pN keys=(keys.flatMap fun k=>ey k.name k.kind)++[pA]:=rfl
  rw [htab]
  clear htab
  generalize (keys.flatMap fun k=>ey k.name k.kind)=G at *
  have hsn:aW G++[.agg [.str [112,114,105,111,114,105,116,121],.str []]]=aW (G++[pA]):=eD (v:=pA)
  simp only [go_sem,hid,n1,bE]
  refine ⟨⟨by omega,by omega,fun z hz=>by rw [List.mem_singleton.1 hz];rfl⟩,?_⟩
  rw [hsn]
  have hle3:=(cC hle (show H.nx≤H.nx+1+1 by omega) (o:=.buf 2 (G.length+1))).push (.buf 2 1)
  simp (disch:=first|assumption|omega|(simp;done)|(simp;omega)|(simp only [bt,and_true];first|done|omega|(simp;done))) [↓zmi,beq,ybc,ybd,ybe,ah,wk,wk2,wk1,wkM,wkL,ap,ybf,hcl,hle3,aM]
end Go.AL
open Go Go.AL Go.Proofs
namespace Go.AL
set_option linter.all false
set_option maxRecDepth 10000
end Go.AL
open Go Go.AL Go.Proofs
namespace Go.AL
set_option linter.all false
set_option maxRecDepth 10000
theorem rm:bd [97,32,43,32,49]=([(2,[97],0),(3,[43],2),(1,[49],4)],0,0):=by decide +kernel
theorem um:run [(2,[97],0),(3,[43],2),(1,[49],4)] 20 .imp 0 []=some (.ok 2 3 [⟨3,0,0,[97],[],0⟩,⟨1,0,0,[],[],1⟩,⟨6,0,1,[],[],0⟩]):=by kernel_rfl
theorem rT:bd [97,58,58,109,97,115,107,32,62,32,48]=([(2,[97],0),(3,[58,58],1),(2,[109,97,115,107],3),(3,[62],8),(1,[48],10)],0,0):=by decide +kernel
theorem tV:run [(2,[97],0),(3,[58,58],1),(2,[109,97,115,107],3),(3,[62],8),(1,[48],10)] 20 .imp 0 []=some (.ok 2 5 [⟨3,0,0,[97],[109,97,115,107],0⟩,⟨1,0,0,[],[],0⟩,⟨12,0,1,[],[],0⟩]):=by kernel_rfl
theorem pO {kn:VN→Bool} {s:List UInt8} {l:List Tok} {f:Nat} {r:PR} {a b:Nat} (hs:s≠[]) (h1:bd s=(l,a,b)) (h2:run l f .imp 0 []=some r):comp kn s=ny kn b (cg l r):=by
 unfold comp
 rw [if_neg hs,h1]
 dsimp only
 rw [vg h2]
def nh:List VN:=pN [⟨[97],0,1⟩]
theorem rY:(comp (aK nh) [97,32,43,32,49]).2=12:=by
 rw [pO (by simp) rm um]
 decide +kernel
theorem sK:(comp (aK nh) [97,58,58,109,97,115,107,32,62,32,48]).2=6:=by
 rw [pO (by simp) rT tV]
 decide +kernel
theorem rM {kn:VN→Bool}:comp kn []=(tI,0):=by unfold comp;rw [if_pos rfl]
theorem mm {s:List UInt8}:(bd s).2.2=0∨(bd s).2.2=3∨(bd s).2.2=10:=by
 unfold bd
 split
 ·exact .inr (.inl rfl)
 ·split
  ·exact .inl rfl
  ·exact .inr (.inr rfl)
def ei:List AV→AHeap→(AV→Prop)→Prop
 |[],_,K=>K (.bool true)
 |_,_,_=>False
theorem oE:EntOk Try.prog 13 (Ent.pure ei):=by
 refine EntOk.pure fun args H K h=>?_
 unfold ei at h
 split at h
 rotate_left
 ·exact h.elim
 refine ⟨_,h,?_⟩
 clear h
 refine ACalls.fW aI (TblOk.cons kE (TblOk.cons jm TblOk.nil)) Try.func13 [.tmp 0] (Nat.le_refl _) (T:=az []) (h:=fun hcl hlt=>?_)
 clear hlt
 simp only [go_sem,fp]
 refine ⟨[⟨[97],0,1⟩],⟨rfl,by decide⟩,?_⟩
 have hov:oV nh:=⟨by decide,by decide⟩
 have hvl:(aW (pN [⟨[97],0,1⟩])).length=3:=rfl
 simp only [go_sem,cd]
 refine ⟨nh,⟨rfl,hov⟩,?_⟩
 have c1:=rY
 generalize comp (aK nh) [97,32,43,32,49]=q1 at *
 obtain ⟨t1,e1⟩:=q1
 have c1':e1=12:=c1
 subst c1'
 simp only [go_sem,cd,cQ]
 refine ⟨nh,⟨rfl,hov⟩,?_⟩
 have c2:=sK
 generalize comp (aK nh) [97,58,58,109,97,115,107,32,62,32,48]=q2 at *
 obtain ⟨t2,e2⟩:=q2
 have c2':e2=6:=c2
 subst c2'
 simp only [go_sem,cd,cQ]
 refine ⟨nh,⟨rfl,hov⟩,?_⟩
 rw [rM]
 have d1:(((12:Nat):Int)==12)=true:=rfl
 have d2:(((6:Nat):Int)==6)=true:=rfl
 have d3:(((0:Nat):Int)==0)=true:=rfl
 have d4:(((1:Nat):Int)==1)=true:=rfl
 have d5:(((3:Nat):Int)==3)=true:=rfl
 have hol:(nds tI).length=1:=rfl
 simp only [go_sem,cQ,d1,d2,d3,d4,d5,hol,hvl]
 simp (disch:=first|assumption|omega|(simp;done)|(simp;omega)|(simp only [bt,and_true];first|done|omega|(simp;done))) [↓zmi,beq,ybc,ybd,ybe,ah,wk,wk2,wk1,wkM,wkL,ap,ybf,hcl]
theorem lZ {kn:VN→Bool} {s:List UInt8}:(comp kn s).2≤12:=by
 unfold comp
 split
 ·exact Nat.zero_le _
 ·unfold ny
  split
  ·rcases mm (s:=s) with h|h|h<;>simp only [h]<;>omega
  ·split
   ·have:∀ l r,(cg l r).2≤12:=by
     intro l r
     cases r with
     |bad p=>simp [cg]
     |ok a p t=>dsimp only [cg];split;simp;split<;>simp
    exact this _ _
   ·split
    ·exact chk_le.2
    ·exact Nat.zero_le _
end Go.AL
open Go Go.AL Go.Proofs
namespace Go.AL
set_option linter.all false
set_option maxRecDepth 10000
theorem oO:ti Try.prog 83=some ⟨.slice 69,1,24,.slice .nil 1 []⟩:=by kernel_rfl
theorem n5:ti Try.prog 82=some ⟨.slice 73,1,24,.slice .nil 1 []⟩:=by kernel_rfl
theorem pe:ti Try.prog 88=some ⟨.struct [(0,79,false),(1,80,false),(2,81,false),(3,82,false),(4,83,false),(5,84,false),(6,85,false),(7,86,false),(8,3,false),(9,3,false)],10,208,.agg [.slice .nil 1 [],.slice .nil 1 [],.slice .nil 1 [],.slice .nil 1 [],.slice .nil 1 [],.slice .nil 1 [],.slice .nil 1 [],.slice .nil 1 [],.int .i64 0,.int .i64 0]⟩:=by kernel_rfl
attribute [go_sem] oO n5 pe
end Go.AL
