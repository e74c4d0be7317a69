/- Lemmas of the proof; no condition. -/
import Derived.Test.YtjnhidpnfdbmaaaGreatCG
import Derived.Test.YtjnhidpnfdbmaaaGreatS10z
import Derived.Test.YtjnhidpnfdbmaaaGreatLEntB
import Derived.Test.YtjnhidpnfdbmaaaGreatS10i
set_option linter.all false
set_option maxRecDepth 10000
open List renaming length_cons → yaz, length_nil → yba, take_of_length_le → ybc, drop_append → ybd, take_append → ybe, drop_eq_nil_of_le → ybf, map_cons → yae, length_map → ybb, map_nil → yaf
open Go Go.AL Go.Proofs
namespace Go.AL
def p2V (f:Nat→Nat→AV):List AV→AHeap→(AV→Prop)→Prop
 |[.agg [.int .u64 a,.int .u64 b],.agg [.int .u64 c,.int .u64 d]],_,K=>(isV a b∧isV c d)∧K (f (vOf a.toNat b.toNat) (vOf c.toNat d.toNat))
 |_,_,_=>False
def kh:=p2V fun x y=>vv (x &&& y)
def z6:=p2V fun x y=>vv (x ^^^ y)
theorem fG:EntOk Tryz.prog 103 (Ent.pure kh):=by
 unfold kh
 refine Ype fun _ H K h=>?_
 unfold p2V at h
 split at h
 rotate_left
 ·exact h.elim
 rename_i a b c d
 obtain ⟨⟨⟨h0,h1,h2,h3⟩,k0,k1,k2,k3⟩,hK⟩:=h
 refine ⟨_,hK,?_⟩
 obtain ⟨x,rfl⟩:=bU h0
 obtain ⟨y,rfl⟩:=bU h2
 obtain ⟨z,rfl⟩:=bU k0
 obtain ⟨w,rfl⟩:=bU k2
 clear hK h0 h2 k0 k2
 simp only [iNq]
 have hx:x<2^64:=by omega
 have hy:y<2^64:=by omega
 have hz:z<2^64:=by omega
 have hw:w<2^64:=by omega
 rw [I5 x y z w hy hw,og (Nat.and_lt_two_pow _ hw)]
 refine ACalls.fW ax tNq Tryz.func103 [.cell 4 29] (nrq _) (T:=aq []) (h:=fun hcl hlt=>?_)
 clear hlt
 simp only [go_sem,zav,byq,kU x z hx hz,kU y w hy hw]
 exact Z0
theorem Hz:EntOk Tryz.prog 137 (Ent.pure z6):=by
 unfold z6
 refine Ype fun _ H K h=>?_
 unfold p2V at h
 split at h
 rotate_left
 ·exact h.elim
 rename_i a b c d
 obtain ⟨⟨⟨h0,h1,h2,h3⟩,k0,k1,k2,k3⟩,hK⟩:=h
 refine ⟨_,hK,?_⟩
 obtain ⟨x,rfl⟩:=bU h0
 obtain ⟨y,rfl⟩:=bU h2
 obtain ⟨z,rfl⟩:=bU k0
 obtain ⟨w,rfl⟩:=bU k2
 clear hK h0 h2 k0 k2
 simp only [iNq]
 have hx:x<2^64:=by omega
 have hy:y<2^64:=by omega
 have hz:z<2^64:=by omega
 have hw:w<2^64:=by omega
 rw [HY x y z w hy hw,og (Nat.xor_lt_two_pow hy hw)]
 refine ACalls.fW ax tNq Tryz.func137 [.cell 4 29] (nrq _) (T:=aq []) (h:=fun hcl hlt=>?_)
 clear hlt
 simp only [go_sem,zav,byq,ub x z hx hz,ub y w hy hw]
 exact Z0
def nk:List AV→AHeap→(AV→Prop)→Prop
 |[.int .i64 n],_,K=>K (.int .i64 ((cH n:Nat):Int))
 |_,_,_=>False
theorem sE:EntOk Tryz.prog 136 (Ent.pure nk):=by
 refine Ype fun _ H K h=>?_
 unfold nk at h
 split at h
 rotate_left
 ·exact h.elim
 rename_i n
 refine ⟨_,h,?_⟩
 clear h
 refine ACalls.fW ax tNq Tryz.func136 [.tmp 2] (nrq _) (T:=aq []) (h:=fun hcl hlt=>?_)
 clear hlt
 have e:min (max 0 n) 128=((cH n:Nat):Int):=by unfold cH;omega
 simp only [go_sem,Bool.false_eq_true,if_true,if_false,e]
 exact Z0
def gX:List AV→AHeap→(AV→Prop)→Prop
 |[.int .i64 n],_,K=>K (vv (iX n))
 |_,_,_=>False
theorem dx:EntOk Tryz.prog 105 (Ent.pure gX):=by
 refine Ype fun _ H K h=>?_
 unfold gX at h
 split at h
 rotate_left
 ·exact h.elim
 rename_i n
 refine ⟨_,h,?_⟩
 clear h
 have hc:=nn n
 have e1:IntKind.i64.wrap (128 - ((cH n:Nat):Int))=((128 - cH n:Nat):Int):=by rw [wrap_i64]<;>omega
 have e2:vOf 18446744073709551615 18446744073709551615 >>> (128 - cH n)=iX n:=zR hc
 have e3:Int.toNat 18446744073709551615=18446744073709551615:=rfl
 refine ACalls.fW ax (tCq sE (tCq DL tNq)) Tryz.func105 [.cell 2 29] (nrq _) (T:=aq []) (h:=fun hcl hlt=>?_)
 clear hlt
 simp only [go_sem,nk,tK,isV,e1,e3,iNq,e2,vv]
 refine ⟨by omega,?_⟩
 exact Z0
def oH:List AV→AHeap→(AV→Prop)→Prop
 |[.int .i64 w,.int .i64 n],_,K=>K (vv (ua w n))
 |_,_,_=>False
theorem uE (n:Int):cH ((cH n:Nat):Int)=cH n:=by unfold cH;omega
theorem wT (n:Int):iX ((cH n:Nat):Int)=iX n:=by unfold iX;rw [uE]
theorem cK:EntOk Tryz.prog 104 (Ent.pure oH):=by
 refine Ype fun _ H K h=>?_
 unfold oH at h
 split at h
 rotate_left
 ·exact h.elim
 rename_i w n
 refine ⟨_,h,?_⟩
 clear h
 have hc:=nn w
 have e1:IntKind.i64.wrap (((cH w:Nat):Int) - min (max 0 n) ((cH w:Nat):Int))=((cH w:Nat):Int) - min (max 0 n) ((cH w:Nat):Int):=by rw [wrap_i64]<;>omega
 have hx:∀ x y:Nat,x<2^128→y<2^128→(isV ((x/2^64:Nat):Int) ((x % 2^64:Nat):Int)∧isV ((y/2^64:Nat):Int) ((y % 2^64:Nat):Int))=True:=fun x y hx hy=>eq_true ⟨by unfold isV;omega,by unfold isV;omega⟩
 have o1:=mQ w
 have o2:=mQ (((cH w:Nat):Int) - min (max 0 n) ((cH w:Nat):Int))
 have e2:iX w ^^^ iX (((cH w:Nat):Int) - min (max 0 n) ((cH w:Nat):Int))=ua w n:=by
  unfold ua
  congr 2
  unfold iX
  congr 2
  unfold cH
  unfold cH at hc
  omega
 refine ACalls.fW ax (tCq sE (tCq dx (tCq Hz tNq))) Tryz.func104 [.cell 4 29] (nrq _) (T:=aq []) (h:=fun hcl hlt=>?_)
 clear hlt
 simp only [go_sem,Bool.false_eq_true,if_true,if_false,nk,gX,z6,p2V,e1,wT,vv,iNq,dd,e2,hx _ _ o1 o2]
 exact Z0
theorem Hm {a b c d:Nat} (h:b<2^64) (k:d<2^64):Gq (vOf a b) (vOf c d)=if a=c∧b=d then 0 else if a<c∨a=c∧b<d then -1 else 1:=by
 unfold Gq
 simp only [Ht h k,J4 h k]
theorem eH {a b c d:Int}:teq Tryz.prog 9 29 (.agg [.int .u64 a,.int .u64 b]) (.agg [.int .u64 c,.int .u64 d])=some ((a==c)&&((b==d)&&true)):=by
 have g2:Tryz.prog.stoodInHeld 29=false:=by kernel_rfl
 simp [nq,teq,teq.go,teq.part,sb,ceq,g2,TD.agg]
theorem eC:Tryz.prog.eqGuardType Tryz.prog.depth 29=false:=by kernel_rfl
theorem o9 {a b:Nat}:(((a:Nat):Int)==((b:Nat):Int))=decide (a=b):=by rw [Bool.eq_iff_iff];simp;omega
theorem oY {a b:Nat}:decide (((a:Nat):Int)<((b:Nat):Int))=decide (a<b):=by rw [decide_eq_decide];omega
def eV:=p2V fun x y=>.int .i64 (Gq x y)
theorem cJ:EntOk Tryz.prog 106 (Ent.pure eV):=by
 unfold eV
 refine Ype fun _ H K h=>?_
 unfold p2V at h
 split at h
 rotate_left
 ·exact h.elim
 rename_i a b c d
 obtain ⟨⟨⟨h0,h1,h2,h3⟩,k0,k1,k2,k3⟩,hK⟩:=h
 refine ⟨_,hK,?_⟩
 obtain ⟨x,rfl⟩:=bU h0
 obtain ⟨y,rfl⟩:=bU h2
 obtain ⟨z,rfl⟩:=bU k0
 obtain ⟨w,rfl⟩:=bU k2
 clear hK h0 h2 k0 k2
 simp only [iNq]
 have hx:x<2^64:=by omega
 have hy:y<2^64:=by omega
 have hz:z<2^64:=by omega
 have hw:w<2^64:=by omega
 rw [Hm hy hw]
 rcases (by omega:(x=z∧y=w)∨x<z∨(x=z∧y<w)∨z<x∨(x=z∧w<y)) with h|h|h|h|h
 ·rw [if_pos h]
  refine ACalls.fW ax tNq Tryz.func106 [.tmp 4] (nrq _) (T:=aq []) (h:=fun hcl hlt=>?_)
  clear hlt
  simp only [go_sem,eH,eC,o9,oY,h.1,h.2,decide_true,Bool.and_self,Bool.bne_false,Bool.and_true]
  exact Z0
 ·rw [if_neg (by omega),if_pos (.inl h)]
  have d1:decide (x=z)=false:=dfq (by omega)
  have d2:decide (x<z)=true:=dtq h
  refine ACalls.fW ax tNq Tryz.func106 [.tmp 4] (nrq _) (T:=aq []) (h:=fun hcl hlt=>?_)
  clear hlt
  simp only [go_sem,eH,eC,o9,oY,d1,d2,Bool.false_and,Bool.bne_false,Bool.and_true]
  exact Z0
 ·rw [if_neg (by omega),if_pos (.inr h)]
  have d1:decide (y=w)=false:=dfq (by omega)
  have d2:decide (y<w)=true:=dtq h.2
  have d3:decide (z<z)=false:=by simp
  refine ACalls.fW ax tNq Tryz.func106 [.tmp 4] (nrq _) (T:=aq []) (h:=fun hcl hlt=>?_)
  clear hlt
  simp only [go_sem,eH,eC,o9,oY,h.1,d1,d2,d3,decide_true,Bool.and_false,Bool.bne_false,Bool.and_true,Bool.true_and]
  exact Z0
 ·rw [if_neg (by omega),if_neg (by omega)]
  have d1:decide (x=z)=false:=dfq (by omega)
  have d2:decide (x<z)=false:=dfq (by omega)
  refine ACalls.fW ax tNq Tryz.func106 [.tmp 4] (nrq _) (T:=aq []) (h:=fun hcl hlt=>?_)
  clear hlt
  simp only [go_sem,eH,eC,o9,oY,d1,d2,Bool.false_and,Bool.bne_false,Bool.and_true]
  exact Z0
 ·rw [if_neg (by omega),if_neg (by omega)]
  have d1:decide (y=w)=false:=dfq (by omega)
  have d2:decide (y<w)=false:=dfq (by omega)
  have d3:decide (z<z)=false:=by simp
  refine ACalls.fW ax tNq Tryz.func106 [.tmp 4] (nrq _) (T:=aq []) (h:=fun hcl hlt=>?_)
  clear hlt
  simp only [go_sem,eH,eC,o9,oY,h.1,d1,d2,d3,decide_true,Bool.and_false,Bool.bne_false,Bool.and_true,Bool.true_and]
  exact Z0
def eg:List AV→AHeap→(AV→Prop)→Prop
 |[.agg [.int .u64 a,.int .u64 b],.int .i64 n],_,K=>isV a b∧K (.bool (decide (((bl (vOf a.toNat b.toNat):Nat):Int)≤n)))
 |_,_,_=>False
theorem dO:EntOk Tryz.prog 77 (Ent.pure eg):=by
 refine Ype fun _ H K h=>?_
 unfold eg at h
 split at h
 rotate_left
 ·exact h.elim
 rename_i a b n
 obtain ⟨hv,hK⟩:=h
 refine ⟨_,hK,?_⟩
 clear hK
 refine ACalls.fW ax (tCq Gk tNq) Tryz.func77 [.tmp 4] (nrq _) (T:=aq []) (h:=fun hcl hlt=>?_)
 clear hlt
 unfold isV at hv
 simp only [go_sem,xj]
 refine ⟨hv,?_⟩
 exact Z0
def ixP {α:Type} (q:α→Bool):List α→Nat→Int
 |[],_ => -1
 |x::xs,k=>if q x=true then (k:Int) else ixP q xs (k+1)
theorem BI {α β:Type} {f:α→β} {q:β→Bool}:∀ (l:List α) (k:Nat),ixP q (l.map f) k=ixP (fun x=>q (f x)) l k
 |[],_=>rfl
 |x::l,k=>by simp only [yae,ixP,BI l]
theorem oD {α:Type} {q:α→Bool}:∀ {l:List α} {k:Nat},ixP q l k<(k:Int)+l.length∧(ixP q l k = -1∨(k:Int)≤ixP q l k)
 |[],k=>by simp [ixP];omega
 |x::l,k=>by
  unfold ixP
  split
  ·simp;omega
  ·have:=oD (q:=q) (l:=l) (k:=k+1)
   simp only [yaz]
   omega
theorem ne {α:Type} {q:α→Bool}:∀ {l:List α} {k i:Nat},ixP q l k=((k+i:Nat):Int)→∃ x,l[i]?=some x∧q x=true∧l.find? q=some x
 |[],k,i,h=>by simp [ixP] at h;omega
 |x::l,k,i,h=>by
  unfold ixP at h
  split at h
  ·rename_i hq
   have:i=0:=by omega
   subst this
   exact ⟨x,rfl,hq,by simp [hq]⟩
  ·rename_i hq
   have hi:=(oD (q:=q) (l:=l) (k:=k+1)).2
   obtain ⟨j,rfl⟩:∃ j,i=j+1:=⟨i - 1,by omega⟩
   obtain ⟨y,h1,h2,h3⟩:=ne (l:=l) (k:=k+1) (i:=j) (by rw [h];congr 1;omega)
   exact ⟨y,by simpa using h1,h2,by rw [List.find?_cons_of_neg hq];exact h3⟩
theorem kp {α:Type} {q:α→Bool}:∀ {l:List α} {k:Nat},ixP q l k = -1→l.find? q=none
 |[],k,h=>rfl
 |x::l,k,h=>by
  unfold ixP at h
  split at h
  ·omega
  ·rename_i hq
   rw [List.find?_cons_of_neg hq]
   exact kp h
def AH:List AV→AHeap→(AV→Prop)→Prop
 |[x,.ptr c 0],H,K=>∃ t n,(x=bc t∧H.get c=some (.cells [.int .i64 n]))∧K (.bool (t.id==n))
 |_,_,_=>False
theorem Jd:EntOk Tryz.prog 64 (Ent.pure AH):=by
 refine Ype fun _ H K h=>?_
 unfold AH at h
 split at h
 rotate_left
 ·exact h.elim
 rename_i x c
 obtain ⟨t,n,⟨rfl,hg⟩,hK⟩:=h
 refine ⟨_,hK,?_⟩
 clear hK
 unfold bc
 refine ACalls.fW ax tNq Tryz.func64 [.tmp 3] (nrq _) (T:=aq []) (h:=fun hcl hlt=>?_)
 clear hlt
 have hcs:=au hg
 have hl:=glq hg
 have hne:(c=H.nx)=False:=eq_false (by omega)
 simp only [go_sem,hcs,hne]
 (repeat with_reducible refine Yq ?_)
 exact Z0
def AB:List AV→AHeap→(AV→Prop)→Prop
 |[x,.ptr c 0],H,K=>∃ t n,(x=cB t∧H.get c=some (.cells [.int .i64 n]))∧K (.bool (t.id==n))
 |_,_,_=>False
theorem Jl:EntOk Tryz.prog 140 (Ent.pure AB):=by
 refine Ype fun _ H K h=>?_
 unfold AB at h
 split at h
 rotate_left
 ·exact h.elim
 rename_i x c
 obtain ⟨t,n,⟨rfl,hg⟩,hK⟩:=h
 refine ⟨_,hK,?_⟩
 clear hK
 unfold cB
 refine ACalls.fW ax tNq Tryz.func140 [.tmp 3] (nrq _) (T:=aq []) (h:=fun hcl hlt=>?_)
 clear hlt
 have hcs:=au hg
 have hl:=glq hg
 have hne:(c=H.nx)=False:=eq_false (by omega)
 simp only [go_sem,hcs,hne]
 (repeat with_reducible refine Yq ?_)
 exact Z0
def zl:List AV→AHeap→(AV→Prop)→Prop
 |[.slice _ 8 l,.func (.func 64) [] [.ptr c 0]],H,K=>∃ (ts:List STable) (n:Int),(l=ts.map bc∧H.get c=some (.cells [.int .i64 n])∧ts.length≤1000000)∧K (.int .i64 (ixP (fun t:STable=>t.id==n) ts 0))
 |_,_,_=>False
theorem Iv:EntOk Tryz.prog 63 (Ent.pure zl):=by
 refine Ype fun _ H K h=>?_
 unfold zl at h
 split at h
 rotate_left
 ·exact h.elim
 rename_i m l c
 obtain ⟨ts,n,⟨rfl,hg,hl⟩,hK⟩:=h
 refine ⟨_,hK,?_⟩
 clear hK
 generalize hR:ixP (fun t:STable=>t.id==n) ts 0=R
 refine ACalls.fW ax (tCq Jd tNq) Tryz.func63 [.tmp 4] (nrq _) (T:=aq []) (h:=fun hcl hlt=>?_)
 have hm:AV.lt H.nx (.slice m 8 (ts.map bc)):=hlt _ (by simp)
 have hf:AV.lt H.nx (.func (.func 64) [] [.ptr c 0]):=hlt _ (by simp)
 clear hlt
 simp only [go_sem,ybb]
 refine aE (A:=Nat) (fun k=>[(0,.slice m 8 (ts.map bc)),(1,.func (.func 64) [] [.ptr c 0]),(7,.int .i64 (ts.length:Int)),(8,.int .i64 (k:Int))]) (fun _=>H) (fun k=>k≤ts.length∧ixP (fun t:STable=>t.id==n) (ts.drop k) k=R) (fun k=>ts.length - k) 0 ⟨by omega,hR⟩ ?_ fun k hk=>?_
 ·refine ⟨nrq _,lRq _,hcl,?_,?_⟩
  ·simp [ltF,znf,hm,hf]
  ·simp [aK,wk2,wk1,wkM,Fr.get]
 clear hR
 obtain ⟨hk,hR⟩:=hk
 simp only [go_sem]
 refine aj (fun hc=>?_) (fun hc=>?_)
 ·have hk':k<ts.length:=by simp at hc;omega
  obtain ⟨x,hx⟩:∃ x,x=ts[k]:=⟨_,rfl⟩
  have hd:ts.drop k=x::ts.drop (k+1):=by rw [hx];exact dcq hk'
  have hg':=bw (f:=bc) (l:=ts) (k:=k) (x:=x) (by rw [gQq hk',hx])
  have e5:=Yk5 k
  have hcell:(bc x).cells.length=8:=rfl
  rw [hd] at hR
  unfold ixP at hR
  have hag:∃ cs,bc x=.agg cs∧cs.length=8:=⟨_,rfl,rfl⟩
  obtain ⟨cs,hcs,hcl3⟩:=hag
  have hts:List.take 8 cs=cs:=ybc (by omega)
  simp only [go_sem,iNq,ybb,hg',hcs,hcl3,hts,AH]
  (repeat with_reducible refine Yq ?_)
  refine ⟨x,n,⟨hcs.symm,hg⟩,?_⟩
  try simp only [aG,go_sem]
  (repeat with_reducible refine Yq ?_)
  refine aj (fun hq=>?_) (fun hq=>?_)
  ·rw [if_pos hq] at hR
   subst hR
   simp only [go_sem]
   exact Z0
  ·rw [if_neg (by rw [hq];decide)] at hR
   simp only [go_sem,e5]
   refine ⟨k+1,⟨by omega,hR⟩,by omega,nrq _,lRq _,hcl,?_,?_⟩
   ·simp [ltF,znf,hm,hf]
   ·simp [aK,wk2,wk1,wkM,Fr.get]
 ·have hk':k=ts.length:=by simp at hc;omega
  subst hk'
  rw [List.drop_length] at hR
  unfold ixP at hR
  subst hR
  simp only [go_sem]
  exact Z0
def wi:List AV→AHeap→(AV→Prop)→Prop
 |[.slice _ 3 l,.func (.func 140) [] [.ptr c 0]],H,K=>∃ (ts:List SField) (n:Int),(l=ts.map cB∧H.get c=some (.cells [.int .i64 n])∧ts.length≤1000000)∧K (.int .i64 (ixP (fun t:SField=>t.id==n) ts 0))
 |_,_,_=>False
theorem Bb:EntOk Tryz.prog 139 (Ent.pure wi):=by
 refine Ype fun _ H K h=>?_
 unfold wi at h
 split at h
 rotate_left
 ·exact h.elim
 rename_i m l c
 obtain ⟨ts,n,⟨rfl,hg,hl⟩,hK⟩:=h
 refine ⟨_,hK,?_⟩
 clear hK
 generalize hR:ixP (fun t:SField=>t.id==n) ts 0=R
 refine ACalls.fW ax (tCq Jl tNq) Tryz.func139 [.tmp 4] (nrq _) (T:=aq []) (h:=fun hcl hlt=>?_)
 have hm:AV.lt H.nx (.slice m 3 (ts.map cB)):=hlt _ (by simp)
 have hf:AV.lt H.nx (.func (.func 140) [] [.ptr c 0]):=hlt _ (by simp)
 clear hlt
 simp only [go_sem,ybb]
 refine aE (A:=Nat) (fun k=>[(0,.slice m 3 (ts.map cB)),(1,.func (.func 140) [] [.ptr c 0]),(7,.int .i64 (ts.length:Int)),(8,.int .i64 (k:Int))]) (fun _=>H) (fun k=>k≤ts.length∧ixP (fun t:SField=>t.id==n) (ts.drop k) k=R) (fun k=>ts.length - k) 0 ⟨by omega,hR⟩ ?_ fun k hk=>?_
 ·refine ⟨nrq _,lRq _,hcl,?_,?_⟩
  ·simp [ltF,znf,hm,hf]
  ·simp [aK,wk2,wk1,wkM,Fr.get]
 clear hR
 obtain ⟨hk,hR⟩:=hk
 simp only [go_sem]
 refine aj (fun hc=>?_) (fun hc=>?_)
 ·have hk':k<ts.length:=by simp at hc;omega
  obtain ⟨x,hx⟩:∃ x,x=ts[k]:=⟨_,rfl⟩
  have hd:ts.drop k=x::ts.drop (k+1):=by rw [hx];exact dcq hk'
  have hg':=bw (f:=cB) (l:=ts) (k:=k) (x:=x) (by rw [gQq hk',hx])
  have e5:=Yk5 k
  have hcell:(cB x).cells.length=3:=rfl
  rw [hd] at hR
  unfold ixP at hR
  have hag:∃ cs,cB x=.agg cs∧cs.length=3:=⟨_,rfl,rfl⟩
  obtain ⟨cs,hcs,hcl3⟩:=hag
  have hts:List.take 3 cs=cs:=ybc (by omega)
  simp only [go_sem,iNq,ybb,hg',hcs,hcl3,hts,AB]
  (repeat with_reducible refine Yq ?_)
  refine ⟨x,n,⟨hcs.symm,hg⟩,?_⟩
  try simp only [aG,go_sem]
  (repeat with_reducible refine Yq ?_)
  refine aj (fun hq=>?_) (fun hq=>?_)
  ·rw [if_pos hq] at hR
   subst hR
   simp only [go_sem]
   exact Z0
  ·rw [if_neg (by rw [hq];decide)] at hR
   simp only [go_sem,e5]
   refine ⟨k+1,⟨by omega,hR⟩,by omega,nrq _,lRq _,hcl,?_,?_⟩
   ·simp [ltF,znf,hm,hf]
   ·simp [aK,wk2,wk1,wkM,Fr.get]
 ·have hk':k=ts.length:=by simp at hc;omega
  subst hk'
  rw [List.drop_length] at hR
  unfold ixP at hR
  subst hR
  simp only [go_sem]
  exact Z0
def z4:List AV→AHeap→(AV→Prop)→Prop
 |[x],H,K=>∃ t,x=bT t∧K (.bool (t.kind==3||t.kind==4))
 |_,_,_=>False
theorem HZ:EntOk Tryz.prog 109 (Ent.pure z4):=by
 refine Ype fun _ H K h=>?_
 unfold z4 at h
 split at h
 rotate_left
 ·exact h.elim
 rename_i x
 obtain ⟨t,rfl,hK⟩:=h
 refine ⟨_,hK,?_⟩
 clear hK
 unfold bT
 cases h3:(t.kind==3)
 ·rw [Bool.false_or]
  refine ACalls.fW ax tNq Tryz.func109 [.tmp 2] (nrq _) (T:=aq []) (h:=fun hcl hlt=>?_)
  clear hlt
  simp only [go_sem,h3]
  (repeat with_reducible refine Yq ?_)
  exact Z0
 ·rw [Bool.true_or]
  refine ACalls.fW ax tNq Tryz.func109 [.tmp 2] (nrq _) (T:=aq []) (h:=fun hcl hlt=>?_)
  clear hlt
  simp only [go_sem,h3]
  (repeat with_reducible refine Yq ?_)
  exact Z0
def zM:List AV→AHeap→(AV→Prop)→Prop
 |[.slice _ 3 l,.func (.func 109) [] []],H,K=>∃ ts:List SKey,(l=ts.map bT∧ts.length≤1000000)∧K (.int .i64 (ixP (fun t:SKey=>t.kind==3||t.kind==4) ts 0))
 |_,_,_=>False
theorem Ip:EntOk Tryz.prog 141 (Ent.pure zM):=by
 refine Ype fun _ H K h=>?_
 unfold zM at h
 split at h
 rotate_left
 ·exact h.elim
 rename_i m l
 obtain ⟨ts,⟨rfl,hl⟩,hK⟩:=h
 refine ⟨_,hK,?_⟩
 clear hK
 generalize hR:ixP (fun t:SKey=>t.kind==3||t.kind==4) ts 0=R
 refine ACalls.fW ax (tCq HZ tNq) Tryz.func141 [.tmp 4] (nrq _) (T:=aq []) (h:=fun hcl hlt=>?_)
 have hm:AV.lt H.nx (.slice m 3 (ts.map bT)):=hlt _ (by simp)
 have hf:AV.lt H.nx (.func (.func 109) [] []):=hlt _ (by simp)
 clear hlt
 simp only [go_sem,ybb]
 refine aE (A:=Nat) (fun k=>[(0,.slice m 3 (ts.map bT)),(1,.func (.func 109) [] []),(7,.int .i64 (ts.length:Int)),(8,.int .i64 (k:Int))]) (fun _=>H) (fun k=>k≤ts.length∧ixP (fun t:SKey=>t.kind==3||t.kind==4) (ts.drop k) k=R) (fun k=>ts.length - k) 0 ⟨by omega,hR⟩ ?_ fun k hk=>?_
 ·refine ⟨nrq _,lRq _,hcl,?_,?_⟩
  ·simp [ltF,znf,hm,hf]
  ·simp [aK,wk2,wk1,wkM,Fr.get]
 clear hR
 obtain ⟨hk,hR⟩:=hk
 simp only [go_sem]
 refine aj (fun hc=>?_) (fun hc=>?_)
 ·have hk':k<ts.length:=by simp at hc;omega
  obtain ⟨x,hx⟩:∃ x,x=ts[k]:=⟨_,rfl⟩
  have hd:ts.drop k=x::ts.drop (k+1):=by rw [hx];exact dcq hk'
  have hg':=bw (f:=bT) (l:=ts) (k:=k) (x:=x) (by rw [gQq hk',hx])
  have e5:=Yk5 k
  have hcell:(bT x).cells.length=3:=rfl
  rw [hd] at hR
  unfold ixP at hR
  have hag:∃ cs,bT x=.agg cs∧cs.length=3:=⟨_,rfl,rfl⟩
  obtain ⟨cs,hcs,hcl3⟩:=hag
  have hts:List.take 3 cs=cs:=ybc (by omega)
  simp only [go_sem,iNq,ybb,hg',hcs,hcl3,hts,z4]
  (repeat with_reducible refine Yq ?_)
  refine ⟨x,hcs.symm,?_⟩
  try simp only [aG,go_sem]
  (repeat with_reducible refine Yq ?_)
  refine aj (fun hq=>?_) (fun hq=>?_)
  ·rw [if_pos hq] at hR
   subst hR
   simp only [go_sem]
   exact Z0
  ·rw [if_neg (by rw [hq];decide)] at hR
   simp only [go_sem,e5]
   refine ⟨k+1,⟨by omega,hR⟩,by omega,nrq _,lRq _,hcl,?_,?_⟩
   ·simp [ltF,znf,hm,hf]
   ·simp [aK,wk2,wk1,wkM,Fr.get]
 ·have hk':k=ts.length:=by simp at hc;omega
  subst hk'
  rw [List.drop_length] at hR
  unfold ixP at hR
  subst hR
  simp only [go_sem]
  exact Z0
def gm:List AV→AHeap→(AV→Prop)→Prop
 |[.agg l,.int .i64 n],_,K=>∃ S:Sch,(l=aY S∧S.tables.length≤1000000)∧K (.int .i64 (ixP (fun t:STable=>t.id==n) S.tables 0))
 |_,_,_=>False
theorem iL:EntOk Tryz.prog 31 (Ent.pure gm):=by
 refine Ype fun _ H K h=>?_
 unfold gm at h
 split at h
 rotate_left
 ·exact h.elim
 rename_i l n
 obtain ⟨S,⟨rfl,hl⟩,hK⟩:=h
 refine ⟨_,hK,?_⟩
 clear hK
 refine ACalls.fW ax (tCq Iv tNq) Tryz.func31 [.tmp 4] (nrq _) (T:=aq []) (h:=fun hcl hlt=>?_)
 clear hlt
 simp only [go_sem,aY,zl]
 (repeat with_reducible refine Yq ?_)
 refine ⟨S.tables,n,⟨rfl,by simp only [go_sem],hl⟩,?_⟩
 try simp only [aG,go_sem]
 exact Z0
def ld:List AV→AHeap→(AV→Prop)→Prop
 |[.agg l,.int .i64 n],_,K=>∃ S:Sch,(l=aY S∧S.fields.length≤1000000)∧K (.int .i64 (ixP (fun t:SField=>t.id==n) S.fields 0))
 |_,_,_=>False
theorem rg:EntOk Tryz.prog 107 (Ent.pure ld):=by
 refine Ype fun _ H K h=>?_
 unfold ld at h
 split at h
 rotate_left
 ·exact h.elim
 rename_i l n
 obtain ⟨S,⟨rfl,hl⟩,hK⟩:=h
 refine ⟨_,hK,?_⟩
 clear hK
 refine ACalls.fW ax (tCq Bb tNq) Tryz.func107 [.tmp 4] (nrq _) (T:=aq []) (h:=fun hcl hlt=>?_)
 clear hlt
 simp only [go_sem,aY,wi]
 (repeat with_reducible refine Yq ?_)
 refine ⟨S.fields,n,⟨rfl,by simp only [go_sem],hl⟩,?_⟩
 try simp only [aG,go_sem]
 exact Z0
theorem tn {fs:List SField} {id:Int}:g9 fs id=match fs.find? (fun f=>f.id==id) with|some f=>f.bits|none=>0:=by
 induction fs with
 |nil=>rfl
 |cons f fs ih =>
  unfold g9
  by_cases h:f.id=id
  ·rw [if_pos h,List.find?_cons_of_pos (by simp [h])]
  ·rw [if_neg h,List.find?_cons_of_neg (by simp [h])];exact ih
def nj:List AV→AHeap→(AV→Prop)→Prop
 |[.agg l,.agg [.str nm,.int .i64 fld,.int .i64 kind]],_,K=>∃ S:Sch,(l=aY S∧S.fields.length≤1000000)∧K (.int .i64 (cN S fld))
 |_,_,_=>False
theorem nU:EntOk Tryz.prog 73 (Ent.pure nj):=by
 refine Ype fun _ H K h=>?_
 unfold nj at h
 split at h
 rotate_left
 ·exact h.elim
 rename_i l nm fld kind
 obtain ⟨S,⟨rfl,hl⟩,hK⟩:=h
 refine ⟨_,hK,?_⟩
 clear hK
 unfold cN
 rw [tn]
 obtain ⟨b1,b2⟩:=oD (q:=fun f:SField=>f.id==fld) (l:=S.fields) (k:=0)
 rcases b2 with b2|b2
 ·rw [kp b2]
  refine ACalls.fW ax (tCq rg tNq) Tryz.func73 [.tmp 4] (nrq _) (T:=aq []) (h:=fun hcl hlt=>?_)
  clear hlt
  simp only [go_sem,aY,ld]
  (repeat with_reducible refine Yq ?_)
  refine ⟨S,⟨rfl,hl⟩,?_⟩
  rw [b2]
  have d:decide ((-1:Int)<0)=true:=rfl
  simp only [aG,go_sem,d]
  exact Z0
 ·obtain ⟨i,hi⟩:∃ i:Nat,ixP (fun f:SField=>f.id==fld) S.fields 0=((0+i:Nat):Int):=⟨(ixP (fun f:SField=>f.id==fld) S.fields 0).toNat,by omega⟩
  obtain ⟨x,h1,h2,h3⟩:=ne hi
  rw [h3]
  rw [nzq] at hi
  have hil:i<S.fields.length:=by
   rcases Nat.lt_or_ge i S.fields.length with h|h
   ·exact h
   ·rw [gNq h] at h1;cases h1
  have hg':=bw (f:=cB) (l:=S.fields) (k:=i) (x:=x) h1
  have d:decide ((i:Int)<0)=false:=by simp
  refine ACalls.fW ax (tCq rg tNq) Tryz.func73 [.tmp 4] (nrq _) (T:=aq []) (h:=fun hcl hlt=>?_)
  clear hlt
  simp only [go_sem,aY,ld]
  (repeat with_reducible refine Yq ?_)
  refine ⟨S,⟨rfl,hl⟩,?_⟩
  rw [hi]
  simp only [aG,go_sem,aY,d,iNq,hg',cB,ybb]
  (repeat with_reducible refine Yq ?_)
  exact Z0
def jb (S:Sch) (id:Int):Option STable:=S.tables.find? fun t=>t.id==id
def kw:List AV→AHeap→(AV→Prop)→Prop
 |[.agg l,.agg [.int .i64 id,.slice _ 8 ms,.int .i64 pr,.int .i64 ac,.slice _ 2 ar]],_,K=>∃ S:Sch,(l=aY S∧S.tables.length≤1000000) ∧
   K (match jb S id with|some t=>.tup [bc t,.bool true]|none=>.tup [bc pn,.bool false])
 |_,_,_=>False
theorem nb:EntOk Tryz.prog 70 (Ent.pure kw):=by
 refine Ype fun _ H K h=>?_
 unfold kw at h
 split at h
 rotate_left
 ·exact h.elim
 rename_i l id m1 ms pr ac m2 ar
 obtain ⟨S,⟨rfl,hl⟩,hK⟩:=h
 refine ⟨_,hK,?_⟩
 clear hK
 unfold jb
 obtain ⟨b1,b2⟩:=oD (q:=fun f:STable=>f.id==id) (l:=S.tables) (k:=0)
 rcases b2 with b2|b2
 ·rw [kp b2]
  refine ACalls.fW ax (tCq iL tNq) Tryz.func70 [.cell 4 91,.tmp 5] (nrq _) (T:=aq []) (h:=fun hcl hlt=>?_)
  clear hlt
  simp only [go_sem,aY,gm]
  (repeat with_reducible refine Yq ?_)
  refine ⟨S,⟨rfl,hl⟩,?_⟩
  rw [b2]
  have d:decide ((-1:Int)<0)=true:=rfl
  simp only [aG,go_sem,d,bc,pn,yaf,inL]
  exact Z0
 ·obtain ⟨i,hi⟩:∃ i:Nat,ixP (fun f:STable=>f.id==id) S.tables 0=((0+i:Nat):Int):=⟨(ixP (fun f:STable=>f.id==id) S.tables 0).toNat,by omega⟩
  obtain ⟨x,h1,h2,h3⟩:=ne hi
  rw [h3]
  rw [nzq] at hi
  have hil:i<S.tables.length:=by
   rcases Nat.lt_or_ge i S.tables.length with h|h
   ·exact h
   ·rw [gNq h] at h1;cases h1
  have hg':=bw (f:=bc) (l:=S.tables) (k:=i) (x:=x) h1
  have d:decide ((i:Int)<0)=false:=by simp
  have hlx:=cR (n:=H.nx) x
  simp only [bc] at hlx
  refine ACalls.fW ax (tCq iL tNq) Tryz.func70 [.cell 4 91,.tmp 5] (nrq _) (T:=aq []) (h:=fun hcl hlt=>?_)
  clear hlt
  simp only [go_sem,aY,gm]
  (repeat with_reducible refine Yq ?_)
  refine ⟨S,⟨rfl,hl⟩,?_⟩
  rw [hi]
  simp only [aG,go_sem,aY,d,iNq,hg',bc,ybb]
  (repeat with_reducible refine Yq ?_)
  simp (disch:=first|exact Zd|omega) [↓zmo,beq,ybc,ybd,ybe,ae,wk,wk2,wk1,wkM,wkL,ah,ybf,hcl,hlx]
end Go.AL
