/- Lemmas of the proof; no condition. -/
import Derived.Test.YthhmookokgiemaaGreatS10j
set_option linter.all false
set_option maxRecDepth 10000
open List renaming length_cons → yaz, length_nil → yba, take_of_length_le → ybc, drop_append → ybd, take_append → ybe, drop_eq_nil_of_le → ybf, length_map → ybb
open Go Go.AL Go.Proofs
namespace Go.AL
structure MOk (m:SMatch):Prop where
 v:m.value<2^128
 k:m.mask<2^128
 h:m.high<2^128
theorem uk {x:Nat} (h:x<2^128):isV ((x/2^64:Nat):Int) ((x % 2^64:Nat):Int)=True:=eq_true (by unfold isV;omega)
structure EOk (e:SEntry):Prop where
 ml:e.ms.length≤140737488355328
 al:e.args.length≤140737488355328
 mo:∀ m∈e.ms,MOk m
theorem Is:ti Tryz.prog 101=some ⟨.array 6 23,6,144,.agg [.slice .nil 1 [],.slice .nil 1 [],.slice .nil 1 [],.slice .nil 1 [],.slice .nil 1 [],.slice .nil 1 []]⟩:=by kernel_rfl
attribute [go_sem] Is
theorem IA {l:List Int}:(inL l).length=l.length:=by simp [inL]
structure SLen (S:Sch):Prop where
 fl:S.fields.length≤1000000
 hl:S.headers.length≤1000000
 sl:S.states.length≤1000000
 al:S.actions.length≤1000000
 tl:S.tables.length≤1000000
 rl:S.roles.length≤1000000
theorem IU:ti Tryz.prog 87=some ⟨.struct [(0,3,false),(1,9,false),(2,84,false),(3,85,false),(4,9,false)],5,88,.agg [.int .i64 0,.str [],.slice .nil 1 [],.slice .nil 1 [],.str []]⟩:=by kernel_rfl
theorem F0:ti Tryz.prog 28=some ⟨.slice 87,1,24,.slice .nil 1 []⟩:=by kernel_rfl
theorem IW:ti Tryz.prog 48=some ⟨.struct [(0,3,false),(1,9,false),(2,46,false),(3,23,false),(4,3,false),(5,4,false)],6,88,.agg [.int .i64 0,.str [],.slice .nil 1 [],.slice .nil 1 [],.int .i64 0,.bool false]⟩:=by kernel_rfl
theorem EB:ti Tryz.prog 31=some ⟨.slice 48,1,24,.slice .nil 1 []⟩:=by kernel_rfl
theorem Io:ti Tryz.prog 70=some ⟨.struct [(0,3,false),(1,9,false),(2,23,false)],3,48,.agg [.int .i64 0,.str [],.slice .nil 1 []]⟩:=by kernel_rfl
theorem Dx:ti Tryz.prog 26=some ⟨.slice 70,1,24,.slice .nil 1 []⟩:=by kernel_rfl
theorem HF:ti Tryz.prog 82=some ⟨.struct [(0,3,false),(1,3,false),(2,3,false),(3,80,false),(4,3,false)],5,56,.agg [.int .i64 0,.int .i64 0,.int .i64 0,.slice .nil 1 [],.int .i64 0]⟩:=by kernel_rfl
theorem FH:ti Tryz.prog 27=some ⟨.slice 82,1,24,.slice .nil 1 []⟩:=by kernel_rfl
attribute [go_sem] IU F0 IW EB Io Dx HF FH
def xQ:List AV→AHeap→(AV→Prop)→Prop
 |[x,.ptr c 0],H,K=>∃ t n,(x=ap t∧H.get c=some (.cells [.int .i64 n]))∧K (.bool (t.id==n))
 |_,_,_=>False
theorem H6:EntOk Tryz.prog 73 (Ent.pure xQ):=by
 refine Ype fun _ H K h=>?_
 unfold xQ at h
 split at h
 rotate_left
 ·exact h.elim
 rename_i x c
 obtain ⟨t,n,⟨rfl,hg⟩,hK⟩:=h
 refine ⟨_,hK,?_⟩
 clear hK
 unfold ap
 refine ACalls.fW ak tNq Tryz.func73 [.tmp 3] (nrq _) (T:=ag []) (h:=fun hcl hlt=>?_)
 clear hlt
 have hcs:=au hg
 have hl:=glq hg
 have hne:(c=H.nx)=False:=eq_false (by omega)
 simp only [go_sem,hcs,hne]
 (repeat with_reducible refine Yq ?_)
 exact Z1
def qB:List AV→AHeap→(AV→Prop)→Prop
 |[.slice _ 5 l,.func (.func 73) [] [.ptr c 0]],H,K=>∃ (ts:List SAction) (n:Int),(l=ts.map ap∧H.get c=some (.cells [.int .i64 n])∧ts.length≤1000000)∧K (.int .i64 (ixP (fun t:SAction=>t.id==n) ts 0))
 |_,_,_=>False
theorem CI:EntOk Tryz.prog 72 (Ent.pure qB):=by
 refine Ype fun _ H K h=>?_
 unfold qB at h
 split at h
 rotate_left
 ·exact h.elim
 rename_i m l c
 obtain ⟨ts,n,⟨rfl,hg,hl⟩,hK⟩:=h
 refine ⟨_,hK,?_⟩
 clear hK
 generalize hR:ixP (fun t:SAction=>t.id==n) ts 0=R
 refine ACalls.fW ak (tCq H6 tNq) Tryz.func72 [.tmp 4] (nrq _) (T:=ag []) (h:=fun hcl hlt=>?_)
 have hm:AV.lt H.nx (.slice m 5 (ts.map ap)):=hlt _ (by simp)
 have hf:AV.lt H.nx (.func (.func 73) [] [.ptr c 0]):=hlt _ (by simp)
 clear hlt
 simp only [go_sem,ybb]
 refine ay (A:=Nat) (fun k=>[(0,.slice m 5 (ts.map ap)),(1,.func (.func 73) [] [.ptr c 0]),(7,.int .i64 (ts.length:Int)),(8,.int .i64 (k:Int))]) (fun _=>H) (fun k=>k≤ts.length∧ixP (fun t:SAction=>t.id==n) (ts.drop k) k=R) (fun k=>ts.length - k) 0 ⟨by omega,hR⟩ ?_ fun k hk=>?_
 ·refine ⟨nrq _,lRq _,hcl,?_,?_⟩
  ·simp [ltF,znf,hm,hf]
  ·simp [aS,wk2,wk1,wkM,Fr.get]
 clear hR
 obtain ⟨hk,hR⟩:=hk
 simp only [go_sem]
 refine ah (fun hc=>?_) (fun hc=>?_)
 ·have hk':k<ts.length:=by simp at hc;omega
  obtain ⟨x,hx⟩:∃ x,x=ts[k]:=⟨_,rfl⟩
  have hd:ts.drop k=x::ts.drop (k+1):=by rw [hx];exact dcq hk'
  have hg':=aO (f:=ap) (l:=ts) (k:=k) (x:=x) (by rw [gQq hk',hx])
  have e5:=Yk5 k
  have hcell:(ap x).cells.length=5:=rfl
  rw [hd] at hR
  unfold ixP at hR
  have hag:∃ cs,ap x=.agg cs∧cs.length=5:=⟨_,rfl,rfl⟩
  obtain ⟨cs,hcs,hcl3⟩:=hag
  have hts:List.take 5 cs=cs:=ybc (by omega)
  simp only [go_sem,iNq,ybb,hg',hcs,hcl3,hts,xQ]
  (repeat with_reducible refine Yq ?_)
  refine ⟨x,n,⟨hcs.symm,hg⟩,?_⟩
  try simp only [aj,go_sem]
  (repeat with_reducible refine Yq ?_)
  refine ah (fun hq=>?_) (fun hq=>?_)
  ·rw [if_pos hq] at hR
   subst hR
   simp only [go_sem]
   exact Z1
  ·rw [if_neg (by rw [hq];decide)] at hR
   simp only [go_sem,e5]
   refine ⟨k+1,⟨by omega,hR⟩,by omega,nrq _,lRq _,hcl,?_,?_⟩
   ·simp [ltF,znf,hm,hf]
   ·simp [aS,wk2,wk1,wkM,Fr.get]
 ·have hk':k=ts.length:=by simp at hc;omega
  subst hk'
  rw [List.drop_length] at hR
  unfold ixP at hR
  subst hR
  simp only [go_sem]
  exact Z1
def eT:List AV→AHeap→(AV→Prop)→Prop
 |[.agg l,.int .i64 n],_,K=>∃ S:Sch,(l=aG S∧S.actions.length≤1000000)∧K (.int .i64 (ixP (fun t:SAction=>t.id==n) S.actions 0))
 |_,_,_=>False
theorem fV:EntOk Tryz.prog 25 (Ent.pure eT):=by
 refine Ype fun _ H K h=>?_
 unfold eT at h
 split at h
 rotate_left
 ·exact h.elim
 rename_i l n
 obtain ⟨S,⟨rfl,hl⟩,hK⟩:=h
 refine ⟨_,hK,?_⟩
 clear hK
 refine ACalls.fW ak (tCq CI tNq) Tryz.func25 [.tmp 4] (nrq _) (T:=ag []) (h:=fun hcl hlt=>?_)
 clear hlt
 simp only [go_sem,aG,qB]
 (repeat with_reducible refine Yq ?_)
 refine ⟨S.actions,n,⟨rfl,by simp only [go_sem],hl⟩,?_⟩
 try simp only [aj,go_sem]
 exact Z1
def zg:List AV→AHeap→(AV→Prop)→Prop
 |[x,.ptr c 0],H,K=>∃ t n,(x=az t∧H.get c=some (.cells [.int .i64 n]))∧K (.bool (t.id==n))
 |_,_,_=>False
theorem HR:EntOk Tryz.prog 69 (Ent.pure zg):=by
 refine Ype fun _ H K h=>?_
 unfold zg at h
 split at h
 rotate_left
 ·exact h.elim
 rename_i x c
 obtain ⟨t,n,⟨rfl,hg⟩,hK⟩:=h
 refine ⟨_,hK,?_⟩
 clear hK
 unfold az
 refine ACalls.fW ak tNq Tryz.func69 [.tmp 3] (nrq _) (T:=ag []) (h:=fun hcl hlt=>?_)
 clear hlt
 have hcs:=au hg
 have hl:=glq hg
 have hne:(c=H.nx)=False:=eq_false (by omega)
 simp only [go_sem,hcs,hne]
 (repeat with_reducible refine Yq ?_)
 exact Z1
def pV:List AV→AHeap→(AV→Prop)→Prop
 |[.slice _ 3 l,.func (.func 69) [] [.ptr c 0]],H,K=>∃ (ts:List SHeader) (n:Int),(l=ts.map az∧H.get c=some (.cells [.int .i64 n])∧ts.length≤1000000)∧K (.int .i64 (ixP (fun t:SHeader=>t.id==n) ts 0))
 |_,_,_=>False
theorem BC:EntOk Tryz.prog 68 (Ent.pure pV):=by
 refine Ype fun _ H K h=>?_
 unfold pV at h
 split at h
 rotate_left
 ·exact h.elim
 rename_i m l c
 obtain ⟨ts,n,⟨rfl,hg,hl⟩,hK⟩:=h
 refine ⟨_,hK,?_⟩
 clear hK
 generalize hR:ixP (fun t:SHeader=>t.id==n) ts 0=R
 refine ACalls.fW ak (tCq HR tNq) Tryz.func68 [.tmp 4] (nrq _) (T:=ag []) (h:=fun hcl hlt=>?_)
 have hm:AV.lt H.nx (.slice m 3 (ts.map az)):=hlt _ (by simp)
 have hf:AV.lt H.nx (.func (.func 69) [] [.ptr c 0]):=hlt _ (by simp)
 clear hlt
 simp only [go_sem,ybb]
 refine ay (A:=Nat) (fun k=>[(0,.slice m 3 (ts.map az)),(1,.func (.func 69) [] [.ptr c 0]),(7,.int .i64 (ts.length:Int)),(8,.int .i64 (k:Int))]) (fun _=>H) (fun k=>k≤ts.length∧ixP (fun t:SHeader=>t.id==n) (ts.drop k) k=R) (fun k=>ts.length - k) 0 ⟨by omega,hR⟩ ?_ fun k hk=>?_
 ·refine ⟨nrq _,lRq _,hcl,?_,?_⟩
  ·simp [ltF,znf,hm,hf]
  ·simp [aS,wk2,wk1,wkM,Fr.get]
 clear hR
 obtain ⟨hk,hR⟩:=hk
 simp only [go_sem]
 refine ah (fun hc=>?_) (fun hc=>?_)
 ·have hk':k<ts.length:=by simp at hc;omega
  obtain ⟨x,hx⟩:∃ x,x=ts[k]:=⟨_,rfl⟩
  have hd:ts.drop k=x::ts.drop (k+1):=by rw [hx];exact dcq hk'
  have hg':=aO (f:=az) (l:=ts) (k:=k) (x:=x) (by rw [gQq hk',hx])
  have e5:=Yk5 k
  have hcell:(az x).cells.length=3:=rfl
  rw [hd] at hR
  unfold ixP at hR
  have hag:∃ cs,az x=.agg cs∧cs.length=3:=⟨_,rfl,rfl⟩
  obtain ⟨cs,hcs,hcl3⟩:=hag
  have hts:List.take 3 cs=cs:=ybc (by omega)
  simp only [go_sem,iNq,ybb,hg',hcs,hcl3,hts,zg]
  (repeat with_reducible refine Yq ?_)
  refine ⟨x,n,⟨hcs.symm,hg⟩,?_⟩
  try simp only [aj,go_sem]
  (repeat with_reducible refine Yq ?_)
  refine ah (fun hq=>?_) (fun hq=>?_)
  ·rw [if_pos hq] at hR
   subst hR
   simp only [go_sem]
   exact Z1
  ·rw [if_neg (by rw [hq];decide)] at hR
   simp only [go_sem,e5]
   refine ⟨k+1,⟨by omega,hR⟩,by omega,nrq _,lRq _,hcl,?_,?_⟩
   ·simp [ltF,znf,hm,hf]
   ·simp [aS,wk2,wk1,wkM,Fr.get]
 ·have hk':k=ts.length:=by simp at hc;omega
  subst hk'
  rw [List.drop_length] at hR
  unfold ixP at hR
  subst hR
  simp only [go_sem]
  exact Z1
def lM:List AV→AHeap→(AV→Prop)→Prop
 |[.agg l,.int .i64 n],_,K=>∃ S:Sch,(l=aG S∧S.headers.length≤1000000)∧K (.int .i64 (ixP (fun t:SHeader=>t.id==n) S.headers 0))
 |_,_,_=>False
theorem tY:EntOk Tryz.prog 21 (Ent.pure lM):=by
 refine Ype fun _ H K h=>?_
 unfold lM at h
 split at h
 rotate_left
 ·exact h.elim
 rename_i l n
 obtain ⟨S,⟨rfl,hl⟩,hK⟩:=h
 refine ⟨_,hK,?_⟩
 clear hK
 refine ACalls.fW ak (tCq BC tNq) Tryz.func21 [.tmp 4] (nrq _) (T:=ag []) (h:=fun hcl hlt=>?_)
 clear hlt
 simp only [go_sem,aG,pV]
 (repeat with_reducible refine Yq ?_)
 refine ⟨S.headers,n,⟨rfl,by simp only [go_sem],hl⟩,?_⟩
 try simp only [aj,go_sem]
 exact Z1
def yu:List AV→AHeap→(AV→Prop)→Prop
 |[x,.ptr c 0],H,K=>∃ t n,(x=aH t∧H.get c=some (.cells [.int .i64 n]))∧K (.bool (t.id==n))
 |_,_,_=>False
theorem Iv:EntOk Tryz.prog 71 (Ent.pure yu):=by
 refine Ype fun _ H K h=>?_
 unfold yu at h
 split at h
 rotate_left
 ·exact h.elim
 rename_i x c
 obtain ⟨t,n,⟨rfl,hg⟩,hK⟩:=h
 refine ⟨_,hK,?_⟩
 clear hK
 unfold aH
 refine ACalls.fW ak tNq Tryz.func71 [.tmp 3] (nrq _) (T:=ag []) (h:=fun hcl hlt=>?_)
 clear hlt
 have hcs:=au hg
 have hl:=glq hg
 have hne:(c=H.nx)=False:=eq_false (by omega)
 simp only [go_sem,hcs,hne]
 (repeat with_reducible refine Yq ?_)
 exact Z1
def qA:List AV→AHeap→(AV→Prop)→Prop
 |[.slice _ 5 l,.func (.func 71) [] [.ptr c 0]],H,K=>∃ (ts:List SState) (n:Int),(l=ts.map aH∧H.get c=some (.cells [.int .i64 n])∧ts.length≤1000000)∧K (.int .i64 (ixP (fun t:SState=>t.id==n) ts 0))
 |_,_,_=>False
theorem BP:EntOk Tryz.prog 70 (Ent.pure qA):=by
 refine Ype fun _ H K h=>?_
 unfold qA at h
 split at h
 rotate_left
 ·exact h.elim
 rename_i m l c
 obtain ⟨ts,n,⟨rfl,hg,hl⟩,hK⟩:=h
 refine ⟨_,hK,?_⟩
 clear hK
 generalize hR:ixP (fun t:SState=>t.id==n) ts 0=R
 refine ACalls.fW ak (tCq Iv tNq) Tryz.func70 [.tmp 4] (nrq _) (T:=ag []) (h:=fun hcl hlt=>?_)
 have hm:AV.lt H.nx (.slice m 5 (ts.map aH)):=hlt _ (by simp)
 have hf:AV.lt H.nx (.func (.func 71) [] [.ptr c 0]):=hlt _ (by simp)
 clear hlt
 simp only [go_sem,ybb]
 refine ay (A:=Nat) (fun k=>[(0,.slice m 5 (ts.map aH)),(1,.func (.func 71) [] [.ptr c 0]),(7,.int .i64 (ts.length:Int)),(8,.int .i64 (k:Int))]) (fun _=>H) (fun k=>k≤ts.length∧ixP (fun t:SState=>t.id==n) (ts.drop k) k=R) (fun k=>ts.length - k) 0 ⟨by omega,hR⟩ ?_ fun k hk=>?_
 ·refine ⟨nrq _,lRq _,hcl,?_,?_⟩
  ·simp [ltF,znf,hm,hf]
  ·simp [aS,wk2,wk1,wkM,Fr.get]
 clear hR
 obtain ⟨hk,hR⟩:=hk
 simp only [go_sem]
 refine ah (fun hc=>?_) (fun hc=>?_)
 ·have hk':k<ts.length:=by simp at hc;omega
  obtain ⟨x,hx⟩:∃ x,x=ts[k]:=⟨_,rfl⟩
  have hd:ts.drop k=x::ts.drop (k+1):=by rw [hx];exact dcq hk'
  have hg':=aO (f:=aH) (l:=ts) (k:=k) (x:=x) (by rw [gQq hk',hx])
  have e5:=Yk5 k
  have hcell:(aH x).cells.length=5:=rfl
  rw [hd] at hR
  unfold ixP at hR
  have hag:∃ cs,aH x=.agg cs∧cs.length=5:=⟨_,rfl,rfl⟩
  obtain ⟨cs,hcs,hcl3⟩:=hag
  have hts:List.take 5 cs=cs:=ybc (by omega)
  simp only [go_sem,iNq,ybb,hg',hcs,hcl3,hts,yu]
  (repeat with_reducible refine Yq ?_)
  refine ⟨x,n,⟨hcs.symm,hg⟩,?_⟩
  try simp only [aj,go_sem]
  (repeat with_reducible refine Yq ?_)
  refine ah (fun hq=>?_) (fun hq=>?_)
  ·rw [if_pos hq] at hR
   subst hR
   simp only [go_sem]
   exact Z1
  ·rw [if_neg (by rw [hq];decide)] at hR
   simp only [go_sem,e5]
   refine ⟨k+1,⟨by omega,hR⟩,by omega,nrq _,lRq _,hcl,?_,?_⟩
   ·simp [ltF,znf,hm,hf]
   ·simp [aS,wk2,wk1,wkM,Fr.get]
 ·have hk':k=ts.length:=by simp at hc;omega
  subst hk'
  rw [List.drop_length] at hR
  unfold ixP at hR
  subst hR
  simp only [go_sem]
  exact Z1
def jA:List AV→AHeap→(AV→Prop)→Prop
 |[.agg l,.int .i64 n],_,K=>∃ S:Sch,(l=aG S∧S.states.length≤1000000)∧K (.int .i64 (ixP (fun t:SState=>t.id==n) S.states 0))
 |_,_,_=>False
theorem vL:EntOk Tryz.prog 23 (Ent.pure jA):=by
 refine Ype fun _ H K h=>?_
 unfold jA at h
 split at h
 rotate_left
 ·exact h.elim
 rename_i l n
 obtain ⟨S,⟨rfl,hl⟩,hK⟩:=h
 refine ⟨_,hK,?_⟩
 clear hK
 refine ACalls.fW ak (tCq BP tNq) Tryz.func23 [.tmp 4] (nrq _) (T:=ag []) (h:=fun hcl hlt=>?_)
 clear hlt
 simp only [go_sem,aG,qA]
 (repeat with_reducible refine Yq ?_)
 refine ⟨S.states,n,⟨rfl,by simp only [go_sem],hl⟩,?_⟩
 try simp only [aj,go_sem]
 exact Z1
end Go.AL
