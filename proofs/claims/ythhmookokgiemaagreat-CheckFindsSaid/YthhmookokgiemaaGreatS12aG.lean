/- Lemmas of the proof; no condition. -/
import Derived.Test.YthhmookokgiemaaGreatS10j
import Derived.Test.YthhmookokgiemaaGreatS12a
set_option linter.all false
set_option maxRecDepth 10000
open List renaming map_cons → yae, length_cons → yaz, length_nil → yba, take_of_length_le → ybc, drop_append → ybd, take_append → ybe, drop_eq_nil_of_le → ybf, length_map → ybb, take_zero → yar, map_nil → yaf, nil_append → yak, take_succ_cons → yaq, drop_succ_cons → yao, drop_zero → yap, cons_append → yal
open Go Go.AL Go.Proofs
namespace Go.AL
def eo {α:Type} (q:α→Bool):List α→Nat→Int
 |[],_ => -1
 |x::xs,k=>if q x=true then (k:Int) else eo q xs (k+1)
theorem jD {α β:Type} {f:α→β} {q:β→Bool}:∀ (l:List α) (k:Nat),eo q (l.map f) k=eo (fun x=>q (f x)) l k
 |[],_=>rfl
 |x::l,k=>by simp only [yae,eo,jD l]
def tp:List AV→AHeap→(AV→Prop)→Prop
 |[x,.ptr c 0],H,K=>∃ t n,(x=aq t∧H.get c=some (.cells [.int .i64 n]))∧K (.bool (t.id==n))
 |_,_,_=>False
theorem Gg:EntOk Tryz.prog 63 (Ent.pure tp):=by
 refine Ype fun _ H K h=>?_
 unfold tp at h
 split at h
 rotate_left
 ·exact h.elim
 rename_i x c
 obtain ⟨t,n,⟨rfl,hg⟩,hK⟩:=h
 refine ⟨_,hK,?_⟩
 clear hK
 unfold aq
 refine ACalls.fW ak tNq Tryz.func63 [.tmp 3] (nrq _) (T:=ag []) (h:=fun hcl hlt=>?_)
 clear hlt
 have hcs:=au hg
 have hl:=glq hg
 have hne:(c=H.nx)=False:=eq_false (by omega)
 simp only [go_sem,hcs,hne]
 (repeat with_reducible refine Yq ?_)
 exact Z1
def u1:List AV→AHeap→(AV→Prop)→Prop
 |[x,.ptr c 0],H,K=>∃ t n,(x=aI t∧H.get c=some (.cells [.int .i64 n]))∧K (.bool (t.id==n))
 |_,_,_=>False
theorem D5:EntOk Tryz.prog 67 (Ent.pure u1):=by
 refine Ype fun _ H K h=>?_
 unfold u1 at h
 split at h
 rotate_left
 ·exact h.elim
 rename_i x c
 obtain ⟨t,n,⟨rfl,hg⟩,hK⟩:=h
 refine ⟨_,hK,?_⟩
 clear hK
 unfold aI
 refine ACalls.fW ak tNq Tryz.func67 [.tmp 3] (nrq _) (T:=ag []) (h:=fun hcl hlt=>?_)
 clear hlt
 have hcs:=au hg
 have hl:=glq hg
 have hne:(c=H.nx)=False:=eq_false (by omega)
 simp only [go_sem,hcs,hne]
 (repeat with_reducible refine Yq ?_)
 exact Z1
def vo:List AV→AHeap→(AV→Prop)→Prop
 |[.slice _ 8 l,.func (.func 63) [] [.ptr c 0]],H,K=>∃ (ts:List STable) (n:Int),(l=ts.map aq∧H.get c=some (.cells [.int .i64 n])∧ts.length≤10000000000000)∧K (.int .i64 (eo (fun t:STable=>t.id==n) ts 0))
 |_,_,_=>False
theorem Dr:EntOk Tryz.prog 62 (Ent.pure vo):=by
 refine Ype fun _ H K h=>?_
 unfold vo at h
 split at h
 rotate_left
 ·exact h.elim
 rename_i m l c
 obtain ⟨ts,n,⟨rfl,hg,hl⟩,hK⟩:=h
 refine ⟨_,hK,?_⟩
 clear hK
 generalize hR:eo (fun t:STable=>t.id==n) ts 0=R
 refine ACalls.fW ak (tCq Gg tNq) Tryz.func62 [.tmp 4] (nrq _) (T:=ag []) (h:=fun hcl hlt=>?_)
 have hm:AV.lt H.nx (.slice m 8 (ts.map aq)):=hlt _ (by simp)
 have hf:AV.lt H.nx (.func (.func 63) [] [.ptr c 0]):=hlt _ (by simp)
 clear hlt
 simp only [go_sem,ybb]
 refine ay (A:=Nat) (fun k=>[(0,.slice m 8 (ts.map aq)),(1,.func (.func 63) [] [.ptr c 0]),(7,.int .i64 (ts.length:Int)),(8,.int .i64 (k:Int))]) (fun _=>H) (fun k=>k≤ts.length∧eo (fun t:STable=>t.id==n) (ts.drop k) k=R) (fun k=>ts.length - k) 0 ⟨by omega,hR⟩ ?_ fun k hk=>?_
 ·refine ⟨nrq _,lRq _,hcl,?_,?_⟩
  ·simp [ltF,znf,hm,hf]
  ·simp [aS,wk2,wk1,wkM,Fr.get]
 clear hR
 obtain ⟨hk,hR⟩:=hk
 simp only [go_sem]
 refine ah (fun hc=>?_) (fun hc=>?_)
 ·have hk':k<ts.length:=by simp at hc;omega
  obtain ⟨x,hx⟩:∃ x,x=ts[k]:=⟨_,rfl⟩
  have hd:ts.drop k=x::ts.drop (k+1):=by rw [hx];exact dcq hk'
  have hg':=aO (f:=aq) (l:=ts) (k:=k) (x:=x) (by rw [gQq hk',hx])
  have e5:=Yk5 k
  have hcell:(aq x).cells.length=8:=rfl
  rw [hd] at hR
  unfold eo at hR
  have hag:∃ cs,aq x=.agg cs∧cs.length=8:=⟨_,rfl,rfl⟩
  obtain ⟨cs,hcs,hcl3⟩:=hag
  have hts:List.take 8 cs=cs:=ybc (by omega)
  simp only [go_sem,iNq,ybb,hg',hcs,hcl3,hts,tp]
  (repeat with_reducible refine Yq ?_)
  refine ⟨x,n,⟨hcs.symm,hg⟩,?_⟩
  try simp only [aj,go_sem]
  (repeat with_reducible refine Yq ?_)
  refine ah (fun hq=>?_) (fun hq=>?_)
  ·rw [if_pos hq] at hR
   subst hR
   simp only [go_sem]
   exact Z1
  ·rw [if_neg (by rw [hq];decide)] at hR
   simp only [go_sem,e5]
   refine ⟨k+1,⟨by omega,hR⟩,by omega,nrq _,lRq _,hcl,?_,?_⟩
   ·simp [ltF,znf,hm,hf]
   ·simp [aS,wk2,wk1,wkM,Fr.get]
 ·have hk':k=ts.length:=by simp at hc;omega
  subst hk'
  rw [List.drop_length] at hR
  unfold eo at hR
  subst hR
  simp only [go_sem]
  exact Z1
def tA:List AV→AHeap→(AV→Prop)→Prop
 |[.slice _ 3 l,.func (.func 67) [] [.ptr c 0]],H,K=>∃ (ts:List SField) (n:Int),(l=ts.map aI∧H.get c=some (.cells [.int .i64 n])∧ts.length≤10000000000000)∧K (.int .i64 (eo (fun t:SField=>t.id==n) ts 0))
 |_,_,_=>False
theorem Ea:EntOk Tryz.prog 66 (Ent.pure tA):=by
 refine Ype fun _ H K h=>?_
 unfold tA at h
 split at h
 rotate_left
 ·exact h.elim
 rename_i m l c
 obtain ⟨ts,n,⟨rfl,hg,hl⟩,hK⟩:=h
 refine ⟨_,hK,?_⟩
 clear hK
 generalize hR:eo (fun t:SField=>t.id==n) ts 0=R
 refine ACalls.fW ak (tCq D5 tNq) Tryz.func66 [.tmp 4] (nrq _) (T:=ag []) (h:=fun hcl hlt=>?_)
 have hm:AV.lt H.nx (.slice m 3 (ts.map aI)):=hlt _ (by simp)
 have hf:AV.lt H.nx (.func (.func 67) [] [.ptr c 0]):=hlt _ (by simp)
 clear hlt
 simp only [go_sem,ybb]
 refine ay (A:=Nat) (fun k=>[(0,.slice m 3 (ts.map aI)),(1,.func (.func 67) [] [.ptr c 0]),(7,.int .i64 (ts.length:Int)),(8,.int .i64 (k:Int))]) (fun _=>H) (fun k=>k≤ts.length∧eo (fun t:SField=>t.id==n) (ts.drop k) k=R) (fun k=>ts.length - k) 0 ⟨by omega,hR⟩ ?_ fun k hk=>?_
 ·refine ⟨nrq _,lRq _,hcl,?_,?_⟩
  ·simp [ltF,znf,hm,hf]
  ·simp [aS,wk2,wk1,wkM,Fr.get]
 clear hR
 obtain ⟨hk,hR⟩:=hk
 simp only [go_sem]
 refine ah (fun hc=>?_) (fun hc=>?_)
 ·have hk':k<ts.length:=by simp at hc;omega
  obtain ⟨x,hx⟩:∃ x,x=ts[k]:=⟨_,rfl⟩
  have hd:ts.drop k=x::ts.drop (k+1):=by rw [hx];exact dcq hk'
  have hg':=aO (f:=aI) (l:=ts) (k:=k) (x:=x) (by rw [gQq hk',hx])
  have e5:=Yk5 k
  have hcell:(aI x).cells.length=3:=rfl
  rw [hd] at hR
  unfold eo at hR
  have hag:∃ cs,aI x=.agg cs∧cs.length=3:=⟨_,rfl,rfl⟩
  obtain ⟨cs,hcs,hcl3⟩:=hag
  have hts:List.take 3 cs=cs:=ybc (by omega)
  simp only [go_sem,iNq,ybb,hg',hcs,hcl3,hts,u1]
  (repeat with_reducible refine Yq ?_)
  refine ⟨x,n,⟨hcs.symm,hg⟩,?_⟩
  try simp only [aj,go_sem]
  (repeat with_reducible refine Yq ?_)
  refine ah (fun hq=>?_) (fun hq=>?_)
  ·rw [if_pos hq] at hR
   subst hR
   simp only [go_sem]
   exact Z1
  ·rw [if_neg (by rw [hq];decide)] at hR
   simp only [go_sem,e5]
   refine ⟨k+1,⟨by omega,hR⟩,by omega,nrq _,lRq _,hcl,?_,?_⟩
   ·simp [ltF,znf,hm,hf]
   ·simp [aS,wk2,wk1,wkM,Fr.get]
 ·have hk':k=ts.length:=by simp at hc;omega
  subst hk'
  rw [List.drop_length] at hR
  unfold eo at hR
  subst hR
  simp only [go_sem]
  exact Z1
def cK:List AV→AHeap→(AV→Prop)→Prop
 |[.agg l,.int .i64 n],_,K=>∃ S:Sch,(l=aG S∧S.tables.length≤10000000000000)∧K (.int .i64 (eo (fun t:STable=>t.id==n) S.tables 0))
 |_,_,_=>False
theorem uV:EntOk Tryz.prog 17 (Ent.pure cK):=by
 refine Ype fun _ H K h=>?_
 unfold cK at h
 split at h
 rotate_left
 ·exact h.elim
 rename_i l n
 obtain ⟨S,⟨rfl,hl⟩,hK⟩:=h
 refine ⟨_,hK,?_⟩
 clear hK
 refine ACalls.fW ak (tCq Dr tNq) Tryz.func17 [.tmp 4] (nrq _) (T:=ag []) (h:=fun hcl hlt=>?_)
 clear hlt
 simp only [go_sem,aG,vo]
 (repeat with_reducible refine Yq ?_)
 refine ⟨S.tables,n,⟨rfl,by simp only [go_sem],hl⟩,?_⟩
 try simp only [aj,go_sem]
 exact Z1
def cI:List AV→AHeap→(AV→Prop)→Prop
 |[.agg l,.int .i64 n],_,K=>∃ S:Sch,(l=aG S∧S.fields.length≤10000000000000)∧K (.int .i64 (eo (fun t:SField=>t.id==n) S.fields 0))
 |_,_,_=>False
theorem vf:EntOk Tryz.prog 19 (Ent.pure cI):=by
 refine Ype fun _ H K h=>?_
 unfold cI at h
 split at h
 rotate_left
 ·exact h.elim
 rename_i l n
 obtain ⟨S,⟨rfl,hl⟩,hK⟩:=h
 refine ⟨_,hK,?_⟩
 clear hK
 refine ACalls.fW ak (tCq Ea tNq) Tryz.func19 [.tmp 4] (nrq _) (T:=ag []) (h:=fun hcl hlt=>?_)
 clear hlt
 simp only [go_sem,aG,tA]
 (repeat with_reducible refine Yq ?_)
 refine ⟨S.fields,n,⟨rfl,by simp only [go_sem],hl⟩,?_⟩
 try simp only [aj,go_sem]
 exact Z1
theorem C4 {l:List Int}:(inL l).length=l.length:=by simp [inL]
def sIG (l:List Int):AV:=.slice .any 1 (inL l)
theorem eA {n:Nat} {l:List Int}:AV.lt n (sIG l):=lf
theorem A4:∀ l:List Int,pi (inL l) (inL l)
 |[]=>by simp [inL,cG]
 |x::l=>by
  have:=A4 l
  unfold inL at this ⊢
  simp [fo,AV.cells,cl,cN,jk,this]
theorem fN {m:Mark} {l:List Int}:wkD (.slice m 1 (inL l)) (sIG l):=by
 unfold sIG
 rw [ck]
 exact .inl ⟨.inl rfl,rfl,A4 l⟩
theorem kB {n:Nat} {l:List Int}:ltL n (inL l):=ltL_iff.2 fun j hj=>by
 simp [inL,znf]
theorem hP {H:AHeap} {c cs:List AV} {x y z:AObj} (h:((((H.push (.cells c)).push x).push y).push z).Closed) (hl:ltL (H.nx+1+1+1+1) cs):((((H.push (.cells cs)).push x).push y).push z).Closed:=by
 have h1:((((H.push (.cells c)).push x).push y).push z).set H.nx (.cells cs)=(((H.push (.cells cs)).push x).push y).push z:=by
  simp only [zli,zle]
  rw [if_neg (by omega),if_neg (by omega),if_neg (by omega),if_pos trivial]
 rw [← h1]
 exact bj h (by simpa only [zle] using hl)
structure SLenG (S:Sch):Prop where
 fl:S.fields.length≤10000000000000
 hl:S.headers.length≤10000000000000
 sl:S.states.length≤10000000000000
 al:S.actions.length≤10000000000000
 tl:S.tables.length≤10000000000000
 rl:S.roles.length≤10000000000000
def lQ (S:Sch):AV:=.agg [sIG (S.fields.map (·.id)),sIG (S.headers.map (·.id)),sIG (S.states.map (·.id)),sIG (S.actions.map (·.id)),sIG (S.tables.map (·.id)),sIG (S.roles.map (·.id))]
def jV:List AV→AHeap→(AV→Prop)→Prop
 |[.agg l],_,K=>∃ S:Sch,(l=aG S∧SLenG S)∧K (lQ S)
 |_,_,_=>False
set_option maxHeartbeats 8000000 in
theorem kE:EntOk Tryz.prog 65 (Ent.pure jV):=by
 refine Ype fun _ H K h=>?_
 unfold jV at h
 split at h
 rotate_left
 ·exact h.elim
 rename_i l
 obtain ⟨S,⟨rfl,h1,h2,h3,h4,h5,h6⟩,hK⟩:=h
 refine ⟨_,hK,?_⟩
 clear hK
 refine ACalls.fW ak tNq Tryz.func65 [.cell 2 101] (nrq _) (T:=ag [(7,[[1,1]]),(12,[[1,1]]),(17,[[1,1]]),(22,[[1,1]]),(27,[[1,1]]),(32,[[1,1]])]) (h:=fun hcl hlt=>?_)
 clear hlt
 have nl:([.slice .nil 1 [],.slice .nil 1 [],.slice .nil 1 [],.slice .nil 1 [],.slice .nil 1 [],.slice .nil 1 []]:List AV).length=6:=rfl
 obtain ⟨HB,hHB⟩:∃ HB,(H.push (.cells (aG S))).push (.cells [.slice .nil 1 [],.slice .nil 1 [],.slice .nil 1 [],.slice .nil 1 [],.slice .nil 1 [],.slice .nil 1 []])=HB:=⟨_,rfl⟩
 have hclB:HB.Closed:=by
  rw [← hHB]
  refine ae (ae hcl (ltL_iff.2 fun j hj=>AV.lt_cells (lP S) j hj)) ?_
  simp [znu,znv,bA]
 have hnB:HB.nx=H.nx+1+1:=by rw [← hHB];rfl
 simp only [go_sem,aG]
 obtain ⟨C0,hC0⟩:∃ C0:List AV,C0=(match S.fields with|x::_=>(aI x).cells|[]=>[]):=⟨_,rfl⟩
 have hC0l:∀ m,ltL m C0:=by
  rw [hC0]
  intro m
  cases S.fields with
  |nil=>rw [znv];trivial
  |cons x _=>exact ltL_iff.2 fun j hj=>AV.lt_cells (jx x) j hj
 obtain ⟨HL,hHL⟩:∃ HL:Nat→AHeap,HL=fun k=>if k=0 then HB.push (.cells [.slice .nil 1 [],.slice .nil 1 [],.slice .nil 1 [],.slice .nil 1 [],.slice .nil 1 [],.slice .nil 1 []]) else (((HB.push (.cells [.slice (.own (H.nx+1+1+1+1+1)) 1 (inL ((S.fields.take k).map (·.id))),.slice .nil 1 [],.slice .nil 1 [],.slice .nil 1 [],.slice .nil 1 [],.slice .nil 1 []])).push (.cells C0)).push (.buf 1 1)).push (.buf 1 k):=⟨_,rfl⟩
 have hL0:HL 0=HB.push (.cells [.slice .nil 1 [],.slice .nil 1 [],.slice .nil 1 [],.slice .nil 1 [],.slice .nil 1 [],.slice .nil 1 []]):=by rw [hHL];rfl
 have hLk:∀ k,k≠0→HL k=(((HB.push (.cells [.slice (.own (H.nx+1+1+1+1+1)) 1 (inL ((S.fields.take k).map (·.id))),.slice .nil 1 [],.slice .nil 1 [],.slice .nil 1 [],.slice .nil 1 [],.slice .nil 1 []])).push (.cells C0)).push (.buf 1 1)).push (.buf 1 k):=fun k h=>by rw [hHL];exact if_neg h
 have hclL:∀ k,(HL k).Closed:=fun k=>by
  by_cases h:k=0
  ·rw [h,hL0]
   exact ae hclB (by simp [znu,znv,bA,eA])
  ·rw [hLk k h]
   refine hP (c:=[.slice .nil 1 [],.slice .nil 1 [],.slice .nil 1 [],.slice .nil 1 [],.slice .nil 1 [],.slice .nil 1 []]) (aU (aU (ae (ae hclB (by simp [znu,znv,bA,eA])) (hC0l _)))) ?_
   simp [znu,znv,bA,eA,hnB,kB]
 have hnL:∀ k,H.nx+1+1+1≤(HL k).nx:=fun k=>by
  by_cases h:k=0
  ·rw [h,hL0,zle,hnB];omega
  ·rw [hLk k h];simp only [zle,hnB];omega
 apply jG (α:=Unit) (fun _=>[(1,.ptr H.nx 0),(2,.ptr (H.nx+1) 0),(3,.ptr (H.nx+1+1) 0)]) (fun _=>HB.push (.cells [sIG (S.fields.map (·.id)),.slice .nil 1 [],.slice .nil 1 [],.slice .nil 1 [],.slice .nil 1 [],.slice .nil 1 []])) (fun _=>True)
 ·intro J
  refine ay (A:=Nat) (fun k=>[(1,.ptr H.nx 0),(2,.ptr (H.nx+1) 0),(3,.ptr (H.nx+1+1) 0),(17,.slice .any 3 (S.fields.map aI)),(18,.int .i64 (S.fields.length:Int)),(19,.int .i64 (k:Int))]) HL (fun k=>k≤S.fields.length) (fun k=>S.fields.length - k) 0 (by omega) ?_ fun k hk=>?_
  ·rw [hL0,← hHB]
   refine ⟨by simp only [zle,zkq,zkv];omega,lRq _,by have:=hclL 0;rw [hL0,← hHB] at this;exact this,?_,?_⟩
   ·simp [ltF,zle,znn,znf,aL jx]
    try omega
   ·simp [aS,wk2,wk1,wkM,Fr.get]
  simp only [go_sem]
  refine ah (fun hc=>?_) (fun hc=>?_)
  ·have hk':k<S.fields.length:=by simp at hc;omega
   obtain ⟨x,hx⟩:∃ x,x=S.fields[k]:=⟨_,rfl⟩
   have hxg:=aO (f:=aI) (l:=S.fields) (k:=k) (x:=x) (by rw [gQq hk',hx])
   have e5:=Yk5 k
   have htk:S.fields.take (k+1)=S.fields.take k++[x]:=by rw [hx,List.take_succ_eq_append_getElem hk']
   have hil:inL ((S.fields.take k).map (·.id))++[.int .i64 x.id]=inL ((S.fields.take (k+1)).map (·.id)):=by rw [htk];simp [inL]
   have hll:(inL ((S.fields.take k).map (·.id))).length=k:=by simp [inL];omega
   by_cases h0:k=0
   ·subst h0
    have hC1:C0=(aI x).cells:=by
     rw [hC0]
     cases hq:S.fields with
     |nil=>rw [hq] at hk';exact absurd hk' (by simp)
     |cons y ys=>dsimp only;rw [hx];simp only [hq,List.getElem_cons_zero]
    simp only [aI,AV.cells] at hC1
    have hcl1:=hclL 1
    rw [hLk 1 (by decide),← hHB,hC1,← hil] at hcl1
    simp only [yar,yaf,inL,yak,aG] at hcl1
    rw [hL0,← hHB]
    simp only [aM,aj,bhq,Nat.reduceMod,Nat.reduceDiv,aB,aC,aD,ba,aE,aZ,aV,aX,aW,yaq,yar,yao,yap,go_sem,aG,iNq,ybb,hxg,aI,yal,yak,e5]
    refine ⟨⟨by omega,by omega⟩,⟨by omega,by omega⟩,fun z hz=>by rw [List.mem_singleton.1 hz];rfl,⟨by omega,by omega⟩,1,by omega,by omega,?_⟩
    rw [hLk 1 (by decide),← hHB,hC1,← hil]
    simp only [yar,yaf,inL,yak,aG]
    refine ⟨by simp only [zle];omega,by repeat first|exact .refl _|refine .push ?_ _,hcl1,?_,?_⟩
    ·simp [ltF,zle,znn,znf,aL jx]
     try omega
    ·simp [aS,wk2,wk1,wkM,Fr.get]
   ·have hcl1:=hclL (k+1)
    rw [hLk (k+1) (by omega),← hHB,← hil] at hcl1
    simp only [aG] at hcl1
    rw [hLk k h0,← hHB]
    simp only [aM,aj,bhq,Nat.reduceMod,Nat.reduceDiv,aB,aC,aD,ba,aE,aZ,aV,aX,aW,yaq,yar,yao,yap,go_sem,aG,iNq,ybb,hxg,aI,yal,yak,e5]
    refine ⟨⟨by omega,by omega⟩,⟨by omega,by omega⟩,⟨by rw [hll],by rw [hll];omega,by rw [hll];omega,fun z hz=>by rw [List.mem_singleton.1 hz];rfl⟩,⟨by omega,by omega⟩,k+1,by omega,by omega,?_⟩
    rw [hLk (k+1) (by omega),← hHB,← hil,hll]
    simp only [aG]
    refine ⟨by simp only [zle];omega,by repeat first|exact .refl _|refine .push ?_ _,hcl1,?_,?_⟩
    ·simp [ltF,zle,znn,znf,aL jx]
     try omega
    ·simp [aS,wk2,wk1,wkM,Fr.get]
  ·have hk':k=S.fields.length:=by simp at hc;omega
   have hcl1:(HB.push (.cells [sIG (S.fields.map (·.id)),.slice .nil 1 [],.slice .nil 1 [],.slice .nil 1 [],.slice .nil 1 [],.slice .nil 1 []])).Closed:=ae hclB (by simp [znu,znv,bA,eA])
   rw [← hHB] at hcl1
   by_cases h0:k=0
   ·subst h0
    have hnl:S.fields=[]:=List.length_eq_zero_iff.1 hk'.symm
    rw [hL0,← hHB]
    simp only [go_sem]
    refine eZ (H.nx+1+1) [sIG (S.fields.map (·.id)),.slice .nil 1 [],.slice .nil 1 [],.slice .nil 1 [],.slice .nil 1 [],.slice .nil 1 []] (cs:=[.slice .nil 1 [],.slice .nil 1 [],.slice .nil 1 [],.slice .nil 1 [],.slice .nil 1 [],.slice .nil 1 []]) (by simp only [go_sem]) ?_ ?_
    ·simp only [cl,cN,and_true]
     refine ⟨?_,?_,?_,?_,?_,?_⟩
     all_goals first|exact fN|(rw [hnl];exact fN (l:=[]))|(rw [ck];exact .inl ⟨.inr rfl,rfl,by rw [cG];trivial⟩)
    simp only [go_sem]
    refine eR J () trivial ⟨by simp only [zle,zkv,zkq,gv,hnB];omega,by rw [← hHB];repeat first|exact .refl _|refine .push ?_ _,by rw [← hHB];exact hcl1,?_,?_⟩
    ·(simp [ltF,zle,znn,hnB];try omega)
    ·simp [aS,wk2,wk1,wkM,Fr.get]
   ·rw [hLk k h0,← hHB]
    simp only [go_sem]
    refine eZ (H.nx+1+1) [sIG (S.fields.map (·.id)),.slice .nil 1 [],.slice .nil 1 [],.slice .nil 1 [],.slice .nil 1 [],.slice .nil 1 []] (cs:=[.slice (.own (H.nx+1+1+1+1+1)) 1 (inL ((S.fields.take k).map (·.id))),.slice .nil 1 [],.slice .nil 1 [],.slice .nil 1 [],.slice .nil 1 [],.slice .nil 1 []]) (by simp only [go_sem]) ?_ ?_
    ·rw [hk',List.take_length]
     simp only [cl,cN,and_true]
     refine ⟨?_,?_,?_,?_,?_,?_⟩
     all_goals first|exact fN|(rw [ck];exact .inl ⟨.inr rfl,rfl,by rw [cG];trivial⟩)
    simp only [go_sem]
    refine eR J () trivial ⟨by simp only [zle,zkv,zkq,gv,hnB];omega,by rw [← hHB];repeat first|exact .refl _|refine .push ?_ _,by rw [← hHB];exact hcl1,?_,?_⟩
    ·(simp [ltF,zle,znn,hnB];try omega)
    ·simp [aS,wk2,wk1,wkM,Fr.get]
 ·intro _ _
  dsimp only
  rw [← hHB]
  simp only [aM,aj,bhq,Nat.reduceMod,Nat.reduceDiv,aB,aC,aD,ba,aE,aZ,aV,aX,aW,yaq,yar,yao,yap,go_sem,aG]
  obtain ⟨C0,hC0⟩:∃ C0:List AV,C0=(match S.headers with|x::_=>(az x).cells|[]=>[]):=⟨_,rfl⟩
  have hC0l:∀ m,ltL m C0:=by
   rw [hC0]
   intro m
   cases S.headers with
   |nil=>rw [znv];trivial
   |cons x _=>exact ltL_iff.2 fun j hj=>AV.lt_cells (iK x) j hj
  obtain ⟨HL,hHL⟩:∃ HL:Nat→AHeap,HL=fun k=>if k=0 then HB.push (.cells [sIG (S.fields.map (·.id)),.slice .nil 1 [],.slice .nil 1 [],.slice .nil 1 [],.slice .nil 1 [],.slice .nil 1 []]) else (((HB.push (.cells [sIG (S.fields.map (·.id)),.slice (.own (H.nx+1+1+1+1+1)) 1 (inL ((S.headers.take k).map (·.id))),.slice .nil 1 [],.slice .nil 1 [],.slice .nil 1 [],.slice .nil 1 []])).push (.cells C0)).push (.buf 1 1)).push (.buf 1 k):=⟨_,rfl⟩
  have hL0:HL 0=HB.push (.cells [sIG (S.fields.map (·.id)),.slice .nil 1 [],.slice .nil 1 [],.slice .nil 1 [],.slice .nil 1 [],.slice .nil 1 []]):=by rw [hHL];rfl
  have hLk:∀ k,k≠0→HL k=(((HB.push (.cells [sIG (S.fields.map (·.id)),.slice (.own (H.nx+1+1+1+1+1)) 1 (inL ((S.headers.take k).map (·.id))),.slice .nil 1 [],.slice .nil 1 [],.slice .nil 1 [],.slice .nil 1 []])).push (.cells C0)).push (.buf 1 1)).push (.buf 1 k):=fun k h=>by rw [hHL];exact if_neg h
  have hclL:∀ k,(HL k).Closed:=fun k=>by
   by_cases h:k=0
   ·rw [h,hL0]
    exact ae hclB (by simp [znu,znv,bA,eA])
   ·rw [hLk k h]
    refine hP (c:=[sIG (S.fields.map (·.id)),.slice .nil 1 [],.slice .nil 1 [],.slice .nil 1 [],.slice .nil 1 [],.slice .nil 1 []]) (aU (aU (ae (ae hclB (by simp [znu,znv,bA,eA])) (hC0l _)))) ?_
    simp [znu,znv,bA,eA,hnB,kB]
  have hnL:∀ k,H.nx+1+1+1≤(HL k).nx:=fun k=>by
   by_cases h:k=0
   ·rw [h,hL0,zle,hnB];omega
   ·rw [hLk k h];simp only [zle,hnB];omega
  apply jG (α:=Unit) (fun _=>[(1,.ptr H.nx 0),(2,.ptr (H.nx+1) 0),(3,.ptr (H.nx+1+1) 0)]) (fun _=>HB.push (.cells [sIG (S.fields.map (·.id)),sIG (S.headers.map (·.id)),.slice .nil 1 [],.slice .nil 1 [],.slice .nil 1 [],.slice .nil 1 []])) (fun _=>True)
  ·intro J
   refine ay (A:=Nat) (fun k=>[(1,.ptr H.nx 0),(2,.ptr (H.nx+1) 0),(3,.ptr (H.nx+1+1) 0),(32,.slice .any 3 (S.headers.map az)),(33,.int .i64 (S.headers.length:Int)),(34,.int .i64 (k:Int))]) HL (fun k=>k≤S.headers.length) (fun k=>S.headers.length - k) 0 (by omega) ?_ fun k hk=>?_
   ·rw [hL0,← hHB]
    refine ⟨by simp only [zle,zkq,zkv];omega,lRq _,by have:=hclL 0;rw [hL0,← hHB] at this;exact this,?_,?_⟩
    ·simp [ltF,zle,znn,znf,aL iK]
     try omega
    ·simp [aS,wk2,wk1,wkM,Fr.get]
   simp only [go_sem]
   refine ah (fun hc=>?_) (fun hc=>?_)
   ·have hk':k<S.headers.length:=by simp at hc;omega
    obtain ⟨x,hx⟩:∃ x,x=S.headers[k]:=⟨_,rfl⟩
    have hxg:=aO (f:=az) (l:=S.headers) (k:=k) (x:=x) (by rw [gQq hk',hx])
    have e5:=Yk5 k
    have htk:S.headers.take (k+1)=S.headers.take k++[x]:=by rw [hx,List.take_succ_eq_append_getElem hk']
    have hil:inL ((S.headers.take k).map (·.id))++[.int .i64 x.id]=inL ((S.headers.take (k+1)).map (·.id)):=by rw [htk];simp [inL]
    have hll:(inL ((S.headers.take k).map (·.id))).length=k:=by simp [inL];omega
    by_cases h0:k=0
    ·subst h0
     have hC1:C0=(az x).cells:=by
      rw [hC0]
      cases hq:S.headers with
      |nil=>rw [hq] at hk';exact absurd hk' (by simp)
      |cons y ys=>dsimp only;rw [hx];simp only [hq,List.getElem_cons_zero]
     simp only [az,AV.cells] at hC1
     have hcl1:=hclL 1
     rw [hLk 1 (by decide),← hHB,hC1,← hil] at hcl1
     simp only [yar,yaf,inL,yak,aG] at hcl1
     rw [hL0,← hHB]
     simp only [aM,aj,bhq,Nat.reduceMod,Nat.reduceDiv,aB,aC,aD,ba,aE,aZ,aV,aX,aW,yaq,yar,yao,yap,go_sem,aG,iNq,ybb,hxg,az,yal,yak,e5]
     refine ⟨⟨by omega,by omega⟩,⟨by omega,by omega⟩,fun z hz=>by rw [List.mem_singleton.1 hz];rfl,⟨by omega,by omega⟩,1,by omega,by omega,?_⟩
     rw [hLk 1 (by decide),← hHB,hC1,← hil]
     simp only [yar,yaf,inL,yak,aG]
     refine ⟨by simp only [zle];omega,by repeat first|exact .refl _|refine .push ?_ _,hcl1,?_,?_⟩
     ·simp [ltF,zle,znn,znf,aL iK]
      try omega
     ·simp [aS,wk2,wk1,wkM,Fr.get]
    ·have hcl1:=hclL (k+1)
     rw [hLk (k+1) (by omega),← hHB,← hil] at hcl1
     simp only [aG] at hcl1
     rw [hLk k h0,← hHB]
     simp only [aM,aj,bhq,Nat.reduceMod,Nat.reduceDiv,aB,aC,aD,ba,aE,aZ,aV,aX,aW,yaq,yar,yao,yap,go_sem,aG,iNq,ybb,hxg,az,yal,yak,e5]
     refine ⟨⟨by omega,by omega⟩,⟨by omega,by omega⟩,⟨by rw [hll],by rw [hll];omega,by rw [hll];omega,fun z hz=>by rw [List.mem_singleton.1 hz];rfl⟩,⟨by omega,by omega⟩,k+1,by omega,by omega,?_⟩
     rw [hLk (k+1) (by omega),← hHB,← hil,hll]
     simp only [aG]
     refine ⟨by simp only [zle];omega,by repeat first|exact .refl _|refine .push ?_ _,hcl1,?_,?_⟩
     ·simp [ltF,zle,znn,znf,aL iK]
      try omega
     ·simp [aS,wk2,wk1,wkM,Fr.get]
   ·have hk':k=S.headers.length:=by simp at hc;omega
    have hcl1:(HB.push (.cells [sIG (S.fields.map (·.id)),sIG (S.headers.map (·.id)),.slice .nil 1 [],.slice .nil 1 [],.slice .nil 1 [],.slice .nil 1 []])).Closed:=ae hclB (by simp [znu,znv,bA,eA])
    rw [← hHB] at hcl1
    by_cases h0:k=0
    ·subst h0
     have hnl:S.headers=[]:=List.length_eq_zero_iff.1 hk'.symm
     rw [hL0,← hHB]
     simp only [go_sem]
     refine eZ (H.nx+1+1) [sIG (S.fields.map (·.id)),sIG (S.headers.map (·.id)),.slice .nil 1 [],.slice .nil 1 [],.slice .nil 1 [],.slice .nil 1 []] (cs:=[sIG (S.fields.map (·.id)),.slice .nil 1 [],.slice .nil 1 [],.slice .nil 1 [],.slice .nil 1 [],.slice .nil 1 []]) (by simp only [go_sem]) ?_ ?_
     ·simp only [cl,cN,and_true]
      refine ⟨?_,?_,?_,?_,?_,?_⟩
      all_goals first|exact fN|(rw [hnl];exact fN (l:=[]))|(rw [ck];exact .inl ⟨.inr rfl,rfl,by rw [cG];trivial⟩)
     simp only [go_sem]
     refine eR J () trivial ⟨by simp only [zle,zkv,zkq,gv,hnB];omega,by rw [← hHB];repeat first|exact .refl _|refine .push ?_ _,by rw [← hHB];exact hcl1,?_,?_⟩
     ·(simp [ltF,zle,znn,hnB];try omega)
     ·simp [aS,wk2,wk1,wkM,Fr.get]
    ·rw [hLk k h0,← hHB]
     simp only [go_sem]
     refine eZ (H.nx+1+1) [sIG (S.fields.map (·.id)),sIG (S.headers.map (·.id)),.slice .nil 1 [],.slice .nil 1 [],.slice .nil 1 [],.slice .nil 1 []] (cs:=[sIG (S.fields.map (·.id)),.slice (.own (H.nx+1+1+1+1+1)) 1 (inL ((S.headers.take k).map (·.id))),.slice .nil 1 [],.slice .nil 1 [],.slice .nil 1 [],.slice .nil 1 []]) (by simp only [go_sem]) ?_ ?_
     ·rw [hk',List.take_length]
      simp only [cl,cN,and_true]
      refine ⟨?_,?_,?_,?_,?_,?_⟩
      all_goals first|exact fN|(rw [ck];exact .inl ⟨.inr rfl,rfl,by rw [cG];trivial⟩)
     simp only [go_sem]
     refine eR J () trivial ⟨by simp only [zle,zkv,zkq,gv,hnB];omega,by rw [← hHB];repeat first|exact .refl _|refine .push ?_ _,by rw [← hHB];exact hcl1,?_,?_⟩
     ·(simp [ltF,zle,znn,hnB];try omega)
     ·simp [aS,wk2,wk1,wkM,Fr.get]
  ·intro _ _
   dsimp only
   rw [← hHB]
   simp only [aM,aj,bhq,Nat.reduceMod,Nat.reduceDiv,aB,aC,aD,ba,aE,aZ,aV,aX,aW,yaq,yar,yao,yap,go_sem,aG]
   obtain ⟨C0,hC0⟩:∃ C0:List AV,C0=(match S.states with|x::_=>(aH x).cells|[]=>[]):=⟨_,rfl⟩
   have hC0l:∀ m,ltL m C0:=by
    rw [hC0]
    intro m
    cases S.states with
    |nil=>rw [znv];trivial
    |cons x _=>exact ltL_iff.2 fun j hj=>AV.lt_cells (eJ x) j hj
   obtain ⟨HL,hHL⟩:∃ HL:Nat→AHeap,HL=fun k=>if k=0 then HB.push (.cells [sIG (S.fields.map (·.id)),sIG (S.headers.map (·.id)),.slice .nil 1 [],.slice .nil 1 [],.slice .nil 1 [],.slice .nil 1 []]) else (((HB.push (.cells [sIG (S.fields.map (·.id)),sIG (S.headers.map (·.id)),.slice (.own (H.nx+1+1+1+1+1)) 1 (inL ((S.states.take k).map (·.id))),.slice .nil 1 [],.slice .nil 1 [],.slice .nil 1 []])).push (.cells C0)).push (.buf 1 1)).push (.buf 1 k):=⟨_,rfl⟩
   have hL0:HL 0=HB.push (.cells [sIG (S.fields.map (·.id)),sIG (S.headers.map (·.id)),.slice .nil 1 [],.slice .nil 1 [],.slice .nil 1 [],.slice .nil 1 []]):=by rw [hHL];rfl
   have hLk:∀ k,k≠0→HL k=(((HB.push (.cells [sIG (S.fields.map (·.id)),sIG (S.headers.map (·.id)),.slice (.own (H.nx+1+1+1+1+1)) 1 (inL ((S.states.take k).map (·.id))),.slice .nil 1 [],.slice .nil 1 [],.slice .nil 1 []])).push (.cells C0)).push (.buf 1 1)).push (.buf 1 k):=fun k h=>by rw [hHL];exact if_neg h
   have hclL:∀ k,(HL k).Closed:=fun k=>by
    by_cases h:k=0
    ·rw [h,hL0]
     exact ae hclB (by simp [znu,znv,bA,eA])
    ·rw [hLk k h]
     refine hP (c:=[sIG (S.fields.map (·.id)),sIG (S.headers.map (·.id)),.slice .nil 1 [],.slice .nil 1 [],.slice .nil 1 [],.slice .nil 1 []]) (aU (aU (ae (ae hclB (by simp [znu,znv,bA,eA])) (hC0l _)))) ?_
     simp [znu,znv,bA,eA,hnB,kB]
   have hnL:∀ k,H.nx+1+1+1≤(HL k).nx:=fun k=>by
    by_cases h:k=0
    ·rw [h,hL0,zle,hnB];omega
    ·rw [hLk k h];simp only [zle,hnB];omega
   apply jG (α:=Unit) (fun _=>[(1,.ptr H.nx 0),(2,.ptr (H.nx+1) 0),(3,.ptr (H.nx+1+1) 0)]) (fun _=>HB.push (.cells [sIG (S.fields.map (·.id)),sIG (S.headers.map (·.id)),sIG (S.states.map (·.id)),.slice .nil 1 [],.slice .nil 1 [],.slice .nil 1 []])) (fun _=>True)
   ·intro J
    refine ay (A:=Nat) (fun k=>[(1,.ptr H.nx 0),(2,.ptr (H.nx+1) 0),(3,.ptr (H.nx+1+1) 0),(47,.slice .any 5 (S.states.map aH)),(48,.int .i64 (S.states.length:Int)),(49,.int .i64 (k:Int))]) HL (fun k=>k≤S.states.length) (fun k=>S.states.length - k) 0 (by omega) ?_ fun k hk=>?_
    ·rw [hL0,← hHB]
     refine ⟨by simp only [zle,zkq,zkv];omega,lRq _,by have:=hclL 0;rw [hL0,← hHB] at this;exact this,?_,?_⟩
     ·simp [ltF,zle,znn,znf,aL eJ]
      try omega
     ·simp [aS,wk2,wk1,wkM,Fr.get]
    simp only [go_sem]
    refine ah (fun hc=>?_) (fun hc=>?_)
    ·have hk':k<S.states.length:=by simp at hc;omega
     obtain ⟨x,hx⟩:∃ x,x=S.states[k]:=⟨_,rfl⟩
     have hxg:=aO (f:=aH) (l:=S.states) (k:=k) (x:=x) (by rw [gQq hk',hx])
     have e5:=Yk5 k
     have htk:S.states.take (k+1)=S.states.take k++[x]:=by rw [hx,List.take_succ_eq_append_getElem hk']
     have hil:inL ((S.states.take k).map (·.id))++[.int .i64 x.id]=inL ((S.states.take (k+1)).map (·.id)):=by rw [htk];simp [inL]
     have hll:(inL ((S.states.take k).map (·.id))).length=k:=by simp [inL];omega
     by_cases h0:k=0
     ·subst h0
      have hC1:C0=(aH x).cells:=by
       rw [hC0]
       cases hq:S.states with
       |nil=>rw [hq] at hk';exact absurd hk' (by simp)
       |cons y ys=>dsimp only;rw [hx];simp only [hq,List.getElem_cons_zero]
      simp only [aH,AV.cells] at hC1
      have hcl1:=hclL 1
      rw [hLk 1 (by decide),← hHB,hC1,← hil] at hcl1
      simp only [yar,yaf,inL,yak,aG] at hcl1
      rw [hL0,← hHB]
      simp only [aM,aj,bhq,Nat.reduceMod,Nat.reduceDiv,aB,aC,aD,ba,aE,aZ,aV,aX,aW,yaq,yar,yao,yap,go_sem,aG,iNq,ybb,hxg,aH,yal,yak,e5]
      refine ⟨⟨by omega,by omega⟩,⟨by omega,by omega⟩,fun z hz=>by rw [List.mem_singleton.1 hz];rfl,⟨by omega,by omega⟩,1,by omega,by omega,?_⟩
      rw [hLk 1 (by decide),← hHB,hC1,← hil]
      simp only [yar,yaf,inL,yak,aG]
      refine ⟨by simp only [zle];omega,by repeat first|exact .refl _|refine .push ?_ _,hcl1,?_,?_⟩
      ·simp [ltF,zle,znn,znf,aL eJ]
       try omega
      ·simp [aS,wk2,wk1,wkM,Fr.get]
     ·have hcl1:=hclL (k+1)
      rw [hLk (k+1) (by omega),← hHB,← hil] at hcl1
      simp only [aG] at hcl1
      rw [hLk k h0,← hHB]
      simp only [aM,aj,bhq,Nat.reduceMod,Nat.reduceDiv,aB,aC,aD,ba,aE,aZ,aV,aX,aW,yaq,yar,yao,yap,go_sem,aG,iNq,ybb,hxg,aH,yal,yak,e5]
      refine ⟨⟨by omega,by omega⟩,⟨by omega,by omega⟩,⟨by rw [hll],by rw [hll];omega,by rw [hll];omega,fun z hz=>by rw [List.mem_singleton.1 hz];rfl⟩,⟨by omega,by omega⟩,k+1,by omega,by omega,?_⟩
      rw [hLk (k+1) (by omega),← hHB,← hil,hll]
      simp only [aG]
      refine ⟨by simp only [zle];omega,by repeat first|exact .refl _|refine .push ?_ _,hcl1,?_,?_⟩
      ·simp [ltF,zle,znn,znf,aL eJ]
       try omega
      ·simp [aS,wk2,wk1,wkM,Fr.get]
    ·have hk':k=S.states.length:=by simp at hc;omega
     have hcl1:(HB.push (.cells [sIG (S.fields.map (·.id)),sIG (S.headers.map (·.id)),sIG (S.states.map (·.id)),.slice .nil 1 [],.slice .nil 1 [],.slice .nil 1 []])).Closed:=ae hclB (by simp [znu,znv,bA,eA])
     rw [← hHB] at hcl1
     by_cases h0:k=0
     ·subst h0
      have hnl:S.states=[]:=List.length_eq_zero_iff.1 hk'.symm
      rw [hL0,← hHB]
      simp only [go_sem]
      refine eZ (H.nx+1+1) [sIG (S.fields.map (·.id)),sIG (S.headers.map (·.id)),sIG (S.states.map (·.id)),.slice .nil 1 [],.slice .nil 1 [],.slice .nil 1 []] (cs:=[sIG (S.fields.map (·.id)),sIG (S.headers.map (·.id)),.slice .nil 1 [],.slice .nil 1 [],.slice .nil 1 [],.slice .nil 1 []]) (by simp only [go_sem]) ?_ ?_
      ·simp only [cl,cN,and_true]
       refine ⟨?_,?_,?_,?_,?_,?_⟩
       all_goals first|exact fN|(rw [hnl];exact fN (l:=[]))|(rw [ck];exact .inl ⟨.inr rfl,rfl,by rw [cG];trivial⟩)
      simp only [go_sem]
      refine eR J () trivial ⟨by simp only [zle,zkv,zkq,gv,hnB];omega,by rw [← hHB];repeat first|exact .refl _|refine .push ?_ _,by rw [← hHB];exact hcl1,?_,?_⟩
      ·(simp [ltF,zle,znn,hnB];try omega)
      ·simp [aS,wk2,wk1,wkM,Fr.get]
     ·rw [hLk k h0,← hHB]
      simp only [go_sem]
      refine eZ (H.nx+1+1) [sIG (S.fields.map (·.id)),sIG (S.headers.map (·.id)),sIG (S.states.map (·.id)),.slice .nil 1 [],.slice .nil 1 [],.slice .nil 1 []] (cs:=[sIG (S.fields.map (·.id)),sIG (S.headers.map (·.id)),.slice (.own (H.nx+1+1+1+1+1)) 1 (inL ((S.states.take k).map (·.id))),.slice .nil 1 [],.slice .nil 1 [],.slice .nil 1 []]) (by simp only [go_sem]) ?_ ?_
      ·rw [hk',List.take_length]
       simp only [cl,cN,and_true]
       refine ⟨?_,?_,?_,?_,?_,?_⟩
       all_goals first|exact fN|(rw [ck];exact .inl ⟨.inr rfl,rfl,by rw [cG];trivial⟩)
      simp only [go_sem]
      refine eR J () trivial ⟨by simp only [zle,zkv,zkq,gv,hnB];omega,by rw [← hHB];repeat first|exact .refl _|refine .push ?_ _,by rw [← hHB];exact hcl1,?_,?_⟩
      ·(simp [ltF,zle,znn,hnB];try omega)
      ·simp [aS,wk2,wk1,wkM,Fr.get]
   ·intro _ _
    dsimp only
    rw [← hHB]
    simp only [aM,aj,bhq,Nat.reduceMod,Nat.reduceDiv,aB,aC,aD,ba,aE,aZ,aV,aX,aW,yaq,yar,yao,yap,go_sem,aG]
    obtain ⟨C0,hC0⟩:∃ C0:List AV,C0=(match S.actions with|x::_=>(ap x).cells|[]=>[]):=⟨_,rfl⟩
    have hC0l:∀ m,ltL m C0:=by
     rw [hC0]
     intro m
     cases S.actions with
     |nil=>rw [znv];trivial
     |cons x _=>exact ltL_iff.2 fun j hj=>AV.lt_cells (g9 x) j hj
    obtain ⟨HL,hHL⟩:∃ HL:Nat→AHeap,HL=fun k=>if k=0 then HB.push (.cells [sIG (S.fields.map (·.id)),sIG (S.headers.map (·.id)),sIG (S.states.map (·.id)),.slice .nil 1 [],.slice .nil 1 [],.slice .nil 1 []]) else (((HB.push (.cells [sIG (S.fields.map (·.id)),sIG (S.headers.map (·.id)),sIG (S.states.map (·.id)),.slice (.own (H.nx+1+1+1+1+1)) 1 (inL ((S.actions.take k).map (·.id))),.slice .nil 1 [],.slice .nil 1 []])).push (.cells C0)).push (.buf 1 1)).push (.buf 1 k):=⟨_,rfl⟩
    have hL0:HL 0=HB.push (.cells [sIG (S.fields.map (·.id)),sIG (S.headers.map (·.id)),sIG (S.states.map (·.id)),.slice .nil 1 [],.slice .nil 1 [],.slice .nil 1 []]):=by rw [hHL];rfl
    have hLk:∀ k,k≠0→HL k=(((HB.push (.cells [sIG (S.fields.map (·.id)),sIG (S.headers.map (·.id)),sIG (S.states.map (·.id)),.slice (.own (H.nx+1+1+1+1+1)) 1 (inL ((S.actions.take k).map (·.id))),.slice .nil 1 [],.slice .nil 1 []])).push (.cells C0)).push (.buf 1 1)).push (.buf 1 k):=fun k h=>by rw [hHL];exact if_neg h
    have hclL:∀ k,(HL k).Closed:=fun k=>by
     by_cases h:k=0
     ·rw [h,hL0]
      exact ae hclB (by simp [znu,znv,bA,eA])
     ·rw [hLk k h]
      refine hP (c:=[sIG (S.fields.map (·.id)),sIG (S.headers.map (·.id)),sIG (S.states.map (·.id)),.slice .nil 1 [],.slice .nil 1 [],.slice .nil 1 []]) (aU (aU (ae (ae hclB (by simp [znu,znv,bA,eA])) (hC0l _)))) ?_
      simp [znu,znv,bA,eA,hnB,kB]
    have hnL:∀ k,H.nx+1+1+1≤(HL k).nx:=fun k=>by
     by_cases h:k=0
     ·rw [h,hL0,zle,hnB];omega
     ·rw [hLk k h];simp only [zle,hnB];omega
    apply jG (α:=Unit) (fun _=>[(1,.ptr H.nx 0),(2,.ptr (H.nx+1) 0),(3,.ptr (H.nx+1+1) 0)]) (fun _=>HB.push (.cells [sIG (S.fields.map (·.id)),sIG (S.headers.map (·.id)),sIG (S.states.map (·.id)),sIG (S.actions.map (·.id)),.slice .nil 1 [],.slice .nil 1 []])) (fun _=>True)
    ·intro J
     refine ay (A:=Nat) (fun k=>[(1,.ptr H.nx 0),(2,.ptr (H.nx+1) 0),(3,.ptr (H.nx+1+1) 0),(62,.slice .any 5 (S.actions.map ap)),(63,.int .i64 (S.actions.length:Int)),(64,.int .i64 (k:Int))]) HL (fun k=>k≤S.actions.length) (fun k=>S.actions.length - k) 0 (by omega) ?_ fun k hk=>?_
     ·rw [hL0,← hHB]
      refine ⟨by simp only [zle,zkq,zkv];omega,lRq _,by have:=hclL 0;rw [hL0,← hHB] at this;exact this,?_,?_⟩
      ·simp [ltF,zle,znn,znf,aL g9]
       try omega
      ·simp [aS,wk2,wk1,wkM,Fr.get]
     simp only [go_sem]
     refine ah (fun hc=>?_) (fun hc=>?_)
     ·have hk':k<S.actions.length:=by simp at hc;omega
      obtain ⟨x,hx⟩:∃ x,x=S.actions[k]:=⟨_,rfl⟩
      have hxg:=aO (f:=ap) (l:=S.actions) (k:=k) (x:=x) (by rw [gQq hk',hx])
      have e5:=Yk5 k
      have htk:S.actions.take (k+1)=S.actions.take k++[x]:=by rw [hx,List.take_succ_eq_append_getElem hk']
      have hil:inL ((S.actions.take k).map (·.id))++[.int .i64 x.id]=inL ((S.actions.take (k+1)).map (·.id)):=by rw [htk];simp [inL]
      have hll:(inL ((S.actions.take k).map (·.id))).length=k:=by simp [inL];omega
      by_cases h0:k=0
      ·subst h0
       have hC1:C0=(ap x).cells:=by
        rw [hC0]
        cases hq:S.actions with
        |nil=>rw [hq] at hk';exact absurd hk' (by simp)
        |cons y ys=>dsimp only;rw [hx];simp only [hq,List.getElem_cons_zero]
       simp only [ap,AV.cells] at hC1
       have hcl1:=hclL 1
       rw [hLk 1 (by decide),← hHB,hC1,← hil] at hcl1
       simp only [yar,yaf,inL,yak,aG] at hcl1
       rw [hL0,← hHB]
       simp only [aM,aj,bhq,Nat.reduceMod,Nat.reduceDiv,aB,aC,aD,ba,aE,aZ,aV,aX,aW,yaq,yar,yao,yap,go_sem,aG,iNq,ybb,hxg,ap,yal,yak,e5]
       refine ⟨⟨by omega,by omega⟩,⟨by omega,by omega⟩,fun z hz=>by rw [List.mem_singleton.1 hz];rfl,⟨by omega,by omega⟩,1,by omega,by omega,?_⟩
       rw [hLk 1 (by decide),← hHB,hC1,← hil]
       simp only [yar,yaf,inL,yak,aG]
       refine ⟨by simp only [zle];omega,by repeat first|exact .refl _|refine .push ?_ _,hcl1,?_,?_⟩
       ·simp [ltF,zle,znn,znf,aL g9]
        try omega
       ·simp [aS,wk2,wk1,wkM,Fr.get]
      ·have hcl1:=hclL (k+1)
       rw [hLk (k+1) (by omega),← hHB,← hil] at hcl1
       simp only [aG] at hcl1
       rw [hLk k h0,← hHB]
       simp only [aM,aj,bhq,Nat.reduceMod,Nat.reduceDiv,aB,aC,aD,ba,aE,aZ,aV,aX,aW,yaq,yar,yao,yap,go_sem,aG,iNq,ybb,hxg,ap,yal,yak,e5]
       refine ⟨⟨by omega,by omega⟩,⟨by omega,by omega⟩,⟨by rw [hll],by rw [hll];omega,by rw [hll];omega,fun z hz=>by rw [List.mem_singleton.1 hz];rfl⟩,⟨by omega,by omega⟩,k+1,by omega,by omega,?_⟩
       rw [hLk (k+1) (by omega),← hHB,← hil,hll]
       simp only [aG]
       refine ⟨by simp only [zle];omega,by repeat first|exact .refl _|refine .push ?_ _,hcl1,?_,?_⟩
       ·simp [ltF,zle,znn,znf,aL g9]
        try omega
       ·simp [aS,wk2,wk1,wkM,Fr.get]
     ·have hk':k=S.actions.length:=by simp at hc;omega
      have hcl1:(HB.push (.cells [sIG (S.fields.map (·.id)),sIG (S.headers.map (·.id)),sIG (S.states.map (·.id)),sIG (S.actions.map (·.id)),.slice .nil 1 [],.slice .nil 1 []])).Closed:=ae hclB (by simp [znu,znv,bA,eA])
      rw [← hHB] at hcl1
      by_cases h0:k=0
      ·subst h0
       have hnl:S.actions=[]:=List.length_eq_zero_iff.1 hk'.symm
       rw [hL0,← hHB]
       simp only [go_sem]
       refine eZ (H.nx+1+1) [sIG (S.fields.map (·.id)),sIG (S.headers.map (·.id)),sIG (S.states.map (·.id)),sIG (S.actions.map (·.id)),.slice .nil 1 [],.slice .nil 1 []] (cs:=[sIG (S.fields.map (·.id)),sIG (S.headers.map (·.id)),sIG (S.states.map (·.id)),.slice .nil 1 [],.slice .nil 1 [],.slice .nil 1 []]) (by simp only [go_sem]) ?_ ?_
       ·simp only [cl,cN,and_true]
        refine ⟨?_,?_,?_,?_,?_,?_⟩
        all_goals first|exact fN|(rw [hnl];exact fN (l:=[]))|(rw [ck];exact .inl ⟨.inr rfl,rfl,by rw [cG];trivial⟩)
       simp only [go_sem]
       refine eR J () trivial ⟨by simp only [zle,zkv,zkq,gv,hnB];omega,by rw [← hHB];repeat first|exact .refl _|refine .push ?_ _,by rw [← hHB];exact hcl1,?_,?_⟩
       ·(simp [ltF,zle,znn,hnB];try omega)
       ·simp [aS,wk2,wk1,wkM,Fr.get]
      ·rw [hLk k h0,← hHB]
       simp only [go_sem]
       refine eZ (H.nx+1+1) [sIG (S.fields.map (·.id)),sIG (S.headers.map (·.id)),sIG (S.states.map (·.id)),sIG (S.actions.map (·.id)),.slice .nil 1 [],.slice .nil 1 []] (cs:=[sIG (S.fields.map (·.id)),sIG (S.headers.map (·.id)),sIG (S.states.map (·.id)),.slice (.own (H.nx+1+1+1+1+1)) 1 (inL ((S.actions.take k).map (·.id))),.slice .nil 1 [],.slice .nil 1 []]) (by simp only [go_sem]) ?_ ?_
       ·rw [hk',List.take_length]
        simp only [cl,cN,and_true]
        refine ⟨?_,?_,?_,?_,?_,?_⟩
        all_goals first|exact fN|(rw [ck];exact .inl ⟨.inr rfl,rfl,by rw [cG];trivial⟩)
       simp only [go_sem]
       refine eR J () trivial ⟨by simp only [zle,zkv,zkq,gv,hnB];omega,by rw [← hHB];repeat first|exact .refl _|refine .push ?_ _,by rw [← hHB];exact hcl1,?_,?_⟩
       ·(simp [ltF,zle,znn,hnB];try omega)
       ·simp [aS,wk2,wk1,wkM,Fr.get]
    ·intro _ _
     dsimp only
     rw [← hHB]
     simp only [aM,aj,bhq,Nat.reduceMod,Nat.reduceDiv,aB,aC,aD,ba,aE,aZ,aV,aX,aW,yaq,yar,yao,yap,go_sem,aG]
     obtain ⟨C0,hC0⟩:∃ C0:List AV,C0=(match S.tables with|x::_=>(aq x).cells|[]=>[]):=⟨_,rfl⟩
     have hC0l:∀ m,ltL m C0:=by
      rw [hC0]
      intro m
      cases S.tables with
      |nil=>rw [znv];trivial
      |cons x _=>exact ltL_iff.2 fun j hj=>AV.lt_cells (du x) j hj
     obtain ⟨HL,hHL⟩:∃ HL:Nat→AHeap,HL=fun k=>if k=0 then HB.push (.cells [sIG (S.fields.map (·.id)),sIG (S.headers.map (·.id)),sIG (S.states.map (·.id)),sIG (S.actions.map (·.id)),.slice .nil 1 [],.slice .nil 1 []]) else (((HB.push (.cells [sIG (S.fields.map (·.id)),sIG (S.headers.map (·.id)),sIG (S.states.map (·.id)),sIG (S.actions.map (·.id)),.slice (.own (H.nx+1+1+1+1+1)) 1 (inL ((S.tables.take k).map (·.id))),.slice .nil 1 []])).push (.cells C0)).push (.buf 1 1)).push (.buf 1 k):=⟨_,rfl⟩
     have hL0:HL 0=HB.push (.cells [sIG (S.fields.map (·.id)),sIG (S.headers.map (·.id)),sIG (S.states.map (·.id)),sIG (S.actions.map (·.id)),.slice .nil 1 [],.slice .nil 1 []]):=by rw [hHL];rfl
     have hLk:∀ k,k≠0→HL k=(((HB.push (.cells [sIG (S.fields.map (·.id)),sIG (S.headers.map (·.id)),sIG (S.states.map (·.id)),sIG (S.actions.map (·.id)),.slice (.own (H.nx+1+1+1+1+1)) 1 (inL ((S.tables.take k).map (·.id))),.slice .nil 1 []])).push (.cells C0)).push (.buf 1 1)).push (.buf 1 k):=fun k h=>by rw [hHL];exact if_neg h
     have hclL:∀ k,(HL k).Closed:=fun k=>by
      by_cases h:k=0
      ·rw [h,hL0]
       exact ae hclB (by simp [znu,znv,bA,eA])
      ·rw [hLk k h]
       refine hP (c:=[sIG (S.fields.map (·.id)),sIG (S.headers.map (·.id)),sIG (S.states.map (·.id)),sIG (S.actions.map (·.id)),.slice .nil 1 [],.slice .nil 1 []]) (aU (aU (ae (ae hclB (by simp [znu,znv,bA,eA])) (hC0l _)))) ?_
       simp [znu,znv,bA,eA,hnB,kB]
     have hnL:∀ k,H.nx+1+1+1≤(HL k).nx:=fun k=>by
      by_cases h:k=0
      ·rw [h,hL0,zle,hnB];omega
      ·rw [hLk k h];simp only [zle,hnB];omega
     apply jG (α:=Unit) (fun _=>[(1,.ptr H.nx 0),(2,.ptr (H.nx+1) 0),(3,.ptr (H.nx+1+1) 0)]) (fun _=>HB.push (.cells [sIG (S.fields.map (·.id)),sIG (S.headers.map (·.id)),sIG (S.states.map (·.id)),sIG (S.actions.map (·.id)),sIG (S.tables.map (·.id)),.slice .nil 1 []])) (fun _=>True)
     ·intro J
      refine ay (A:=Nat) (fun k=>[(1,.ptr H.nx 0),(2,.ptr (H.nx+1) 0),(3,.ptr (H.nx+1+1) 0),(77,.slice .any 8 (S.tables.map aq)),(78,.int .i64 (S.tables.length:Int)),(79,.int .i64 (k:Int))]) HL (fun k=>k≤S.tables.length) (fun k=>S.tables.length - k) 0 (by omega) ?_ fun k hk=>?_
      ·rw [hL0,← hHB]
       refine ⟨by simp only [zle,zkq,zkv];omega,lRq _,by have:=hclL 0;rw [hL0,← hHB] at this;exact this,?_,?_⟩
       ·simp [ltF,zle,znn,znf,aL du]
        try omega
       ·simp [aS,wk2,wk1,wkM,Fr.get]
      simp only [go_sem]
      refine ah (fun hc=>?_) (fun hc=>?_)
      ·have hk':k<S.tables.length:=by simp at hc;omega
       obtain ⟨x,hx⟩:∃ x,x=S.tables[k]:=⟨_,rfl⟩
       have hxg:=aO (f:=aq) (l:=S.tables) (k:=k) (x:=x) (by rw [gQq hk',hx])
       have e5:=Yk5 k
       have htk:S.tables.take (k+1)=S.tables.take k++[x]:=by rw [hx,List.take_succ_eq_append_getElem hk']
       have hil:inL ((S.tables.take k).map (·.id))++[.int .i64 x.id]=inL ((S.tables.take (k+1)).map (·.id)):=by rw [htk];simp [inL]
       have hll:(inL ((S.tables.take k).map (·.id))).length=k:=by simp [inL];omega
       by_cases h0:k=0
       ·subst h0
        have hC1:C0=(aq x).cells:=by
         rw [hC0]
         cases hq:S.tables with
         |nil=>rw [hq] at hk';exact absurd hk' (by simp)
         |cons y ys=>dsimp only;rw [hx];simp only [hq,List.getElem_cons_zero]
        simp only [aq,AV.cells] at hC1
        have hcl1:=hclL 1
        rw [hLk 1 (by decide),← hHB,hC1,← hil] at hcl1
        simp only [yar,yaf,inL,yak,aG] at hcl1
        rw [hL0,← hHB]
        simp only [aM,aj,bhq,Nat.reduceMod,Nat.reduceDiv,aB,aC,aD,ba,aE,aZ,aV,aX,aW,yaq,yar,yao,yap,go_sem,aG,iNq,ybb,hxg,aq,yal,yak,e5]
        refine ⟨⟨by omega,by omega⟩,⟨by omega,by omega⟩,fun z hz=>by rw [List.mem_singleton.1 hz];rfl,⟨by omega,by omega⟩,1,by omega,by omega,?_⟩
        rw [hLk 1 (by decide),← hHB,hC1,← hil]
        simp only [yar,yaf,inL,yak,aG]
        refine ⟨by simp only [zle];omega,by repeat first|exact .refl _|refine .push ?_ _,hcl1,?_,?_⟩
        ·simp [ltF,zle,znn,znf,aL du]
         try omega
        ·simp [aS,wk2,wk1,wkM,Fr.get]
       ·have hcl1:=hclL (k+1)
        rw [hLk (k+1) (by omega),← hHB,← hil] at hcl1
        simp only [aG] at hcl1
        rw [hLk k h0,← hHB]
        simp only [aM,aj,bhq,Nat.reduceMod,Nat.reduceDiv,aB,aC,aD,ba,aE,aZ,aV,aX,aW,yaq,yar,yao,yap,go_sem,aG,iNq,ybb,hxg,aq,yal,yak,e5]
        refine ⟨⟨by omega,by omega⟩,⟨by omega,by omega⟩,⟨by rw [hll],by rw [hll];omega,by rw [hll];omega,fun z hz=>by rw [List.mem_singleton.1 hz];rfl⟩,⟨by omega,by omega⟩,k+1,by omega,by omega,?_⟩
        rw [hLk (k+1) (by omega),← hHB,← hil,hll]
        simp only [aG]
        refine ⟨by simp only [zle];omega,by repeat first|exact .refl _|refine .push ?_ _,hcl1,?_,?_⟩
        ·simp [ltF,zle,znn,znf,aL du]
         try omega
        ·simp [aS,wk2,wk1,wkM,Fr.get]
      ·have hk':k=S.tables.length:=by simp at hc;omega
       have hcl1:(HB.push (.cells [sIG (S.fields.map (·.id)),sIG (S.headers.map (·.id)),sIG (S.states.map (·.id)),sIG (S.actions.map (·.id)),sIG (S.tables.map (·.id)),.slice .nil 1 []])).Closed:=ae hclB (by simp [znu,znv,bA,eA])
       rw [← hHB] at hcl1
       by_cases h0:k=0
       ·subst h0
        have hnl:S.tables=[]:=List.length_eq_zero_iff.1 hk'.symm
        rw [hL0,← hHB]
        simp only [go_sem]
        refine eZ (H.nx+1+1) [sIG (S.fields.map (·.id)),sIG (S.headers.map (·.id)),sIG (S.states.map (·.id)),sIG (S.actions.map (·.id)),sIG (S.tables.map (·.id)),.slice .nil 1 []] (cs:=[sIG (S.fields.map (·.id)),sIG (S.headers.map (·.id)),sIG (S.states.map (·.id)),sIG (S.actions.map (·.id)),.slice .nil 1 [],.slice .nil 1 []]) (by simp only [go_sem]) ?_ ?_
        ·simp only [cl,cN,and_true]
         refine ⟨?_,?_,?_,?_,?_,?_⟩
         all_goals first|exact fN|(rw [hnl];exact fN (l:=[]))|(rw [ck];exact .inl ⟨.inr rfl,rfl,by rw [cG];trivial⟩)
        simp only [go_sem]
        refine eR J () trivial ⟨by simp only [zle,zkv,zkq,gv,hnB];omega,by rw [← hHB];repeat first|exact .refl _|refine .push ?_ _,by rw [← hHB];exact hcl1,?_,?_⟩
        ·(simp [ltF,zle,znn,hnB];try omega)
        ·simp [aS,wk2,wk1,wkM,Fr.get]
       ·rw [hLk k h0,← hHB]
        simp only [go_sem]
        refine eZ (H.nx+1+1) [sIG (S.fields.map (·.id)),sIG (S.headers.map (·.id)),sIG (S.states.map (·.id)),sIG (S.actions.map (·.id)),sIG (S.tables.map (·.id)),.slice .nil 1 []] (cs:=[sIG (S.fields.map (·.id)),sIG (S.headers.map (·.id)),sIG (S.states.map (·.id)),sIG (S.actions.map (·.id)),.slice (.own (H.nx+1+1+1+1+1)) 1 (inL ((S.tables.take k).map (·.id))),.slice .nil 1 []]) (by simp only [go_sem]) ?_ ?_
        ·rw [hk',List.take_length]
         simp only [cl,cN,and_true]
         refine ⟨?_,?_,?_,?_,?_,?_⟩
         all_goals first|exact fN|(rw [ck];exact .inl ⟨.inr rfl,rfl,by rw [cG];trivial⟩)
        simp only [go_sem]
        refine eR J () trivial ⟨by simp only [zle,zkv,zkq,gv,hnB];omega,by rw [← hHB];repeat first|exact .refl _|refine .push ?_ _,by rw [← hHB];exact hcl1,?_,?_⟩
        ·(simp [ltF,zle,znn,hnB];try omega)
        ·simp [aS,wk2,wk1,wkM,Fr.get]
     ·intro _ _
      dsimp only
      rw [← hHB]
      simp only [aM,aj,bhq,Nat.reduceMod,Nat.reduceDiv,aB,aC,aD,ba,aE,aZ,aV,aX,aW,yaq,yar,yao,yap,go_sem,aG]
      obtain ⟨C0,hC0⟩:∃ C0:List AV,C0=(match S.roles with|x::_=>(aN x).cells|[]=>[]):=⟨_,rfl⟩
      have hC0l:∀ m,ltL m C0:=by
       rw [hC0]
       intro m
       cases S.roles with
       |nil=>rw [znv];trivial
       |cons x _=>exact ltL_iff.2 fun j hj=>AV.lt_cells (j3 x) j hj
      obtain ⟨HL,hHL⟩:∃ HL:Nat→AHeap,HL=fun k=>if k=0 then HB.push (.cells [sIG (S.fields.map (·.id)),sIG (S.headers.map (·.id)),sIG (S.states.map (·.id)),sIG (S.actions.map (·.id)),sIG (S.tables.map (·.id)),.slice .nil 1 []]) else (((HB.push (.cells [sIG (S.fields.map (·.id)),sIG (S.headers.map (·.id)),sIG (S.states.map (·.id)),sIG (S.actions.map (·.id)),sIG (S.tables.map (·.id)),.slice (.own (H.nx+1+1+1+1+1)) 1 (inL ((S.roles.take k).map (·.id)))])).push (.cells C0)).push (.buf 1 1)).push (.buf 1 k):=⟨_,rfl⟩
      have hL0:HL 0=HB.push (.cells [sIG (S.fields.map (·.id)),sIG (S.headers.map (·.id)),sIG (S.states.map (·.id)),sIG (S.actions.map (·.id)),sIG (S.tables.map (·.id)),.slice .nil 1 []]):=by rw [hHL];rfl
      have hLk:∀ k,k≠0→HL k=(((HB.push (.cells [sIG (S.fields.map (·.id)),sIG (S.headers.map (·.id)),sIG (S.states.map (·.id)),sIG (S.actions.map (·.id)),sIG (S.tables.map (·.id)),.slice (.own (H.nx+1+1+1+1+1)) 1 (inL ((S.roles.take k).map (·.id)))])).push (.cells C0)).push (.buf 1 1)).push (.buf 1 k):=fun k h=>by rw [hHL];exact if_neg h
      have hclL:∀ k,(HL k).Closed:=fun k=>by
       by_cases h:k=0
       ·rw [h,hL0]
        exact ae hclB (by simp [znu,znv,bA,eA])
       ·rw [hLk k h]
        refine hP (c:=[sIG (S.fields.map (·.id)),sIG (S.headers.map (·.id)),sIG (S.states.map (·.id)),sIG (S.actions.map (·.id)),sIG (S.tables.map (·.id)),.slice .nil 1 []]) (aU (aU (ae (ae hclB (by simp [znu,znv,bA,eA])) (hC0l _)))) ?_
        simp [znu,znv,bA,eA,hnB,kB]
      have hnL:∀ k,H.nx+1+1+1≤(HL k).nx:=fun k=>by
       by_cases h:k=0
       ·rw [h,hL0,zle,hnB];omega
       ·rw [hLk k h];simp only [zle,hnB];omega
      apply jG (α:=Unit) (fun _=>[(2,.ptr (H.nx+1) 0),(3,.ptr (H.nx+1+1) 0)]) (fun _=>HB.push (.cells [sIG (S.fields.map (·.id)),sIG (S.headers.map (·.id)),sIG (S.states.map (·.id)),sIG (S.actions.map (·.id)),sIG (S.tables.map (·.id)),sIG (S.roles.map (·.id))])) (fun _=>True)
      ·intro J
       refine ay (A:=Nat) (fun k=>[(2,.ptr (H.nx+1) 0),(3,.ptr (H.nx+1+1) 0),(92,.slice .any 6 (S.roles.map aN)),(93,.int .i64 (S.roles.length:Int)),(94,.int .i64 (k:Int))]) HL (fun k=>k≤S.roles.length) (fun k=>S.roles.length - k) 0 (by omega) ?_ fun k hk=>?_
       ·rw [hL0,← hHB]
        refine ⟨by simp only [zle,zkq,zkv];omega,lRq _,by have:=hclL 0;rw [hL0,← hHB] at this;exact this,?_,?_⟩
        ·simp [ltF,zle,znn,znf,aL j3]
         try omega
        ·simp [aS,wk2,wk1,wkM,Fr.get]
       simp only [go_sem]
       refine ah (fun hc=>?_) (fun hc=>?_)
       ·have hk':k<S.roles.length:=by simp at hc;omega
        obtain ⟨x,hx⟩:∃ x,x=S.roles[k]:=⟨_,rfl⟩
        have hxg:=aO (f:=aN) (l:=S.roles) (k:=k) (x:=x) (by rw [gQq hk',hx])
        have e5:=Yk5 k
        have htk:S.roles.take (k+1)=S.roles.take k++[x]:=by rw [hx,List.take_succ_eq_append_getElem hk']
        have hil:inL ((S.roles.take k).map (·.id))++[.int .i64 x.id]=inL ((S.roles.take (k+1)).map (·.id)):=by rw [htk];simp [inL]
        have hll:(inL ((S.roles.take k).map (·.id))).length=k:=by simp [inL];omega
        by_cases h0:k=0
        ·subst h0
         have hC1:C0=(aN x).cells:=by
          rw [hC0]
          cases hq:S.roles with
          |nil=>rw [hq] at hk';exact absurd hk' (by simp)
          |cons y ys=>dsimp only;rw [hx];simp only [hq,List.getElem_cons_zero]
         simp only [aN,AV.cells] at hC1
         have hcl1:=hclL 1
         rw [hLk 1 (by decide),← hHB,hC1,← hil] at hcl1
         simp only [yar,yaf,inL,yak,aG] at hcl1
         rw [hL0,← hHB]
         simp only [aM,aj,bhq,Nat.reduceMod,Nat.reduceDiv,aB,aC,aD,ba,aE,aZ,aV,aX,aW,yaq,yar,yao,yap,go_sem,aG,iNq,ybb,hxg,aN,yal,yak,e5]
         refine ⟨⟨by omega,by omega⟩,⟨by omega,by omega⟩,fun z hz=>by rw [List.mem_singleton.1 hz];rfl,⟨by omega,by omega⟩,1,by omega,by omega,?_⟩
         rw [hLk 1 (by decide),← hHB,hC1,← hil]
         simp only [yar,yaf,inL,yak,aG]
         refine ⟨by simp only [zle];omega,by repeat first|exact .refl _|refine .push ?_ _,hcl1,?_,?_⟩
         ·simp [ltF,zle,znn,znf,aL j3]
          try omega
         ·simp [aS,wk2,wk1,wkM,Fr.get]
        ·have hcl1:=hclL (k+1)
         rw [hLk (k+1) (by omega),← hHB,← hil] at hcl1
         simp only [aG] at hcl1
         rw [hLk k h0,← hHB]
         simp only [aM,aj,bhq,Nat.reduceMod,Nat.reduceDiv,aB,aC,aD,ba,aE,aZ,aV,aX,aW,yaq,yar,yao,yap,go_sem,aG,iNq,ybb,hxg,aN,yal,yak,e5]
         refine ⟨⟨by omega,by omega⟩,⟨by omega,by omega⟩,⟨by rw [hll],by rw [hll];omega,by rw [hll];omega,fun z hz=>by rw [List.mem_singleton.1 hz];rfl⟩,⟨by omega,by omega⟩,k+1,by omega,by omega,?_⟩
         rw [hLk (k+1) (by omega),← hHB,← hil,hll]
         simp only [aG]
         refine ⟨by simp only [zle];omega,by repeat first|exact .refl _|refine .push ?_ _,hcl1,?_,?_⟩
         ·simp [ltF,zle,znn,znf,aL j3]
          try omega
         ·simp [aS,wk2,wk1,wkM,Fr.get]
       ·have hk':k=S.roles.length:=by simp at hc;omega
        have hcl1:(HB.push (.cells [sIG (S.fields.map (·.id)),sIG (S.headers.map (·.id)),sIG (S.states.map (·.id)),sIG (S.actions.map (·.id)),sIG (S.tables.map (·.id)),sIG (S.roles.map (·.id))])).Closed:=ae hclB (by simp [znu,znv,bA,eA])
        rw [← hHB] at hcl1
        by_cases h0:k=0
        ·subst h0
         have hnl:S.roles=[]:=List.length_eq_zero_iff.1 hk'.symm
         rw [hL0,← hHB]
         simp only [go_sem]
         refine eZ (H.nx+1+1) [sIG (S.fields.map (·.id)),sIG (S.headers.map (·.id)),sIG (S.states.map (·.id)),sIG (S.actions.map (·.id)),sIG (S.tables.map (·.id)),sIG (S.roles.map (·.id))] (cs:=[sIG (S.fields.map (·.id)),sIG (S.headers.map (·.id)),sIG (S.states.map (·.id)),sIG (S.actions.map (·.id)),sIG (S.tables.map (·.id)),.slice .nil 1 []]) (by simp only [go_sem]) ?_ ?_
         ·simp only [cl,cN,and_true]
          refine ⟨?_,?_,?_,?_,?_,?_⟩
          all_goals first|exact fN|(rw [hnl];exact fN (l:=[]))|(rw [ck];exact .inl ⟨.inr rfl,rfl,by rw [cG];trivial⟩)
         simp only [go_sem]
         refine eR J () trivial ⟨by simp only [zle,zkv,zkq,gv,hnB];omega,by rw [← hHB];repeat first|exact .refl _|refine .push ?_ _,by rw [← hHB];exact hcl1,?_,?_⟩
         ·(simp [ltF,zle,znn,hnB];try omega)
         ·simp [aS,wk2,wk1,wkM,Fr.get]
        ·rw [hLk k h0,← hHB]
         simp only [go_sem]
         refine eZ (H.nx+1+1) [sIG (S.fields.map (·.id)),sIG (S.headers.map (·.id)),sIG (S.states.map (·.id)),sIG (S.actions.map (·.id)),sIG (S.tables.map (·.id)),sIG (S.roles.map (·.id))] (cs:=[sIG (S.fields.map (·.id)),sIG (S.headers.map (·.id)),sIG (S.states.map (·.id)),sIG (S.actions.map (·.id)),sIG (S.tables.map (·.id)),.slice (.own (H.nx+1+1+1+1+1)) 1 (inL ((S.roles.take k).map (·.id)))]) (by simp only [go_sem]) ?_ ?_
         ·rw [hk',List.take_length]
          simp only [cl,cN,and_true]
          refine ⟨?_,?_,?_,?_,?_,?_⟩
          all_goals first|exact fN|(rw [ck];exact .inl ⟨.inr rfl,rfl,by rw [cG];trivial⟩)
         simp only [go_sem]
         refine eR J () trivial ⟨by simp only [zle,zkv,zkq,gv,hnB];omega,by rw [← hHB];repeat first|exact .refl _|refine .push ?_ _,by rw [← hHB];exact hcl1,?_,?_⟩
         ·(simp [ltF,zle,znn,hnB];try omega)
         ·simp [aS,wk2,wk1,wkM,Fr.get]
      ·intro _ _
       dsimp only
       rw [← hHB]
       simp only [aM,aj,bhq,Nat.reduceMod,Nat.reduceDiv,aB,aC,aD,ba,aE,aZ,aV,aX,aW,yaq,yar,yao,yap,go_sem,aG]
       simp only [aM,aj,bhq,Nat.reduceMod,Nat.reduceDiv,aB,aC,aD,ba,aE,aZ,aV,aX,aW,yaq,yar,yao,yap,go_sem,aG,sIG]
       simp (disch:=first|exact Zd|omega) [↓zmo,beq,ybc,ybd,ybe,aa,wk,wk2,wk1,wkM,wkL,af,ybf,hcl,lQ,sIG,lf]
       first|done|repeat first|exact .refl _|refine .push ?_ _
def gY:List AV→AHeap→(AV→Prop)→Prop
 |[.slice _ 1 l,.int .i64 n],_,K=>∃ xs:List Int,(l=inL xs∧xs.length≤10000000000000)∧K (.int .i64 (eo (fun x=>x==n) xs 0))
 |_,_,_=>False
theorem iM:EntOk Tryz.prog 64 (Ent.pure gY):=by
 refine Ype fun _ H K h=>?_
 unfold gY at h
 split at h
 rotate_left
 ·exact h.elim
 rename_i m l n
 obtain ⟨xs,⟨rfl,hl⟩,hK⟩:=h
 refine ⟨_,hK,?_⟩
 clear hK
 generalize hR:eo (fun x:Int=>x==n) xs 0=R
 refine ACalls.fW ak tNq Tryz.func64 [.tmp 4] (nrq _) (T:=ag []) (h:=fun hcl hlt=>?_)
 have hm:AV.lt H.nx (.slice m 1 (inL xs)):=hlt _ (by simp)
 clear hlt
 simp only [go_sem,C4]
 refine ay (A:=Nat) (fun k=>[(1,.int .i64 n),(7,.slice m 1 (inL xs)),(8,.int .i64 (xs.length:Int)),(9,.int .i64 (k:Int))]) (fun _=>H) (fun k=>k≤xs.length∧eo (fun x:Int=>x==n) (xs.drop k) k=R) (fun k=>xs.length - k) 0 ⟨by omega,hR⟩ ?_ fun k hk=>?_
 ·refine ⟨nrq _,lRq _,hcl,?_,?_⟩
  ·simp [ltF,znf,hm]
  ·simp [aS,wk2,wk1,wkM,Fr.get]
 clear hR
 obtain ⟨hk,hR⟩:=hk
 simp only [go_sem]
 refine ah (fun hc=>?_) (fun hc=>?_)
 ·have hk':k<xs.length:=by simp at hc;omega
  obtain ⟨x,hx⟩:∃ x,x=xs[k]:=⟨_,rfl⟩
  have hd:xs.drop k=x::xs.drop (k+1):=by rw [hx];exact dcq hk'
  have hg:=aO (f:=AV.int .i64) (l:=xs) (k:=k) (x:=x) (by rw [gQq hk',hx])
  have e5:=Yk5 k
  rw [hd] at hR
  unfold eo at hR
  simp only [go_sem,iNq,inL,hg,ybb]
  (repeat with_reducible refine Yq ?_)
  refine ah (fun hq=>?_) (fun hq=>?_)
  ·rw [if_pos hq] at hR
   subst hR
   simp only [go_sem]
   exact Z1
  ·rw [if_neg (by rw [hq];decide)] at hR
   simp only [go_sem,e5]
   unfold inL at hm
   refine ⟨k+1,⟨by omega,hR⟩,by omega,nrq _,lRq _,hcl,?_,?_⟩
   ·simp [ltF,znf,hm]
   ·simp [aS,wk2,wk1,wkM,Fr.get]
 ·have hk':k=xs.length:=by simp at hc;omega
  subst hk'
  rw [List.drop_length] at hR
  unfold eo at hR
  subst hR
  simp only [go_sem]
  exact Z1
def cJ:List AV→AHeap→(AV→Prop)→Prop
 |[.agg l,.int .i64 n],_,K=>∃ S:Sch,(l=aG S∧SLenG S)∧K (.int .i64 (eo (fun t:STable=>t.id==n) S.tables 0))
 |_,_,_=>False
theorem uC:EntOk Tryz.prog 18 (Ent.pure cJ):=by
 refine Ype fun _ H K h=>?_
 unfold cJ at h
 split at h
 rotate_left
 ·exact h.elim
 rename_i l n
 obtain ⟨S,⟨rfl,hS⟩,hK⟩:=h
 refine ⟨_,hK,?_⟩
 clear hK
 refine ACalls.fW ak (tCq kE (tCq iM tNq)) Tryz.func18 [.tmp 4] (nrq _) (T:=ag []) (h:=fun hcl hlt=>?_)
 clear hlt
 simp only [go_sem,aG,jV]
 (repeat with_reducible refine Yq ?_)
 refine ⟨S,⟨rfl,hS⟩,?_⟩
 try simp only [aj,go_sem,lQ,sIG,gY]
 (repeat with_reducible refine Yq ?_)
 refine ⟨_,⟨rfl,by have h1:=hS.fl;have h2:=hS.tl;simpa using (by assumption)⟩,?_⟩
 rw [jD]
 try simp only [aj,go_sem]
 simp (disch:=first|exact Zd|omega) [↓zmo,beq,ybc,ybd,ybe,aa,wk,wk2,wk1,wkM,wkL,af,ybf,hcl]
 first|done|repeat first|exact .refl _|refine .push ?_ _
def cO:List AV→AHeap→(AV→Prop)→Prop
 |[.agg l,.int .i64 n],_,K=>∃ S:Sch,(l=aG S∧SLenG S)∧K (.int .i64 (eo (fun t:SField=>t.id==n) S.fields 0))
 |_,_,_=>False
theorem uY:EntOk Tryz.prog 20 (Ent.pure cO):=by
 refine Ype fun _ H K h=>?_
 unfold cO at h
 split at h
 rotate_left
 ·exact h.elim
 rename_i l n
 obtain ⟨S,⟨rfl,hS⟩,hK⟩:=h
 refine ⟨_,hK,?_⟩
 clear hK
 refine ACalls.fW ak (tCq kE (tCq iM tNq)) Tryz.func20 [.tmp 4] (nrq _) (T:=ag []) (h:=fun hcl hlt=>?_)
 clear hlt
 simp only [go_sem,aG,jV]
 (repeat with_reducible refine Yq ?_)
 refine ⟨S,⟨rfl,hS⟩,?_⟩
 try simp only [aj,go_sem,lQ,sIG,gY]
 (repeat with_reducible refine Yq ?_)
 refine ⟨_,⟨rfl,by have h1:=hS.fl;have h2:=hS.tl;simpa using (by assumption)⟩,?_⟩
 rw [jD]
 try simp only [aj,go_sem]
 simp (disch:=first|exact Zd|omega) [↓zmo,beq,ybc,ybd,ybe,aa,wk,wk2,wk1,wkM,wkL,af,ybf,hcl]
 first|done|repeat first|exact .refl _|refine .push ?_ _
def tN:List AV→AHeap→(AV→Prop)→Prop
 |[x,.ptr c 0],H,K=>∃ t n,(x=ap t∧H.get c=some (.cells [.int .i64 n]))∧K (.bool (t.id==n))
 |_,_,_=>False
theorem E3:EntOk Tryz.prog 73 (Ent.pure tN):=by
 refine Ype fun _ H K h=>?_
 unfold tN at h
 split at h
 rotate_left
 ·exact h.elim
 rename_i x c
 obtain ⟨t,n,⟨rfl,hg⟩,hK⟩:=h
 refine ⟨_,hK,?_⟩
 clear hK
 unfold ap
 refine ACalls.fW ak tNq Tryz.func73 [.tmp 3] (nrq _) (T:=ag []) (h:=fun hcl hlt=>?_)
 clear hlt
 have hcs:=au hg
 have hl:=glq hg
 have hne:(c=H.nx)=False:=eq_false (by omega)
 simp only [go_sem,hcs,hne]
 (repeat with_reducible refine Yq ?_)
 exact Z1
def ol:List AV→AHeap→(AV→Prop)→Prop
 |[.slice _ 5 l,.func (.func 73) [] [.ptr c 0]],H,K=>∃ (ts:List SAction) (n:Int),(l=ts.map ap∧H.get c=some (.cells [.int .i64 n])∧ts.length≤10000000000000)∧K (.int .i64 (eo (fun t:SAction=>t.id==n) ts 0))
 |_,_,_=>False
theorem zr:EntOk Tryz.prog 72 (Ent.pure ol):=by
 refine Ype fun _ H K h=>?_
 unfold ol at h
 split at h
 rotate_left
 ·exact h.elim
 rename_i m l c
 obtain ⟨ts,n,⟨rfl,hg,hl⟩,hK⟩:=h
 refine ⟨_,hK,?_⟩
 clear hK
 generalize hR:eo (fun t:SAction=>t.id==n) ts 0=R
 refine ACalls.fW ak (tCq E3 tNq) Tryz.func72 [.tmp 4] (nrq _) (T:=ag []) (h:=fun hcl hlt=>?_)
 have hm:AV.lt H.nx (.slice m 5 (ts.map ap)):=hlt _ (by simp)
 have hf:AV.lt H.nx (.func (.func 73) [] [.ptr c 0]):=hlt _ (by simp)
 clear hlt
 simp only [go_sem,ybb]
 refine ay (A:=Nat) (fun k=>[(0,.slice m 5 (ts.map ap)),(1,.func (.func 73) [] [.ptr c 0]),(7,.int .i64 (ts.length:Int)),(8,.int .i64 (k:Int))]) (fun _=>H) (fun k=>k≤ts.length∧eo (fun t:SAction=>t.id==n) (ts.drop k) k=R) (fun k=>ts.length - k) 0 ⟨by omega,hR⟩ ?_ fun k hk=>?_
 ·refine ⟨nrq _,lRq _,hcl,?_,?_⟩
  ·simp [ltF,znf,hm,hf]
  ·simp [aS,wk2,wk1,wkM,Fr.get]
 clear hR
 obtain ⟨hk,hR⟩:=hk
 simp only [go_sem]
 refine ah (fun hc=>?_) (fun hc=>?_)
 ·have hk':k<ts.length:=by simp at hc;omega
  obtain ⟨x,hx⟩:∃ x,x=ts[k]:=⟨_,rfl⟩
  have hd:ts.drop k=x::ts.drop (k+1):=by rw [hx];exact dcq hk'
  have hg':=aO (f:=ap) (l:=ts) (k:=k) (x:=x) (by rw [gQq hk',hx])
  have e5:=Yk5 k
  have hcell:(ap x).cells.length=5:=rfl
  rw [hd] at hR
  unfold eo at hR
  have hag:∃ cs,ap x=.agg cs∧cs.length=5:=⟨_,rfl,rfl⟩
  obtain ⟨cs,hcs,hcl3⟩:=hag
  have hts:List.take 5 cs=cs:=ybc (by omega)
  simp only [go_sem,iNq,ybb,hg',hcs,hcl3,hts,tN]
  (repeat with_reducible refine Yq ?_)
  refine ⟨x,n,⟨hcs.symm,hg⟩,?_⟩
  try simp only [aj,go_sem]
  (repeat with_reducible refine Yq ?_)
  refine ah (fun hq=>?_) (fun hq=>?_)
  ·rw [if_pos hq] at hR
   subst hR
   simp only [go_sem]
   exact Z1
  ·rw [if_neg (by rw [hq];decide)] at hR
   simp only [go_sem,e5]
   refine ⟨k+1,⟨by omega,hR⟩,by omega,nrq _,lRq _,hcl,?_,?_⟩
   ·simp [ltF,znf,hm,hf]
   ·simp [aS,wk2,wk1,wkM,Fr.get]
 ·have hk':k=ts.length:=by simp at hc;omega
  subst hk'
  rw [List.drop_length] at hR
  unfold eo at hR
  subst hR
  simp only [go_sem]
  exact Z1
def ct:List AV→AHeap→(AV→Prop)→Prop
 |[.agg l,.int .i64 n],_,K=>∃ S:Sch,(l=aG S∧S.actions.length≤10000000000000)∧K (.int .i64 (eo (fun t:SAction=>t.id==n) S.actions 0))
 |_,_,_=>False
theorem rF:EntOk Tryz.prog 25 (Ent.pure ct):=by
 refine Ype fun _ H K h=>?_
 unfold ct at h
 split at h
 rotate_left
 ·exact h.elim
 rename_i l n
 obtain ⟨S,⟨rfl,hl⟩,hK⟩:=h
 refine ⟨_,hK,?_⟩
 clear hK
 refine ACalls.fW ak (tCq zr tNq) Tryz.func25 [.tmp 4] (nrq _) (T:=ag []) (h:=fun hcl hlt=>?_)
 clear hlt
 simp only [go_sem,aG,ol]
 (repeat with_reducible refine Yq ?_)
 refine ⟨S.actions,n,⟨rfl,by simp only [go_sem],hl⟩,?_⟩
 try simp only [aj,go_sem]
 exact Z1
def cw:List AV→AHeap→(AV→Prop)→Prop
 |[.agg l,.int .i64 n],_,K=>∃ S:Sch,(l=aG S∧SLenG S)∧K (.int .i64 (eo (fun t:SAction=>t.id==n) S.actions 0))
 |_,_,_=>False
theorem se:EntOk Tryz.prog 26 (Ent.pure cw):=by
 refine Ype fun _ H K h=>?_
 unfold cw at h
 split at h
 rotate_left
 ·exact h.elim
 rename_i l n
 obtain ⟨S,⟨rfl,hS⟩,hK⟩:=h
 refine ⟨_,hK,?_⟩
 clear hK
 refine ACalls.fW ak (tCq kE (tCq iM tNq)) Tryz.func26 [.tmp 4] (nrq _) (T:=ag []) (h:=fun hcl hlt=>?_)
 clear hlt
 simp only [go_sem,aG,jV]
 (repeat with_reducible refine Yq ?_)
 refine ⟨S,⟨rfl,hS⟩,?_⟩
 try simp only [aj,go_sem,lQ,sIG,gY]
 (repeat with_reducible refine Yq ?_)
 refine ⟨_,⟨rfl,by have h1:=hS.al;simpa using h1⟩,?_⟩
 rw [jD]
 try simp only [aj,go_sem]
 simp (disch:=first|exact Zd|omega) [↓zmo,beq,ybc,ybd,ybe,aa,wk,wk2,wk1,wkM,wkL,af,ybf,hcl]
 first|done|repeat first|exact .refl _|refine .push ?_ _
def tS:List AV→AHeap→(AV→Prop)→Prop
 |[x,.ptr c 0],H,K=>∃ t n,(x=aN t∧H.get c=some (.cells [.int .i64 n]))∧K (.bool (t.id==n))
 |_,_,_=>False
theorem FV:EntOk Tryz.prog 75 (Ent.pure tS):=by
 refine Ype fun _ H K h=>?_
 unfold tS at h
 split at h
 rotate_left
 ·exact h.elim
 rename_i x c
 obtain ⟨t,n,⟨rfl,hg⟩,hK⟩:=h
 refine ⟨_,hK,?_⟩
 clear hK
 unfold aN
 refine ACalls.fW ak tNq Tryz.func75 [.tmp 3] (nrq _) (T:=ag []) (h:=fun hcl hlt=>?_)
 clear hlt
 have hcs:=au hg
 have hl:=glq hg
 have hne:(c=H.nx)=False:=eq_false (by omega)
 simp only [go_sem,hcs,hne]
 (repeat with_reducible refine Yq ?_)
 exact Z1
def n7:List AV→AHeap→(AV→Prop)→Prop
 |[.slice _ 6 l,.func (.func 75) [] [.ptr c 0]],H,K=>∃ (ts:List SRole) (n:Int),(l=ts.map aN∧H.get c=some (.cells [.int .i64 n])∧ts.length≤10000000000000)∧K (.int .i64 (eo (fun t:SRole=>t.id==n) ts 0))
 |_,_,_=>False
theorem xT:EntOk Tryz.prog 74 (Ent.pure n7):=by
 refine Ype fun _ H K h=>?_
 unfold n7 at h
 split at h
 rotate_left
 ·exact h.elim
 rename_i m l c
 obtain ⟨ts,n,⟨rfl,hg,hl⟩,hK⟩:=h
 refine ⟨_,hK,?_⟩
 clear hK
 generalize hR:eo (fun t:SRole=>t.id==n) ts 0=R
 refine ACalls.fW ak (tCq FV tNq) Tryz.func74 [.tmp 4] (nrq _) (T:=ag []) (h:=fun hcl hlt=>?_)
 have hm:AV.lt H.nx (.slice m 6 (ts.map aN)):=hlt _ (by simp)
 have hf:AV.lt H.nx (.func (.func 75) [] [.ptr c 0]):=hlt _ (by simp)
 clear hlt
 simp only [go_sem,ybb]
 refine ay (A:=Nat) (fun k=>[(0,.slice m 6 (ts.map aN)),(1,.func (.func 75) [] [.ptr c 0]),(7,.int .i64 (ts.length:Int)),(8,.int .i64 (k:Int))]) (fun _=>H) (fun k=>k≤ts.length∧eo (fun t:SRole=>t.id==n) (ts.drop k) k=R) (fun k=>ts.length - k) 0 ⟨by omega,hR⟩ ?_ fun k hk=>?_
 ·refine ⟨nrq _,lRq _,hcl,?_,?_⟩
  ·simp [ltF,znf,hm,hf]
  ·simp [aS,wk2,wk1,wkM,Fr.get]
 clear hR
 obtain ⟨hk,hR⟩:=hk
 simp only [go_sem]
 refine ah (fun hc=>?_) (fun hc=>?_)
 ·have hk':k<ts.length:=by simp at hc;omega
  obtain ⟨x,hx⟩:∃ x,x=ts[k]:=⟨_,rfl⟩
  have hd:ts.drop k=x::ts.drop (k+1):=by rw [hx];exact dcq hk'
  have hg':=aO (f:=aN) (l:=ts) (k:=k) (x:=x) (by rw [gQq hk',hx])
  have e5:=Yk5 k
  have hcell:(aN x).cells.length=6:=rfl
  rw [hd] at hR
  unfold eo at hR
  have hag:∃ cs,aN x=.agg cs∧cs.length=6:=⟨_,rfl,rfl⟩
  obtain ⟨cs,hcs,hcl3⟩:=hag
  have hts:List.take 6 cs=cs:=ybc (by omega)
  simp only [go_sem,iNq,ybb,hg',hcs,hcl3,hts,tS]
  (repeat with_reducible refine Yq ?_)
  refine ⟨x,n,⟨hcs.symm,hg⟩,?_⟩
  try simp only [aj,go_sem]
  (repeat with_reducible refine Yq ?_)
  refine ah (fun hq=>?_) (fun hq=>?_)
  ·rw [if_pos hq] at hR
   subst hR
   simp only [go_sem]
   exact Z1
  ·rw [if_neg (by rw [hq];decide)] at hR
   simp only [go_sem,e5]
   refine ⟨k+1,⟨by omega,hR⟩,by omega,nrq _,lRq _,hcl,?_,?_⟩
   ·simp [ltF,znf,hm,hf]
   ·simp [aS,wk2,wk1,wkM,Fr.get]
 ·have hk':k=ts.length:=by simp at hc;omega
  subst hk'
  rw [List.drop_length] at hR
  unfold eo at hR
  subst hR
  simp only [go_sem]
  exact Z1
def dd:List AV→AHeap→(AV→Prop)→Prop
 |[.agg l,.int .i64 n],_,K=>∃ S:Sch,(l=aG S∧S.roles.length≤10000000000000)∧K (.int .i64 (eo (fun t:SRole=>t.id==n) S.roles 0))
 |_,_,_=>False
theorem wL:EntOk Tryz.prog 27 (Ent.pure dd):=by
 refine Ype fun _ H K h=>?_
 unfold dd at h
 split at h
 rotate_left
 ·exact h.elim
 rename_i l n
 obtain ⟨S,⟨rfl,hl⟩,hK⟩:=h
 refine ⟨_,hK,?_⟩
 clear hK
 refine ACalls.fW ak (tCq xT tNq) Tryz.func27 [.tmp 4] (nrq _) (T:=ag []) (h:=fun hcl hlt=>?_)
 clear hlt
 simp only [go_sem,aG,n7]
 (repeat with_reducible refine Yq ?_)
 refine ⟨S.roles,n,⟨rfl,by simp only [go_sem],hl⟩,?_⟩
 try simp only [aj,go_sem]
 exact Z1
def dc:List AV→AHeap→(AV→Prop)→Prop
 |[.agg l,.int .i64 n],_,K=>∃ S:Sch,(l=aG S∧SLenG S)∧K (.int .i64 (eo (fun t:SRole=>t.id==n) S.roles 0))
 |_,_,_=>False
theorem xF:EntOk Tryz.prog 28 (Ent.pure dc):=by
 refine Ype fun _ H K h=>?_
 unfold dc at h
 split at h
 rotate_left
 ·exact h.elim
 rename_i l n
 obtain ⟨S,⟨rfl,hS⟩,hK⟩:=h
 refine ⟨_,hK,?_⟩
 clear hK
 refine ACalls.fW ak (tCq kE (tCq iM tNq)) Tryz.func28 [.tmp 4] (nrq _) (T:=ag []) (h:=fun hcl hlt=>?_)
 clear hlt
 simp only [go_sem,aG,jV]
 (repeat with_reducible refine Yq ?_)
 refine ⟨S,⟨rfl,hS⟩,?_⟩
 try simp only [aj,go_sem,lQ,sIG,gY]
 (repeat with_reducible refine Yq ?_)
 refine ⟨_,⟨rfl,by have h1:=hS.rl;simpa using h1⟩,?_⟩
 rw [jD]
 try simp only [aj,go_sem]
 simp (disch:=first|exact Zd|omega) [↓zmo,beq,ybc,ybd,ybe,aa,wk,wk2,wk1,wkM,wkL,af,ybf,hcl]
 first|done|repeat first|exact .refl _|refine .push ?_ _
def tK:List AV→AHeap→(AV→Prop)→Prop
 |[x,.ptr c 0],H,K=>∃ t n,(x=az t∧H.get c=some (.cells [.int .i64 n]))∧K (.bool (t.id==n))
 |_,_,_=>False
theorem GQ:EntOk Tryz.prog 69 (Ent.pure tK):=by
 refine Ype fun _ H K h=>?_
 unfold tK at h
 split at h
 rotate_left
 ·exact h.elim
 rename_i x c
 obtain ⟨t,n,⟨rfl,hg⟩,hK⟩:=h
 refine ⟨_,hK,?_⟩
 clear hK
 unfold az
 refine ACalls.fW ak tNq Tryz.func69 [.tmp 3] (nrq _) (T:=ag []) (h:=fun hcl hlt=>?_)
 clear hlt
 have hcs:=au hg
 have hl:=glq hg
 have hne:(c=H.nx)=False:=eq_false (by omega)
 simp only [go_sem,hcs,hne]
 (repeat with_reducible refine Yq ?_)
 exact Z1
def oA:List AV→AHeap→(AV→Prop)→Prop
 |[.slice _ 3 l,.func (.func 69) [] [.ptr c 0]],H,K=>∃ (ts:List SHeader) (n:Int),(l=ts.map az∧H.get c=some (.cells [.int .i64 n])∧ts.length≤10000000000000)∧K (.int .i64 (eo (fun t:SHeader=>t.id==n) ts 0))
 |_,_,_=>False
theorem ye:EntOk Tryz.prog 68 (Ent.pure oA):=by
 refine Ype fun _ H K h=>?_
 unfold oA at h
 split at h
 rotate_left
 ·exact h.elim
 rename_i m l c
 obtain ⟨ts,n,⟨rfl,hg,hl⟩,hK⟩:=h
 refine ⟨_,hK,?_⟩
 clear hK
 generalize hR:eo (fun t:SHeader=>t.id==n) ts 0=R
 refine ACalls.fW ak (tCq GQ tNq) Tryz.func68 [.tmp 4] (nrq _) (T:=ag []) (h:=fun hcl hlt=>?_)
 have hm:AV.lt H.nx (.slice m 3 (ts.map az)):=hlt _ (by simp)
 have hf:AV.lt H.nx (.func (.func 69) [] [.ptr c 0]):=hlt _ (by simp)
 clear hlt
 simp only [go_sem,ybb]
 refine ay (A:=Nat) (fun k=>[(0,.slice m 3 (ts.map az)),(1,.func (.func 69) [] [.ptr c 0]),(7,.int .i64 (ts.length:Int)),(8,.int .i64 (k:Int))]) (fun _=>H) (fun k=>k≤ts.length∧eo (fun t:SHeader=>t.id==n) (ts.drop k) k=R) (fun k=>ts.length - k) 0 ⟨by omega,hR⟩ ?_ fun k hk=>?_
 ·refine ⟨nrq _,lRq _,hcl,?_,?_⟩
  ·simp [ltF,znf,hm,hf]
  ·simp [aS,wk2,wk1,wkM,Fr.get]
 clear hR
 obtain ⟨hk,hR⟩:=hk
 simp only [go_sem]
 refine ah (fun hc=>?_) (fun hc=>?_)
 ·have hk':k<ts.length:=by simp at hc;omega
  obtain ⟨x,hx⟩:∃ x,x=ts[k]:=⟨_,rfl⟩
  have hd:ts.drop k=x::ts.drop (k+1):=by rw [hx];exact dcq hk'
  have hg':=aO (f:=az) (l:=ts) (k:=k) (x:=x) (by rw [gQq hk',hx])
  have e5:=Yk5 k
  have hcell:(az x).cells.length=3:=rfl
  rw [hd] at hR
  unfold eo at hR
  have hag:∃ cs,az x=.agg cs∧cs.length=3:=⟨_,rfl,rfl⟩
  obtain ⟨cs,hcs,hcl3⟩:=hag
  have hts:List.take 3 cs=cs:=ybc (by omega)
  simp only [go_sem,iNq,ybb,hg',hcs,hcl3,hts,tK]
  (repeat with_reducible refine Yq ?_)
  refine ⟨x,n,⟨hcs.symm,hg⟩,?_⟩
  try simp only [aj,go_sem]
  (repeat with_reducible refine Yq ?_)
  refine ah (fun hq=>?_) (fun hq=>?_)
  ·rw [if_pos hq] at hR
   subst hR
   simp only [go_sem]
   exact Z1
  ·rw [if_neg (by rw [hq];decide)] at hR
   simp only [go_sem,e5]
   refine ⟨k+1,⟨by omega,hR⟩,by omega,nrq _,lRq _,hcl,?_,?_⟩
   ·simp [ltF,znf,hm,hf]
   ·simp [aS,wk2,wk1,wkM,Fr.get]
 ·have hk':k=ts.length:=by simp at hc;omega
  subst hk'
  rw [List.drop_length] at hR
  unfold eo at hR
  subst hR
  simp only [go_sem]
  exact Z1
def cq:List AV→AHeap→(AV→Prop)→Prop
 |[.agg l,.int .i64 n],_,K=>∃ S:Sch,(l=aG S∧S.headers.length≤10000000000000)∧K (.int .i64 (eo (fun t:SHeader=>t.id==n) S.headers 0))
 |_,_,_=>False
theorem rU:EntOk Tryz.prog 21 (Ent.pure cq):=by
 refine Ype fun _ H K h=>?_
 unfold cq at h
 split at h
 rotate_left
 ·exact h.elim
 rename_i l n
 obtain ⟨S,⟨rfl,hl⟩,hK⟩:=h
 refine ⟨_,hK,?_⟩
 clear hK
 refine ACalls.fW ak (tCq ye tNq) Tryz.func21 [.tmp 4] (nrq _) (T:=ag []) (h:=fun hcl hlt=>?_)
 clear hlt
 simp only [go_sem,aG,oA]
 (repeat with_reducible refine Yq ?_)
 refine ⟨S.headers,n,⟨rfl,by simp only [go_sem],hl⟩,?_⟩
 try simp only [aj,go_sem]
 exact Z1
def cu:List AV→AHeap→(AV→Prop)→Prop
 |[.agg l,.int .i64 n],_,K=>∃ S:Sch,(l=aG S∧SLenG S)∧K (.int .i64 (eo (fun t:SHeader=>t.id==n) S.headers 0))
 |_,_,_=>False
theorem rH:EntOk Tryz.prog 22 (Ent.pure cu):=by
 refine Ype fun _ H K h=>?_
 unfold cu at h
 split at h
 rotate_left
 ·exact h.elim
 rename_i l n
 obtain ⟨S,⟨rfl,hS⟩,hK⟩:=h
 refine ⟨_,hK,?_⟩
 clear hK
 refine ACalls.fW ak (tCq kE (tCq iM tNq)) Tryz.func22 [.tmp 4] (nrq _) (T:=ag []) (h:=fun hcl hlt=>?_)
 clear hlt
 simp only [go_sem,aG,jV]
 (repeat with_reducible refine Yq ?_)
 refine ⟨S,⟨rfl,hS⟩,?_⟩
 try simp only [aj,go_sem,lQ,sIG,gY]
 (repeat with_reducible refine Yq ?_)
 refine ⟨_,⟨rfl,by have h1:=hS.hl;simpa using h1⟩,?_⟩
 rw [jD]
 try simp only [aj,go_sem]
 simp (disch:=first|exact Zd|omega) [↓zmo,beq,ybc,ybd,ybe,aa,wk,wk2,wk1,wkM,wkL,af,ybf,hcl]
 first|done|repeat first|exact .refl _|refine .push ?_ _
def t5:List AV→AHeap→(AV→Prop)→Prop
 |[x,.ptr c 0],H,K=>∃ t n,(x=aH t∧H.get c=some (.cells [.int .i64 n]))∧K (.bool (t.id==n))
 |_,_,_=>False
theorem E4:EntOk Tryz.prog 71 (Ent.pure t5):=by
 refine Ype fun _ H K h=>?_
 unfold t5 at h
 split at h
 rotate_left
 ·exact h.elim
 rename_i x c
 obtain ⟨t,n,⟨rfl,hg⟩,hK⟩:=h
 refine ⟨_,hK,?_⟩
 clear hK
 unfold aH
 refine ACalls.fW ak tNq Tryz.func71 [.tmp 3] (nrq _) (T:=ag []) (h:=fun hcl hlt=>?_)
 clear hlt
 have hcs:=au hg
 have hl:=glq hg
 have hne:(c=H.nx)=False:=eq_false (by omega)
 simp only [go_sem,hcs,hne]
 (repeat with_reducible refine Yq ?_)
 exact Z1
def n6:List AV→AHeap→(AV→Prop)→Prop
 |[.slice _ 5 l,.func (.func 71) [] [.ptr c 0]],H,K=>∃ (ts:List SState) (n:Int),(l=ts.map aH∧H.get c=some (.cells [.int .i64 n])∧ts.length≤10000000000000)∧K (.int .i64 (eo (fun t:SState=>t.id==n) ts 0))
 |_,_,_=>False
theorem xN:EntOk Tryz.prog 70 (Ent.pure n6):=by
 refine Ype fun _ H K h=>?_
 unfold n6 at h
 split at h
 rotate_left
 ·exact h.elim
 rename_i m l c
 obtain ⟨ts,n,⟨rfl,hg,hl⟩,hK⟩:=h
 refine ⟨_,hK,?_⟩
 clear hK
 generalize hR:eo (fun t:SState=>t.id==n) ts 0=R
 refine ACalls.fW ak (tCq E4 tNq) Tryz.func70 [.tmp 4] (nrq _) (T:=ag []) (h:=fun hcl hlt=>?_)
 have hm:AV.lt H.nx (.slice m 5 (ts.map aH)):=hlt _ (by simp)
 have hf:AV.lt H.nx (.func (.func 71) [] [.ptr c 0]):=hlt _ (by simp)
 clear hlt
 simp only [go_sem,ybb]
 refine ay (A:=Nat) (fun k=>[(0,.slice m 5 (ts.map aH)),(1,.func (.func 71) [] [.ptr c 0]),(7,.int .i64 (ts.length:Int)),(8,.int .i64 (k:Int))]) (fun _=>H) (fun k=>k≤ts.length∧eo (fun t:SState=>t.id==n) (ts.drop k) k=R) (fun k=>ts.length - k) 0 ⟨by omega,hR⟩ ?_ fun k hk=>?_
 ·refine ⟨nrq _,lRq _,hcl,?_,?_⟩
  ·simp [ltF,znf,hm,hf]
  ·simp [aS,wk2,wk1,wkM,Fr.get]
 clear hR
 obtain ⟨hk,hR⟩:=hk
 simp only [go_sem]
 refine ah (fun hc=>?_) (fun hc=>?_)
 ·have hk':k<ts.length:=by simp at hc;omega
  obtain ⟨x,hx⟩:∃ x,x=ts[k]:=⟨_,rfl⟩
  have hd:ts.drop k=x::ts.drop (k+1):=by rw [hx];exact dcq hk'
  have hg':=aO (f:=aH) (l:=ts) (k:=k) (x:=x) (by rw [gQq hk',hx])
  have e5:=Yk5 k
  have hcell:(aH x).cells.length=5:=rfl
  rw [hd] at hR
  unfold eo at hR
  have hag:∃ cs,aH x=.agg cs∧cs.length=5:=⟨_,rfl,rfl⟩
  obtain ⟨cs,hcs,hcl3⟩:=hag
  have hts:List.take 5 cs=cs:=ybc (by omega)
  simp only [go_sem,iNq,ybb,hg',hcs,hcl3,hts,t5]
  (repeat with_reducible refine Yq ?_)
  refine ⟨x,n,⟨hcs.symm,hg⟩,?_⟩
  try simp only [aj,go_sem]
  (repeat with_reducible refine Yq ?_)
  refine ah (fun hq=>?_) (fun hq=>?_)
  ·rw [if_pos hq] at hR
   subst hR
   simp only [go_sem]
   exact Z1
  ·rw [if_neg (by rw [hq];decide)] at hR
   simp only [go_sem,e5]
   refine ⟨k+1,⟨by omega,hR⟩,by omega,nrq _,lRq _,hcl,?_,?_⟩
   ·simp [ltF,znf,hm,hf]
   ·simp [aS,wk2,wk1,wkM,Fr.get]
 ·have hk':k=ts.length:=by simp at hc;omega
  subst hk'
  rw [List.drop_length] at hR
  unfold eo at hR
  subst hR
  simp only [go_sem]
  exact Z1
def cP:List AV→AHeap→(AV→Prop)→Prop
 |[.agg l,.int .i64 n],_,K=>∃ S:Sch,(l=aG S∧S.states.length≤10000000000000)∧K (.int .i64 (eo (fun t:SState=>t.id==n) S.states 0))
 |_,_,_=>False
theorem uo:EntOk Tryz.prog 23 (Ent.pure cP):=by
 refine Ype fun _ H K h=>?_
 unfold cP at h
 split at h
 rotate_left
 ·exact h.elim
 rename_i l n
 obtain ⟨S,⟨rfl,hl⟩,hK⟩:=h
 refine ⟨_,hK,?_⟩
 clear hK
 refine ACalls.fW ak (tCq xN tNq) Tryz.func23 [.tmp 4] (nrq _) (T:=ag []) (h:=fun hcl hlt=>?_)
 clear hlt
 simp only [go_sem,aG,n6]
 (repeat with_reducible refine Yq ?_)
 refine ⟨S.states,n,⟨rfl,by simp only [go_sem],hl⟩,?_⟩
 try simp only [aj,go_sem]
 exact Z1
def cM:List AV→AHeap→(AV→Prop)→Prop
 |[.agg l,.int .i64 n],_,K=>∃ S:Sch,(l=aG S∧SLenG S)∧K (.int .i64 (eo (fun t:SState=>t.id==n) S.states 0))
 |_,_,_=>False
theorem tX:EntOk Tryz.prog 24 (Ent.pure cM):=by
 refine Ype fun _ H K h=>?_
 unfold cM at h
 split at h
 rotate_left
 ·exact h.elim
 rename_i l n
 obtain ⟨S,⟨rfl,hS⟩,hK⟩:=h
 refine ⟨_,hK,?_⟩
 clear hK
 refine ACalls.fW ak (tCq kE (tCq iM tNq)) Tryz.func24 [.tmp 4] (nrq _) (T:=ag []) (h:=fun hcl hlt=>?_)
 clear hlt
 simp only [go_sem,aG,jV]
 (repeat with_reducible refine Yq ?_)
 refine ⟨S,⟨rfl,hS⟩,?_⟩
 try simp only [aj,go_sem,lQ,sIG,gY]
 (repeat with_reducible refine Yq ?_)
 refine ⟨_,⟨rfl,by have h1:=hS.sl;simpa using h1⟩,?_⟩
 rw [jD]
 try simp only [aj,go_sem]
 simp (disch:=first|exact Zd|omega) [↓zmo,beq,ybc,ybd,ybe,aa,wk,wk2,wk1,wkM,wkL,af,ybf,hcl]
 first|done|repeat first|exact .refl _|refine .push ?_ _
end Go.AL
