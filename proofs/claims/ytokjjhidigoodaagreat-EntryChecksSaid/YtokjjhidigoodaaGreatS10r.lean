/- Lemmas of the proof; no condition. -/
import Derived.Test.YtokjjhidigoodaaGreatS10n
set_option linter.all false
set_option maxRecDepth 10000
open List renaming length_cons → yaz, length_nil → yba, take_zero → yar, map_nil → yaf, nil_append → yak, take_succ_cons → yaq, drop_succ_cons → yao, drop_zero → yap, length_map → ybb, cons_append → yal, take_of_length_le → ybc, drop_append → ybd, take_append → ybe, drop_eq_nil_of_le → ybf
open Go Go.AL Go.Proofs
namespace Go.AL
theorem LR:ti Tryz.prog 136=some ⟨.array 6 56,6,144,.agg [.slice .nil 1 [],.slice .nil 1 [],.slice .nil 1 [],.slice .nil 1 [],.slice .nil 1 [],.slice .nil 1 []]⟩:=by kernel_rfl
attribute [go_sem] LR
theorem AC {l:List Int}:(inL l).length=l.length:=by simp [inL]
def sI (l:List Int):AV:=.slice .any 1 (inL l)
theorem gO {n:Nat} {l:List Int}:AV.lt n (sI l):=mv
theorem Jq:∀ l:List Int,uF (inL l) (inL l)
 |[]=>by simp [inL,cP]
 |x::l=>by
  have:=Jq l
  unfold inL at this ⊢
  simp [fu,AV.cells,cx,cQ,jg,this]
theorem jC {m:Mark} {l:List Int}:wkD (.slice m 1 (inL l)) (sI l):=by
 unfold sI
 rw [cw]
 exact .inl ⟨.inl rfl,rfl,Jq l⟩
theorem pq {n:Nat} {l:List Int}:ltL n (inL l):=ltL_iff.2 fun j hj=>by
 simp [inL,znb]
theorem jS {H:AHeap} {c cs:List AV} {x y z:AObj} (h:((((H.push (.cells c)).push x).push y).push z).Closed) (hl:ltL (H.nx+1+1+1+1) cs):((((H.push (.cells cs)).push x).push y).push z).Closed:=by
 have h1:((((H.push (.cells c)).push x).push y).push z).set H.nx (.cells cs)=(((H.push (.cells cs)).push x).push y).push z:=by
  simp only [zle,zla]
  rw [if_neg (by omega),if_neg (by omega),if_neg (by omega),if_pos trivial]
 rw [← h1]
 exact ai h (by simpa only [zla] using hl)
structure SLen (S:Sch):Prop where
 fl:S.fields.length≤1000000
 hl:S.headers.length≤1000000
 sl:S.states.length≤1000000
 al:S.actions.length≤1000000
 tl:S.tables.length≤1000000
 rl:S.roles.length≤1000000
def A5 (S:Sch):AV:=.agg [sI (S.fields.map (·.id)),sI (S.headers.map (·.id)),sI (S.states.map (·.id)),sI (S.actions.map (·.id)),sI (S.tables.map (·.id)),sI (S.roles.map (·.id))]
def v3:List AV→AHeap→(AV→Prop)→Prop
 |[.agg l],_,K=>∃ S:Sch,(l=bv S∧SLen S)∧K (A5 S)
 |_,_,_=>False
set_option maxHeartbeats 8000000 in
theorem zi:EntOk Tryz.prog 83 (Ent.pure v3):=by
 refine Ype fun _ H K h=>?_
 unfold v3 at h
 split at h
 rotate_left
 ·exact h.elim
 rename_i l
 obtain ⟨S,⟨rfl,h1,h2,h3,h4,h5,h6⟩,hK⟩:=h
 refine ⟨_,hK,?_⟩
 clear hK
 refine ACalls.fW ax tNq Tryz.func83 [.cell 2 136] (nrq _) (T:=av [(7,[[1,1]]),(12,[[1,1]]),(17,[[1,1]]),(22,[[1,1]]),(27,[[1,1]]),(32,[[1,1]])]) (h:=fun hcl hlt=>?_)
 clear hlt
 have nl:([.slice .nil 1 [],.slice .nil 1 [],.slice .nil 1 [],.slice .nil 1 [],.slice .nil 1 [],.slice .nil 1 []]:List AV).length=6:=rfl
 obtain ⟨HB,hHB⟩:∃ HB,(H.push (.cells (bv S))).push (.cells [.slice .nil 1 [],.slice .nil 1 [],.slice .nil 1 [],.slice .nil 1 [],.slice .nil 1 [],.slice .nil 1 []])=HB:=⟨_,rfl⟩
 have hclB:HB.Closed:=by
  rw [← hHB]
  refine ae (ae hcl (ltL_iff.2 fun j hj=>AV.lt_cells (tf S) j hj)) ?_
  simp [znq,znr,aS]
 have hnB:HB.nx=H.nx+1+1:=by rw [← hHB];rfl
 simp only [go_sem,bv]
 obtain ⟨C0,hC0⟩:∃ C0:List AV,C0=(match S.fields with|x::_=>(bX x).cells|[]=>[]):=⟨_,rfl⟩
 have hC0l:∀ m,ltL m C0:=by
  rw [hC0]
  intro m
  cases S.fields with
  |nil=>rw [znr];trivial
  |cons x _=>exact ltL_iff.2 fun j hj=>AV.lt_cells (ls x) j hj
 obtain ⟨HL,hHL⟩:∃ HL:Nat→AHeap,HL=fun k=>if k=0 then HB.push (.cells [.slice .nil 1 [],.slice .nil 1 [],.slice .nil 1 [],.slice .nil 1 [],.slice .nil 1 [],.slice .nil 1 []]) else (((HB.push (.cells [.slice (.own (H.nx+1+1+1+1+1)) 1 (inL ((S.fields.take k).map (·.id))),.slice .nil 1 [],.slice .nil 1 [],.slice .nil 1 [],.slice .nil 1 [],.slice .nil 1 []])).push (.cells C0)).push (.buf 1 1)).push (.buf 1 k):=⟨_,rfl⟩
 have hL0:HL 0=HB.push (.cells [.slice .nil 1 [],.slice .nil 1 [],.slice .nil 1 [],.slice .nil 1 [],.slice .nil 1 [],.slice .nil 1 []]):=by rw [hHL];rfl
 have hLk:∀ k,k≠0→HL k=(((HB.push (.cells [.slice (.own (H.nx+1+1+1+1+1)) 1 (inL ((S.fields.take k).map (·.id))),.slice .nil 1 [],.slice .nil 1 [],.slice .nil 1 [],.slice .nil 1 [],.slice .nil 1 []])).push (.cells C0)).push (.buf 1 1)).push (.buf 1 k):=fun k h=>by rw [hHL];exact if_neg h
 have hclL:∀ k,(HL k).Closed:=fun k=>by
  by_cases h:k=0
  ·exact Y86
  ·rw [hLk k h]
   refine jS (c:=[.slice .nil 1 [],.slice .nil 1 [],.slice .nil 1 [],.slice .nil 1 [],.slice .nil 1 [],.slice .nil 1 []]) (ag (ag (ae (ae hclB (by simp [znq,znr,aS,gO])) (hC0l _)))) ?_
   exact Y144
 have hnL:∀ k,H.nx+1+1+1≤(HL k).nx:=fun k=>by
  exact Y49
 apply lk (α:=Unit) (fun _=>[(1,.ptr H.nx 0),(2,.ptr (H.nx+1) 0),(3,.ptr (H.nx+1+1) 0)]) (fun _=>HB.push (.cells [sI (S.fields.map (·.id)),.slice .nil 1 [],.slice .nil 1 [],.slice .nil 1 [],.slice .nil 1 [],.slice .nil 1 []])) (fun _=>True)
 ·intro J
  refine az (A:=Nat) (fun k=>[(1,.ptr H.nx 0),(2,.ptr (H.nx+1) 0),(3,.ptr (H.nx+1+1) 0),(17,.slice .any 3 (S.fields.map bX)),(18,.int .i64 (S.fields.length:Int)),(19,.int .i64 (k:Int))]) HL (fun k=>k≤S.fields.length) (fun k=>S.fields.length - k) 0 (by omega) ?_ fun k hk=>?_
  ·rw [hL0,← hHB]
   refine ⟨by simp only [zla,zkm,zkr];omega,lRq _,by have:=hclL 0;rw [hL0,← hHB] at this;exact this,?_,?_⟩
   ·simp [ltF,zla,znj,znb,bw ls]
    try omega
   ·exact Y10
  simp only [go_sem]
  refine au (fun hc=>?_) (fun hc=>?_)
  ·have hk':k<S.fields.length:=by simp at hc;omega
   obtain ⟨x,hx⟩:∃ x,x=S.fields[k]:=⟨_,rfl⟩
   have hxg:=bC (f:=bX) (l:=S.fields) (k:=k) (x:=x) (by rw [gQq hk',hx])
   have e5:=Yk5 k
   have htk:S.fields.take (k+1)=S.fields.take k++[x]:=by rw [hx,List.take_succ_eq_append_getElem hk']
   have hil:inL ((S.fields.take k).map (·.id))++[.int .i64 x.id]=inL ((S.fields.take (k+1)).map (·.id)):=by rw [htk];simp [inL]
   have hll:(inL ((S.fields.take k).map (·.id))).length=k:=by simp [inL];omega
   by_cases h0:k=0
   ·subst h0
    have hC1:C0=(bX x).cells:=by
     rw [hC0]
     cases hq:S.fields with
     |nil=>rw [hq] at hk';exact absurd hk' (by simp)
     |cons y ys=>dsimp only;rw [hx];simp only [hq,List.getElem_cons_zero]
    simp only [bX,AV.cells] at hC1
    have hcl1:=hclL 1
    rw [hLk 1 (by decide),← hHB,hC1,← hil] at hcl1
    simp only [yar,yaf,inL,yak,bv] at hcl1
    rw [hL0,← hHB]
    simp only [bp,aM,bhq,Nat.reduceMod,Nat.reduceDiv,aD,aE,aF,bf,aG,bc,aZ,bb,a9,yaq,yar,yao,yap,go_sem,bv,iNq,ybb,hxg,bX,yal,yak,e5]
    refine ⟨⟨by omega,by omega⟩,⟨by omega,by omega⟩,fun z hz=>by rw [List.mem_singleton.1 hz];rfl,⟨by omega,by omega⟩,1,by omega,by omega,?_⟩
    rw [hLk 1 (by decide),← hHB,hC1,← hil]
    simp only [yar,yaf,inL,yak,bv]
    refine ⟨by simp only [zla];omega,by repeat first|exact .refl _|refine .push ?_ _,hcl1,?_,?_⟩
    ·simp [ltF,zla,znj,znb,bw ls]
     try omega
    ·exact Y10
   ·have hcl1:=hclL (k+1)
    rw [hLk (k+1) (by omega),← hHB,← hil] at hcl1
    simp only [bv] at hcl1
    rw [hLk k h0,← hHB]
    simp only [bp,aM,bhq,Nat.reduceMod,Nat.reduceDiv,aD,aE,aF,bf,aG,bc,aZ,bb,a9,yaq,yar,yao,yap,go_sem,bv,iNq,ybb,hxg,bX,yal,yak,e5]
    refine ⟨⟨by omega,by omega⟩,⟨by omega,by omega⟩,⟨by rw [hll],by rw [hll];omega,by rw [hll];omega,fun z hz=>by rw [List.mem_singleton.1 hz];rfl⟩,⟨by omega,by omega⟩,k+1,by omega,by omega,?_⟩
    rw [hLk (k+1) (by omega),← hHB,← hil,hll]
    simp only [bv]
    refine ⟨by simp only [zla];omega,by repeat first|exact .refl _|refine .push ?_ _,hcl1,?_,?_⟩
    ·simp [ltF,zla,znj,znb,bw ls]
     try omega
    ·exact Y10
  ·have hk':k=S.fields.length:=by simp at hc;omega
   have hcl1:(HB.push (.cells [sI (S.fields.map (·.id)),.slice .nil 1 [],.slice .nil 1 [],.slice .nil 1 [],.slice .nil 1 [],.slice .nil 1 []])).Closed:=ae hclB (by simp [znq,znr,aS,gO])
   rw [← hHB] at hcl1
   by_cases h0:k=0
   ·subst h0
    have hnl:S.fields=[]:=List.length_eq_zero_iff.1 hk'.symm
    rw [hL0,← hHB]
    simp only [go_sem]
    refine fO (H.nx+1+1) [sI (S.fields.map (·.id)),.slice .nil 1 [],.slice .nil 1 [],.slice .nil 1 [],.slice .nil 1 [],.slice .nil 1 []] (cs:=[.slice .nil 1 [],.slice .nil 1 [],.slice .nil 1 [],.slice .nil 1 [],.slice .nil 1 [],.slice .nil 1 []]) (by simp only [go_sem]) ?_ ?_
    ·exact Y21
    simp only [go_sem]
    exact Y4
   ·rw [hLk k h0,← hHB]
    simp only [go_sem]
    refine fO (H.nx+1+1) [sI (S.fields.map (·.id)),.slice .nil 1 [],.slice .nil 1 [],.slice .nil 1 [],.slice .nil 1 [],.slice .nil 1 []] (cs:=[.slice (.own (H.nx+1+1+1+1+1)) 1 (inL ((S.fields.take k).map (·.id))),.slice .nil 1 [],.slice .nil 1 [],.slice .nil 1 [],.slice .nil 1 [],.slice .nil 1 []]) (by simp only [go_sem]) ?_ ?_
    ·exact Y22
    simp only [go_sem]
    exact Y4
 ·intro _ _
  dsimp only
  rw [← hHB]
  simp only [bp,aM,bhq,Nat.reduceMod,Nat.reduceDiv,aD,aE,aF,bf,aG,bc,aZ,bb,a9,yaq,yar,yao,yap,go_sem,bv]
  obtain ⟨C0,hC0⟩:∃ C0:List AV,C0=(match S.headers with|x::_=>(dX x).cells|[]=>[]):=⟨_,rfl⟩
  have hC0l:∀ m,ltL m C0:=by
   rw [hC0]
   intro m
   cases S.headers with
   |nil=>rw [znr];trivial
   |cons x _=>exact ltL_iff.2 fun j hj=>AV.lt_cells (mO x) j hj
  obtain ⟨HL,hHL⟩:∃ HL:Nat→AHeap,HL=fun k=>if k=0 then HB.push (.cells [sI (S.fields.map (·.id)),.slice .nil 1 [],.slice .nil 1 [],.slice .nil 1 [],.slice .nil 1 [],.slice .nil 1 []]) else (((HB.push (.cells [sI (S.fields.map (·.id)),.slice (.own (H.nx+1+1+1+1+1)) 1 (inL ((S.headers.take k).map (·.id))),.slice .nil 1 [],.slice .nil 1 [],.slice .nil 1 [],.slice .nil 1 []])).push (.cells C0)).push (.buf 1 1)).push (.buf 1 k):=⟨_,rfl⟩
  have hL0:HL 0=HB.push (.cells [sI (S.fields.map (·.id)),.slice .nil 1 [],.slice .nil 1 [],.slice .nil 1 [],.slice .nil 1 [],.slice .nil 1 []]):=by rw [hHL];rfl
  have hLk:∀ k,k≠0→HL k=(((HB.push (.cells [sI (S.fields.map (·.id)),.slice (.own (H.nx+1+1+1+1+1)) 1 (inL ((S.headers.take k).map (·.id))),.slice .nil 1 [],.slice .nil 1 [],.slice .nil 1 [],.slice .nil 1 []])).push (.cells C0)).push (.buf 1 1)).push (.buf 1 k):=fun k h=>by rw [hHL];exact if_neg h
  have hclL:∀ k,(HL k).Closed:=fun k=>by
   by_cases h:k=0
   ·exact Y86
   ·rw [hLk k h]
    refine jS (c:=[sI (S.fields.map (·.id)),.slice .nil 1 [],.slice .nil 1 [],.slice .nil 1 [],.slice .nil 1 [],.slice .nil 1 []]) (ag (ag (ae (ae hclB (by simp [znq,znr,aS,gO])) (hC0l _)))) ?_
    exact Y144
  have hnL:∀ k,H.nx+1+1+1≤(HL k).nx:=fun k=>by
   exact Y49
  apply lk (α:=Unit) (fun _=>[(1,.ptr H.nx 0),(2,.ptr (H.nx+1) 0),(3,.ptr (H.nx+1+1) 0)]) (fun _=>HB.push (.cells [sI (S.fields.map (·.id)),sI (S.headers.map (·.id)),.slice .nil 1 [],.slice .nil 1 [],.slice .nil 1 [],.slice .nil 1 []])) (fun _=>True)
  ·intro J
   refine az (A:=Nat) (fun k=>[(1,.ptr H.nx 0),(2,.ptr (H.nx+1) 0),(3,.ptr (H.nx+1+1) 0),(32,.slice .any 3 (S.headers.map dX)),(33,.int .i64 (S.headers.length:Int)),(34,.int .i64 (k:Int))]) HL (fun k=>k≤S.headers.length) (fun k=>S.headers.length - k) 0 (by omega) ?_ fun k hk=>?_
   ·rw [hL0,← hHB]
    refine ⟨by simp only [zla,zkm,zkr];omega,lRq _,by have:=hclL 0;rw [hL0,← hHB] at this;exact this,?_,?_⟩
    ·simp [ltF,zla,znj,znb,bw mO]
     try omega
    ·exact Y10
   simp only [go_sem]
   refine au (fun hc=>?_) (fun hc=>?_)
   ·have hk':k<S.headers.length:=by simp at hc;omega
    obtain ⟨x,hx⟩:∃ x,x=S.headers[k]:=⟨_,rfl⟩
    have hxg:=bC (f:=dX) (l:=S.headers) (k:=k) (x:=x) (by rw [gQq hk',hx])
    have e5:=Yk5 k
    have htk:S.headers.take (k+1)=S.headers.take k++[x]:=by rw [hx,List.take_succ_eq_append_getElem hk']
    have hil:inL ((S.headers.take k).map (·.id))++[.int .i64 x.id]=inL ((S.headers.take (k+1)).map (·.id)):=by rw [htk];simp [inL]
    have hll:(inL ((S.headers.take k).map (·.id))).length=k:=by simp [inL];omega
    by_cases h0:k=0
    ·subst h0
     have hC1:C0=(dX x).cells:=by
      rw [hC0]
      cases hq:S.headers with
      |nil=>rw [hq] at hk';exact absurd hk' (by simp)
      |cons y ys=>dsimp only;rw [hx];simp only [hq,List.getElem_cons_zero]
     simp only [dX,AV.cells] at hC1
     have hcl1:=hclL 1
     rw [hLk 1 (by decide),← hHB,hC1,← hil] at hcl1
     simp only [yar,yaf,inL,yak,bv] at hcl1
     rw [hL0,← hHB]
     simp only [bp,aM,bhq,Nat.reduceMod,Nat.reduceDiv,aD,aE,aF,bf,aG,bc,aZ,bb,a9,yaq,yar,yao,yap,go_sem,bv,iNq,ybb,hxg,dX,yal,yak,e5]
     refine ⟨⟨by omega,by omega⟩,⟨by omega,by omega⟩,fun z hz=>by rw [List.mem_singleton.1 hz];rfl,⟨by omega,by omega⟩,1,by omega,by omega,?_⟩
     rw [hLk 1 (by decide),← hHB,hC1,← hil]
     simp only [yar,yaf,inL,yak,bv]
     refine ⟨by simp only [zla];omega,by repeat first|exact .refl _|refine .push ?_ _,hcl1,?_,?_⟩
     ·simp [ltF,zla,znj,znb,bw mO]
      try omega
     ·exact Y10
    ·have hcl1:=hclL (k+1)
     rw [hLk (k+1) (by omega),← hHB,← hil] at hcl1
     simp only [bv] at hcl1
     rw [hLk k h0,← hHB]
     simp only [bp,aM,bhq,Nat.reduceMod,Nat.reduceDiv,aD,aE,aF,bf,aG,bc,aZ,bb,a9,yaq,yar,yao,yap,go_sem,bv,iNq,ybb,hxg,dX,yal,yak,e5]
     refine ⟨⟨by omega,by omega⟩,⟨by omega,by omega⟩,⟨by rw [hll],by rw [hll];omega,by rw [hll];omega,fun z hz=>by rw [List.mem_singleton.1 hz];rfl⟩,⟨by omega,by omega⟩,k+1,by omega,by omega,?_⟩
     rw [hLk (k+1) (by omega),← hHB,← hil,hll]
     simp only [bv]
     refine ⟨by simp only [zla];omega,by repeat first|exact .refl _|refine .push ?_ _,hcl1,?_,?_⟩
     ·simp [ltF,zla,znj,znb,bw mO]
      try omega
     ·exact Y10
   ·have hk':k=S.headers.length:=by simp at hc;omega
    have hcl1:(HB.push (.cells [sI (S.fields.map (·.id)),sI (S.headers.map (·.id)),.slice .nil 1 [],.slice .nil 1 [],.slice .nil 1 [],.slice .nil 1 []])).Closed:=ae hclB (by simp [znq,znr,aS,gO])
    rw [← hHB] at hcl1
    by_cases h0:k=0
    ·subst h0
     have hnl:S.headers=[]:=List.length_eq_zero_iff.1 hk'.symm
     rw [hL0,← hHB]
     simp only [go_sem]
     refine fO (H.nx+1+1) [sI (S.fields.map (·.id)),sI (S.headers.map (·.id)),.slice .nil 1 [],.slice .nil 1 [],.slice .nil 1 [],.slice .nil 1 []] (cs:=[sI (S.fields.map (·.id)),.slice .nil 1 [],.slice .nil 1 [],.slice .nil 1 [],.slice .nil 1 [],.slice .nil 1 []]) (by simp only [go_sem]) ?_ ?_
     ·exact Y21
     simp only [go_sem]
     exact Y4
    ·rw [hLk k h0,← hHB]
     simp only [go_sem]
     refine fO (H.nx+1+1) [sI (S.fields.map (·.id)),sI (S.headers.map (·.id)),.slice .nil 1 [],.slice .nil 1 [],.slice .nil 1 [],.slice .nil 1 []] (cs:=[sI (S.fields.map (·.id)),.slice (.own (H.nx+1+1+1+1+1)) 1 (inL ((S.headers.take k).map (·.id))),.slice .nil 1 [],.slice .nil 1 [],.slice .nil 1 [],.slice .nil 1 []]) (by simp only [go_sem]) ?_ ?_
     ·exact Y22
     simp only [go_sem]
     exact Y4
  ·intro _ _
   dsimp only
   rw [← hHB]
   simp only [bp,aM,bhq,Nat.reduceMod,Nat.reduceDiv,aD,aE,aF,bf,aG,bc,aZ,bb,a9,yaq,yar,yao,yap,go_sem,bv]
   obtain ⟨C0,hC0⟩:∃ C0:List AV,C0=(match S.states with|x::_=>(cS x).cells|[]=>[]):=⟨_,rfl⟩
   have hC0l:∀ m,ltL m C0:=by
    rw [hC0]
    intro m
    cases S.states with
    |nil=>rw [znr];trivial
    |cons x _=>exact ltL_iff.2 fun j hj=>AV.lt_cells (fU x) j hj
   obtain ⟨HL,hHL⟩:∃ HL:Nat→AHeap,HL=fun k=>if k=0 then HB.push (.cells [sI (S.fields.map (·.id)),sI (S.headers.map (·.id)),.slice .nil 1 [],.slice .nil 1 [],.slice .nil 1 [],.slice .nil 1 []]) else (((HB.push (.cells [sI (S.fields.map (·.id)),sI (S.headers.map (·.id)),.slice (.own (H.nx+1+1+1+1+1)) 1 (inL ((S.states.take k).map (·.id))),.slice .nil 1 [],.slice .nil 1 [],.slice .nil 1 []])).push (.cells C0)).push (.buf 1 1)).push (.buf 1 k):=⟨_,rfl⟩
   have hL0:HL 0=HB.push (.cells [sI (S.fields.map (·.id)),sI (S.headers.map (·.id)),.slice .nil 1 [],.slice .nil 1 [],.slice .nil 1 [],.slice .nil 1 []]):=by rw [hHL];rfl
   have hLk:∀ k,k≠0→HL k=(((HB.push (.cells [sI (S.fields.map (·.id)),sI (S.headers.map (·.id)),.slice (.own (H.nx+1+1+1+1+1)) 1 (inL ((S.states.take k).map (·.id))),.slice .nil 1 [],.slice .nil 1 [],.slice .nil 1 []])).push (.cells C0)).push (.buf 1 1)).push (.buf 1 k):=fun k h=>by rw [hHL];exact if_neg h
   have hclL:∀ k,(HL k).Closed:=fun k=>by
    by_cases h:k=0
    ·exact Y86
    ·rw [hLk k h]
     refine jS (c:=[sI (S.fields.map (·.id)),sI (S.headers.map (·.id)),.slice .nil 1 [],.slice .nil 1 [],.slice .nil 1 [],.slice .nil 1 []]) (ag (ag (ae (ae hclB (by simp [znq,znr,aS,gO])) (hC0l _)))) ?_
     exact Y144
   have hnL:∀ k,H.nx+1+1+1≤(HL k).nx:=fun k=>by
    exact Y49
   apply lk (α:=Unit) (fun _=>[(1,.ptr H.nx 0),(2,.ptr (H.nx+1) 0),(3,.ptr (H.nx+1+1) 0)]) (fun _=>HB.push (.cells [sI (S.fields.map (·.id)),sI (S.headers.map (·.id)),sI (S.states.map (·.id)),.slice .nil 1 [],.slice .nil 1 [],.slice .nil 1 []])) (fun _=>True)
   ·intro J
    refine az (A:=Nat) (fun k=>[(1,.ptr H.nx 0),(2,.ptr (H.nx+1) 0),(3,.ptr (H.nx+1+1) 0),(47,.slice .any 5 (S.states.map cS)),(48,.int .i64 (S.states.length:Int)),(49,.int .i64 (k:Int))]) HL (fun k=>k≤S.states.length) (fun k=>S.states.length - k) 0 (by omega) ?_ fun k hk=>?_
    ·rw [hL0,← hHB]
     refine ⟨by simp only [zla,zkm,zkr];omega,lRq _,by have:=hclL 0;rw [hL0,← hHB] at this;exact this,?_,?_⟩
     ·simp [ltF,zla,znj,znb,bw fU]
      try omega
     ·exact Y10
    simp only [go_sem]
    refine au (fun hc=>?_) (fun hc=>?_)
    ·have hk':k<S.states.length:=by simp at hc;omega
     obtain ⟨x,hx⟩:∃ x,x=S.states[k]:=⟨_,rfl⟩
     have hxg:=bC (f:=cS) (l:=S.states) (k:=k) (x:=x) (by rw [gQq hk',hx])
     have e5:=Yk5 k
     have htk:S.states.take (k+1)=S.states.take k++[x]:=by rw [hx,List.take_succ_eq_append_getElem hk']
     have hil:inL ((S.states.take k).map (·.id))++[.int .i64 x.id]=inL ((S.states.take (k+1)).map (·.id)):=by rw [htk];simp [inL]
     have hll:(inL ((S.states.take k).map (·.id))).length=k:=by simp [inL];omega
     by_cases h0:k=0
     ·subst h0
      have hC1:C0=(cS x).cells:=by
       rw [hC0]
       cases hq:S.states with
       |nil=>rw [hq] at hk';exact absurd hk' (by simp)
       |cons y ys=>dsimp only;rw [hx];simp only [hq,List.getElem_cons_zero]
      simp only [cS,AV.cells] at hC1
      have hcl1:=hclL 1
      rw [hLk 1 (by decide),← hHB,hC1,← hil] at hcl1
      simp only [yar,yaf,inL,yak,bv] at hcl1
      rw [hL0,← hHB]
      simp only [bp,aM,bhq,Nat.reduceMod,Nat.reduceDiv,aD,aE,aF,bf,aG,bc,aZ,bb,a9,yaq,yar,yao,yap,go_sem,bv,iNq,ybb,hxg,cS,yal,yak,e5]
      refine ⟨⟨by omega,by omega⟩,⟨by omega,by omega⟩,fun z hz=>by rw [List.mem_singleton.1 hz];rfl,⟨by omega,by omega⟩,1,by omega,by omega,?_⟩
      rw [hLk 1 (by decide),← hHB,hC1,← hil]
      simp only [yar,yaf,inL,yak,bv]
      refine ⟨by simp only [zla];omega,by repeat first|exact .refl _|refine .push ?_ _,hcl1,?_,?_⟩
      ·simp [ltF,zla,znj,znb,bw fU]
       try omega
      ·exact Y10
     ·have hcl1:=hclL (k+1)
      rw [hLk (k+1) (by omega),← hHB,← hil] at hcl1
      simp only [bv] at hcl1
      rw [hLk k h0,← hHB]
      simp only [bp,aM,bhq,Nat.reduceMod,Nat.reduceDiv,aD,aE,aF,bf,aG,bc,aZ,bb,a9,yaq,yar,yao,yap,go_sem,bv,iNq,ybb,hxg,cS,yal,yak,e5]
      refine ⟨⟨by omega,by omega⟩,⟨by omega,by omega⟩,⟨by rw [hll],by rw [hll];omega,by rw [hll];omega,fun z hz=>by rw [List.mem_singleton.1 hz];rfl⟩,⟨by omega,by omega⟩,k+1,by omega,by omega,?_⟩
      rw [hLk (k+1) (by omega),← hHB,← hil,hll]
      simp only [bv]
      refine ⟨by simp only [zla];omega,by repeat first|exact .refl _|refine .push ?_ _,hcl1,?_,?_⟩
      ·simp [ltF,zla,znj,znb,bw fU]
       try omega
      ·exact Y10
    ·have hk':k=S.states.length:=by simp at hc;omega
     have hcl1:(HB.push (.cells [sI (S.fields.map (·.id)),sI (S.headers.map (·.id)),sI (S.states.map (·.id)),.slice .nil 1 [],.slice .nil 1 [],.slice .nil 1 []])).Closed:=ae hclB (by simp [znq,znr,aS,gO])
     rw [← hHB] at hcl1
     by_cases h0:k=0
     ·subst h0
      have hnl:S.states=[]:=List.length_eq_zero_iff.1 hk'.symm
      rw [hL0,← hHB]
      simp only [go_sem]
      refine fO (H.nx+1+1) [sI (S.fields.map (·.id)),sI (S.headers.map (·.id)),sI (S.states.map (·.id)),.slice .nil 1 [],.slice .nil 1 [],.slice .nil 1 []] (cs:=[sI (S.fields.map (·.id)),sI (S.headers.map (·.id)),.slice .nil 1 [],.slice .nil 1 [],.slice .nil 1 [],.slice .nil 1 []]) (by simp only [go_sem]) ?_ ?_
      ·exact Y21
      simp only [go_sem]
      exact Y4
     ·rw [hLk k h0,← hHB]
      simp only [go_sem]
      refine fO (H.nx+1+1) [sI (S.fields.map (·.id)),sI (S.headers.map (·.id)),sI (S.states.map (·.id)),.slice .nil 1 [],.slice .nil 1 [],.slice .nil 1 []] (cs:=[sI (S.fields.map (·.id)),sI (S.headers.map (·.id)),.slice (.own (H.nx+1+1+1+1+1)) 1 (inL ((S.states.take k).map (·.id))),.slice .nil 1 [],.slice .nil 1 [],.slice .nil 1 []]) (by simp only [go_sem]) ?_ ?_
      ·exact Y22
      simp only [go_sem]
      exact Y4
   ·intro _ _
    dsimp only
    rw [← hHB]
    simp only [bp,aM,bhq,Nat.reduceMod,Nat.reduceDiv,aD,aE,aF,bf,aG,bc,aZ,bb,a9,yaq,yar,yao,yap,go_sem,bv]
    obtain ⟨C0,hC0⟩:∃ C0:List AV,C0=(match S.actions with|x::_=>(a8 x).cells|[]=>[]):=⟨_,rfl⟩
    have hC0l:∀ m,ltL m C0:=by
     rw [hC0]
     intro m
     cases S.actions with
     |nil=>rw [znr];trivial
     |cons x _=>exact ltL_iff.2 fun j hj=>AV.lt_cells (ip x) j hj
    obtain ⟨HL,hHL⟩:∃ HL:Nat→AHeap,HL=fun k=>if k=0 then HB.push (.cells [sI (S.fields.map (·.id)),sI (S.headers.map (·.id)),sI (S.states.map (·.id)),.slice .nil 1 [],.slice .nil 1 [],.slice .nil 1 []]) else (((HB.push (.cells [sI (S.fields.map (·.id)),sI (S.headers.map (·.id)),sI (S.states.map (·.id)),.slice (.own (H.nx+1+1+1+1+1)) 1 (inL ((S.actions.take k).map (·.id))),.slice .nil 1 [],.slice .nil 1 []])).push (.cells C0)).push (.buf 1 1)).push (.buf 1 k):=⟨_,rfl⟩
    have hL0:HL 0=HB.push (.cells [sI (S.fields.map (·.id)),sI (S.headers.map (·.id)),sI (S.states.map (·.id)),.slice .nil 1 [],.slice .nil 1 [],.slice .nil 1 []]):=by rw [hHL];rfl
    have hLk:∀ k,k≠0→HL k=(((HB.push (.cells [sI (S.fields.map (·.id)),sI (S.headers.map (·.id)),sI (S.states.map (·.id)),.slice (.own (H.nx+1+1+1+1+1)) 1 (inL ((S.actions.take k).map (·.id))),.slice .nil 1 [],.slice .nil 1 []])).push (.cells C0)).push (.buf 1 1)).push (.buf 1 k):=fun k h=>by rw [hHL];exact if_neg h
    have hclL:∀ k,(HL k).Closed:=fun k=>by
     by_cases h:k=0
     ·exact Y86
     ·rw [hLk k h]
      refine jS (c:=[sI (S.fields.map (·.id)),sI (S.headers.map (·.id)),sI (S.states.map (·.id)),.slice .nil 1 [],.slice .nil 1 [],.slice .nil 1 []]) (ag (ag (ae (ae hclB (by simp [znq,znr,aS,gO])) (hC0l _)))) ?_
      exact Y144
    have hnL:∀ k,H.nx+1+1+1≤(HL k).nx:=fun k=>by
     exact Y49
    apply lk (α:=Unit) (fun _=>[(1,.ptr H.nx 0),(2,.ptr (H.nx+1) 0),(3,.ptr (H.nx+1+1) 0)]) (fun _=>HB.push (.cells [sI (S.fields.map (·.id)),sI (S.headers.map (·.id)),sI (S.states.map (·.id)),sI (S.actions.map (·.id)),.slice .nil 1 [],.slice .nil 1 []])) (fun _=>True)
    ·intro J
     refine az (A:=Nat) (fun k=>[(1,.ptr H.nx 0),(2,.ptr (H.nx+1) 0),(3,.ptr (H.nx+1+1) 0),(62,.slice .any 5 (S.actions.map a8)),(63,.int .i64 (S.actions.length:Int)),(64,.int .i64 (k:Int))]) HL (fun k=>k≤S.actions.length) (fun k=>S.actions.length - k) 0 (by omega) ?_ fun k hk=>?_
     ·rw [hL0,← hHB]
      refine ⟨by simp only [zla,zkm,zkr];omega,lRq _,by have:=hclL 0;rw [hL0,← hHB] at this;exact this,?_,?_⟩
      ·simp [ltF,zla,znj,znb,bw ip]
       try omega
      ·exact Y10
     simp only [go_sem]
     refine au (fun hc=>?_) (fun hc=>?_)
     ·have hk':k<S.actions.length:=by simp at hc;omega
      obtain ⟨x,hx⟩:∃ x,x=S.actions[k]:=⟨_,rfl⟩
      have hxg:=bC (f:=a8) (l:=S.actions) (k:=k) (x:=x) (by rw [gQq hk',hx])
      have e5:=Yk5 k
      have htk:S.actions.take (k+1)=S.actions.take k++[x]:=by rw [hx,List.take_succ_eq_append_getElem hk']
      have hil:inL ((S.actions.take k).map (·.id))++[.int .i64 x.id]=inL ((S.actions.take (k+1)).map (·.id)):=by rw [htk];simp [inL]
      have hll:(inL ((S.actions.take k).map (·.id))).length=k:=by simp [inL];omega
      by_cases h0:k=0
      ·subst h0
       have hC1:C0=(a8 x).cells:=by
        rw [hC0]
        cases hq:S.actions with
        |nil=>rw [hq] at hk';exact absurd hk' (by simp)
        |cons y ys=>dsimp only;rw [hx];simp only [hq,List.getElem_cons_zero]
       simp only [a8,AV.cells] at hC1
       have hcl1:=hclL 1
       rw [hLk 1 (by decide),← hHB,hC1,← hil] at hcl1
       simp only [yar,yaf,inL,yak,bv] at hcl1
       rw [hL0,← hHB]
       simp only [bp,aM,bhq,Nat.reduceMod,Nat.reduceDiv,aD,aE,aF,bf,aG,bc,aZ,bb,a9,yaq,yar,yao,yap,go_sem,bv,iNq,ybb,hxg,a8,yal,yak,e5]
       refine ⟨⟨by omega,by omega⟩,⟨by omega,by omega⟩,fun z hz=>by rw [List.mem_singleton.1 hz];rfl,⟨by omega,by omega⟩,1,by omega,by omega,?_⟩
       rw [hLk 1 (by decide),← hHB,hC1,← hil]
       simp only [yar,yaf,inL,yak,bv]
       refine ⟨by simp only [zla];omega,by repeat first|exact .refl _|refine .push ?_ _,hcl1,?_,?_⟩
       ·simp [ltF,zla,znj,znb,bw ip]
        try omega
       ·exact Y10
      ·have hcl1:=hclL (k+1)
       rw [hLk (k+1) (by omega),← hHB,← hil] at hcl1
       simp only [bv] at hcl1
       rw [hLk k h0,← hHB]
       simp only [bp,aM,bhq,Nat.reduceMod,Nat.reduceDiv,aD,aE,aF,bf,aG,bc,aZ,bb,a9,yaq,yar,yao,yap,go_sem,bv,iNq,ybb,hxg,a8,yal,yak,e5]
       refine ⟨⟨by omega,by omega⟩,⟨by omega,by omega⟩,⟨by rw [hll],by rw [hll];omega,by rw [hll];omega,fun z hz=>by rw [List.mem_singleton.1 hz];rfl⟩,⟨by omega,by omega⟩,k+1,by omega,by omega,?_⟩
       rw [hLk (k+1) (by omega),← hHB,← hil,hll]
       simp only [bv]
       refine ⟨by simp only [zla];omega,by repeat first|exact .refl _|refine .push ?_ _,hcl1,?_,?_⟩
       ·simp [ltF,zla,znj,znb,bw ip]
        try omega
       ·exact Y10
     ·have hk':k=S.actions.length:=by simp at hc;omega
      have hcl1:(HB.push (.cells [sI (S.fields.map (·.id)),sI (S.headers.map (·.id)),sI (S.states.map (·.id)),sI (S.actions.map (·.id)),.slice .nil 1 [],.slice .nil 1 []])).Closed:=ae hclB (by simp [znq,znr,aS,gO])
      rw [← hHB] at hcl1
      by_cases h0:k=0
      ·subst h0
       have hnl:S.actions=[]:=List.length_eq_zero_iff.1 hk'.symm
       rw [hL0,← hHB]
       simp only [go_sem]
       refine fO (H.nx+1+1) [sI (S.fields.map (·.id)),sI (S.headers.map (·.id)),sI (S.states.map (·.id)),sI (S.actions.map (·.id)),.slice .nil 1 [],.slice .nil 1 []] (cs:=[sI (S.fields.map (·.id)),sI (S.headers.map (·.id)),sI (S.states.map (·.id)),.slice .nil 1 [],.slice .nil 1 [],.slice .nil 1 []]) (by simp only [go_sem]) ?_ ?_
       ·exact Y21
       simp only [go_sem]
       exact Y4
      ·rw [hLk k h0,← hHB]
       simp only [go_sem]
       refine fO (H.nx+1+1) [sI (S.fields.map (·.id)),sI (S.headers.map (·.id)),sI (S.states.map (·.id)),sI (S.actions.map (·.id)),.slice .nil 1 [],.slice .nil 1 []] (cs:=[sI (S.fields.map (·.id)),sI (S.headers.map (·.id)),sI (S.states.map (·.id)),.slice (.own (H.nx+1+1+1+1+1)) 1 (inL ((S.actions.take k).map (·.id))),.slice .nil 1 [],.slice .nil 1 []]) (by simp only [go_sem]) ?_ ?_
       ·exact Y22
       simp only [go_sem]
       exact Y4
    ·intro _ _
     dsimp only
     rw [← hHB]
     simp only [bp,aM,bhq,Nat.reduceMod,Nat.reduceDiv,aD,aE,aF,bf,aG,bc,aZ,bb,a9,yaq,yar,yao,yap,go_sem,bv]
     obtain ⟨C0,hC0⟩:∃ C0:List AV,C0=(match S.tables with|x::_=>(aV x).cells|[]=>[]):=⟨_,rfl⟩
     have hC0l:∀ m,ltL m C0:=by
      rw [hC0]
      intro m
      cases S.tables with
      |nil=>rw [znr];trivial
      |cons x _=>exact ltL_iff.2 fun j hj=>AV.lt_cells (cZ x) j hj
     obtain ⟨HL,hHL⟩:∃ HL:Nat→AHeap,HL=fun k=>if k=0 then HB.push (.cells [sI (S.fields.map (·.id)),sI (S.headers.map (·.id)),sI (S.states.map (·.id)),sI (S.actions.map (·.id)),.slice .nil 1 [],.slice .nil 1 []]) else (((HB.push (.cells [sI (S.fields.map (·.id)),sI (S.headers.map (·.id)),sI (S.states.map (·.id)),sI (S.actions.map (·.id)),.slice (.own (H.nx+1+1+1+1+1)) 1 (inL ((S.tables.take k).map (·.id))),.slice .nil 1 []])).push (.cells C0)).push (.buf 1 1)).push (.buf 1 k):=⟨_,rfl⟩
     have hL0:HL 0=HB.push (.cells [sI (S.fields.map (·.id)),sI (S.headers.map (·.id)),sI (S.states.map (·.id)),sI (S.actions.map (·.id)),.slice .nil 1 [],.slice .nil 1 []]):=by rw [hHL];rfl
     have hLk:∀ k,k≠0→HL k=(((HB.push (.cells [sI (S.fields.map (·.id)),sI (S.headers.map (·.id)),sI (S.states.map (·.id)),sI (S.actions.map (·.id)),.slice (.own (H.nx+1+1+1+1+1)) 1 (inL ((S.tables.take k).map (·.id))),.slice .nil 1 []])).push (.cells C0)).push (.buf 1 1)).push (.buf 1 k):=fun k h=>by rw [hHL];exact if_neg h
     have hclL:∀ k,(HL k).Closed:=fun k=>by
      by_cases h:k=0
      ·exact Y86
      ·rw [hLk k h]
       refine jS (c:=[sI (S.fields.map (·.id)),sI (S.headers.map (·.id)),sI (S.states.map (·.id)),sI (S.actions.map (·.id)),.slice .nil 1 [],.slice .nil 1 []]) (ag (ag (ae (ae hclB (by simp [znq,znr,aS,gO])) (hC0l _)))) ?_
       exact Y144
     have hnL:∀ k,H.nx+1+1+1≤(HL k).nx:=fun k=>by
      exact Y49
     apply lk (α:=Unit) (fun _=>[(1,.ptr H.nx 0),(2,.ptr (H.nx+1) 0),(3,.ptr (H.nx+1+1) 0)]) (fun _=>HB.push (.cells [sI (S.fields.map (·.id)),sI (S.headers.map (·.id)),sI (S.states.map (·.id)),sI (S.actions.map (·.id)),sI (S.tables.map (·.id)),.slice .nil 1 []])) (fun _=>True)
     ·intro J
      refine az (A:=Nat) (fun k=>[(1,.ptr H.nx 0),(2,.ptr (H.nx+1) 0),(3,.ptr (H.nx+1+1) 0),(77,.slice .any 8 (S.tables.map aV)),(78,.int .i64 (S.tables.length:Int)),(79,.int .i64 (k:Int))]) HL (fun k=>k≤S.tables.length) (fun k=>S.tables.length - k) 0 (by omega) ?_ fun k hk=>?_
      ·rw [hL0,← hHB]
       refine ⟨by simp only [zla,zkm,zkr];omega,lRq _,by have:=hclL 0;rw [hL0,← hHB] at this;exact this,?_,?_⟩
       ·simp [ltF,zla,znj,znb,bw cZ]
        try omega
       ·exact Y10
      simp only [go_sem]
      refine au (fun hc=>?_) (fun hc=>?_)
      ·have hk':k<S.tables.length:=by simp at hc;omega
       obtain ⟨x,hx⟩:∃ x,x=S.tables[k]:=⟨_,rfl⟩
       have hxg:=bC (f:=aV) (l:=S.tables) (k:=k) (x:=x) (by rw [gQq hk',hx])
       have e5:=Yk5 k
       have htk:S.tables.take (k+1)=S.tables.take k++[x]:=by rw [hx,List.take_succ_eq_append_getElem hk']
       have hil:inL ((S.tables.take k).map (·.id))++[.int .i64 x.id]=inL ((S.tables.take (k+1)).map (·.id)):=by rw [htk];simp [inL]
       have hll:(inL ((S.tables.take k).map (·.id))).length=k:=by simp [inL];omega
       by_cases h0:k=0
       ·subst h0
        have hC1:C0=(aV x).cells:=by
         rw [hC0]
         cases hq:S.tables with
         |nil=>rw [hq] at hk';exact absurd hk' (by simp)
         |cons y ys=>dsimp only;rw [hx];simp only [hq,List.getElem_cons_zero]
        simp only [aV,AV.cells] at hC1
        have hcl1:=hclL 1
        rw [hLk 1 (by decide),← hHB,hC1,← hil] at hcl1
        simp only [yar,yaf,inL,yak,bv] at hcl1
        rw [hL0,← hHB]
        simp only [bp,aM,bhq,Nat.reduceMod,Nat.reduceDiv,aD,aE,aF,bf,aG,bc,aZ,bb,a9,yaq,yar,yao,yap,go_sem,bv,iNq,ybb,hxg,aV,yal,yak,e5]
        refine ⟨⟨by omega,by omega⟩,⟨by omega,by omega⟩,fun z hz=>by rw [List.mem_singleton.1 hz];rfl,⟨by omega,by omega⟩,1,by omega,by omega,?_⟩
        rw [hLk 1 (by decide),← hHB,hC1,← hil]
        simp only [yar,yaf,inL,yak,bv]
        refine ⟨by simp only [zla];omega,by repeat first|exact .refl _|refine .push ?_ _,hcl1,?_,?_⟩
        ·simp [ltF,zla,znj,znb,bw cZ]
         try omega
        ·exact Y10
       ·have hcl1:=hclL (k+1)
        rw [hLk (k+1) (by omega),← hHB,← hil] at hcl1
        simp only [bv] at hcl1
        rw [hLk k h0,← hHB]
        simp only [bp,aM,bhq,Nat.reduceMod,Nat.reduceDiv,aD,aE,aF,bf,aG,bc,aZ,bb,a9,yaq,yar,yao,yap,go_sem,bv,iNq,ybb,hxg,aV,yal,yak,e5]
        refine ⟨⟨by omega,by omega⟩,⟨by omega,by omega⟩,⟨by rw [hll],by rw [hll];omega,by rw [hll];omega,fun z hz=>by rw [List.mem_singleton.1 hz];rfl⟩,⟨by omega,by omega⟩,k+1,by omega,by omega,?_⟩
        rw [hLk (k+1) (by omega),← hHB,← hil,hll]
        simp only [bv]
        refine ⟨by simp only [zla];omega,by repeat first|exact .refl _|refine .push ?_ _,hcl1,?_,?_⟩
        ·simp [ltF,zla,znj,znb,bw cZ]
         try omega
        ·exact Y10
      ·have hk':k=S.tables.length:=by simp at hc;omega
       have hcl1:(HB.push (.cells [sI (S.fields.map (·.id)),sI (S.headers.map (·.id)),sI (S.states.map (·.id)),sI (S.actions.map (·.id)),sI (S.tables.map (·.id)),.slice .nil 1 []])).Closed:=ae hclB (by simp [znq,znr,aS,gO])
       rw [← hHB] at hcl1
       by_cases h0:k=0
       ·subst h0
        have hnl:S.tables=[]:=List.length_eq_zero_iff.1 hk'.symm
        rw [hL0,← hHB]
        simp only [go_sem]
        refine fO (H.nx+1+1) [sI (S.fields.map (·.id)),sI (S.headers.map (·.id)),sI (S.states.map (·.id)),sI (S.actions.map (·.id)),sI (S.tables.map (·.id)),.slice .nil 1 []] (cs:=[sI (S.fields.map (·.id)),sI (S.headers.map (·.id)),sI (S.states.map (·.id)),sI (S.actions.map (·.id)),.slice .nil 1 [],.slice .nil 1 []]) (by simp only [go_sem]) ?_ ?_
        ·exact Y21
        simp only [go_sem]
        exact Y4
       ·rw [hLk k h0,← hHB]
        simp only [go_sem]
        refine fO (H.nx+1+1) [sI (S.fields.map (·.id)),sI (S.headers.map (·.id)),sI (S.states.map (·.id)),sI (S.actions.map (·.id)),sI (S.tables.map (·.id)),.slice .nil 1 []] (cs:=[sI (S.fields.map (·.id)),sI (S.headers.map (·.id)),sI (S.states.map (·.id)),sI (S.actions.map (·.id)),.slice (.own (H.nx+1+1+1+1+1)) 1 (inL ((S.tables.take k).map (·.id))),.slice .nil 1 []]) (by simp only [go_sem]) ?_ ?_
        ·exact Y22
        simp only [go_sem]
        exact Y4
     ·intro _ _
      dsimp only
      rw [← hHB]
      simp only [bp,aM,bhq,Nat.reduceMod,Nat.reduceDiv,aD,aE,aF,bf,aG,bc,aZ,bb,a9,yaq,yar,yao,yap,go_sem,bv]
      obtain ⟨C0,hC0⟩:∃ C0:List AV,C0=(match S.roles with|x::_=>(fp x).cells|[]=>[]):=⟨_,rfl⟩
      have hC0l:∀ m,ltL m C0:=by
       rw [hC0]
       intro m
       cases S.roles with
       |nil=>rw [znr];trivial
       |cons x _=>exact ltL_iff.2 fun j hj=>AV.lt_cells (pI x) j hj
      obtain ⟨HL,hHL⟩:∃ HL:Nat→AHeap,HL=fun k=>if k=0 then HB.push (.cells [sI (S.fields.map (·.id)),sI (S.headers.map (·.id)),sI (S.states.map (·.id)),sI (S.actions.map (·.id)),sI (S.tables.map (·.id)),.slice .nil 1 []]) else (((HB.push (.cells [sI (S.fields.map (·.id)),sI (S.headers.map (·.id)),sI (S.states.map (·.id)),sI (S.actions.map (·.id)),sI (S.tables.map (·.id)),.slice (.own (H.nx+1+1+1+1+1)) 1 (inL ((S.roles.take k).map (·.id)))])).push (.cells C0)).push (.buf 1 1)).push (.buf 1 k):=⟨_,rfl⟩
      have hL0:HL 0=HB.push (.cells [sI (S.fields.map (·.id)),sI (S.headers.map (·.id)),sI (S.states.map (·.id)),sI (S.actions.map (·.id)),sI (S.tables.map (·.id)),.slice .nil 1 []]):=by rw [hHL];rfl
      have hLk:∀ k,k≠0→HL k=(((HB.push (.cells [sI (S.fields.map (·.id)),sI (S.headers.map (·.id)),sI (S.states.map (·.id)),sI (S.actions.map (·.id)),sI (S.tables.map (·.id)),.slice (.own (H.nx+1+1+1+1+1)) 1 (inL ((S.roles.take k).map (·.id)))])).push (.cells C0)).push (.buf 1 1)).push (.buf 1 k):=fun k h=>by rw [hHL];exact if_neg h
      have hclL:∀ k,(HL k).Closed:=fun k=>by
       by_cases h:k=0
       ·exact Y86
       ·rw [hLk k h]
        refine jS (c:=[sI (S.fields.map (·.id)),sI (S.headers.map (·.id)),sI (S.states.map (·.id)),sI (S.actions.map (·.id)),sI (S.tables.map (·.id)),.slice .nil 1 []]) (ag (ag (ae (ae hclB (by simp [znq,znr,aS,gO])) (hC0l _)))) ?_
        exact Y144
      have hnL:∀ k,H.nx+1+1+1≤(HL k).nx:=fun k=>by
       exact Y49
      apply lk (α:=Unit) (fun _=>[(2,.ptr (H.nx+1) 0),(3,.ptr (H.nx+1+1) 0)]) (fun _=>HB.push (.cells [sI (S.fields.map (·.id)),sI (S.headers.map (·.id)),sI (S.states.map (·.id)),sI (S.actions.map (·.id)),sI (S.tables.map (·.id)),sI (S.roles.map (·.id))])) (fun _=>True)
      ·intro J
       refine az (A:=Nat) (fun k=>[(2,.ptr (H.nx+1) 0),(3,.ptr (H.nx+1+1) 0),(92,.slice .any 6 (S.roles.map fp)),(93,.int .i64 (S.roles.length:Int)),(94,.int .i64 (k:Int))]) HL (fun k=>k≤S.roles.length) (fun k=>S.roles.length - k) 0 (by omega) ?_ fun k hk=>?_
       ·rw [hL0,← hHB]
        refine ⟨by simp only [zla,zkm,zkr];omega,lRq _,by have:=hclL 0;rw [hL0,← hHB] at this;exact this,?_,?_⟩
        ·simp [ltF,zla,znj,znb,bw pI]
         try omega
        ·exact Y10
       simp only [go_sem]
       refine au (fun hc=>?_) (fun hc=>?_)
       ·have hk':k<S.roles.length:=by simp at hc;omega
        obtain ⟨x,hx⟩:∃ x,x=S.roles[k]:=⟨_,rfl⟩
        have hxg:=bC (f:=fp) (l:=S.roles) (k:=k) (x:=x) (by rw [gQq hk',hx])
        have e5:=Yk5 k
        have htk:S.roles.take (k+1)=S.roles.take k++[x]:=by rw [hx,List.take_succ_eq_append_getElem hk']
        have hil:inL ((S.roles.take k).map (·.id))++[.int .i64 x.id]=inL ((S.roles.take (k+1)).map (·.id)):=by rw [htk];simp [inL]
        have hll:(inL ((S.roles.take k).map (·.id))).length=k:=by simp [inL];omega
        by_cases h0:k=0
        ·subst h0
         have hC1:C0=(fp x).cells:=by
          rw [hC0]
          cases hq:S.roles with
          |nil=>rw [hq] at hk';exact absurd hk' (by simp)
          |cons y ys=>dsimp only;rw [hx];simp only [hq,List.getElem_cons_zero]
         simp only [fp,AV.cells] at hC1
         have hcl1:=hclL 1
         rw [hLk 1 (by decide),← hHB,hC1,← hil] at hcl1
         simp only [yar,yaf,inL,yak,bv] at hcl1
         rw [hL0,← hHB]
         simp only [bp,aM,bhq,Nat.reduceMod,Nat.reduceDiv,aD,aE,aF,bf,aG,bc,aZ,bb,a9,yaq,yar,yao,yap,go_sem,bv,iNq,ybb,hxg,fp,yal,yak,e5]
         refine ⟨⟨by omega,by omega⟩,⟨by omega,by omega⟩,fun z hz=>by rw [List.mem_singleton.1 hz];rfl,⟨by omega,by omega⟩,1,by omega,by omega,?_⟩
         rw [hLk 1 (by decide),← hHB,hC1,← hil]
         simp only [yar,yaf,inL,yak,bv]
         refine ⟨by simp only [zla];omega,by repeat first|exact .refl _|refine .push ?_ _,hcl1,?_,?_⟩
         ·simp [ltF,zla,znj,znb,bw pI]
          try omega
         ·exact Y10
        ·have hcl1:=hclL (k+1)
         rw [hLk (k+1) (by omega),← hHB,← hil] at hcl1
         simp only [bv] at hcl1
         rw [hLk k h0,← hHB]
         simp only [bp,aM,bhq,Nat.reduceMod,Nat.reduceDiv,aD,aE,aF,bf,aG,bc,aZ,bb,a9,yaq,yar,yao,yap,go_sem,bv,iNq,ybb,hxg,fp,yal,yak,e5]
         refine ⟨⟨by omega,by omega⟩,⟨by omega,by omega⟩,⟨by rw [hll],by rw [hll];omega,by rw [hll];omega,fun z hz=>by rw [List.mem_singleton.1 hz];rfl⟩,⟨by omega,by omega⟩,k+1,by omega,by omega,?_⟩
         rw [hLk (k+1) (by omega),← hHB,← hil,hll]
         simp only [bv]
         refine ⟨by simp only [zla];omega,by repeat first|exact .refl _|refine .push ?_ _,hcl1,?_,?_⟩
         ·simp [ltF,zla,znj,znb,bw pI]
          try omega
         ·exact Y10
       ·have hk':k=S.roles.length:=by simp at hc;omega
        have hcl1:(HB.push (.cells [sI (S.fields.map (·.id)),sI (S.headers.map (·.id)),sI (S.states.map (·.id)),sI (S.actions.map (·.id)),sI (S.tables.map (·.id)),sI (S.roles.map (·.id))])).Closed:=ae hclB (by simp [znq,znr,aS,gO])
        rw [← hHB] at hcl1
        by_cases h0:k=0
        ·subst h0
         have hnl:S.roles=[]:=List.length_eq_zero_iff.1 hk'.symm
         rw [hL0,← hHB]
         simp only [go_sem]
         refine fO (H.nx+1+1) [sI (S.fields.map (·.id)),sI (S.headers.map (·.id)),sI (S.states.map (·.id)),sI (S.actions.map (·.id)),sI (S.tables.map (·.id)),sI (S.roles.map (·.id))] (cs:=[sI (S.fields.map (·.id)),sI (S.headers.map (·.id)),sI (S.states.map (·.id)),sI (S.actions.map (·.id)),sI (S.tables.map (·.id)),.slice .nil 1 []]) (by simp only [go_sem]) ?_ ?_
         ·exact Y21
         simp only [go_sem]
         exact Y4
        ·rw [hLk k h0,← hHB]
         simp only [go_sem]
         refine fO (H.nx+1+1) [sI (S.fields.map (·.id)),sI (S.headers.map (·.id)),sI (S.states.map (·.id)),sI (S.actions.map (·.id)),sI (S.tables.map (·.id)),sI (S.roles.map (·.id))] (cs:=[sI (S.fields.map (·.id)),sI (S.headers.map (·.id)),sI (S.states.map (·.id)),sI (S.actions.map (·.id)),sI (S.tables.map (·.id)),.slice (.own (H.nx+1+1+1+1+1)) 1 (inL ((S.roles.take k).map (·.id)))]) (by simp only [go_sem]) ?_ ?_
         ·exact Y22
         simp only [go_sem]
         exact Y4
      ·intro _ _
       dsimp only
       rw [← hHB]
       simp only [bp,aM,bhq,Nat.reduceMod,Nat.reduceDiv,aD,aE,aF,bf,aG,bc,aZ,bb,a9,yaq,yar,yao,yap,go_sem,bv]
       simp only [bp,aM,bhq,Nat.reduceMod,Nat.reduceDiv,aD,aE,aF,bf,aG,bc,aZ,bb,a9,yaq,yar,yao,yap,go_sem,bv,sI]
       simp (disch:=first|exact Zd|omega) [↓zmk,beq,ybc,ybd,ybe,af,wk,wk2,wk1,wkM,wkL,aj,ybf,hcl,A5,sI,mv]
       try exact Y18
def oJ:List AV→AHeap→(AV→Prop)→Prop
 |[.slice _ 1 l,.int .i64 n],_,K=>∃ xs:List Int,(l=inL xs∧xs.length≤1000000)∧K (.int .i64 (ixP (fun x=>x==n) xs 0))
 |_,_,_=>False
theorem sU:EntOk Tryz.prog 82 (Ent.pure oJ):=by
 refine Ype fun _ H K h=>?_
 unfold oJ at h
 split at h
 rotate_left
 ·exact h.elim
 rename_i m l n
 obtain ⟨xs,⟨rfl,hl⟩,hK⟩:=h
 refine ⟨_,hK,?_⟩
 clear hK
 generalize hR:ixP (fun x:Int=>x==n) xs 0=R
 refine Yfv ax tNq Tryz.func82 [.tmp 4] fun hcl hlt=>?_
 have hm:AV.lt H.nx (.slice m 1 (inL xs)):=hlt _ (by simp)
 clear hlt
 simp only [go_sem,AC]
 refine az (A:=Nat) (fun k=>[(1,.int .i64 n),(7,.slice m 1 (inL xs)),(8,.int .i64 (xs.length:Int)),(9,.int .i64 (k:Int))]) (fun _=>H) (fun k=>k≤xs.length∧ixP (fun x:Int=>x==n) (xs.drop k) k=R) (fun k=>xs.length - k) 0 ⟨by omega,hR⟩ ?_ fun k hk=>?_
 ·refine ⟨nrq _,lRq _,hcl,?_,?_⟩
  ·simp [ltF,znb,hm]
  ·exact Y10
 clear hR
 obtain ⟨hk,hR⟩:=hk
 simp only [go_sem]
 refine au (fun hc=>?_) (fun hc=>?_)
 ·have hk':k<xs.length:=by simp at hc;omega
  obtain ⟨x,hx⟩:∃ x,x=xs[k]:=⟨_,rfl⟩
  have hd:xs.drop k=x::xs.drop (k+1):=by rw [hx];exact dcq hk'
  have hg:=bC (f:=AV.int .i64) (l:=xs) (k:=k) (x:=x) (by rw [gQq hk',hx])
  have e5:=Yk5 k
  rw [hd] at hR
  unfold ixP at hR
  simp only [go_sem,iNq,inL,hg,ybb]
  (repeat with_reducible refine Yq ?_)
  refine au (fun hq=>?_) (fun hq=>?_)
  ·rw [if_pos hq] at hR
   subst hR
   exact Y47
  ·rw [if_neg (by rw [hq];decide)] at hR
   simp only [go_sem,e5]
   unfold inL at hm
   refine ⟨k+1,⟨by omega,hR⟩,by omega,nrq _,lRq _,hcl,?_,?_⟩
   ·simp [ltF,znb,hm]
   ·exact Y10
 ·have hk':k=xs.length:=by simp at hc;omega
  exact Y37
def lE:List AV→AHeap→(AV→Prop)→Prop
 |[.agg l,.int .i64 n],_,K=>∃ S:Sch,(l=bv S∧SLen S)∧K (.int .i64 (ixP (fun t:STable=>t.id==n) S.tables 0))
 |_,_,_=>False
theorem oI:EntOk Tryz.prog 29 (Ent.pure lE):=by
 refine Ype fun _ H K h=>?_
 unfold lE at h
 split at h
 rotate_left
 ·exact h.elim
 rename_i l n
 obtain ⟨S,⟨rfl,hS⟩,hK⟩:=h
 refine ⟨_,hK,?_⟩
 clear hK
 refine Yfv ax (tCq zi (tCq sU tNq)) Tryz.func29 [.tmp 4] fun hcl hlt=>?_
 clear hlt
 simp only [go_sem,bv,v3]
 (repeat with_reducible refine Yq ?_)
 refine ⟨S,⟨rfl,hS⟩,?_⟩
 try simp only [aM,go_sem,A5,sI,oJ]
 (repeat with_reducible refine Yq ?_)
 refine ⟨_,⟨rfl,by have h1:=hS.fl;have h2:=hS.tl;simpa using (by assumption)⟩,?_⟩
 rw [uM]
 try simp only [aM,go_sem]
 exact Y12
def lF:List AV→AHeap→(AV→Prop)→Prop
 |[.agg l,.int .i64 n],_,K=>∃ S:Sch,(l=bv S∧SLen S)∧K (.int .i64 (ixP (fun t:SField=>t.id==n) S.fields 0))
 |_,_,_=>False
theorem oo:EntOk Tryz.prog 31 (Ent.pure lF):=by
 refine Ype fun _ H K h=>?_
 unfold lF at h
 split at h
 rotate_left
 ·exact h.elim
 rename_i l n
 obtain ⟨S,⟨rfl,hS⟩,hK⟩:=h
 refine ⟨_,hK,?_⟩
 clear hK
 refine Yfv ax (tCq zi (tCq sU tNq)) Tryz.func31 [.tmp 4] fun hcl hlt=>?_
 clear hlt
 simp only [go_sem,bv,v3]
 (repeat with_reducible refine Yq ?_)
 refine ⟨S,⟨rfl,hS⟩,?_⟩
 try simp only [aM,go_sem,A5,sI,oJ]
 (repeat with_reducible refine Yq ?_)
 refine ⟨_,⟨rfl,by have h1:=hS.fl;have h2:=hS.tl;simpa using (by assumption)⟩,?_⟩
 rw [uM]
 try simp only [aM,go_sem]
 exact Y12
end Go.AL
