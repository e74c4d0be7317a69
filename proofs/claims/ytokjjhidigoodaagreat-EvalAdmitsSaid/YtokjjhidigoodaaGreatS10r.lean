/- Contracts and plain laws, a part of the proof; no condition of its own. -/
import Derived.Test.YtokjjhidigoodaaGreatS10n
open List renaming length_cons → yaz, length_nil → yba, take_zero → yar, map_nil → yaf, nil_append → yak, take_succ_cons → yaq, drop_succ_cons → yao, drop_zero → yap, length_map → ybb, cons_append → yal, take_of_length_le → ybc, drop_append → ybd, take_append → ybe, drop_eq_nil_of_le → ybf
open Go Go.AL Go.Proofs
namespace Go.AL
set_option linter.all false
set_option maxRecDepth 10000
theorem I3:ti Tryz.prog 136=some ⟨.array 6 56,6,144,.agg [.slice .nil 1 [],.slice .nil 1 [],.slice .nil 1 [],.slice .nil 1 [],.slice .nil 1 [],.slice .nil 1 []]⟩:=by kernel_rfl
attribute [go_sem] I3
theorem Id {l:List Int}:(inL l).length=l.length:=by simp [inL]
def sI (l:List Int):AV:=.slice .any 1 (inL l)
theorem fM {n:Nat} {l:List Int}:AV.lt n (sI l):=uu
theorem FP:∀ l:List Int,si (inL l) (inL l)
 |[]=>by simp [inL,cG]
 |x::l=>by
  have:=FP l
  unfold inL at this ⊢
  simp [eW,AV.cells,ck,cH,i8,this]
theorem iI {m:Mark} {l:List Int}:wkD (.slice m 1 (inL l)) (sI l):=by
 unfold sI
 rw [cn]
 exact .inl ⟨.inl rfl,rfl,FP l⟩
theorem nA {n:Nat} {l:List Int}:ltL n (inL l):=ltL_iff.2 fun j hj=>by
 simp [inL,znb]
theorem iY {H:AHeap} {c cs:List AV} {x y z:AObj} (h:((((H.push (.cells c)).push x).push y).push z).Closed) (hl:ltL (H.nx+1+1+1+1) cs):((((H.push (.cells cs)).push x).push y).push z).Closed:=by
 have h1:((((H.push (.cells c)).push x).push y).push z).set H.nx (.cells cs)=(((H.push (.cells cs)).push x).push y).push z:=by
  simp only [zle,zla]
  rw [if_neg (by omega),if_neg (by omega),if_neg (by omega),if_pos trivial]
 rw [← h1]
 exact ai h (by simpa only [zla] using hl)
structure SLen (S:Sch):Prop where
 fl:S.fields.length≤1000000
 hl:S.headers.length≤1000000
 sl:S.states.length≤1000000
 al:S.actions.length≤1000000
 tl:S.tables.length≤1000000
 rl:S.roles.length≤1000000
def yw (S:Sch):AV:=.agg [sI (S.fields.map (·.id)),sI (S.headers.map (·.id)),sI (S.states.map (·.id)),sI (S.actions.map (·.id)),sI (S.tables.map (·.id)),sI (S.roles.map (·.id))]
def tJ:List AV→AHeap→(AV→Prop)→Prop
 |[.agg l],_,K=>∃ S:Sch,(l=br S∧SLen S)∧K (yw S)
 |_,_,_=>False
set_option maxHeartbeats 8000000 in
theorem wS:EntOk Tryz.prog 83 (Ent.pure tJ):=by
 refine EntOk.pure fun args H K h=>?_
 unfold tJ at h
 split at h
 rotate_left
 ·exact h.elim
 rename_i l
 obtain ⟨S,⟨rfl,h1,h2,h3,h4,h5,h6⟩,hK⟩:=h
 refine ⟨_,hK,?_⟩
 clear hK
 refine ACalls.fW aB TblOk.nil Tryz.func83 [.cell 2 136] (Nat.le_refl _) (T:=aA [(7,[[1,1]]),(12,[[1,1]]),(17,[[1,1]]),(22,[[1,1]]),(27,[[1,1]]),(32,[[1,1]])]) (h:=fun hcl hlt=>?_)
 clear hlt
 have nl:([.slice .nil 1 [],.slice .nil 1 [],.slice .nil 1 [],.slice .nil 1 [],.slice .nil 1 [],.slice .nil 1 []]:List AV).length=6:=rfl
 obtain ⟨HB,hHB⟩:∃ HB,(H.push (.cells (br S))).push (.cells [.slice .nil 1 [],.slice .nil 1 [],.slice .nil 1 [],.slice .nil 1 [],.slice .nil 1 [],.slice .nil 1 []])=HB:=⟨_,rfl⟩
 have hclB:HB.Closed:=by
  rw [← hHB]
  refine ae (ae hcl (ltL_iff.2 fun j hj=>AV.lt_cells (qF S) j hj)) ?_
  simp [znq,znr,aM]
 have hnB:HB.nx=H.nx+1+1:=by rw [← hHB];rfl
 simp only [go_sem,br]
 obtain ⟨C0,hC0⟩:∃ C0:List AV,C0=(match S.fields with|x::_=>(ce x).cells|[]=>[]):=⟨_,rfl⟩
 have hC0l:∀ m,ltL m C0:=by
  rw [hC0]
  intro m
  cases S.fields with
  |nil=>rw [znr];trivial
  |cons x _=>exact ltL_iff.2 fun j hj=>AV.lt_cells (j6 x) j hj
 obtain ⟨HL,hHL⟩:∃ HL:Nat→AHeap,HL=fun k=>if k=0 then HB.push (.cells [.slice .nil 1 [],.slice .nil 1 [],.slice .nil 1 [],.slice .nil 1 [],.slice .nil 1 [],.slice .nil 1 []]) else (((HB.push (.cells [.slice (.own (H.nx+1+1+1+1+1)) 1 (inL ((S.fields.take k).map (·.id))),.slice .nil 1 [],.slice .nil 1 [],.slice .nil 1 [],.slice .nil 1 [],.slice .nil 1 []])).push (.cells C0)).push (.buf 1 1)).push (.buf 1 k):=⟨_,rfl⟩
 have hL0:HL 0=HB.push (.cells [.slice .nil 1 [],.slice .nil 1 [],.slice .nil 1 [],.slice .nil 1 [],.slice .nil 1 [],.slice .nil 1 []]):=by rw [hHL];rfl
 have hLk:∀ k,k≠0→HL k=(((HB.push (.cells [.slice (.own (H.nx+1+1+1+1+1)) 1 (inL ((S.fields.take k).map (·.id))),.slice .nil 1 [],.slice .nil 1 [],.slice .nil 1 [],.slice .nil 1 [],.slice .nil 1 []])).push (.cells C0)).push (.buf 1 1)).push (.buf 1 k):=fun k h=>by rw [hHL];exact if_neg h
 have hclL:∀ k,(HL k).Closed:=fun k=>by
  by_cases h:k=0
  ·rw [h,hL0]
   exact ae hclB (by simp [znq,znr,aM,fM])
  ·rw [hLk k h]
   refine iY (c:=[.slice .nil 1 [],.slice .nil 1 [],.slice .nil 1 [],.slice .nil 1 [],.slice .nil 1 [],.slice .nil 1 []]) (af (af (ae (ae hclB (by simp [znq,znr,aM,fM])) (hC0l _)))) ?_
   simp [znq,znr,aM,fM,hnB,nA]
 have hnL:∀ k,H.nx+1+1+1≤(HL k).nx:=fun k=>by
  by_cases h:k=0
  ·rw [h,hL0,zla,hnB];omega
  ·rw [hLk k h];simp only [zla,hnB];omega
 apply j7 (α:=Unit) (fun _=>[(1,.ptr H.nx 0),(2,.ptr (H.nx+1) 0),(3,.ptr (H.nx+1+1) 0)]) (fun _=>HB.push (.cells [sI (S.fields.map (·.id)),.slice .nil 1 [],.slice .nil 1 [],.slice .nil 1 [],.slice .nil 1 [],.slice .nil 1 []])) (fun _=>True)
 ·intro J
  refine ay (A:=Nat) (fun k=>[(1,.ptr H.nx 0),(2,.ptr (H.nx+1) 0),(3,.ptr (H.nx+1+1) 0),(17,.slice .any 3 (S.fields.map ce)),(18,.int .i64 (S.fields.length:Int)),(19,.int .i64 (k:Int))]) HL (fun k=>k≤S.fields.length) (fun k=>S.fields.length - k) 0 (by omega) ?_ fun k hk=>?_
  ·rw [hL0,← hHB]
   refine ⟨by simp only [zla,zkm,zkr];omega,AHeap.Le.refl _,by have:=hclL 0;rw [hL0,← hHB] at this;exact this,?_,?_⟩
   ·simp [ltF,zla,znj,znb,bn j6]
    try omega
   ·simp [aI,wk2,wk1,wkM,Fr.get]
  simp only [go_sem]
  refine aq (fun hc=>?_) (fun hc=>?_)
  ·have hk':k<S.fields.length:=by simp at hc;omega
   obtain ⟨x,hx⟩:∃ x,x=S.fields[k]:=⟨_,rfl⟩
   have hxg:=cl (f:=ce) (l:=S.fields) (k:=k) (x:=x) (by rw [List.getElem?_eq_getElem hk',hx])
   have e5:IntKind.i64.wrap ((k:Int)+1)=((k+1:Nat):Int):=by rw [wrap_i64]<;>omega
   have htk:S.fields.take (k+1)=S.fields.take k++[x]:=by rw [hx,List.take_succ_eq_append_getElem hk']
   have hil:inL ((S.fields.take k).map (·.id))++[.int .i64 x.id]=inL ((S.fields.take (k+1)).map (·.id)):=by rw [htk];simp [inL]
   have hll:(inL ((S.fields.take k).map (·.id))).length=k:=by simp [inL];omega
   by_cases h0:k=0
   ·subst h0
    have hC1:C0=(ce x).cells:=by
     rw [hC0]
     cases hq:S.fields with
     |nil=>rw [hq] at hk';exact absurd hk' (by simp)
     |cons y ys=>dsimp only;rw [hx];simp only [hq,List.getElem_cons_zero]
    simp only [ce,AV.cells] at hC1
    have hcl1:=hclL 1
    rw [hLk 1 (by decide),← hHB,hC1,← hil] at hcl1
    simp only [yar,yaf,inL,yak,br] at hcl1
    rw [hL0,← hHB]
    simp only [cr,bv,bhq,Nat.reduceMod,Nat.reduceDiv,bc,bf,bg,bX,bh,bV,bQ,bT,bU,yaq,yar,yao,yap,go_sem,br,Int.toNat_natCast,ybb,hxg,ce,yal,yak,e5]
    refine ⟨⟨by omega,by omega⟩,⟨by omega,by omega⟩,fun z hz=>by rw [List.mem_singleton.1 hz];rfl,⟨by omega,by omega⟩,1,by omega,by omega,?_⟩
    rw [hLk 1 (by decide),← hHB,hC1,← hil]
    simp only [yar,yaf,inL,yak,br]
    refine ⟨by simp only [zla];omega,by repeat first|exact .refl _|refine .push ?_ _,hcl1,?_,?_⟩
    ·simp [ltF,zla,znj,znb,bn j6]
     try omega
    ·simp [aI,wk2,wk1,wkM,Fr.get]
   ·have hcl1:=hclL (k+1)
    rw [hLk (k+1) (by omega),← hHB,← hil] at hcl1
    simp only [br] at hcl1
    rw [hLk k h0,← hHB]
    simp only [cr,bv,bhq,Nat.reduceMod,Nat.reduceDiv,bc,bf,bg,bX,bh,bV,bQ,bT,bU,yaq,yar,yao,yap,go_sem,br,Int.toNat_natCast,ybb,hxg,ce,yal,yak,e5]
    refine ⟨⟨by omega,by omega⟩,⟨by omega,by omega⟩,⟨by rw [hll],by rw [hll];omega,by rw [hll];omega,fun z hz=>by rw [List.mem_singleton.1 hz];rfl⟩,⟨by omega,by omega⟩,k+1,by omega,by omega,?_⟩
    rw [hLk (k+1) (by omega),← hHB,← hil,hll]
    simp only [br]
    refine ⟨by simp only [zla];omega,by repeat first|exact .refl _|refine .push ?_ _,hcl1,?_,?_⟩
    ·simp [ltF,zla,znj,znb,bn j6]
     try omega
    ·simp [aI,wk2,wk1,wkM,Fr.get]
  ·have hk':k=S.fields.length:=by simp at hc;omega
   have hcl1:(HB.push (.cells [sI (S.fields.map (·.id)),.slice .nil 1 [],.slice .nil 1 [],.slice .nil 1 [],.slice .nil 1 [],.slice .nil 1 []])).Closed:=ae hclB (by simp [znq,znr,aM,fM])
   rw [← hHB] at hcl1
   by_cases h0:k=0
   ·subst h0
    have hnl:S.fields=[]:=List.length_eq_zero_iff.1 hk'.symm
    rw [hL0,← hHB]
    simp only [go_sem]
    refine fg (H.nx+1+1) [sI (S.fields.map (·.id)),.slice .nil 1 [],.slice .nil 1 [],.slice .nil 1 [],.slice .nil 1 [],.slice .nil 1 []] (cs:=[.slice .nil 1 [],.slice .nil 1 [],.slice .nil 1 [],.slice .nil 1 [],.slice .nil 1 [],.slice .nil 1 []]) (by simp only [go_sem]) ?_ ?_
    ·simp only [ck,cH,and_true]
     refine ⟨?_,?_,?_,?_,?_,?_⟩
     all_goals first|exact iI|(rw [hnl];exact iI (l:=[]))|(rw [cn];exact .inl ⟨.inr rfl,rfl,by rw [cG];trivial⟩)
    simp only [go_sem]
    refine eK J () trivial ⟨by simp only [zla,zkr,zkm,gz,hnB];omega,by rw [← hHB];repeat first|exact .refl _|refine .push ?_ _,by rw [← hHB];exact hcl1,?_,?_⟩
    ·(simp [ltF,zla,znj,hnB];try omega)
    ·simp [aI,wk2,wk1,wkM,Fr.get]
   ·rw [hLk k h0,← hHB]
    simp only [go_sem]
    refine fg (H.nx+1+1) [sI (S.fields.map (·.id)),.slice .nil 1 [],.slice .nil 1 [],.slice .nil 1 [],.slice .nil 1 [],.slice .nil 1 []] (cs:=[.slice (.own (H.nx+1+1+1+1+1)) 1 (inL ((S.fields.take k).map (·.id))),.slice .nil 1 [],.slice .nil 1 [],.slice .nil 1 [],.slice .nil 1 [],.slice .nil 1 []]) (by simp only [go_sem]) ?_ ?_
    ·rw [hk',List.take_length]
     simp only [ck,cH,and_true]
     refine ⟨?_,?_,?_,?_,?_,?_⟩
     all_goals first|exact iI|(rw [cn];exact .inl ⟨.inr rfl,rfl,by rw [cG];trivial⟩)
    simp only [go_sem]
    refine eK J () trivial ⟨by simp only [zla,zkr,zkm,gz,hnB];omega,by rw [← hHB];repeat first|exact .refl _|refine .push ?_ _,by rw [← hHB];exact hcl1,?_,?_⟩
    ·(simp [ltF,zla,znj,hnB];try omega)
    ·simp [aI,wk2,wk1,wkM,Fr.get]
 ·intro _ _
  dsimp only
  rw [← hHB]
  simp only [cr,bv,bhq,Nat.reduceMod,Nat.reduceDiv,bc,bf,bg,bX,bh,bV,bQ,bT,bU,yaq,yar,yao,yap,go_sem,br]
  obtain ⟨C0,hC0⟩:∃ C0:List AV,C0=(match S.headers with|x::_=>(eP x).cells|[]=>[]):=⟨_,rfl⟩
  have hC0l:∀ m,ltL m C0:=by
   rw [hC0]
   intro m
   cases S.headers with
   |nil=>rw [znr];trivial
   |cons x _=>exact ltL_iff.2 fun j hj=>AV.lt_cells (lD x) j hj
  obtain ⟨HL,hHL⟩:∃ HL:Nat→AHeap,HL=fun k=>if k=0 then HB.push (.cells [sI (S.fields.map (·.id)),.slice .nil 1 [],.slice .nil 1 [],.slice .nil 1 [],.slice .nil 1 [],.slice .nil 1 []]) else (((HB.push (.cells [sI (S.fields.map (·.id)),.slice (.own (H.nx+1+1+1+1+1)) 1 (inL ((S.headers.take k).map (·.id))),.slice .nil 1 [],.slice .nil 1 [],.slice .nil 1 [],.slice .nil 1 []])).push (.cells C0)).push (.buf 1 1)).push (.buf 1 k):=⟨_,rfl⟩
  have hL0:HL 0=HB.push (.cells [sI (S.fields.map (·.id)),.slice .nil 1 [],.slice .nil 1 [],.slice .nil 1 [],.slice .nil 1 [],.slice .nil 1 []]):=by rw [hHL];rfl
  have hLk:∀ k,k≠0→HL k=(((HB.push (.cells [sI (S.fields.map (·.id)),.slice (.own (H.nx+1+1+1+1+1)) 1 (inL ((S.headers.take k).map (·.id))),.slice .nil 1 [],.slice .nil 1 [],.slice .nil 1 [],.slice .nil 1 []])).push (.cells C0)).push (.buf 1 1)).push (.buf 1 k):=fun k h=>by rw [hHL];exact if_neg h
  have hclL:∀ k,(HL k).Closed:=fun k=>by
   by_cases h:k=0
   ·rw [h,hL0]
    exact ae hclB (by simp [znq,znr,aM,fM])
   ·rw [hLk k h]
    refine iY (c:=[sI (S.fields.map (·.id)),.slice .nil 1 [],.slice .nil 1 [],.slice .nil 1 [],.slice .nil 1 [],.slice .nil 1 []]) (af (af (ae (ae hclB (by simp [znq,znr,aM,fM])) (hC0l _)))) ?_
    simp [znq,znr,aM,fM,hnB,nA]
  have hnL:∀ k,H.nx+1+1+1≤(HL k).nx:=fun k=>by
   by_cases h:k=0
   ·rw [h,hL0,zla,hnB];omega
   ·rw [hLk k h];simp only [zla,hnB];omega
  apply j7 (α:=Unit) (fun _=>[(1,.ptr H.nx 0),(2,.ptr (H.nx+1) 0),(3,.ptr (H.nx+1+1) 0)]) (fun _=>HB.push (.cells [sI (S.fields.map (·.id)),sI (S.headers.map (·.id)),.slice .nil 1 [],.slice .nil 1 [],.slice .nil 1 [],.slice .nil 1 []])) (fun _=>True)
  ·intro J
   refine ay (A:=Nat) (fun k=>[(1,.ptr H.nx 0),(2,.ptr (H.nx+1) 0),(3,.ptr (H.nx+1+1) 0),(32,.slice .any 3 (S.headers.map eP)),(33,.int .i64 (S.headers.length:Int)),(34,.int .i64 (k:Int))]) HL (fun k=>k≤S.headers.length) (fun k=>S.headers.length - k) 0 (by omega) ?_ fun k hk=>?_
   ·rw [hL0,← hHB]
    refine ⟨by simp only [zla,zkm,zkr];omega,AHeap.Le.refl _,by have:=hclL 0;rw [hL0,← hHB] at this;exact this,?_,?_⟩
    ·simp [ltF,zla,znj,znb,bn lD]
     try omega
    ·simp [aI,wk2,wk1,wkM,Fr.get]
   simp only [go_sem]
   refine aq (fun hc=>?_) (fun hc=>?_)
   ·have hk':k<S.headers.length:=by simp at hc;omega
    obtain ⟨x,hx⟩:∃ x,x=S.headers[k]:=⟨_,rfl⟩
    have hxg:=cl (f:=eP) (l:=S.headers) (k:=k) (x:=x) (by rw [List.getElem?_eq_getElem hk',hx])
    have e5:IntKind.i64.wrap ((k:Int)+1)=((k+1:Nat):Int):=by rw [wrap_i64]<;>omega
    have htk:S.headers.take (k+1)=S.headers.take k++[x]:=by rw [hx,List.take_succ_eq_append_getElem hk']
    have hil:inL ((S.headers.take k).map (·.id))++[.int .i64 x.id]=inL ((S.headers.take (k+1)).map (·.id)):=by rw [htk];simp [inL]
    have hll:(inL ((S.headers.take k).map (·.id))).length=k:=by simp [inL];omega
    by_cases h0:k=0
    ·subst h0
     have hC1:C0=(eP x).cells:=by
      rw [hC0]
      cases hq:S.headers with
      |nil=>rw [hq] at hk';exact absurd hk' (by simp)
      |cons y ys=>dsimp only;rw [hx];simp only [hq,List.getElem_cons_zero]
     simp only [eP,AV.cells] at hC1
     have hcl1:=hclL 1
     rw [hLk 1 (by decide),← hHB,hC1,← hil] at hcl1
     simp only [yar,yaf,inL,yak,br] at hcl1
     rw [hL0,← hHB]
     simp only [cr,bv,bhq,Nat.reduceMod,Nat.reduceDiv,bc,bf,bg,bX,bh,bV,bQ,bT,bU,yaq,yar,yao,yap,go_sem,br,Int.toNat_natCast,ybb,hxg,eP,yal,yak,e5]
     refine ⟨⟨by omega,by omega⟩,⟨by omega,by omega⟩,fun z hz=>by rw [List.mem_singleton.1 hz];rfl,⟨by omega,by omega⟩,1,by omega,by omega,?_⟩
     rw [hLk 1 (by decide),← hHB,hC1,← hil]
     simp only [yar,yaf,inL,yak,br]
     refine ⟨by simp only [zla];omega,by repeat first|exact .refl _|refine .push ?_ _,hcl1,?_,?_⟩
     ·simp [ltF,zla,znj,znb,bn lD]
      try omega
     ·simp [aI,wk2,wk1,wkM,Fr.get]
    ·have hcl1:=hclL (k+1)
     rw [hLk (k+1) (by omega),← hHB,← hil] at hcl1
     simp only [br] at hcl1
     rw [hLk k h0,← hHB]
     simp only [cr,bv,bhq,Nat.reduceMod,Nat.reduceDiv,bc,bf,bg,bX,bh,bV,bQ,bT,bU,yaq,yar,yao,yap,go_sem,br,Int.toNat_natCast,ybb,hxg,eP,yal,yak,e5]
     refine ⟨⟨by omega,by omega⟩,⟨by omega,by omega⟩,⟨by rw [hll],by rw [hll];omega,by rw [hll];omega,fun z hz=>by rw [List.mem_singleton.1 hz];rfl⟩,⟨by omega,by omega⟩,k+1,by omega,by omega,?_⟩
     rw [hLk (k+1) (by omega),← hHB,← hil,hll]
     simp only [br]
     refine ⟨by simp only [zla];omega,by repeat first|exact .refl _|refine .push ?_ _,hcl1,?_,?_⟩
     ·simp [ltF,zla,znj,znb,bn lD]
      try omega
     ·simp [aI,wk2,wk1,wkM,Fr.get]
   ·have hk':k=S.headers.length:=by simp at hc;omega
    have hcl1:(HB.push (.cells [sI (S.fields.map (·.id)),sI (S.headers.map (·.id)),.slice .nil 1 [],.slice .nil 1 [],.slice .nil 1 [],.slice .nil 1 []])).Closed:=ae hclB (by simp [znq,znr,aM,fM])
    rw [← hHB] at hcl1
    by_cases h0:k=0
    ·subst h0
     have hnl:S.headers=[]:=List.length_eq_zero_iff.1 hk'.symm
     rw [hL0,← hHB]
     simp only [go_sem]
     refine fg (H.nx+1+1) [sI (S.fields.map (·.id)),sI (S.headers.map (·.id)),.slice .nil 1 [],.slice .nil 1 [],.slice .nil 1 [],.slice .nil 1 []] (cs:=[sI (S.fields.map (·.id)),.slice .nil 1 [],.slice .nil 1 [],.slice .nil 1 [],.slice .nil 1 [],.slice .nil 1 []]) (by simp only [go_sem]) ?_ ?_
     ·simp only [ck,cH,and_true]
      refine ⟨?_,?_,?_,?_,?_,?_⟩
      all_goals first|exact iI|(rw [hnl];exact iI (l:=[]))|(rw [cn];exact .inl ⟨.inr rfl,rfl,by rw [cG];trivial⟩)
     simp only [go_sem]
     refine eK J () trivial ⟨by simp only [zla,zkr,zkm,gz,hnB];omega,by rw [← hHB];repeat first|exact .refl _|refine .push ?_ _,by rw [← hHB];exact hcl1,?_,?_⟩
     ·(simp [ltF,zla,znj,hnB];try omega)
     ·simp [aI,wk2,wk1,wkM,Fr.get]
    ·rw [hLk k h0,← hHB]
     simp only [go_sem]
     refine fg (H.nx+1+1) [sI (S.fields.map (·.id)),sI (S.headers.map (·.id)),.slice .nil 1 [],.slice .nil 1 [],.slice .nil 1 [],.slice .nil 1 []] (cs:=[sI (S.fields.map (·.id)),.slice (.own (H.nx+1+1+1+1+1)) 1 (inL ((S.headers.take k).map (·.id))),.slice .nil 1 [],.slice .nil 1 [],.slice .nil 1 [],.slice .nil 1 []]) (by simp only [go_sem]) ?_ ?_
     ·rw [hk',List.take_length]
      simp only [ck,cH,and_true]
      refine ⟨?_,?_,?_,?_,?_,?_⟩
      all_goals first|exact iI|(rw [cn];exact .inl ⟨.inr rfl,rfl,by rw [cG];trivial⟩)
     simp only [go_sem]
     refine eK J () trivial ⟨by simp only [zla,zkr,zkm,gz,hnB];omega,by rw [← hHB];repeat first|exact .refl _|refine .push ?_ _,by rw [← hHB];exact hcl1,?_,?_⟩
     ·(simp [ltF,zla,znj,hnB];try omega)
     ·simp [aI,wk2,wk1,wkM,Fr.get]
  ·intro _ _
   dsimp only
   rw [← hHB]
   simp only [cr,bv,bhq,Nat.reduceMod,Nat.reduceDiv,bc,bf,bg,bX,bh,bV,bQ,bT,bU,yaq,yar,yao,yap,go_sem,br]
   obtain ⟨C0,hC0⟩:∃ C0:List AV,C0=(match S.states with|x::_=>(cV x).cells|[]=>[]):=⟨_,rfl⟩
   have hC0l:∀ m,ltL m C0:=by
    rw [hC0]
    intro m
    cases S.states with
    |nil=>rw [znr];trivial
    |cons x _=>exact ltL_iff.2 fun j hj=>AV.lt_cells (fj x) j hj
   obtain ⟨HL,hHL⟩:∃ HL:Nat→AHeap,HL=fun k=>if k=0 then HB.push (.cells [sI (S.fields.map (·.id)),sI (S.headers.map (·.id)),.slice .nil 1 [],.slice .nil 1 [],.slice .nil 1 [],.slice .nil 1 []]) else (((HB.push (.cells [sI (S.fields.map (·.id)),sI (S.headers.map (·.id)),.slice (.own (H.nx+1+1+1+1+1)) 1 (inL ((S.states.take k).map (·.id))),.slice .nil 1 [],.slice .nil 1 [],.slice .nil 1 []])).push (.cells C0)).push (.buf 1 1)).push (.buf 1 k):=⟨_,rfl⟩
   have hL0:HL 0=HB.push (.cells [sI (S.fields.map (·.id)),sI (S.headers.map (·.id)),.slice .nil 1 [],.slice .nil 1 [],.slice .nil 1 [],.slice .nil 1 []]):=by rw [hHL];rfl
   have hLk:∀ k,k≠0→HL k=(((HB.push (.cells [sI (S.fields.map (·.id)),sI (S.headers.map (·.id)),.slice (.own (H.nx+1+1+1+1+1)) 1 (inL ((S.states.take k).map (·.id))),.slice .nil 1 [],.slice .nil 1 [],.slice .nil 1 []])).push (.cells C0)).push (.buf 1 1)).push (.buf 1 k):=fun k h=>by rw [hHL];exact if_neg h
   have hclL:∀ k,(HL k).Closed:=fun k=>by
    by_cases h:k=0
    ·rw [h,hL0]
     exact ae hclB (by simp [znq,znr,aM,fM])
    ·rw [hLk k h]
     refine iY (c:=[sI (S.fields.map (·.id)),sI (S.headers.map (·.id)),.slice .nil 1 [],.slice .nil 1 [],.slice .nil 1 [],.slice .nil 1 []]) (af (af (ae (ae hclB (by simp [znq,znr,aM,fM])) (hC0l _)))) ?_
     simp [znq,znr,aM,fM,hnB,nA]
   have hnL:∀ k,H.nx+1+1+1≤(HL k).nx:=fun k=>by
    by_cases h:k=0
    ·rw [h,hL0,zla,hnB];omega
    ·rw [hLk k h];simp only [zla,hnB];omega
   apply j7 (α:=Unit) (fun _=>[(1,.ptr H.nx 0),(2,.ptr (H.nx+1) 0),(3,.ptr (H.nx+1+1) 0)]) (fun _=>HB.push (.cells [sI (S.fields.map (·.id)),sI (S.headers.map (·.id)),sI (S.states.map (·.id)),.slice .nil 1 [],.slice .nil 1 [],.slice .nil 1 []])) (fun _=>True)
   ·intro J
    refine ay (A:=Nat) (fun k=>[(1,.ptr H.nx 0),(2,.ptr (H.nx+1) 0),(3,.ptr (H.nx+1+1) 0),(47,.slice .any 5 (S.states.map cV)),(48,.int .i64 (S.states.length:Int)),(49,.int .i64 (k:Int))]) HL (fun k=>k≤S.states.length) (fun k=>S.states.length - k) 0 (by omega) ?_ fun k hk=>?_
    ·rw [hL0,← hHB]
     refine ⟨by simp only [zla,zkm,zkr];omega,AHeap.Le.refl _,by have:=hclL 0;rw [hL0,← hHB] at this;exact this,?_,?_⟩
     ·simp [ltF,zla,znj,znb,bn fj]
      try omega
     ·simp [aI,wk2,wk1,wkM,Fr.get]
    simp only [go_sem]
    refine aq (fun hc=>?_) (fun hc=>?_)
    ·have hk':k<S.states.length:=by simp at hc;omega
     obtain ⟨x,hx⟩:∃ x,x=S.states[k]:=⟨_,rfl⟩
     have hxg:=cl (f:=cV) (l:=S.states) (k:=k) (x:=x) (by rw [List.getElem?_eq_getElem hk',hx])
     have e5:IntKind.i64.wrap ((k:Int)+1)=((k+1:Nat):Int):=by rw [wrap_i64]<;>omega
     have htk:S.states.take (k+1)=S.states.take k++[x]:=by rw [hx,List.take_succ_eq_append_getElem hk']
     have hil:inL ((S.states.take k).map (·.id))++[.int .i64 x.id]=inL ((S.states.take (k+1)).map (·.id)):=by rw [htk];simp [inL]
     have hll:(inL ((S.states.take k).map (·.id))).length=k:=by simp [inL];omega
     by_cases h0:k=0
     ·subst h0
      have hC1:C0=(cV x).cells:=by
       rw [hC0]
       cases hq:S.states with
       |nil=>rw [hq] at hk';exact absurd hk' (by simp)
       |cons y ys=>dsimp only;rw [hx];simp only [hq,List.getElem_cons_zero]
      simp only [cV,AV.cells] at hC1
      have hcl1:=hclL 1
      rw [hLk 1 (by decide),← hHB,hC1,← hil] at hcl1
      simp only [yar,yaf,inL,yak,br] at hcl1
      rw [hL0,← hHB]
      simp only [cr,bv,bhq,Nat.reduceMod,Nat.reduceDiv,bc,bf,bg,bX,bh,bV,bQ,bT,bU,yaq,yar,yao,yap,go_sem,br,Int.toNat_natCast,ybb,hxg,cV,yal,yak,e5]
      refine ⟨⟨by omega,by omega⟩,⟨by omega,by omega⟩,fun z hz=>by rw [List.mem_singleton.1 hz];rfl,⟨by omega,by omega⟩,1,by omega,by omega,?_⟩
      rw [hLk 1 (by decide),← hHB,hC1,← hil]
      simp only [yar,yaf,inL,yak,br]
      refine ⟨by simp only [zla];omega,by repeat first|exact .refl _|refine .push ?_ _,hcl1,?_,?_⟩
      ·simp [ltF,zla,znj,znb,bn fj]
       try omega
      ·simp [aI,wk2,wk1,wkM,Fr.get]
     ·have hcl1:=hclL (k+1)
      rw [hLk (k+1) (by omega),← hHB,← hil] at hcl1
      simp only [br] at hcl1
      rw [hLk k h0,← hHB]
      simp only [cr,bv,bhq,Nat.reduceMod,Nat.reduceDiv,bc,bf,bg,bX,bh,bV,bQ,bT,bU,yaq,yar,yao,yap,go_sem,br,Int.toNat_natCast,ybb,hxg,cV,yal,yak,e5]
      refine ⟨⟨by omega,by omega⟩,⟨by omega,by omega⟩,⟨by rw [hll],by rw [hll];omega,by rw [hll];omega,fun z hz=>by rw [List.mem_singleton.1 hz];rfl⟩,⟨by omega,by omega⟩,k+1,by omega,by omega,?_⟩
      rw [hLk (k+1) (by omega),← hHB,← hil,hll]
      simp only [br]
      refine ⟨by simp only [zla];omega,by repeat first|exact .refl _|refine .push ?_ _,hcl1,?_,?_⟩
      ·simp [ltF,zla,znj,znb,bn fj]
       try omega
      ·simp [aI,wk2,wk1,wkM,Fr.get]
    ·have hk':k=S.states.length:=by simp at hc;omega
     have hcl1:(HB.push (.cells [sI (S.fields.map (·.id)),sI (S.headers.map (·.id)),sI (S.states.map (·.id)),.slice .nil 1 [],.slice .nil 1 [],.slice .nil 1 []])).Closed:=ae hclB (by simp [znq,znr,aM,fM])
     rw [← hHB] at hcl1
     by_cases h0:k=0
     ·subst h0
      have hnl:S.states=[]:=List.length_eq_zero_iff.1 hk'.symm
      rw [hL0,← hHB]
      simp only [go_sem]
      refine fg (H.nx+1+1) [sI (S.fields.map (·.id)),sI (S.headers.map (·.id)),sI (S.states.map (·.id)),.slice .nil 1 [],.slice .nil 1 [],.slice .nil 1 []] (cs:=[sI (S.fields.map (·.id)),sI (S.headers.map (·.id)),.slice .nil 1 [],.slice .nil 1 [],.slice .nil 1 [],.slice .nil 1 []]) (by simp only [go_sem]) ?_ ?_
      ·simp only [ck,cH,and_true]
       refine ⟨?_,?_,?_,?_,?_,?_⟩
       all_goals first|exact iI|(rw [hnl];exact iI (l:=[]))|(rw [cn];exact .inl ⟨.inr rfl,rfl,by rw [cG];trivial⟩)
      simp only [go_sem]
      refine eK J () trivial ⟨by simp only [zla,zkr,zkm,gz,hnB];omega,by rw [← hHB];repeat first|exact .refl _|refine .push ?_ _,by rw [← hHB];exact hcl1,?_,?_⟩
      ·(simp [ltF,zla,znj,hnB];try omega)
      ·simp [aI,wk2,wk1,wkM,Fr.get]
     ·rw [hLk k h0,← hHB]
      simp only [go_sem]
      refine fg (H.nx+1+1) [sI (S.fields.map (·.id)),sI (S.headers.map (·.id)),sI (S.states.map (·.id)),.slice .nil 1 [],.slice .nil 1 [],.slice .nil 1 []] (cs:=[sI (S.fields.map (·.id)),sI (S.headers.map (·.id)),.slice (.own (H.nx+1+1+1+1+1)) 1 (inL ((S.states.take k).map (·.id))),.slice .nil 1 [],.slice .nil 1 [],.slice .nil 1 []]) (by simp only [go_sem]) ?_ ?_
      ·rw [hk',List.take_length]
       simp only [ck,cH,and_true]
       refine ⟨?_,?_,?_,?_,?_,?_⟩
       all_goals first|exact iI|(rw [cn];exact .inl ⟨.inr rfl,rfl,by rw [cG];trivial⟩)
      simp only [go_sem]
      refine eK J () trivial ⟨by simp only [zla,zkr,zkm,gz,hnB];omega,by rw [← hHB];repeat first|exact .refl _|refine .push ?_ _,by rw [← hHB];exact hcl1,?_,?_⟩
      ·(simp [ltF,zla,znj,hnB];try omega)
      ·simp [aI,wk2,wk1,wkM,Fr.get]
   ·intro _ _
    dsimp only
    rw [← hHB]
    simp only [cr,bv,bhq,Nat.reduceMod,Nat.reduceDiv,bc,bf,bg,bX,bh,bV,bQ,bT,bU,yaq,yar,yao,yap,go_sem,br]
    obtain ⟨C0,hC0⟩:∃ C0:List AV,C0=(match S.actions with|x::_=>(a8 x).cells|[]=>[]):=⟨_,rfl⟩
    have hC0l:∀ m,ltL m C0:=by
     rw [hC0]
     intro m
     cases S.actions with
     |nil=>rw [znr];trivial
     |cons x _=>exact ltL_iff.2 fun j hj=>AV.lt_cells (gr x) j hj
    obtain ⟨HL,hHL⟩:∃ HL:Nat→AHeap,HL=fun k=>if k=0 then HB.push (.cells [sI (S.fields.map (·.id)),sI (S.headers.map (·.id)),sI (S.states.map (·.id)),.slice .nil 1 [],.slice .nil 1 [],.slice .nil 1 []]) else (((HB.push (.cells [sI (S.fields.map (·.id)),sI (S.headers.map (·.id)),sI (S.states.map (·.id)),.slice (.own (H.nx+1+1+1+1+1)) 1 (inL ((S.actions.take k).map (·.id))),.slice .nil 1 [],.slice .nil 1 []])).push (.cells C0)).push (.buf 1 1)).push (.buf 1 k):=⟨_,rfl⟩
    have hL0:HL 0=HB.push (.cells [sI (S.fields.map (·.id)),sI (S.headers.map (·.id)),sI (S.states.map (·.id)),.slice .nil 1 [],.slice .nil 1 [],.slice .nil 1 []]):=by rw [hHL];rfl
    have hLk:∀ k,k≠0→HL k=(((HB.push (.cells [sI (S.fields.map (·.id)),sI (S.headers.map (·.id)),sI (S.states.map (·.id)),.slice (.own (H.nx+1+1+1+1+1)) 1 (inL ((S.actions.take k).map (·.id))),.slice .nil 1 [],.slice .nil 1 []])).push (.cells C0)).push (.buf 1 1)).push (.buf 1 k):=fun k h=>by rw [hHL];exact if_neg h
    have hclL:∀ k,(HL k).Closed:=fun k=>by
     by_cases h:k=0
     ·rw [h,hL0]
      exact ae hclB (by simp [znq,znr,aM,fM])
     ·rw [hLk k h]
      refine iY (c:=[sI (S.fields.map (·.id)),sI (S.headers.map (·.id)),sI (S.states.map (·.id)),.slice .nil 1 [],.slice .nil 1 [],.slice .nil 1 []]) (af (af (ae (ae hclB (by simp [znq,znr,aM,fM])) (hC0l _)))) ?_
      simp [znq,znr,aM,fM,hnB,nA]
    have hnL:∀ k,H.nx+1+1+1≤(HL k).nx:=fun k=>by
     by_cases h:k=0
     ·rw [h,hL0,zla,hnB];omega
     ·rw [hLk k h];simp only [zla,hnB];omega
    apply j7 (α:=Unit) (fun _=>[(1,.ptr H.nx 0),(2,.ptr (H.nx+1) 0),(3,.ptr (H.nx+1+1) 0)]) (fun _=>HB.push (.cells [sI (S.fields.map (·.id)),sI (S.headers.map (·.id)),sI (S.states.map (·.id)),sI (S.actions.map (·.id)),.slice .nil 1 [],.slice .nil 1 []])) (fun _=>True)
    ·intro J
     refine ay (A:=Nat) (fun k=>[(1,.ptr H.nx 0),(2,.ptr (H.nx+1) 0),(3,.ptr (H.nx+1+1) 0),(62,.slice .any 5 (S.actions.map a8)),(63,.int .i64 (S.actions.length:Int)),(64,.int .i64 (k:Int))]) HL (fun k=>k≤S.actions.length) (fun k=>S.actions.length - k) 0 (by omega) ?_ fun k hk=>?_
     ·rw [hL0,← hHB]
      refine ⟨by simp only [zla,zkm,zkr];omega,AHeap.Le.refl _,by have:=hclL 0;rw [hL0,← hHB] at this;exact this,?_,?_⟩
      ·simp [ltF,zla,znj,znb,bn gr]
       try omega
      ·simp [aI,wk2,wk1,wkM,Fr.get]
     simp only [go_sem]
     refine aq (fun hc=>?_) (fun hc=>?_)
     ·have hk':k<S.actions.length:=by simp at hc;omega
      obtain ⟨x,hx⟩:∃ x,x=S.actions[k]:=⟨_,rfl⟩
      have hxg:=cl (f:=a8) (l:=S.actions) (k:=k) (x:=x) (by rw [List.getElem?_eq_getElem hk',hx])
      have e5:IntKind.i64.wrap ((k:Int)+1)=((k+1:Nat):Int):=by rw [wrap_i64]<;>omega
      have htk:S.actions.take (k+1)=S.actions.take k++[x]:=by rw [hx,List.take_succ_eq_append_getElem hk']
      have hil:inL ((S.actions.take k).map (·.id))++[.int .i64 x.id]=inL ((S.actions.take (k+1)).map (·.id)):=by rw [htk];simp [inL]
      have hll:(inL ((S.actions.take k).map (·.id))).length=k:=by simp [inL];omega
      by_cases h0:k=0
      ·subst h0
       have hC1:C0=(a8 x).cells:=by
        rw [hC0]
        cases hq:S.actions with
        |nil=>rw [hq] at hk';exact absurd hk' (by simp)
        |cons y ys=>dsimp only;rw [hx];simp only [hq,List.getElem_cons_zero]
       simp only [a8,AV.cells] at hC1
       have hcl1:=hclL 1
       rw [hLk 1 (by decide),← hHB,hC1,← hil] at hcl1
       simp only [yar,yaf,inL,yak,br] at hcl1
       rw [hL0,← hHB]
       simp only [cr,bv,bhq,Nat.reduceMod,Nat.reduceDiv,bc,bf,bg,bX,bh,bV,bQ,bT,bU,yaq,yar,yao,yap,go_sem,br,Int.toNat_natCast,ybb,hxg,a8,yal,yak,e5]
       refine ⟨⟨by omega,by omega⟩,⟨by omega,by omega⟩,fun z hz=>by rw [List.mem_singleton.1 hz];rfl,⟨by omega,by omega⟩,1,by omega,by omega,?_⟩
       rw [hLk 1 (by decide),← hHB,hC1,← hil]
       simp only [yar,yaf,inL,yak,br]
       refine ⟨by simp only [zla];omega,by repeat first|exact .refl _|refine .push ?_ _,hcl1,?_,?_⟩
       ·simp [ltF,zla,znj,znb,bn gr]
        try omega
       ·simp [aI,wk2,wk1,wkM,Fr.get]
      ·have hcl1:=hclL (k+1)
       rw [hLk (k+1) (by omega),← hHB,← hil] at hcl1
       simp only [br] at hcl1
       rw [hLk k h0,← hHB]
       simp only [cr,bv,bhq,Nat.reduceMod,Nat.reduceDiv,bc,bf,bg,bX,bh,bV,bQ,bT,bU,yaq,yar,yao,yap,go_sem,br,Int.toNat_natCast,ybb,hxg,a8,yal,yak,e5]
       refine ⟨⟨by omega,by omega⟩,⟨by omega,by omega⟩,⟨by rw [hll],by rw [hll];omega,by rw [hll];omega,fun z hz=>by rw [List.mem_singleton.1 hz];rfl⟩,⟨by omega,by omega⟩,k+1,by omega,by omega,?_⟩
       rw [hLk (k+1) (by omega),← hHB,← hil,hll]
       simp only [br]
       refine ⟨by simp only [zla];omega,by repeat first|exact .refl _|refine .push ?_ _,hcl1,?_,?_⟩
       ·simp [ltF,zla,znj,znb,bn gr]
        try omega
       ·simp [aI,wk2,wk1,wkM,Fr.get]
     ·have hk':k=S.actions.length:=by simp at hc;omega
      have hcl1:(HB.push (.cells [sI (S.fields.map (·.id)),sI (S.headers.map (·.id)),sI (S.states.map (·.id)),sI (S.actions.map (·.id)),.slice .nil 1 [],.slice .nil 1 []])).Closed:=ae hclB (by simp [znq,znr,aM,fM])
      rw [← hHB] at hcl1
      by_cases h0:k=0
      ·subst h0
       have hnl:S.actions=[]:=List.length_eq_zero_iff.1 hk'.symm
       rw [hL0,← hHB]
       simp only [go_sem]
       refine fg (H.nx+1+1) [sI (S.fields.map (·.id)),sI (S.headers.map (·.id)),sI (S.states.map (·.id)),sI (S.actions.map (·.id)),.slice .nil 1 [],.slice .nil 1 []] (cs:=[sI (S.fields.map (·.id)),sI (S.headers.map (·.id)),sI (S.states.map (·.id)),.slice .nil 1 [],.slice .nil 1 [],.slice .nil 1 []]) (by simp only [go_sem]) ?_ ?_
       ·simp only [ck,cH,and_true]
        refine ⟨?_,?_,?_,?_,?_,?_⟩
        all_goals first|exact iI|(rw [hnl];exact iI (l:=[]))|(rw [cn];exact .inl ⟨.inr rfl,rfl,by rw [cG];trivial⟩)
       simp only [go_sem]
       refine eK J () trivial ⟨by simp only [zla,zkr,zkm,gz,hnB];omega,by rw [← hHB];repeat first|exact .refl _|refine .push ?_ _,by rw [← hHB];exact hcl1,?_,?_⟩
       ·(simp [ltF,zla,znj,hnB];try omega)
       ·simp [aI,wk2,wk1,wkM,Fr.get]
      ·rw [hLk k h0,← hHB]
       simp only [go_sem]
       refine fg (H.nx+1+1) [sI (S.fields.map (·.id)),sI (S.headers.map (·.id)),sI (S.states.map (·.id)),sI (S.actions.map (·.id)),.slice .nil 1 [],.slice .nil 1 []] (cs:=[sI (S.fields.map (·.id)),sI (S.headers.map (·.id)),sI (S.states.map (·.id)),.slice (.own (H.nx+1+1+1+1+1)) 1 (inL ((S.actions.take k).map (·.id))),.slice .nil 1 [],.slice .nil 1 []]) (by simp only [go_sem]) ?_ ?_
       ·rw [hk',List.take_length]
        simp only [ck,cH,and_true]
        refine ⟨?_,?_,?_,?_,?_,?_⟩
        all_goals first|exact iI|(rw [cn];exact .inl ⟨.inr rfl,rfl,by rw [cG];trivial⟩)
       simp only [go_sem]
       refine eK J () trivial ⟨by simp only [zla,zkr,zkm,gz,hnB];omega,by rw [← hHB];repeat first|exact .refl _|refine .push ?_ _,by rw [← hHB];exact hcl1,?_,?_⟩
       ·(simp [ltF,zla,znj,hnB];try omega)
       ·simp [aI,wk2,wk1,wkM,Fr.get]
    ·intro _ _
     dsimp only
     rw [← hHB]
     simp only [cr,bv,bhq,Nat.reduceMod,Nat.reduceDiv,bc,bf,bg,bX,bh,bV,bQ,bT,bU,yaq,yar,yao,yap,go_sem,br]
     obtain ⟨C0,hC0⟩:∃ C0:List AV,C0=(match S.tables with|x::_=>(bx x).cells|[]=>[]):=⟨_,rfl⟩
     have hC0l:∀ m,ltL m C0:=by
      rw [hC0]
      intro m
      cases S.tables with
      |nil=>rw [znr];trivial
      |cons x _=>exact ltL_iff.2 fun j hj=>AV.lt_cells (dp x) j hj
     obtain ⟨HL,hHL⟩:∃ HL:Nat→AHeap,HL=fun k=>if k=0 then HB.push (.cells [sI (S.fields.map (·.id)),sI (S.headers.map (·.id)),sI (S.states.map (·.id)),sI (S.actions.map (·.id)),.slice .nil 1 [],.slice .nil 1 []]) else (((HB.push (.cells [sI (S.fields.map (·.id)),sI (S.headers.map (·.id)),sI (S.states.map (·.id)),sI (S.actions.map (·.id)),.slice (.own (H.nx+1+1+1+1+1)) 1 (inL ((S.tables.take k).map (·.id))),.slice .nil 1 []])).push (.cells C0)).push (.buf 1 1)).push (.buf 1 k):=⟨_,rfl⟩
     have hL0:HL 0=HB.push (.cells [sI (S.fields.map (·.id)),sI (S.headers.map (·.id)),sI (S.states.map (·.id)),sI (S.actions.map (·.id)),.slice .nil 1 [],.slice .nil 1 []]):=by rw [hHL];rfl
     have hLk:∀ k,k≠0→HL k=(((HB.push (.cells [sI (S.fields.map (·.id)),sI (S.headers.map (·.id)),sI (S.states.map (·.id)),sI (S.actions.map (·.id)),.slice (.own (H.nx+1+1+1+1+1)) 1 (inL ((S.tables.take k).map (·.id))),.slice .nil 1 []])).push (.cells C0)).push (.buf 1 1)).push (.buf 1 k):=fun k h=>by rw [hHL];exact if_neg h
     have hclL:∀ k,(HL k).Closed:=fun k=>by
      by_cases h:k=0
      ·rw [h,hL0]
       exact ae hclB (by simp [znq,znr,aM,fM])
      ·rw [hLk k h]
       refine iY (c:=[sI (S.fields.map (·.id)),sI (S.headers.map (·.id)),sI (S.states.map (·.id)),sI (S.actions.map (·.id)),.slice .nil 1 [],.slice .nil 1 []]) (af (af (ae (ae hclB (by simp [znq,znr,aM,fM])) (hC0l _)))) ?_
       simp [znq,znr,aM,fM,hnB,nA]
     have hnL:∀ k,H.nx+1+1+1≤(HL k).nx:=fun k=>by
      by_cases h:k=0
      ·rw [h,hL0,zla,hnB];omega
      ·rw [hLk k h];simp only [zla,hnB];omega
     apply j7 (α:=Unit) (fun _=>[(1,.ptr H.nx 0),(2,.ptr (H.nx+1) 0),(3,.ptr (H.nx+1+1) 0)]) (fun _=>HB.push (.cells [sI (S.fields.map (·.id)),sI (S.headers.map (·.id)),sI (S.states.map (·.id)),sI (S.actions.map (·.id)),sI (S.tables.map (·.id)),.slice .nil 1 []])) (fun _=>True)
     ·intro J
      refine ay (A:=Nat) (fun k=>[(1,.ptr H.nx 0),(2,.ptr (H.nx+1) 0),(3,.ptr (H.nx+1+1) 0),(77,.slice .any 8 (S.tables.map bx)),(78,.int .i64 (S.tables.length:Int)),(79,.int .i64 (k:Int))]) HL (fun k=>k≤S.tables.length) (fun k=>S.tables.length - k) 0 (by omega) ?_ fun k hk=>?_
      ·rw [hL0,← hHB]
       refine ⟨by simp only [zla,zkm,zkr];omega,AHeap.Le.refl _,by have:=hclL 0;rw [hL0,← hHB] at this;exact this,?_,?_⟩
       ·simp [ltF,zla,znj,znb,bn dp]
        try omega
       ·simp [aI,wk2,wk1,wkM,Fr.get]
      simp only [go_sem]
      refine aq (fun hc=>?_) (fun hc=>?_)
      ·have hk':k<S.tables.length:=by simp at hc;omega
       obtain ⟨x,hx⟩:∃ x,x=S.tables[k]:=⟨_,rfl⟩
       have hxg:=cl (f:=bx) (l:=S.tables) (k:=k) (x:=x) (by rw [List.getElem?_eq_getElem hk',hx])
       have e5:IntKind.i64.wrap ((k:Int)+1)=((k+1:Nat):Int):=by rw [wrap_i64]<;>omega
       have htk:S.tables.take (k+1)=S.tables.take k++[x]:=by rw [hx,List.take_succ_eq_append_getElem hk']
       have hil:inL ((S.tables.take k).map (·.id))++[.int .i64 x.id]=inL ((S.tables.take (k+1)).map (·.id)):=by rw [htk];simp [inL]
       have hll:(inL ((S.tables.take k).map (·.id))).length=k:=by simp [inL];omega
       by_cases h0:k=0
       ·subst h0
        have hC1:C0=(bx x).cells:=by
         rw [hC0]
         cases hq:S.tables with
         |nil=>rw [hq] at hk';exact absurd hk' (by simp)
         |cons y ys=>dsimp only;rw [hx];simp only [hq,List.getElem_cons_zero]
        simp only [bx,AV.cells] at hC1
        have hcl1:=hclL 1
        rw [hLk 1 (by decide),← hHB,hC1,← hil] at hcl1
        simp only [yar,yaf,inL,yak,br] at hcl1
        rw [hL0,← hHB]
        simp only [cr,bv,bhq,Nat.reduceMod,Nat.reduceDiv,bc,bf,bg,bX,bh,bV,bQ,bT,bU,yaq,yar,yao,yap,go_sem,br,Int.toNat_natCast,ybb,hxg,bx,yal,yak,e5]
        refine ⟨⟨by omega,by omega⟩,⟨by omega,by omega⟩,fun z hz=>by rw [List.mem_singleton.1 hz];rfl,⟨by omega,by omega⟩,1,by omega,by omega,?_⟩
        rw [hLk 1 (by decide),← hHB,hC1,← hil]
        simp only [yar,yaf,inL,yak,br]
        refine ⟨by simp only [zla];omega,by repeat first|exact .refl _|refine .push ?_ _,hcl1,?_,?_⟩
        ·simp [ltF,zla,znj,znb,bn dp]
         try omega
        ·simp [aI,wk2,wk1,wkM,Fr.get]
       ·have hcl1:=hclL (k+1)
        rw [hLk (k+1) (by omega),← hHB,← hil] at hcl1
        simp only [br] at hcl1
        rw [hLk k h0,← hHB]
        simp only [cr,bv,bhq,Nat.reduceMod,Nat.reduceDiv,bc,bf,bg,bX,bh,bV,bQ,bT,bU,yaq,yar,yao,yap,go_sem,br,Int.toNat_natCast,ybb,hxg,bx,yal,yak,e5]
        refine ⟨⟨by omega,by omega⟩,⟨by omega,by omega⟩,⟨by rw [hll],by rw [hll];omega,by rw [hll];omega,fun z hz=>by rw [List.mem_singleton.1 hz];rfl⟩,⟨by omega,by omega⟩,k+1,by omega,by omega,?_⟩
        rw [hLk (k+1) (by omega),← hHB,← hil,hll]
        simp only [br]
        refine ⟨by simp only [zla];omega,by repeat first|exact .refl _|refine .push ?_ _,hcl1,?_,?_⟩
        ·simp [ltF,zla,znj,znb,bn dp]
         try omega
        ·simp [aI,wk2,wk1,wkM,Fr.get]
      ·have hk':k=S.tables.length:=by simp at hc;omega
       have hcl1:(HB.push (.cells [sI (S.fields.map (·.id)),sI (S.headers.map (·.id)),sI (S.states.map (·.id)),sI (S.actions.map (·.id)),sI (S.tables.map (·.id)),.slice .nil 1 []])).Closed:=ae hclB (by simp [znq,znr,aM,fM])
       rw [← hHB] at hcl1
       by_cases h0:k=0
       ·subst h0
        have hnl:S.tables=[]:=List.length_eq_zero_iff.1 hk'.symm
        rw [hL0,← hHB]
        simp only [go_sem]
        refine fg (H.nx+1+1) [sI (S.fields.map (·.id)),sI (S.headers.map (·.id)),sI (S.states.map (·.id)),sI (S.actions.map (·.id)),sI (S.tables.map (·.id)),.slice .nil 1 []] (cs:=[sI (S.fields.map (·.id)),sI (S.headers.map (·.id)),sI (S.states.map (·.id)),sI (S.actions.map (·.id)),.slice .nil 1 [],.slice .nil 1 []]) (by simp only [go_sem]) ?_ ?_
        ·simp only [ck,cH,and_true]
         refine ⟨?_,?_,?_,?_,?_,?_⟩
         all_goals first|exact iI|(rw [hnl];exact iI (l:=[]))|(rw [cn];exact .inl ⟨.inr rfl,rfl,by rw [cG];trivial⟩)
        simp only [go_sem]
        refine eK J () trivial ⟨by simp only [zla,zkr,zkm,gz,hnB];omega,by rw [← hHB];repeat first|exact .refl _|refine .push ?_ _,by rw [← hHB];exact hcl1,?_,?_⟩
        ·(simp [ltF,zla,znj,hnB];try omega)
        ·simp [aI,wk2,wk1,wkM,Fr.get]
       ·rw [hLk k h0,← hHB]
        simp only [go_sem]
        refine fg (H.nx+1+1) [sI (S.fields.map (·.id)),sI (S.headers.map (·.id)),sI (S.states.map (·.id)),sI (S.actions.map (·.id)),sI (S.tables.map (·.id)),.slice .nil 1 []] (cs:=[sI (S.fields.map (·.id)),sI (S.headers.map (·.id)),sI (S.states.map (·.id)),sI (S.actions.map (·.id)),.slice (.own (H.nx+1+1+1+1+1)) 1 (inL ((S.tables.take k).map (·.id))),.slice .nil 1 []]) (by simp only [go_sem]) ?_ ?_
        ·rw [hk',List.take_length]
         simp only [ck,cH,and_true]
         refine ⟨?_,?_,?_,?_,?_,?_⟩
         all_goals first|exact iI|(rw [cn];exact .inl ⟨.inr rfl,rfl,by rw [cG];trivial⟩)
        simp only [go_sem]
        refine eK J () trivial ⟨by simp only [zla,zkr,zkm,gz,hnB];omega,by rw [← hHB];repeat first|exact .refl _|refine .push ?_ _,by rw [← hHB];exact hcl1,?_,?_⟩
        ·(simp [ltF,zla,znj,hnB];try omega)
        ·simp [aI,wk2,wk1,wkM,Fr.get]
     ·intro _ _
      dsimp only
      rw [← hHB]
      simp only [cr,bv,bhq,Nat.reduceMod,Nat.reduceDiv,bc,bf,bg,bX,bh,bV,bQ,bT,bU,yaq,yar,yao,yap,go_sem,br]
      obtain ⟨C0,hC0⟩:∃ C0:List AV,C0=(match S.roles with|x::_=>(fK x).cells|[]=>[]):=⟨_,rfl⟩
      have hC0l:∀ m,ltL m C0:=by
       rw [hC0]
       intro m
       cases S.roles with
       |nil=>rw [znr];trivial
       |cons x _=>exact ltL_iff.2 fun j hj=>AV.lt_cells (nB x) j hj
      obtain ⟨HL,hHL⟩:∃ HL:Nat→AHeap,HL=fun k=>if k=0 then HB.push (.cells [sI (S.fields.map (·.id)),sI (S.headers.map (·.id)),sI (S.states.map (·.id)),sI (S.actions.map (·.id)),sI (S.tables.map (·.id)),.slice .nil 1 []]) else (((HB.push (.cells [sI (S.fields.map (·.id)),sI (S.headers.map (·.id)),sI (S.states.map (·.id)),sI (S.actions.map (·.id)),sI (S.tables.map (·.id)),.slice (.own (H.nx+1+1+1+1+1)) 1 (inL ((S.roles.take k).map (·.id)))])).push (.cells C0)).push (.buf 1 1)).push (.buf 1 k):=⟨_,rfl⟩
      have hL0:HL 0=HB.push (.cells [sI (S.fields.map (·.id)),sI (S.headers.map (·.id)),sI (S.states.map (·.id)),sI (S.actions.map (·.id)),sI (S.tables.map (·.id)),.slice .nil 1 []]):=by rw [hHL];rfl
      have hLk:∀ k,k≠0→HL k=(((HB.push (.cells [sI (S.fields.map (·.id)),sI (S.headers.map (·.id)),sI (S.states.map (·.id)),sI (S.actions.map (·.id)),sI (S.tables.map (·.id)),.slice (.own (H.nx+1+1+1+1+1)) 1 (inL ((S.roles.take k).map (·.id)))])).push (.cells C0)).push (.buf 1 1)).push (.buf 1 k):=fun k h=>by rw [hHL];exact if_neg h
      have hclL:∀ k,(HL k).Closed:=fun k=>by
       by_cases h:k=0
       ·rw [h,hL0]
        exact ae hclB (by simp [znq,znr,aM,fM])
       ·rw [hLk k h]
        refine iY (c:=[sI (S.fields.map (·.id)),sI (S.headers.map (·.id)),sI (S.states.map (·.id)),sI (S.actions.map (·.id)),sI (S.tables.map (·.id)),.slice .nil 1 []]) (af (af (ae (ae hclB (by simp [znq,znr,aM,fM])) (hC0l _)))) ?_
        simp [znq,znr,aM,fM,hnB,nA]
      have hnL:∀ k,H.nx+1+1+1≤(HL k).nx:=fun k=>by
       by_cases h:k=0
       ·rw [h,hL0,zla,hnB];omega
       ·rw [hLk k h];simp only [zla,hnB];omega
      apply j7 (α:=Unit) (fun _=>[(2,.ptr (H.nx+1) 0),(3,.ptr (H.nx+1+1) 0)]) (fun _=>HB.push (.cells [sI (S.fields.map (·.id)),sI (S.headers.map (·.id)),sI (S.states.map (·.id)),sI (S.actions.map (·.id)),sI (S.tables.map (·.id)),sI (S.roles.map (·.id))])) (fun _=>True)
      ·intro J
       refine ay (A:=Nat) (fun k=>[(2,.ptr (H.nx+1) 0),(3,.ptr (H.nx+1+1) 0),(92,.slice .any 6 (S.roles.map fK)),(93,.int .i64 (S.roles.length:Int)),(94,.int .i64 (k:Int))]) HL (fun k=>k≤S.roles.length) (fun k=>S.roles.length - k) 0 (by omega) ?_ fun k hk=>?_
       ·rw [hL0,← hHB]
        refine ⟨by simp only [zla,zkm,zkr];omega,AHeap.Le.refl _,by have:=hclL 0;rw [hL0,← hHB] at this;exact this,?_,?_⟩
        ·simp [ltF,zla,znj,znb,bn nB]
         try omega
        ·simp [aI,wk2,wk1,wkM,Fr.get]
       simp only [go_sem]
       refine aq (fun hc=>?_) (fun hc=>?_)
       ·have hk':k<S.roles.length:=by simp at hc;omega
        obtain ⟨x,hx⟩:∃ x,x=S.roles[k]:=⟨_,rfl⟩
        have hxg:=cl (f:=fK) (l:=S.roles) (k:=k) (x:=x) (by rw [List.getElem?_eq_getElem hk',hx])
        have e5:IntKind.i64.wrap ((k:Int)+1)=((k+1:Nat):Int):=by rw [wrap_i64]<;>omega
        have htk:S.roles.take (k+1)=S.roles.take k++[x]:=by rw [hx,List.take_succ_eq_append_getElem hk']
        have hil:inL ((S.roles.take k).map (·.id))++[.int .i64 x.id]=inL ((S.roles.take (k+1)).map (·.id)):=by rw [htk];simp [inL]
        have hll:(inL ((S.roles.take k).map (·.id))).length=k:=by simp [inL];omega
        by_cases h0:k=0
        ·subst h0
         have hC1:C0=(fK x).cells:=by
          rw [hC0]
          cases hq:S.roles with
          |nil=>rw [hq] at hk';exact absurd hk' (by simp)
          |cons y ys=>dsimp only;rw [hx];simp only [hq,List.getElem_cons_zero]
         simp only [fK,AV.cells] at hC1
         have hcl1:=hclL 1
         rw [hLk 1 (by decide),← hHB,hC1,← hil] at hcl1
         simp only [yar,yaf,inL,yak,br] at hcl1
         rw [hL0,← hHB]
         simp only [cr,bv,bhq,Nat.reduceMod,Nat.reduceDiv,bc,bf,bg,bX,bh,bV,bQ,bT,bU,yaq,yar,yao,yap,go_sem,br,Int.toNat_natCast,ybb,hxg,fK,yal,yak,e5]
         refine ⟨⟨by omega,by omega⟩,⟨by omega,by omega⟩,fun z hz=>by rw [List.mem_singleton.1 hz];rfl,⟨by omega,by omega⟩,1,by omega,by omega,?_⟩
         rw [hLk 1 (by decide),← hHB,hC1,← hil]
         simp only [yar,yaf,inL,yak,br]
         refine ⟨by simp only [zla];omega,by repeat first|exact .refl _|refine .push ?_ _,hcl1,?_,?_⟩
         ·simp [ltF,zla,znj,znb,bn nB]
          try omega
         ·simp [aI,wk2,wk1,wkM,Fr.get]
        ·have hcl1:=hclL (k+1)
         rw [hLk (k+1) (by omega),← hHB,← hil] at hcl1
         simp only [br] at hcl1
         rw [hLk k h0,← hHB]
         simp only [cr,bv,bhq,Nat.reduceMod,Nat.reduceDiv,bc,bf,bg,bX,bh,bV,bQ,bT,bU,yaq,yar,yao,yap,go_sem,br,Int.toNat_natCast,ybb,hxg,fK,yal,yak,e5]
         refine ⟨⟨by omega,by omega⟩,⟨by omega,by omega⟩,⟨by rw [hll],by rw [hll];omega,by rw [hll];omega,fun z hz=>by rw [List.mem_singleton.1 hz];rfl⟩,⟨by omega,by omega⟩,k+1,by omega,by omega,?_⟩
         rw [hLk (k+1) (by omega),← hHB,← hil,hll]
         simp only [br]
         refine ⟨by simp only [zla];omega,by repeat first|exact .refl _|refine .push ?_ _,hcl1,?_,?_⟩
         ·simp [ltF,zla,znj,znb,bn nB]
          try omega
         ·simp [aI,wk2,wk1,wkM,Fr.get]
       ·have hk':k=S.roles.length:=by simp at hc;omega
        have hcl1:(HB.push (.cells [sI (S.fields.map (·.id)),sI (S.headers.map (·.id)),sI (S.states.map (·.id)),sI (S.actions.map (·.id)),sI (S.tables.map (·.id)),sI (S.roles.map (·.id))])).Closed:=ae hclB (by simp [znq,znr,aM,fM])
        rw [← hHB] at hcl1
        by_cases h0:k=0
        ·subst h0
         have hnl:S.roles=[]:=List.length_eq_zero_iff.1 hk'.symm
         rw [hL0,← hHB]
         simp only [go_sem]
         refine fg (H.nx+1+1) [sI (S.fields.map (·.id)),sI (S.headers.map (·.id)),sI (S.states.map (·.id)),sI (S.actions.map (·.id)),sI (S.tables.map (·.id)),sI (S.roles.map (·.id))] (cs:=[sI (S.fields.map (·.id)),sI (S.headers.map (·.id)),sI (S.states.map (·.id)),sI (S.actions.map (·.id)),sI (S.tables.map (·.id)),.slice .nil 1 []]) (by simp only [go_sem]) ?_ ?_
         ·simp only [ck,cH,and_true]
          refine ⟨?_,?_,?_,?_,?_,?_⟩
          all_goals first|exact iI|(rw [hnl];exact iI (l:=[]))|(rw [cn];exact .inl ⟨.inr rfl,rfl,by rw [cG];trivial⟩)
         simp only [go_sem]
         refine eK J () trivial ⟨by simp only [zla,zkr,zkm,gz,hnB];omega,by rw [← hHB];repeat first|exact .refl _|refine .push ?_ _,by rw [← hHB];exact hcl1,?_,?_⟩
         ·(simp [ltF,zla,znj,hnB];try omega)
         ·simp [aI,wk2,wk1,wkM,Fr.get]
        ·rw [hLk k h0,← hHB]
         simp only [go_sem]
         refine fg (H.nx+1+1) [sI (S.fields.map (·.id)),sI (S.headers.map (·.id)),sI (S.states.map (·.id)),sI (S.actions.map (·.id)),sI (S.tables.map (·.id)),sI (S.roles.map (·.id))] (cs:=[sI (S.fields.map (·.id)),sI (S.headers.map (·.id)),sI (S.states.map (·.id)),sI (S.actions.map (·.id)),sI (S.tables.map (·.id)),.slice (.own (H.nx+1+1+1+1+1)) 1 (inL ((S.roles.take k).map (·.id)))]) (by simp only [go_sem]) ?_ ?_
         ·rw [hk',List.take_length]
          simp only [ck,cH,and_true]
          refine ⟨?_,?_,?_,?_,?_,?_⟩
          all_goals first|exact iI|(rw [cn];exact .inl ⟨.inr rfl,rfl,by rw [cG];trivial⟩)
         simp only [go_sem]
         refine eK J () trivial ⟨by simp only [zla,zkr,zkm,gz,hnB];omega,by rw [← hHB];repeat first|exact .refl _|refine .push ?_ _,by rw [← hHB];exact hcl1,?_,?_⟩
         ·(simp [ltF,zla,znj,hnB];try omega)
         ·simp [aI,wk2,wk1,wkM,Fr.get]
      ·intro _ _
       dsimp only
       rw [← hHB]
       simp only [cr,bv,bhq,Nat.reduceMod,Nat.reduceDiv,bc,bf,bg,bX,bh,bV,bQ,bT,bU,yaq,yar,yao,yap,go_sem,br]
       simp only [cr,bv,bhq,Nat.reduceMod,Nat.reduceDiv,bc,bf,bg,bX,bh,bV,bQ,bT,bU,yaq,yar,yao,yap,go_sem,br,sI]
       simp (disch:=first|exact Zd|omega) [↓zmk,beq,ybc,ybd,ybe,ag,wk,wk2,wk1,wkM,wkL,au,ybf,hcl,yw,sI,uu]
       first|done|repeat first|exact .refl _|refine .push ?_ _
def ns:List AV→AHeap→(AV→Prop)→Prop
 |[.slice _ 1 l,.int .i64 n],_,K=>∃ xs:List Int,(l=inL xs∧xs.length≤1000000)∧K (.int .i64 (ixP (fun x=>x==n) xs 0))
 |_,_,_=>False
theorem qG:EntOk Tryz.prog 82 (Ent.pure ns):=by
 refine EntOk.pure fun args H K h=>?_
 unfold ns at h
 split at h
 rotate_left
 ·exact h.elim
 rename_i m l n
 obtain ⟨xs,⟨rfl,hl⟩,hK⟩:=h
 refine ⟨_,hK,?_⟩
 clear hK
 generalize hR:ixP (fun x:Int=>x==n) xs 0=R
 refine ACalls.fW aB TblOk.nil Tryz.func82 [.tmp 4] (Nat.le_refl _) (T:=aA []) (h:=fun hcl hlt=>?_)
 have hm:AV.lt H.nx (.slice m 1 (inL xs)):=hlt _ (by simp)
 clear hlt
 simp only [go_sem,Id]
 refine ay (A:=Nat) (fun k=>[(1,.int .i64 n),(7,.slice m 1 (inL xs)),(8,.int .i64 (xs.length:Int)),(9,.int .i64 (k:Int))]) (fun _=>H) (fun k=>k≤xs.length∧ixP (fun x:Int=>x==n) (xs.drop k) k=R) (fun k=>xs.length - k) 0 ⟨by omega,hR⟩ ?_ fun k hk=>?_
 ·refine ⟨Nat.le_refl _,AHeap.Le.refl _,hcl,?_,?_⟩
  ·simp [ltF,znb,hm]
  ·simp [aI,wk2,wk1,wkM,Fr.get]
 clear hR
 obtain ⟨hk,hR⟩:=hk
 simp only [go_sem]
 refine aq (fun hc=>?_) (fun hc=>?_)
 ·have hk':k<xs.length:=by simp at hc;omega
  obtain ⟨x,hx⟩:∃ x,x=xs[k]:=⟨_,rfl⟩
  have hd:xs.drop k=x::xs.drop (k+1):=by rw [hx];exact List.drop_eq_getElem_cons hk'
  have hg:=cl (f:=AV.int .i64) (l:=xs) (k:=k) (x:=x) (by rw [List.getElem?_eq_getElem hk',hx])
  have e5:IntKind.i64.wrap ((k:Int)+1)=((k+1:Nat):Int):=by rw [wrap_i64]<;>omega
  rw [hd] at hR
  unfold ixP at hR
  simp only [go_sem,Int.toNat_natCast,inL,hg,ybb]
  (repeat with_reducible refine And.intro (by first|exact True.intro|decide|omega|(simp [zim,zgm,zgn,zgo,zgq,zgp,zgu];first|done|omega)) ?_)
  refine aq (fun hq=>?_) (fun hq=>?_)
  ·rw [if_pos hq] at hR
   subst hR
   simp only [go_sem]
   exact Z0
  ·rw [if_neg (by rw [hq];decide)] at hR
   simp only [go_sem,e5]
   unfold inL at hm
   refine ⟨k+1,⟨by omega,hR⟩,by omega,Nat.le_refl _,AHeap.Le.refl _,hcl,?_,?_⟩
   ·simp [ltF,znb,hm]
   ·simp [aI,wk2,wk1,wkM,Fr.get]
 ·have hk':k=xs.length:=by simp at hc;omega
  subst hk'
  rw [List.drop_length] at hR
  unfold ixP at hR
  subst hR
  simp only [go_sem]
  exact Z0
def pn:List AV→AHeap→(AV→Prop)→Prop
 |[.agg l,.int .i64 n],_,K=>∃ S:Sch,(l=br S∧SLen S)∧K (.int .i64 (ixP (fun t:STable=>t.id==n) S.tables 0))
 |_,_,_=>False
theorem yC:EntOk Tryz.prog 29 (Ent.pure pn):=by
 refine EntOk.pure fun args H K h=>?_
 unfold pn at h
 split at h
 rotate_left
 ·exact h.elim
 rename_i l n
 obtain ⟨S,⟨rfl,hS⟩,hK⟩:=h
 refine ⟨_,hK,?_⟩
 clear hK
 refine ACalls.fW aB (TblOk.cons wS (TblOk.cons qG TblOk.nil)) Tryz.func29 [.tmp 4] (Nat.le_refl _) (T:=aA []) (h:=fun hcl hlt=>?_)
 clear hlt
 simp only [go_sem,br,tJ]
 (repeat with_reducible refine And.intro (by first|exact True.intro|decide|omega|(simp [zim,zgm,zgn,zgo,zgq,zgp,zgu];first|done|omega)) ?_)
 refine ⟨S,⟨rfl,hS⟩,?_⟩
 try simp only [bv,go_sem,yw,sI,ns]
 (repeat with_reducible refine And.intro (by first|exact True.intro|decide|omega|(simp [zim,zgm,zgn,zgo,zgq,zgp,zgu];first|done|omega)) ?_)
 refine ⟨_,⟨rfl,by have h1:=hS.fl;have h2:=hS.tl;simpa using (by assumption)⟩,?_⟩
 rw [sy]
 try simp only [bv,go_sem]
 simp (disch:=first|exact Zd|omega) [↓zmk,beq,ybc,ybd,ybe,ag,wk,wk2,wk1,wkM,wkL,au,ybf,hcl]
 first|done|repeat first|exact .refl _|refine .push ?_ _
def l4:List AV→AHeap→(AV→Prop)→Prop
 |[.agg l,.int .i64 n],_,K=>∃ S:Sch,(l=br S∧SLen S)∧K (.int .i64 (ixP (fun t:SField=>t.id==n) S.fields 0))
 |_,_,_=>False
theorem sc:EntOk Tryz.prog 31 (Ent.pure l4):=by
 refine EntOk.pure fun args H K h=>?_
 unfold l4 at h
 split at h
 rotate_left
 ·exact h.elim
 rename_i l n
 obtain ⟨S,⟨rfl,hS⟩,hK⟩:=h
 refine ⟨_,hK,?_⟩
 clear hK
 refine ACalls.fW aB (TblOk.cons wS (TblOk.cons qG TblOk.nil)) Tryz.func31 [.tmp 4] (Nat.le_refl _) (T:=aA []) (h:=fun hcl hlt=>?_)
 clear hlt
 simp only [go_sem,br,tJ]
 (repeat with_reducible refine And.intro (by first|exact True.intro|decide|omega|(simp [zim,zgm,zgn,zgo,zgq,zgp,zgu];first|done|omega)) ?_)
 refine ⟨S,⟨rfl,hS⟩,?_⟩
 try simp only [bv,go_sem,yw,sI,ns]
 (repeat with_reducible refine And.intro (by first|exact True.intro|decide|omega|(simp [zim,zgm,zgn,zgo,zgq,zgp,zgu];first|done|omega)) ?_)
 refine ⟨_,⟨rfl,by have h1:=hS.fl;have h2:=hS.tl;simpa using (by assumption)⟩,?_⟩
 rw [sy]
 try simp only [bv,go_sem]
 simp (disch:=first|exact Zd|omega) [↓zmk,beq,ybc,ybd,ybe,ag,wk,wk2,wk1,wkM,wkL,au,ybf,hcl]
 first|done|repeat first|exact .refl _|refine .push ?_ _
end Go.AL
