/- Lemmas of the proof; no condition. -/
import Derived.Test.YtjnhidpnfdbmaaaGreatS10n
set_option linter.all false
set_option maxRecDepth 10000
open List renaming take_zero → yar, nil_append → yak, drop_eq_nil_of_le → ybf, append_nil → yaj, length_cons → yaz, length_nil → yba, cons_append → yal, take_of_length_le → ybc, take_succ_cons → yaq, drop_succ_cons → yao, drop_zero → yap, length_map → ybb, drop_append → ybd, take_append → ybe
open Go Go.AL Go.Proofs
namespace Go.AL
theorem Jy:ti Tryz.prog 113=some ⟨.array 6 50,6,144,.agg [.slice .nil 1 [],.slice .nil 1 [],.slice .nil 1 [],.slice .nil 1 [],.slice .nil 1 [],.slice .nil 1 []]⟩:=by kernel_rfl
attribute [go_sem] Jy
theorem BT {l:List Int}:(inL l).length=l.length:=by simp [inL]
def sI (l:List Int):AV:=.slice .any 1 (inL l)
theorem Kw {n:Nat} {l:List Int}:AV.lt n (sI l):=lB
theorem G8:∀ l:List Int,r7 (inL l) (inL l)
 |[]=>by simp [inL,bY]
 |x::l=>by
  have:=G8 l
  unfold inL at this ⊢
  simp [dH,AV.cells,bO,ce,gr,this]
theorem il {m:Mark} {l:List Int}:wkD (.slice m 1 (inL l)) (sI l):=by
 unfold sI
 rw [bN]
 exact .inl ⟨.inl rfl,rfl,G8 l⟩
theorem nk {n:Nat} {l:List Int}:ltL n (inL l):=ltL_iff.2 fun j hj=>by
 simp [inL,znf]
theorem iO {H:AHeap} {c cs:List AV} {x y z:AObj} (h:((((H.push (.cells c)).push x).push y).push z).Closed) (hl:ltL (H.nx+1+1+1+1) cs):((((H.push (.cells cs)).push x).push y).push z).Closed:=by
 have h1:((((H.push (.cells c)).push x).push y).push z).set H.nx (.cells cs)=(((H.push (.cells cs)).push x).push y).push z:=by
  simp only [zli,zle]
  rw [if_neg (by omega),if_neg (by omega),if_neg (by omega),if_pos trivial]
 rw [← h1]
 exact aj h (by simpa only [zle] using hl)
structure SLen (S:Sch):Prop where
 fl:S.fields.length≤1000000
 hl:S.headers.length≤1000000
 sl:S.states.length≤1000000
 al:S.actions.length≤1000000
 tl:S.tables.length≤1000000
 rl:S.roles.length≤1000000
def HQ (S:Sch):AV:=.agg [sI (S.fields.map (·.id)),sI (S.headers.map (·.id)),sI (S.states.map (·.id)),sI (S.actions.map (·.id)),sI (S.tables.map (·.id)),sI (S.roles.map (·.id))]
abbrev q60 (S:Sch) (o:AV):List AV:=[o,.slice .nil 1 [],.slice .nil 1 [],.slice .nil 1 [],.slice .nil 1 [],.slice .nil 1 []]
abbrev q61 (S:Sch) (o:AV):List AV:=[sI (S.fields.map (·.id)),o,.slice .nil 1 [],.slice .nil 1 [],.slice .nil 1 [],.slice .nil 1 []]
abbrev q62 (S:Sch) (o:AV):List AV:=[sI (S.fields.map (·.id)),sI (S.headers.map (·.id)),o,.slice .nil 1 [],.slice .nil 1 [],.slice .nil 1 []]
abbrev q63 (S:Sch) (o:AV):List AV:=[sI (S.fields.map (·.id)),sI (S.headers.map (·.id)),sI (S.states.map (·.id)),o,.slice .nil 1 [],.slice .nil 1 []]
abbrev q64 (S:Sch) (o:AV):List AV:=[sI (S.fields.map (·.id)),sI (S.headers.map (·.id)),sI (S.states.map (·.id)),sI (S.actions.map (·.id)),o,.slice .nil 1 []]
abbrev q65 (S:Sch) (o:AV):List AV:=[sI (S.fields.map (·.id)),sI (S.headers.map (·.id)),sI (S.states.map (·.id)),sI (S.actions.map (·.id)),sI (S.tables.map (·.id)),o]
abbrev q66 (S:Sch) (o:AV):List AV:=[sI (S.fields.map (·.id)),sI (S.headers.map (·.id)),sI (S.states.map (·.id)),sI (S.actions.map (·.id)),sI (S.tables.map (·.id)),sI (S.roles.map (·.id))]
theorem iu {zs cs:List AV} (h:zs.length=cs.length):splice zs 0 cs=cs:=by
 rw [fh zs cs 0 (by omega),yar,yak,ybf (by omega),yaj]
def hdC {α:Type} (av:α→AV):List α→List AV
 |x::_=>(av x).cells
 |[]=>[]
theorem qy {α:Type} {av:α→AV} (h:∀ (n:Nat) (x:α),(av x).lt n):∀ (l:List α) (m:Nat),ltL m (hdC av l)
 |x::_,m=>ltL_iff.2 fun j hj=>AV.lt_cells (h m x) j hj
 |[],m=>by unfold hdC;rw [znv];trivial
theorem qL {α:Type} {av:α→AV}:∀ {l:List α} (h:0<l.length),hdC av l=(av l[0]).cells
 |_::_,_=>rfl
theorem nt {α:Type} {p:Prop} (ts:List α) (av:α→AV) (idf:α→Int) (sz a b c:Nat) (XO:AV→List AV) (XN:List AV) (pf:Fr) (hle:ts.length≤1000000) (hlt:∀ {n:Nat} (x:α),(av x).lt n) (hag:∀ x,∃ cs,av x=.agg (.int .i64 (idf x)::cs)∧cs.length+1=sz∧bf cs=true)
 (h:∀ (ts':List α) (av':α→AV) (idf':α→Int) (sz' a' b' c':Nat) (XO':AV→List AV) (XN':List AV) (pf':Fr),ts'=ts→av'=av→idf'=idf→sz'=sz→a'=a→b'=b→c'=c→XO'=XO→XN'=XN→pf'=pf→ts'.length≤1000000→(∀ (n:Nat) (x:α),(av' x).lt n)→(∀ x,∃ cs,av' x=.agg (.int .i64 (idf' x)::cs)∧cs.length+1=sz'∧bf cs=true)→(∀ n v,AV.lt n v→ltL n (XO' v))→(∀ n,ltL n XN')→p)
 (hXO:∀ n v,AV.lt n v→ltL n (XO v):=by intro n v h;simp [znu,znv,aF,Kw,h]) (hXN:∀ n,ltL n XN:=by intro n;simp [znu,znv,aF,Kw]):p :=
 h _ _ _ _ _ _ _ _ _ _ rfl rfl rfl rfl rfl rfl rfl rfl rfl rfl hle (fun _ x=>hlt x) hag hXO hXN
def Aa:List AV→AHeap→(AV→Prop)→Prop
 |[.agg l],_,K=>∃ S:Sch,(l=aW S∧SLen S)∧K (HQ S)
 |_,_,_=>False
set_option maxHeartbeats 8000000 in
theorem IW:EntOk Tryz.prog 62 (Ent.pure Aa):=by
 refine Ype fun _ H K h=>?_
 unfold Aa at h
 split at h
 rotate_left
 ·exact h.elim
 rename_i l
 obtain ⟨S,⟨rfl,h1,h2,h3,h4,h5,h6⟩,hK⟩:=h
 refine ⟨_,hK,?_⟩
 clear hK
 refine ACalls.fW au tNq Tryz.func62 [.cell 2 113] (nrq _) (T:=aq [(7,[[1,1]]),(12,[[1,1]]),(17,[[1,1]]),(22,[[1,1]]),(27,[[1,1]]),(32,[[1,1]])]) (h:=fun hcl hlt=>?_)
 clear hlt
 have nl:([.slice .nil 1 [],.slice .nil 1 [],.slice .nil 1 [],.slice .nil 1 [],.slice .nil 1 [],.slice .nil 1 []]:List AV).length=6:=rfl
 obtain ⟨HB,hHB⟩:∃ HB,(H.push (.cells (aW S))).push (.cells [.slice .nil 1 [],.slice .nil 1 [],.slice .nil 1 [],.slice .nil 1 [],.slice .nil 1 [],.slice .nil 1 []])=HB:=⟨_,rfl⟩
 have hclB:HB.Closed:=by
  rw [← hHB]
  refine aa (aa hcl (ltL_iff.2 fun j hj=>AV.lt_cells (qH S) j hj)) ?_
  simp [znu,znv,aF]
 have hnB:HB.nx=H.nx+1+1:=by rw [← hHB];rfl
 simp only [go_sem,aW]
 apply jA (α:=Unit) (fun _=>[(1,.ptr H.nx 0),(2,.ptr (H.nx+1) 0),(3,.ptr (H.nx+1+1) 0)]) (fun _=>HB.push (.cells (q61 S (.slice .nil 1 [])))) (fun _=>True)
 ·intro J
  refine nt S.fields cn (·.id) 3 17 18 19 (q60 S) (q61 S (.slice .nil 1 [])) [(1,.ptr H.nx 0)] h1 mR (fun _=>⟨_,rfl,rfl,rfl⟩) fun ts av idf sz a b c XO XN pf e1 e2 e3 e4 e5 e6 e7 e8 e9 e10 hle hlt hag hXO hXN=>?_
  have hlm:∀ n,AV.lt n (.slice .any sz (ts.map av)):=fun n=>a8 (hlt n)
  obtain ⟨C0,hC0⟩:∃ C0:List AV,C0=hdC av ts:=⟨_,rfl⟩
  have hC0l:∀ m,ltL m C0:=fun m=>by rw [hC0];exact qy hlt ts m
  obtain ⟨ow,how⟩:∃ ow:Nat→AV,ow=fun k=>.slice (.own (H.nx+1+1+1+1+1)) 1 (inL ((ts.take k).map idf)):=⟨_,rfl⟩
  have hwl:∀ n k,H.nx+1+1+1+1+1<n→(ow k).lt n:=fun n k h=>by rw [how];simp [aF,nk,h]
  obtain ⟨HL,hHL⟩:∃ HL:Nat→AHeap,HL=fun k=>if k=0 then HB.push (.cells (XO (.slice .nil 1 []))) else (((HB.push (.cells (XO (ow k)))).push (.cells C0)).push (.buf 1 1)).push (.buf 1 k):=⟨_,rfl⟩
  have hL0:HL 0=HB.push (.cells (XO (.slice .nil 1 []))):=by rw [hHL];rfl
  have hLk:∀ k,k≠0→HL k=(((HB.push (.cells (XO (ow k)))).push (.cells C0)).push (.buf 1 1)).push (.buf 1 k):=fun k h=>by rw [hHL];exact if_neg h
  have hclL:∀ k,(HL k).Closed:=fun k=>by
   by_cases h:k=0
   ·rw [h,hL0]
    exact aa hclB (hXO _ _ (by simp [aF,znv]))
   ·rw [hLk k h]
    refine iO (c:=XO (.slice .nil 1 [])) (ag (ag (aa (aa hclB (hXO _ _ (by simp [aF,znv]))) (hC0l _)))) ?_
    exact hXO _ _ (hwl _ _ (by rw [hnB];omega))
  have hnL:∀ k,H.nx+1+1+1≤(HL k).nx:=fun k=>by
   by_cases h:k=0
   ·rw [h,hL0,zle,hnB];omega
   ·rw [hLk k h];simp only [zle,hnB];omega
  refine az (A:=Nat) (fun k=>pf++[(2,.ptr (H.nx+1) 0),(3,.ptr (H.nx+1+1) 0),(a,.slice .any sz (ts.map av)),(b,.int .i64 (ts.length:Int)),(c,.int .i64 (k:Int))]) HL (fun k=>k≤ts.length) (fun k=>ts.length - k) 0 (by omega) ?_ fun k hk=>?_
  ·have hc0:=hclL 0
   rw [hL0,← hHB] at hc0 ⊢
   subst e1 e2 e3 e4 e5 e6 e7 e8 e9 e10
   refine ⟨by simp only [zle,zkq,zkv];omega,lRq _,hc0,?_,?_⟩
   ·simp [ltF,zle,znn,znf,hlm]
    try omega
   ·simp [aJ,wk2,wk1,wkM,Fr.get]
  subst e4 e5 e6 e7 e10
  simp only [go_sem,yal,yak]
  refine ai (fun hc=>?_) (fun hc=>?_)
  ·have hk':k<ts.length:=by simp at hc;omega
   obtain ⟨x,hx⟩:∃ x,x=ts[k]:=⟨_,rfl⟩
   have hxg:=aU (f:=av) (l:=ts) (k:=k) (x:=x) (by rw [gQq hk',hx])
   have ek:IntKind.i64.wrap ((k:Int)+1)=((k+1:Nat):Int):=by rw [wrap_i64]<;>omega
   have htk:ts.take (k+1)=ts.take k++[x]:=by rw [hx,List.take_succ_eq_append_getElem hk']
   have hil:inL ((ts.take k).map idf)++[.int .i64 (idf x)]=inL ((ts.take (k+1)).map idf):=by rw [htk];simp [inL]
   have hll:(inL ((ts.take k).map idf)).length=k:=by simp [inL];omega
   obtain ⟨cs,hcs,hcl3,hall⟩:=hag x
   have hts:List.take (cs.length+1) (AV.int .i64 (idf x)::cs)=AV.int .i64 (idf x)::cs:=ybc (by simp)
   have hsp:∀ zs:List AV,zs.length=(AV.int .i64 (idf x)::cs).length→splice zs 0 (AV.int .i64 (idf x)::cs)=AV.int .i64 (idf x)::cs:=fun zs hz=>iu hz
   have hall2:bf (AV.int .i64 (idf x)::cs)=true:=hall
   rw [hcs] at hxg
   rw [yaz,hcl3] at hsp
   rw [hcl3] at hts
   by_cases h0:k=0
   ·subst h0
    have hC1:C0=AV.int .i64 (idf x)::cs:=by rw [hC0,qL hk',← hx,hcs];rfl
    have how1:ow 1=.slice (.own (H.nx+1+1+1+1+1)) 1 [.int .i64 (idf x)]:=by rw [how];dsimp only;rw [← hil];rfl
    have hcl1:=hclL 1
    rw [hLk 1 (by decide),← hHB,hC1,how1] at hcl1
    rw [hL0,← hHB]
    have hL1:=hLk 1 (by decide)
    rw [← hHB,hC1,how1] at hL1
    subst e8
    try dsimp only at hcl1 hL1 ⊢
    simp only [aW] at hcl1 hL1
    simp only [aZ,aH,bhq,Nat.reduceMod,Nat.reduceDiv,aC,aB,aE,aS,aD,aR,aO,aP,aQ,yaq,yar,yao,yap,go_sem,aW,iNq,ybb,yaz,yba,hxg,hcl3,hts,hsp,hall2,if_true,yal,yak,ek]
    refine ⟨⟨by omega,by omega⟩,⟨by omega,by omega⟩,fun z hz=>by rw [List.mem_singleton.1 hz];rfl,⟨by omega,by omega⟩,1,by omega,by omega,?_⟩
    rw [hL1]
    refine ⟨by simp only [zle];omega,by repeat first|exact .refl _|refine .push ?_ _,hcl1,?_,?_⟩
    ·simp [ltF,zle,znn,znf,hlm]
     try omega
    ·simp [aJ,wk2,wk1,wkM,Fr.get]
   ·have how1:ow k=.slice (.own (H.nx+1+1+1+1+1)) 1 (inL ((ts.take k).map idf)):=by rw [how]
    have how2:ow (k+1)=.slice (.own (H.nx+1+1+1+1+1)) 1 (inL ((ts.take k).map idf)++[.int .i64 (idf x)]):=by rw [how,hil]
    have hcl1:=hclL (k+1)
    have hL1:=hLk (k+1) (by omega)
    rw [← hHB,how2] at hL1
    rw [hL1] at hcl1
    rw [hLk k h0,← hHB,how1]
    subst e8
    try dsimp only at hcl1 hL1 ⊢
    simp only [aW] at hcl1 hL1
    simp only [aZ,aH,bhq,Nat.reduceMod,Nat.reduceDiv,aC,aB,aE,aS,aD,aR,aO,aP,aQ,yaq,yar,yao,yap,go_sem,aW,iNq,ybb,yaz,yba,hxg,hcl3,hts,hsp,hall2,if_true,yal,yak,ek]
    refine ⟨⟨by omega,by omega⟩,⟨by omega,by omega⟩,⟨by rw [hll],by rw [hll];omega,by rw [hll];omega,fun z hz=>by rw [List.mem_singleton.1 hz];rfl⟩,⟨by omega,by omega⟩,k+1,by omega,by omega,?_⟩
    rw [hL1,hll]
    refine ⟨by simp only [zle];omega,by repeat first|exact .refl _|refine .push ?_ _,hcl1,?_,?_⟩
    ·simp [ltF,zle,znn,znf,hlm]
     try omega
    ·simp [aJ,wk2,wk1,wkM,Fr.get]
  ·have hk':k=ts.length:=by simp at hc;omega
   have hcl1:(HB.push (.cells XN)).Closed:=aa hclB (hXN _)
   rw [← hHB] at hcl1
   by_cases h0:k=0
   ·subst h0
    have hnl:ts=[]:=List.length_eq_zero_iff.1 hk'.symm
    have hnl2:ts.map idf=[]:=by rw [hnl];rfl
    rw [hL0,← hHB]
    simp only [go_sem]
    refine di (H.nx+1+1) XN (cs:=XO (.slice .nil 1 [])) (by simp only [go_sem]) ?_ ?_
    ·subst e1 e3 e8 e9
     simp only [bO,ce,and_true]
     refine ⟨?_,?_,?_,?_,?_,?_⟩
     all_goals first|exact il|(rw [hnl2];exact il (l:=[]))|(rw [bN];exact .inl ⟨.inr rfl,rfl,by rw [bY];trivial⟩)
    subst e8 e9
    simp only [go_sem]
    refine dY J () trivial ⟨by simp only [zle,zkv,zkq,gh,hnB];omega,by rw [← hHB];repeat first|exact .refl _|refine .push ?_ _,by rw [← hHB];exact hcl1,?_,?_⟩
    ·(simp [ltF,zle,znn,hnB];try omega)
    ·simp [aJ,wk2,wk1,wkM,Fr.get]
   ·have how1:ow k=.slice (.own (H.nx+1+1+1+1+1)) 1 (inL (ts.map idf)):=by rw [how,hk'];dsimp only;rw [List.take_length]
    rw [hLk k h0,← hHB,how1]
    simp only [go_sem]
    refine di (H.nx+1+1) XN (cs:=XO (.slice (.own (H.nx+1+1+1+1+1)) 1 (inL (ts.map idf)))) (by simp only [go_sem]) ?_ ?_
    ·subst e1 e3 e8 e9
     simp only [bO,ce,and_true]
     refine ⟨?_,?_,?_,?_,?_,?_⟩
     all_goals first|exact il|(rw [bN];exact .inl ⟨.inr rfl,rfl,by rw [bY];trivial⟩)
    subst e8 e9
    simp only [go_sem]
    refine dY J () trivial ⟨by simp only [zle,zkv,zkq,gh,hnB];omega,by rw [← hHB];repeat first|exact .refl _|refine .push ?_ _,by rw [← hHB];exact hcl1,?_,?_⟩
    ·(simp [ltF,zle,znn,hnB];try omega)
    ·simp [aJ,wk2,wk1,wkM,Fr.get]
 ·intro _ _
  dsimp only
  rw [← hHB]
  simp only [aZ,aH,bhq,Nat.reduceMod,Nat.reduceDiv,aC,aB,aE,aS,aD,aR,aO,aP,aQ,yaq,yar,yao,yap,go_sem,aW]
  apply jA (α:=Unit) (fun _=>[(1,.ptr H.nx 0),(2,.ptr (H.nx+1) 0),(3,.ptr (H.nx+1+1) 0)]) (fun _=>HB.push (.cells (q62 S (.slice .nil 1 [])))) (fun _=>True)
  ·intro J
   refine nt S.headers iT (·.id) 3 32 33 34 (q61 S) (q62 S (.slice .nil 1 [])) [(1,.ptr H.nx 0)] h2 qK (fun _=>⟨_,rfl,rfl,rfl⟩) fun ts av idf sz a b c XO XN pf e1 e2 e3 e4 e5 e6 e7 e8 e9 e10 hle hlt hag hXO hXN=>?_
   have hlm:∀ n,AV.lt n (.slice .any sz (ts.map av)):=fun n=>a8 (hlt n)
   obtain ⟨C0,hC0⟩:∃ C0:List AV,C0=hdC av ts:=⟨_,rfl⟩
   have hC0l:∀ m,ltL m C0:=fun m=>by rw [hC0];exact qy hlt ts m
   obtain ⟨ow,how⟩:∃ ow:Nat→AV,ow=fun k=>.slice (.own (H.nx+1+1+1+1+1)) 1 (inL ((ts.take k).map idf)):=⟨_,rfl⟩
   have hwl:∀ n k,H.nx+1+1+1+1+1<n→(ow k).lt n:=fun n k h=>by rw [how];simp [aF,nk,h]
   obtain ⟨HL,hHL⟩:∃ HL:Nat→AHeap,HL=fun k=>if k=0 then HB.push (.cells (XO (.slice .nil 1 []))) else (((HB.push (.cells (XO (ow k)))).push (.cells C0)).push (.buf 1 1)).push (.buf 1 k):=⟨_,rfl⟩
   have hL0:HL 0=HB.push (.cells (XO (.slice .nil 1 []))):=by rw [hHL];rfl
   have hLk:∀ k,k≠0→HL k=(((HB.push (.cells (XO (ow k)))).push (.cells C0)).push (.buf 1 1)).push (.buf 1 k):=fun k h=>by rw [hHL];exact if_neg h
   have hclL:∀ k,(HL k).Closed:=fun k=>by
    by_cases h:k=0
    ·rw [h,hL0]
     exact aa hclB (hXO _ _ (by simp [aF,znv]))
    ·rw [hLk k h]
     refine iO (c:=XO (.slice .nil 1 [])) (ag (ag (aa (aa hclB (hXO _ _ (by simp [aF,znv]))) (hC0l _)))) ?_
     exact hXO _ _ (hwl _ _ (by rw [hnB];omega))
   have hnL:∀ k,H.nx+1+1+1≤(HL k).nx:=fun k=>by
    by_cases h:k=0
    ·rw [h,hL0,zle,hnB];omega
    ·rw [hLk k h];simp only [zle,hnB];omega
   refine az (A:=Nat) (fun k=>pf++[(2,.ptr (H.nx+1) 0),(3,.ptr (H.nx+1+1) 0),(a,.slice .any sz (ts.map av)),(b,.int .i64 (ts.length:Int)),(c,.int .i64 (k:Int))]) HL (fun k=>k≤ts.length) (fun k=>ts.length - k) 0 (by omega) ?_ fun k hk=>?_
   ·have hc0:=hclL 0
    rw [hL0,← hHB] at hc0 ⊢
    subst e1 e2 e3 e4 e5 e6 e7 e8 e9 e10
    refine ⟨by simp only [zle,zkq,zkv];omega,lRq _,hc0,?_,?_⟩
    ·simp [ltF,zle,znn,znf,hlm]
     try omega
    ·simp [aJ,wk2,wk1,wkM,Fr.get]
   subst e4 e5 e6 e7 e10
   simp only [go_sem,yal,yak]
   refine ai (fun hc=>?_) (fun hc=>?_)
   ·have hk':k<ts.length:=by simp at hc;omega
    obtain ⟨x,hx⟩:∃ x,x=ts[k]:=⟨_,rfl⟩
    have hxg:=aU (f:=av) (l:=ts) (k:=k) (x:=x) (by rw [gQq hk',hx])
    have ek:IntKind.i64.wrap ((k:Int)+1)=((k+1:Nat):Int):=by rw [wrap_i64]<;>omega
    have htk:ts.take (k+1)=ts.take k++[x]:=by rw [hx,List.take_succ_eq_append_getElem hk']
    have hil:inL ((ts.take k).map idf)++[.int .i64 (idf x)]=inL ((ts.take (k+1)).map idf):=by rw [htk];simp [inL]
    have hll:(inL ((ts.take k).map idf)).length=k:=by simp [inL];omega
    obtain ⟨cs,hcs,hcl3,hall⟩:=hag x
    have hts:List.take (cs.length+1) (AV.int .i64 (idf x)::cs)=AV.int .i64 (idf x)::cs:=ybc (by simp)
    have hsp:∀ zs:List AV,zs.length=(AV.int .i64 (idf x)::cs).length→splice zs 0 (AV.int .i64 (idf x)::cs)=AV.int .i64 (idf x)::cs:=fun zs hz=>iu hz
    have hall2:bf (AV.int .i64 (idf x)::cs)=true:=hall
    rw [hcs] at hxg
    rw [yaz,hcl3] at hsp
    rw [hcl3] at hts
    by_cases h0:k=0
    ·subst h0
     have hC1:C0=AV.int .i64 (idf x)::cs:=by rw [hC0,qL hk',← hx,hcs];rfl
     have how1:ow 1=.slice (.own (H.nx+1+1+1+1+1)) 1 [.int .i64 (idf x)]:=by rw [how];dsimp only;rw [← hil];rfl
     have hcl1:=hclL 1
     rw [hLk 1 (by decide),← hHB,hC1,how1] at hcl1
     rw [hL0,← hHB]
     have hL1:=hLk 1 (by decide)
     rw [← hHB,hC1,how1] at hL1
     subst e8
     try dsimp only at hcl1 hL1 ⊢
     simp only [aW] at hcl1 hL1
     simp only [aZ,aH,bhq,Nat.reduceMod,Nat.reduceDiv,aC,aB,aE,aS,aD,aR,aO,aP,aQ,yaq,yar,yao,yap,go_sem,aW,iNq,ybb,yaz,yba,hxg,hcl3,hts,hsp,hall2,if_true,yal,yak,ek]
     refine ⟨⟨by omega,by omega⟩,⟨by omega,by omega⟩,fun z hz=>by rw [List.mem_singleton.1 hz];rfl,⟨by omega,by omega⟩,1,by omega,by omega,?_⟩
     rw [hL1]
     refine ⟨by simp only [zle];omega,by repeat first|exact .refl _|refine .push ?_ _,hcl1,?_,?_⟩
     ·simp [ltF,zle,znn,znf,hlm]
      try omega
     ·simp [aJ,wk2,wk1,wkM,Fr.get]
    ·have how1:ow k=.slice (.own (H.nx+1+1+1+1+1)) 1 (inL ((ts.take k).map idf)):=by rw [how]
     have how2:ow (k+1)=.slice (.own (H.nx+1+1+1+1+1)) 1 (inL ((ts.take k).map idf)++[.int .i64 (idf x)]):=by rw [how,hil]
     have hcl1:=hclL (k+1)
     have hL1:=hLk (k+1) (by omega)
     rw [← hHB,how2] at hL1
     rw [hL1] at hcl1
     rw [hLk k h0,← hHB,how1]
     subst e8
     try dsimp only at hcl1 hL1 ⊢
     simp only [aW] at hcl1 hL1
     simp only [aZ,aH,bhq,Nat.reduceMod,Nat.reduceDiv,aC,aB,aE,aS,aD,aR,aO,aP,aQ,yaq,yar,yao,yap,go_sem,aW,iNq,ybb,yaz,yba,hxg,hcl3,hts,hsp,hall2,if_true,yal,yak,ek]
     refine ⟨⟨by omega,by omega⟩,⟨by omega,by omega⟩,⟨by rw [hll],by rw [hll];omega,by rw [hll];omega,fun z hz=>by rw [List.mem_singleton.1 hz];rfl⟩,⟨by omega,by omega⟩,k+1,by omega,by omega,?_⟩
     rw [hL1,hll]
     refine ⟨by simp only [zle];omega,by repeat first|exact .refl _|refine .push ?_ _,hcl1,?_,?_⟩
     ·simp [ltF,zle,znn,znf,hlm]
      try omega
     ·simp [aJ,wk2,wk1,wkM,Fr.get]
   ·have hk':k=ts.length:=by simp at hc;omega
    have hcl1:(HB.push (.cells XN)).Closed:=aa hclB (hXN _)
    rw [← hHB] at hcl1
    by_cases h0:k=0
    ·subst h0
     have hnl:ts=[]:=List.length_eq_zero_iff.1 hk'.symm
     have hnl2:ts.map idf=[]:=by rw [hnl];rfl
     rw [hL0,← hHB]
     simp only [go_sem]
     refine di (H.nx+1+1) XN (cs:=XO (.slice .nil 1 [])) (by simp only [go_sem]) ?_ ?_
     ·subst e1 e3 e8 e9
      simp only [bO,ce,and_true]
      refine ⟨?_,?_,?_,?_,?_,?_⟩
      all_goals first|exact il|(rw [hnl2];exact il (l:=[]))|(rw [bN];exact .inl ⟨.inr rfl,rfl,by rw [bY];trivial⟩)
     subst e8 e9
     simp only [go_sem]
     refine dY J () trivial ⟨by simp only [zle,zkv,zkq,gh,hnB];omega,by rw [← hHB];repeat first|exact .refl _|refine .push ?_ _,by rw [← hHB];exact hcl1,?_,?_⟩
     ·(simp [ltF,zle,znn,hnB];try omega)
     ·simp [aJ,wk2,wk1,wkM,Fr.get]
    ·have how1:ow k=.slice (.own (H.nx+1+1+1+1+1)) 1 (inL (ts.map idf)):=by rw [how,hk'];dsimp only;rw [List.take_length]
     rw [hLk k h0,← hHB,how1]
     simp only [go_sem]
     refine di (H.nx+1+1) XN (cs:=XO (.slice (.own (H.nx+1+1+1+1+1)) 1 (inL (ts.map idf)))) (by simp only [go_sem]) ?_ ?_
     ·subst e1 e3 e8 e9
      simp only [bO,ce,and_true]
      refine ⟨?_,?_,?_,?_,?_,?_⟩
      all_goals first|exact il|(rw [bN];exact .inl ⟨.inr rfl,rfl,by rw [bY];trivial⟩)
     subst e8 e9
     simp only [go_sem]
     refine dY J () trivial ⟨by simp only [zle,zkv,zkq,gh,hnB];omega,by rw [← hHB];repeat first|exact .refl _|refine .push ?_ _,by rw [← hHB];exact hcl1,?_,?_⟩
     ·(simp [ltF,zle,znn,hnB];try omega)
     ·simp [aJ,wk2,wk1,wkM,Fr.get]
  ·intro _ _
   dsimp only
   rw [← hHB]
   simp only [aZ,aH,bhq,Nat.reduceMod,Nat.reduceDiv,aC,aB,aE,aS,aD,aR,aO,aP,aQ,yaq,yar,yao,yap,go_sem,aW]
   apply jA (α:=Unit) (fun _=>[(1,.ptr H.nx 0),(2,.ptr (H.nx+1) 0),(3,.ptr (H.nx+1+1) 0)]) (fun _=>HB.push (.cells (q63 S (.slice .nil 1 [])))) (fun _=>True)
   ·intro J
    refine nt S.states dU (·.id) 5 47 48 49 (q62 S) (q63 S (.slice .nil 1 [])) [(1,.ptr H.nx 0)] h3 fA (fun _=>⟨_,rfl,rfl,rfl⟩) fun ts av idf sz a b c XO XN pf e1 e2 e3 e4 e5 e6 e7 e8 e9 e10 hle hlt hag hXO hXN=>?_
    have hlm:∀ n,AV.lt n (.slice .any sz (ts.map av)):=fun n=>a8 (hlt n)
    obtain ⟨C0,hC0⟩:∃ C0:List AV,C0=hdC av ts:=⟨_,rfl⟩
    have hC0l:∀ m,ltL m C0:=fun m=>by rw [hC0];exact qy hlt ts m
    obtain ⟨ow,how⟩:∃ ow:Nat→AV,ow=fun k=>.slice (.own (H.nx+1+1+1+1+1)) 1 (inL ((ts.take k).map idf)):=⟨_,rfl⟩
    have hwl:∀ n k,H.nx+1+1+1+1+1<n→(ow k).lt n:=fun n k h=>by rw [how];simp [aF,nk,h]
    obtain ⟨HL,hHL⟩:∃ HL:Nat→AHeap,HL=fun k=>if k=0 then HB.push (.cells (XO (.slice .nil 1 []))) else (((HB.push (.cells (XO (ow k)))).push (.cells C0)).push (.buf 1 1)).push (.buf 1 k):=⟨_,rfl⟩
    have hL0:HL 0=HB.push (.cells (XO (.slice .nil 1 []))):=by rw [hHL];rfl
    have hLk:∀ k,k≠0→HL k=(((HB.push (.cells (XO (ow k)))).push (.cells C0)).push (.buf 1 1)).push (.buf 1 k):=fun k h=>by rw [hHL];exact if_neg h
    have hclL:∀ k,(HL k).Closed:=fun k=>by
     by_cases h:k=0
     ·rw [h,hL0]
      exact aa hclB (hXO _ _ (by simp [aF,znv]))
     ·rw [hLk k h]
      refine iO (c:=XO (.slice .nil 1 [])) (ag (ag (aa (aa hclB (hXO _ _ (by simp [aF,znv]))) (hC0l _)))) ?_
      exact hXO _ _ (hwl _ _ (by rw [hnB];omega))
    have hnL:∀ k,H.nx+1+1+1≤(HL k).nx:=fun k=>by
     by_cases h:k=0
     ·rw [h,hL0,zle,hnB];omega
     ·rw [hLk k h];simp only [zle,hnB];omega
    refine az (A:=Nat) (fun k=>pf++[(2,.ptr (H.nx+1) 0),(3,.ptr (H.nx+1+1) 0),(a,.slice .any sz (ts.map av)),(b,.int .i64 (ts.length:Int)),(c,.int .i64 (k:Int))]) HL (fun k=>k≤ts.length) (fun k=>ts.length - k) 0 (by omega) ?_ fun k hk=>?_
    ·have hc0:=hclL 0
     rw [hL0,← hHB] at hc0 ⊢
     subst e1 e2 e3 e4 e5 e6 e7 e8 e9 e10
     refine ⟨by simp only [zle,zkq,zkv];omega,lRq _,hc0,?_,?_⟩
     ·simp [ltF,zle,znn,znf,hlm]
      try omega
     ·simp [aJ,wk2,wk1,wkM,Fr.get]
    subst e4 e5 e6 e7 e10
    simp only [go_sem,yal,yak]
    refine ai (fun hc=>?_) (fun hc=>?_)
    ·have hk':k<ts.length:=by simp at hc;omega
     obtain ⟨x,hx⟩:∃ x,x=ts[k]:=⟨_,rfl⟩
     have hxg:=aU (f:=av) (l:=ts) (k:=k) (x:=x) (by rw [gQq hk',hx])
     have ek:IntKind.i64.wrap ((k:Int)+1)=((k+1:Nat):Int):=by rw [wrap_i64]<;>omega
     have htk:ts.take (k+1)=ts.take k++[x]:=by rw [hx,List.take_succ_eq_append_getElem hk']
     have hil:inL ((ts.take k).map idf)++[.int .i64 (idf x)]=inL ((ts.take (k+1)).map idf):=by rw [htk];simp [inL]
     have hll:(inL ((ts.take k).map idf)).length=k:=by simp [inL];omega
     obtain ⟨cs,hcs,hcl3,hall⟩:=hag x
     have hts:List.take (cs.length+1) (AV.int .i64 (idf x)::cs)=AV.int .i64 (idf x)::cs:=ybc (by simp)
     have hsp:∀ zs:List AV,zs.length=(AV.int .i64 (idf x)::cs).length→splice zs 0 (AV.int .i64 (idf x)::cs)=AV.int .i64 (idf x)::cs:=fun zs hz=>iu hz
     have hall2:bf (AV.int .i64 (idf x)::cs)=true:=hall
     rw [hcs] at hxg
     rw [yaz,hcl3] at hsp
     rw [hcl3] at hts
     by_cases h0:k=0
     ·subst h0
      have hC1:C0=AV.int .i64 (idf x)::cs:=by rw [hC0,qL hk',← hx,hcs];rfl
      have how1:ow 1=.slice (.own (H.nx+1+1+1+1+1)) 1 [.int .i64 (idf x)]:=by rw [how];dsimp only;rw [← hil];rfl
      have hcl1:=hclL 1
      rw [hLk 1 (by decide),← hHB,hC1,how1] at hcl1
      rw [hL0,← hHB]
      have hL1:=hLk 1 (by decide)
      rw [← hHB,hC1,how1] at hL1
      subst e8
      try dsimp only at hcl1 hL1 ⊢
      simp only [aW] at hcl1 hL1
      simp only [aZ,aH,bhq,Nat.reduceMod,Nat.reduceDiv,aC,aB,aE,aS,aD,aR,aO,aP,aQ,yaq,yar,yao,yap,go_sem,aW,iNq,ybb,yaz,yba,hxg,hcl3,hts,hsp,hall2,if_true,yal,yak,ek]
      refine ⟨⟨by omega,by omega⟩,⟨by omega,by omega⟩,fun z hz=>by rw [List.mem_singleton.1 hz];rfl,⟨by omega,by omega⟩,1,by omega,by omega,?_⟩
      rw [hL1]
      refine ⟨by simp only [zle];omega,by repeat first|exact .refl _|refine .push ?_ _,hcl1,?_,?_⟩
      ·simp [ltF,zle,znn,znf,hlm]
       try omega
      ·simp [aJ,wk2,wk1,wkM,Fr.get]
     ·have how1:ow k=.slice (.own (H.nx+1+1+1+1+1)) 1 (inL ((ts.take k).map idf)):=by rw [how]
      have how2:ow (k+1)=.slice (.own (H.nx+1+1+1+1+1)) 1 (inL ((ts.take k).map idf)++[.int .i64 (idf x)]):=by rw [how,hil]
      have hcl1:=hclL (k+1)
      have hL1:=hLk (k+1) (by omega)
      rw [← hHB,how2] at hL1
      rw [hL1] at hcl1
      rw [hLk k h0,← hHB,how1]
      subst e8
      try dsimp only at hcl1 hL1 ⊢
      simp only [aW] at hcl1 hL1
      simp only [aZ,aH,bhq,Nat.reduceMod,Nat.reduceDiv,aC,aB,aE,aS,aD,aR,aO,aP,aQ,yaq,yar,yao,yap,go_sem,aW,iNq,ybb,yaz,yba,hxg,hcl3,hts,hsp,hall2,if_true,yal,yak,ek]
      refine ⟨⟨by omega,by omega⟩,⟨by omega,by omega⟩,⟨by rw [hll],by rw [hll];omega,by rw [hll];omega,fun z hz=>by rw [List.mem_singleton.1 hz];rfl⟩,⟨by omega,by omega⟩,k+1,by omega,by omega,?_⟩
      rw [hL1,hll]
      refine ⟨by simp only [zle];omega,by repeat first|exact .refl _|refine .push ?_ _,hcl1,?_,?_⟩
      ·simp [ltF,zle,znn,znf,hlm]
       try omega
      ·simp [aJ,wk2,wk1,wkM,Fr.get]
    ·have hk':k=ts.length:=by simp at hc;omega
     have hcl1:(HB.push (.cells XN)).Closed:=aa hclB (hXN _)
     rw [← hHB] at hcl1
     by_cases h0:k=0
     ·subst h0
      have hnl:ts=[]:=List.length_eq_zero_iff.1 hk'.symm
      have hnl2:ts.map idf=[]:=by rw [hnl];rfl
      rw [hL0,← hHB]
      simp only [go_sem]
      refine di (H.nx+1+1) XN (cs:=XO (.slice .nil 1 [])) (by simp only [go_sem]) ?_ ?_
      ·subst e1 e3 e8 e9
       simp only [bO,ce,and_true]
       refine ⟨?_,?_,?_,?_,?_,?_⟩
       all_goals first|exact il|(rw [hnl2];exact il (l:=[]))|(rw [bN];exact .inl ⟨.inr rfl,rfl,by rw [bY];trivial⟩)
      subst e8 e9
      simp only [go_sem]
      refine dY J () trivial ⟨by simp only [zle,zkv,zkq,gh,hnB];omega,by rw [← hHB];repeat first|exact .refl _|refine .push ?_ _,by rw [← hHB];exact hcl1,?_,?_⟩
      ·(simp [ltF,zle,znn,hnB];try omega)
      ·simp [aJ,wk2,wk1,wkM,Fr.get]
     ·have how1:ow k=.slice (.own (H.nx+1+1+1+1+1)) 1 (inL (ts.map idf)):=by rw [how,hk'];dsimp only;rw [List.take_length]
      rw [hLk k h0,← hHB,how1]
      simp only [go_sem]
      refine di (H.nx+1+1) XN (cs:=XO (.slice (.own (H.nx+1+1+1+1+1)) 1 (inL (ts.map idf)))) (by simp only [go_sem]) ?_ ?_
      ·subst e1 e3 e8 e9
       simp only [bO,ce,and_true]
       refine ⟨?_,?_,?_,?_,?_,?_⟩
       all_goals first|exact il|(rw [bN];exact .inl ⟨.inr rfl,rfl,by rw [bY];trivial⟩)
      subst e8 e9
      simp only [go_sem]
      refine dY J () trivial ⟨by simp only [zle,zkv,zkq,gh,hnB];omega,by rw [← hHB];repeat first|exact .refl _|refine .push ?_ _,by rw [← hHB];exact hcl1,?_,?_⟩
      ·(simp [ltF,zle,znn,hnB];try omega)
      ·simp [aJ,wk2,wk1,wkM,Fr.get]
   ·intro _ _
    dsimp only
    rw [← hHB]
    simp only [aZ,aH,bhq,Nat.reduceMod,Nat.reduceDiv,aC,aB,aE,aS,aD,aR,aO,aP,aQ,yaq,yar,yao,yap,go_sem,aW]
    apply jA (α:=Unit) (fun _=>[(1,.ptr H.nx 0),(2,.ptr (H.nx+1) 0),(3,.ptr (H.nx+1+1) 0)]) (fun _=>HB.push (.cells (q64 S (.slice .nil 1 [])))) (fun _=>True)
    ·intro J
     refine nt S.actions bg (·.id) 5 62 63 64 (q63 S) (q64 S (.slice .nil 1 [])) [(1,.ptr H.nx 0)] h4 iK (fun _=>⟨_,rfl,rfl,rfl⟩) fun ts av idf sz a b c XO XN pf e1 e2 e3 e4 e5 e6 e7 e8 e9 e10 hle hlt hag hXO hXN=>?_
     have hlm:∀ n,AV.lt n (.slice .any sz (ts.map av)):=fun n=>a8 (hlt n)
     obtain ⟨C0,hC0⟩:∃ C0:List AV,C0=hdC av ts:=⟨_,rfl⟩
     have hC0l:∀ m,ltL m C0:=fun m=>by rw [hC0];exact qy hlt ts m
     obtain ⟨ow,how⟩:∃ ow:Nat→AV,ow=fun k=>.slice (.own (H.nx+1+1+1+1+1)) 1 (inL ((ts.take k).map idf)):=⟨_,rfl⟩
     have hwl:∀ n k,H.nx+1+1+1+1+1<n→(ow k).lt n:=fun n k h=>by rw [how];simp [aF,nk,h]
     obtain ⟨HL,hHL⟩:∃ HL:Nat→AHeap,HL=fun k=>if k=0 then HB.push (.cells (XO (.slice .nil 1 []))) else (((HB.push (.cells (XO (ow k)))).push (.cells C0)).push (.buf 1 1)).push (.buf 1 k):=⟨_,rfl⟩
     have hL0:HL 0=HB.push (.cells (XO (.slice .nil 1 []))):=by rw [hHL];rfl
     have hLk:∀ k,k≠0→HL k=(((HB.push (.cells (XO (ow k)))).push (.cells C0)).push (.buf 1 1)).push (.buf 1 k):=fun k h=>by rw [hHL];exact if_neg h
     have hclL:∀ k,(HL k).Closed:=fun k=>by
      by_cases h:k=0
      ·rw [h,hL0]
       exact aa hclB (hXO _ _ (by simp [aF,znv]))
      ·rw [hLk k h]
       refine iO (c:=XO (.slice .nil 1 [])) (ag (ag (aa (aa hclB (hXO _ _ (by simp [aF,znv]))) (hC0l _)))) ?_
       exact hXO _ _ (hwl _ _ (by rw [hnB];omega))
     have hnL:∀ k,H.nx+1+1+1≤(HL k).nx:=fun k=>by
      by_cases h:k=0
      ·rw [h,hL0,zle,hnB];omega
      ·rw [hLk k h];simp only [zle,hnB];omega
     refine az (A:=Nat) (fun k=>pf++[(2,.ptr (H.nx+1) 0),(3,.ptr (H.nx+1+1) 0),(a,.slice .any sz (ts.map av)),(b,.int .i64 (ts.length:Int)),(c,.int .i64 (k:Int))]) HL (fun k=>k≤ts.length) (fun k=>ts.length - k) 0 (by omega) ?_ fun k hk=>?_
     ·have hc0:=hclL 0
      rw [hL0,← hHB] at hc0 ⊢
      subst e1 e2 e3 e4 e5 e6 e7 e8 e9 e10
      refine ⟨by simp only [zle,zkq,zkv];omega,lRq _,hc0,?_,?_⟩
      ·simp [ltF,zle,znn,znf,hlm]
       try omega
      ·simp [aJ,wk2,wk1,wkM,Fr.get]
     subst e4 e5 e6 e7 e10
     simp only [go_sem,yal,yak]
     refine ai (fun hc=>?_) (fun hc=>?_)
     ·have hk':k<ts.length:=by simp at hc;omega
      obtain ⟨x,hx⟩:∃ x,x=ts[k]:=⟨_,rfl⟩
      have hxg:=aU (f:=av) (l:=ts) (k:=k) (x:=x) (by rw [gQq hk',hx])
      have ek:IntKind.i64.wrap ((k:Int)+1)=((k+1:Nat):Int):=by rw [wrap_i64]<;>omega
      have htk:ts.take (k+1)=ts.take k++[x]:=by rw [hx,List.take_succ_eq_append_getElem hk']
      have hil:inL ((ts.take k).map idf)++[.int .i64 (idf x)]=inL ((ts.take (k+1)).map idf):=by rw [htk];simp [inL]
      have hll:(inL ((ts.take k).map idf)).length=k:=by simp [inL];omega
      obtain ⟨cs,hcs,hcl3,hall⟩:=hag x
      have hts:List.take (cs.length+1) (AV.int .i64 (idf x)::cs)=AV.int .i64 (idf x)::cs:=ybc (by simp)
      have hsp:∀ zs:List AV,zs.length=(AV.int .i64 (idf x)::cs).length→splice zs 0 (AV.int .i64 (idf x)::cs)=AV.int .i64 (idf x)::cs:=fun zs hz=>iu hz
      have hall2:bf (AV.int .i64 (idf x)::cs)=true:=hall
      rw [hcs] at hxg
      rw [yaz,hcl3] at hsp
      rw [hcl3] at hts
      by_cases h0:k=0
      ·subst h0
       have hC1:C0=AV.int .i64 (idf x)::cs:=by rw [hC0,qL hk',← hx,hcs];rfl
       have how1:ow 1=.slice (.own (H.nx+1+1+1+1+1)) 1 [.int .i64 (idf x)]:=by rw [how];dsimp only;rw [← hil];rfl
       have hcl1:=hclL 1
       rw [hLk 1 (by decide),← hHB,hC1,how1] at hcl1
       rw [hL0,← hHB]
       have hL1:=hLk 1 (by decide)
       rw [← hHB,hC1,how1] at hL1
       subst e8
       try dsimp only at hcl1 hL1 ⊢
       simp only [aW] at hcl1 hL1
       simp only [aZ,aH,bhq,Nat.reduceMod,Nat.reduceDiv,aC,aB,aE,aS,aD,aR,aO,aP,aQ,yaq,yar,yao,yap,go_sem,aW,iNq,ybb,yaz,yba,hxg,hcl3,hts,hsp,hall2,if_true,yal,yak,ek]
       refine ⟨⟨by omega,by omega⟩,⟨by omega,by omega⟩,fun z hz=>by rw [List.mem_singleton.1 hz];rfl,⟨by omega,by omega⟩,1,by omega,by omega,?_⟩
       rw [hL1]
       refine ⟨by simp only [zle];omega,by repeat first|exact .refl _|refine .push ?_ _,hcl1,?_,?_⟩
       ·simp [ltF,zle,znn,znf,hlm]
        try omega
       ·simp [aJ,wk2,wk1,wkM,Fr.get]
      ·have how1:ow k=.slice (.own (H.nx+1+1+1+1+1)) 1 (inL ((ts.take k).map idf)):=by rw [how]
       have how2:ow (k+1)=.slice (.own (H.nx+1+1+1+1+1)) 1 (inL ((ts.take k).map idf)++[.int .i64 (idf x)]):=by rw [how,hil]
       have hcl1:=hclL (k+1)
       have hL1:=hLk (k+1) (by omega)
       rw [← hHB,how2] at hL1
       rw [hL1] at hcl1
       rw [hLk k h0,← hHB,how1]
       subst e8
       try dsimp only at hcl1 hL1 ⊢
       simp only [aW] at hcl1 hL1
       simp only [aZ,aH,bhq,Nat.reduceMod,Nat.reduceDiv,aC,aB,aE,aS,aD,aR,aO,aP,aQ,yaq,yar,yao,yap,go_sem,aW,iNq,ybb,yaz,yba,hxg,hcl3,hts,hsp,hall2,if_true,yal,yak,ek]
       refine ⟨⟨by omega,by omega⟩,⟨by omega,by omega⟩,⟨by rw [hll],by rw [hll];omega,by rw [hll];omega,fun z hz=>by rw [List.mem_singleton.1 hz];rfl⟩,⟨by omega,by omega⟩,k+1,by omega,by omega,?_⟩
       rw [hL1,hll]
       refine ⟨by simp only [zle];omega,by repeat first|exact .refl _|refine .push ?_ _,hcl1,?_,?_⟩
       ·simp [ltF,zle,znn,znf,hlm]
        try omega
       ·simp [aJ,wk2,wk1,wkM,Fr.get]
     ·have hk':k=ts.length:=by simp at hc;omega
      have hcl1:(HB.push (.cells XN)).Closed:=aa hclB (hXN _)
      rw [← hHB] at hcl1
      by_cases h0:k=0
      ·subst h0
       have hnl:ts=[]:=List.length_eq_zero_iff.1 hk'.symm
       have hnl2:ts.map idf=[]:=by rw [hnl];rfl
       rw [hL0,← hHB]
       simp only [go_sem]
       refine di (H.nx+1+1) XN (cs:=XO (.slice .nil 1 [])) (by simp only [go_sem]) ?_ ?_
       ·subst e1 e3 e8 e9
        simp only [bO,ce,and_true]
        refine ⟨?_,?_,?_,?_,?_,?_⟩
        all_goals first|exact il|(rw [hnl2];exact il (l:=[]))|(rw [bN];exact .inl ⟨.inr rfl,rfl,by rw [bY];trivial⟩)
       subst e8 e9
       simp only [go_sem]
       refine dY J () trivial ⟨by simp only [zle,zkv,zkq,gh,hnB];omega,by rw [← hHB];repeat first|exact .refl _|refine .push ?_ _,by rw [← hHB];exact hcl1,?_,?_⟩
       ·(simp [ltF,zle,znn,hnB];try omega)
       ·simp [aJ,wk2,wk1,wkM,Fr.get]
      ·have how1:ow k=.slice (.own (H.nx+1+1+1+1+1)) 1 (inL (ts.map idf)):=by rw [how,hk'];dsimp only;rw [List.take_length]
       rw [hLk k h0,← hHB,how1]
       simp only [go_sem]
       refine di (H.nx+1+1) XN (cs:=XO (.slice (.own (H.nx+1+1+1+1+1)) 1 (inL (ts.map idf)))) (by simp only [go_sem]) ?_ ?_
       ·subst e1 e3 e8 e9
        simp only [bO,ce,and_true]
        refine ⟨?_,?_,?_,?_,?_,?_⟩
        all_goals first|exact il|(rw [bN];exact .inl ⟨.inr rfl,rfl,by rw [bY];trivial⟩)
       subst e8 e9
       simp only [go_sem]
       refine dY J () trivial ⟨by simp only [zle,zkv,zkq,gh,hnB];omega,by rw [← hHB];repeat first|exact .refl _|refine .push ?_ _,by rw [← hHB];exact hcl1,?_,?_⟩
       ·(simp [ltF,zle,znn,hnB];try omega)
       ·simp [aJ,wk2,wk1,wkM,Fr.get]
    ·intro _ _
     dsimp only
     rw [← hHB]
     simp only [aZ,aH,bhq,Nat.reduceMod,Nat.reduceDiv,aC,aB,aE,aS,aD,aR,aO,aP,aQ,yaq,yar,yao,yap,go_sem,aW]
     apply jA (α:=Unit) (fun _=>[(1,.ptr H.nx 0),(2,.ptr (H.nx+1) 0),(3,.ptr (H.nx+1+1) 0)]) (fun _=>HB.push (.cells (q65 S (.slice .nil 1 [])))) (fun _=>True)
     ·intro J
      refine nt S.tables ba (·.id) 8 77 78 79 (q64 S) (q65 S (.slice .nil 1 [])) [(1,.ptr H.nx 0)] h5 cS (fun _=>⟨_,rfl,rfl,rfl⟩) fun ts av idf sz a b c XO XN pf e1 e2 e3 e4 e5 e6 e7 e8 e9 e10 hle hlt hag hXO hXN=>?_
      have hlm:∀ n,AV.lt n (.slice .any sz (ts.map av)):=fun n=>a8 (hlt n)
      obtain ⟨C0,hC0⟩:∃ C0:List AV,C0=hdC av ts:=⟨_,rfl⟩
      have hC0l:∀ m,ltL m C0:=fun m=>by rw [hC0];exact qy hlt ts m
      obtain ⟨ow,how⟩:∃ ow:Nat→AV,ow=fun k=>.slice (.own (H.nx+1+1+1+1+1)) 1 (inL ((ts.take k).map idf)):=⟨_,rfl⟩
      have hwl:∀ n k,H.nx+1+1+1+1+1<n→(ow k).lt n:=fun n k h=>by rw [how];simp [aF,nk,h]
      obtain ⟨HL,hHL⟩:∃ HL:Nat→AHeap,HL=fun k=>if k=0 then HB.push (.cells (XO (.slice .nil 1 []))) else (((HB.push (.cells (XO (ow k)))).push (.cells C0)).push (.buf 1 1)).push (.buf 1 k):=⟨_,rfl⟩
      have hL0:HL 0=HB.push (.cells (XO (.slice .nil 1 []))):=by rw [hHL];rfl
      have hLk:∀ k,k≠0→HL k=(((HB.push (.cells (XO (ow k)))).push (.cells C0)).push (.buf 1 1)).push (.buf 1 k):=fun k h=>by rw [hHL];exact if_neg h
      have hclL:∀ k,(HL k).Closed:=fun k=>by
       by_cases h:k=0
       ·rw [h,hL0]
        exact aa hclB (hXO _ _ (by simp [aF,znv]))
       ·rw [hLk k h]
        refine iO (c:=XO (.slice .nil 1 [])) (ag (ag (aa (aa hclB (hXO _ _ (by simp [aF,znv]))) (hC0l _)))) ?_
        exact hXO _ _ (hwl _ _ (by rw [hnB];omega))
      have hnL:∀ k,H.nx+1+1+1≤(HL k).nx:=fun k=>by
       by_cases h:k=0
       ·rw [h,hL0,zle,hnB];omega
       ·rw [hLk k h];simp only [zle,hnB];omega
      refine az (A:=Nat) (fun k=>pf++[(2,.ptr (H.nx+1) 0),(3,.ptr (H.nx+1+1) 0),(a,.slice .any sz (ts.map av)),(b,.int .i64 (ts.length:Int)),(c,.int .i64 (k:Int))]) HL (fun k=>k≤ts.length) (fun k=>ts.length - k) 0 (by omega) ?_ fun k hk=>?_
      ·have hc0:=hclL 0
       rw [hL0,← hHB] at hc0 ⊢
       subst e1 e2 e3 e4 e5 e6 e7 e8 e9 e10
       refine ⟨by simp only [zle,zkq,zkv];omega,lRq _,hc0,?_,?_⟩
       ·simp [ltF,zle,znn,znf,hlm]
        try omega
       ·simp [aJ,wk2,wk1,wkM,Fr.get]
      subst e4 e5 e6 e7 e10
      simp only [go_sem,yal,yak]
      refine ai (fun hc=>?_) (fun hc=>?_)
      ·have hk':k<ts.length:=by simp at hc;omega
       obtain ⟨x,hx⟩:∃ x,x=ts[k]:=⟨_,rfl⟩
       have hxg:=aU (f:=av) (l:=ts) (k:=k) (x:=x) (by rw [gQq hk',hx])
       have ek:IntKind.i64.wrap ((k:Int)+1)=((k+1:Nat):Int):=by rw [wrap_i64]<;>omega
       have htk:ts.take (k+1)=ts.take k++[x]:=by rw [hx,List.take_succ_eq_append_getElem hk']
       have hil:inL ((ts.take k).map idf)++[.int .i64 (idf x)]=inL ((ts.take (k+1)).map idf):=by rw [htk];simp [inL]
       have hll:(inL ((ts.take k).map idf)).length=k:=by simp [inL];omega
       obtain ⟨cs,hcs,hcl3,hall⟩:=hag x
       have hts:List.take (cs.length+1) (AV.int .i64 (idf x)::cs)=AV.int .i64 (idf x)::cs:=ybc (by simp)
       have hsp:∀ zs:List AV,zs.length=(AV.int .i64 (idf x)::cs).length→splice zs 0 (AV.int .i64 (idf x)::cs)=AV.int .i64 (idf x)::cs:=fun zs hz=>iu hz
       have hall2:bf (AV.int .i64 (idf x)::cs)=true:=hall
       rw [hcs] at hxg
       rw [yaz,hcl3] at hsp
       rw [hcl3] at hts
       by_cases h0:k=0
       ·subst h0
        have hC1:C0=AV.int .i64 (idf x)::cs:=by rw [hC0,qL hk',← hx,hcs];rfl
        have how1:ow 1=.slice (.own (H.nx+1+1+1+1+1)) 1 [.int .i64 (idf x)]:=by rw [how];dsimp only;rw [← hil];rfl
        have hcl1:=hclL 1
        rw [hLk 1 (by decide),← hHB,hC1,how1] at hcl1
        rw [hL0,← hHB]
        have hL1:=hLk 1 (by decide)
        rw [← hHB,hC1,how1] at hL1
        subst e8
        try dsimp only at hcl1 hL1 ⊢
        simp only [aW] at hcl1 hL1
        simp only [aZ,aH,bhq,Nat.reduceMod,Nat.reduceDiv,aC,aB,aE,aS,aD,aR,aO,aP,aQ,yaq,yar,yao,yap,go_sem,aW,iNq,ybb,yaz,yba,hxg,hcl3,hts,hsp,hall2,if_true,yal,yak,ek]
        refine ⟨⟨by omega,by omega⟩,⟨by omega,by omega⟩,fun z hz=>by rw [List.mem_singleton.1 hz];rfl,⟨by omega,by omega⟩,1,by omega,by omega,?_⟩
        rw [hL1]
        refine ⟨by simp only [zle];omega,by repeat first|exact .refl _|refine .push ?_ _,hcl1,?_,?_⟩
        ·simp [ltF,zle,znn,znf,hlm]
         try omega
        ·simp [aJ,wk2,wk1,wkM,Fr.get]
       ·have how1:ow k=.slice (.own (H.nx+1+1+1+1+1)) 1 (inL ((ts.take k).map idf)):=by rw [how]
        have how2:ow (k+1)=.slice (.own (H.nx+1+1+1+1+1)) 1 (inL ((ts.take k).map idf)++[.int .i64 (idf x)]):=by rw [how,hil]
        have hcl1:=hclL (k+1)
        have hL1:=hLk (k+1) (by omega)
        rw [← hHB,how2] at hL1
        rw [hL1] at hcl1
        rw [hLk k h0,← hHB,how1]
        subst e8
        try dsimp only at hcl1 hL1 ⊢
        simp only [aW] at hcl1 hL1
        simp only [aZ,aH,bhq,Nat.reduceMod,Nat.reduceDiv,aC,aB,aE,aS,aD,aR,aO,aP,aQ,yaq,yar,yao,yap,go_sem,aW,iNq,ybb,yaz,yba,hxg,hcl3,hts,hsp,hall2,if_true,yal,yak,ek]
        refine ⟨⟨by omega,by omega⟩,⟨by omega,by omega⟩,⟨by rw [hll],by rw [hll];omega,by rw [hll];omega,fun z hz=>by rw [List.mem_singleton.1 hz];rfl⟩,⟨by omega,by omega⟩,k+1,by omega,by omega,?_⟩
        rw [hL1,hll]
        refine ⟨by simp only [zle];omega,by repeat first|exact .refl _|refine .push ?_ _,hcl1,?_,?_⟩
        ·simp [ltF,zle,znn,znf,hlm]
         try omega
        ·simp [aJ,wk2,wk1,wkM,Fr.get]
      ·have hk':k=ts.length:=by simp at hc;omega
       have hcl1:(HB.push (.cells XN)).Closed:=aa hclB (hXN _)
       rw [← hHB] at hcl1
       by_cases h0:k=0
       ·subst h0
        have hnl:ts=[]:=List.length_eq_zero_iff.1 hk'.symm
        have hnl2:ts.map idf=[]:=by rw [hnl];rfl
        rw [hL0,← hHB]
        simp only [go_sem]
        refine di (H.nx+1+1) XN (cs:=XO (.slice .nil 1 [])) (by simp only [go_sem]) ?_ ?_
        ·subst e1 e3 e8 e9
         simp only [bO,ce,and_true]
         refine ⟨?_,?_,?_,?_,?_,?_⟩
         all_goals first|exact il|(rw [hnl2];exact il (l:=[]))|(rw [bN];exact .inl ⟨.inr rfl,rfl,by rw [bY];trivial⟩)
        subst e8 e9
        simp only [go_sem]
        refine dY J () trivial ⟨by simp only [zle,zkv,zkq,gh,hnB];omega,by rw [← hHB];repeat first|exact .refl _|refine .push ?_ _,by rw [← hHB];exact hcl1,?_,?_⟩
        ·(simp [ltF,zle,znn,hnB];try omega)
        ·simp [aJ,wk2,wk1,wkM,Fr.get]
       ·have how1:ow k=.slice (.own (H.nx+1+1+1+1+1)) 1 (inL (ts.map idf)):=by rw [how,hk'];dsimp only;rw [List.take_length]
        rw [hLk k h0,← hHB,how1]
        simp only [go_sem]
        refine di (H.nx+1+1) XN (cs:=XO (.slice (.own (H.nx+1+1+1+1+1)) 1 (inL (ts.map idf)))) (by simp only [go_sem]) ?_ ?_
        ·subst e1 e3 e8 e9
         simp only [bO,ce,and_true]
         refine ⟨?_,?_,?_,?_,?_,?_⟩
         all_goals first|exact il|(rw [bN];exact .inl ⟨.inr rfl,rfl,by rw [bY];trivial⟩)
        subst e8 e9
        simp only [go_sem]
        refine dY J () trivial ⟨by simp only [zle,zkv,zkq,gh,hnB];omega,by rw [← hHB];repeat first|exact .refl _|refine .push ?_ _,by rw [← hHB];exact hcl1,?_,?_⟩
        ·(simp [ltF,zle,znn,hnB];try omega)
        ·simp [aJ,wk2,wk1,wkM,Fr.get]
     ·intro _ _
      dsimp only
      rw [← hHB]
      simp only [aZ,aH,bhq,Nat.reduceMod,Nat.reduceDiv,aC,aB,aE,aS,aD,aR,aO,aP,aQ,yaq,yar,yao,yap,go_sem,aW]
      apply jA (α:=Unit) (fun _=>[(2,.ptr (H.nx+1) 0),(3,.ptr (H.nx+1+1) 0)]) (fun _=>HB.push (.cells (q66 S (.slice .nil 1 [])))) (fun _=>True)
      ·intro J
       refine nt S.roles bX (·.id) 6 92 93 94 (q65 S) (q66 S (.slice .nil 1 [])) [] h6 nz (fun _=>⟨_,rfl,rfl,rfl⟩) fun ts av idf sz a b c XO XN pf e1 e2 e3 e4 e5 e6 e7 e8 e9 e10 hle hlt hag hXO hXN=>?_
       have hlm:∀ n,AV.lt n (.slice .any sz (ts.map av)):=fun n=>a8 (hlt n)
       obtain ⟨C0,hC0⟩:∃ C0:List AV,C0=hdC av ts:=⟨_,rfl⟩
       have hC0l:∀ m,ltL m C0:=fun m=>by rw [hC0];exact qy hlt ts m
       obtain ⟨ow,how⟩:∃ ow:Nat→AV,ow=fun k=>.slice (.own (H.nx+1+1+1+1+1)) 1 (inL ((ts.take k).map idf)):=⟨_,rfl⟩
       have hwl:∀ n k,H.nx+1+1+1+1+1<n→(ow k).lt n:=fun n k h=>by rw [how];simp [aF,nk,h]
       obtain ⟨HL,hHL⟩:∃ HL:Nat→AHeap,HL=fun k=>if k=0 then HB.push (.cells (XO (.slice .nil 1 []))) else (((HB.push (.cells (XO (ow k)))).push (.cells C0)).push (.buf 1 1)).push (.buf 1 k):=⟨_,rfl⟩
       have hL0:HL 0=HB.push (.cells (XO (.slice .nil 1 []))):=by rw [hHL];rfl
       have hLk:∀ k,k≠0→HL k=(((HB.push (.cells (XO (ow k)))).push (.cells C0)).push (.buf 1 1)).push (.buf 1 k):=fun k h=>by rw [hHL];exact if_neg h
       have hclL:∀ k,(HL k).Closed:=fun k=>by
        by_cases h:k=0
        ·rw [h,hL0]
         exact aa hclB (hXO _ _ (by simp [aF,znv]))
        ·rw [hLk k h]
         refine iO (c:=XO (.slice .nil 1 [])) (ag (ag (aa (aa hclB (hXO _ _ (by simp [aF,znv]))) (hC0l _)))) ?_
         exact hXO _ _ (hwl _ _ (by rw [hnB];omega))
       have hnL:∀ k,H.nx+1+1+1≤(HL k).nx:=fun k=>by
        by_cases h:k=0
        ·rw [h,hL0,zle,hnB];omega
        ·rw [hLk k h];simp only [zle,hnB];omega
       refine az (A:=Nat) (fun k=>pf++[(2,.ptr (H.nx+1) 0),(3,.ptr (H.nx+1+1) 0),(a,.slice .any sz (ts.map av)),(b,.int .i64 (ts.length:Int)),(c,.int .i64 (k:Int))]) HL (fun k=>k≤ts.length) (fun k=>ts.length - k) 0 (by omega) ?_ fun k hk=>?_
       ·have hc0:=hclL 0
        rw [hL0,← hHB] at hc0 ⊢
        subst e1 e2 e3 e4 e5 e6 e7 e8 e9 e10
        refine ⟨by simp only [zle,zkq,zkv];omega,lRq _,hc0,?_,?_⟩
        ·simp [ltF,zle,znn,znf,hlm]
         try omega
        ·simp [aJ,wk2,wk1,wkM,Fr.get]
       subst e4 e5 e6 e7 e10
       simp only [go_sem,yal,yak]
       refine ai (fun hc=>?_) (fun hc=>?_)
       ·have hk':k<ts.length:=by simp at hc;omega
        obtain ⟨x,hx⟩:∃ x,x=ts[k]:=⟨_,rfl⟩
        have hxg:=aU (f:=av) (l:=ts) (k:=k) (x:=x) (by rw [gQq hk',hx])
        have ek:IntKind.i64.wrap ((k:Int)+1)=((k+1:Nat):Int):=by rw [wrap_i64]<;>omega
        have htk:ts.take (k+1)=ts.take k++[x]:=by rw [hx,List.take_succ_eq_append_getElem hk']
        have hil:inL ((ts.take k).map idf)++[.int .i64 (idf x)]=inL ((ts.take (k+1)).map idf):=by rw [htk];simp [inL]
        have hll:(inL ((ts.take k).map idf)).length=k:=by simp [inL];omega
        obtain ⟨cs,hcs,hcl3,hall⟩:=hag x
        have hts:List.take (cs.length+1) (AV.int .i64 (idf x)::cs)=AV.int .i64 (idf x)::cs:=ybc (by simp)
        have hsp:∀ zs:List AV,zs.length=(AV.int .i64 (idf x)::cs).length→splice zs 0 (AV.int .i64 (idf x)::cs)=AV.int .i64 (idf x)::cs:=fun zs hz=>iu hz
        have hall2:bf (AV.int .i64 (idf x)::cs)=true:=hall
        rw [hcs] at hxg
        rw [yaz,hcl3] at hsp
        rw [hcl3] at hts
        by_cases h0:k=0
        ·subst h0
         have hC1:C0=AV.int .i64 (idf x)::cs:=by rw [hC0,qL hk',← hx,hcs];rfl
         have how1:ow 1=.slice (.own (H.nx+1+1+1+1+1)) 1 [.int .i64 (idf x)]:=by rw [how];dsimp only;rw [← hil];rfl
         have hcl1:=hclL 1
         rw [hLk 1 (by decide),← hHB,hC1,how1] at hcl1
         rw [hL0,← hHB]
         have hL1:=hLk 1 (by decide)
         rw [← hHB,hC1,how1] at hL1
         subst e8
         try dsimp only at hcl1 hL1 ⊢
         simp only [aW] at hcl1 hL1
         simp only [aZ,aH,bhq,Nat.reduceMod,Nat.reduceDiv,aC,aB,aE,aS,aD,aR,aO,aP,aQ,yaq,yar,yao,yap,go_sem,aW,iNq,ybb,yaz,yba,hxg,hcl3,hts,hsp,hall2,if_true,yal,yak,ek]
         refine ⟨⟨by omega,by omega⟩,⟨by omega,by omega⟩,fun z hz=>by rw [List.mem_singleton.1 hz];rfl,⟨by omega,by omega⟩,1,by omega,by omega,?_⟩
         rw [hL1]
         refine ⟨by simp only [zle];omega,by repeat first|exact .refl _|refine .push ?_ _,hcl1,?_,?_⟩
         ·simp [ltF,zle,znn,znf,hlm]
          try omega
         ·simp [aJ,wk2,wk1,wkM,Fr.get]
        ·have how1:ow k=.slice (.own (H.nx+1+1+1+1+1)) 1 (inL ((ts.take k).map idf)):=by rw [how]
         have how2:ow (k+1)=.slice (.own (H.nx+1+1+1+1+1)) 1 (inL ((ts.take k).map idf)++[.int .i64 (idf x)]):=by rw [how,hil]
         have hcl1:=hclL (k+1)
         have hL1:=hLk (k+1) (by omega)
         rw [← hHB,how2] at hL1
         rw [hL1] at hcl1
         rw [hLk k h0,← hHB,how1]
         subst e8
         try dsimp only at hcl1 hL1 ⊢
         simp only [aW] at hcl1 hL1
         simp only [aZ,aH,bhq,Nat.reduceMod,Nat.reduceDiv,aC,aB,aE,aS,aD,aR,aO,aP,aQ,yaq,yar,yao,yap,go_sem,aW,iNq,ybb,yaz,yba,hxg,hcl3,hts,hsp,hall2,if_true,yal,yak,ek]
         refine ⟨⟨by omega,by omega⟩,⟨by omega,by omega⟩,⟨by rw [hll],by rw [hll];omega,by rw [hll];omega,fun z hz=>by rw [List.mem_singleton.1 hz];rfl⟩,⟨by omega,by omega⟩,k+1,by omega,by omega,?_⟩
         rw [hL1,hll]
         refine ⟨by simp only [zle];omega,by repeat first|exact .refl _|refine .push ?_ _,hcl1,?_,?_⟩
         ·simp [ltF,zle,znn,znf,hlm]
          try omega
         ·simp [aJ,wk2,wk1,wkM,Fr.get]
       ·have hk':k=ts.length:=by simp at hc;omega
        have hcl1:(HB.push (.cells XN)).Closed:=aa hclB (hXN _)
        rw [← hHB] at hcl1
        by_cases h0:k=0
        ·subst h0
         have hnl:ts=[]:=List.length_eq_zero_iff.1 hk'.symm
         have hnl2:ts.map idf=[]:=by rw [hnl];rfl
         rw [hL0,← hHB]
         simp only [go_sem]
         refine di (H.nx+1+1) XN (cs:=XO (.slice .nil 1 [])) (by simp only [go_sem]) ?_ ?_
         ·subst e1 e3 e8 e9
          simp only [bO,ce,and_true]
          refine ⟨?_,?_,?_,?_,?_,?_⟩
          all_goals first|exact il|(rw [hnl2];exact il (l:=[]))|(rw [bN];exact .inl ⟨.inr rfl,rfl,by rw [bY];trivial⟩)
         subst e8 e9
         simp only [go_sem]
         refine dY J () trivial ⟨by simp only [zle,zkv,zkq,gh,hnB];omega,by rw [← hHB];repeat first|exact .refl _|refine .push ?_ _,by rw [← hHB];exact hcl1,?_,?_⟩
         ·(simp [ltF,zle,znn,hnB];try omega)
         ·simp [aJ,wk2,wk1,wkM,Fr.get]
        ·have how1:ow k=.slice (.own (H.nx+1+1+1+1+1)) 1 (inL (ts.map idf)):=by rw [how,hk'];dsimp only;rw [List.take_length]
         rw [hLk k h0,← hHB,how1]
         simp only [go_sem]
         refine di (H.nx+1+1) XN (cs:=XO (.slice (.own (H.nx+1+1+1+1+1)) 1 (inL (ts.map idf)))) (by simp only [go_sem]) ?_ ?_
         ·subst e1 e3 e8 e9
          simp only [bO,ce,and_true]
          refine ⟨?_,?_,?_,?_,?_,?_⟩
          all_goals first|exact il|(rw [bN];exact .inl ⟨.inr rfl,rfl,by rw [bY];trivial⟩)
         subst e8 e9
         simp only [go_sem]
         refine dY J () trivial ⟨by simp only [zle,zkv,zkq,gh,hnB];omega,by rw [← hHB];repeat first|exact .refl _|refine .push ?_ _,by rw [← hHB];exact hcl1,?_,?_⟩
         ·(simp [ltF,zle,znn,hnB];try omega)
         ·simp [aJ,wk2,wk1,wkM,Fr.get]
      ·intro _ _
       dsimp only
       rw [← hHB]
       simp only [aZ,aH,bhq,Nat.reduceMod,Nat.reduceDiv,aC,aB,aE,aS,aD,aR,aO,aP,aQ,yaq,yar,yao,yap,go_sem,aW]
       simp only [aZ,aH,bhq,Nat.reduceMod,Nat.reduceDiv,aC,aB,aE,aS,aD,aR,aO,aP,aQ,yaq,yar,yao,yap,go_sem,aW,sI]
       simp (disch:=first|exact Zd|omega) [↓zmo,beq,ybc,ybd,ybe,ae,wk,wk2,wk1,wkM,wkL,ah,ybf,hcl,HQ,sI,lB]
       first|done|repeat first|exact .refl _|refine .push ?_ _
def tG:List AV→AHeap→(AV→Prop)→Prop
 |[.slice _ 1 l,.int .i64 n],_,K=>∃ xs:List Int,(l=inL xs∧xs.length≤1000000)∧K (.int .i64 (ixP (fun x=>x==n) xs 0))
 |_,_,_=>False
theorem DA:EntOk Tryz.prog 61 (Ent.pure tG):=by
 refine Ype fun _ H K h=>?_
 unfold tG at h
 split at h
 rotate_left
 ·exact h.elim
 rename_i m l n
 obtain ⟨xs,⟨rfl,hl⟩,hK⟩:=h
 refine ⟨_,hK,?_⟩
 clear hK
 generalize hR:ixP (fun x:Int=>x==n) xs 0=R
 refine ACalls.fW au tNq Tryz.func61 [.tmp 4] (nrq _) (T:=aq []) (h:=fun hcl hlt=>?_)
 have hm:AV.lt H.nx (.slice m 1 (inL xs)):=hlt _ (by simp)
 clear hlt
 simp only [go_sem,BT]
 refine az (A:=Nat) (fun k=>[(1,.int .i64 n),(7,.slice m 1 (inL xs)),(8,.int .i64 (xs.length:Int)),(9,.int .i64 (k:Int))]) (fun _=>H) (fun k=>k≤xs.length∧ixP (fun x:Int=>x==n) (xs.drop k) k=R) (fun k=>xs.length - k) 0 ⟨by omega,hR⟩ ?_ fun k hk=>?_
 ·refine ⟨nrq _,lRq _,hcl,?_,?_⟩
  ·simp [ltF,znf,hm]
  ·simp [aJ,wk2,wk1,wkM,Fr.get]
 clear hR
 obtain ⟨hk,hR⟩:=hk
 simp only [go_sem]
 refine ai (fun hc=>?_) (fun hc=>?_)
 ·have hk':k<xs.length:=by simp at hc;omega
  obtain ⟨x,hx⟩:∃ x,x=xs[k]:=⟨_,rfl⟩
  have hd:xs.drop k=x::xs.drop (k+1):=by rw [hx];exact dcq hk'
  have hg:=aU (f:=AV.int .i64) (l:=xs) (k:=k) (x:=x) (by rw [gQq hk',hx])
  have e5:=Yk5 k
  rw [hd] at hR
  unfold ixP at hR
  simp only [go_sem,iNq,inL,hg,ybb]
  (repeat with_reducible refine Yq ?_)
  refine ai (fun hq=>?_) (fun hq=>?_)
  ·rw [if_pos hq] at hR
   subst hR
   simp only [go_sem]
   exact Z0
  ·rw [if_neg (by rw [hq];decide)] at hR
   simp only [go_sem,e5]
   unfold inL at hm
   refine ⟨k+1,⟨by omega,hR⟩,by omega,nrq _,lRq _,hcl,?_,?_⟩
   ·simp [ltF,znf,hm]
   ·simp [aJ,wk2,wk1,wkM,Fr.get]
 ·have hk':k=xs.length:=by simp at hc;omega
  subst hk'
  rw [List.drop_length] at hR
  unfold ixP at hR
  subst hR
  simp only [go_sem]
  exact Z0
end Go.AL
