/- Lemmas of the proof; no condition. -/
import Derived.Test.YtokjjhidigoodaaGreatS10r
import Derived.Test.YtokjjhidigoodaaGreatS09u
set_option linter.all false
set_option maxRecDepth 10000
open List renaming length_cons → yaz, length_nil → yba, take_of_length_le → ybc, drop_append → ybd, take_append → ybe, drop_eq_nil_of_le → ybf, length_map → ybb
open Go Go.AL Go.Proofs
namespace Go.AL
theorem LI:ti Tryz.prog 103=some ⟨.struct [(0,3,false),(1,9,false),(2,100,false),(3,101,false),(4,9,false)],5,88,.agg [.int .i64 0,.str [],.slice .nil 1 [],.slice .nil 1 [],.str []]⟩:=by kernel_rfl
theorem JO:ti Tryz.prog 30=some ⟨.slice 103,1,24,.slice .nil 1 []⟩:=by kernel_rfl
theorem Ly:ti Tryz.prog 80=some ⟨.struct [(0,3,false),(1,9,false),(2,78,false),(3,56,false),(4,3,false),(5,4,false)],6,88,.agg [.int .i64 0,.str [],.slice .nil 1 [],.slice .nil 1 [],.int .i64 0,.bool false]⟩:=by kernel_rfl
theorem JU:ti Tryz.prog 33=some ⟨.slice 80,1,24,.slice .nil 1 []⟩:=by kernel_rfl
theorem L6:ti Tryz.prog 85=some ⟨.struct [(0,3,false),(1,9,false),(2,56,false)],3,48,.agg [.int .i64 0,.str [],.slice .nil 1 []]⟩:=by kernel_rfl
theorem KQ:ti Tryz.prog 28=some ⟨.slice 85,1,24,.slice .nil 1 []⟩:=by kernel_rfl
theorem Mx:ti Tryz.prog 145=some ⟨.struct [(0,3,false),(1,3,false),(2,3,false),(3,143,false),(4,3,false)],5,56,.agg [.int .i64 0,.int .i64 0,.int .i64 0,.slice .nil 1 [],.int .i64 0]⟩:=by kernel_rfl
theorem HT:ti Tryz.prog 29=some ⟨.slice 145,1,24,.slice .nil 1 []⟩:=by kernel_rfl
attribute [go_sem] LI JO Ly JU L6 KQ Mx HT
def CK:List AV→AHeap→(AV→Prop)→Prop
 |[x,.ptr c 0],H,K=>∃ t n,(x=a8 t∧H.get c=some (.cells [.int .i64 n]))∧K (.bool (t.id==n))
 |_,_,_=>False
theorem K4:EntOk Tryz.prog 91 (Ent.pure CK):=by
 refine Ype fun _ H K h=>?_
 unfold CK at h
 split at h
 rotate_left
 ·exact h.elim
 rename_i x c
 obtain ⟨t,n,⟨rfl,hg⟩,hK⟩:=h
 refine ⟨_,hK,?_⟩
 clear hK
 unfold a8
 refine Yfv ax tNq Tryz.func91 [.tmp 3] fun hcl hlt=>?_
 exact Y59
def vI:List AV→AHeap→(AV→Prop)→Prop
 |[.slice _ 5 l,.func (.func 91) [] [.ptr c 0]],H,K=>∃ (ts:List SAction) (n:Int),(l=ts.map a8∧H.get c=some (.cells [.int .i64 n])∧ts.length≤1000000)∧K (.int .i64 (ixP (fun t:SAction=>t.id==n) ts 0))
 |_,_,_=>False
theorem HI:EntOk Tryz.prog 90 (Ent.pure vI):=by
 refine Ype fun _ H K h=>?_
 unfold vI at h
 split at h
 rotate_left
 ·exact h.elim
 rename_i m l c
 obtain ⟨ts,n,⟨rfl,hg,hl⟩,hK⟩:=h
 refine ⟨_,hK,?_⟩
 clear hK
 generalize hR:ixP (fun t:SAction=>t.id==n) ts 0=R
 refine Yfv ax (tCq K4 tNq) Tryz.func90 [.tmp 4] fun hcl hlt=>?_
 have hm:AV.lt H.nx (.slice m 5 (ts.map a8)):=hlt _ (by simp)
 have hf:AV.lt H.nx (.func (.func 91) [] [.ptr c 0]):=hlt _ (by simp)
 clear hlt
 simp only [go_sem,ybb]
 refine az (A:=Nat) (fun k=>[(0,.slice m 5 (ts.map a8)),(1,.func (.func 91) [] [.ptr c 0]),(7,.int .i64 (ts.length:Int)),(8,.int .i64 (k:Int))]) (fun _=>H) (fun k=>k≤ts.length∧ixP (fun t:SAction=>t.id==n) (ts.drop k) k=R) (fun k=>ts.length - k) 0 ⟨by omega,hR⟩ ?_ fun k hk=>?_
 ·refine ⟨nrq _,lRq _,hcl,?_,?_⟩
  ·simp [ltF,znb,hm,hf]
  ·exact Y10
 clear hR
 obtain ⟨hk,hR⟩:=hk
 simp only [go_sem]
 refine au (fun hc=>?_) (fun hc=>?_)
 ·have hk':k<ts.length:=by simp at hc;omega
  obtain ⟨x,hx⟩:∃ x,x=ts[k]:=⟨_,rfl⟩
  have hd:ts.drop k=x::ts.drop (k+1):=by rw [hx];exact dcq hk'
  have hg':=bC (f:=a8) (l:=ts) (k:=k) (x:=x) (by rw [gQq hk',hx])
  have e5:=Yk5 k
  have hcell:(a8 x).cells.length=5:=rfl
  rw [hd] at hR
  unfold ixP at hR
  have hag:∃ cs,a8 x=.agg cs∧cs.length=5:=⟨_,rfl,rfl⟩
  obtain ⟨cs,hcs,hcl3⟩:=hag
  have hts:List.take 5 cs=cs:=ybc (by omega)
  simp only [go_sem,iNq,ybb,hg',hcs,hcl3,hts,CK]
  (repeat with_reducible refine Yq ?_)
  refine ⟨x,n,⟨hcs.symm,hg⟩,?_⟩
  try simp only [aM,go_sem]
  (repeat with_reducible refine Yq ?_)
  refine au (fun hq=>?_) (fun hq=>?_)
  ·rw [if_pos hq] at hR
   subst hR
   exact Y47
  ·rw [if_neg (by rw [hq];decide)] at hR
   simp only [go_sem,e5]
   refine ⟨k+1,⟨by omega,hR⟩,by omega,nrq _,lRq _,hcl,?_,?_⟩
   ·simp [ltF,znb,hm,hf]
   ·exact Y10
 ·have hk':k=ts.length:=by simp at hc;omega
  exact Y37
def kj:List AV→AHeap→(AV→Prop)→Prop
 |[.agg l,.int .i64 n],_,K=>∃ S:Sch,(l=bv S∧S.actions.length≤1000000)∧K (.int .i64 (ixP (fun t:SAction=>t.id==n) S.actions 0))
 |_,_,_=>False
theorem rV:EntOk Tryz.prog 36 (Ent.pure kj):=by
 refine Ype fun _ H K h=>?_
 unfold kj at h
 split at h
 rotate_left
 ·exact h.elim
 rename_i l n
 obtain ⟨S,⟨rfl,hl⟩,hK⟩:=h
 refine ⟨_,hK,?_⟩
 clear hK
 refine Yfv ax (tCq HI tNq) Tryz.func36 [.tmp 4] fun hcl hlt=>?_
 clear hlt
 simp only [go_sem,bv,vI]
 (repeat with_reducible refine Yq ?_)
 refine ⟨S.actions,n,⟨rfl,by simp only [go_sem],hl⟩,?_⟩
 try exact Y99
def lV:List AV→AHeap→(AV→Prop)→Prop
 |[.agg l,.int .i64 n],_,K=>∃ S:Sch,(l=bv S∧SLen S)∧K (.int .i64 (ixP (fun t:SAction=>t.id==n) S.actions 0))
 |_,_,_=>False
theorem ss:EntOk Tryz.prog 37 (Ent.pure lV):=by
 refine Ype fun _ H K h=>?_
 unfold lV at h
 split at h
 rotate_left
 ·exact h.elim
 rename_i l n
 obtain ⟨S,⟨rfl,hS⟩,hK⟩:=h
 refine ⟨_,hK,?_⟩
 clear hK
 refine Yfv ax (tCq zi (tCq sU tNq)) Tryz.func37 [.tmp 4] fun hcl hlt=>?_
 clear hlt
 simp only [go_sem,bv,v3]
 (repeat with_reducible refine Yq ?_)
 refine ⟨S,⟨rfl,hS⟩,?_⟩
 try simp only [aM,go_sem,A5,sI,oJ]
 (repeat with_reducible refine Yq ?_)
 refine ⟨_,⟨rfl,by have h1:=hS.al;simpa using h1⟩,?_⟩
 rw [uM]
 try simp only [aM,go_sem]
 exact Y12
def N4 (S:Sch) (id:Int):Option SAction:=S.actions.find? fun a=>a.id==id
noncomputable def oz (vs:List VN) (s:List UInt8) (b:List (VN × Nat)):Bool:=if (comp (bV vs) s).2=0 then yX b (comp (bV vs) s).1 else false
noncomputable def Nv (S:Sch) (e:SEntry):Bool:=if e.act=0 then true else match N4 S e.act with
 |some a=>oz (eC a.params) a.restr (iG a.params e.args a.params.length)
 |none=>false
noncomputable def zB (S:Sch) (e:SEntry):Bool:=match tC S e.table with
 |some t=>oz (mK t.keys) t.restr (nQ S.fields t.keys e.ms e.prio)&&Nv S e
 |none=>false
structure SAdm (S:Sch):Prop where
 sl:SLen S
 tk:∀ t∈S.tables,Ex t
 ak:∀ a∈S.actions,KP a
structure EAdm (e:SEntry):Prop where
 ml:e.ms.length≤4611686018427387904
 pf:∀ m∈e.ms,m.pfx<9223372036854775808
 pr:e.prio<9223372036854775808
 mo:∀ m∈e.ms,MOk m
 ar:∀ x∈e.args,x<2^128
theorem Fe {x:SMatch} (h:MOk x) (hp:x.pfx<9223372036854775808) {a:List UInt8} {w:Int}:iH x a w<2^128:=by
 have h1:=ka w
 obtain ⟨h2,h3,h4⟩:=h
 have h5:x.pfx.toNat<2^128:=by
  have:x.pfx.toNat<9223372036854775808:=by omega
  omega
 unfold iH
 repeat' split
 all_goals assumption
theorem x8 {fs:List SField} {keys:List SKey} {e:SEntry} (h:EAdm e) (hk:keys.length≤1000):Ax (nQ fs keys e.ms e.prio):=by
 refine ⟨?_,?_⟩
 ·have:=@iW fs keys e.ms keys.length
  unfold nQ
  rw [lAq]
  simp only [yaz,yba]
  omega
 ·have key:∀ k,∀ x∈bT fs keys e.ms k,x.2<2^128:=by
   intro k
   induction k with
   |zero=>intro x hx;cases hx
   |succ k ih =>
    intro x hx
    rw [bT] at hx
    rcases List.mem_append.1 hx with hx|hx
    ·exact ih x hx
    ·unfold rX at hx
     split at hx
     ·unfold eL at hx
      obtain ⟨a,_,rfl⟩:=List.mem_map.1 hx
      dsimp only
      rw [gEq]
      rcases Nat.lt_or_ge k e.ms.length with h1|h1
      ·rw [gQq h1]
       exact Fe (h.mo _ (gMq h1)) (h.pf _ (gMq h1))
      ·rw [gNq h1]
       exact Fe (x:=cu) ⟨by decide,by decide,by decide⟩ (by decide)
     ·cases hx
  intro x hx
  unfold nQ at hx
  rcases List.mem_append.1 hx with hx|hx
  ·have:=key _ x hx;omega
  ·rw [List.mem_singleton.1 hx]
   have:=h.pr
   show e.prio.toNat<340282366920938463463374607431768211456
   have:e.prio.toNat<9223372036854775808:=by omega
   omega
theorem yK {ps:List SParam} {e:SEntry} (h:EAdm e) (hk:ps.length≤1000):Ax (iG ps e.args ps.length):=by
 refine ⟨by rw [pA];omega,?_⟩
 have key:∀ k,∀ x∈iG ps e.args k,x.2<2^128:=by
  intro k
  induction k with
  |zero=>intro x hx;cases hx
  |succ k ih =>
   intro x hx
   rw [iG] at hx
   rcases List.mem_append.1 hx with hx|hx
   ·exact ih x hx
   ·rw [List.mem_singleton.1 hx]
    dsimp only
    rw [gEq]
    rcases Nat.lt_or_ge k e.args.length with h1|h1
    ·rw [gQq h1];exact h.ar _ (gMq h1)
    ·rw [gNq h1];decide
 intro x hx
 have:=key _ x hx
 omega
theorem sc {α:Type} {q:α→Bool} {l:List α}:(ixP q l 0 = -1∧l.find? q=none)∨∃ (i:Nat) (x:α),ixP q l 0=(i:Int)∧i<l.length∧l[i]?=some x∧l.find? q=some x∧q x=true:=by
 exact Y69
def C6:List AV→AHeap→(AV→Prop)→Prop
 |[.agg l,.agg le],_,K=>∃ S e,(l=bv S∧le=bG e∧SAdm S∧EAdm e)∧K (.bool (zB S e))
 |_,_,_=>False
theorem xW {t:STable} (h:Ex t):t.restr.length≤140737488355328:=h.2.2
set_option maxHeartbeats 4000000 in
theorem Mw:EntOk Tryz.prog 14 (Ent.pure C6):=by
 refine Ype fun _ H K h=>?_
 unfold C6 at h
 split at h
 rotate_left
 ·exact h.elim
 rename_i l le
 obtain ⟨S,e,⟨rfl,rfl,hS,he⟩,hK⟩:=h
 refine ⟨_,hK,?_⟩
 clear hK
 generalize hR:zB S e=R
 unfold zB tC at hR
 refine ACalls.fW ax (tCq oM (tCq p9 (tCq AU (tCq JT (tCq GA (tCq rV (tCq pd (tCq FZ tNq)))))))) Tryz.func14 [.tmp 4] (nrq _) (T:=av [(4,[[],[],[],[],[],[],[],[],[],[],[],[7,10],[1,5,7,10,11]]),(5,[[],[],[],[],[],[],[],[],[],[],[],[4,6,9,10],[4,6,9,10,11]]),(12,[[],[],[],[],[],[],[],[],[],[],[],[7,10],[1,5,7,10,11]]),(13,[[],[],[],[],[],[],[],[],[],[],[],[5,8,10],[5,8,10,11]])]) (h:=fun hcl hlt=>?_)
 have hsx:=fun n' (hn:H.nx≤n')=>AV.lt_mono hn _ (hlt (.agg (bv S)) (by simp))
 have hex:=fun n' (hn:H.nx≤n')=>AV.lt_mono hn _ (hlt (.agg (bG e)) (by simp))
 simp only [znn] at hsx hex
 clear hlt
 simp only [go_sem,bv,bG,lf]
 refine ⟨S,⟨rfl,hS.sl.tl⟩,?_⟩
 rcases sc (q:=fun t:STable=>t.id==e.table) (l:=S.tables) with ⟨b1,b2⟩|⟨i,t,b1,hil,b3,b2,_⟩
 ·rw [b2] at hR
  dsimp only at hR
  subst hR
  rw [b1]
  exact Y76
 rw [b2] at hR
 dsimp only at hR
 rw [b1]
 have d:decide ((i:Int)<0)=false:=by simp
 have hg':=bC (f:=aV) (l:=S.tables) (k:=i) (x:=t) b3
 have htm:t∈S.tables:=List.mem_of_getElem? b3
 have hot:=hS.tk t htm
 simp only [aM,go_sem,d,iNq,hg',aV,ybb,ny]
 have hk1:t.keys.length≤1000:=by have:=hot.1;omega
 refine ⟨by omega,by omega,t.keys,⟨rfl,hk1⟩,?_⟩
 simp only [aM,go_sem,nK]
 refine ⟨mK t.keys,⟨rfl,AX hot,xW hot⟩,?_⟩
 have hC:=@vQ (bV (mK t.keys)) t.restr
 have hbs:=x8 (fs:=S.fields) (keys:=t.keys) he hk1
 unfold oz at hR
 obtain ⟨⟨tr,er⟩,hq⟩:∃ q,comp (bV (mK t.keys)) t.restr=q:=⟨_,rfl⟩
 rw [hq] at hC hR ⊢
 dsimp only at hR
 have hpl:e.prio<9223372036854775808:=he.pr
 by_cases h0:er=0
 rotate_left
 ·rw [if_neg h0,Bool.false_and] at hR
  subst hR
  have d0:((er:Int) != 0)=true:=by simp [h0]
  simp only [aM,go_sem,gJ,d0,ybb]
  exact Z0
 subst h0
 rw [if_pos rfl] at hR
 obtain ⟨hH,hV⟩:=MW (hC rfl) hbs
 have hm:(yE (nQ S.fields t.keys e.ms e.prio) tr).bo=yX (nQ S.fields t.keys e.ms e.prio) tr:=by rw [hV];rfl
 have d0:(((0:Nat):Int) != 0)=false:=rfl
 have dn1:(!true)=false:=rfl
 have dn2:(!false)=true:=rfl
 simp only [aM,go_sem,gJ,d0,iNq,hg',aV,ybb,Ae]
 refine ⟨by omega,S.fields,t.keys,e.ms,⟨.inl ⟨_,rfl⟩,hS.sl.fl,rfl,hk1,.inl ⟨_,rfl⟩,he.ml,he.pf,he.pr⟩,?_⟩
 simp only [aM,go_sem,rH]
 refine ⟨tr,_,⟨rfl,rfl,hH,hbs⟩,?_⟩
 rw [hm]
 cases hmv:yX (nQ S.fields t.keys e.ms e.prio) tr with
 |false =>
  rw [hmv,Bool.false_and] at hR
  subst hR
  simp only [aM,go_sem,dn1,dn2]
  exact Z0
 |true =>
 rw [hmv,Bool.true_and] at hR
 unfold Nv N4 at hR
 by_cases ha:e.act=0
 ·rw [if_pos ha] at hR
  subst hR
  have da:(e.act==0)=true:=by rw [ha];rfl
  simp only [aM,go_sem,dn1,dn2,da]
  exact Z0
 rw [if_neg ha] at hR
 have da:(e.act==0)=false:=by simp [ha]
 simp only [aM,go_sem,dn1,dn2,da,kj]
 refine ⟨S,⟨rfl,hS.sl.al⟩,?_⟩
 rcases sc (q:=fun a:SAction=>a.id==e.act) (l:=S.actions) with ⟨q1,q2⟩|⟨j,a,q1,hjl,q3,q2,_⟩
 ·rw [q2] at hR
  dsimp only at hR
  subst hR
  rw [q1]
  exact Y76
 rw [q2] at hR
 dsimp only at hR
 rw [q1]
 have dj:decide ((j:Int)<0)=false:=by simp
 have hga:=bC (f:=a8) (l:=S.actions) (k:=j) (x:=a) q3
 have hoa:=hS.ak a (List.mem_of_getElem? q3)
 have hp1:a.params.length≤1000:=by have:=hoa.1;omega
 simp only [aM,go_sem,dj,iNq,hga,a8,ybb,mE]
 refine ⟨by omega,by omega,a.params,⟨rfl,hp1⟩,?_⟩
 simp only [aM,go_sem,nK]
 refine ⟨eC a.params,⟨rfl,B3 hoa,hoa.2.2⟩,?_⟩
 have hC2:=@vQ (bV (eC a.params)) a.restr
 have hbs2:=yK (ps:=a.params) he hp1
 unfold oz at hR
 obtain ⟨⟨tr2,er2⟩,hq2⟩:∃ q,comp (bV (eC a.params)) a.restr=q:=⟨_,rfl⟩
 rw [hq2] at hC2 hR ⊢
 dsimp only at hR
 by_cases h02:er2=0
 rotate_left
 ·rw [if_neg h02] at hR
  subst hR
  have d02:((er2:Int)==0)=false:=by simp [h02]
  simp only [aM,go_sem,gJ,d02]
  exact Z0
 subst h02
 rw [if_pos rfl] at hR
 obtain ⟨hH2,hV2⟩:=MW (hC2 rfl) hbs2
 have hm2:(yE (iG a.params e.args a.params.length) tr2).bo=yX (iG a.params e.args a.params.length) tr2:=by rw [hV2];rfl
 have d02:(((0:Nat):Int)==0)=true:=rfl
 simp only [aM,go_sem,gJ,d02,iNq,hga,a8,ybb,wH]
 refine ⟨by omega,a.params,e.args,⟨rfl,hp1,.inl ⟨_,rfl⟩⟩,?_⟩
 try simp only [aM,go_sem,rH]
 refine ⟨tr2,_,⟨rfl,rfl,hH2,hbs2⟩,?_⟩
 rw [hm2,hR]
 try exact Y99
end Go.AL
