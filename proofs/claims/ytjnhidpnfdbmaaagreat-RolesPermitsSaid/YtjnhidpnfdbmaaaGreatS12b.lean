/- Lemmas of the proof; no condition. -/
import Derived.Test.YtjnhidpnfdbmaaaGreatS10r
import Derived.Test.YtjnhidpnfdbmaaaGreatS09u
set_option linter.all false
set_option maxRecDepth 10000
set_option maxHeartbeats 32000000
open Go Go.AL Go.Proofs
namespace Go.AL
theorem Oa:ti Tryz.prog 107=some ⟨.struct [(0,3,false),(1,9,false),(2,104,false),(3,105,false),(4,9,false)],5,88,.agg [.int .i64 0,.str [],.slice .nil 1 [],.slice .nil 1 [],.str []]⟩:=krf
theorem MX:tSl Tryz.prog 33 107:=kSl
theorem PC:ti Tryz.prog 65=some ⟨.struct [(0,3,false),(1,9,false),(2,63,false),(3,50,false),(4,3,false),(5,4,false)],6,88,.agg [.int .i64 0,.str [],.slice .nil 1 [],.slice .nil 1 [],.int .i64 0,.bool false]⟩:=krf
theorem LJ:tSl Tryz.prog 36 65:=kSl
theorem Nm:ti Tryz.prog 80=some ⟨.struct [(0,3,false),(1,9,false),(2,50,false)],3,48,.agg [.int .i64 0,.str [],.slice .nil 1 []]⟩:=krf
theorem MC:tSl Tryz.prog 31 80:=kSl
theorem Oy:ti Tryz.prog 117=some ⟨.struct [(0,3,false),(1,3,false),(2,3,false),(3,115,false),(4,3,false)],5,56,.agg [.int .i64 0,.int .i64 0,.int .i64 0,.slice .nil 1 [],.int .i64 0]⟩:=krf
theorem Kr:tSl Tryz.prog 32 117:=kSl
attribute [go_sem] Oa MX PC LJ Nm MC Oy Kr
def E3:PCt
 |[x,.ptr c 0],H,K=>∃ t n,(x=bu t∧H.get c=some (.cells [.int .i64 n]))∧K (.bool (t.id==n))
 |_,_,_=>False
theorem Pb:EPp 111 E3:=by
 refine Ype fun _ H K h=>?_
 unfold E3 at h
 split at h<;>try exact h.elim
 rename_i x c
 obtain⟨t,n,⟨rfl,hg⟩,hK⟩:=h
 refine⟨_,hK,?_⟩
 clear hK
 unfold bu
 refine Yfv az tNq Tryz.func111 [.tmp 3] fun hcl hlt=>?_
 exact V25
def xZ:PCt
 |[.slice _ 5 l,.func (.func 111) [] [.ptr c 0]],H,K=>∃ (ts:List SAction) (n:Int),(l=ts.map bu∧H.get c=some (.cells [.int .i64 n])∧ts.length≤1000000)∧K (.int .i64 (ixP (fun t:SAction=>t.id==n) ts 0))
 |_,_,_=>False
theorem JP:EPp 110 xZ:=by
 refine Ype fun _ H K h=>?_
 unfold xZ at h
 split at h<;>try exact h.elim
 rename_i m l c
 obtain⟨ts,n,⟨rfl,hg,hl⟩,hK⟩:=h
 refine⟨_,hK,?_⟩
 clear hK
 generalize hR:ixP (fun t:SAction=>t.id==n) ts 0=R
 refine Yfv az (tCq Pb tNq) Tryz.func110 [.tmp 4] fun hcl hlt=>?_
 have hm:AV.lt H.nx (.slice m 5 (ts.map bu)):=hlt _ Xb
 have hf:AV.lt H.nx (.func (.func 111) [] [.ptr c 0]):=hlt _ Xb
 clear hlt
 simp only[go_sem,ybb]
 refine aA (A:=Nat) (fun k=>[(0,.slice m 5 (ts.map bu)),(1,.func (.func 111) [] [.ptr c 0]),(7,.int .i64 (ts.length:Int)),(8,.int .i64 (k:Int))]) (fun _=>H) (fun k=>k≤ts.length∧ixP (fun t:SAction=>t.id==n) (ts.drop k) k=R) (fun k=>ts.length-k) 0 ⟨Xa,hR⟩ ?_ fun k hk=>?_
 ·refine⟨nrq _,lRq _,hcl,?_,?_⟩
  ·simp[ltF,znf,hm,hf]
  ·exact V8
 clear hR
 obtain⟨hk,hR⟩:=hk
 refine T9 ?_
 refine aq (fun hc=>?_) (fun hc=>?_)
 ·have hk':k<ts.length:=sHc
  obtain⟨x,hx⟩:∃ x,x=ts[k]:=⟨_,rfl⟩
  have hd:ts.drop k=x::ts.drop (k+1):=by rw[hx];exact dcq hk'
  have hg':=bf (f:=bu) (l:=ts) (k:=k) (x:=x) (by rw[gQq hk',hx])
  have e5:=Yk5 k
  have hcell:(bu x).cells.length=5:=rfl
  rw[hd]at hR
  unfold ixP at hR
  have hag:∃ cs,bu x=.agg cs∧cs.length=5:=⟨_,rfl,rfl⟩
  obtain⟨cs,hcs,hcl3⟩:=hag
  have hts:List.take 5 cs=cs:=ybc Xa
  simp only[go_sem,iNq,ybb,hg',hcs,hcl3,hts,E3]
  refine T0 ?_
  refine⟨x,n,⟨hcs.symm,hg⟩,?_⟩
  refine T28 ?_
  refine T0 ?_
  refine aq (fun hq=>?_) (fun hq=>?_)
  ·rw[if_pos hq]at hR
   subst hR
   exact V33
  ·rw[if_neg (by rw[hq];decide)]at hR
   refine T37 ?_
   refine⟨k+1,⟨Xa,hR⟩,Xa,nrq _,lRq _,hcl,?_,?_⟩
   ·simp[ltF,znf,hm,hf]
   ·exact V8
 ·have hk':k=ts.length:=sHc
  exact V22
def lr:PCt
 |[.agg l,.int .i64 n],_,K=>∃ S:Sch,(l=bb S∧S.actions.length≤1000000)∧K (.int .i64 (ixP (fun t:SAction=>t.id==n) S.actions 0))
 |_,_,_=>False
theorem tw:EPp 76 lr:=by
 refine Ype fun _ H K h=>?_
 unfold lr at h
 split at h<;>try exact h.elim
 rename_i l n
 obtain⟨S,⟨rfl,hl⟩,hK⟩:=h
 refine⟨_,hK,?_⟩
 clear hK
 refine Yfu az (tCq JP tNq) Tryz.func76 [.tmp 4] fun hcl=>?_
 simp only[go_sem,bb,xZ]
 refine T0 ?_
 refine⟨S.actions,n,⟨rfl,Xk,hl⟩,?_⟩
 exact V46
def mF:PCt
 |[.agg l,.int .i64 n],_,K=>∃ S:Sch,(l=bb S∧SLen S)∧K (.int .i64 (ixP (fun t:SAction=>t.id==n) S.actions 0))
 |_,_,_=>False
theorem tg:EPp 88 mF:=by
 refine Ype fun _ H K h=>?_
 unfold mF at h
 split at h<;>try exact h.elim
 rename_i l n
 obtain⟨S,⟨rfl,hS⟩,hK⟩:=h
 refine⟨_,hK,?_⟩
 clear hK
 refine Yfu az (tCq wJ (tCq qM tNq)) Tryz.func88 [.tmp 4] fun hcl=>?_
 simp only[go_sem,bb,uL]
 refine T0 ?_
 refine⟨S,⟨rfl,hS⟩,?_⟩
 try simp only[aF,go_sem,Ah,sI,oa]
 refine T0 ?_
 refine⟨_,⟨rfl,by have h1:=hS.al;simpa using h1⟩,?_⟩
 rw[ub]
 refine T28 ?_
 exact V3
def FR:PCt
 |[x,.ptr c 0],H,K=>∃ t n,(x=cG t∧H.get c=some (.cells [.int .i64 n]))∧K (.bool (t.id==n))
 |_,_,_=>False
theorem NU:EPp 69 FR:=by
 refine Ype fun _ H K h=>?_
 unfold FR at h
 split at h<;>try exact h.elim
 rename_i x c
 obtain⟨t,n,⟨rfl,hg⟩,hK⟩:=h
 refine⟨_,hK,?_⟩
 clear hK
 unfold cG
 refine Yfv az tNq Tryz.func69 [.tmp 3] fun hcl hlt=>?_
 exact V25
def wV:PCt
 |[.slice _ 6 l,.func (.func 69) [] [.ptr c 0]],H,K=>∃ (ts:List SRole) (n:Int),(l=ts.map cG∧H.get c=some (.cells [.int .i64 n])∧ts.length≤1000000)∧K (.int .i64 (ixP (fun t:SRole=>t.id==n) ts 0))
 |_,_,_=>False
theorem Hn:EPp 68 wV:=by
 refine Ype fun _ H K h=>?_
 unfold wV at h
 split at h<;>try exact h.elim
 rename_i m l c
 obtain⟨ts,n,⟨rfl,hg,hl⟩,hK⟩:=h
 refine⟨_,hK,?_⟩
 clear hK
 generalize hR:ixP (fun t:SRole=>t.id==n) ts 0=R
 refine Yfv az (tCq NU tNq) Tryz.func68 [.tmp 4] fun hcl hlt=>?_
 have hm:AV.lt H.nx (.slice m 6 (ts.map cG)):=hlt _ Xb
 have hf:AV.lt H.nx (.func (.func 69) [] [.ptr c 0]):=hlt _ Xb
 clear hlt
 simp only[go_sem,ybb]
 refine aA (A:=Nat) (fun k=>[(0,.slice m 6 (ts.map cG)),(1,.func (.func 69) [] [.ptr c 0]),(7,.int .i64 (ts.length:Int)),(8,.int .i64 (k:Int))]) (fun _=>H) (fun k=>k≤ts.length∧ixP (fun t:SRole=>t.id==n) (ts.drop k) k=R) (fun k=>ts.length-k) 0 ⟨Xa,hR⟩ ?_ fun k hk=>?_
 ·refine⟨nrq _,lRq _,hcl,?_,?_⟩
  ·simp[ltF,znf,hm,hf]
  ·exact V8
 clear hR
 obtain⟨hk,hR⟩:=hk
 refine T9 ?_
 refine aq (fun hc=>?_) (fun hc=>?_)
 ·have hk':k<ts.length:=sHc
  obtain⟨x,hx⟩:∃ x,x=ts[k]:=⟨_,rfl⟩
  have hd:ts.drop k=x::ts.drop (k+1):=by rw[hx];exact dcq hk'
  have hg':=bf (f:=cG) (l:=ts) (k:=k) (x:=x) (by rw[gQq hk',hx])
  have e5:=Yk5 k
  have hcell:(cG x).cells.length=6:=rfl
  rw[hd]at hR
  unfold ixP at hR
  have hag:∃ cs,cG x=.agg cs∧cs.length=6:=⟨_,rfl,rfl⟩
  obtain⟨cs,hcs,hcl3⟩:=hag
  have hts:List.take 6 cs=cs:=ybc Xa
  simp only[go_sem,iNq,ybb,hg',hcs,hcl3,hts,FR]
  refine T0 ?_
  refine⟨x,n,⟨hcs.symm,hg⟩,?_⟩
  refine T28 ?_
  refine T0 ?_
  refine aq (fun hq=>?_) (fun hq=>?_)
  ·rw[if_pos hq]at hR
   subst hR
   exact V33
  ·rw[if_neg (by rw[hq];decide)]at hR
   refine T37 ?_
   refine⟨k+1,⟨Xa,hR⟩,Xa,nrq _,lRq _,hcl,?_,?_⟩
   ·simp[ltF,znf,hm,hf]
   ·exact V8
 ·have hk':k=ts.length:=sHc
  exact V22
def n8:PCt
 |[.agg l,.int .i64 n],_,K=>∃ S:Sch,(l=bb S∧S.roles.length≤1000000)∧K (.int .i64 (ixP (fun t:SRole=>t.id==n) S.roles 0))
 |_,_,_=>False
theorem rX:EPp 39 n8:=by
 refine Ype fun _ H K h=>?_
 unfold n8 at h
 split at h<;>try exact h.elim
 rename_i l n
 obtain⟨S,⟨rfl,hl⟩,hK⟩:=h
 refine⟨_,hK,?_⟩
 clear hK
 refine Yfu az (tCq Hn tNq) Tryz.func39 [.tmp 4] fun hcl=>?_
 simp only[go_sem,bb,wV]
 refine T0 ?_
 refine⟨S.roles,n,⟨rfl,Xk,hl⟩,?_⟩
 exact V46
def n7:PCt
 |[.agg l,.int .i64 n],_,K=>∃ S:Sch,(l=bb S∧SLen S)∧K (.int .i64 (ixP (fun t:SRole=>t.id==n) S.roles 0))
 |_,_,_=>False
theorem sN:EPp 23 n7:=by
 refine Ype fun _ H K h=>?_
 unfold n7 at h
 split at h<;>try exact h.elim
 rename_i l n
 obtain⟨S,⟨rfl,hS⟩,hK⟩:=h
 refine⟨_,hK,?_⟩
 clear hK
 refine Yfu az (tCq wJ (tCq qM tNq)) Tryz.func23 [.tmp 4] fun hcl=>?_
 simp only[go_sem,bb,uL]
 refine T0 ?_
 refine⟨S,⟨rfl,hS⟩,?_⟩
 try simp only[aF,go_sem,Ah,sI,oa]
 refine T0 ?_
 refine⟨_,⟨rfl,by have h1:=hS.rl;simpa using h1⟩,?_⟩
 rw[ub]
 refine T28 ?_
 exact V3
def QE(S:Sch)(id:Int):Option SAction:=S.actions.find? fun a=>a.id==id
noncomputable def qk (vs:List VN) (s:List UInt8) (b:List (VN × Nat)):Bool:=if(comp (bX vs) s).2=0 then zW b (comp (bX vs) s).1 else false
noncomputable def Qu (S:Sch) (e:SEntry):Bool:=if e.act=0 then true else match QE S e.act with
 |some a=>qk (eR a.params) a.restr (jc a.params e.args a.params.length)
 |none=>false
noncomputable def wm (S:Sch) (e:SEntry):Bool:=match iW S e.table with
 |some t=>qk (nM t.keys) t.restr (pk S.fields t.keys e.ms e.prio)&&Qu S e
 |none=>false
structure SAdm(S:Sch):Prop where
 sl:SLen S
 tk:∀ t∈S.tables,Gx t
 ak:∀ a∈S.actions,JW a
structure EAdm(e:SEntry):Prop where
 ml:e.ms.length≤4611686018427387904
 pf:∀ m∈e.ms,m.pfx<9223372036854775808
 pr:e.prio<9223372036854775808
 mo:∀ m∈e.ms,MOk m
 ar:∀ x∈e.args,x<2^128
theorem GD{x:SMatch}(h:MOk x)(hp:x.pfx<9223372036854775808){a:List UInt8}{w:Int}:jf x a w<2^128:=by
 have h1:=l9 w
 obtain⟨h2,h3,h4⟩:=h
 have h5:x.pfx.toNat<2^128:=by
  have:x.pfx.toNat<9223372036854775808:=Xa
  omega
 unfold jf
 repeat' split
 all_goals assumption
theorem AK{fs:List SField}{keys:List SKey}{e:SEntry}(h:EAdm e)(hk:keys.length≤1000):B0 (pk fs keys e.ms e.prio):=by
 refine⟨?_,?_⟩
 ·have:=@jr fs keys e.ms keys.length
  unfold pk
  rw[lAq]
  simp only[yaz,yba]
  omega
 ·have key:∀ k,∀ x∈cd fs keys e.ms k,x.2<2^128:=by
   intro k
   induction k with
   |zero=>intro x hx;cases hx
   |succ k ih =>
    intro x hx
    rw[cd]at hx
    rcases List.mem_append.1 hx with hx|hx
    ·exact ih x hx
    ·unfold tN at hx
     split at hx
     ·unfold eY at hx
      obtain⟨a,_,rfl⟩:=List.mem_map.1 hx
      dsimp only
      rw[gEq]
      rcases Nat.lt_or_ge k e.ms.length with h1|h1
      ·rw[gQq h1]
       exact GD (h.mo _ (gMq h1)) (h.pf _ (gMq h1))
      ·rw[gNq h1]
       exact GD (x:=cC) ⟨Xc,Xc,Xc⟩ Xc
     ·cases hx
  intro x hx
  unfold pk at hx
  rcases List.mem_append.1 hx with hx|hx
  ·have:=key _ x hx;omega
  ·rw[List.mem_singleton.1 hx]
   have:=h.pr
   show e.prio.toNat<340282366920938463463374607431768211456
   have:e.prio.toNat<9223372036854775808:=Xa
   omega
theorem zO{ps:List SParam}{e:SEntry}(h:EAdm e)(hk:ps.length≤1000):B0 (jc ps e.args ps.length):=by
 refine⟨by rw[qW];omega,?_⟩
 have key:∀ k,∀ x∈jc ps e.args k,x.2<2^128:=by
  intro k
  induction k with
  |zero=>intro x hx;cases hx
  |succ k ih =>
   intro x hx
   rw[jc]at hx
   rcases List.mem_append.1 hx with hx|hx
   ·exact ih x hx
   ·rw[List.mem_singleton.1 hx]
    dsimp only
    rw[gEq]
    rcases Nat.lt_or_ge k e.args.length with h1|h1
    ·rw[gQq h1];exact h.ar _ (gMq h1)
    ·rw[gNq h1];decide
 intro x hx
 have:=key _ x hx
 omega
theorem fQ{α:Type}{q:α→Bool}{l:List α}:(ixP q l 0 = -1∧l.find? q=none)∨∃ (i:Nat) (x:α),ixP q l 0=(i:Int)∧i<l.length∧l[i]?=some x∧l.find? q=some x∧q x=true:=by
 exact V64
def FZ:PCt
 |[.agg l,.agg le],_,K=>∃ S e,(l=bb S∧le=a9 e∧SAdm S∧EAdm e)∧K (.bool (wm S e))
 |_,_,_=>False
theorem zZ{t:STable}(h:Gx t):t.restr.length≤140737488355328:=h.2.2
theorem PF:EPp 49 FZ:=by
 refine Ype fun _ H K h=>?_
 unfold FZ at h
 split at h<;>try exact h.elim
 rename_i l le
 obtain⟨S,e,⟨rfl,rfl,hS,he⟩,hK⟩:=h
 refine⟨_,hK,?_⟩
 clear hK
 generalize hR:wm S e=R
 unfold wm iW at hR
 refine ACalls.fW az (tCq kY (tCq rD (tCq CK (tCq Lx (tCq Iw (tCq tw (tCq qd (tCq HT tNq)))))))) Tryz.func49 [.tmp 4] (nrq _) (T:=ay [(4,[[],[],[],[],[],[],[],[],[],[],[],[7,10],[1,5,7,10,11]]),(5,[[],[],[],[],[],[],[],[],[],[],[],[4,6,9,10],[4,6,9,10,11]]),(12,[[],[],[],[],[],[],[],[],[],[],[],[7,10],[1,5,7,10,11]]),(13,[[],[],[],[],[],[],[],[],[],[],[],[5,8,10],[5,8,10,11]])]) (h:=fun hcl hlt=>?_)
 have hsx:=fun n' (hn:H.nx≤n')=>AV.lt_mono hn _ (hlt (.agg (bb S)) Xb)
 have hex:=fun n' (hn:H.nx≤n')=>AV.lt_mono hn _ (hlt (.agg (a9 e)) Xb)
 simp only[znr]at hsx hex
 clear hlt
 simp only[go_sem,bb,a9,jt]
 refine⟨S,⟨rfl,hS.sl.tl⟩,?_⟩
 rcases fQ (q:=fun t:STable=>t.id==e.table) (l:=S.tables)with⟨b1,b2⟩|⟨i,t,b1,hil,b3,b2,_⟩
 ·rw[b2]at hR
  dsimp only at hR
  subst hR
  rw[b1]
  exact V70
 rw[b2]at hR
 dsimp only at hR
 rw[b1]
 have d:decide ((i:Int)<0)=false:=Xb
 have hg':=bf (f:=bc) (l:=S.tables) (k:=i) (x:=t) b3
 have htm:t∈S.tables:=List.mem_of_getElem? b3
 have hot:=hS.tk t htm
 simp only[aF,go_sem,d,iNq,hg',bc,ybb,oy]
 have hk1:t.keys.length≤1000:=by have:=hot.1;omega
 refine⟨Xa,Xa,t.keys,⟨rfl,hk1⟩,?_⟩
 simp only[aF,go_sem,oC]
 refine⟨nM t.keys,⟨rfl,Dk hot,zZ hot⟩,?_⟩
 have hC:=@xg (bX (nM t.keys)) t.restr
 have hbs:=AK (fs:=S.fields) (keys:=t.keys) he hk1
 unfold qk at hR
 obtain⟨⟨tr,er⟩,hq⟩:∃ q,comp (bX (nM t.keys)) t.restr=q:=⟨_,rfl⟩
 rw[hq]at hC hR ⊢
 dsimp only at hR
 have hpl:e.prio<9223372036854775808:=he.pr
 by_cases h0:er=0
 rotate_left
 ·rw[if_neg h0,Bool.false_and]at hR
  subst hR
  have d0:((er:Int) !=0)=true:=by simp[h0]
  simp only[aF,go_sem,il,d0,ybb]
  exact Z0
 subst h0
 rw[if_pos rfl]at hR
 obtain⟨hH,hV⟩:=P6 (hC rfl) hbs
 have hm:(Aj (pk S.fields t.keys e.ms e.prio) tr).bo=zW (pk S.fields t.keys e.ms e.prio) tr:=by rw[hV];rfl
 have d0:(((0:Nat):Int) !=0)=false:=rfl
 have dn1:(!true)=false:=rfl
 have dn2:(!false)=true:=rfl
 simp only[aF,go_sem,il,d0,iNq,hg',bc,ybb,A9]
 refine⟨Xa,S.fields,t.keys,e.ms,⟨.inl ⟨_,rfl⟩,hS.sl.fl,rfl,hk1,.inl ⟨_,rfl⟩,he.ml,he.pf,he.pr⟩,?_⟩
 simp only[aF,go_sem,ud]
 refine⟨tr,_,⟨rfl,rfl,hH,hbs⟩,?_⟩
 rw[hm]
 cases hmv:zW (pk S.fields t.keys e.ms e.prio) tr with
 |false=>
  rw[hmv,Bool.false_and]at hR
  subst hR
  simp only[aF,go_sem,dn1,dn2]
  exact Z0
 |true=>
 rw[hmv,Bool.true_and]at hR
 unfold Qu QE at hR
 by_cases ha:e.act=0
 ·rw[if_pos ha]at hR
  subst hR
  have da:(e.act==0)=true:=by rw[ha];rfl
  simp only[aF,go_sem,dn1,dn2,da]
  exact Z0
 rw[if_neg ha]at hR
 have da:(e.act==0)=false:=by simp[ha]
 simp only[aF,go_sem,dn1,dn2,da,lr]
 refine⟨S,⟨rfl,hS.sl.al⟩,?_⟩
 rcases fQ (q:=fun a:SAction=>a.id==e.act) (l:=S.actions)with⟨q1,q2⟩|⟨j,a,q1,hjl,q3,q2,_⟩
 ·rw[q2]at hR
  dsimp only at hR
  subst hR
  rw[q1]
  exact V70
 rw[q2]at hR
 dsimp only at hR
 rw[q1]
 have dj:decide ((j:Int)<0)=false:=Xb
 have hga:=bf (f:=bu) (l:=S.actions) (k:=j) (x:=a) q3
 have hoa:=hS.ak a (List.mem_of_getElem? q3)
 have hp1:a.params.length≤1000:=by have:=hoa.1;omega
 simp only[aF,go_sem,dj,iNq,hga,bu,ybb,np]
 refine⟨Xa,Xa,a.params,⟨rfl,hp1⟩,?_⟩
 simp only[aF,go_sem,oC]
 refine⟨eR a.params,⟨rfl,D2 hoa,hoa.2.2⟩,?_⟩
 have hC2:=@xg (bX (eR a.params)) a.restr
 have hbs2:=zO (ps:=a.params) he hp1
 unfold qk at hR
 obtain⟨⟨tr2,er2⟩,hq2⟩:∃ q,comp (bX (eR a.params)) a.restr=q:=⟨_,rfl⟩
 rw[hq2]at hC2 hR ⊢
 dsimp only at hR
 by_cases h02:er2=0
 rotate_left
 ·rw[if_neg h02]at hR
  subst hR
  have d02:((er2:Int)==0)=false:=by simp[h02]
  simp only[aF,go_sem,il,d02]
  exact Z0
 subst h02
 rw[if_pos rfl]at hR
 obtain⟨hH2,hV2⟩:=P6 (hC2 rfl) hbs2
 have hm2:(Aj (jc a.params e.args a.params.length) tr2).bo=zW (jc a.params e.args a.params.length) tr2:=by rw[hV2];rfl
 have d02:(((0:Nat):Int)==0)=true:=rfl
 simp only[aF,go_sem,il,d02,iNq,hga,bu,ybb,xW]
 refine⟨Xa,a.params,e.args,⟨rfl,hp1,.inl ⟨_,rfl⟩⟩,?_⟩
 try simp only[aF,go_sem,ud]
 refine⟨tr2,_,⟨rfl,rfl,hH2,hbs2⟩,?_⟩
 rw[hm2,hR]
 exact V46
theorem Oj:ti Tryz.prog 78=some ⟨.struct [(0,3,false),(1,9,false),(2,3,false)],3,32,.agg [.int .i64 0,.str [],.int .i64 0]⟩:=krf
theorem Me:tSl Tryz.prog 30 78:=kSl
theorem LR:tFn Tryz.prog 212:=kFn
theorem O0:ti Tryz.prog 80=some ⟨.struct [(0,3,false),(1,9,false),(2,50,false)],3,48,.agg [.int .i64 0,.str [],.slice .nil 1 []]⟩:=krf
theorem LF:tSl Tryz.prog 31 80:=kSl
theorem NL:ti Tryz.prog 117=some ⟨.struct [(0,3,false),(1,3,false),(2,3,false),(3,115,false),(4,3,false)],5,56,.agg [.int .i64 0,.int .i64 0,.int .i64 0,.slice .nil 1 [],.int .i64 0]⟩:=krf
theorem K9:tSl Tryz.prog 32 117:=kSl
theorem Oh:ti Tryz.prog 107=some ⟨.struct [(0,3,false),(1,9,false),(2,104,false),(3,105,false),(4,9,false)],5,88,.agg [.int .i64 0,.str [],.slice .nil 1 [],.slice .nil 1 [],.str []]⟩:=krf
theorem Mf:tSl Tryz.prog 33 107:=kSl
theorem Mh:tFn Tryz.prog 172:=kFn
theorem NA:ti Tryz.prog 110=some ⟨.struct [(0,9,false),(1,3,false)],2,24,.agg [.str [],.int .i64 0]⟩:=krf
theorem L2:tSl Tryz.prog 104 110:=kSl
theorem N3:ti Tryz.prog 91=some ⟨.struct [(0,3,false),(1,9,false),(2,89,false),(3,50,false),(4,3,false),(5,24,false),(6,3,false),(7,9,false)],8,128,.agg [.int .i64 0,.str [],.slice .nil 1 [],.slice .nil 1 [],.int .i64 0,.slice .nil 1 [],.int .i64 0,.str []]⟩:=krf
theorem M3:tSl Tryz.prog 34 91:=kSl
theorem L4:tFn Tryz.prog 127:=kFn
theorem OR:ti Tryz.prog 102=some ⟨.struct [(0,9,false),(1,3,false),(2,3,false)],3,32,.agg [.str [],.int .i64 0,.int .i64 0]⟩:=krf
theorem K5:tSl Tryz.prog 89 102:=kSl
theorem L1:tFn Tryz.prog 170:=kFn
theorem Pw:ti Tryz.prog 65=some ⟨.struct [(0,3,false),(1,9,false),(2,63,false),(3,50,false),(4,3,false),(5,4,false)],6,88,.agg [.int .i64 0,.str [],.slice .nil 1 [],.slice .nil 1 [],.int .i64 0,.bool false]⟩:=krf
theorem Kq:tSl Tryz.prog 36 65:=kSl
theorem LE:tFn Tryz.prog 132:=kFn
theorem NX:ti Tryz.prog 123=some ⟨.struct [(0,3,false),(1,3,false),(2,121,false)],6,48,.agg [.int .i64 0,.int .i64 0,.int .i64 0,.int .i64 0,.int .u64 0,.int .u64 0]⟩:=krf
theorem Mc:tSl Tryz.prog 105 123:=kSl
theorem OZ:ti Tryz.prog 86=some ⟨.struct [(0,3,false),(1,3,false)],2,16,.agg [.int .i64 0,.int .i64 0]⟩:=krf
theorem Kg:tSl Tryz.prog 35 86:=kSl
theorem N9:ti Tryz.prog 69=some ⟨.struct [(0,3,false),(1,4,false),(2,4,false),(3,67,false)],4,40,.agg [.int .i64 0,.bool false,.bool false,.slice .nil 1 []]⟩:=krf
theorem MS:tSl Tryz.prog 63 69:=kSl
theorem L7:tFn Tryz.prog 129:=kFn
theorem Oo:ti Tryz.prog 119=some ⟨.struct [(0,29,false),(2,29,false),(4,3,false)],5,40,.agg [.int .u64 0,.int .u64 0,.int .u64 0,.int .u64 0,.int .i64 0]⟩:=krf
theorem Mg:tSl Tryz.prog 115 119:=kSl
theorem OY:ti Tryz.prog 88=some ⟨.struct [(0,3,false),(1,3,false),(2,3,false),(3,3,false),(4,3,false),(5,3,false)],6,48,.agg [.int .i64 0,.int .i64 0,.int .i64 0,.int .i64 0,.int .i64 0,.int .i64 0]⟩:=krf
theorem LQ:tSl Tryz.prog 37 88:=kSl
theorem NQ:ti Tryz.prog 3=some ⟨.int .i64,1,8,.int .i64 0⟩:=krf
theorem MY:tSl Tryz.prog 50 3:=kSl
attribute [go_sem] Oj Me LR O0 LF NL K9 Oh Mf Mh NA L2 N3 M3 L4 OR K5 L1 Pw Kq LE NX Mc OZ Kg N9 MS L7 Oo Mg OY LQ NQ MY
def O3(P:Program)(F:FuncId):PCt:=fun args H K=>∃ x,K x∧ACalls P F args H (.ret x) H
theorem yy{P:Program}{F:FuncId}:EntOk P F (Ent.pure (O3 P F)):=EntOk.pure fun _ _ _ h=>h
theorem clB{P:Program}{f:FuncId}{p:PCt}{args:List AV}{H:AHeap}{b:AV}(h:EntOk P f (Ent.pure p))(hp:p args H (fun v=>v=b)):ACalls P f args H (.ret b) H:=by
 obtain⟨v,hv,hc⟩:=h.1 rfl _ _ _ hp
 subst hv
 exact hc
def AV.smk:AV→Mark
 |.slice m _ _=>m
 |_=>.any
def pIx{α:Type}(P:Program)(av:α→AV)(sz:Nat):PCt
 |[x,.func (.func F) fst caps],H,K=>∃ (ts:List α) (q:α→Bool),(x=.slice x.smk sz (ts.map av)∧ts.length≤1000000∧∀ x∈ts,ACalls P F (fst++[av x]++caps) H (.ret (.bool (q x))) H)∧K (.int .i64 (ixP q ts 0))
 |_,_,_=>False
theorem QC{α:Type}{P:Program}{f:FuncId}{av:α→AV}{sz:Nat}(h:∀(av':α→AV)(sz':Nat),av'=av→sz'=sz→∀(m:Mark)(ts:List α)(q:α→Bool)(F:FuncId)(fst caps:List AV)(H:AHeap),ts.length≤1000000→(∀ x∈ts,ACalls P F (fst++[av' x]++caps) H (.ret (.bool (q x))) H)→ACalls P f [.slice m sz' (ts.map av'),.func (.func F) fst caps] H (.ret (.int .i64 (ixP q ts 0))) H):EntOk P f (Ent.pure (pIx P av sz)):=by
 refine EntOk.pure fun args H K hh=>?_
 unfold pIx at hh
 split at hh
 ·obtain⟨ts,q,⟨h1,h2,h3⟩,h4⟩:=hh
  rw[h1]
  exact⟨_,h4,h av sz rfl rfl _ ts q _ _ _ _ h2 h3⟩
 ·exact hh.elim
def pAn{α:Type}(P:Program)(av:α→AV)(sz:Nat):PCt
 |[x,.func (.func F) fst caps],H,K=>∃ (ts:List α) (q:α→Bool),(x=.slice x.smk sz (ts.map av)∧ts.length≤1000000∧∀ x∈ts,ACalls P F (fst++[av x]++caps) H (.ret (.bool (q x))) H)∧K (.bool (ts.any q))
 |_,_,_=>False
def pEv{α:Type}(P:Program)(av:α→AV)(sz:Nat):PCt
 |[x,.func (.func F) fst caps],H,K=>∃ (ts:List α) (q:α→Bool),(x=.slice x.smk sz (ts.map av)∧ts.length≤1000000∧∀ x∈ts,∀ H',H.Le H'→H'.Closed→ACalls P F (fst++[av x]++caps) H' (.ret (.bool (q x))) H')∧K (.bool (ts.all q))
 |_,_,_=>False
def pCl{α:Type}(P:Program)(av:α→AV):PCt
 |[x,.ptr c 0],H,K=>∃ (t:α) (b:Bool) (F:FuncId) (fst caps:List AV),(x=av t∧H.get c=some (.cells [.func (.func F) fst caps])∧∀ H',H.Le H'→H'.Closed→ACalls P F (fst++[av t]++caps) H' (.ret (.bool b)) H')∧K (.bool (!b))
 |_,_,_=>False
attribute [go_sem] pIx pAn pEv pCl
abbrev N5:=@pIx SGrant Tryz.prog bO 4
theorem Mn:EPp 65 N5:=QC fun av sz ha hs m ts q F fst caps H hl hq=>by
 have hag:∀ x,∃ cs,av x=.agg cs∧cs.length=sz:=by subst ha hs;exact fun x=>⟨_,rfl,rfl⟩
 refine Yfv az (tCq (yy (F:=F)) tNq) Tryz.func65 [.tmp 4] fun hcl hlt=>?_
 generalize hR:ixP q ts 0=R
 have hm:AV.lt H.nx (.slice m sz (ts.map av)):=hlt _ Xb
 have hf:AV.lt H.nx (.func (.func F) fst caps):=hlt _ Xb
 clear hlt
 simp only[go_sem,ybb]
 refine aA (A:=Nat) (fun k=>[(0,.slice m sz (ts.map av)),(1,.func (.func F) fst caps),(7,.int .i64 (ts.length:Int)),(8,.int .i64 (k:Int))]) (fun _=>H) (fun k=>k≤ts.length∧ixP q (ts.drop k) k=R) (fun k=>ts.length-k) 0 ⟨Xa,hR⟩ ?_ fun k hk=>?_
 ·exact⟨nrq _,lRq _,hcl,by simp[ltF,znf,hm,hf],by simp[aJ,wk2,wk1,wkM,Fr.get]⟩
 clear hR
 obtain⟨hk,hR⟩:=hk
 refine T9 ?_
 refine aq (fun hc=>?_) (fun hc=>?_)
 ·have hk':k<ts.length:=sHc
  obtain⟨x,hx⟩:∃ x,x=ts[k]:=⟨_,rfl⟩
  have hd:ts.drop k=x::ts.drop (k+1):=by rw[hx];exact dcq hk'
  have hg':=bf (f:=av) (l:=ts) (k:=k) (x:=x) (by rw[gQq hk',hx])
  have e5:=Yk5 k
  rw[hd]at hR
  unfold ixP at hR
  have hqx:=hq x (by rw[hx];exact gMq hk')
  obtain⟨cs,hcs,hcl3⟩:=hag x
  have hts:List.take sz cs=cs:=ybc Xa
  rw[hcs]at hqx
  clear ha hag
  subst hs
  simp only[go_sem,iNq,ybb,hg',hcs,hcl3,hts,O3]
  refine T0 ?_
  refine⟨_,?_,hqx⟩
  refine T28 ?_
  refine T1 ?_
  refine aq (fun hq=>?_) (fun hq=>?_)
  ·rw[if_pos hq]at hR
   subst hR
   exact V33
  ·rw[if_neg (by rw[hq];decide)]at hR
   refine T37 ?_
   exact⟨k+1,⟨Xa,hR⟩,Xa,nrq _,lRq _,hcl,by simp[ltF,znf,hm,hf],by simp[aJ,wk2,wk1,wkM,Fr.get]⟩
 ·have hk':k=ts.length:=sHc
  exact V22
end Go.AL
