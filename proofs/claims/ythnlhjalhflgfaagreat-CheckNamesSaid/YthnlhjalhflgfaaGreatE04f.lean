/- Lemmas of the proof; no condition. -/
import Derived.Test.YthnlhjalhflgfaaGreatE04d
set_option linter.all false
set_option maxRecDepth 10000
set_option maxHeartbeats 32000000
open List renaming length_cons → yaz, length_nil → yba, take_of_length_le → ybc, drop_append → ybd, take_append → ybe, drop_eq_nil_of_le → ybf, length_map → ybb, take_succ_cons → yaq, take_zero → yar, drop_succ_cons → yao, drop_zero → yap
open Go Go.AL Go.Proofs
namespace Go.AL
theorem Ai:ti Tryz.prog 110=some ⟨.struct [(0,3,false),(1,3,false),(2,106,false)],4,32,.agg [.int .i64 0,.int .i64 0,.int .u64 0,.int .u64 0]⟩:=by kernel_rfl
attribute [go_sem] Ai
def nV (n:Int):Bool:=n==1||(n==2||(n==3||n==7))
def fpB (p:SPrim):Bool:=wB p.op 1 7&&(!((p.op==6||p.op==7)&&p.dst != 0)&&(if nV p.op then (if p.kind==1 then p.n==0 else (p.kind==2||p.kind==3)&&decide (p.value=0)) else (p.kind==0&&(p.n==0&&decide (p.value=0)))))
def ftB:List SKey→Nat→Bool
 |[],n=>decide (n≤1)
 |k::l,n=>wB k.kind 1 4&&ftB l (if k.kind==2 then n+1 else n)
def fsB (t:SState):Bool:=t.select != 0||decide (t.cases.length=0)
def frB (r:SRef):Bool:=if r.action==0 then r.param==0 else r.key==0
def mv (S:Sch):Bool:=(S.actions.all fun a=>a.body.all fpB)&&((S.tables.all fun t=>ftB t.keys 0)&&(S.states.all fsB&&S.refs.all frB))
theorem MO {n:Nat}:((n:Int)==0)=decide (n=0):=by rw [Bool.eq_iff_iff];simp
def cV:List AV→AHeap→(AV→Prop)→Prop
 |[.int .i64 n],_,K=>K (.bool (nV n))
 |_,_,_=>False
theorem zV:EntOk Tryz.prog 261 (Ent.pure cV):=by
 refine Ype fun _ H K h=>?_
 unfold cV at h
 split at h
 rotate_left
 ·exact h.elim
 rename_i n
 refine ⟨_,h,?_⟩
 clear h
 generalize hR:nV n=R
 unfold nV at hR
 refine ACalls.fW ap tNq Tryz.func261 [.tmp 2] (nrq _) (T:=aj []) (h:=fun hcl hlt=>?_)
 clear hlt
 cases h1:n==1<;>cases h2:n==2<;>cases h3:n==3<;>cases h7:n==7<;>(
  simp only [h1,h2,h3,h7,Bool.true_or,Bool.false_or,Bool.or_true] at hR
  subst hR
  simp only [go_sem,h1,h2,h3,h7]
  simp (disch:=first|exact Zd|omega) [↓zmo,beq,ybc,ybd,ybe,aa,wk,wk2,wk1,wkM,wkL,ae,ybf,hcl])
def zo:List AV→AHeap→(AV→Prop)→Prop
 |[x],_,K=>∃ t:SPrim,(x=bV t∧t.value<340282366920938463463374607431768211456)∧K (.bool (fpB t))
 |_,_,_=>False
theorem dM:Tryz.prog.eqGuardType Tryz.prog.depth 106=false:=by kernel_rfl
theorem eR:Tryz.prog.eqGuardType Tryz.prog.depth 110=false:=by kernel_rfl
theorem dN {v:Nat}:teq Tryz.prog 9 106 (.agg [.int .u64 ((v/2^64:Nat):Int),.int .u64 ((v % 2^64:Nat):Int)]) (.agg [.int .u64 0,.int .u64 0])=some (decide (v=0)):=by
 have g2:Tryz.prog.stoodInHeld 106=false:=by kernel_rfl
 have e:decide (v=0)=(((v/2^64:Nat):Int)==0&&(((v % 2^64:Nat):Int)==0&&true)):=by
  rw [Bool.eq_iff_iff];simp;omega
 rw [e]
 simp [m9,teq,teq.go,teq.part,qH,ceq,g2,TD.agg]
theorem eS {a b:Int} {v:Nat}:teq Tryz.prog 9 110 (.agg [.int .i64 a,.int .i64 b,.int .u64 ((v/2^64:Nat):Int),.int .u64 ((v % 2^64:Nat):Int)]) (.agg [.int .i64 0,.int .i64 0,.int .u64 0,.int .u64 0])=some (a==0&&(b==0&&decide (v=0))):=by
 have g1:Tryz.prog.stoodInHeld 110=false:=by kernel_rfl
 have g2:Tryz.prog.stoodInHeld 106=false:=by kernel_rfl
 have e:decide (v=0)=(((v/2^64:Nat):Int)==0&&(((v % 2^64:Nat):Int)==0&&true)):=by
  rw [Bool.eq_iff_iff];simp;omega
 rw [e]
 simp [Ai,m9,teq,teq.go,teq.part,qH,Ad,ceq,g1,g2,TD.agg]
theorem Gz:EntOk Tryz.prog 123 (Ent.pure zo):=by
 refine Ype fun _ H K h=>?_
 unfold zo at h
 split at h
 rotate_left
 ·exact h.elim
 rename_i x
 obtain ⟨t,⟨rfl,hv⟩,hK⟩:=h
 refine ⟨_,hK,?_⟩
 clear hK
 generalize hR:fpB t=R
 unfold bV vc
 refine ACalls.fW ap (tCq i7 (tCq zV tNq)) Tryz.func123 [.tmp 2] (nrq _) (T:=aj []) (h:=fun hcl hlt=>?_)
 clear hlt
 unfold fpB at hR
 cases c1:wB t.op 1 7 with
 |false =>
  simp only [c1,tfB,if_true,if_false,reduceCtorEq] at hR
  subst hR
  simp only [go_sem,aV,cV,eS,eR,dN,dM,Bool.bne_false,c1]
  exact Z1
 |true =>
  cases c6:t.op==6 with
  |false =>
   cases c7:t.op==7 with
   |false =>
    cases co:nV t.op with
    |false =>
     simp only [c1,c6,c7,co,tfB,if_true,if_false,reduceCtorEq] at hR
     subst hR
     simp only [go_sem,aV,cV,eS,eR,dN,dM,Bool.bne_false,c1,c6,c7,co]
     exact Z1
    |true =>
     cases k1:t.kind==1 with
     |false =>
      cases k2:t.kind==2 with
      |false =>
       cases k3:t.kind==3 with
       |false =>
        simp only [c1,c6,c7,co,k1,k2,k3,tfB,if_true,if_false,reduceCtorEq] at hR
        subst hR
        simp only [go_sem,aV,cV,eS,eR,dN,dM,Bool.bne_false,c1,c6,c7,co,k1,k2,k3]
        exact Z1
       |true =>
        simp only [c1,c6,c7,co,k1,k2,k3,tfB,if_true,if_false,reduceCtorEq] at hR
        subst hR
        simp only [go_sem,aV,cV,eS,eR,dN,dM,Bool.bne_false,c1,c6,c7,co,k1,k2,k3]
        exact Z1
      |true =>
       simp only [c1,c6,c7,co,k1,k2,tfB,if_true,if_false,reduceCtorEq] at hR
       subst hR
       simp only [go_sem,aV,cV,eS,eR,dN,dM,Bool.bne_false,c1,c6,c7,co,k1,k2]
       exact Z1
     |true =>
      simp only [c1,c6,c7,co,k1,tfB,if_true,if_false,reduceCtorEq] at hR
      subst hR
      simp only [go_sem,aV,cV,eS,eR,dN,dM,Bool.bne_false,c1,c6,c7,co,k1]
      exact Z1
   |true =>
    cases cd:t.dst != 0 with
    |false =>
     cases co:nV t.op with
     |false =>
      simp only [c1,c6,c7,cd,co,tfB,if_true,if_false,reduceCtorEq] at hR
      subst hR
      simp only [go_sem,aV,cV,eS,eR,dN,dM,Bool.bne_false,c1,c6,c7,cd,co]
      exact Z1
     |true =>
      cases k1:t.kind==1 with
      |false =>
       cases k2:t.kind==2 with
       |false =>
        cases k3:t.kind==3 with
        |false =>
         simp only [c1,c6,c7,cd,co,k1,k2,k3,tfB,if_true,if_false,reduceCtorEq] at hR
         subst hR
         simp only [go_sem,aV,cV,eS,eR,dN,dM,Bool.bne_false,c1,c6,c7,cd,co,k1,k2,k3]
         exact Z1
        |true =>
         simp only [c1,c6,c7,cd,co,k1,k2,k3,tfB,if_true,if_false,reduceCtorEq] at hR
         subst hR
         simp only [go_sem,aV,cV,eS,eR,dN,dM,Bool.bne_false,c1,c6,c7,cd,co,k1,k2,k3]
         exact Z1
       |true =>
        simp only [c1,c6,c7,cd,co,k1,k2,tfB,if_true,if_false,reduceCtorEq] at hR
        subst hR
        simp only [go_sem,aV,cV,eS,eR,dN,dM,Bool.bne_false,c1,c6,c7,cd,co,k1,k2]
        exact Z1
      |true =>
       simp only [c1,c6,c7,cd,co,k1,tfB,if_true,if_false,reduceCtorEq] at hR
       subst hR
       simp only [go_sem,aV,cV,eS,eR,dN,dM,Bool.bne_false,c1,c6,c7,cd,co,k1]
       exact Z1
    |true =>
     simp only [c1,c6,c7,cd,tfB,if_true,if_false,reduceCtorEq] at hR
     subst hR
     simp only [go_sem,aV,cV,eS,eR,dN,dM,Bool.bne_false,c1,c6,c7,cd]
     exact Z1
  |true =>
   cases cd:t.dst != 0 with
   |false =>
    cases co:nV t.op with
    |false =>
     simp only [c1,c6,cd,co,tfB,if_true,if_false,reduceCtorEq] at hR
     subst hR
     simp only [go_sem,aV,cV,eS,eR,dN,dM,Bool.bne_false,c1,c6,cd,co]
     exact Z1
    |true =>
     cases k1:t.kind==1 with
     |false =>
      cases k2:t.kind==2 with
      |false =>
       cases k3:t.kind==3 with
       |false =>
        simp only [c1,c6,cd,co,k1,k2,k3,tfB,if_true,if_false,reduceCtorEq] at hR
        subst hR
        simp only [go_sem,aV,cV,eS,eR,dN,dM,Bool.bne_false,c1,c6,cd,co,k1,k2,k3]
        exact Z1
       |true =>
        simp only [c1,c6,cd,co,k1,k2,k3,tfB,if_true,if_false,reduceCtorEq] at hR
        subst hR
        simp only [go_sem,aV,cV,eS,eR,dN,dM,Bool.bne_false,c1,c6,cd,co,k1,k2,k3]
        exact Z1
      |true =>
       simp only [c1,c6,cd,co,k1,k2,tfB,if_true,if_false,reduceCtorEq] at hR
       subst hR
       simp only [go_sem,aV,cV,eS,eR,dN,dM,Bool.bne_false,c1,c6,cd,co,k1,k2]
       exact Z1
     |true =>
      simp only [c1,c6,cd,co,k1,tfB,if_true,if_false,reduceCtorEq] at hR
      subst hR
      simp only [go_sem,aV,cV,eS,eR,dN,dM,Bool.bne_false,c1,c6,cd,co,k1]
      exact Z1
   |true =>
    simp only [c1,c6,cd,tfB,if_true,if_false,reduceCtorEq] at hR
    subst hR
    simp only [go_sem,aV,cV,eS,eR,dN,dM,Bool.bne_false,c1,c6,cd]
    exact Z1
theorem Ng {k:SKey} {l:List SKey} {n:Nat}:ftB (k::l) n=(wB k.kind 1 4&&ftB l (if k.kind==2 then n+1 else n)):=rfl
def zF:List AV→AHeap→(AV→Prop)→Prop
 |[x],_,K=>∃ t:STable,(x=aC t∧t.keys.length≤1000000)∧K (.bool (ftB t.keys 0))
 |_,_,_=>False
theorem Ds:EntOk Tryz.prog 124 (Ent.pure zF):=by
 refine Ype fun _ H K h=>?_
 unfold zF at h
 split at h
 rotate_left
 ·exact h.elim
 rename_i x
 obtain ⟨t,⟨rfl,hl⟩,hK⟩:=h
 refine ⟨_,hK,?_⟩
 clear hK
 generalize hR:ftB t.keys 0=R
 unfold aC
 refine ACalls.fW ap (tCq i7 tNq) Tryz.func124 [.tmp 2] (nrq _) (T:=aj []) (h:=fun hcl hlt=>?_)
 have hx:=AV.lt_mono (Nat.le_succ H.nx) _ (hlt _ List.mem_cons_self)
 have hm:∀ n',H.nx≤n'→AV.lt n' (.slice .any 3 (t.keys.map bE)):=fun n' hn=>AV.lt_mono hn _ (by have h1:=hlt _ List.mem_cons_self;simp only [znr,znu] at h1;exact h1.2.2.1)
 clear hlt
 simp only [znr] at hx
 have hcp:=af hcl hx
 simp only [go_sem,ybb]
 generalize t.keys=ts at *
 refine aD (A:=Nat × Nat) (fun a=>[(3,.int .i64 (a.2:Int)),(7,.slice .any 3 (ts.map bE)),(8,.int .i64 (ts.length:Int)),(9,.int .i64 (a.1:Int))]) (fun _=>H)
  (fun a=>a.1≤ts.length∧a.2≤a.1∧ftB (ts.drop a.1) a.2=R) (fun a=>ts.length - a.1) (0,0) ⟨Nat.zero_le _,nrq _,hR⟩ ?_ fun a ha=>?_
 ·refine ⟨by (try simp only [zkq,zkv]);omega,by repeat first|exact .refl _|refine .push ?_ _,hcl,?_,?_⟩
  ·simp [ltF,znf,hm]
  ·simp [bk,wk2,wk1,wkM,Fr.get]
 obtain ⟨k,n⟩:=a
 clear hR
 obtain ⟨hk,hn,hR⟩:=ha
 dsimp only at hk hn hR ⊢
 simp only [go_sem]
 refine ak (fun hc=>?_) (fun hc=>?_)
 ·have hk':k<ts.length:=by simp at hc;omega
  obtain ⟨x,hx⟩:∃ x,x=ts[k]:=⟨_,rfl⟩
  have hd:ts.drop k=x::ts.drop (k+1):=by rw [hx];exact dcq hk'
  have hg':=a0 (f:=bE) (l:=ts) (k:=k) (x:=x) (by rw [gQq hk',hx])
  have e5:=Yk5 k
  have e6:IntKind.i64.wrap ((n:Int)+1)=((n+1:Nat):Int):=by rw [wrap_i64]<;>omega
  rw [hd,Ng] at hR
  have hcs:bE x=.agg [.str x.name,.int .i64 x.field,.int .i64 x.kind]:=rfl
  rw [hcs] at hg'
  simp only [go_sem,iNq,ybb,hg',aV]
  refine ⟨by omega,?_⟩
  cases c1:wB x.kind 1 4 with
  |false =>
   rw [c1,Bool.false_and] at hR
   subst hR
   try simp only [go_sem,c1]
   exact Z1
  |true =>
   rw [c1,Bool.true_and] at hR
   cases c2:x.kind==2 with
   |false =>
    rw [c2,if_neg Bool.false_ne_true] at hR
    try simp only [go_sem,c1,c2,e5]
    refine ⟨(k+1,n),⟨by dsimp only;omega,by dsimp only;omega,hR⟩,by dsimp only;omega,nrq _,by repeat first|exact .refl _|refine .push ?_ _,hcl,?_,?_⟩
    ·simp [ltF,znf,hm]
    ·simp [bk,wk2,wk1,wkM,Fr.get]
   |true =>
    rw [c2,if_pos rfl] at hR
    try simp only [go_sem,c1,c2,e5,e6]
    refine ⟨(k+1,n+1),⟨by dsimp only;omega,by dsimp only;omega,hR⟩,by dsimp only;omega,nrq _,by repeat first|exact .refl _|refine .push ?_ _,hcl,?_,?_⟩
    ·simp [ltF,znf,hm]
    ·simp [bk,wk2,wk1,wkM,Fr.get]
 ·have hk':k=ts.length:=by simp at hc;omega
  subst hk'
  rw [List.drop_length] at hR
  have hR':decide (n≤1)=R:=hR
  have e7:decide ((n:Int)≤1)=decide (n≤1):=by rw [decide_eq_decide];omega
  subst hR'
  simp only [go_sem,e7]
  exact Z1
def xc:List AV→AHeap→(AV→Prop)→Prop
 |[x],H,K=>∃ t:SAction,(x=aA t∧t.body.length≤1000000∧∀ x∈t.body,x.value<340282366920938463463374607431768211456)∧K (.bool (t.body.all fpB))
 |_,_,_=>False
theorem A3:EntOk Tryz.prog 121 (Ent.pure xc):=by
 refine Ype fun _ H K h=>?_
 unfold xc at h
 split at h
 rotate_left
 ·exact h.elim
 rename_i x
 obtain ⟨t,⟨rfl,hc⟩,hK⟩:=h
 refine ⟨_,hK,?_⟩
 clear hK
 generalize hR:(t.body.all fpB)=R
 unfold aA
 refine ACalls.fW ap (tCq rp tNq) Tryz.func121 [.tmp 2] (nrq _) (T:=aj []) (h:=fun hcl hlt=>?_)
 clear hlt
 simp only [aE,ah,bhq,Nat.reduceMod,Nat.reduceDiv,au,aq,ay,aN,ax,aM,aJ,aK,aL,yaq,yar,yao,yap,go_sem,cm]
 refine ⟨t.body,fpB,⟨rfl,hc.1,fun x hx H' hle' hcl'=>clB Gz ⟨x,⟨rfl,hc.2 x hx⟩,rfl⟩⟩,?_⟩
 cases c0:t.body.all fpB with
 |false =>
  rw [c0] at hR
  subst hR
  try simp only [aE,ah,bhq,Nat.reduceMod,Nat.reduceDiv,au,aq,ay,aN,ax,aM,aJ,aK,aL,yaq,yar,yao,yap,go_sem,cm,c0]
  try (repeat with_reducible refine Yq ?_)
  exact Z1
 |true =>
 rw [c0] at hR
 subst hR
 try simp only [aE,ah,bhq,Nat.reduceMod,Nat.reduceDiv,au,aq,ay,aN,ax,aM,aJ,aK,aL,yaq,yar,yao,yap,go_sem,cm,c0]
 try (repeat with_reducible refine Yq ?_)
 exact Z1
def xg:List AV→AHeap→(AV→Prop)→Prop
 |[x],H,K=>∃ t:SState,(x=aO t)∧K (.bool (fsB t))
 |_,_,_=>False
theorem BF:EntOk Tryz.prog 125 (Ent.pure xg):=by
 refine Ype fun _ H K h=>?_
 unfold xg at h
 split at h
 rotate_left
 ·exact h.elim
 rename_i x
 obtain ⟨t,rfl,hK⟩:=h
 refine ⟨_,hK,?_⟩
 clear hK
 generalize hR:(fsB t)=R
 unfold aO
 refine ACalls.fW ap tNq Tryz.func125 [.tmp 2] (nrq _) (T:=aj []) (h:=fun hcl hlt=>?_)
 clear hlt
 unfold fsB at hR
 cases c1:t.select != 0 with
 |false =>
  cases c2:decide (t.cases.length=0) with
  |false =>
   simp only [c1,c2,tfB,if_true,if_false,reduceCtorEq] at hR
   subst hR
   simp only [go_sem,ybb,MO,c1,c2]
   exact Z1
  |true =>
   simp only [c1,c2,tfB,if_true,if_false,reduceCtorEq] at hR
   subst hR
   simp only [go_sem,ybb,MO,c1,c2]
   exact Z1
 |true =>
  simp only [c1,tfB,if_true,if_false,reduceCtorEq] at hR
  subst hR
  simp only [go_sem,ybb,MO,c1]
  exact Z1
def vX:List AV→AHeap→(AV→Prop)→Prop
 |[x],H,K=>∃ t:SRef,(x=bU t)∧K (.bool (frB t))
 |_,_,_=>False
theorem AG:EntOk Tryz.prog 126 (Ent.pure vX):=by
 refine Ype fun _ H K h=>?_
 unfold vX at h
 split at h
 rotate_left
 ·exact h.elim
 rename_i x
 obtain ⟨t,rfl,hK⟩:=h
 refine ⟨_,hK,?_⟩
 clear hK
 generalize hR:(frB t)=R
 unfold bU
 refine ACalls.fW ap tNq Tryz.func126 [.tmp 2] (nrq _) (T:=aj []) (h:=fun hcl hlt=>?_)
 clear hlt
 unfold frB at hR
 cases c1:t.action==0 with
 |false =>
  simp only [c1,tfB,if_true,if_false,reduceCtorEq] at hR
  subst hR
  simp only [go_sem,c1]
  exact Z1
 |true =>
  simp only [c1,tfB,if_true,if_false,reduceCtorEq] at hR
  subst hR
  simp only [go_sem,c1]
  exact Z1
def lE:List AV→AHeap→(AV→Prop)→Prop
 |[.agg l],_,K=>∃ S:Sch,(l=aS S∧SB S∧∀ a∈S.actions,∀ x∈a.body,x.value<340282366920938463463374607431768211456)∧K (.bool (mv S))
 |_,_,_=>False
theorem HK:EntOk Tryz.prog 34 (Ent.pure lE):=by
 refine Ype fun _ H K h=>?_
 unfold lE at h
 split at h
 rotate_left
 ·exact h.elim
 rename_i l
 obtain ⟨S,⟨rfl,hS,hS2⟩,hK⟩:=h
 refine ⟨_,hK,?_⟩
 clear hK
 generalize hR:mv S=R
 unfold mv at hR
 refine ACalls.fW ap (tCq mB (tCq kT (tCq oZ (tCq ou tNq)))) Tryz.func34 [.tmp 2] (nrq _) (T:=aj []) (h:=fun hcl hlt=>?_)
 clear hlt
 simp only [aE,ah,bhq,Nat.reduceMod,Nat.reduceDiv,au,aq,ay,aN,ax,aM,aJ,aK,aL,yaq,yar,yao,yap,go_sem,aS,bm]
 refine ⟨S.actions,(fun a=>a.body.all fpB),⟨rfl,hS.sl.al,fun x hx H' hle' hcl'=>clB A3 ⟨x,⟨rfl,⟨(hS.an x hx).2.2.1,hS2 x hx⟩⟩,rfl⟩⟩,?_⟩
 cases c0:S.actions.all fun a=>a.body.all fpB with
 |false =>
  rw [c0,Bool.false_and] at hR
  subst hR
  try simp only [aE,ah,bhq,Nat.reduceMod,Nat.reduceDiv,au,aq,ay,aN,ax,aM,aJ,aK,aL,yaq,yar,yao,yap,go_sem,aS,bm,c0]
  try (repeat with_reducible refine Yq ?_)
  exact Z1
 |true =>
 rw [c0,Bool.true_and] at hR
 try simp only [aE,ah,bhq,Nat.reduceMod,Nat.reduceDiv,au,aq,ay,aN,ax,aM,aJ,aK,aL,yaq,yar,yao,yap,go_sem,aS,bm,bn,c0]
 refine ⟨S.tables,(fun t=>ftB t.keys 0),⟨rfl,hS.sl.tl,fun x hx H' hle' hcl'=>clB Ds ⟨x,⟨rfl,(hS.tn x hx).2.1⟩,rfl⟩⟩,?_⟩
 cases c1:S.tables.all fun t=>ftB t.keys 0 with
 |false =>
  rw [c1,Bool.false_and] at hR
  subst hR
  try simp only [aE,ah,bhq,Nat.reduceMod,Nat.reduceDiv,au,aq,ay,aN,ax,aM,aJ,aK,aL,yaq,yar,yao,yap,go_sem,aS,bm,bn,c0,c1]
  try (repeat with_reducible refine Yq ?_)
  exact Z1
 |true =>
 rw [c1,Bool.true_and] at hR
 try simp only [aE,ah,bhq,Nat.reduceMod,Nat.reduceDiv,au,aq,ay,aN,ax,aM,aJ,aK,aL,yaq,yar,yao,yap,go_sem,aS,bm,bn,bz,c0,c1]
 refine ⟨S.states,fsB,⟨rfl,hS.sl.sl,fun x hx H' hle' hcl'=>clB BF ⟨x,rfl,rfl⟩⟩,?_⟩
 cases c2:S.states.all fsB with
 |false =>
  rw [c2,Bool.false_and] at hR
  subst hR
  try simp only [aE,ah,bhq,Nat.reduceMod,Nat.reduceDiv,au,aq,ay,aN,ax,aM,aJ,aK,aL,yaq,yar,yao,yap,go_sem,aS,bm,bn,bz,c0,c1,c2]
  try (repeat with_reducible refine Yq ?_)
  exact Z1
 |true =>
 rw [c2,Bool.true_and] at hR
 try simp only [aE,ah,bhq,Nat.reduceMod,Nat.reduceDiv,au,aq,ay,aN,ax,aM,aJ,aK,aL,yaq,yar,yao,yap,go_sem,aS,bm,bn,bz,bM,c0,c1,c2]
 refine ⟨S.refs,frB,⟨rfl,hS.xl,fun x hx H' hle' hcl'=>clB AG ⟨x,rfl,rfl⟩⟩,?_⟩
 cases c3:S.refs.all frB with
 |false =>
  rw [c3] at hR
  subst hR
  try simp only [aE,ah,bhq,Nat.reduceMod,Nat.reduceDiv,au,aq,ay,aN,ax,aM,aJ,aK,aL,yaq,yar,yao,yap,go_sem,aS,bm,bn,bz,bM,c0,c1,c2,c3]
  try (repeat with_reducible refine Yq ?_)
  exact Z1
 |true =>
 rw [c3] at hR
 subst hR
 try simp only [aE,ah,bhq,Nat.reduceMod,Nat.reduceDiv,au,aq,ay,aN,ax,aM,aJ,aK,aL,yaq,yar,yao,yap,go_sem,aS,bm,bn,bz,bM,c0,c1,c2,c3]
 try (repeat with_reducible refine Yq ?_)
 exact Z1
end Go.AL
