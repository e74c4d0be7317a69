/- Lemmas of the proof; no condition. -/
import Derived.Test.YthhmookokgiemaaGreatE04d
set_option linter.all false
set_option maxRecDepth 10000
set_option maxHeartbeats 32000000
open List renaming length_cons → yaz, length_nil → yba, take_of_length_le → ybc, drop_append → ybd, take_append → ybe, drop_eq_nil_of_le → ybf, length_map → ybb, take_succ_cons → yaq, take_zero → yar, drop_succ_cons → yao, drop_zero → yap
open Go Go.AL Go.Proofs
namespace Go.AL
theorem zI:ti Tryz.prog 123=some ⟨.struct [(0,3,false),(1,3,false),(2,119,false)],4,32,.agg [.int .i64 0,.int .i64 0,.int .u64 0,.int .u64 0]⟩:=by kernel_rfl
attribute [go_sem] zI
def mX (n:Int):Bool:=n==1||(n==2||(n==3||n==7))
def fpB (p:SPrim):Bool:=wB p.op 1 7&&(!((p.op==6||p.op==7)&&p.dst != 0)&&(if mX p.op then (if p.kind==1 then p.n==0 else (p.kind==2||p.kind==3)&&decide (p.value=0)) else (p.kind==0&&(p.n==0&&decide (p.value=0)))))
def ftB:List SKey→Nat→Bool
 |[],n=>decide (n≤1)
 |k::l,n=>wB k.kind 1 4&&ftB l (if k.kind==2 then n+1 else n)
def fsB (t:SState):Bool:=t.select != 0||decide (t.cases.length=0)
def frB (r:SRef):Bool:=if r.action==0 then r.param==0 else r.key==0
def rb (S:Sch):Bool:=(S.actions.all fun a=>a.body.all fpB)&&((S.tables.all fun t=>ftB t.keys 0)&&(S.states.all fsB&&S.refs.all frB))
theorem J7 {n:Nat}:((n:Int)==0)=decide (n=0):=by rw [Bool.eq_iff_iff];simp
def cQ:List AV→AHeap→(AV→Prop)→Prop
 |[.int .i64 n],_,K=>K (.bool (mX n))
 |_,_,_=>False
theorem Am:EntOk Tryz.prog 278 (Ent.pure cQ):=by
 refine Ype fun _ H K h=>?_
 unfold cQ at h
 split at h
 rotate_left
 ·exact h.elim
 rename_i n
 refine ⟨_,h,?_⟩
 clear h
 generalize hR:mX n=R
 unfold mX at hR
 refine ACalls.fW ak tNq Tryz.func278 [.tmp 2] (nrq _) (T:=ag []) (h:=fun hcl hlt=>?_)
 clear hlt
 cases h1:n==1<;>cases h2:n==2<;>cases h3:n==3<;>cases h7:n==7<;>(
  simp only [h1,h2,h3,h7,Bool.true_or,Bool.false_or,Bool.or_true] at hR
  subst hR
  simp only [go_sem,h1,h2,h3,h7]
  simp (disch:=first|exact Zd|omega) [↓zmo,beq,ybc,ybd,ybe,aa,wk,wk2,wk1,wkM,wkL,af,ybf,hcl])
def AX:List AV→AHeap→(AV→Prop)→Prop
 |[x],_,K=>∃ t:SPrim,(x=bv t∧t.value<340282366920938463463374607431768211456)∧K (.bool (fpB t))
 |_,_,_=>False
theorem dM:Tryz.prog.eqGuardType Tryz.prog.depth 119=false:=by kernel_rfl
theorem eL:Tryz.prog.eqGuardType Tryz.prog.depth 123=false:=by kernel_rfl
theorem dJ {v:Nat}:teq Tryz.prog 9 119 (.agg [.int .u64 ((v/2^64:Nat):Int),.int .u64 ((v % 2^64:Nat):Int)]) (.agg [.int .u64 0,.int .u64 0])=some (decide (v=0)):=by
 have g2:Tryz.prog.stoodInHeld 119=false:=by kernel_rfl
 have e:decide (v=0)=(((v/2^64:Nat):Int)==0&&(((v % 2^64:Nat):Int)==0&&true)):=by
  rw [Bool.eq_iff_iff];simp;omega
 rw [e]
 simp [ma,teq,teq.go,teq.part,pL,ceq,g2,TD.agg]
theorem eO {a b:Int} {v:Nat}:teq Tryz.prog 9 123 (.agg [.int .i64 a,.int .i64 b,.int .u64 ((v/2^64:Nat):Int),.int .u64 ((v % 2^64:Nat):Int)]) (.agg [.int .i64 0,.int .i64 0,.int .u64 0,.int .u64 0])=some (a==0&&(b==0&&decide (v=0))):=by
 have g1:Tryz.prog.stoodInHeld 123=false:=by kernel_rfl
 have g2:Tryz.prog.stoodInHeld 119=false:=by kernel_rfl
 have e:decide (v=0)=(((v/2^64:Nat):Int)==0&&(((v % 2^64:Nat):Int)==0&&true)):=by
  rw [Bool.eq_iff_iff];simp;omega
 rw [e]
 simp [zI,ma,teq,teq.go,teq.part,pL,Ay,ceq,g1,g2,TD.agg]
theorem ok_eFPrm:EntOk Tryz.prog 145 (Ent.pure AX):=by
 refine Ype fun _ H K h=>?_
 unfold AX at h
 split at h
 rotate_left
 ·exact h.elim
 rename_i x
 obtain ⟨t,⟨rfl,hv⟩,hK⟩:=h
 refine ⟨_,hK,?_⟩
 clear hK
 generalize hR:fpB t=R
 unfold bv vc
 refine ACalls.fW ak (tCq iL (tCq Am tNq)) Tryz.func145 [.tmp 2] (nrq _) (T:=ag []) (h:=fun hcl hlt=>?_)
 clear hlt
 unfold fpB at hR
 cases c1:wB t.op 1 7 with
 |false =>
  simp only [c1,Bool.true_and,Bool.false_and,Bool.and_true,Bool.and_false,Bool.true_or,Bool.false_or,Bool.or_true,Bool.or_false,Bool.not_true,Bool.not_false,if_true,if_false,reduceCtorEq,Bool.false_eq_true,ite_true,ite_false] at hR
  subst hR
  simp only [go_sem,aT,cQ,eO,eL,dJ,dM,Bool.bne_false,c1]
  exact Z1
 |true =>
  cases c6:t.op==6 with
  |false =>
   cases c7:t.op==7 with
   |false =>
    cases co:mX t.op with
    |false =>
     simp only [c1,c6,c7,co,Bool.true_and,Bool.false_and,Bool.and_true,Bool.and_false,Bool.true_or,Bool.false_or,Bool.or_true,Bool.or_false,Bool.not_true,Bool.not_false,if_true,if_false,reduceCtorEq,Bool.false_eq_true,ite_true,ite_false] at hR
     subst hR
     simp only [go_sem,aT,cQ,eO,eL,dJ,dM,Bool.bne_false,c1,c6,c7,co]
     exact Z1
    |true =>
     cases k1:t.kind==1 with
     |false =>
      cases k2:t.kind==2 with
      |false =>
       cases k3:t.kind==3 with
       |false =>
        simp only [c1,c6,c7,co,k1,k2,k3,Bool.true_and,Bool.false_and,Bool.and_true,Bool.and_false,Bool.true_or,Bool.false_or,Bool.or_true,Bool.or_false,Bool.not_true,Bool.not_false,if_true,if_false,reduceCtorEq,Bool.false_eq_true,ite_true,ite_false] at hR
        subst hR
        simp only [go_sem,aT,cQ,eO,eL,dJ,dM,Bool.bne_false,c1,c6,c7,co,k1,k2,k3]
        exact Z1
       |true =>
        simp only [c1,c6,c7,co,k1,k2,k3,Bool.true_and,Bool.false_and,Bool.and_true,Bool.and_false,Bool.true_or,Bool.false_or,Bool.or_true,Bool.or_false,Bool.not_true,Bool.not_false,if_true,if_false,reduceCtorEq,Bool.false_eq_true,ite_true,ite_false] at hR
        subst hR
        simp only [go_sem,aT,cQ,eO,eL,dJ,dM,Bool.bne_false,c1,c6,c7,co,k1,k2,k3]
        exact Z1
      |true =>
       simp only [c1,c6,c7,co,k1,k2,Bool.true_and,Bool.false_and,Bool.and_true,Bool.and_false,Bool.true_or,Bool.false_or,Bool.or_true,Bool.or_false,Bool.not_true,Bool.not_false,if_true,if_false,reduceCtorEq,Bool.false_eq_true,ite_true,ite_false] at hR
       subst hR
       simp only [go_sem,aT,cQ,eO,eL,dJ,dM,Bool.bne_false,c1,c6,c7,co,k1,k2]
       exact Z1
     |true =>
      simp only [c1,c6,c7,co,k1,Bool.true_and,Bool.false_and,Bool.and_true,Bool.and_false,Bool.true_or,Bool.false_or,Bool.or_true,Bool.or_false,Bool.not_true,Bool.not_false,if_true,if_false,reduceCtorEq,Bool.false_eq_true,ite_true,ite_false] at hR
      subst hR
      simp only [go_sem,aT,cQ,eO,eL,dJ,dM,Bool.bne_false,c1,c6,c7,co,k1]
      exact Z1
   |true =>
    cases cd:t.dst != 0 with
    |false =>
     cases co:mX t.op with
     |false =>
      simp only [c1,c6,c7,cd,co,Bool.true_and,Bool.false_and,Bool.and_true,Bool.and_false,Bool.true_or,Bool.false_or,Bool.or_true,Bool.or_false,Bool.not_true,Bool.not_false,if_true,if_false,reduceCtorEq,Bool.false_eq_true,ite_true,ite_false] at hR
      subst hR
      simp only [go_sem,aT,cQ,eO,eL,dJ,dM,Bool.bne_false,c1,c6,c7,cd,co]
      exact Z1
     |true =>
      cases k1:t.kind==1 with
      |false =>
       cases k2:t.kind==2 with
       |false =>
        cases k3:t.kind==3 with
        |false =>
         simp only [c1,c6,c7,cd,co,k1,k2,k3,Bool.true_and,Bool.false_and,Bool.and_true,Bool.and_false,Bool.true_or,Bool.false_or,Bool.or_true,Bool.or_false,Bool.not_true,Bool.not_false,if_true,if_false,reduceCtorEq,Bool.false_eq_true,ite_true,ite_false] at hR
         subst hR
         simp only [go_sem,aT,cQ,eO,eL,dJ,dM,Bool.bne_false,c1,c6,c7,cd,co,k1,k2,k3]
         exact Z1
        |true =>
         simp only [c1,c6,c7,cd,co,k1,k2,k3,Bool.true_and,Bool.false_and,Bool.and_true,Bool.and_false,Bool.true_or,Bool.false_or,Bool.or_true,Bool.or_false,Bool.not_true,Bool.not_false,if_true,if_false,reduceCtorEq,Bool.false_eq_true,ite_true,ite_false] at hR
         subst hR
         simp only [go_sem,aT,cQ,eO,eL,dJ,dM,Bool.bne_false,c1,c6,c7,cd,co,k1,k2,k3]
         exact Z1
       |true =>
        simp only [c1,c6,c7,cd,co,k1,k2,Bool.true_and,Bool.false_and,Bool.and_true,Bool.and_false,Bool.true_or,Bool.false_or,Bool.or_true,Bool.or_false,Bool.not_true,Bool.not_false,if_true,if_false,reduceCtorEq,Bool.false_eq_true,ite_true,ite_false] at hR
        subst hR
        simp only [go_sem,aT,cQ,eO,eL,dJ,dM,Bool.bne_false,c1,c6,c7,cd,co,k1,k2]
        exact Z1
      |true =>
       simp only [c1,c6,c7,cd,co,k1,Bool.true_and,Bool.false_and,Bool.and_true,Bool.and_false,Bool.true_or,Bool.false_or,Bool.or_true,Bool.or_false,Bool.not_true,Bool.not_false,if_true,if_false,reduceCtorEq,Bool.false_eq_true,ite_true,ite_false] at hR
       subst hR
       simp only [go_sem,aT,cQ,eO,eL,dJ,dM,Bool.bne_false,c1,c6,c7,cd,co,k1]
       exact Z1
    |true =>
     simp only [c1,c6,c7,cd,Bool.true_and,Bool.false_and,Bool.and_true,Bool.and_false,Bool.true_or,Bool.false_or,Bool.or_true,Bool.or_false,Bool.not_true,Bool.not_false,if_true,if_false,reduceCtorEq,Bool.false_eq_true,ite_true,ite_false] at hR
     subst hR
     simp only [go_sem,aT,cQ,eO,eL,dJ,dM,Bool.bne_false,c1,c6,c7,cd]
     exact Z1
  |true =>
   cases cd:t.dst != 0 with
   |false =>
    cases co:mX t.op with
    |false =>
     simp only [c1,c6,cd,co,Bool.true_and,Bool.false_and,Bool.and_true,Bool.and_false,Bool.true_or,Bool.false_or,Bool.or_true,Bool.or_false,Bool.not_true,Bool.not_false,if_true,if_false,reduceCtorEq,Bool.false_eq_true,ite_true,ite_false] at hR
     subst hR
     simp only [go_sem,aT,cQ,eO,eL,dJ,dM,Bool.bne_false,c1,c6,cd,co]
     exact Z1
    |true =>
     cases k1:t.kind==1 with
     |false =>
      cases k2:t.kind==2 with
      |false =>
       cases k3:t.kind==3 with
       |false =>
        simp only [c1,c6,cd,co,k1,k2,k3,Bool.true_and,Bool.false_and,Bool.and_true,Bool.and_false,Bool.true_or,Bool.false_or,Bool.or_true,Bool.or_false,Bool.not_true,Bool.not_false,if_true,if_false,reduceCtorEq,Bool.false_eq_true,ite_true,ite_false] at hR
        subst hR
        simp only [go_sem,aT,cQ,eO,eL,dJ,dM,Bool.bne_false,c1,c6,cd,co,k1,k2,k3]
        exact Z1
       |true =>
        simp only [c1,c6,cd,co,k1,k2,k3,Bool.true_and,Bool.false_and,Bool.and_true,Bool.and_false,Bool.true_or,Bool.false_or,Bool.or_true,Bool.or_false,Bool.not_true,Bool.not_false,if_true,if_false,reduceCtorEq,Bool.false_eq_true,ite_true,ite_false] at hR
        subst hR
        simp only [go_sem,aT,cQ,eO,eL,dJ,dM,Bool.bne_false,c1,c6,cd,co,k1,k2,k3]
        exact Z1
      |true =>
       simp only [c1,c6,cd,co,k1,k2,Bool.true_and,Bool.false_and,Bool.and_true,Bool.and_false,Bool.true_or,Bool.false_or,Bool.or_true,Bool.or_false,Bool.not_true,Bool.not_false,if_true,if_false,reduceCtorEq,Bool.false_eq_true,ite_true,ite_false] at hR
       subst hR
       simp only [go_sem,aT,cQ,eO,eL,dJ,dM,Bool.bne_false,c1,c6,cd,co,k1,k2]
       exact Z1
     |true =>
      simp only [c1,c6,cd,co,k1,Bool.true_and,Bool.false_and,Bool.and_true,Bool.and_false,Bool.true_or,Bool.false_or,Bool.or_true,Bool.or_false,Bool.not_true,Bool.not_false,if_true,if_false,reduceCtorEq,Bool.false_eq_true,ite_true,ite_false] at hR
      subst hR
      simp only [go_sem,aT,cQ,eO,eL,dJ,dM,Bool.bne_false,c1,c6,cd,co,k1]
      exact Z1
   |true =>
    simp only [c1,c6,cd,Bool.true_and,Bool.false_and,Bool.and_true,Bool.and_false,Bool.true_or,Bool.false_or,Bool.or_true,Bool.or_false,Bool.not_true,Bool.not_false,if_true,if_false,reduceCtorEq,Bool.false_eq_true,ite_true,ite_false] at hR
    subst hR
    simp only [go_sem,aT,cQ,eO,eL,dJ,dM,Bool.bne_false,c1,c6,cd]
    exact Z1
theorem KJ {k:SKey} {l:List SKey} {n:Nat}:ftB (k::l) n=(wB k.kind 1 4&&ftB l (if k.kind==2 then n+1 else n)):=rfl
def zN:List AV→AHeap→(AV→Prop)→Prop
 |[x],_,K=>∃ t:STable,(x=aq t∧t.keys.length≤1000000)∧K (.bool (ftB t.keys 0))
 |_,_,_=>False
theorem ok_eFTab:EntOk Tryz.prog 146 (Ent.pure zN):=by
 refine Ype fun _ H K h=>?_
 unfold zN at h
 split at h
 rotate_left
 ·exact h.elim
 rename_i x
 obtain ⟨t,⟨rfl,hl⟩,hK⟩:=h
 refine ⟨_,hK,?_⟩
 clear hK
 generalize hR:ftB t.keys 0=R
 unfold aq
 refine ACalls.fW ak (tCq iL tNq) Tryz.func146 [.tmp 2] (nrq _) (T:=ag []) (h:=fun hcl hlt=>?_)
 have hx:=AV.lt_mono (Nat.le_succ H.nx) _ (hlt _ List.mem_cons_self)
 have hm:∀ n',H.nx≤n'→AV.lt n' (.slice .any 3 (t.keys.map br)):=fun n' hn=>AV.lt_mono hn _ (by have h1:=hlt _ List.mem_cons_self;simp only [znr,znu] at h1;exact h1.2.2.1)
 clear hlt
 simp only [znr] at hx
 have hcp:=ae hcl hx
 simp only [go_sem,ybb]
 generalize t.keys=ts at *
 refine ay (A:=Nat × Nat) (fun a=>[(3,.int .i64 (a.2:Int)),(7,.slice .any 3 (ts.map br)),(8,.int .i64 (ts.length:Int)),(9,.int .i64 (a.1:Int))]) (fun _=>H)
  (fun a=>a.1≤ts.length∧a.2≤a.1∧ftB (ts.drop a.1) a.2=R) (fun a=>ts.length - a.1) (0,0) ⟨Nat.zero_le _,nrq _,hR⟩ ?_ fun a ha=>?_
 ·refine ⟨by (try simp only [zkq,zkv]);omega,by repeat first|exact .refl _|refine .push ?_ _,hcl,?_,?_⟩
  ·simp [ltF,znf,hm]
  ·simp [aS,wk2,wk1,wkM,Fr.get]
 obtain ⟨k,n⟩:=a
 clear hR
 obtain ⟨hk,hn,hR⟩:=ha
 dsimp only at hk hn hR ⊢
 simp only [go_sem]
 refine ah (fun hc=>?_) (fun hc=>?_)
 ·have hk':k<ts.length:=by simp at hc;omega
  obtain ⟨x,hx⟩:∃ x,x=ts[k]:=⟨_,rfl⟩
  have hd:ts.drop k=x::ts.drop (k+1):=by rw [hx];exact dcq hk'
  have hg':=aO (f:=br) (l:=ts) (k:=k) (x:=x) (by rw [gQq hk',hx])
  have e5:=Yk5 k
  have e6:IntKind.i64.wrap ((n:Int)+1)=((n+1:Nat):Int):=by rw [wrap_i64]<;>omega
  rw [hd,KJ] at hR
  have hcs:br x=.agg [.str x.name,.int .i64 x.field,.int .i64 x.kind]:=rfl
  rw [hcs] at hg'
  simp only [go_sem,iNq,ybb,hg',aT]
  refine ⟨by omega,?_⟩
  cases c1:wB x.kind 1 4 with
  |false =>
   rw [c1,Bool.false_and] at hR
   subst hR
   try simp only [go_sem,c1]
   exact Z1
  |true =>
   rw [c1,Bool.true_and] at hR
   cases c2:x.kind==2 with
   |false =>
    rw [c2,if_neg Bool.false_ne_true] at hR
    try simp only [go_sem,c1,c2,e5]
    refine ⟨(k+1,n),⟨by dsimp only;omega,by dsimp only;omega,hR⟩,by dsimp only;omega,nrq _,by repeat first|exact .refl _|refine .push ?_ _,hcl,?_,?_⟩
    ·simp [ltF,znf,hm]
    ·simp [aS,wk2,wk1,wkM,Fr.get]
   |true =>
    rw [c2,if_pos rfl] at hR
    try simp only [go_sem,c1,c2,e5,e6]
    refine ⟨(k+1,n+1),⟨by dsimp only;omega,by dsimp only;omega,hR⟩,by dsimp only;omega,nrq _,by repeat first|exact .refl _|refine .push ?_ _,hcl,?_,?_⟩
    ·simp [ltF,znf,hm]
    ·simp [aS,wk2,wk1,wkM,Fr.get]
 ·have hk':k=ts.length:=by simp at hc;omega
  subst hk'
  rw [List.drop_length] at hR
  have hR':decide (n≤1)=R:=hR
  have e7:decide ((n:Int)≤1)=decide (n≤1):=by rw [decide_eq_decide];omega
  subst hR'
  simp only [go_sem,e7]
  exact Z1
def vN:List AV→AHeap→(AV→Prop)→Prop
 |[x],H,K=>∃ t:SAction,(x=ap t∧t.body.length≤1000000∧∀ x∈t.body,x.value<340282366920938463463374607431768211456)∧K (.bool (t.body.all fpB))
 |_,_,_=>False
theorem ok_eForm1:EntOk Tryz.prog 143 (Ent.pure vN):=by
 refine Ype fun _ H K h=>?_
 unfold vN at h
 split at h
 rotate_left
 ·exact h.elim
 rename_i x
 obtain ⟨t,⟨rfl,hc⟩,hK⟩:=h
 refine ⟨_,hK,?_⟩
 clear hK
 generalize hR:(t.body.all fpB)=R
 unfold ap
 refine ACalls.fW ak (tCq qt tNq) Tryz.func143 [.tmp 2] (nrq _) (T:=ag []) (h:=fun hcl hlt=>?_)
 clear hlt
 simp only [aM,aj,bhq,Nat.reduceMod,Nat.reduceDiv,aB,aC,aD,ba,aE,aZ,aV,aX,aW,yaq,yar,yao,yap,go_sem,bV]
 refine ⟨t.body,fpB,⟨rfl,hc.1,fun x hx H' hle' hcl'=>by
  obtain ⟨v,hv,hc'⟩:=ok_eFPrm.1 rfl [bv x] H' (fun v=>v=.bool (fpB x)) ⟨x,⟨rfl,hc.2 x hx⟩,rfl⟩
  subst hv
  exact hc'⟩,?_⟩
 cases c0:t.body.all fpB with
 |false =>
  rw [c0] at hR
  subst hR
  try simp only [aM,aj,bhq,Nat.reduceMod,Nat.reduceDiv,aB,aC,aD,ba,aE,aZ,aV,aX,aW,yaq,yar,yao,yap,go_sem,bV,c0]
  try (repeat with_reducible refine Yq ?_)
  exact Z1
 |true =>
 rw [c0] at hR
 subst hR
 try simp only [aM,aj,bhq,Nat.reduceMod,Nat.reduceDiv,aB,aC,aD,ba,aE,aZ,aV,aX,aW,yaq,yar,yao,yap,go_sem,bV,c0]
 try (repeat with_reducible refine Yq ?_)
 exact Z1
def v2:List AV→AHeap→(AV→Prop)→Prop
 |[x],H,K=>∃ t:SState,(x=aH t)∧K (.bool (fsB t))
 |_,_,_=>False
theorem ok_eForm2:EntOk Tryz.prog 147 (Ent.pure v2):=by
 refine Ype fun _ H K h=>?_
 unfold v2 at h
 split at h
 rotate_left
 ·exact h.elim
 rename_i x
 obtain ⟨t,rfl,hK⟩:=h
 refine ⟨_,hK,?_⟩
 clear hK
 generalize hR:(fsB t)=R
 unfold aH
 refine ACalls.fW ak tNq Tryz.func147 [.tmp 2] (nrq _) (T:=ag []) (h:=fun hcl hlt=>?_)
 clear hlt
 unfold fsB at hR
 cases c1:t.select != 0 with
 |false =>
  cases c2:decide (t.cases.length=0) with
  |false =>
   simp only [c1,c2,Bool.true_and,Bool.false_and,Bool.and_true,Bool.and_false,Bool.true_or,Bool.false_or,Bool.or_true,Bool.or_false,Bool.not_true,Bool.not_false,if_true,if_false,reduceCtorEq,Bool.false_eq_true,ite_true,ite_false] at hR
   subst hR
   simp only [go_sem,ybb,J7,c1,c2]
   exact Z1
  |true =>
   simp only [c1,c2,Bool.true_and,Bool.false_and,Bool.and_true,Bool.and_false,Bool.true_or,Bool.false_or,Bool.or_true,Bool.or_false,Bool.not_true,Bool.not_false,if_true,if_false,reduceCtorEq,Bool.false_eq_true,ite_true,ite_false] at hR
   subst hR
   simp only [go_sem,ybb,J7,c1,c2]
   exact Z1
 |true =>
  simp only [c1,Bool.true_and,Bool.false_and,Bool.and_true,Bool.and_false,Bool.true_or,Bool.false_or,Bool.or_true,Bool.or_false,Bool.not_true,Bool.not_false,if_true,if_false,reduceCtorEq,Bool.false_eq_true,ite_true,ite_false] at hR
  subst hR
  simp only [go_sem,ybb,J7,c1]
  exact Z1
def vE:List AV→AHeap→(AV→Prop)→Prop
 |[x],H,K=>∃ t:SRef,(x=bL t)∧K (.bool (frB t))
 |_,_,_=>False
theorem ok_eForm3:EntOk Tryz.prog 148 (Ent.pure vE):=by
 refine Ype fun _ H K h=>?_
 unfold vE at h
 split at h
 rotate_left
 ·exact h.elim
 rename_i x
 obtain ⟨t,rfl,hK⟩:=h
 refine ⟨_,hK,?_⟩
 clear hK
 generalize hR:(frB t)=R
 unfold bL
 refine ACalls.fW ak tNq Tryz.func148 [.tmp 2] (nrq _) (T:=ag []) (h:=fun hcl hlt=>?_)
 clear hlt
 unfold frB at hR
 cases c1:t.action==0 with
 |false =>
  simp only [c1,Bool.true_and,Bool.false_and,Bool.and_true,Bool.and_false,Bool.true_or,Bool.false_or,Bool.or_true,Bool.or_false,Bool.not_true,Bool.not_false,if_true,if_false,reduceCtorEq,Bool.false_eq_true,ite_true,ite_false] at hR
  subst hR
  simp only [go_sem,c1]
  exact Z1
 |true =>
  simp only [c1,Bool.true_and,Bool.false_and,Bool.and_true,Bool.and_false,Bool.true_or,Bool.false_or,Bool.or_true,Bool.or_false,Bool.not_true,Bool.not_false,if_true,if_false,reduceCtorEq,Bool.false_eq_true,ite_true,ite_false] at hR
  subst hR
  simp only [go_sem,c1]
  exact Z1
def kU:List AV→AHeap→(AV→Prop)→Prop
 |[.agg l],_,K=>∃ S:Sch,(l=aG S∧SB S∧∀ a∈S.actions,∀ x∈a.body,x.value<340282366920938463463374607431768211456)∧K (.bool (rb S))
 |_,_,_=>False
theorem FJ:EntOk Tryz.prog 46 (Ent.pure kU):=by
 refine Ype fun _ H K h=>?_
 unfold kU at h
 split at h
 rotate_left
 ·exact h.elim
 rename_i l
 obtain ⟨S,⟨rfl,hS,hS2⟩,hK⟩:=h
 refine ⟨_,hK,?_⟩
 clear hK
 generalize hR:rb S=R
 unfold rb at hR
 refine ACalls.fW ak (tCq lR (tCq ky (tCq nV (tCq nD tNq)))) Tryz.func46 [.tmp 2] (nrq _) (T:=ag []) (h:=fun hcl hlt=>?_)
 clear hlt
 simp only [aM,aj,bhq,Nat.reduceMod,Nat.reduceDiv,aB,aC,aD,ba,aE,aZ,aV,aX,aW,yaq,yar,yao,yap,go_sem,aG,bk]
 refine ⟨S.actions,(fun a=>a.body.all fpB),⟨rfl,hS.sl.al,fun x hx H' hle' hcl'=>by
  obtain ⟨v,hv,hc'⟩:=ok_eForm1.1 rfl [ap x] H' (fun v=>v=.bool ((fun a=>a.body.all fpB) x)) ⟨x,⟨rfl,⟨(hS.an x hx).2.2.1,hS2 x hx⟩⟩,rfl⟩
  subst hv
  exact hc'⟩,?_⟩
 cases c0:S.actions.all fun a=>a.body.all fpB with
 |false =>
  rw [c0,Bool.false_and] at hR
  subst hR
  try simp only [aM,aj,bhq,Nat.reduceMod,Nat.reduceDiv,aB,aC,aD,ba,aE,aZ,aV,aX,aW,yaq,yar,yao,yap,go_sem,aG,bk,c0]
  try (repeat with_reducible refine Yq ?_)
  exact Z1
 |true =>
 rw [c0,Bool.true_and] at hR
 try simp only [aM,aj,bhq,Nat.reduceMod,Nat.reduceDiv,aB,aC,aD,ba,aE,aZ,aV,aX,aW,yaq,yar,yao,yap,go_sem,aG,bk,bm,c0]
 refine ⟨S.tables,(fun t=>ftB t.keys 0),⟨rfl,hS.sl.tl,fun x hx H' hle' hcl'=>by
  obtain ⟨v,hv,hc'⟩:=ok_eFTab.1 rfl [aq x] H' (fun v=>v=.bool ((fun t=>ftB t.keys 0) x)) ⟨x,⟨rfl,(hS.tn x hx).2.1⟩,rfl⟩
  subst hv
  exact hc'⟩,?_⟩
 cases c1:S.tables.all fun t=>ftB t.keys 0 with
 |false =>
  rw [c1,Bool.false_and] at hR
  subst hR
  try simp only [aM,aj,bhq,Nat.reduceMod,Nat.reduceDiv,aB,aC,aD,ba,aE,aZ,aV,aX,aW,yaq,yar,yao,yap,go_sem,aG,bk,bm,c0,c1]
  try (repeat with_reducible refine Yq ?_)
  exact Z1
 |true =>
 rw [c1,Bool.true_and] at hR
 try simp only [aM,aj,bhq,Nat.reduceMod,Nat.reduceDiv,aB,aC,aD,ba,aE,aZ,aV,aX,aW,yaq,yar,yao,yap,go_sem,aG,bk,bm,bq,c0,c1]
 refine ⟨S.states,fsB,⟨rfl,hS.sl.sl,fun x hx H' hle' hcl'=>by
  obtain ⟨v,hv,hc'⟩:=ok_eForm2.1 rfl [aH x] H' (fun v=>v=.bool (fsB x)) ⟨x,rfl,rfl⟩
  subst hv
  exact hc'⟩,?_⟩
 cases c2:S.states.all fsB with
 |false =>
  rw [c2,Bool.false_and] at hR
  subst hR
  try simp only [aM,aj,bhq,Nat.reduceMod,Nat.reduceDiv,aB,aC,aD,ba,aE,aZ,aV,aX,aW,yaq,yar,yao,yap,go_sem,aG,bk,bm,bq,c0,c1,c2]
  try (repeat with_reducible refine Yq ?_)
  exact Z1
 |true =>
 rw [c2,Bool.true_and] at hR
 try simp only [aM,aj,bhq,Nat.reduceMod,Nat.reduceDiv,aB,aC,aD,ba,aE,aZ,aV,aX,aW,yaq,yar,yao,yap,go_sem,aG,bk,bm,bq,bF,c0,c1,c2]
 refine ⟨S.refs,frB,⟨rfl,hS.xl,fun x hx H' hle' hcl'=>by
  obtain ⟨v,hv,hc'⟩:=ok_eForm3.1 rfl [bL x] H' (fun v=>v=.bool (frB x)) ⟨x,rfl,rfl⟩
  subst hv
  exact hc'⟩,?_⟩
 cases c3:S.refs.all frB with
 |false =>
  rw [c3] at hR
  subst hR
  try simp only [aM,aj,bhq,Nat.reduceMod,Nat.reduceDiv,aB,aC,aD,ba,aE,aZ,aV,aX,aW,yaq,yar,yao,yap,go_sem,aG,bk,bm,bq,bF,c0,c1,c2,c3]
  try (repeat with_reducible refine Yq ?_)
  exact Z1
 |true =>
 rw [c3] at hR
 subst hR
 try simp only [aM,aj,bhq,Nat.reduceMod,Nat.reduceDiv,aB,aC,aD,ba,aE,aZ,aV,aX,aW,yaq,yar,yao,yap,go_sem,aG,bk,bm,bq,bF,c0,c1,c2,c3]
 try (repeat with_reducible refine Yq ?_)
 exact Z1
end Go.AL
