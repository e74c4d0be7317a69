/- Lemmas of the proof; no condition. -/
import Derived.Test.YthnlhjalhflgfaaGreatE04d
set_option linter.all false
set_option maxRecDepth 10000
set_option maxHeartbeats 32000000
open Go Go.AL Go.Proofs
namespace Go.AL
theorem B0:ti Tryz.prog 110=some ⟨.struct [(0,3,false),(1,3,false),(2,106,false)],4,32,.agg [.int .i64 0,.int .i64 0,.int .u64 0,.int .u64 0]⟩:=krf
attribute [go_sem] B0
def kM (n:Int):Bool:=n==1||(n==2||(n==3||n==7))
def fpB (p:SPrim):Bool:=wB p.op 1 7&&(!((p.op==6||p.op==7)&&p.dst != 0)&&(if kM p.op then (if p.kind==1 then p.n==0 else (p.kind==2||p.kind==3)&&decide (p.value=0)) else (p.kind==0&&(p.n==0&&decide (p.value=0)))))
def ftB:List SKey→Nat→Bool
 |[],n=>decide (n≤1)
 |k::l,n=>wB k.kind 1 4&&ftB l (if k.kind==2 then n+1 else n)
def fsB (t:SState):Bool:=t.select != 0||decide (t.cases.length=0)
def frB (r:SRef):Bool:=if r.action==0 then r.param==0 else r.key==0
def mw (S:Sch):Bool:=(S.actions.all fun a=>a.body.all fpB)&&((S.tables.all fun t=>ftB t.keys 0)&&(S.states.all fsB&&S.refs.all frB))
theorem OG {n:Nat}:((n:Int)==0)=decide (n=0):=by rw [Bool.eq_iff_iff];simp
def eQ:PCt
 |[.int .i64 n],_,K=>K (.bool (kM n))
 |_,_,_=>False
theorem Db:EPp 261 eQ:=by
 refine Ype fun _ H K h=>?_
 unfold eQ at h
 split at h<;>try exact h.elim
 rename_i n
 refine ⟨_,h,?_⟩
 clear h
 generalize hR:kM n=R
 unfold kM at hR
 refine Yfu aE tNq Tryz.func261 [.tmp 2] fun hcl=>?_
 cases h1:n==1<;>cases h2:n==2<;>cases h3:n==3<;>cases h7:n==7<;>(
  simp only [h1,h2,h3,h7,Bool.true_or,Bool.false_or,Bool.or_true] at hR
  subst hR
  simp only [go_sem,h1,h2,h3,h7]
  simp (disch:=first|exact Zd|omega) [↓zmo,beq,ybc,ybd,ybe,ag,wk,wk2,wk1,wkM,wkL,ay,ybf,hcl])
def Co:PCt
 |[x],_,K=>∃ t:SPrim,(x=aT t∧t.value<340282366920938463463374607431768211456)∧K (.bool (fpB t))
 |_,_,_=>False
theorem eB:Tryz.prog.eqGuardType Tryz.prog.depth 106=false:=krf
theorem fp:Tryz.prog.eqGuardType Tryz.prog.depth 110=false:=krf
theorem eu {v:Nat}:teq Tryz.prog 9 106 (.agg [.int .u64 ((v/2^64:Nat):Int),.int .u64 ((v % 2^64:Nat):Int)]) (.agg [.int .u64 0,.int .u64 0])=some (decide (v=0)):=by
 have g2:Tryz.prog.stoodInHeld 106=false:=krf
 have e:decide (v=0)=(((v/2^64:Nat):Int)==0&&(((v % 2^64:Nat):Int)==0&&true)):=by
  rw [Bool.eq_iff_iff];simp;omega
 rw [e]
 simp [pJ,teq,teq.go,teq.part,tz,ceq,g2,TD.agg]
theorem fu {a b:Int} {v:Nat}:teq Tryz.prog 9 110 (.agg [.int .i64 a,.int .i64 b,.int .u64 ((v/2^64:Nat):Int),.int .u64 ((v % 2^64:Nat):Int)]) (.agg [.int .i64 0,.int .i64 0,.int .u64 0,.int .u64 0])=some (a==0&&(b==0&&decide (v=0))):=by
 have g1:Tryz.prog.stoodInHeld 110=false:=krf
 have g2:Tryz.prog.stoodInHeld 106=false:=krf
 have e:decide (v=0)=(((v/2^64:Nat):Int)==0&&(((v % 2^64:Nat):Int)==0&&true)):=by
  rw [Bool.eq_iff_iff];simp;omega
 rw [e]
 simp [B0,pJ,teq,teq.go,teq.part,tz,BZ,ceq,g1,g2,TD.agg]
theorem IL:EPp 123 Co:=by
 refine Ype fun _ H K h=>?_
 unfold Co at h
 split at h<;>try exact h.elim
 rename_i x
 obtain ⟨t,⟨rfl,hv⟩,hK⟩:=h
 refine ⟨_,hK,?_⟩
 clear hK
 generalize hR:fpB t=R
 unfold aT vc
 refine Yfu aE (tCq ld (tCq Db tNq)) Tryz.func123 [.tmp 2] fun hcl=>?_
 unfold fpB at hR
 cases c1:wB t.op 1 7 with
 |false =>
  simp only [c1,tfC] at hR
  subst hR
  simp only [go_sem,bA,eQ,fu,fp,eu,eB,Bool.bne_false,c1]
  exact Z1
 |true =>
  cases c6:t.op==6 with
  |false =>
   cases c7:t.op==7 with
   |false =>
    cases co:kM t.op with
    |false =>
     simp only [c1,c6,c7,co,tfC] at hR
     subst hR
     simp only [go_sem,bA,eQ,fu,fp,eu,eB,Bool.bne_false,c1,c6,c7,co]
     exact Z1
    |true =>
     cases k1:t.kind==1 with
     |false =>
      cases k2:t.kind==2 with
      |false =>
       cases k3:t.kind==3 with
       |false =>
        exact Y88
       |true =>
        exact Y88
      |true =>
       simp only [c1,c6,c7,co,k1,k2,tfC] at hR
       subst hR
       simp only [go_sem,bA,eQ,fu,fp,eu,eB,Bool.bne_false,c1,c6,c7,co,k1,k2]
       exact Z1
     |true =>
      simp only [c1,c6,c7,co,k1,tfC] at hR
      subst hR
      simp only [go_sem,bA,eQ,fu,fp,eu,eB,Bool.bne_false,c1,c6,c7,co,k1]
      exact Z1
   |true =>
    cases cd:t.dst != 0 with
    |false =>
     cases co:kM t.op with
     |false =>
      simp only [c1,c6,c7,cd,co,tfC] at hR
      subst hR
      simp only [go_sem,bA,eQ,fu,fp,eu,eB,Bool.bne_false,c1,c6,c7,cd,co]
      exact Z1
     |true =>
      cases k1:t.kind==1 with
      |false =>
       cases k2:t.kind==2 with
       |false =>
        cases k3:t.kind==3 with
        |false =>
         exact Y85
        |true =>
         exact Y85
       |true =>
        simp only [c1,c6,c7,cd,co,k1,k2,tfC] at hR
        subst hR
        simp only [go_sem,bA,eQ,fu,fp,eu,eB,Bool.bne_false,c1,c6,c7,cd,co,k1,k2]
        exact Z1
      |true =>
       simp only [c1,c6,c7,cd,co,k1,tfC] at hR
       subst hR
       simp only [go_sem,bA,eQ,fu,fp,eu,eB,Bool.bne_false,c1,c6,c7,cd,co,k1]
       exact Z1
    |true =>
     simp only [c1,c6,c7,cd,tfC] at hR
     subst hR
     simp only [go_sem,bA,eQ,fu,fp,eu,eB,Bool.bne_false,c1,c6,c7,cd]
     exact Z1
  |true =>
   cases cd:t.dst != 0 with
   |false =>
    cases co:kM t.op with
    |false =>
     simp only [c1,c6,cd,co,tfC] at hR
     subst hR
     simp only [go_sem,bA,eQ,fu,fp,eu,eB,Bool.bne_false,c1,c6,cd,co]
     exact Z1
    |true =>
     cases k1:t.kind==1 with
     |false =>
      cases k2:t.kind==2 with
      |false =>
       cases k3:t.kind==3 with
       |false =>
        exact Y87
       |true =>
        exact Y87
      |true =>
       simp only [c1,c6,cd,co,k1,k2,tfC] at hR
       subst hR
       simp only [go_sem,bA,eQ,fu,fp,eu,eB,Bool.bne_false,c1,c6,cd,co,k1,k2]
       exact Z1
     |true =>
      simp only [c1,c6,cd,co,k1,tfC] at hR
      subst hR
      simp only [go_sem,bA,eQ,fu,fp,eu,eB,Bool.bne_false,c1,c6,cd,co,k1]
      exact Z1
   |true =>
    simp only [c1,c6,cd,tfC] at hR
    subst hR
    simp only [go_sem,bA,eQ,fu,fp,eu,eB,Bool.bne_false,c1,c6,cd]
    exact Z1
theorem PX {k:SKey} {l:List SKey} {n:Nat}:ftB (k::l) n=(wB k.kind 1 4&&ftB l (if k.kind==2 then n+1 else n)):=rfl
def C7:PCt
 |[x],_,K=>∃ t:STable,(x=ax t∧t.keys.length≤1000000)∧K (.bool (ftB t.keys 0))
 |_,_,_=>False
theorem Kc:EPp 124 C7:=by
 refine Ype fun _ H K h=>?_
 unfold C7 at h
 split at h<;>try exact h.elim
 rename_i x
 obtain ⟨t,⟨rfl,hl⟩,hK⟩:=h
 refine ⟨_,hK,?_⟩
 clear hK
 generalize hR:ftB t.keys 0=R
 unfold ax
 refine Yfv aE (tCq ld tNq) Tryz.func124 [.tmp 2] fun hcl hlt=>?_
 have hx:=AV.lt_mono (Nat.le_succ H.nx) _ (hlt _ List.mem_cons_self)
 have hm:∀ n',H.nx≤n'→AV.lt n' (.slice .any 3 (t.keys.map ba)):=fun n' hn=>AV.lt_mono hn _ (by have h1:=hlt _ List.mem_cons_self;simp only [znr,znu] at h1;exact h1.2.2.1)
 clear hlt
 simp only [znr] at hx
 have hcp:=ah hcl hx
 simp only [go_sem,ybb]
 generalize t.keys=ts at *
 refine aC (A:=Nat × Nat) (fun a=>[(3,.int .i64 (a.2:Int)),(7,.slice .any 3 (ts.map ba)),(8,.int .i64 (ts.length:Int)),(9,.int .i64 (a.1:Int))]) (fun _=>H)
  (fun a=>a.1≤ts.length∧a.2≤a.1∧ftB (ts.drop a.1) a.2=R) (fun a=>ts.length - a.1) (0,0) ⟨Nat.zero_le _,nrq _,hR⟩ ?_ fun a ha=>?_
 ·refine eNt hcl ?_ ?_
  ·simp [ltF,znf,hm]
  ·exact Y13
 obtain ⟨k,n⟩:=a
 clear hR
 obtain ⟨hk,hn,hR⟩:=ha
 dsimp only at hk hn hR ⊢
 refine Tq15 ?_
 refine au (fun hc=>?_) (fun hc=>?_)
 ·have hk':k<ts.length:=sHc
  obtain ⟨x,hx⟩:∃ x,x=ts[k]:=⟨_,rfl⟩
  have hd:ts.drop k=x::ts.drop (k+1):=by rw [hx];exact dcq hk'
  have hg':=aV (f:=ba) (l:=ts) (k:=k) (x:=x) (by rw [gQq hk',hx])
  have e5:=Yk5 k
  have e6:IntKind.i64.wrap ((n:Int)+1)=((n+1:Nat):Int):=by rw [wrap_i64]<;>omega
  rw [hd,PX] at hR
  have hcs:ba x=.agg [.str x.name,.int .i64 x.field,.int .i64 x.kind]:=rfl
  rw [hcs] at hg'
  simp only [go_sem,iNq,ybb,hg',bA]
  refine ⟨by omega,?_⟩
  cases c1:wB x.kind 1 4 with
  |false =>
   rw [c1,Bool.false_and] at hR
   subst hR
   exact Y135
  |true =>
   rw [c1,Bool.true_and] at hR
   cases c2:x.kind==2 with
   |false =>
    rw [c2,if_neg Bool.false_ne_true] at hR
    try simp only [go_sem,c1,c2,e5]
    refine ⟨(k+1,n),⟨by dsimp only;omega,by dsimp only;omega,hR⟩,by dsimp only;omega,nrq _,by repeat first|exact .refl _|refine .push ?_ _,hcl,?_,?_⟩
    ·simp [ltF,znf,hm]
    ·exact Y13
   |true =>
    rw [c2,if_pos rfl] at hR
    try simp only [go_sem,c1,c2,e5,e6]
    refine ⟨(k+1,n+1),⟨by dsimp only;omega,by dsimp only;omega,hR⟩,by dsimp only;omega,nrq _,by repeat first|exact .refl _|refine .push ?_ _,hcl,?_,?_⟩
    ·simp [ltF,znf,hm]
    ·exact Y13
 ·have hk':k=ts.length:=sHc
  subst hk'
  rw [List.drop_length] at hR
  have hR':decide (n≤1)=R:=hR
  have e7:decide ((n:Int)≤1)=decide (n≤1):=by rw [decide_eq_decide];omega
  subst hR'
  simp only [go_sem,e7]
  exact Z1
def Af:PCt
 |[x],H,K=>∃ t:SAction,(x=ap t∧t.body.length≤1000000∧∀ x∈t.body,x.value<340282366920938463463374607431768211456)∧K (.bool (t.body.all fpB))
 |_,_,_=>False
theorem DW:EPp 121 Af:=by
 refine Ype fun _ H K h=>?_
 unfold Af at h
 split at h<;>try exact h.elim
 rename_i x
 obtain ⟨t,⟨rfl,hc⟩,hK⟩:=h
 refine ⟨_,hK,?_⟩
 clear hK
 generalize hR:(t.body.all fpB)=R
 unfold ap
 refine Yfu aE (tCq uI tNq) Tryz.func121 [.tmp 2] fun hcl=>?_
 simp only [bm,aD,bhq,Nat.reduceMod,Nat.reduceDiv,aW,aX,aZ,bx,aY,bw,bo,bp,bv,yaq,yar,yao,yap,go_sem,dz]
 refine ⟨t.body,fpB,⟨rfl,hc.1,fun x hx H' hle' hcl'=>clB IL ⟨x,⟨rfl,hc.2 x hx⟩,rfl⟩⟩,?_⟩
 cases c0:t.body.all fpB with
 |false =>
  rw [c0] at hR
  subst hR
  refine Tq69 ?_
  exact Y8
 |true =>
 rw [c0] at hR
 subst hR
 refine Tq69 ?_
 exact Y8
def yX:PCt
 |[x],H,K=>∃ t:SState,(x=aA t)∧K (.bool (fsB t))
 |_,_,_=>False
theorem Dz:EPp 125 yX:=by
 refine Ype fun _ H K h=>?_
 unfold yX at h
 split at h<;>try exact h.elim
 rename_i x
 obtain ⟨t,rfl,hK⟩:=h
 refine ⟨_,hK,?_⟩
 clear hK
 generalize hR:(fsB t)=R
 unfold aA
 refine Yfu aE tNq Tryz.func125 [.tmp 2] fun hcl=>?_
 unfold fsB at hR
 cases c1:t.select != 0 with
 |false =>
  cases c2:decide (t.cases.length=0) with
  |false =>
   exact Y137
  |true =>
   exact Y137
 |true =>
  simp only [c1,tfC] at hR
  subst hR
  simp only [go_sem,ybb,OG,c1]
  exact Z1
def zc:PCt
 |[x],H,K=>∃ t:SRef,(x=a9 t)∧K (.bool (frB t))
 |_,_,_=>False
theorem Dt:EPp 126 zc:=by
 refine Ype fun _ H K h=>?_
 unfold zc at h
 split at h<;>try exact h.elim
 rename_i x
 obtain ⟨t,rfl,hK⟩:=h
 refine ⟨_,hK,?_⟩
 clear hK
 generalize hR:(frB t)=R
 unfold a9
 refine Yfu aE tNq Tryz.func126 [.tmp 2] fun hcl=>?_
 unfold frB at hR
 cases c1:t.action==0 with
 |false =>
  exact Y143
 |true =>
  exact Y143
def nB:PCt
 |[.agg l],_,K=>∃ S:Sch,(l=aR S∧SB S∧∀ a∈S.actions,∀ x∈a.body,x.value<340282366920938463463374607431768211456)∧K (.bool (mw S))
 |_,_,_=>False
theorem Ii:EPp 34 nB:=by
 refine Ype fun _ H K h=>?_
 unfold nB at h
 split at h<;>try exact h.elim
 rename_i l
 obtain ⟨S,⟨rfl,hS,hS2⟩,hK⟩:=h
 refine ⟨_,hK,?_⟩
 clear hK
 generalize hR:mw S=R
 unfold mw at hR
 refine Yfu aE (tCq oY (tCq nd (tCq qJ (tCq oO tNq)))) Tryz.func34 [.tmp 2] fun hcl=>?_
 simp only [bm,aD,bhq,Nat.reduceMod,Nat.reduceDiv,aW,aX,aZ,bx,aY,bw,bo,bp,bv,yaq,yar,yao,yap,go_sem,aR,bQ]
 refine ⟨S.actions,(fun a=>a.body.all fpB),⟨rfl,hS.sl.al,fun x hx H' hle' hcl'=>clB DW ⟨x,⟨rfl,⟨(hS.an x hx).2.2.1,hS2 x hx⟩⟩,rfl⟩⟩,?_⟩
 cases c0:S.actions.all fun a=>a.body.all fpB with
 |false =>
  rw [c0,Bool.false_and] at hR
  subst hR
  try simp only [bm,aD,bhq,Nat.reduceMod,Nat.reduceDiv,aW,aX,aZ,bx,aY,bw,bo,bp,bv,yaq,yar,yao,yap,go_sem,aR,bQ,c0]
  exact Y8
 |true =>
 rw [c0,Bool.true_and] at hR
 try simp only [bm,aD,bhq,Nat.reduceMod,Nat.reduceDiv,aW,aX,aZ,bx,aY,bw,bo,bp,bv,yaq,yar,yao,yap,go_sem,aR,bQ,bZ,c0]
 refine ⟨S.tables,(fun t=>ftB t.keys 0),⟨rfl,hS.sl.tl,fun x hx H' hle' hcl'=>clB Kc ⟨x,⟨rfl,(hS.tn x hx).2.1⟩,rfl⟩⟩,?_⟩
 cases c1:S.tables.all fun t=>ftB t.keys 0 with
 |false =>
  rw [c1,Bool.false_and] at hR
  subst hR
  try simp only [bm,aD,bhq,Nat.reduceMod,Nat.reduceDiv,aW,aX,aZ,bx,aY,bw,bo,bp,bv,yaq,yar,yao,yap,go_sem,aR,bQ,bZ,c0,c1]
  exact Y8
 |true =>
 rw [c1,Bool.true_and] at hR
 try simp only [bm,aD,bhq,Nat.reduceMod,Nat.reduceDiv,aW,aX,aZ,bx,aY,bw,bo,bp,bv,yaq,yar,yao,yap,go_sem,aR,bQ,bZ,cr,c0,c1]
 refine ⟨S.states,fsB,⟨rfl,hS.sl.sl,fun x hx H' hle' hcl'=>clB Dz ⟨x,rfl,rfl⟩⟩,?_⟩
 cases c2:S.states.all fsB with
 |false =>
  rw [c2,Bool.false_and] at hR
  subst hR
  try simp only [bm,aD,bhq,Nat.reduceMod,Nat.reduceDiv,aW,aX,aZ,bx,aY,bw,bo,bp,bv,yaq,yar,yao,yap,go_sem,aR,bQ,bZ,cr,c0,c1,c2]
  exact Y8
 |true =>
 rw [c2,Bool.true_and] at hR
 try simp only [bm,aD,bhq,Nat.reduceMod,Nat.reduceDiv,aW,aX,aZ,bx,aY,bw,bo,bp,bv,yaq,yar,yao,yap,go_sem,aR,bQ,bZ,cr,cL,c0,c1,c2]
 refine ⟨S.refs,frB,⟨rfl,hS.xl,fun x hx H' hle' hcl'=>clB Dt ⟨x,rfl,rfl⟩⟩,?_⟩
 cases c3:S.refs.all frB with
 |false =>
  rw [c3] at hR
  subst hR
  refine Tq48 ?_
  exact Y8
 |true =>
 rw [c3] at hR
 subst hR
 refine Tq48 ?_
 exact Y8
end Go.AL
