/- Lemmas of the proof; no condition. -/
import Derived.Test.YtjffcopmhkcejaaGreatE04d
set_option linter.all false
set_option maxRecDepth 10000
set_option maxHeartbeats 32000000
open Go Go.AL Go.Proofs
namespace Go.AL
theorem Ew:ti Tryz.prog 98=some ⟨.struct [(0,3,false),(1,3,false),(2,94,false)],4,32,.agg [.int .i64 0,.int .i64 0,.int .u64 0,.int .u64 0]⟩:=krf
attribute [go_sem] Ew
def lH(n:Int):Bool:=n==1||(n==2||(n==3||n==7))
def fpB(p:SPrim):Bool:=wB p.op 1 7&&(!((p.op==6||p.op==7)&&p.dst !=0)&&(if lH p.op then(if p.kind==1 then p.n==0 else(p.kind==2||p.kind==3)&&decide (p.value=0))else(p.kind==0&&(p.n==0&&decide (p.value=0)))))
def ftB:List SKey→Nat→Bool
 |[],n=>decide (n≤1)
 |k::l,n=>wB k.kind 1 4&&ftB l (if k.kind==2 then n+1 else n)
def fsB(t:SState):Bool:=t.select !=0||decide (t.cases.length=0)
def frB(r:SRef):Bool:=if r.action==0 then r.param==0 else r.key==0
def mK(S:Sch):Bool:=(S.actions.all fun a=>a.body.all fpB)&&((S.tables.all fun t=>ftB t.keys 0)&&(S.states.all fsB&&S.refs.all frB))
theorem Pp{n:Nat}:((n:Int)==0)=decide (n=0):=Xw
def fx:PCt
 |[.int .i64 n],_,K=>K (.bool (lH n))
 |_,_,_=>False
def D8:EPp 250 fx:=by
 refine Ype fun _ H K h=>?_
 unfold fx at h
 split at h<;>try exact h.elim
 rename_i n
 refine⟨_,h,?_⟩
 clear h
 generalize hR:lH n=R
 unfold lH at hR
 refine Yfu aD tNq Tryz.func250 [.tmp 2] fun hcl=>?_
 cases h1:n==1<;>cases h2:n==2<;>cases h3:n==3<;>cases h7:n==7<;>(
  simp only[h1,h2,h3,h7,Bool.true_or,Bool.false_or,Bool.or_true]at hR
  subst hR
  simp only[go_sem,h1,h2,h3,h7]
  simp (disch:=first|exact Zd|omega) [↓zmm,beq,ybc,ybd,ybe,ag,wk,wk2,wk1,wkM,wkL,ay,ybf,hcl])
def EI:PCt
 |[x],_,K=>∃ t:SPrim,(x=aU t∧t.value<340282366920938463463374607431768211456)∧K (.bool (fpB t))
 |_,_,_=>False
theorem eV:Tryz.prog.eqGuardType Tryz.prog.depth 94=false:=krf
theorem fQ:Tryz.prog.eqGuardType Tryz.prog.depth 98=false:=krf
def eS{v:Nat}:teq Tryz.prog 9 94 (.agg [.int .u64 ((v/2^64:Nat):Int),.int .u64 ((v%2^64:Nat):Int)]) (.agg [.int .u64 0,.int .u64 0])=some (decide (v=0)):=by
 have g2:Tryz.prog.stoodInHeld 94=false:=krf
 have e:decide (v=0)=(((v/2^64:Nat):Int)==0&&(((v%2^64:Nat):Int)==0&&true)):=by
  rw[Bool.eq_iff_iff];simp;omega
 rw[e]
 simp[rc,teq,teq.go,teq.part,uX,ceq,g2,TD.agg]
def fO{a b:Int}{v:Nat}:teq Tryz.prog 9 98 (.agg [.int .i64 a,.int .i64 b,.int .u64 ((v/2^64:Nat):Int),.int .u64 ((v%2^64:Nat):Int)]) (.agg [.int .i64 0,.int .i64 0,.int .u64 0,.int .u64 0])=some (a==0&&(b==0&&decide (v=0))):=by
 have g1:Tryz.prog.stoodInHeld 98=false:=krf
 have g2:Tryz.prog.stoodInHeld 94=false:=krf
 have e:decide (v=0)=(((v/2^64:Nat):Int)==0&&(((v%2^64:Nat):Int)==0&&true)):=by
  rw[Bool.eq_iff_iff];simp;omega
 rw[e]
 simp[Ew,rc,teq,teq.go,teq.part,uX,DQ,ceq,g1,g2,TD.agg]
def KZ:EPp 112 EI:=by
 refine Ype fun _ H K h=>?_
 unfold EI at h
 split at h<;>try exact h.elim
 rename_i x
 obtain⟨t,⟨rfl,hv⟩,hK⟩:=h
 refine⟨_,hK,?_⟩
 clear hK
 generalize hR:fpB t=R
 unfold aU vc
 refine Yfu aD (tCq l7 (tCq D8 tNq)) Tryz.func112 [.tmp 2] fun hcl=>?_
 unfold fpB at hR
 cases c1:wB t.op 1 7 with
 |false=>
  simp only[c1,tfC]at hR
  subst hR
  simp only[go_sem,br,fx,fO,fQ,eS,eV,Bool.bne_false,c1]
  exact Z1
 |true=>
  cases c6:t.op==6 with
  |false=>
   cases c7:t.op==7 with
   |false=>
    cases co:lH t.op with
    |false=>
     simp only[c1,c6,c7,co,tfC]at hR
     subst hR
     simp only[go_sem,br,fx,fO,fQ,eS,eV,Bool.bne_false,c1,c6,c7,co]
     exact Z1
    |true=>
     cases k1:t.kind==1 with
     |false=>
      cases k2:t.kind==2 with
      |false=>
       cases k3:t.kind==3 with
       |false=>
        exact Y92
       |true=>
        exact Y92
      |true=>
       simp only[c1,c6,c7,co,k1,k2,tfC]at hR
       subst hR
       simp only[go_sem,br,fx,fO,fQ,eS,eV,Bool.bne_false,c1,c6,c7,co,k1,k2]
       exact Z1
     |true=>
      simp only[c1,c6,c7,co,k1,tfC]at hR
      subst hR
      simp only[go_sem,br,fx,fO,fQ,eS,eV,Bool.bne_false,c1,c6,c7,co,k1]
      exact Z1
   |true=>
    cases cd:t.dst !=0 with
    |false=>
     cases co:lH t.op with
     |false=>
      simp only[c1,c6,c7,cd,co,tfC]at hR
      subst hR
      simp only[go_sem,br,fx,fO,fQ,eS,eV,Bool.bne_false,c1,c6,c7,cd,co]
      exact Z1
     |true=>
      cases k1:t.kind==1 with
      |false=>
       cases k2:t.kind==2 with
       |false=>
        cases k3:t.kind==3 with
        |false=>
         exact Y89
        |true=>
         exact Y89
       |true=>
        simp only[c1,c6,c7,cd,co,k1,k2,tfC]at hR
        subst hR
        simp only[go_sem,br,fx,fO,fQ,eS,eV,Bool.bne_false,c1,c6,c7,cd,co,k1,k2]
        exact Z1
      |true=>
       simp only[c1,c6,c7,cd,co,k1,tfC]at hR
       subst hR
       simp only[go_sem,br,fx,fO,fQ,eS,eV,Bool.bne_false,c1,c6,c7,cd,co,k1]
       exact Z1
    |true=>
     simp only[c1,c6,c7,cd,tfC]at hR
     subst hR
     simp only[go_sem,br,fx,fO,fQ,eS,eV,Bool.bne_false,c1,c6,c7,cd]
     exact Z1
  |true=>
   cases cd:t.dst !=0 with
   |false=>
    cases co:lH t.op with
    |false=>
     simp only[c1,c6,cd,co,tfC]at hR
     subst hR
     simp only[go_sem,br,fx,fO,fQ,eS,eV,Bool.bne_false,c1,c6,cd,co]
     exact Z1
    |true=>
     cases k1:t.kind==1 with
     |false=>
      cases k2:t.kind==2 with
      |false=>
       cases k3:t.kind==3 with
       |false=>
        exact Y91
       |true=>
        exact Y91
      |true=>
       simp only[c1,c6,cd,co,k1,k2,tfC]at hR
       subst hR
       simp only[go_sem,br,fx,fO,fQ,eS,eV,Bool.bne_false,c1,c6,cd,co,k1,k2]
       exact Z1
     |true=>
      simp only[c1,c6,cd,co,k1,tfC]at hR
      subst hR
      simp only[go_sem,br,fx,fO,fQ,eS,eV,Bool.bne_false,c1,c6,cd,co,k1]
      exact Z1
   |true=>
    simp only[c1,c6,cd,tfC]at hR
    subst hR
    simp only[go_sem,br,fx,fO,fQ,eS,eV,Bool.bne_false,c1,c6,cd]
    exact Z1
theorem SC{k:SKey}{l:List SKey}{n:Nat}:ftB (k::l) n=(wB k.kind 1 4&&ftB l (if k.kind==2 then n+1 else n)):=rfl
def Dv:PCt
 |[x],_,K=>∃ t:STable,(x=au t∧t.keys.length≤1000000)∧K (.bool (ftB t.keys 0))
 |_,_,_=>False
def LS:EPp 113 Dv:=by
 refine Ype fun _ H K h=>?_
 unfold Dv at h
 split at h<;>try exact h.elim
 rename_i x
 obtain⟨t,⟨rfl,hl⟩,hK⟩:=h
 refine⟨_,hK,?_⟩
 clear hK
 generalize hR:ftB t.keys 0=R
 unfold au
 refine Yfv aD (tCq l7 tNq) Tryz.func113 [.tmp 2] fun hcl hlt=>?_
 have hx:=AV.lt_mono (Nat.le_succ H.nx) _ (hlt _ List.mem_cons_self)
 have hm:∀ n',H.nx≤n'→AV.lt n' (.slice .any 3 (t.keys.map aZ)):=fun n' hn=>AV.lt_mono hn _ (by have h1:=hlt _ List.mem_cons_self;simp only[znp,zns]at h1;exact h1.2.2.1)
 clear hlt
 simp only[znp]at hx
 have hcp:=ah hcl hx
 simp only[go_sem,ybb]
 generalize t.keys=ts at *
 refine aG (A:=Nat × Nat) (fun a=>[(3,.int .i64 (a.2:Int)),(7,.slice .any 3 (ts.map aZ)),(8,.int .i64 (ts.length:Int)),(9,.int .i64 (a.1:Int))]) (fun _=>H)
  (fun a=>a.1≤ts.length∧a.2≤a.1∧ftB (ts.drop a.1) a.2=R) (fun a=>ts.length-a.1) (0,0) ⟨Nat.zero_le _,nrq _,hR⟩ ?_ fun a ha=>?_
 ·refine eNt hcl ?_ ?_
  ·simp[ltF,znd,hm]
  ·exact Y14
 obtain⟨k,n⟩:=a
 clear hR
 obtain⟨hk,hn,hR⟩:=ha
 dsimp only at hk hn hR ⊢
 refine Tq20 ?_
 refine ax (fun hc=>?_) (fun hc=>?_)
 ·have hk':k<ts.length:=sHc
  obtain⟨x,hx⟩:∃ x,x=ts[k]:=⟨_,rfl⟩
  have hd:ts.drop k=x::ts.drop (k+1):=by rw[hx];exact dcq hk'
  have hg':=a9 (f:=aZ) (l:=ts) (k:=k) (x:=x) (by rw[gQq hk',hx])
  have e5:=Yk5 k
  have e6:IntKind.i64.wrap ((n:Int)+1)=((n+1:Nat):Int):=Xe
  rw[hd,SC]at hR
  have hcs:aZ x=.agg [.str x.name,.int .i64 x.field,.int .i64 x.kind]:=rfl
  rw[hcs]at hg'
  simp only[go_sem,iNq,ybb,hg',br]
  refine⟨Xa,?_⟩
  cases c1:wB x.kind 1 4 with
  |false=>
   rw[c1,Bool.false_and]at hR
   subst hR
   try simp only[go_sem,c1]
   exact Z1
  |true=>
   rw[c1,Bool.true_and]at hR
   cases c2:x.kind==2 with
   |false=>
    rw[c2,if_neg Bool.false_ne_true]at hR
    try simp only[go_sem,c1,c2,e5]
    refine⟨(k+1,n),⟨Xd,Xd,hR⟩,Xd,nrq _,by repeat first|exact .refl _|refine .push ?_ _,hcl,?_,?_⟩
    ·simp[ltF,znd,hm]
    ·exact Y14
   |true=>
    rw[c2,if_pos rfl]at hR
    try simp only[go_sem,c1,c2,e5,e6]
    refine⟨(k+1,n+1),⟨Xd,Xd,hR⟩,Xd,nrq _,by repeat first|exact .refl _|refine .push ?_ _,hcl,?_,?_⟩
    ·simp[ltF,znd,hm]
    ·exact Y14
 ·have hk':k=ts.length:=sHc
  subst hk'
  rw[List.drop_length]at hR
  have hR':decide (n≤1)=R:=hR
  have e7:decide ((n:Int)≤1)=decide (n≤1):=by rw[decide_eq_decide];omega
  subst hR'
  simp only[go_sem,e7]
  exact Z1
def AH:PCt
 |[x],H,K=>∃ t:SAction,(x=ap t∧t.body.length≤1000000∧∀ x∈t.body,x.value<340282366920938463463374607431768211456)∧K (.bool (t.body.all fpB))
 |_,_,_=>False
def Gh:EPp 110 AH:=by
 refine Ype fun _ H K h=>?_
 unfold AH at h
 split at h<;>try exact h.elim
 rename_i x
 obtain⟨t,⟨rfl,hc⟩,hK⟩:=h
 refine⟨_,hK,?_⟩
 clear hK
 generalize hR:(t.body.all fpB)=R
 unfold ap
 refine Yfu aD (tCq ws tNq) Tryz.func110 [.tmp 2] fun hcl=>?_
 simp only[aX,aA,bhq,go_sem,dT]
 refine⟨t.body,fpB,⟨rfl,hc.1,fun x hx H' hle' hcl'=>clB KZ ⟨x,⟨rfl,hc.2 x hx⟩,rfl⟩⟩,?_⟩
 cases c0:t.body.all fpB with
 |false=>
  rw[c0]at hR
  subst hR
  try simp only[aX,aA,bhq,go_sem,dT,c0]
  exact Y8
 |true=>
 rw[c0]at hR
 subst hR
 try simp only[aX,aA,bhq,go_sem,dT,c0]
 exact Y8
def Bk:PCt
 |[x],H,K=>∃ t:SState,(x=aE t)∧K (.bool (fsB t))
 |_,_,_=>False
def FH:EPp 114 Bk:=by
 refine Ype fun _ H K h=>?_
 unfold Bk at h
 split at h<;>try exact h.elim
 rename_i x
 obtain⟨t,rfl,hK⟩:=h
 refine⟨_,hK,?_⟩
 clear hK
 generalize hR:(fsB t)=R
 unfold aE
 refine Yfu aD tNq Tryz.func114 [.tmp 2] fun hcl=>?_
 unfold fsB at hR
 cases c1:t.select !=0 with
 |false=>
  cases c2:decide (t.cases.length=0)with
  |false=>
   exact Y138
  |true=>
   exact Y138
 |true=>
  simp only[c1,tfC]at hR
  subst hR
  simp only[go_sem,ybb,Pp,c1]
  exact Z1
def BG:PCt
 |[x],H,K=>∃ t:SRef,(x=bc t)∧K (.bool (frB t))
 |_,_,_=>False
def Ga:EPp 116 BG:=by
 refine Ype fun _ H K h=>?_
 unfold BG at h
 split at h<;>try exact h.elim
 rename_i x
 obtain⟨t,rfl,hK⟩:=h
 refine⟨_,hK,?_⟩
 clear hK
 generalize hR:(frB t)=R
 unfold bc
 refine Yfu aD tNq Tryz.func116 [.tmp 2] fun hcl=>?_
 unfold frB at hR
 cases c1:t.action==0 with
 |false=>
  exact Y145
 |true=>
  exact Y145
def pA:PCt
 |[.agg l],_,K=>∃ S:Sch,(l=aR S∧SB S∧∀ a∈S.actions,∀ x∈a.body,x.value<340282366920938463463374607431768211456)∧K (.bool (mK S))
 |_,_,_=>False
def Kq:EPp 27 pA:=by
 refine Ype fun _ H K h=>?_
 unfold pA at h
 split at h<;>try exact h.elim
 rename_i l
 obtain⟨S,⟨rfl,hS,hS2⟩,hK⟩:=h
 refine⟨_,hK,?_⟩
 clear hK
 generalize hR:mK S=R
 unfold mK at hR
 refine Yfu aD (tCq qI (tCq oI (tCq sC (tCq sW tNq)))) Tryz.func27 [.tmp 2] fun hcl=>?_
 simp only[aX,aA,bhq,go_sem,aR,bM]
 refine⟨S.actions,(fun a=>a.body.all fpB),⟨rfl,hS.sl.al,fun x hx H' hle' hcl'=>clB Gh ⟨x,⟨rfl,⟨(hS.an x hx).2.2.1,hS2 x hx⟩⟩,rfl⟩⟩,?_⟩
 cases c0:S.actions.all fun a=>a.body.all fpB with
 |false=>
  rw[c0,Bool.false_and]at hR
  subst hR
  try simp only[aX,aA,bhq,go_sem,aR,bM,c0]
  exact Y8
 |true=>
 rw[c0,Bool.true_and]at hR
 try simp only[aX,aA,bhq,go_sem,aR,bM,bW,c0]
 refine⟨S.tables,(fun t=>ftB t.keys 0),⟨rfl,hS.sl.tl,fun x hx H' hle' hcl'=>clB LS ⟨x,⟨rfl,(hS.tn x hx).2.1⟩,rfl⟩⟩,?_⟩
 cases c1:S.tables.all fun t=>ftB t.keys 0 with
 |false=>
  rw[c1,Bool.false_and]at hR
  subst hR
  try simp only[aX,aA,bhq,go_sem,aR,bM,bW,c0,c1]
  exact Y8
 |true=>
 rw[c1,Bool.true_and]at hR
 try simp only[aX,aA,bhq,go_sem,aR,bM,bW,cx,c0,c1]
 refine⟨S.states,fsB,⟨rfl,hS.sl.sl,fun x hx H' hle' hcl'=>clB FH ⟨x,rfl,rfl⟩⟩,?_⟩
 cases c2:S.states.all fsB with
 |false=>
  rw[c2,Bool.false_and]at hR
  subst hR
  try simp only[aX,aA,bhq,go_sem,aR,bM,bW,cx,c0,c1,c2]
  exact Y8
 |true=>
 rw[c2,Bool.true_and]at hR
 try simp only[aX,aA,bhq,go_sem,aR,bM,bW,cx,cV,c0,c1,c2]
 refine⟨S.refs,frB,⟨rfl,hS.xl,fun x hx H' hle' hcl'=>clB Ga ⟨x,rfl,rfl⟩⟩,?_⟩
 cases c3:S.refs.all frB with
 |false=>
  rw[c3]at hR
  subst hR
  refine Tq70 ?_
  exact Y8
 |true=>
 rw[c3]at hR
 subst hR
 refine Tq70 ?_
 exact Y8
end Go.AL
