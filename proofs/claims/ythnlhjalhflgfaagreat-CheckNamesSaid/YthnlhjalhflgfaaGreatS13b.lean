/- Lemmas of the proof; no condition. -/
import Derived.Test.YthnlhjalhflgfaaGreatW03p
set_option linter.all false
set_option maxRecDepth 10000
set_option maxHeartbeats 32000000
open List renaming cons_append → yal, nil_append → yak, length_cons → yaz, length_nil → yba, take_succ_cons → yaq, take_zero → yar, drop_succ_cons → yao, drop_zero → yap, getD_cons_zero → yau, getD_cons_succ → yav, length_map → ybb
open Go Go.AL Go.Proofs
namespace Go.AL
theorem yX {H:AHeap} {id:Nat} {A M B M':List AV} (h:H.Closed) (hg:H.get id=some (.cells (A++(M++B)))) (hm:ltL H.nx M'):(H.set id (.cells (A++(M'++B)))).Closed:=by
 refine ba h ?_
 have h1:ltL H.nx (A++(M++B)):=ltL_iff.2 fun j hj=>h id _ hg j hj
 rw [ltL_iff] at h1 hm ⊢
 intro j hj
 have hmem:=gMq hj
 generalize (A++(M'++B))[j]=x at hmem ⊢
 have key:∀ y∈A++(M++B),AV.lt H.nx y:=fun y hy=>by
  obtain ⟨i,hi,rfl⟩:=List.getElem_of_mem hy
  exact h1 i hi
 rw [List.mem_append,List.mem_append] at hmem
 rcases hmem with hx|hx|hx
 ·exact key x (by simp [hx])
 ·obtain ⟨i,hi,rfl⟩:=List.getElem_of_mem hx
  exact hm i hi
 ·exact key x (by simp [hx])
theorem bO {A Y v:List AV}:splice (A++Y) A.length v=A++splice Y 0 v:=aU A Y 0 v
theorem bP {A Y:List AV} {d:AV}:(A++Y).getD A.length d=Y.getD 0 d:=bo A Y 0 d
def oO (n:Int):Prop := -9223372036854775808≤n∧n≤9223372036854775807
theorem Aq {n:Int} (h:oO n):IntKind.i64.wrap (n.tdiv 16)=n.tdiv 16∧oO (n.tdiv 16):=by
 unfold oO at h ⊢
 have : -9223372036854775808≤n.tdiv 16∧n.tdiv 16≤9223372036854775807:=by
  have h1:n.tdiv 16*16+n.tmod 16=n:=Int.tdiv_mul_add_tmod n 16
  have h2:n.tmod 16<16:=Int.tmod_lt_of_pos n (by decide)
  have h3 : -16<n.tmod 16:=by
   have:=Int.tmod_lt_of_pos (-n) (show (0:Int)<16 by decide)
   rw [Int.neg_tmod] at this
   omega
  omega
 exact ⟨by rw [wrap_i64]<;>omega,this⟩
def App (n0:Nat) (H:AHeap) (m:Mark) (sz n:Nat):Prop:=(m=.full∧n=0)∨∃ q,m=.own q∧n0≤q∧H.get q=some (.buf sz n)
structure Chg (n0:Nat) (H H1:AHeap) (id:Nat) (cs:List AV):Prop where
 get:H1.get id=some (.cells cs)
 nx:H.nx≤H1.nx
 cl:H1.Closed
 keep:∀ j c,j≠id→H.get j=some (.cells c)→H1.get j=some (.cells c)
 old:∀ j o,j<n0→H.get j=some o→H1.get j=some o
theorem dW {n0:Nat} {H:AHeap} {id:Nat} {A M B M':List AV} (hn0:n0≤id) (h:H.Closed) (hg:H.get id=some (.cells (A++(M++B)))) (hm:ltL H.nx M'):Chg n0 H (H.set id (.cells (A++(M'++B)))) id (A++(M'++B)) :=
 ⟨AHeap.get_set_same _ _ (glq hg),nrq _,yX h hg hm,fun j c hj hx=>by rw [AHeap.get_set_ne _ _ hj];exact hx,fun j o hj hx=>by rw [AHeap.get_set_ne _ _ (by omega)];exact hx⟩
theorem Chg.push {n0:Nat} {H H1:AHeap} {id:Nat} {cs:List AV} (h:Chg n0 H H1 id cs) (o:AObj) (ho:(H1.push o).Closed):Chg n0 H (H1.push o) id cs :=
 ⟨by rw [gPq _ _ (glq h.get)];exact h.get,Nat.le_succ_of_le h.nx,ho,fun j c hj hx=>by have h1:=h.keep j c hj hx;rw [gPq _ _ (glq h1)];exact h1,fun j x hj hx=>by have h1:=h.old j x hj hx;rw [gPq _ _ (glq h1)];exact h1⟩
theorem gP {n0:Nat} {H:AHeap} {id a b c d:Nat} {A M B M':List AV} (hn0:n0≤id) (h:H.Closed) (hg:H.get id=some (.cells (A++(M++B)))) (hm:ltL (H.nx+1+1) M'):Chg n0 H (((H.set id (.cells (A++(M'++B)))).push (.buf a b)).push (.buf c d)) id (A++(M'++B)):=by
 have hl:=glq hg
 have nn0:(id=H.nx)=False:=eq_false (by omega)
 have nn1:(id=H.nx+1)=False:=eq_false (by omega)
 have e1:((H.push (.buf a b)).push (.buf c d)).get id=H.get id:=by rw [gPq _ _ (show id<(H.push (.buf a b)).nx by rw [zle];omega),gPq _ _ hl]
 have h1:=dW (H:=(H.push (.buf a b)).push (.buf c d)) (M':=M') hn0 (aY (aY h)) (e1.trans hg) hm
 simp only [go_sem,nn0,nn1] at h1
 exact ⟨h1.get,by simp only [zle,zlf];omega,h1.cl,fun j x hj hx=>h1.keep j x hj (by
  have:=glq hx
  rw [gPq _ _ (show j<(H.push (.buf a b)).nx by rw [zle];omega),gPq _ _ this];exact hx),fun j x hj hx=>h1.old j x hj (by
  have:=glq hx
  rw [gPq _ _ (show j<(H.push (.buf a b)).nx by rw [zle];omega),gPq _ _ this];exact hx)⟩
theorem qq {H:AHeap} {q a b:Nat} (h:H.Closed):(H.set q (.buf a b)).Closed:=by
 intro k cs hk j hj
 rcases AHeap.get_set_inv _ _ hk with ⟨_,e,_⟩|⟨_,h2⟩
 ·cases e
 ·exact h k cs h2 j hj
theorem jg {n0:Nat} {H:AHeap} {id q a b c d:Nat} {x y:Nat} {A M B M':List AV} (hn0:n0≤id) (hn1:n0≤q) (h:H.Closed) (hg:H.get id=some (.cells (A++(M++B)))) (hq:H.get q=some (.buf x y)) (hm:ltL H.nx M'):Chg n0 H (((H.set q (.buf a b)).set id (.cells (A++(M'++B)))).push (.buf c d)) id (A++(M'++B)):=by
 have hne:id≠q:=fun e=>by rw [← e,hg] at hq;cases hq
 have h1:=dW (H:=H.set q (.buf a b)) (M':=M') hn0 (qq h) (by rw [AHeap.get_set_ne _ _ hne];exact hg) hm
 refine ⟨(h1.push _ (aY h1.cl)).get,by simp only [zle,zlf];omega,aY h1.cl,fun j c hj hx=>(h1.push _ (aY h1.cl)).keep j c hj ?_,fun j o hj hx=>(h1.push _ (aY h1.cl)).old j o hj ?_⟩
 ·rw [AHeap.get_set_ne _ _ (fun e=>by rw [e,hq] at hx;cases hx)]
  exact hx
 ·rw [AHeap.get_set_ne _ _ (by omega)]
  exact hx
def M8 (x:SField):Prop:=x.name.length≤62
def M3 (k:Nat) (x:SHeader):Prop:=x.name.length≤62∧x.fields.length≤3+k
def Do (k:Nat) (x:SState):Prop:=x.cases.length≤3+k∧∀ c∈x.cases,nK c
def u6 (k:Nat) (x:SAction):Prop:=x.name.length≤62∧x.params.length≤2+k∧(∀ p∈x.params,p.name.length≤62)∧x.body.length≤3+k∧(∀ p∈x.body,sw p)∧x.restr.length≤62
def om (k:Nat) (x:STable):Prop:=x.name.length≤62∧x.keys.length≤3+k∧(∀ p∈x.keys,p.name.length≤62)∧x.actions.length≤5+k∧x.dargs.length≤1+k∧(∀ v∈x.dargs,jW v)∧x.restr.length≤62
def u0 (k:Nat) (x:SRole):Prop:=x.name.length≤62∧x.grants.length≤4+k∧(∀ g∈x.grants,g.keys.length≤4)∧x.actions.length≤6+k
def tk (x:SField):List AV:=[.int .i64 x.id,.str x.name,.int .i64 x.bits]
def jS (m:Mark) (x:SState):List AV:=[.int .i64 x.id,.int .i64 x.header,.int .i64 x.select,.slice m 5 (x.cases.map cI),.int .i64 x.dflt]
def lm (m1 m2:Mark) (x:SAction):List AV:=[.int .i64 x.id,.str x.name,.slice m1 2 (x.params.map bv),.slice m2 6 (x.body.map bV),.str x.restr]
def cD:List AV→AHeap→(AV→AHeap→Prop)→Prop
 |[.ptr id off,.int .i64 a,.int .i64 n,.str t],H,K=>∃ (A B:List AV) (x:SField) (p0:Nat),(H.get id=some (.cells (A++(tk x++B)))∧off=A.length∧p0≤id∧oO a∧t.length≤62∧M8 x) ∧
   ∀ H1 x',Chg p0 H H1 id (A++(tk x'++B))→M8 x'→K (.tup []) H1
 |_,_,_=>False
def cC:List AV→AHeap→(AV→AHeap→Prop)→Prop
 |[.ptr id off,.int .i64 a,.int .i64 n],H,K=>∃ (A B:List AV) (x:SState) (m:Mark) (k p0:Nat),(H.get id=some (.cells (A++(jS m x++B)))∧off=A.length∧p0≤id∧oO a∧App p0 H m 5 x.cases.length∧k≤10∧Do k x) ∧
   ∀ H1 x' m',Chg p0 H H1 id (A++(jS m' x'++B))→Do (k+1) x'→K (.tup []) H1
 |_,_,_=>False
def loV (n:Int):Nat:=(IntKind.u64.wrap n).toNat
theorem HU (n:Int):loV n<18446744073709551616:=by
 have:=(jR n).2
 have:=(jR n).1
 unfold loV;omega
theorem tG (n:Int):vc (loV n)=[.int .u64 0,.int .u64 (IntKind.u64.wrap n)]:=by
 have h1:=HU n
 have h2:=(jR n).1
 have h3:((loV n:Nat):Int)=IntKind.u64.wrap n:=by unfold loV;omega
 unfold vc
 rw [Nat.mod_eq_of_lt (show loV n<2^64 by omega),Nat.div_eq_of_lt (show loV n<2^64 by omega),h3];rfl
theorem GG:vc 0=[.int .u64 0,.int .u64 0]:=rfl
theorem jm (n:Int):jW (loV n):=by
 have:=HU n
 unfold jW;omega
theorem kv:jW 0:=by unfold jW;decide
theorem qB {k:Nat} {x:SState} {c:SCase} (h:Do k x) (hc:nK c):Do (k+1) { x with cases:=x.cases++[c] } :=
 ⟨by have:=h.1;simp;omega,fun d hd=>(List.mem_append.1 hd).elim (h.2 d) fun e=>by rw [List.mem_singleton.1 e];exact hc⟩
theorem gA {n sz:Nat} {α:Type} {f:α→AV} {m:Mark} {l:List α} (hm:∀ q,m=.own q→q<n) (hf:∀ x,AV.lt n (f x)):AV.lt n (.slice m sz (l.map f)):=by
 rw [fD]
 exact ⟨hm,ltL_iff.2 fun j hj=>by rw [List.getElem_map];exact hf _⟩
theorem eA {r n:Nat} (h:r<n):∀ q,Mark.own r=Mark.own q→q<n:=fun q e=>by cases e;exact h
theorem App.lt {n0:Nat} {H:AHeap} {m:Mark} {sz n:Nat} (h:App n0 H m sz n):∀ q,m=.own q→q<H.nx:=fun q hq=>by
 rcases h with ⟨h,_⟩|⟨p,h,_,hg⟩
 ·rw [h] at hq;cases hq
 ·rw [h] at hq;cases hq;exact glq hg
theorem fj:EntOk Tryz.prog 25 (Ent.some cD):=by
 refine EntOk.some fun args H K h=>?_
 unfold cD at h
 split at h
 rotate_left
 ·exact h.elim
 rename_i id off a n t
 obtain ⟨A,B,x,p0,⟨hg,rfl,hp0,ha,ht,hx⟩,hK⟩:=h
 have hg0:=hg
 simp only [tk,yal,yak] at hg
 have hl:=glq hg
 have hcs:=ag hg
 obtain ⟨w1,w2,w3⟩:=Aq ha
 generalize hd:a.tdiv 16=d at *
 have hm1:=Int.emod_nonneg d (show (3:Int)≠0 by decide)
 have hm2:=Int.emod_lt_of_pos d (show (0:Int)<3 by decide)
 refine ACallsP.of_aw (Ω:=[(16,Ent.pure bJ)]) (T:=aj []) ap (tCq fx tNq) Tryz.func25 (by kernel_rfl) (by rfl) (rs:=[]) (by rfl) (by kernel_rfl) (by simp only [Tryz.ntmps25,yaz,yba];decide) fun hcl hlt=>?_
 change aw _ _ _ (KI Tryz.prog [(16,Ent.pure bJ)] (gQ Tryz.prog [] H.nx _ (aj [])) []) _ _
 clear hlt
 simp only [go_sem,bJ,hd,w1]
 refine ⟨by decide,⟨by omega,by omega,by decide,by decide⟩,?_⟩
 rcases (by omega:d % 3=0∨d % 3=1∨d % 3=2) with c|c|c<;>rw [c]
 ·simp only [aE,ah,bhq,Nat.reduceMod,Nat.reduceDiv,au,aq,ay,aN,ax,aM,aJ,aK,aL,yaq,yar,yao,yap,go_sem,Int.reduceBEq,hg,hcs,bO,aU,bP,bo,splice,aP,yau,yav]
  have hC:=dW (M':=tk { x with id:=n }) hp0 hcl hg0 (by simp [tk,znu,znv,znf,znh])
  refine ⟨by simp only [lAq,yaz];omega,?_⟩
  exact ⟨_,_,hK _ { x with id:=n } hC hx,hC.nx,by simp [wk,wk2,wk1,ae],lRq _,hC.cl,by simp [zns,znv]⟩
 ·simp only [aE,ah,bhq,Nat.reduceMod,Nat.reduceDiv,au,aq,ay,aN,ax,aM,aJ,aK,aL,yaq,yar,yao,yap,go_sem,Int.reduceBEq,hg,hcs,bO,aU,bP,bo,splice,aP,yau,yav]
  have hC:=dW (M':=tk { x with bits:=n }) hp0 hcl hg0 (by simp [tk,znu,znv,znf,znh])
  refine ⟨by simp only [lAq,yaz];omega,?_⟩
  exact ⟨_,_,hK _ { x with bits:=n } hC hx,hC.nx,by simp [wk,wk2,wk1,ae],lRq _,hC.cl,by simp [zns,znv]⟩
 ·simp only [aE,ah,bhq,Nat.reduceMod,Nat.reduceDiv,au,aq,ay,aN,ax,aM,aJ,aK,aL,yaq,yar,yao,yap,go_sem,Int.reduceBEq,hg,hcs,bO,aU,bP,bo,splice,aP,yau,yav]
  have hC:=dW (M':=tk { x with name:=t }) hp0 hcl hg0 (by simp [tk,znu,znv,znf,znh])
  refine ⟨by simp only [lAq,yaz];omega,?_⟩
  exact ⟨_,_,hK _ { x with name:=t } hC ht,hC.nx,by simp [wk,wk2,wk1,ae],lRq _,hC.cl,by simp [zns,znv]⟩
theorem fq:EntOk Tryz.prog 26 (Ent.some cC):=by
 refine EntOk.some fun args H K h=>?_
 unfold cC at h
 split at h
 rotate_left
 ·exact h.elim
 rename_i id off a n
 obtain ⟨A,B,x,m,k,p0,⟨hg,rfl,hp0,ha,hA,hk,hx⟩,hK⟩:=h
 have hg0:=hg
 simp only [jS,yal,yak] at hg
 have hl:=glq hg
 have hcs:=ag hg
 obtain ⟨w1,w2,w3⟩:=Aq ha
 generalize hd:a.tdiv 16=d at *
 have hm1:=Int.emod_nonneg d (show (6:Int)≠0 by decide)
 have hm2:=Int.emod_lt_of_pos d (show (0:Int)<6 by decide)
 refine ACallsP.of_aw (Ω:=[(16,Ent.pure bJ)]) (T:=aj []) ap (tCq fx tNq) Tryz.func26 (by kernel_rfl) (by rfl) (rs:=[]) (by rfl) (by kernel_rfl) (by simp only [Tryz.ntmps26,yaz,yba];decide) fun hcl hlt=>?_
 change aw _ _ _ (KI Tryz.prog [(16,Ent.pure bJ)] (gQ Tryz.prog [] H.nx _ (aj [])) []) _ _
 clear hlt
 simp only [go_sem,bJ,hd,w1]
 refine ⟨by decide,⟨by omega,by omega,by decide,by decide⟩,?_⟩
 rcases (by omega:d % 6=0∨d % 6=1∨d % 6=2∨d % 6=3∨d % 6=4∨d % 6=5) with c|c|c|c|c|c<;>rw [c]
 ·simp only [aE,ah,bhq,Nat.reduceMod,Nat.reduceDiv,au,aq,ay,aN,ax,aM,aJ,aK,aL,yaq,yar,yao,yap,go_sem,Int.reduceBEq,hg,hcs,bO,aU,bP,bo,splice,aP,yau,yav]
  have hC:=dW (M':=jS m { x with id:=n }) hp0 hcl hg0 (by have:=hA.lt;simp only [jS,znu,znv,znf,and_true,true_and];exact gA this iF)
  refine ⟨by simp only [lAq,yaz];omega,?_⟩
  exact ⟨_,_,hK _ { x with id:=n } m hC ⟨Nat.le_succ_of_le hx.1,hx.2⟩,hC.nx,by simp [wk,wk2,wk1,ae],lRq _,hC.cl,by simp [zns,znv]⟩
 ·simp only [aE,ah,bhq,Nat.reduceMod,Nat.reduceDiv,au,aq,ay,aN,ax,aM,aJ,aK,aL,yaq,yar,yao,yap,go_sem,Int.reduceBEq,hg,hcs,bO,aU,bP,bo,splice,aP,yau,yav]
  have hC:=dW (M':=jS m { x with header:=n }) hp0 hcl hg0 (by have:=hA.lt;simp only [jS,znu,znv,znf,and_true,true_and];exact gA this iF)
  refine ⟨by simp only [lAq,yaz];omega,?_⟩
  exact ⟨_,_,hK _ { x with header:=n } m hC ⟨Nat.le_succ_of_le hx.1,hx.2⟩,hC.nx,by simp [wk,wk2,wk1,ae],lRq _,hC.cl,by simp [zns,znv]⟩
 ·simp only [aE,ah,bhq,Nat.reduceMod,Nat.reduceDiv,au,aq,ay,aN,ax,aM,aJ,aK,aL,yaq,yar,yao,yap,go_sem,Int.reduceBEq,hg,hcs,bO,aU,bP,bo,splice,aP,yau,yav]
  have hC:=dW (M':=jS m { x with select:=n }) hp0 hcl hg0 (by have:=hA.lt;simp only [jS,znu,znv,znf,and_true,true_and];exact gA this iF)
  refine ⟨by simp only [lAq,yaz];omega,?_⟩
  exact ⟨_,_,hK _ { x with select:=n } m hC ⟨Nat.le_succ_of_le hx.1,hx.2⟩,hC.nx,by simp [wk,wk2,wk1,ae],lRq _,hC.cl,by simp [zns,znv]⟩
 ·simp only [aE,ah,bhq,Nat.reduceMod,Nat.reduceDiv,au,aq,ay,aN,ax,aM,aJ,aK,aL,yaq,yar,yao,yap,go_sem,Int.reduceBEq,hg,hcs,bO,aU,bP,bo,splice,aP,yau,yav]
  have hC:=dW (M':=jS m { x with dflt:=n }) hp0 hcl hg0 (by have:=hA.lt;simp only [jS,znu,znv,znf,and_true,true_and];exact gA this iF)
  refine ⟨by simp only [lAq,yaz];omega,?_⟩
  exact ⟨_,_,hK _ { x with dflt:=n } m hC ⟨Nat.le_succ_of_le hx.1,hx.2⟩,hC.nx,by simp [wk,wk2,wk1,ae],lRq _,hC.cl,by simp [zns,znv]⟩
 ·have hsn:x.cases.map cI++[.agg [.int .u64 0,.int .u64 (IntKind.u64.wrap (bG .i64 n 255)),.int .u64 0,.int .u64 (IntKind.u64.wrap (bG .i64 (db .i64 n 8) 255)),.int .i64 0]]=(x.cases++[(⟨loV (bG .i64 n 255),loV (bG .i64 (db .i64 n 8) 255),0⟩:SCase)]).map cI:=by rw [List.map_append];simp [cI,tG,GG]
  have hx1:=hx.1
  rcases hA with ⟨rfl,h0⟩|⟨q,rfl,hp1,hq⟩
  ·skip
   have n0:(id=H.nx)=False:=eq_false (by omega)
   have n1:(id=H.nx+1)=False:=eq_false (by omega)
   have n2:(id=H.nx+1+1)=False:=eq_false (by omega)
   simp only [aE,ah,bhq,Nat.reduceMod,Nat.reduceDiv,au,aq,ay,aN,ax,aM,aJ,aK,aL,yaq,yar,yao,yap,go_sem,Int.reduceBEq,hg,hcs,bO,aU,bP,bo,splice,aP,yau,yav,List.isEmpty_cons,if_false,if_true,Bool.false_eq_true,n0,n1,n2,hsn]
   refine ⟨by simp only [lAq,yaz];omega,by decide,⟨by omega,by omega,fun z hz=>by rw [List.mem_singleton.1 hz];rfl⟩,by simp only [lAq,yaz];omega,?_⟩
   have hC:=fun a b c d=>gP (a:=a) (b:=b) (c:=c) (d:=d) (M':=jS (.own (H.nx+1)) { x with cases:=x.cases++[⟨loV (bG .i64 n 255),loV (bG .i64 (db .i64 n 8) 255),0⟩] }) hp0 hcl hg0 (by simp only [jS,znu,znv,znf,and_true,true_and];exact gA (eA (by omega)) iF)
   exact ⟨_,_,hK _ { x with cases:=x.cases++[⟨loV (bG .i64 n 255),loV (bG .i64 (db .i64 n 8) 255),0⟩] } (.own (H.nx+1)) (hC _ _ _ _) (qB hx ⟨jm _,jm _⟩),by simp only [zle,zlf];omega,by simp [wk,wk2,wk1,ae],lRq _,(hC _ _ _ _).cl,by simp [zns,znv]⟩
  ·skip
   have n0:(id=H.nx)=False:=eq_false (by omega)
   have n1:(id=H.nx+1)=False:=eq_false (by omega)
   have n2:(id=H.nx+1+1)=False:=eq_false (by omega)
   have hlq:=glq hq
   have hqi:id≠q:=fun e=>by rw [← e,hg] at hq;cases hq
   have nq:(q=id)=False:=eq_false (fun e=>hqi e.symm)
   have nq2:(id=q)=False:=eq_false hqi
   have q0:(q=H.nx)=False:=eq_false (by omega)
   have q1:(q=H.nx+1)=False:=eq_false (by omega)
   have hcq:=fun o=>ag ((AHeap.get_set_ne (H:=H) (i:=q) o hqi).trans hg)
   simp only [aE,ah,bhq,Nat.reduceMod,Nat.reduceDiv,au,aq,ay,aN,ax,aM,aJ,aK,aL,yaq,yar,yao,yap,go_sem,Int.reduceBEq,hg,hcs,bO,aU,bP,bo,splice,aP,yau,yav,List.isEmpty_cons,if_false,if_true,Bool.false_eq_true,n0,n1,n2,nq,nq2,q0,q1,hq,hcq,hsn]
   refine ⟨by simp only [lAq,yaz];omega,by decide,⟨by omega,by omega,fun z hz=>by rw [List.mem_singleton.1 hz];rfl⟩,by simp only [lAq,yaz];omega,?_⟩
   have hC:=fun a b c d=>jg (a:=a) (b:=b) (c:=c) (d:=d) (M':=jS (.own q) { x with cases:=x.cases++[⟨loV (bG .i64 n 255),loV (bG .i64 (db .i64 n 8) 255),0⟩] }) hp0 hp1 hcl hg0 hq (by simp only [jS,znu,znv,znf,and_true,true_and];exact gA (eA hlq) iF)
   exact ⟨_,_,hK _ { x with cases:=x.cases++[⟨loV (bG .i64 n 255),loV (bG .i64 (db .i64 n 8) 255),0⟩] } (.own q) (hC _ _ _ _) (qB hx ⟨jm _,jm _⟩),by simp only [zle,zlf];omega,by simp [wk,wk2,wk1,ae],lRq _,(hC _ _ _ _).cl,by simp [zns,znv]⟩
 ·have hsn:x.cases.map cI++[.agg [.int .u64 0,.int .u64 0,.int .u64 0,.int .u64 0,.int .i64 n]]=(x.cases++[(⟨0,0,n⟩:SCase)]).map cI:=by rw [List.map_append];simp [cI,tG,GG]
  have hx1:=hx.1
  rcases hA with ⟨rfl,h0⟩|⟨q,rfl,hp1,hq⟩
  ·skip
   have n0:(id=H.nx)=False:=eq_false (by omega)
   have n1:(id=H.nx+1)=False:=eq_false (by omega)
   have n2:(id=H.nx+1+1)=False:=eq_false (by omega)
   simp only [aE,ah,bhq,Nat.reduceMod,Nat.reduceDiv,au,aq,ay,aN,ax,aM,aJ,aK,aL,yaq,yar,yao,yap,go_sem,Int.reduceBEq,hg,hcs,bO,aU,bP,bo,splice,aP,yau,yav,List.isEmpty_cons,if_false,if_true,Bool.false_eq_true,n0,n1,n2,hsn]
   refine ⟨by simp only [lAq,yaz];omega,⟨by omega,by omega,fun z hz=>by rw [List.mem_singleton.1 hz];rfl⟩,by simp only [lAq,yaz];omega,?_⟩
   have hC:=fun a b c d=>gP (a:=a) (b:=b) (c:=c) (d:=d) (M':=jS (.own (H.nx+1)) { x with cases:=x.cases++[⟨0,0,n⟩] }) hp0 hcl hg0 (by simp only [jS,znu,znv,znf,and_true,true_and];exact gA (eA (by omega)) iF)
   exact ⟨_,_,hK _ { x with cases:=x.cases++[⟨0,0,n⟩] } (.own (H.nx+1)) (hC _ _ _ _) (qB hx ⟨kv,kv⟩),by simp only [zle,zlf];omega,by simp [wk,wk2,wk1,ae],lRq _,(hC _ _ _ _).cl,by simp [zns,znv]⟩
  ·skip
   have n0:(id=H.nx)=False:=eq_false (by omega)
   have n1:(id=H.nx+1)=False:=eq_false (by omega)
   have n2:(id=H.nx+1+1)=False:=eq_false (by omega)
   have hlq:=glq hq
   have hqi:id≠q:=fun e=>by rw [← e,hg] at hq;cases hq
   have nq:(q=id)=False:=eq_false (fun e=>hqi e.symm)
   have nq2:(id=q)=False:=eq_false hqi
   have q0:(q=H.nx)=False:=eq_false (by omega)
   have q1:(q=H.nx+1)=False:=eq_false (by omega)
   have hcq:=fun o=>ag ((AHeap.get_set_ne (H:=H) (i:=q) o hqi).trans hg)
   simp only [aE,ah,bhq,Nat.reduceMod,Nat.reduceDiv,au,aq,ay,aN,ax,aM,aJ,aK,aL,yaq,yar,yao,yap,go_sem,Int.reduceBEq,hg,hcs,bO,aU,bP,bo,splice,aP,yau,yav,List.isEmpty_cons,if_false,if_true,Bool.false_eq_true,n0,n1,n2,nq,nq2,q0,q1,hq,hcq,hsn]
   refine ⟨by simp only [lAq,yaz];omega,⟨by omega,by omega,fun z hz=>by rw [List.mem_singleton.1 hz];rfl⟩,by simp only [lAq,yaz];omega,?_⟩
   have hC:=fun a b c d=>jg (a:=a) (b:=b) (c:=c) (d:=d) (M':=jS (.own q) { x with cases:=x.cases++[⟨0,0,n⟩] }) hp0 hp1 hcl hg0 hq (by simp only [jS,znu,znv,znf,and_true,true_and];exact gA (eA hlq) iF)
   exact ⟨_,_,hK _ { x with cases:=x.cases++[⟨0,0,n⟩] } (.own q) (hC _ _ _ _) (qB hx ⟨kv,kv⟩),by simp only [zle,zlf];omega,by simp [wk,wk2,wk1,ae],lRq _,(hC _ _ _ _).cl,by simp [zns,znv]⟩
theorem App.lt2 {n0:Nat} {H:AHeap} {m:Mark} {sz n n':Nat} (h:App n0 H m sz n) (hn:H.nx≤n'):∀ q,m=.own q→q<n':=fun q hq=>Nat.lt_of_lt_of_le (h.lt q hq) hn
theorem uC {l:List Int} {n:Int}:inL l++[.int .i64 n]=inL (l++[n]):=by simp [inL]
theorem Aa {n:Nat} {m:Mark} {l:List Int} (hm:∀ q,m=.own q→q<n):AV.lt n (.slice m 1 (inL l)):=gA hm fun x=>by rw [znf];trivial
theorem okP {k:Nat} {x:SAction} {t:List UInt8} {n:Int} (h:u6 k x) (ht:t.length≤62):u6 (k+1) { x with params:=x.params++[⟨t,n⟩] }:=by
 obtain ⟨h1,h2,h3,h4,h5,h6⟩:=h
 exact ⟨h1,by simp;omega,fun p hp=>(List.mem_append.1 hp).elim (h3 p) fun e=>by rw [List.mem_singleton.1 e];exact ht,by dsimp only;omega,h5,h6⟩
theorem Cm {k:Nat} {x:SAction} {p:SPrim} (h:u6 k x) (hp:sw p):u6 (k+1) { x with body:=x.body++[p] }:=by
 obtain ⟨h1,h2,h3,h4,h5,h6⟩:=h
 exact ⟨h1,by dsimp only;omega,h3,by simp;omega,fun q hq=>(List.mem_append.1 hq).elim (h5 q) fun e=>by rw [List.mem_singleton.1 e];exact hp,h6⟩
theorem M1 {k:Nat} {x:SAction} (h:u6 k x):u6 (k+1) x:=by
 obtain ⟨h1,h2,h3,h4,h5,h6⟩:=h
 exact ⟨h1,by omega,h3,by omega,h5,h6⟩
theorem ltA {n:Nat} {m1 m2:Mark} {x:SAction} (h1:∀ q,m1=.own q→q<n) (h2:∀ q,m2=.own q→q<n):ltL n (lm m1 m2 x):=by
 simp only [lm,znu,znv,znf,znh,and_true,true_and]
 exact ⟨gA h1 lc,gA h2 qR⟩
def cr:List AV→AHeap→(AV→AHeap→Prop)→Prop
 |[.ptr id off,.int .i64 a,.int .i64 n,.str t],H,K=>∃ (A B:List AV) (x:SAction) (m1 m2:Mark) (k p0:Nat),(H.get id=some (.cells (A++(lm m1 m2 x++B)))∧off=A.length∧p0≤id∧oO a∧App p0 H m1 2 x.params.length∧App p0 H m2 6 x.body.length∧k≤10∧u6 k x∧t.length≤62) ∧
   ∀ H1 x' m1' m2',Chg p0 H H1 id (A++(lm m1' m2' x'++B))→u6 (k+1) x'→K (.tup []) H1
 |_,_,_=>False
theorem eO:EntOk Tryz.prog 27 (Ent.some cr):=by
 refine EntOk.some fun args H K h=>?_
 unfold cr at h
 split at h
 rotate_left
 ·exact h.elim
 rename_i id off a n t
 obtain ⟨A,B,x,m1,m2,k,p0,⟨hg,rfl,hp0,ha,hA,hA2,hk,hx,ht⟩,hK⟩:=h
 have hg0:=hg
 simp only [lm,yal,yak] at hg
 have hl:=glq hg
 have hcs:=ag hg
 obtain ⟨w1,w2,w3⟩:=Aq ha
 generalize hd:a.tdiv 16=d at *
 have hm1:=Int.emod_nonneg d (show (6:Int)≠0 by decide)
 have hm2:=Int.emod_lt_of_pos d (show (0:Int)<6 by decide)
 refine ACallsP.of_aw (Ω:=[(16,Ent.pure bJ)]) (T:=aj []) ap (tCq fx tNq) Tryz.func27 (by kernel_rfl) (by rfl) (rs:=[]) (by rfl) (by kernel_rfl) (by simp only [Tryz.ntmps27,yaz,yba];decide) fun hcl hlt=>?_
 change aw _ _ _ (KI Tryz.prog [(16,Ent.pure bJ)] (gQ Tryz.prog [] H.nx _ (aj [])) []) _ _
 clear hlt
 simp only [go_sem,bJ,hd,w1]
 refine ⟨by decide,⟨by omega,by omega,by decide,by decide⟩,?_⟩
 rcases (by omega:d % 6=0∨d % 6=1∨d % 6=2∨d % 6=3∨d % 6=4∨d % 6=5) with c|c|c|c|c|c<;>rw [c]
 ·simp only [aE,ah,bhq,Nat.reduceMod,Nat.reduceDiv,au,aq,ay,aN,ax,aM,aJ,aK,aL,yaq,yar,yao,yap,go_sem,Int.reduceBEq,hg,hcs,bO,aU,bP,bo,splice,aP,yau,yav]
  have hC:=dW (M':=lm m1 m2 { x with id:=n }) hp0 hcl hg0 (by exact ltA hA.lt hA2.lt)
  refine ⟨by simp only [lAq,yaz];omega,?_⟩
  exact ⟨_,_,hK _ { x with id:=n } m1 m2 hC (M1 hx),hC.nx,by simp [wk,wk2,wk1,ae],lRq _,hC.cl,by simp [zns,znv]⟩
 ·simp only [aE,ah,bhq,Nat.reduceMod,Nat.reduceDiv,au,aq,ay,aN,ax,aM,aJ,aK,aL,yaq,yar,yao,yap,go_sem,Int.reduceBEq,hg,hcs,bO,aU,bP,bo,splice,aP,yau,yav]
  have hC:=dW (M':=lm m1 m2 { x with name:=t }) hp0 hcl hg0 (by exact ltA hA.lt hA2.lt)
  refine ⟨by simp only [lAq,yaz];omega,?_⟩
  exact ⟨_,_,hK _ { x with name:=t } m1 m2 hC ⟨ht,(M1 hx).2⟩,hC.nx,by simp [wk,wk2,wk1,ae],lRq _,hC.cl,by simp [zns,znv]⟩
 ·have hsn:x.params.map bv++[.agg [.str t,.int .i64 n]]=(x.params++[(⟨t,n⟩:SParam)]).map bv:=by rw [List.map_append];simp [bv]
  have hx1:=hx.2.1
  rcases hA with ⟨rfl,h0⟩|⟨q,rfl,hp1,hq⟩
  ·skip
   have n0:(id=H.nx)=False:=eq_false (by omega)
   have n1:(id=H.nx+1)=False:=eq_false (by omega)
   have n2:(id=H.nx+1+1)=False:=eq_false (by omega)
   simp only [aE,ah,bhq,Nat.reduceMod,Nat.reduceDiv,au,aq,ay,aN,ax,aM,aJ,aK,aL,yaq,yar,yao,yap,go_sem,Int.reduceBEq,hg,hcs,bO,aU,bP,bo,splice,aP,yau,yav,List.isEmpty_cons,if_false,if_true,Bool.false_eq_true,n0,n1,n2,hsn]
   refine ⟨by simp only [lAq,yaz];omega,⟨by omega,by omega,fun z hz=>by rw [List.mem_singleton.1 hz];rfl⟩,by simp only [lAq,yaz];omega,?_⟩
   have hC:=fun a b c d=>gP (a:=a) (b:=b) (c:=c) (d:=d) (M':=lm (.own (H.nx+1)) m2 { x with params:=x.params++[⟨t,n⟩] }) hp0 hcl hg0 (by exact ltA (eA (by omega)) (hA2.lt2 (by omega)))
   exact ⟨_,_,hK _ { x with params:=x.params++[⟨t,n⟩] } (.own (H.nx+1)) m2 (hC _ _ _ _) (okP hx ht),by simp only [zle,zlf];omega,by simp [wk,wk2,wk1,ae],lRq _,(hC _ _ _ _).cl,by simp [zns,znv]⟩
  ·skip
   have n0:(id=H.nx)=False:=eq_false (by omega)
   have n1:(id=H.nx+1)=False:=eq_false (by omega)
   have n2:(id=H.nx+1+1)=False:=eq_false (by omega)
   have hlq:=glq hq
   have hqi:id≠q:=fun e=>by rw [← e,hg] at hq;cases hq
   have nq:(q=id)=False:=eq_false (fun e=>hqi e.symm)
   have nq2:(id=q)=False:=eq_false hqi
   have q0:(q=H.nx)=False:=eq_false (by omega)
   have q1:(q=H.nx+1)=False:=eq_false (by omega)
   have hcq:=fun o=>ag ((AHeap.get_set_ne (H:=H) (i:=q) o hqi).trans hg)
   simp only [aE,ah,bhq,Nat.reduceMod,Nat.reduceDiv,au,aq,ay,aN,ax,aM,aJ,aK,aL,yaq,yar,yao,yap,go_sem,Int.reduceBEq,hg,hcs,bO,aU,bP,bo,splice,aP,yau,yav,List.isEmpty_cons,if_false,if_true,Bool.false_eq_true,n0,n1,n2,nq,nq2,q0,q1,hq,hcq,hsn]
   refine ⟨by simp only [lAq,yaz];omega,⟨by omega,by omega,fun z hz=>by rw [List.mem_singleton.1 hz];rfl⟩,by simp only [lAq,yaz];omega,?_⟩
   have hC:=fun a b c d=>jg (a:=a) (b:=b) (c:=c) (d:=d) (M':=lm (.own q) m2 { x with params:=x.params++[⟨t,n⟩] }) hp0 hp1 hcl hg0 hq (by exact ltA (eA hlq) (hA2.lt2 (by omega)))
   exact ⟨_,_,hK _ { x with params:=x.params++[⟨t,n⟩] } (.own q) m2 (hC _ _ _ _) (okP hx ht),by simp only [zle,zlf];omega,by simp [wk,wk2,wk1,ae],lRq _,(hC _ _ _ _).cl,by simp [zns,znv]⟩
 ·have hsn:x.body.map bV++[.agg [.int .i64 (bG .i64 n 7),.int .i64 (bG .i64 (db .i64 n 3) 15),.int .i64 (bG .i64 (db .i64 n 7) 3),.int .i64 (bG .i64 (db .i64 n 9) 3),.int .u64 0,.int .u64 0]]=(x.body++[(⟨bG .i64 n 7,bG .i64 (db .i64 n 3) 15,bG .i64 (db .i64 n 7) 3,bG .i64 (db .i64 n 9) 3,0⟩:SPrim)]).map bV:=by rw [List.map_append];simp [bV,tG,GG]
  have hx1:=hx.2.2.2.1
  rcases hA2 with ⟨rfl,h0⟩|⟨q,rfl,hp1,hq⟩
  ·skip
   have n0:(id=H.nx)=False:=eq_false (by omega)
   have n1:(id=H.nx+1)=False:=eq_false (by omega)
   have n2:(id=H.nx+1+1)=False:=eq_false (by omega)
   simp only [aE,ah,bhq,Nat.reduceMod,Nat.reduceDiv,au,aq,ay,aN,ax,aM,aJ,aK,aL,yaq,yar,yao,yap,go_sem,Int.reduceBEq,hg,hcs,bO,aU,bP,bo,splice,aP,yau,yav,List.isEmpty_cons,if_false,if_true,Bool.false_eq_true,n0,n1,n2,hsn]
   refine ⟨by simp only [lAq,yaz];omega,by decide,by decide,by decide,⟨by omega,by omega,fun z hz=>by rw [List.mem_singleton.1 hz];rfl⟩,by simp only [lAq,yaz];omega,?_⟩
   have hC:=fun a b c d=>gP (a:=a) (b:=b) (c:=c) (d:=d) (M':=lm m1 (.own (H.nx+1)) { x with body:=x.body++[⟨bG .i64 n 7,bG .i64 (db .i64 n 3) 15,bG .i64 (db .i64 n 7) 3,bG .i64 (db .i64 n 9) 3,0⟩] }) hp0 hcl hg0 (by exact ltA (hA.lt2 (by omega)) (eA (by omega)))
   exact ⟨_,_,hK _ { x with body:=x.body++[⟨bG .i64 n 7,bG .i64 (db .i64 n 3) 15,bG .i64 (db .i64 n 7) 3,bG .i64 (db .i64 n 9) 3,0⟩] } m1 (.own (H.nx+1)) (hC _ _ _ _) (Cm hx kv),by simp only [zle,zlf];omega,by simp [wk,wk2,wk1,ae],lRq _,(hC _ _ _ _).cl,by simp [zns,znv]⟩
  ·skip
   have n0:(id=H.nx)=False:=eq_false (by omega)
   have n1:(id=H.nx+1)=False:=eq_false (by omega)
   have n2:(id=H.nx+1+1)=False:=eq_false (by omega)
   have hlq:=glq hq
   have hqi:id≠q:=fun e=>by rw [← e,hg] at hq;cases hq
   have nq:(q=id)=False:=eq_false (fun e=>hqi e.symm)
   have nq2:(id=q)=False:=eq_false hqi
   have q0:(q=H.nx)=False:=eq_false (by omega)
   have q1:(q=H.nx+1)=False:=eq_false (by omega)
   have hcq:=fun o=>ag ((AHeap.get_set_ne (H:=H) (i:=q) o hqi).trans hg)
   simp only [aE,ah,bhq,Nat.reduceMod,Nat.reduceDiv,au,aq,ay,aN,ax,aM,aJ,aK,aL,yaq,yar,yao,yap,go_sem,Int.reduceBEq,hg,hcs,bO,aU,bP,bo,splice,aP,yau,yav,List.isEmpty_cons,if_false,if_true,Bool.false_eq_true,n0,n1,n2,nq,nq2,q0,q1,hq,hcq,hsn]
   refine ⟨by simp only [lAq,yaz];omega,by decide,by decide,by decide,⟨by omega,by omega,fun z hz=>by rw [List.mem_singleton.1 hz];rfl⟩,by simp only [lAq,yaz];omega,?_⟩
   have hC:=fun a b c d=>jg (a:=a) (b:=b) (c:=c) (d:=d) (M':=lm m1 (.own q) { x with body:=x.body++[⟨bG .i64 n 7,bG .i64 (db .i64 n 3) 15,bG .i64 (db .i64 n 7) 3,bG .i64 (db .i64 n 9) 3,0⟩] }) hp0 hp1 hcl hg0 hq (by exact ltA (hA.lt2 (by omega)) (eA hlq))
   exact ⟨_,_,hK _ { x with body:=x.body++[⟨bG .i64 n 7,bG .i64 (db .i64 n 3) 15,bG .i64 (db .i64 n 7) 3,bG .i64 (db .i64 n 9) 3,0⟩] } m1 (.own q) (hC _ _ _ _) (Cm hx kv),by simp only [zle,zlf];omega,by simp [wk,wk2,wk1,ae],lRq _,(hC _ _ _ _).cl,by simp [zns,znv]⟩
 ·have hsn:x.body.map bV++[.agg [.int .i64 (IntKind.i64.wrap (1+bG .i64 n 3)),.int .i64 (IntKind.i64.wrap (3+bG .i64 (db .i64 n 2) 7)),.int .i64 1,.int .i64 0,.int .u64 0,.int .u64 (IntKind.u64.wrap (bG .i64 (db .i64 n 5) 65535))]]=(x.body++[(⟨IntKind.i64.wrap (1+bG .i64 n 3),IntKind.i64.wrap (3+bG .i64 (db .i64 n 2) 7),1,0,loV (bG .i64 (db .i64 n 5) 65535)⟩:SPrim)]).map bV:=by rw [List.map_append];simp [bV,tG,GG]
  have hx1:=hx.2.2.2.1
  rcases hA2 with ⟨rfl,h0⟩|⟨q,rfl,hp1,hq⟩
  ·skip
   have n0:(id=H.nx)=False:=eq_false (by omega)
   have n1:(id=H.nx+1)=False:=eq_false (by omega)
   have n2:(id=H.nx+1+1)=False:=eq_false (by omega)
   simp only [aE,ah,bhq,Nat.reduceMod,Nat.reduceDiv,au,aq,ay,aN,ax,aM,aJ,aK,aL,yaq,yar,yao,yap,go_sem,Int.reduceBEq,hg,hcs,bO,aU,bP,bo,splice,aP,yau,yav,List.isEmpty_cons,if_false,if_true,Bool.false_eq_true,n0,n1,n2,hsn]
   refine ⟨by simp only [lAq,yaz];omega,by decide,by decide,⟨by omega,by omega,fun z hz=>by rw [List.mem_singleton.1 hz];rfl⟩,by simp only [lAq,yaz];omega,?_⟩
   have hC:=fun a b c d=>gP (a:=a) (b:=b) (c:=c) (d:=d) (M':=lm m1 (.own (H.nx+1)) { x with body:=x.body++[⟨IntKind.i64.wrap (1+bG .i64 n 3),IntKind.i64.wrap (3+bG .i64 (db .i64 n 2) 7),1,0,loV (bG .i64 (db .i64 n 5) 65535)⟩] }) hp0 hcl hg0 (by exact ltA (hA.lt2 (by omega)) (eA (by omega)))
   exact ⟨_,_,hK _ { x with body:=x.body++[⟨IntKind.i64.wrap (1+bG .i64 n 3),IntKind.i64.wrap (3+bG .i64 (db .i64 n 2) 7),1,0,loV (bG .i64 (db .i64 n 5) 65535)⟩] } m1 (.own (H.nx+1)) (hC _ _ _ _) (Cm hx (jm _)),by simp only [zle,zlf];omega,by simp [wk,wk2,wk1,ae],lRq _,(hC _ _ _ _).cl,by simp [zns,znv]⟩
  ·skip
   have n0:(id=H.nx)=False:=eq_false (by omega)
   have n1:(id=H.nx+1)=False:=eq_false (by omega)
   have n2:(id=H.nx+1+1)=False:=eq_false (by omega)
   have hlq:=glq hq
   have hqi:id≠q:=fun e=>by rw [← e,hg] at hq;cases hq
   have nq:(q=id)=False:=eq_false (fun e=>hqi e.symm)
   have nq2:(id=q)=False:=eq_false hqi
   have q0:(q=H.nx)=False:=eq_false (by omega)
   have q1:(q=H.nx+1)=False:=eq_false (by omega)
   have hcq:=fun o=>ag ((AHeap.get_set_ne (H:=H) (i:=q) o hqi).trans hg)
   simp only [aE,ah,bhq,Nat.reduceMod,Nat.reduceDiv,au,aq,ay,aN,ax,aM,aJ,aK,aL,yaq,yar,yao,yap,go_sem,Int.reduceBEq,hg,hcs,bO,aU,bP,bo,splice,aP,yau,yav,List.isEmpty_cons,if_false,if_true,Bool.false_eq_true,n0,n1,n2,nq,nq2,q0,q1,hq,hcq,hsn]
   refine ⟨by simp only [lAq,yaz];omega,by decide,by decide,⟨by omega,by omega,fun z hz=>by rw [List.mem_singleton.1 hz];rfl⟩,by simp only [lAq,yaz];omega,?_⟩
   have hC:=fun a b c d=>jg (a:=a) (b:=b) (c:=c) (d:=d) (M':=lm m1 (.own q) { x with body:=x.body++[⟨IntKind.i64.wrap (1+bG .i64 n 3),IntKind.i64.wrap (3+bG .i64 (db .i64 n 2) 7),1,0,loV (bG .i64 (db .i64 n 5) 65535)⟩] }) hp0 hp1 hcl hg0 hq (by exact ltA (hA.lt2 (by omega)) (eA hlq))
   exact ⟨_,_,hK _ { x with body:=x.body++[⟨IntKind.i64.wrap (1+bG .i64 n 3),IntKind.i64.wrap (3+bG .i64 (db .i64 n 2) 7),1,0,loV (bG .i64 (db .i64 n 5) 65535)⟩] } m1 (.own q) (hC _ _ _ _) (Cm hx (jm _)),by simp only [zle,zlf];omega,by simp [wk,wk2,wk1,ae],lRq _,(hC _ _ _ _).cl,by simp [zns,znv]⟩
 ·have hsn:x.body.map bV++[.agg [.int .i64 7,.int .i64 0,.int .i64 2,.int .i64 (bG .i64 n 15),.int .u64 0,.int .u64 0]]=(x.body++[(⟨7,0,2,bG .i64 n 15,0⟩:SPrim)]).map bV:=by rw [List.map_append];simp [bV,tG,GG]
  have hx1:=hx.2.2.2.1
  rcases hA2 with ⟨rfl,h0⟩|⟨q,rfl,hp1,hq⟩
  ·skip
   have n0:(id=H.nx)=False:=eq_false (by omega)
   have n1:(id=H.nx+1)=False:=eq_false (by omega)
   have n2:(id=H.nx+1+1)=False:=eq_false (by omega)
   simp only [aE,ah,bhq,Nat.reduceMod,Nat.reduceDiv,au,aq,ay,aN,ax,aM,aJ,aK,aL,yaq,yar,yao,yap,go_sem,Int.reduceBEq,hg,hcs,bO,aU,bP,bo,splice,aP,yau,yav,List.isEmpty_cons,if_false,if_true,Bool.false_eq_true,n0,n1,n2,hsn]
   refine ⟨by simp only [lAq,yaz];omega,⟨by omega,by omega,fun z hz=>by rw [List.mem_singleton.1 hz];rfl⟩,by simp only [lAq,yaz];omega,?_⟩
   have hC:=fun a b c d=>gP (a:=a) (b:=b) (c:=c) (d:=d) (M':=lm m1 (.own (H.nx+1)) { x with body:=x.body++[⟨7,0,2,bG .i64 n 15,0⟩] }) hp0 hcl hg0 (by exact ltA (hA.lt2 (by omega)) (eA (by omega)))
   exact ⟨_,_,hK _ { x with body:=x.body++[⟨7,0,2,bG .i64 n 15,0⟩] } m1 (.own (H.nx+1)) (hC _ _ _ _) (Cm hx kv),by simp only [zle,zlf];omega,by simp [wk,wk2,wk1,ae],lRq _,(hC _ _ _ _).cl,by simp [zns,znv]⟩
  ·skip
   have n0:(id=H.nx)=False:=eq_false (by omega)
   have n1:(id=H.nx+1)=False:=eq_false (by omega)
   have n2:(id=H.nx+1+1)=False:=eq_false (by omega)
   have hlq:=glq hq
   have hqi:id≠q:=fun e=>by rw [← e,hg] at hq;cases hq
   have nq:(q=id)=False:=eq_false (fun e=>hqi e.symm)
   have nq2:(id=q)=False:=eq_false hqi
   have q0:(q=H.nx)=False:=eq_false (by omega)
   have q1:(q=H.nx+1)=False:=eq_false (by omega)
   have hcq:=fun o=>ag ((AHeap.get_set_ne (H:=H) (i:=q) o hqi).trans hg)
   simp only [aE,ah,bhq,Nat.reduceMod,Nat.reduceDiv,au,aq,ay,aN,ax,aM,aJ,aK,aL,yaq,yar,yao,yap,go_sem,Int.reduceBEq,hg,hcs,bO,aU,bP,bo,splice,aP,yau,yav,List.isEmpty_cons,if_false,if_true,Bool.false_eq_true,n0,n1,n2,nq,nq2,q0,q1,hq,hcq,hsn]
   refine ⟨by simp only [lAq,yaz];omega,⟨by omega,by omega,fun z hz=>by rw [List.mem_singleton.1 hz];rfl⟩,by simp only [lAq,yaz];omega,?_⟩
   have hC:=fun a b c d=>jg (a:=a) (b:=b) (c:=c) (d:=d) (M':=lm m1 (.own q) { x with body:=x.body++[⟨7,0,2,bG .i64 n 15,0⟩] }) hp0 hp1 hcl hg0 hq (by exact ltA (hA.lt2 (by omega)) (eA hlq))
   exact ⟨_,_,hK _ { x with body:=x.body++[⟨7,0,2,bG .i64 n 15,0⟩] } m1 (.own q) (hC _ _ _ _) (Cm hx kv),by simp only [zle,zlf];omega,by simp [wk,wk2,wk1,ae],lRq _,(hC _ _ _ _).cl,by simp [zns,znv]⟩
def j0 (m1 m2 m3:Mark) (x:STable):List AV:=[.int .i64 x.id,.str x.name,.slice m1 3 (x.keys.map bE),.slice m2 1 (inL x.actions),.int .i64 x.dflt,.slice m3 2 (x.dargs.map vv),.int .i64 x.size,.str x.restr]
theorem MX {n:Nat} (v:Nat):AV.lt n (vv v):=by simp only [vv,znr,vc,znu,znv,znf,and_true]
theorem ltT {n:Nat} {m1 m2 m3:Mark} {x:STable} (h1:∀ q,m1=.own q→q<n) (h2:∀ q,m2=.own q→q<n) (h3:∀ q,m3=.own q→q<n):ltL n (j0 m1 m2 m3 x):=by
 simp only [j0,znu,znv,znf,znh,and_true,true_and]
 exact ⟨gA h1 p8,Aa h2,gA h3 MX⟩
theorem Mb {n:Nat}:∀ q,Mark.any=.own q→q<n:=fun q e=>by cases e
theorem xS {k:Nat} {x:STable} (h:om k x):om (k+1) x:=by
 obtain ⟨h1,h2,h3,h4,h5,h6,h7⟩:=h
 exact ⟨h1,by omega,h3,by omega,by omega,h6,h7⟩
theorem NU {k:Nat} {x:STable} {c:SKey} (h:om k x) (hc:c.name.length≤62):om (k+1) { x with keys:=x.keys++[c] }:=by
 obtain ⟨h1,h2,h3,h4,h5,h6,h7⟩:=h
 exact ⟨h1,by simp;omega,fun p hp=>(List.mem_append.1 hp).elim (h3 p) fun e=>by rw [List.mem_singleton.1 e];exact hc,by dsimp only;omega,by dsimp only;omega,h6,h7⟩
theorem OL {k j:Nat} {x:STable} (h:om k x):om (k+1) { x with keys:=x.keys.take j }:=by
 obtain ⟨h1,h2,h3,h4,h5,h6,h7⟩:=h
 exact ⟨h1,by simp;omega,fun p hp=>h3 p (List.mem_of_mem_take hp),by dsimp only;omega,by dsimp only;omega,h6,h7⟩
theorem NQ {k:Nat} {x:STable} {n:Int} (h:om k x):om (k+1) { x with actions:=x.actions++[n] }:=by
 obtain ⟨h1,h2,h3,h4,h5,h6,h7⟩:=h
 exact ⟨h1,by dsimp only;omega,h3,by simp;omega,by dsimp only;omega,h6,h7⟩
theorem NF {k:Nat} {x:STable} {v:Nat} (h:om k x) (hv:jW v):om (k+1) { x with dargs:=x.dargs++[v] }:=by
 obtain ⟨h1,h2,h3,h4,h5,h6,h7⟩:=h
 exact ⟨h1,by dsimp only;omega,h3,by dsimp only;omega,by simp;omega,fun p hp=>(List.mem_append.1 hp).elim (h6 p) fun e=>by rw [List.mem_singleton.1 e];exact hv,h7⟩
theorem NZ (n:Int):vv (loV n)=.agg [.int .u64 0,.int .u64 (IntKind.u64.wrap n)]:=congrArg AV.agg (tG n)
theorem G9 {n0:Nat} {H:AHeap} {id:Nat} {cs:List AV} (h:H.Closed) (hg:H.get id=some (.cells cs)):Chg n0 H H id cs:=⟨hg,nrq _,h,fun _ _ _ hx=>hx,fun _ _ _ hx=>hx⟩
def cP:List AV→AHeap→(AV→AHeap→Prop)→Prop
 |[.ptr id off,.int .i64 a,.int .i64 n,.str t],H,K=>∃ (A B:List AV) (x:STable) (m1 m2 m3:Mark) (k p0:Nat),(H.get id=some (.cells (A++(j0 m1 m2 m3 x++B)))∧off=A.length∧p0≤id∧oO a∧App p0 H m1 3 x.keys.length∧App p0 H m2 1 x.actions.length∧App p0 H m3 2 x.dargs.length∧(a.tdiv 16 % 9=8→x.keys=[])∧k≤10∧om k x∧t.length≤62) ∧
   ∀ H1 x' m1' m2' m3',Chg p0 H H1 id (A++(j0 m1' m2' m3' x'++B))→om (k+1) x'→K (.tup []) H1
 |_,_,_=>False
theorem fQ:EntOk Tryz.prog 28 (Ent.some cP):=by
 refine EntOk.some fun args H K h=>?_
 unfold cP at h
 split at h
 rotate_left
 ·exact h.elim
 rename_i id off a n t
 obtain ⟨A,B,x,m1,m2,m3,k,p0,⟨hg,rfl,hp0,ha,hA,hA2,hA3,h8,hk,hx,ht⟩,hK⟩:=h
 have hg0:=hg
 simp only [j0,yal,yak] at hg
 have hl:=glq hg
 have hcs:=ag hg
 obtain ⟨w1,w2,w3⟩:=Aq ha
 generalize hd:a.tdiv 16=d at *
 have hm1:=Int.emod_nonneg d (show (9:Int)≠0 by decide)
 have hm2:=Int.emod_lt_of_pos d (show (0:Int)<9 by decide)
 refine ACallsP.of_aw (Ω:=[(16,Ent.pure bJ)]) (T:=aj [(10,[[],[],[],[],[],[],[],[],[],[],[],[],[],[],[],[4,8,12]])]) ap (tCq fx tNq) Tryz.func28 (by kernel_rfl) (by rfl) (rs:=[]) (by rfl) (by kernel_rfl) (by simp only [Tryz.ntmps28,yaz,yba];decide) fun hcl hlt=>?_
 change aw _ _ _ (KI Tryz.prog [(16,Ent.pure bJ)] (gQ Tryz.prog [] H.nx _ (aj [(10,[[],[],[],[],[],[],[],[],[],[],[],[],[],[],[],[4,8,12]])])) []) _ _
 clear hlt
 simp only [go_sem,bJ,hd,w1]
 refine ⟨by decide,⟨by omega,by omega,by decide,by decide⟩,?_⟩
 rcases (by omega:d % 9=0∨d % 9=1∨d % 9=2∨d % 9=3∨d % 9=4∨d % 9=5∨d % 9=6∨d % 9=7∨d % 9=8) with c|c|c|c|c|c|c|c|c<;>rw [c]
 ·simp only [aE,ah,bhq,Nat.reduceMod,Nat.reduceDiv,au,aq,ay,aN,ax,aM,aJ,aK,aL,yaq,yar,yao,yap,go_sem,Int.reduceBEq,hg,hcs,bO,aU,bP,bo,splice,aP,yau,yav]
  have hC:=dW (M':=j0 m1 m2 m3 { x with id:=n }) hp0 hcl hg0 (by exact ltT hA.lt hA2.lt hA3.lt)
  refine ⟨by simp only [lAq,yaz];omega,?_⟩
  exact ⟨_,_,hK _ { x with id:=n } m1 m2 m3 hC (xS hx),hC.nx,by simp [wk,wk2,wk1,ae],lRq _,hC.cl,by simp [zns,znv]⟩
 ·simp only [aE,ah,bhq,Nat.reduceMod,Nat.reduceDiv,au,aq,ay,aN,ax,aM,aJ,aK,aL,yaq,yar,yao,yap,go_sem,Int.reduceBEq,hg,hcs,bO,aU,bP,bo,splice,aP,yau,yav]
  have hC:=dW (M':=j0 m1 m2 m3 { x with name:=t }) hp0 hcl hg0 (by exact ltT hA.lt hA2.lt hA3.lt)
  refine ⟨by simp only [lAq,yaz];omega,?_⟩
  exact ⟨_,_,hK _ { x with name:=t } m1 m2 m3 hC ⟨ht,(xS hx).2⟩,hC.nx,by simp [wk,wk2,wk1,ae],lRq _,hC.cl,by simp [zns,znv]⟩
 ·have hsn:x.keys.map bE++[.agg [.str t,.int .i64 (IntKind.i64.wrap (1+bG .i64 n 15)),.int .i64 (bG .i64 (db .i64 n 4) 7)]]=(x.keys++[(⟨t,IntKind.i64.wrap (1+bG .i64 n 15),bG .i64 (db .i64 n 4) 7⟩:SKey)]).map bE:=by rw [List.map_append];simp [bE]
  have hx1:=hx.2.1
  rcases hA with ⟨rfl,h0⟩|⟨q,rfl,hp1,hq⟩
  ·skip
   have n0:(id=H.nx)=False:=eq_false (by omega)
   have n1:(id=H.nx+1)=False:=eq_false (by omega)
   have n2:(id=H.nx+1+1)=False:=eq_false (by omega)
   simp only [aE,ah,bhq,Nat.reduceMod,Nat.reduceDiv,au,aq,ay,aN,ax,aM,aJ,aK,aL,yaq,yar,yao,yap,go_sem,Int.reduceBEq,hg,hcs,bO,aU,bP,bo,splice,aP,yau,yav,List.isEmpty_cons,if_false,if_true,Bool.false_eq_true,n0,n1,n2,hsn]
   refine ⟨by simp only [lAq,yaz];omega,by decide,⟨by omega,by omega,fun z hz=>by rw [List.mem_singleton.1 hz];rfl⟩,by simp only [lAq,yaz];omega,?_⟩
   have hC:=fun a b c d=>gP (a:=a) (b:=b) (c:=c) (d:=d) (M':=j0 (.own (H.nx+1)) m2 m3 { x with keys:=x.keys++[⟨t,IntKind.i64.wrap (1+bG .i64 n 15),bG .i64 (db .i64 n 4) 7⟩] }) hp0 hcl hg0 (by exact ltT (eA (by omega)) (hA2.lt2 (by omega)) (hA3.lt2 (by omega)))
   exact ⟨_,_,hK _ { x with keys:=x.keys++[⟨t,IntKind.i64.wrap (1+bG .i64 n 15),bG .i64 (db .i64 n 4) 7⟩] } (.own (H.nx+1)) m2 m3 (hC _ _ _ _) (NU hx ht),by simp only [zle,zlf];omega,by simp [wk,wk2,wk1,ae],lRq _,(hC _ _ _ _).cl,by simp [zns,znv]⟩
  ·skip
   have n0:(id=H.nx)=False:=eq_false (by omega)
   have n1:(id=H.nx+1)=False:=eq_false (by omega)
   have n2:(id=H.nx+1+1)=False:=eq_false (by omega)
   have hlq:=glq hq
   have hqi:id≠q:=fun e=>by rw [← e,hg] at hq;cases hq
   have nq:(q=id)=False:=eq_false (fun e=>hqi e.symm)
   have nq2:(id=q)=False:=eq_false hqi
   have q0:(q=H.nx)=False:=eq_false (by omega)
   have q1:(q=H.nx+1)=False:=eq_false (by omega)
   have hcq:=fun o=>ag ((AHeap.get_set_ne (H:=H) (i:=q) o hqi).trans hg)
   simp only [aE,ah,bhq,Nat.reduceMod,Nat.reduceDiv,au,aq,ay,aN,ax,aM,aJ,aK,aL,yaq,yar,yao,yap,go_sem,Int.reduceBEq,hg,hcs,bO,aU,bP,bo,splice,aP,yau,yav,List.isEmpty_cons,if_false,if_true,Bool.false_eq_true,n0,n1,n2,nq,nq2,q0,q1,hq,hcq,hsn]
   refine ⟨by simp only [lAq,yaz];omega,by decide,⟨by omega,by omega,fun z hz=>by rw [List.mem_singleton.1 hz];rfl⟩,by simp only [lAq,yaz];omega,?_⟩
   have hC:=fun a b c d=>jg (a:=a) (b:=b) (c:=c) (d:=d) (M':=j0 (.own q) m2 m3 { x with keys:=x.keys++[⟨t,IntKind.i64.wrap (1+bG .i64 n 15),bG .i64 (db .i64 n 4) 7⟩] }) hp0 hp1 hcl hg0 hq (by exact ltT (eA hlq) (hA2.lt2 (by omega)) (hA3.lt2 (by omega)))
   exact ⟨_,_,hK _ { x with keys:=x.keys++[⟨t,IntKind.i64.wrap (1+bG .i64 n 15),bG .i64 (db .i64 n 4) 7⟩] } (.own q) m2 m3 (hC _ _ _ _) (NU hx ht),by simp only [zle,zlf];omega,by simp [wk,wk2,wk1,ae],lRq _,(hC _ _ _ _).cl,by simp [zns,znv]⟩
 ·have hx1:=hx.2.1
  have hw:IntKind.i64.wrap ((x.keys.length:Int) - 1)=(x.keys.length:Int) - 1:=by rw [wrap_i64]<;>omega
  obtain ⟨j,hj⟩:∃ j:Nat,max ((x.keys.length:Int) - 1) 0=(j:Int):=⟨(max ((x.keys.length:Int) - 1) 0).toNat,by omega⟩
  simp only [aE,ah,bhq,Nat.reduceMod,Nat.reduceDiv,au,aq,ay,aN,ax,aM,aJ,aK,aL,yaq,yar,yao,yap,go_sem,Int.reduceBEq,hg,hcs,bO,aU,bP,bo,splice,aP,yau,yav]
  simp only [hw,hj,iNq,yap,← List.map_take]
  have hC:=dW (M':=j0 .any m2 m3 { x with keys:=x.keys.take j }) hp0 hcl hg0 (by exact ltT Mb hA2.lt hA3.lt)
  refine ⟨by simp only [lAq,yaz];omega,by simp only [lAq,yaz];omega,⟨by omega,by omega,by omega⟩,by simp only [lAq,yaz];omega,?_⟩
  exact ⟨_,_,hK _ { x with keys:=x.keys.take j } .any m2 m3 hC (OL hx),hC.nx,by simp [wk,wk2,wk1,ae],lRq _,hC.cl,by simp [zns,znv]⟩
 ·have hsn:inL x.actions++[.int .i64 n]=inL (x.actions++[n]):=by exact uC
  have hx1:=hx.2.2.2.1
  have hil:(inL x.actions).length=x.actions.length:=by simp [inL]
  rcases hA2 with ⟨rfl,h0⟩|⟨q,rfl,hp1,hq⟩
  ·skip
   have n0:(id=H.nx)=False:=eq_false (by omega)
   have n1:(id=H.nx+1)=False:=eq_false (by omega)
   have n2:(id=H.nx+1+1)=False:=eq_false (by omega)
   simp only [aE,ah,bhq,Nat.reduceMod,Nat.reduceDiv,au,aq,ay,aN,ax,aM,aJ,aK,aL,yaq,yar,yao,yap,go_sem,Int.reduceBEq,hg,hcs,bO,aU,bP,bo,splice,aP,yau,yav,List.isEmpty_cons,if_false,if_true,Bool.false_eq_true,n0,n1,n2,hsn,hil]
   refine ⟨by simp only [lAq,yaz];omega,⟨by omega,by omega,fun z hz=>by rw [List.mem_singleton.1 hz];rfl⟩,by simp only [lAq,yaz];omega,?_⟩
   have hC:=fun a b c d=>gP (a:=a) (b:=b) (c:=c) (d:=d) (M':=j0 m1 (.own (H.nx+1)) m3 { x with actions:=x.actions++[n] }) hp0 hcl hg0 (by exact ltT (hA.lt2 (by omega)) (eA (by omega)) (hA3.lt2 (by omega)))
   exact ⟨_,_,hK _ { x with actions:=x.actions++[n] } m1 (.own (H.nx+1)) m3 (hC _ _ _ _) (NQ hx),by simp only [zle,zlf];omega,by simp [wk,wk2,wk1,ae],lRq _,(hC _ _ _ _).cl,by simp [zns,znv]⟩
  ·skip
   have n0:(id=H.nx)=False:=eq_false (by omega)
   have n1:(id=H.nx+1)=False:=eq_false (by omega)
   have n2:(id=H.nx+1+1)=False:=eq_false (by omega)
   have hlq:=glq hq
   have hqi:id≠q:=fun e=>by rw [← e,hg] at hq;cases hq
   have nq:(q=id)=False:=eq_false (fun e=>hqi e.symm)
   have nq2:(id=q)=False:=eq_false hqi
   have q0:(q=H.nx)=False:=eq_false (by omega)
   have q1:(q=H.nx+1)=False:=eq_false (by omega)
   have hcq:=fun o=>ag ((AHeap.get_set_ne (H:=H) (i:=q) o hqi).trans hg)
   simp only [aE,ah,bhq,Nat.reduceMod,Nat.reduceDiv,au,aq,ay,aN,ax,aM,aJ,aK,aL,yaq,yar,yao,yap,go_sem,Int.reduceBEq,hg,hcs,bO,aU,bP,bo,splice,aP,yau,yav,List.isEmpty_cons,if_false,if_true,Bool.false_eq_true,n0,n1,n2,nq,nq2,q0,q1,hq,hcq,hsn,hil]
   refine ⟨by simp only [lAq,yaz];omega,⟨by omega,by omega,fun z hz=>by rw [List.mem_singleton.1 hz];rfl⟩,by simp only [lAq,yaz];omega,?_⟩
   have hC:=fun a b c d=>jg (a:=a) (b:=b) (c:=c) (d:=d) (M':=j0 m1 (.own q) m3 { x with actions:=x.actions++[n] }) hp0 hp1 hcl hg0 hq (by exact ltT (hA.lt2 (by omega)) (eA hlq) (hA3.lt2 (by omega)))
   exact ⟨_,_,hK _ { x with actions:=x.actions++[n] } m1 (.own q) m3 (hC _ _ _ _) (NQ hx),by simp only [zle,zlf];omega,by simp [wk,wk2,wk1,ae],lRq _,(hC _ _ _ _).cl,by simp [zns,znv]⟩
 ·simp only [aE,ah,bhq,Nat.reduceMod,Nat.reduceDiv,au,aq,ay,aN,ax,aM,aJ,aK,aL,yaq,yar,yao,yap,go_sem,Int.reduceBEq,hg,hcs,bO,aU,bP,bo,splice,aP,yau,yav]
  have hC:=dW (M':=j0 m1 m2 m3 { x with dflt:=n }) hp0 hcl hg0 (by exact ltT hA.lt hA2.lt hA3.lt)
  refine ⟨by simp only [lAq,yaz];omega,?_⟩
  exact ⟨_,_,hK _ { x with dflt:=n } m1 m2 m3 hC (xS hx),hC.nx,by simp [wk,wk2,wk1,ae],lRq _,hC.cl,by simp [zns,znv]⟩
 ·have hsn:x.dargs.map vv++[.agg [.int .u64 0,.int .u64 (IntKind.u64.wrap n)]]=(x.dargs++[loV n]).map vv:=by rw [List.map_append];simp [NZ]
  have hx1:=hx.2.2.2.2.1
  rcases hA3 with ⟨rfl,h0⟩|⟨q,rfl,hp1,hq⟩
  ·skip
   have n0:(id=H.nx)=False:=eq_false (by omega)
   have n1:(id=H.nx+1)=False:=eq_false (by omega)
   have n2:(id=H.nx+1+1)=False:=eq_false (by omega)
   simp only [aE,ah,bhq,Nat.reduceMod,Nat.reduceDiv,au,aq,ay,aN,ax,aM,aJ,aK,aL,yaq,yar,yao,yap,go_sem,Int.reduceBEq,hg,hcs,bO,aU,bP,bo,splice,aP,yau,yav,List.isEmpty_cons,if_false,if_true,Bool.false_eq_true,n0,n1,n2,hsn]
   refine ⟨by simp only [lAq,yaz];omega,⟨by omega,by omega,fun z hz=>by rw [List.mem_singleton.1 hz];rfl⟩,by simp only [lAq,yaz];omega,?_⟩
   have hC:=fun a b c d=>gP (a:=a) (b:=b) (c:=c) (d:=d) (M':=j0 m1 m2 (.own (H.nx+1)) { x with dargs:=x.dargs++[loV n] }) hp0 hcl hg0 (by exact ltT (hA.lt2 (by omega)) (hA2.lt2 (by omega)) (eA (by omega)))
   exact ⟨_,_,hK _ { x with dargs:=x.dargs++[loV n] } m1 m2 (.own (H.nx+1)) (hC _ _ _ _) (NF hx (jm _)),by simp only [zle,zlf];omega,by simp [wk,wk2,wk1,ae],lRq _,(hC _ _ _ _).cl,by simp [zns,znv]⟩
  ·skip
   have n0:(id=H.nx)=False:=eq_false (by omega)
   have n1:(id=H.nx+1)=False:=eq_false (by omega)
   have n2:(id=H.nx+1+1)=False:=eq_false (by omega)
   have hlq:=glq hq
   have hqi:id≠q:=fun e=>by rw [← e,hg] at hq;cases hq
   have nq:(q=id)=False:=eq_false (fun e=>hqi e.symm)
   have nq2:(id=q)=False:=eq_false hqi
   have q0:(q=H.nx)=False:=eq_false (by omega)
   have q1:(q=H.nx+1)=False:=eq_false (by omega)
   have hcq:=fun o=>ag ((AHeap.get_set_ne (H:=H) (i:=q) o hqi).trans hg)
   simp only [aE,ah,bhq,Nat.reduceMod,Nat.reduceDiv,au,aq,ay,aN,ax,aM,aJ,aK,aL,yaq,yar,yao,yap,go_sem,Int.reduceBEq,hg,hcs,bO,aU,bP,bo,splice,aP,yau,yav,List.isEmpty_cons,if_false,if_true,Bool.false_eq_true,n0,n1,n2,nq,nq2,q0,q1,hq,hcq,hsn]
   refine ⟨by simp only [lAq,yaz];omega,⟨by omega,by omega,fun z hz=>by rw [List.mem_singleton.1 hz];rfl⟩,by simp only [lAq,yaz];omega,?_⟩
   have hC:=fun a b c d=>jg (a:=a) (b:=b) (c:=c) (d:=d) (M':=j0 m1 m2 (.own q) { x with dargs:=x.dargs++[loV n] }) hp0 hp1 hcl hg0 hq (by exact ltT (hA.lt2 (by omega)) (hA2.lt2 (by omega)) (eA hlq))
   exact ⟨_,_,hK _ { x with dargs:=x.dargs++[loV n] } m1 m2 (.own q) (hC _ _ _ _) (NF hx (jm _)),by simp only [zle,zlf];omega,by simp [wk,wk2,wk1,ae],lRq _,(hC _ _ _ _).cl,by simp [zns,znv]⟩
 ·simp only [aE,ah,bhq,Nat.reduceMod,Nat.reduceDiv,au,aq,ay,aN,ax,aM,aJ,aK,aL,yaq,yar,yao,yap,go_sem,Int.reduceBEq,hg,hcs,bO,aU,bP,bo,splice,aP,yau,yav]
  have hC:=dW (M':=j0 m1 m2 m3 { x with size:=n }) hp0 hcl hg0 (by exact ltT hA.lt hA2.lt hA3.lt)
  refine ⟨by simp only [lAq,yaz];omega,?_⟩
  exact ⟨_,_,hK _ { x with size:=n } m1 m2 m3 hC (xS hx),hC.nx,by simp [wk,wk2,wk1,ae],lRq _,hC.cl,by simp [zns,znv]⟩
 ·have hke:=h8 c
  rw [hke] at hg hcs
  have d0:decide (((0:Nat):Int) > 0)=false:=rfl
  simp only [aE,ah,bhq,Nat.reduceMod,Nat.reduceDiv,au,aq,ay,aN,ax,aM,aJ,aK,aL,yaq,yar,yao,yap,go_sem,Int.reduceBEq,hg,hcs,bO,aU,bP,bo,splice,aP,yau,yav,d0]
  refine ⟨by simp only [lAq,yaz];omega,?_⟩
  have hC:=G9 (n0:=p0) hcl hg0
  exact ⟨_,_,hK _ x m1 m2 m3 hC (xS hx),hC.nx,by simp [wk,wk2,wk1,ae],lRq _,hC.cl,by simp [zns,znv]⟩
def ML (kid len:Nat) (m2 m3:Mark) (x:STable):List AV:=[.int .i64 x.id,.str x.name,.ms kid 0 3 len,.slice m2 1 (inL x.actions),.int .i64 x.dflt,.slice m3 2 (x.dargs.map vv),.int .i64 x.size,.str x.restr]
def lQ:List AV→AHeap→(AEnd→AHeap→Prop)→Prop
 |[.ptr id off,.int .i64 a,.int .i64 n,.str t],H,K=>∃ (A B C:List AV) (x:STable) (m2 m3:Mark) (kid len:Nat) (k0:SKey),(H.get id=some (.cells (A++(ML kid (len+1) m2 m3 x++B)))∧off=A.length∧oO a∧a.tdiv 16 % 9=8∧kid≠id∧len≤1000∧H.get kid=some (.cells (.str k0.name::.int .i64 k0.field::.int .i64 k0.kind::C))) ∧
   K (.ret (.tup [])) (H.set kid (.cells (.str k0.name::.int .i64 k0.field::.int .i64 n::C)))
 |_,_,_=>False
theorem wX:EntOk Tryz.prog 28 (Ent.effect lQ):=by
 refine EntOk.effect fun args H K h=>?_
 unfold lQ at h
 split at h
 rotate_left
 ·exact h.elim
 rename_i id off a n t
 obtain ⟨A,B,C,x,m2,m3,kid,len,k0,⟨hg,rfl,ha,h8,hne,hln,hk⟩,hK⟩:=h
 refine ⟨_,_,hK,?_⟩
 clear hK
 simp only [ML,yal,yak] at hg
 have hl:=glq hg
 have hlk:=glq hk
 have hcs:=ag hg
 have hck:=ag hk
 obtain ⟨w1,w2,w3⟩:=Aq ha
 generalize hd:a.tdiv 16=d at *
 refine ACalls.fW ap (tCq fx tNq) Tryz.func28 [] (nrq _) (T:=aj [(10,[[],[],[],[],[],[],[],[],[],[],[],[],[],[],[],[4,8,12]])]) (h:=fun hcl hlt=>?_)
 clear hlt
 simp only [go_sem,bJ,hd,w1]
 refine ⟨by decide,⟨by omega,by omega,by decide,by decide⟩,?_⟩
 rw [h8]
 have d0:decide (((len+1:Nat):Int) > 0)=true:=dtq (by omega)
 have hlC:∀ z∈C,AV.lt H.nx z:=fun z hz=>by
  obtain ⟨i,hi,rfl⟩:=List.getElem_of_mem hz
  have:=hcl kid _ hk (i+3) (by simp only [yaz];omega)
  simpa using this
 have hc2:(H.set kid (.cells (.str k0.name::.int .i64 k0.field::.int .i64 n::C))).Closed:=ba hcl (by
  simp only [znu,znh,znf,true_and]
  exact ltL_iff.2 fun j hj=>hlC _ (gMq hj))
 simp only [aE,ah,bhq,Nat.reduceMod,Nat.reduceDiv,au,aq,ay,aN,ax,aM,aJ,aK,aL,yaq,yar,yao,yap,go_sem,Int.reduceBEq,hg,hcs,bO,aU,bP,bo,splice,aP,yau,yav,d0,hk,hck]
 exact ⟨by simp only [lAq,yaz];omega,by simp only [lAq,yaz];omega,⟨by decide,by omega⟩,by simp [wk,wk2,wk1,ae],lRq _,hc2,by simp [zns,znv]⟩
def nl (m1 m2:Mark) (x:SRole):List AV:=[.int .i64 x.id,.str x.name,.slice m1 4 (x.grants.map bj),.slice m2 1 (inL x.actions),.int .i64 x.quota,.bool x.audit]
theorem ltR {n:Nat} {m1 m2:Mark} {x:SRole} (h1:∀ q,m1=.own q→q<n) (h2:∀ q,m2=.own q→q<n):ltL n (nl m1 m2 x):=by
 simp only [nl,znu,znv,znf,znh,zng,and_true,true_and]
 exact ⟨gA h1 j3,Aa h2⟩
theorem IA {k:Nat} {x:SRole} (h:u0 k x):u0 (k+1) x:=by
 obtain ⟨h1,h2,h3,h4⟩:=h
 exact ⟨h1,by omega,h3,by omega⟩
theorem Of {k:Nat} {x:SRole} {g:SGrant} (h:u0 k x) (hg:g.keys.length≤4):u0 (k+1) { x with grants:=x.grants++[g] }:=by
 obtain ⟨h1,h2,h3,h4⟩:=h
 exact ⟨h1,by simp;omega,fun p hp=>(List.mem_append.1 hp).elim (h3 p) fun e=>by rw [List.mem_singleton.1 e];exact hg,by dsimp only;omega⟩
theorem NG {k:Nat} {x:SRole} {n:Int} (h:u0 k x):u0 (k+1) { x with actions:=x.actions++[n] }:=by
 obtain ⟨h1,h2,h3,h4⟩:=h
 exact ⟨h1,by dsimp only;omega,h3,by simp;omega⟩
theorem M0 (a:Int):0≤bG .i64 a 3∧bG .i64 a 3≤3:=by
 have h:(BitVec.ofInt 64 a &&& BitVec.ofInt 64 3).toNat≤3:=by
  rw [BitVec.toNat_and]
  exact Nat.and_le_right
 show 0≤IntKind.i64.wrap ((BitVec.ofInt 64 a &&& BitVec.ofInt 64 3).toNat:Int)∧IntKind.i64.wrap ((BitVec.ofInt 64 a &&& BitVec.ofInt 64 3).toNat:Int)≤3
 generalize (BitVec.ofInt 64 a &&& BitVec.ofInt 64 3).toNat=z at h
 rw [wrap_i64]<;>omega
theorem DN (j:Nat):bH 1 j (List.replicate j [AV.bool false]).flatten=boL (List.replicate j false):=by
 have h1:(List.replicate j [AV.bool false]).flatten=boL (List.replicate j false):=by simp [boL]
 rw [h1]
 have:=ln (List.replicate j false)
 rwa [List.length_replicate] at this
theorem BK {n0:Nat} {H:AHeap} {id a b:Nat} {A M B M':List AV} (hn0:n0≤id) (h:H.Closed) (hg:H.get id=some (.cells (A++(M++B)))) (hm:ltL (H.nx+1) M'):Chg n0 H ((H.set id (.cells (A++(M'++B)))).push (.buf a b)) id (A++(M'++B)):=by
 have hl:=glq hg
 have nn0:(id=H.nx)=False:=eq_false (by omega)
 have e1:(H.push (.buf a b)).get id=H.get id:=by rw [gPq _ _ hl]
 have h1:=dW (H:=H.push (.buf a b)) (M':=M') hn0 (aY h) (e1.trans hg) hm
 simp only [go_sem,nn0] at h1
 exact ⟨h1.get,by simp only [zle,zlf];omega,h1.cl,fun j x hj hx=>h1.keep j x hj (by
  rw [gPq _ _ (glq hx)];exact hx),fun j x hj hx=>h1.old j x hj (by
  rw [gPq _ _ (glq hx)];exact hx)⟩
theorem EQ {n0:Nat} {H:AHeap} {id q a b:Nat} {x y:Nat} {A M B M':List AV} (hn0:n0≤id) (hn1:n0≤q) (h:H.Closed) (hg:H.get id=some (.cells (A++(M++B)))) (hq:H.get q=some (.buf x y)) (hm:ltL H.nx M'):Chg n0 H ((H.set q (.buf a b)).set id (.cells (A++(M'++B)))) id (A++(M'++B)):=by
 have hne:id≠q:=fun e=>by rw [← e,hg] at hq;cases hq
 have h1:=dW (H:=H.set q (.buf a b)) (M':=M') hn0 (qq h) (by rw [AHeap.get_set_ne _ _ hne];exact hg) hm
 refine ⟨h1.get,by simp only [zlf];omega,h1.cl,fun j c hj hx=>h1.keep j c hj ?_,fun j o hj hx=>h1.old j o hj ?_⟩
 ·rw [AHeap.get_set_ne _ _ (fun e=>by rw [e,hq] at hx;cases hx)]
  exact hx
 ·rw [AHeap.get_set_ne _ _ (by omega)]
  exact hx
def cX:List AV→AHeap→(AV→AHeap→Prop)→Prop
 |[.ptr id off,.int .i64 a,.int .i64 n,.str t],H,K=>∃ (A B:List AV) (x:SRole) (m1 m2:Mark) (k p0:Nat),(H.get id=some (.cells (A++(nl m1 m2 x++B)))∧off=A.length∧p0≤id∧oO a∧App p0 H m1 4 x.grants.length∧App p0 H m2 1 x.actions.length∧k≤10∧u0 k x∧t.length≤62) ∧
   ∀ H1 x' m1' m2',Chg p0 H H1 id (A++(nl m1' m2' x'++B))→u0 (k+1) x'→K (.tup []) H1
 |_,_,_=>False
theorem gk:EntOk Tryz.prog 29 (Ent.some cX):=by
 refine EntOk.some fun args H K h=>?_
 unfold cX at h
 split at h
 rotate_left
 ·exact h.elim
 rename_i id off a n t
 obtain ⟨A,B,x,m1,m2,k,p0,⟨hg,rfl,hp0,ha,hA,hA2,hk,hx,ht⟩,hK⟩:=h
 have hg0:=hg
 simp only [nl,yal,yak] at hg
 have hl:=glq hg
 have hcs:=ag hg
 obtain ⟨w1,w2,w3⟩:=Aq ha
 generalize hd:a.tdiv 16=d at *
 have hm1:=Int.emod_nonneg d (show (5:Int)≠0 by decide)
 have hm2:=Int.emod_lt_of_pos d (show (0:Int)<5 by decide)
 refine ACallsP.of_aw (Ω:=[(16,Ent.pure bJ)]) (T:=aj [(7,[[],[],[],[],[],[],[],[],[],[],[],[],[],[4],[],[],[4]]),(807,[[100010],[100012]])]) ap (tCq fx tNq) Tryz.func29 (by kernel_rfl) (by rfl) (rs:=[]) (by rfl) (by kernel_rfl) (by simp only [Tryz.ntmps29,yaz,yba];decide) fun hcl hlt=>?_
 change aw _ _ _ (KI Tryz.prog [(16,Ent.pure bJ)] (gQ Tryz.prog [] H.nx _ (aj [(7,[[],[],[],[],[],[],[],[],[],[],[],[],[],[4],[],[],[4]]),(807,[[100010],[100012]])])) []) _ _
 clear hlt
 simp only [go_sem,bJ,hd,w1]
 refine ⟨by decide,⟨by omega,by omega,by decide,by decide⟩,?_⟩
 rcases (by omega:d % 5=0∨d % 5=1∨d % 5=2∨d % 5=3∨d % 5=4) with c|c|c|c|c<;>rw [c]
 ·simp only [aE,ah,bhq,Nat.reduceMod,Nat.reduceDiv,au,aq,ay,aN,ax,aM,aJ,aK,aL,yaq,yar,yao,yap,go_sem,Int.reduceBEq,hg,hcs,bO,aU,bP,bo,splice,aP,yau,yav]
  have hC:=dW (M':=nl m1 m2 { x with id:=n }) hp0 hcl hg0 (by exact ltR hA.lt hA2.lt)
  refine ⟨by simp only [lAq,yaz];omega,?_⟩
  exact ⟨_,_,hK _ { x with id:=n } m1 m2 hC (IA hx),hC.nx,by simp [wk,wk2,wk1,ae],lRq _,hC.cl,by simp [zns,znv]⟩
 ·simp only [aE,ah,bhq,Nat.reduceMod,Nat.reduceDiv,au,aq,ay,aN,ax,aM,aJ,aK,aL,yaq,yar,yao,yap,go_sem,Int.reduceBEq,hg,hcs,bO,aU,bP,bo,splice,aP,yau,yav]
  have hC:=dW (M':=nl m1 m2 { x with name:=t }) hp0 hcl hg0 (by exact ltR hA.lt hA2.lt)
  refine ⟨by simp only [lAq,yaz];omega,?_⟩
  exact ⟨_,_,hK _ { x with name:=t } m1 m2 hC ⟨ht,(IA hx).2⟩,hC.nx,by simp [wk,wk2,wk1,ae],lRq _,hC.cl,by simp [zns,znv]⟩
 ·have hx1:=hx.2.1
  obtain ⟨i1,i2⟩:=M0 (db .i64 n 3)
  obtain ⟨j,hj⟩:∃ j:Nat,bG .i64 (db .i64 n 3) 3=(j:Int):=⟨(bG .i64 (db .i64 n 3) 3).toNat,by omega⟩
  have hsn:x.grants.map bj++[.agg [.int .i64 (bG .i64 n 7),.bool false,.bool false,.slice .any 1 (boL (List.replicate j false))]]=(x.grants++[(⟨bG .i64 n 7,false,false,List.replicate j false⟩:SGrant)]).map bj:=by rw [List.map_append];simp [bj]
  have hrr:=DN j
  rcases hA with ⟨rfl,h0⟩|⟨q,rfl,hp1,hq⟩
  ·skip
   have n0:(id=H.nx)=False:=eq_false (by omega)
   have n1:(id=H.nx+1)=False:=eq_false (by omega)
   have n2:(id=H.nx+1+1)=False:=eq_false (by omega)
   simp only [aE,ah,bhq,Nat.reduceMod,Nat.reduceDiv,au,aq,ay,aN,ax,aM,aJ,aK,aL,yaq,yar,yao,yap,go_sem,Int.reduceBEq,hg,hcs,bO,aU,bP,bo,splice,aP,yau,yav,List.isEmpty_cons,if_false,if_true,Bool.false_eq_true,n0,n1,n2,hj,iNq,hrr,hsn]
   refine ⟨by simp only [lAq,yaz];omega,by decide,⟨by omega,by omega,by omega⟩,⟨by omega,by omega,fun z hz=>by rw [List.mem_singleton.1 hz];rfl⟩,by simp only [lAq,yaz];omega,?_⟩
   have hC:=fun a b=>BK (a:=a) (b:=b) (M':=nl (.own H.nx) m2 { x with grants:=x.grants++[⟨bG .i64 n 7,false,false,List.replicate j false⟩] }) hp0 hcl hg0 (by exact ltR (eA (by omega)) (hA2.lt2 (by omega)))
   exact ⟨_,_,hK _ { x with grants:=x.grants++[⟨bG .i64 n 7,false,false,List.replicate j false⟩] } (.own H.nx) m2 (hC _ _) (Of hx (by simp;omega)),by simp only [zle,zlf];omega,by simp [wk,wk2,wk1,ae],lRq _,(hC _ _).cl,by simp [zns,znv]⟩
  ·skip
   have n0:(id=H.nx)=False:=eq_false (by omega)
   have n1:(id=H.nx+1)=False:=eq_false (by omega)
   have n2:(id=H.nx+1+1)=False:=eq_false (by omega)
   have hlq:=glq hq
   have hqi:id≠q:=fun e=>by rw [← e,hg] at hq;cases hq
   have nq:(q=id)=False:=eq_false (fun e=>hqi e.symm)
   have nq2:(id=q)=False:=eq_false hqi
   have q0:(q=H.nx)=False:=eq_false (by omega)
   have q1:(q=H.nx+1)=False:=eq_false (by omega)
   have hcq:=fun o=>ag ((AHeap.get_set_ne (H:=H) (i:=q) o hqi).trans hg)
   simp only [aE,ah,bhq,Nat.reduceMod,Nat.reduceDiv,au,aq,ay,aN,ax,aM,aJ,aK,aL,yaq,yar,yao,yap,go_sem,Int.reduceBEq,hg,hcs,bO,aU,bP,bo,splice,aP,yau,yav,List.isEmpty_cons,if_false,if_true,Bool.false_eq_true,n0,n1,n2,nq,nq2,q0,q1,hq,hcq,hj,iNq,hrr,hsn]
   refine ⟨by simp only [lAq,yaz];omega,by decide,⟨by omega,by omega,by omega⟩,⟨by omega,by omega,fun z hz=>by rw [List.mem_singleton.1 hz];rfl⟩,by simp only [lAq,yaz];omega,?_⟩
   have hC:=fun a b=>EQ (a:=a) (b:=b) (M':=nl (.own q) m2 { x with grants:=x.grants++[⟨bG .i64 n 7,false,false,List.replicate j false⟩] }) hp0 hp1 hcl hg0 hq (by exact ltR (eA hlq) hA2.lt)
   exact ⟨_,_,hK _ { x with grants:=x.grants++[⟨bG .i64 n 7,false,false,List.replicate j false⟩] } (.own q) m2 (hC _ _) (Of hx (by simp;omega)),by simp only [zle,zlf];omega,by simp [wk,wk2,wk1,ae],lRq _,(hC _ _).cl,by simp [zns,znv]⟩
 ·have hsn:inL x.actions++[.int .i64 n]=inL (x.actions++[n]):=by exact uC
  have hx1:=hx.2.2.2
  have hil:(inL x.actions).length=x.actions.length:=by simp [inL]
  rcases hA2 with ⟨rfl,h0⟩|⟨q,rfl,hp1,hq⟩
  ·skip
   have n0:(id=H.nx)=False:=eq_false (by omega)
   have n1:(id=H.nx+1)=False:=eq_false (by omega)
   have n2:(id=H.nx+1+1)=False:=eq_false (by omega)
   simp only [aE,ah,bhq,Nat.reduceMod,Nat.reduceDiv,au,aq,ay,aN,ax,aM,aJ,aK,aL,yaq,yar,yao,yap,go_sem,Int.reduceBEq,hg,hcs,bO,aU,bP,bo,splice,aP,yau,yav,List.isEmpty_cons,if_false,if_true,Bool.false_eq_true,n0,n1,n2,hsn,hil]
   refine ⟨by simp only [lAq,yaz];omega,⟨by omega,by omega,fun z hz=>by rw [List.mem_singleton.1 hz];rfl⟩,by simp only [lAq,yaz];omega,?_⟩
   have hC:=fun a b c d=>gP (a:=a) (b:=b) (c:=c) (d:=d) (M':=nl m1 (.own (H.nx+1)) { x with actions:=x.actions++[n] }) hp0 hcl hg0 (by exact ltR (hA.lt2 (by omega)) (eA (by omega)))
   exact ⟨_,_,hK _ { x with actions:=x.actions++[n] } m1 (.own (H.nx+1)) (hC _ _ _ _) (NG hx),by simp only [zle,zlf];omega,by simp [wk,wk2,wk1,ae],lRq _,(hC _ _ _ _).cl,by simp [zns,znv]⟩
  ·skip
   have n0:(id=H.nx)=False:=eq_false (by omega)
   have n1:(id=H.nx+1)=False:=eq_false (by omega)
   have n2:(id=H.nx+1+1)=False:=eq_false (by omega)
   have hlq:=glq hq
   have hqi:id≠q:=fun e=>by rw [← e,hg] at hq;cases hq
   have nq:(q=id)=False:=eq_false (fun e=>hqi e.symm)
   have nq2:(id=q)=False:=eq_false hqi
   have q0:(q=H.nx)=False:=eq_false (by omega)
   have q1:(q=H.nx+1)=False:=eq_false (by omega)
   have hcq:=fun o=>ag ((AHeap.get_set_ne (H:=H) (i:=q) o hqi).trans hg)
   simp only [aE,ah,bhq,Nat.reduceMod,Nat.reduceDiv,au,aq,ay,aN,ax,aM,aJ,aK,aL,yaq,yar,yao,yap,go_sem,Int.reduceBEq,hg,hcs,bO,aU,bP,bo,splice,aP,yau,yav,List.isEmpty_cons,if_false,if_true,Bool.false_eq_true,n0,n1,n2,nq,nq2,q0,q1,hq,hcq,hsn,hil]
   refine ⟨by simp only [lAq,yaz];omega,⟨by omega,by omega,fun z hz=>by rw [List.mem_singleton.1 hz];rfl⟩,by simp only [lAq,yaz];omega,?_⟩
   have hC:=fun a b c d=>jg (a:=a) (b:=b) (c:=c) (d:=d) (M':=nl m1 (.own q) { x with actions:=x.actions++[n] }) hp0 hp1 hcl hg0 hq (by exact ltR (hA.lt2 (by omega)) (eA hlq))
   exact ⟨_,_,hK _ { x with actions:=x.actions++[n] } m1 (.own q) (hC _ _ _ _) (NG hx),by simp only [zle,zlf];omega,by simp [wk,wk2,wk1,ae],lRq _,(hC _ _ _ _).cl,by simp [zns,znv]⟩
 ·simp only [aE,ah,bhq,Nat.reduceMod,Nat.reduceDiv,au,aq,ay,aN,ax,aM,aJ,aK,aL,yaq,yar,yao,yap,go_sem,Int.reduceBEq,hg,hcs,bO,aU,bP,bo,splice,aP,yau,yav]
  have hC:=dW (M':=nl m1 m2 { x with quota:=n }) hp0 hcl hg0 (by exact ltR hA.lt hA2.lt)
  refine ⟨by simp only [lAq,yaz];omega,?_⟩
  exact ⟨_,_,hK _ { x with quota:=n } m1 m2 hC (IA hx),hC.nx,by simp [wk,wk2,wk1,ae],lRq _,hC.cl,by simp [zns,znv]⟩
def Ma (m:Mark) (x:SHeader):List AV:=[.int .i64 x.id,.str x.name,.slice m 1 (inL x.fields)]
structure SmB (k:Nat) (S:Sch):Prop where
 f:S.fields.length=9∧∀ x∈S.fields,M8 x
 h:S.headers.length=3∧∀ x∈S.headers,M3 k x
 s:S.states.length=3∧∀ x∈S.states,Do k x
 a:S.actions.length=6∧∀ x∈S.actions,u6 k x
 t:S.tables.length=4∧∀ x∈S.tables,om k x
 g:S.stages.length≤5+k
 r:S.roles.length=3∧∀ x∈S.roles,u0 k x
 x:S.refs.length≤4+k
theorem Chg.le {n0 id i:Nat} {H0 H H1:AHeap} {cs:List AV} {o:AObj} (h:Chg n0 H H1 id cs) (hl:H0.Le H) (hn:H0.nx≤n0) (hi:n0≤i):H0.Le (H1.set i o) :=
 ⟨Nat.le_trans hl.nx h.nx,fun j x hj=>by
  have hj2:=glq hj
  rw [AHeap.get_set_ne _ _ (by omega)]
  exact h.old j x (by omega) (hl.get _ _ hj)⟩
theorem Chg.le2 {n0 id i j:Nat} {H0 H H1:AHeap} {cs:List AV} {o p:AObj} (h:Chg n0 H H1 id cs) (hl:H0.Le H) (hn:H0.nx≤n0) (hi:n0≤i) (hj:n0≤j):H0.Le ((H1.set i o).set j p) :=
 ⟨(h.le (o:=o) hl hn hi).nx,fun l x hx=>by
  have hj2:=glq hx
  rw [AHeap.get_set_ne _ _ (by omega)]
  exact (h.le hl hn hi).get l x hx⟩
theorem Nh {k:Nat} {S:Sch} (h:SmB k S):SmB (k+1) S:=by
 obtain ⟨f,⟨h1,h2⟩,⟨s1,s2⟩,⟨a1,a2⟩,⟨t1,t2⟩,g,⟨r1,r2⟩,x⟩:=h
 exact ⟨f,⟨h1,fun y hy=>⟨(h2 y hy).1,by have:=(h2 y hy).2;omega⟩⟩,⟨s1,fun y hy=>⟨by have:=(s2 y hy).1;omega,(s2 y hy).2⟩⟩,⟨a1,fun y hy=>M1 (a2 y hy)⟩,⟨t1,fun y hy=>xS (t2 y hy)⟩,by omega,⟨r1,fun y hy=>IA (r2 y hy)⟩,by omega⟩
theorem kl {α:Type} {P:α→Prop} {l A B:List α} {m x:α} {n:Nat} (e:l=A++m::B) (h:l.length=n∧∀ y∈l,P y) (hx:P x):(A++x::B).length=n∧∀ y∈A++x::B,P y:=by
 subst e
 refine ⟨by have:=h.1;simp at this ⊢;omega,fun y hy=>?_⟩
 rcases List.mem_append.1 hy with hy|hy
 ·exact h.2 y (by simp [hy])
 ·rcases List.mem_cons.1 hy with rfl|hy
  ·exact hx
  ·exact h.2 y (by simp [hy])
theorem wE {n0:Nat} {fr:Fr} {H:AHeap} {K:Fr→AHeap→Prop} (id j mid off sz len:Nat) {cs ms:List AV} (L:List AV) (hg:H.get id=some (.cells cs)) (hj:cs[j]?=some (.ms mid off sz len)) (hne:id≠mid) (hm:aI H mid=some ms) (hL:bH sz len (ms.drop off)=L) (hlt:(AV.slice .any sz L).lt H.nx)
 (h:∀ H2:AHeap,H2.get id=some (.cells (cs.set j (.slice .any sz L)))→(∀ l o,l≠id→l≠mid→H.get l=some o→H2.get l=some o)→H2.nx=H.nx→K fr H2):jx n0 K fr H:=by
 refine I5 id j mid off sz len L (ag hg) hj hne hm hL hlt (h _ ?_ (fun l o h1 h2 hx=>?_) rfl)
 ·exact AHeap.get_set_same _ _ (show id<(H.del mid).nx by rw [ij];exact glq hg)
 ·rw [AHeap.get_set_ne _ _ h1,jD,if_neg h2];exact hx
theorem nN {α:Type} {f:α→AV} {n0 q sz:Nat} {H:AHeap} {l:List α} (hn:n0≤q) (h:H.get q=some (.buf sz l.length)):App n0 H (if (l.map f).isEmpty=true then .full else .own q) sz l.length:=by
 cases l with
 |nil=>exact .inl ⟨rfl,rfl⟩
 |cons x y=>exact .inr ⟨q,rfl,hn,h⟩
theorem lJ {α:Type} {f:α→AV} {l:List α} (h:1≤l.length):l.map f≠[]:=fun e=>by
 rw [List.map_eq_nil_iff] at e
 rw [e] at h
 simp at h
def zX:List AV→AHeap→(AV→AHeap→Prop)→Prop
 |[.agg l,.int .i64 q,.int .i64 a,.int .i64 n,.str t],H,K=>∃ (S:Sch) (k:Nat),(l=aS S∧SmB k S∧k≤9∧oO q∧oO a∧t.length≤62)∧∀ S',SmB (k+1) S'→K (gu S') H
 |_,_,_=>False
theorem Ee:EntOk Tryz.prog 11 (Ent.some zX):=by
 refine EntOk.some fun args H K h=>?_
 unfold zX at h
 split at h
 rotate_left
 ·exact h.elim
 rename_i l q a n t
 obtain ⟨S,k,⟨rfl,hS,hk,hq,ha,ht⟩,hK⟩:=h
 have hU:=Nh hS
 obtain ⟨⟨f1,f2⟩,⟨h1,h2⟩,⟨s1,s2⟩,⟨a1,a2⟩,⟨t1,t2⟩,g1,⟨r1,r2⟩,x1⟩:=hS
 unfold oO at hq ha
 have oA:∀ {α:Type} {f:α→AV} {l:List α},(∀ x,cg (f x).cells=true)→∀ z∈l.map f,cg z.cells=true:=fun hf z hz=>by
  obtain ⟨x,_,rfl⟩:=List.mem_map.1 hz;exact hf x
 have of':=oA (f:=aX) (l:=S.fields) fun _=>rfl
 have oh:=oA (f:=aH) (l:=S.headers) fun _=>rfl
 have os:=oA (f:=aO) (l:=S.states) fun _=>rfl
 have oa:=oA (f:=aA) (l:=S.actions) fun _=>rfl
 have ot:=oA (f:=aC) (l:=S.tables) fun _=>rfl
 have og:=oA (f:=bx) (l:=S.stages) fun _=>rfl
 have or':=oA (f:=bc) (l:=S.roles) fun _=>rfl
 have ox:=oA (f:=bU) (l:=S.refs) fun _=>rfl
 have ef:=fL (f:=aX) (l:=S.fields) (by omega)
 have eh:=fL (f:=aH) (l:=S.headers) (by omega)
 have es:=fL (f:=aO) (l:=S.states) (by omega)
 have ea:=fL (f:=aA) (l:=S.actions) (by omega)
 have et:=fL (f:=aC) (l:=S.tables) (by omega)
 have er:=fL (f:=bc) (l:=S.roles) (by omega)
 have m1:=Int.emod_nonneg q (show (12:Int)≠0 by decide)
 have m2:=Int.emod_lt_of_pos q (show (0:Int)<12 by decide)
 have hm:∀ j:Nat,1≤j→∃ i:Nat,a % (j:Int)=(i:Int)∧i<j:=fun j hj=>⟨(a % (j:Int)).toNat,by have:=Int.emod_nonneg a (show (j:Int)≠0 by omega);have:=Int.emod_lt_of_pos a (show (0:Int)<j by omega);omega,by have:=Int.emod_nonneg a (show (j:Int)≠0 by omega);have:=Int.emod_lt_of_pos a (show (0:Int)<j by omega);omega⟩
 obtain ⟨i9,e9,l9⟩:=hm 9 (by decide)
 obtain ⟨i3,e3,l3⟩:=hm 3 (by decide)
 obtain ⟨i6,e6,l6⟩:=hm 6 (by decide)
 obtain ⟨i4,e4,l4⟩:=hm 4 (by decide)
 rcases (by omega:q % 12=0∨q % 12=1∨q % 12=2∨q % 12=3∨(q % 12=4∨q % 12=5∨q % 12=6)∨(q % 12=7∨q % 12=8)∨q % 12=9∨q % 12=10∨q % 12=11) with c|c|c|c|c|c|c|c|c
 ·skip
  refine ACallsP.of_aw (Ω:=[(16,Ent.pure bJ),(25,Ent.some cD),(26,Ent.some cC),(27,Ent.some cr),(28,Ent.some cP),(29,Ent.some cX)]) (T:=aj [(1,[[],[],[],[2],[],[],[],[2,6],[],[],[],[2,6,10],[],[2,6,10],[],[2,6,10],[],[2,6,10]]),(2,[[],[],[],[2],[],[],[],[2,6],[],[],[],[2,6,10],[],[2,6,10],[],[2,6,10],[],[2,6,10]]),(3,[[],[],[],[2],[],[],[],[2,6],[],[2,6],[],[2,6]]),(4,[[],[],[],[],[],[],[4],[],[],[],[],[],[],[],[4,6,12],[],[],[],[],[],[],[],[4,6,12,14,20]]),(5,[[],[],[],[],[],[],[4],[],[],[],[],[],[],[],[4,6,12],[],[],[],[],[],[],[],[4,6,12,14,20]]),(18,[[],[],[],[],[],[],[],[6],[],[],[],[],[],[6,12],[],[],[6,12],[],[],[6,12]]),(23,[[],[],[],[],[],[],[],[],[7],[],[],[],[],[],[7,13],[],[],[],[],[],[7,13,19],[],[],[7,13,19],[],[],[7,13,19],[],[],[7,13,19]]),(27,[[],[],[],[],[],[],[],[6],[],[],[],[],[],[6,12],[],[],[6,12],[],[],[6,12]]),(30,[[],[],[],[],[],[],[],[],[1,5],[],[1,5]]),(801,[[100000],[100004],[100008]]),(818,[[100002],[100008]]),(802,[[100000],[100004],[100008]]),(823,[[100003],[100009],[100015]]),(827,[[100002],[100008]]),(803,[[100000],[100004]]),(830,[[100007]]),(1201,[[300000,300004,300008,200003]]),(402,[[0]]),(1202,[[300000,300004,300008]]),(1203,[[300000,300004]]),(1218,[[300002,300008]]),(1223,[[300003,300009,300015]]),(1227,[[300002,300008]])]) ap (tCq fx (tCq fj (tCq fq (tCq eO (tCq fQ (tCq gk tNq)))))) Tryz.func11 (by kernel_rfl) (by rfl) (rs:=[.cell 10 34]) (by rfl) (by kernel_rfl) (by simp only [Tryz.ntmps11,yaz,yba];decide) fun hcl hlt=>?_
  change aw _ _ _ (KI Tryz.prog [(16,Ent.pure bJ),(25,Ent.some cD),(26,Ent.some cC),(27,Ent.some cr),(28,Ent.some cP),(29,Ent.some cX)] (gQ Tryz.prog [.cell 10 34] H.nx _ (aj [(1,[[],[],[],[2],[],[],[],[2,6],[],[],[],[2,6,10],[],[2,6,10],[],[2,6,10],[],[2,6,10]]),(2,[[],[],[],[2],[],[],[],[2,6],[],[],[],[2,6,10],[],[2,6,10],[],[2,6,10],[],[2,6,10]]),(3,[[],[],[],[2],[],[],[],[2,6],[],[2,6],[],[2,6]]),(4,[[],[],[],[],[],[],[4],[],[],[],[],[],[],[],[4,6,12],[],[],[],[],[],[],[],[4,6,12,14,20]]),(5,[[],[],[],[],[],[],[4],[],[],[],[],[],[],[],[4,6,12],[],[],[],[],[],[],[],[4,6,12,14,20]]),(18,[[],[],[],[],[],[],[],[6],[],[],[],[],[],[6,12],[],[],[6,12],[],[],[6,12]]),(23,[[],[],[],[],[],[],[],[],[7],[],[],[],[],[],[7,13],[],[],[],[],[],[7,13,19],[],[],[7,13,19],[],[],[7,13,19],[],[],[7,13,19]]),(27,[[],[],[],[],[],[],[],[6],[],[],[],[],[],[6,12],[],[],[6,12],[],[],[6,12]]),(30,[[],[],[],[],[],[],[],[],[1,5],[],[1,5]]),(801,[[100000],[100004],[100008]]),(818,[[100002],[100008]]),(802,[[100000],[100004],[100008]]),(823,[[100003],[100009],[100015]]),(827,[[100002],[100008]]),(803,[[100000],[100004]]),(830,[[100007]]),(1201,[[300000,300004,300008,200003]]),(402,[[0]]),(1202,[[300000,300004,300008]]),(1203,[[300000,300004]]),(1218,[[300002,300008]]),(1223,[[300003,300009,300015]]),(1227,[[300002,300008]])])) []) _ _
  clear hlt
  simp only [aE,ah,bhq,Nat.reduceMod,Nat.reduceDiv,au,aq,ay,aN,ax,aM,aJ,aK,aL,yaq,yar,yao,yap,go_sem,aS,ef,eh,es,ea,et,er,ybb,bJ,c,Int.reduceBEq]
  refine ⟨⟨by omega,by omega,of'⟩,lJ (by omega),jK (fun x=>kU x) _,⟨by omega,by omega,oh⟩,⟨by omega,by omega,os⟩,?_⟩
  refine ii (H.nx+1+1) (cs:=(S.fields.map aX).flatMap AV.cells) (by simp [zlh,aG,zle,zlf]) fun kk=>?_
  obtain ⟨A,m,B,hAl,hAB⟩:=lh (l:=S.fields) (i:=i9) (by omega)
  obtain ⟨C0,Z,hC,hfl,hrow⟩:=iX (f:=aX) (sz:=3) (fun x=>⟨tk x,rfl,rfl⟩) (by decide) kk S.fields A B m hAB
  rw [hAl] at hC
  rw [hfl]
  simp only [aE,ah,bhq,Nat.reduceMod,Nat.reduceDiv,au,aq,ay,aN,ax,aM,aJ,aK,aL,yaq,yar,yao,yap,go_sem,aS,ef,eh,es,ea,et,er,ybb,bJ,c,Int.reduceBEq,f1,h1,s1,a1,t1,r1,iNq]
  simp only [e9,e3,e6,e4,iNq]
  refine ⟨oa,ot,⟨by omega,by omega,og⟩,or',⟨by omega,by omega,ox⟩,⟨by omega,by omega,by decide,by decide⟩,⟨by omega,by omega⟩,⟨by omega,by omega,by decide,by decide⟩,⟨by omega,by omega⟩,⟨by omega,by omega,by decide,by decide⟩,⟨by omega,by omega⟩,⟨by omega,by omega,by decide,by decide⟩,⟨by omega,by omega⟩,⟨by omega,by omega,by decide,by decide⟩,⟨by omega,by omega⟩,⟨by omega,by omega,by decide,by decide⟩,⟨by omega,by omega⟩,⟨by omega,by omega,by decide,by decide⟩,?_⟩
  refine ⟨C0,Z,m,H.nx,⟨by simp only [go_sem];rfl,hC.symm,by omega,⟨ha.1,ha.2⟩,ht,f2 m (by rw [hAB];simp)⟩,fun H1 x' hc hx'=>?_⟩
  have k0:=hc.keep H.nx _ (by omega) (by simp only [go_sem];rfl)
  have k1:=hc.keep (H.nx+1) _ (by omega) (by simp only [go_sem];rfl)
  have hg:=hc.get
  have hnx:=hc.nx
  have hcl1:=hc.cl
  simp only [zle] at hnx
  replace hrow:=hrow x'
  have q0:=ag k0
  have q1:=ag k1
  have qg:=ag hg
  have qs:=fun cs=>ag (AHeap.get_set_same H1 (.cells cs) (glq k1))
  simp only [iR,aE,ah,bhq,Nat.reduceMod,Nat.reduceDiv,au,aq,ay,aN,ax,aM,aJ,aK,aL,yaq,yar,yao,yap,go_sem,q0,q1,qs]
  have qg2:=fun o=>ag ((AHeap.get_set_ne (H:=H1) (i:=H.nx+1) o (show H.nx+1+1≠H.nx+1 by omega)).trans hg)
  refine ⟨_,_,hK { S with fields:=A++x'::B } ?_,nrq _,?_,?_,hcl,?_⟩
  ·exact { hU with f:=kl hAB hU.f hx' }
  ·simp only [gu,aS]
   exact ⟨ql (qg2 _) (by rw [← f1];exact hrow) (my (by omega)),.inl ⟨.inl rfl,rfl,rfl⟩,.inl ⟨.inl rfl,rfl,rfl⟩,.inl ⟨.inl rfl,rfl,rfl⟩,.inl ⟨.inl rfl,rfl,rfl⟩,.inl ⟨.inl rfl,rfl,rfl⟩,.inl ⟨.inl rfl,rfl,rfl⟩,.inl ⟨.inl rfl,rfl,rfl⟩,rfl,rfl,trivial⟩
  ·exact hc.le (by repeat first|exact .refl _|refine .push ?_ _) (nrq _) (by omega)
  ·exact hY _
 ·skip
  refine ACallsP.of_aw (Ω:=[(16,Ent.pure bJ),(25,Ent.some cD),(26,Ent.some cC),(27,Ent.some cr),(28,Ent.some cP),(29,Ent.some cX)]) (T:=aj [(1,[[],[],[],[2],[],[],[],[2,6],[],[],[],[2,6,10],[],[2,6,10],[],[2,6,10],[],[2,6,10]]),(2,[[],[],[],[2],[],[],[],[2,6],[],[],[],[2,6,10],[],[2,6,10],[],[2,6,10],[],[2,6,10]]),(3,[[],[],[],[2],[],[],[],[2,6],[],[2,6],[],[2,6]]),(4,[[],[],[],[],[],[],[4],[],[],[],[],[],[],[],[4,6,12],[],[],[],[],[],[],[],[4,6,12,14,20]]),(5,[[],[],[],[],[],[],[4],[],[],[],[],[],[],[],[4,6,12],[],[],[],[],[],[],[],[4,6,12,14,20]]),(18,[[],[],[],[],[],[],[],[6],[],[],[],[],[],[6,12],[],[],[6,12],[],[],[6,12]]),(23,[[],[],[],[],[],[],[],[],[7],[],[],[],[],[],[7,13],[],[],[],[],[],[7,13,19],[],[],[7,13,19],[],[],[7,13,19],[],[],[7,13,19]]),(27,[[],[],[],[],[],[],[],[6],[],[],[],[],[],[6,12],[],[],[6,12],[],[],[6,12]]),(30,[[],[],[],[],[],[],[],[],[1,5],[],[1,5]]),(801,[[100000],[100004],[100008]]),(818,[[100002],[100008]]),(802,[[100000],[100004],[100008]]),(823,[[100003],[100009],[100015]]),(827,[[100002],[100008]]),(803,[[100000],[100004]]),(830,[[100007]]),(1201,[[300000,300004,300008,200007]]),(402,[[0]]),(1202,[[300000,300004,300008]]),(1203,[[300000,300004]]),(1218,[[300002,300008]]),(1223,[[300003,300009,300015]]),(1227,[[300002,300008]]),(36,[[1]])]) ap (tCq fx (tCq fj (tCq fq (tCq eO (tCq fQ (tCq gk tNq)))))) Tryz.func11 (by kernel_rfl) (by rfl) (rs:=[.cell 10 34]) (by rfl) (by kernel_rfl) (by simp only [Tryz.ntmps11,yaz,yba];decide) fun hcl hlt=>?_
  change aw _ _ _ (KI Tryz.prog [(16,Ent.pure bJ),(25,Ent.some cD),(26,Ent.some cC),(27,Ent.some cr),(28,Ent.some cP),(29,Ent.some cX)] (gQ Tryz.prog [.cell 10 34] H.nx _ (aj [(1,[[],[],[],[2],[],[],[],[2,6],[],[],[],[2,6,10],[],[2,6,10],[],[2,6,10],[],[2,6,10]]),(2,[[],[],[],[2],[],[],[],[2,6],[],[],[],[2,6,10],[],[2,6,10],[],[2,6,10],[],[2,6,10]]),(3,[[],[],[],[2],[],[],[],[2,6],[],[2,6],[],[2,6]]),(4,[[],[],[],[],[],[],[4],[],[],[],[],[],[],[],[4,6,12],[],[],[],[],[],[],[],[4,6,12,14,20]]),(5,[[],[],[],[],[],[],[4],[],[],[],[],[],[],[],[4,6,12],[],[],[],[],[],[],[],[4,6,12,14,20]]),(18,[[],[],[],[],[],[],[],[6],[],[],[],[],[],[6,12],[],[],[6,12],[],[],[6,12]]),(23,[[],[],[],[],[],[],[],[],[7],[],[],[],[],[],[7,13],[],[],[],[],[],[7,13,19],[],[],[7,13,19],[],[],[7,13,19],[],[],[7,13,19]]),(27,[[],[],[],[],[],[],[],[6],[],[],[],[],[],[6,12],[],[],[6,12],[],[],[6,12]]),(30,[[],[],[],[],[],[],[],[],[1,5],[],[1,5]]),(801,[[100000],[100004],[100008]]),(818,[[100002],[100008]]),(802,[[100000],[100004],[100008]]),(823,[[100003],[100009],[100015]]),(827,[[100002],[100008]]),(803,[[100000],[100004]]),(830,[[100007]]),(1201,[[300000,300004,300008,200007]]),(402,[[0]]),(1202,[[300000,300004,300008]]),(1203,[[300000,300004]]),(1218,[[300002,300008]]),(1223,[[300003,300009,300015]]),(1227,[[300002,300008]]),(36,[[1]])])) []) _ _
  clear hlt
  simp only [aE,ah,bhq,Nat.reduceMod,Nat.reduceDiv,au,aq,ay,aN,ax,aM,aJ,aK,aL,yaq,yar,yao,yap,go_sem,aS,ef,eh,es,ea,et,er,ybb,bJ,c,Int.reduceBEq]
  refine ⟨⟨by omega,by omega,of'⟩,⟨by omega,by omega,oh⟩,lJ (by omega),jK (fun x=>nc x) _,⟨by omega,by omega,os⟩,?_⟩
  refine ii (H.nx+1+1+1) (cs:=(S.headers.map aH).flatMap AV.cells) (by simp [zlh,aG,zle,zlf]) fun kk=>?_
  obtain ⟨A,m,B,hAl,hAB⟩:=lh (l:=S.headers) (i:=i3) (by omega)
  obtain ⟨C0,Z,hC,hfl,hrow⟩:=iX (f:=aH) (sz:=3) (fun x=>⟨Ma .any x,rfl,rfl⟩) (by decide) kk S.headers A B m hAB
  rw [hAl] at hC
  rw [hfl]
  simp only [aE,ah,bhq,Nat.reduceMod,Nat.reduceDiv,au,aq,ay,aN,ax,aM,aJ,aK,aL,yaq,yar,yao,yap,go_sem,aS,ef,eh,es,ea,et,er,ybb,bJ,c,Int.reduceBEq,f1,h1,s1,a1,t1,r1,iNq]
  simp only [e9,e3,e6,e4,iNq]
  refine ⟨oa,ot,⟨by omega,by omega,og⟩,or',⟨by omega,by omega,ox⟩,⟨by omega,by omega,by decide,by decide⟩,⟨by omega,by omega⟩,⟨by omega,by omega,by decide,by decide⟩,⟨by omega,by omega⟩,⟨by omega,by omega,by decide,by decide⟩,⟨by omega,by omega⟩,⟨by omega,by omega,by decide,by decide⟩,⟨by omega,by omega⟩,⟨by omega,by omega,by decide,by decide⟩,⟨by omega,by omega⟩,⟨by omega,by omega,by decide,by decide⟩,⟨by omega,by omega⟩,⟨by omega,by omega,by decide,by decide⟩,?_⟩
  have sg:∀ (Y:List AV) (f:Nat) d,(C0++Y).getD (i3*3+f) d=Y.getD f d:=fun Y f d=>by rw [← hC];exact bo C0 Y f d
  have ss:∀ (Y:List AV) (f:Nat) v,splice (C0++Y) (i3*3+f) v=C0++splice Y f v:=fun Y f v=>by rw [← hC];exact aU C0 Y f v
  have ss0:∀ (Y:List AV) v,splice (C0++Y) (i3*3) v=C0++splice Y 0 v:=fun Y v=>ss Y 0 v
  have hm1:=(h2 m (by rw [hAB];simp)).2
  have hil:(inL m.fields).length=m.fields.length:=by simp [inL]
  have hio:∀ z∈inL m.fields,cg z.cells=true:=fun z hz=>by
   obtain ⟨x,_,rfl⟩:=List.mem_map.1 hz;rfl
  simp only [aE,ah,bhq,Nat.reduceMod,Nat.reduceDiv,au,aq,ay,aN,ax,aM,aJ,aK,aL,yaq,yar,yao,yap,go_sem,sg,ss,ss0,aH,ziq,splice,aP,lAq,yaz,hil]
  have hsn:=uC (l:=m.fields) (n:=n)
  simp only [hsn]
  refine ⟨by omega,⟨by omega,by omega,hio⟩,⟨by omega,by omega,fun z hz=>by rw [List.mem_singleton.1 hz];rfl⟩,by omega,?_⟩
  refine ak (fun hc=>?_) (fun hc=>?_)
  ·replace hrow:=hrow { m with id:=n,name:=t,fields:=m.fields++[n] }
   simp only [aE,ah,bhq,Nat.reduceMod,Nat.reduceDiv,au,aq,ay,aN,ax,aM,aJ,aK,aL,yaq,yar,yao,yap,go_sem,sg,ss,ss0,splice,aP,lAq,yaz]
   refine ⟨by omega,by omega,?_⟩
   refine gM (H.nx+1+1+1) (cs:=C0++(.int .i64 n::.str t::.slice (.own (H.nx+1+1+1+1+1+1+1+1+1+1)) 1 (inL (m.fields++[n]))::Z)) (C0++(.int .i64 n::.str t::.slice .any 1 (inL (m.fields++[n]))::Z)) (by simp only [go_sem]) ?_ ?_
   ·exact fZ (eP C0) (by simp [dc,dK,dd,wkM,gg,fY,eP,Ma])
   simp only [aE,ah,bhq,Nat.reduceMod,Nat.reduceDiv,au,aq,ay,aN,ax,aM,aJ,aK,aL,yaq,yar,yao,yap,go_sem]
   refine ⟨_,_,hK { S with headers:=A++{ m with id:=n,name:=t,fields:=m.fields++[n] }::B } ?_,nrq _,?_,by repeat first|exact .refl _|refine .push ?_ _,hcl,hY _⟩
   ·exact { hU with h:=kl hAB hU.h (show M3 (k+1) { m with id:=n,name:=t,fields:=m.fields++[n] } from ⟨ht,by have:=hm1;simp;omega⟩) }
   ·simp only [gu,aS]
    exact ⟨.inl ⟨.inl rfl,rfl,rfl⟩,ql (by simp only [go_sem];rfl) (by have h9:=hrow;rw [h1] at h9;exact h9) (my (by omega)),.inl ⟨.inl rfl,rfl,rfl⟩,.inl ⟨.inl rfl,rfl,rfl⟩,.inl ⟨.inl rfl,rfl,rfl⟩,.inl ⟨.inl rfl,rfl,rfl⟩,.inl ⟨.inl rfl,rfl,rfl⟩,.inl ⟨.inl rfl,rfl,rfl⟩,rfl,rfl,trivial⟩
  ·replace hrow:=hrow { m with fields:=m.fields++[n] }
   simp only [aE,ah,bhq,Nat.reduceMod,Nat.reduceDiv,au,aq,ay,aN,ax,aM,aJ,aK,aL,yaq,yar,yao,yap,go_sem,sg,ss,ss0,splice,aP,lAq,yaz]
   skip
   refine gM (H.nx+1+1+1) (cs:=C0++(.int .i64 m.id::.str m.name::.slice (.own (H.nx+1+1+1+1+1+1+1+1+1+1)) 1 (inL (m.fields++[n]))::Z)) (C0++(.int .i64 m.id::.str m.name::.slice .any 1 (inL (m.fields++[n]))::Z)) (by simp only [go_sem]) ?_ ?_
   ·exact fZ (eP C0) (by simp [dc,dK,dd,wkM,gg,fY,eP,Ma])
   simp only [aE,ah,bhq,Nat.reduceMod,Nat.reduceDiv,au,aq,ay,aN,ax,aM,aJ,aK,aL,yaq,yar,yao,yap,go_sem]
   refine ⟨_,_,hK { S with headers:=A++{ m with fields:=m.fields++[n] }::B } ?_,nrq _,?_,by repeat first|exact .refl _|refine .push ?_ _,hcl,hY _⟩
   ·exact { hU with h:=kl hAB hU.h (show M3 (k+1) { m with fields:=m.fields++[n] } from ⟨(h2 m (by rw [hAB];simp)).1,by have:=hm1;simp;omega⟩) }
   ·simp only [gu,aS]
    exact ⟨.inl ⟨.inl rfl,rfl,rfl⟩,ql (by simp only [go_sem];rfl) (by have h9:=hrow;rw [h1] at h9;exact h9) (my (by omega)),.inl ⟨.inl rfl,rfl,rfl⟩,.inl ⟨.inl rfl,rfl,rfl⟩,.inl ⟨.inl rfl,rfl,rfl⟩,.inl ⟨.inl rfl,rfl,rfl⟩,.inl ⟨.inl rfl,rfl,rfl⟩,.inl ⟨.inl rfl,rfl,rfl⟩,rfl,rfl,trivial⟩
 ·skip
  refine ACallsP.of_aw (Ω:=[(16,Ent.pure bJ),(25,Ent.some cD),(26,Ent.some cC),(27,Ent.some cr),(28,Ent.some cP),(29,Ent.some cX)]) (T:=aj [(1,[[],[],[],[2],[],[],[],[2,6],[],[],[],[2,6,10],[],[2,6,10],[],[2,6,10],[],[2,6,10]]),(2,[[],[],[],[2],[],[],[],[2,6],[],[],[],[2,6,10],[],[2,6,10],[],[2,6,10],[],[2,6,10]]),(3,[[],[],[],[2],[],[],[],[2,6],[],[2,6],[],[2,6]]),(4,[[],[],[],[],[],[],[4],[],[],[],[],[],[],[],[4,6,12],[],[],[],[],[],[],[],[4,6,12,14,20]]),(5,[[],[],[],[],[],[],[4],[],[],[],[],[],[],[],[4,6,12],[],[],[],[],[],[],[],[4,6,12,14,20]]),(18,[[],[],[],[],[],[],[],[6],[],[],[],[],[],[6,12],[],[],[6,12],[],[],[6,12]]),(23,[[],[],[],[],[],[],[],[],[7],[],[],[],[],[],[7,13],[],[],[],[],[],[7,13,19],[],[],[7,13,19],[],[],[7,13,19],[],[],[7,13,19]]),(27,[[],[],[],[],[],[],[],[6],[],[],[],[],[],[6,12],[],[],[6,12],[],[],[6,12]]),(30,[[],[],[],[],[],[],[],[],[1,5],[],[1,5]]),(801,[[100000],[100004],[100008]]),(818,[[100002],[100008]]),(802,[[100000],[100004],[100008]]),(823,[[100003],[100009],[100015]]),(827,[[100002],[100008]]),(803,[[100000],[100004]]),(830,[[100007]]),(1201,[[300000,300004,300008,200011]]),(402,[[0]]),(1202,[[300000,300004,300008]]),(1203,[[300000,300004]]),(1218,[[300002,300008]]),(1223,[[300003,300009,300015]]),(1227,[[300002,300008]]),(36,[[1]])]) ap (tCq fx (tCq fj (tCq fq (tCq eO (tCq fQ (tCq gk tNq)))))) Tryz.func11 (by kernel_rfl) (by rfl) (rs:=[.cell 10 34]) (by rfl) (by kernel_rfl) (by simp only [Tryz.ntmps11,yaz,yba];decide) fun hcl hlt=>?_
  change aw _ _ _ (KI Tryz.prog [(16,Ent.pure bJ),(25,Ent.some cD),(26,Ent.some cC),(27,Ent.some cr),(28,Ent.some cP),(29,Ent.some cX)] (gQ Tryz.prog [.cell 10 34] H.nx _ (aj [(1,[[],[],[],[2],[],[],[],[2,6],[],[],[],[2,6,10],[],[2,6,10],[],[2,6,10],[],[2,6,10]]),(2,[[],[],[],[2],[],[],[],[2,6],[],[],[],[2,6,10],[],[2,6,10],[],[2,6,10],[],[2,6,10]]),(3,[[],[],[],[2],[],[],[],[2,6],[],[2,6],[],[2,6]]),(4,[[],[],[],[],[],[],[4],[],[],[],[],[],[],[],[4,6,12],[],[],[],[],[],[],[],[4,6,12,14,20]]),(5,[[],[],[],[],[],[],[4],[],[],[],[],[],[],[],[4,6,12],[],[],[],[],[],[],[],[4,6,12,14,20]]),(18,[[],[],[],[],[],[],[],[6],[],[],[],[],[],[6,12],[],[],[6,12],[],[],[6,12]]),(23,[[],[],[],[],[],[],[],[],[7],[],[],[],[],[],[7,13],[],[],[],[],[],[7,13,19],[],[],[7,13,19],[],[],[7,13,19],[],[],[7,13,19]]),(27,[[],[],[],[],[],[],[],[6],[],[],[],[],[],[6,12],[],[],[6,12],[],[],[6,12]]),(30,[[],[],[],[],[],[],[],[],[1,5],[],[1,5]]),(801,[[100000],[100004],[100008]]),(818,[[100002],[100008]]),(802,[[100000],[100004],[100008]]),(823,[[100003],[100009],[100015]]),(827,[[100002],[100008]]),(803,[[100000],[100004]]),(830,[[100007]]),(1201,[[300000,300004,300008,200011]]),(402,[[0]]),(1202,[[300000,300004,300008]]),(1203,[[300000,300004]]),(1218,[[300002,300008]]),(1223,[[300003,300009,300015]]),(1227,[[300002,300008]]),(36,[[1]])])) []) _ _
  clear hlt
  simp only [aE,ah,bhq,Nat.reduceMod,Nat.reduceDiv,au,aq,ay,aN,ax,aM,aJ,aK,aL,yaq,yar,yao,yap,go_sem,aS,ef,eh,es,ea,et,er,ybb,bJ,c,Int.reduceBEq]
  refine ⟨⟨by omega,by omega,of'⟩,⟨by omega,by omega,oh⟩,⟨by omega,by omega,os⟩,lJ (by omega),jK (fun x=>gf x) _,?_⟩
  refine ii (H.nx+1+1+1+1) (cs:=(S.states.map aO).flatMap AV.cells) (by simp [zlh,aG,zle,zlf]) fun kk=>?_
  obtain ⟨A,m,B,hAl,hAB⟩:=lh (l:=S.states) (i:=i3) (by omega)
  obtain ⟨C0,Z,hC,hfl,hrow⟩:=iX (f:=aO) (sz:=5) (fun x=>⟨jS .any x,rfl,rfl⟩) (by decide) kk S.states A B m hAB
  rw [hAl] at hC
  rw [hfl]
  simp only [aE,ah,bhq,Nat.reduceMod,Nat.reduceDiv,au,aq,ay,aN,ax,aM,aJ,aK,aL,yaq,yar,yao,yap,go_sem,aS,ef,eh,es,ea,et,er,ybb,bJ,c,Int.reduceBEq,f1,h1,s1,a1,t1,r1,iNq]
  simp only [e9,e3,e6,e4,iNq]
  refine ⟨oa,ot,⟨by omega,by omega,og⟩,or',⟨by omega,by omega,ox⟩,⟨by omega,by omega,by decide,by decide⟩,⟨by omega,by omega⟩,⟨by omega,by omega,by decide,by decide⟩,⟨by omega,by omega⟩,⟨by omega,by omega,by decide,by decide⟩,⟨by omega,by omega⟩,⟨by omega,by omega,by decide,by decide⟩,⟨by omega,by omega⟩,⟨by omega,by omega,by decide,by decide⟩,⟨by omega,by omega⟩,⟨by omega,by omega,by decide,by decide⟩,⟨by omega,by omega⟩,⟨by omega,by omega,by decide,by decide⟩,?_⟩
  have sg:∀ (Y:List AV) (f:Nat) d,(C0++Y).getD (i3*5+f) d=Y.getD f d:=fun Y f d=>by rw [← hC];exact bo C0 Y f d
  have ss:∀ (Y:List AV) (f:Nat) v,splice (C0++Y) (i3*5+f) v=C0++splice Y f v:=fun Y f v=>by rw [← hC];exact aU C0 Y f v
  have ss0:∀ (Y:List AV) v,splice (C0++Y) (i3*5) v=C0++splice Y 0 v:=fun Y v=>ss Y 0 v
  have hm:=s2 m (by rw [hAB];simp)
  obtain ⟨hm1,hm2⟩:=hm
  have oc:=oA (f:=cI) (l:=m.cases) fun _=>rfl
  simp only [aE,ah,bhq,Nat.reduceMod,Nat.reduceDiv,au,aq,ay,aN,ax,aM,aJ,aK,aL,yaq,yar,yao,yap,go_sem,sg,ss,ss0,aO,ziq,splice,aP,lAq,yaz,ybb]
  refine ⟨by omega,⟨by omega,by omega,oc⟩,by omega,C0,Z,m,.own (H.nx+1+1+1+1+1+1+1+1+1+1),k,H.nx,⟨by simp only [go_sem];rfl,hC.symm,by omega,⟨ha.1,ha.2⟩,.inr ⟨_,rfl,by omega,by simp only [go_sem]⟩,by omega,⟨hm1,hm2⟩⟩,fun H1 x' m' hc hx'=>?_⟩
  have k0:=hc.keep H.nx _ (by omega) (by simp only [go_sem];rfl)
  have k1:=hc.keep (H.nx+1) _ (by omega) (by simp only [go_sem];rfl)
  have hg:=hc.get
  have hnx:=hc.nx
  simp only [zle] at hnx
  replace hrow:=hrow x'
  simp only [iR,aE,ah,bhq,Nat.reduceMod,Nat.reduceDiv,au,aq,ay,aN,ax,aM,aJ,aK,aL,yaq,yar,yao,yap,go_sem]
  refine gM (H.nx+1+1+1+1) (cs:=C0++(jS m' x'++Z)) (C0++(jS .any x'++Z)) (ag hg) ?_ ?_
  ·exact fZ (eP C0) (fZ (by simp [dc,dK,dd,wkM,gg,fY,jS]) (eP Z))
  have q0:=fun o=>ag ((AHeap.get_set_ne (H:=H1) (i:=H.nx+1+1+1+1) o (show H.nx≠H.nx+1+1+1+1 by omega)).trans k0)
  have k2:=fun o=>(AHeap.get_set_ne (H:=H1) (i:=H.nx+1+1+1+1) o (show H.nx+1≠H.nx+1+1+1+1 by omega)).trans k1
  have q1:=fun o=>ag (k2 o)
  have qs:=fun o cs=>ag (AHeap.get_set_same (H1.set (H.nx+1+1+1+1) o) (.cells cs) (glq (k2 o)))
  simp only [iR,aE,ah,bhq,Nat.reduceMod,Nat.reduceDiv,au,aq,ay,aN,ax,aM,aJ,aK,aL,yaq,yar,yao,yap,go_sem,q0,q1,qs]
  have qg2:=fun cs p=>ag ((AHeap.get_set_ne (H:=H1.set (H.nx+1+1+1+1) (.cells cs)) (i:=H.nx+1) p (show H.nx+1+1+1+1≠H.nx+1 by omega)).trans (AHeap.get_set_same H1 (.cells cs) (glq hg)))
  refine ⟨_,_,hK { S with states:=A++x'::B } { hU with s:=kl hAB hU.s hx' },nrq _,?_,?_,hcl,hY _⟩
  ·simp only [gu,aS]
   exact ⟨.inl ⟨.inl rfl,rfl,rfl⟩,.inl ⟨.inl rfl,rfl,rfl⟩,ql (qg2 _ _) (by have h9:=hrow;rw [s1] at h9;exact h9) (my (by omega)),.inl ⟨.inl rfl,rfl,rfl⟩,.inl ⟨.inl rfl,rfl,rfl⟩,.inl ⟨.inl rfl,rfl,rfl⟩,.inl ⟨.inl rfl,rfl,rfl⟩,.inl ⟨.inl rfl,rfl,rfl⟩,rfl,rfl,trivial⟩
  ·exact hc.le2 (by repeat first|exact .refl _|refine .push ?_ _) (nrq _) (by omega) (by omega)
 ·skip
  refine ACallsP.of_aw (Ω:=[(16,Ent.pure bJ),(25,Ent.some cD),(26,Ent.some cC),(27,Ent.some cr),(28,Ent.some cP),(29,Ent.some cX)]) (T:=aj [(1,[[],[],[],[2],[],[],[],[2,6],[],[],[],[2,6,10],[],[2,6,10],[],[2,6,10],[],[2,6,10]]),(2,[[],[],[],[2],[],[],[],[2,6],[],[],[],[2,6,10],[],[2,6,10],[],[2,6,10],[],[2,6,10]]),(3,[[],[],[],[2],[],[],[],[2,6],[],[2,6],[],[2,6]]),(4,[[],[],[],[],[],[],[4],[],[],[],[],[],[],[],[4,6,12],[],[],[],[],[],[],[],[4,6,12,14,20]]),(5,[[],[],[],[],[],[],[4],[],[],[],[],[],[],[],[4,6,12],[],[],[],[],[],[],[],[4,6,12,14,20]]),(18,[[],[],[],[],[],[],[],[6],[],[],[],[],[],[6,12],[],[],[6,12],[],[],[6,12]]),(23,[[],[],[],[],[],[],[],[],[7],[],[],[],[],[],[7,13],[],[],[],[],[],[7,13,19],[],[],[7,13,19],[],[],[7,13,19],[],[],[7,13,19]]),(27,[[],[],[],[],[],[],[],[6],[],[],[],[],[],[6,12],[],[],[6,12],[],[],[6,12]]),(30,[[],[],[],[],[],[],[],[],[1,5],[],[1,5]]),(801,[[100000],[100004],[100008]]),(818,[[100002],[100008]]),(802,[[100000],[100004],[100008]]),(823,[[100003],[100009],[100015]]),(827,[[100002],[100008]]),(803,[[100000],[100004]]),(830,[[100007]]),(1201,[[300000,300004,300008]]),(403,[[0]]),(1202,[[300000,300004,300008,200003]]),(1203,[[300000,300004]]),(1218,[[300002,300008]]),(1223,[[300003,300009,300015]]),(1227,[[300002,300008]]),(36,[[1]])]) ap (tCq fx (tCq fj (tCq fq (tCq eO (tCq fQ (tCq gk tNq)))))) Tryz.func11 (by kernel_rfl) (by rfl) (rs:=[.cell 10 34]) (by rfl) (by kernel_rfl) (by simp only [Tryz.ntmps11,yaz,yba];decide) fun hcl hlt=>?_
  change aw _ _ _ (KI Tryz.prog [(16,Ent.pure bJ),(25,Ent.some cD),(26,Ent.some cC),(27,Ent.some cr),(28,Ent.some cP),(29,Ent.some cX)] (gQ Tryz.prog [.cell 10 34] H.nx _ (aj [(1,[[],[],[],[2],[],[],[],[2,6],[],[],[],[2,6,10],[],[2,6,10],[],[2,6,10],[],[2,6,10]]),(2,[[],[],[],[2],[],[],[],[2,6],[],[],[],[2,6,10],[],[2,6,10],[],[2,6,10],[],[2,6,10]]),(3,[[],[],[],[2],[],[],[],[2,6],[],[2,6],[],[2,6]]),(4,[[],[],[],[],[],[],[4],[],[],[],[],[],[],[],[4,6,12],[],[],[],[],[],[],[],[4,6,12,14,20]]),(5,[[],[],[],[],[],[],[4],[],[],[],[],[],[],[],[4,6,12],[],[],[],[],[],[],[],[4,6,12,14,20]]),(18,[[],[],[],[],[],[],[],[6],[],[],[],[],[],[6,12],[],[],[6,12],[],[],[6,12]]),(23,[[],[],[],[],[],[],[],[],[7],[],[],[],[],[],[7,13],[],[],[],[],[],[7,13,19],[],[],[7,13,19],[],[],[7,13,19],[],[],[7,13,19]]),(27,[[],[],[],[],[],[],[],[6],[],[],[],[],[],[6,12],[],[],[6,12],[],[],[6,12]]),(30,[[],[],[],[],[],[],[],[],[1,5],[],[1,5]]),(801,[[100000],[100004],[100008]]),(818,[[100002],[100008]]),(802,[[100000],[100004],[100008]]),(823,[[100003],[100009],[100015]]),(827,[[100002],[100008]]),(803,[[100000],[100004]]),(830,[[100007]]),(1201,[[300000,300004,300008]]),(403,[[0]]),(1202,[[300000,300004,300008,200003]]),(1203,[[300000,300004]]),(1218,[[300002,300008]]),(1223,[[300003,300009,300015]]),(1227,[[300002,300008]]),(36,[[1]])])) []) _ _
  clear hlt
  simp only [aE,ah,bhq,Nat.reduceMod,Nat.reduceDiv,au,aq,ay,aN,ax,aM,aJ,aK,aL,yaq,yar,yao,yap,go_sem,aS,ef,eh,es,ea,et,er,ybb,bJ,c,Int.reduceBEq]
  refine ⟨⟨by omega,by omega,of'⟩,⟨by omega,by omega,oh⟩,⟨by omega,by omega,os⟩,⟨by omega,by omega,oa⟩,lJ (by omega),jK (fun x=>lg x) _,⟨by omega,by omega,ot⟩,⟨by omega,by omega,og⟩,?_⟩
  refine ii (H.nx+1+1+1+1+1) (cs:=(S.actions.map aA).flatMap AV.cells) (by simp [zlh,aG,zle,zlf]) fun kk=>?_
  obtain ⟨A,m,B,hAl,hAB⟩:=lh (l:=S.actions) (i:=i6) (by omega)
  obtain ⟨C0,Z,hC,hfl,hrow⟩:=iX (f:=aA) (sz:=5) (fun x=>⟨lm .any .any x,rfl,rfl⟩) (by decide) kk S.actions A B m hAB
  rw [hAl] at hC
  rw [hfl]
  simp only [aE,ah,bhq,Nat.reduceMod,Nat.reduceDiv,au,aq,ay,aN,ax,aM,aJ,aK,aL,yaq,yar,yao,yap,go_sem,aS,ef,eh,es,ea,et,er,ybb,bJ,c,Int.reduceBEq,f1,h1,s1,a1,t1,r1,iNq]
  simp only [e9,e3,e6,e4,iNq]
  refine ⟨or',⟨by omega,by omega,ox⟩,⟨by omega,by omega,by decide,by decide⟩,⟨by omega,by omega⟩,⟨by omega,by omega,by decide,by decide⟩,⟨by omega,by omega⟩,⟨by omega,by omega,by decide,by decide⟩,⟨by omega,by omega⟩,⟨by omega,by omega,by decide,by decide⟩,⟨by omega,by omega⟩,⟨by omega,by omega,by decide,by decide⟩,⟨by omega,by omega⟩,⟨by omega,by omega,by decide,by decide⟩,⟨by omega,by omega⟩,⟨by omega,by omega,by decide,by decide⟩,?_⟩
  have sg:∀ (Y:List AV) (f:Nat) d,(C0++Y).getD (i6*5+f) d=Y.getD f d:=fun Y f d=>by rw [← hC];exact bo C0 Y f d
  have ss:∀ (Y:List AV) (f:Nat) v,splice (C0++Y) (i6*5+f) v=C0++splice Y f v:=fun Y f v=>by rw [← hC];exact aU C0 Y f v
  have ss0:∀ (Y:List AV) v,splice (C0++Y) (i6*5) v=C0++splice Y 0 v:=fun Y v=>ss Y 0 v
  have hm:=a2 m (by rw [hAB];simp)
  have hm0:=hm
  obtain ⟨hm1,hm2,hm3,hm4,hm5,hm6⟩:=hm
  have op:=oA (f:=bv) (l:=m.params) fun _=>rfl
  have ob:=oA (f:=bV) (l:=m.body) fun _=>rfl
  simp only [aE,ah,bhq,Nat.reduceMod,Nat.reduceDiv,au,aq,ay,aN,ax,aM,aJ,aK,aL,yaq,yar,yao,yap,go_sem,sg,ss,ss0,aA,ziq,splice,aP,lAq,yaz,ybb]
  refine ⟨by omega,⟨by omega,by omega,ob⟩,by omega,by omega,⟨by omega,by omega,op⟩,by omega,by omega,C0,Z,m,(if (m.params.map bv).isEmpty=true then .full else .own (H.nx+1+1+1+1+1+1+1+1+1+1+1)),(if (m.body.map bV).isEmpty=true then .full else .own (H.nx+1+1+1+1+1+1+1+1+1+1)),k,H.nx,⟨by simp only [go_sem];rfl,hC.symm,by omega,⟨ha.1,ha.2⟩,nN (by omega) (by simp only [go_sem]),nN (by omega) (by simp only [go_sem]),by omega,hm0,ht⟩,fun H1 x' m1' m2' hc hx'=>?_⟩
  have k0:=hc.keep H.nx _ (by omega) (by simp only [go_sem];rfl)
  have k1:=hc.keep (H.nx+1) _ (by omega) (by simp only [go_sem];rfl)
  have hg:=hc.get
  have hnx:=hc.nx
  simp only [zle] at hnx
  replace hrow:=hrow x'
  simp only [iR,aE,ah,bhq,Nat.reduceMod,Nat.reduceDiv,au,aq,ay,aN,ax,aM,aJ,aK,aL,yaq,yar,yao,yap,go_sem]
  refine gM (H.nx+1+1+1+1+1) (cs:=C0++(lm m1' m2' x'++Z)) (C0++(lm .any .any x'++Z)) (ag hg) ?_ ?_
  ·exact fZ (eP C0) (fZ (by simp [dc,dK,dd,wkM,gg,fY,lm]) (eP Z))
  have q0:=fun o=>ag ((AHeap.get_set_ne (H:=H1) (i:=H.nx+1+1+1+1+1) o (show H.nx≠H.nx+1+1+1+1+1 by omega)).trans k0)
  have k2:=fun o=>(AHeap.get_set_ne (H:=H1) (i:=H.nx+1+1+1+1+1) o (show H.nx+1≠H.nx+1+1+1+1+1 by omega)).trans k1
  have q1:=fun o=>ag (k2 o)
  have qs:=fun o cs=>ag (AHeap.get_set_same (H1.set (H.nx+1+1+1+1+1) o) (.cells cs) (glq (k2 o)))
  simp only [iR,aE,ah,bhq,Nat.reduceMod,Nat.reduceDiv,au,aq,ay,aN,ax,aM,aJ,aK,aL,yaq,yar,yao,yap,go_sem,q0,q1,qs]
  have qg2:=fun cs p=>ag ((AHeap.get_set_ne (H:=H1.set (H.nx+1+1+1+1+1) (.cells cs)) (i:=H.nx+1) p (show H.nx+1+1+1+1+1≠H.nx+1 by omega)).trans (AHeap.get_set_same H1 (.cells cs) (glq hg)))
  refine ⟨_,_,hK { S with actions:=A++x'::B } { hU with a:=kl hAB hU.a hx' },nrq _,?_,?_,hcl,hY _⟩
  ·simp only [gu,aS]
   exact ⟨.inl ⟨.inl rfl,rfl,rfl⟩,.inl ⟨.inl rfl,rfl,rfl⟩,.inl ⟨.inl rfl,rfl,rfl⟩,ql (qg2 _ _) (by have h9:=hrow;rw [a1] at h9;exact h9) (my (by omega)),.inl ⟨.inl rfl,rfl,rfl⟩,.inl ⟨.inl rfl,rfl,rfl⟩,.inl ⟨.inl rfl,rfl,rfl⟩,.inl ⟨.inl rfl,rfl,rfl⟩,rfl,rfl,trivial⟩
  ·exact hc.le2 (by repeat first|exact .refl _|refine .push ?_ _) (nrq _) (by omega) (by omega)
 ·have c6:=c
  clear c
  obtain ⟨A,m,B,hAl,hAB⟩:=lh (l:=S.tables) (i:=i4) (by omega)
  rcases c6 with c|c|c
  all_goals
   by_cases h8:a.tdiv 16 % 9=8∧m.keys≠[]
   ·skip
    refine ACallsP.of_aw (Ω:=[(16,Ent.pure bJ),(25,Ent.some cD),(26,Ent.some cC),(27,Ent.some cr),(28,Ent.effect lQ),(29,Ent.some cX)]) (T:=aj [(1,[[],[],[],[2],[],[],[],[2,6],[],[],[],[2,6,10],[],[2,6,10],[],[2,6,10],[],[2,6,10]]),(2,[[],[],[],[2],[],[],[],[2,6],[],[],[],[2,6,10],[],[2,6,10],[],[2,6,10],[],[2,6,10]]),(3,[[],[],[],[2],[],[],[],[2,6],[],[2,6],[],[2,6]]),(4,[[],[],[],[],[],[],[4],[],[],[],[],[],[],[],[4,6,12],[],[],[],[],[],[],[],[4,6,12,14,20]]),(5,[[],[],[],[],[],[],[4],[],[],[],[],[],[],[],[4,6,12],[],[],[],[],[],[],[],[4,6,12,14,20]]),(18,[[],[],[],[],[],[],[],[6],[],[],[],[],[],[6,12],[],[],[6,12],[],[],[6,12]]),(23,[[],[],[],[],[],[],[],[],[7],[],[],[],[],[],[7,13],[],[],[],[],[],[7,13,19],[],[],[7,13,19],[],[],[7,13,19],[],[],[7,13,19]]),(27,[[],[],[],[],[],[],[],[6],[],[],[],[],[],[6,12],[],[],[6,12],[],[],[6,12]]),(30,[[],[],[],[],[],[],[],[],[1,5],[],[1,5]]),(801,[[100000],[100004],[100008]]),(818,[[100002],[100008]]),(802,[[100000],[100004],[100008]]),(823,[[100003],[100009],[100015]]),(827,[[100002],[100008]]),(803,[[100000],[100004]]),(830,[[100007]]),(1201,[[300000,300004,300008]]),(403,[[0]]),(1202,[[300000,300004,300008,200007]]),(1203,[[300000,300004]]),(1218,[[300002,300008]]),(1223,[[300003,300009,300015,200008]]),(1227,[[300002,300008]]),(24,[[1]]),(36,[[1,4]])]) ap (tCq fx (tCq fj (tCq fq (tCq eO (tCq wX (tCq gk tNq)))))) Tryz.func11 (by kernel_rfl) (by rfl) (rs:=[.cell 10 34]) (by rfl) (by kernel_rfl) (by simp only [Tryz.ntmps11,yaz,yba];decide) fun hcl hlt=>?_
    change aw _ _ _ (KI Tryz.prog [(16,Ent.pure bJ),(25,Ent.some cD),(26,Ent.some cC),(27,Ent.some cr),(28,Ent.effect lQ),(29,Ent.some cX)] (gQ Tryz.prog [.cell 10 34] H.nx _ (aj [(1,[[],[],[],[2],[],[],[],[2,6],[],[],[],[2,6,10],[],[2,6,10],[],[2,6,10],[],[2,6,10]]),(2,[[],[],[],[2],[],[],[],[2,6],[],[],[],[2,6,10],[],[2,6,10],[],[2,6,10],[],[2,6,10]]),(3,[[],[],[],[2],[],[],[],[2,6],[],[2,6],[],[2,6]]),(4,[[],[],[],[],[],[],[4],[],[],[],[],[],[],[],[4,6,12],[],[],[],[],[],[],[],[4,6,12,14,20]]),(5,[[],[],[],[],[],[],[4],[],[],[],[],[],[],[],[4,6,12],[],[],[],[],[],[],[],[4,6,12,14,20]]),(18,[[],[],[],[],[],[],[],[6],[],[],[],[],[],[6,12],[],[],[6,12],[],[],[6,12]]),(23,[[],[],[],[],[],[],[],[],[7],[],[],[],[],[],[7,13],[],[],[],[],[],[7,13,19],[],[],[7,13,19],[],[],[7,13,19],[],[],[7,13,19]]),(27,[[],[],[],[],[],[],[],[6],[],[],[],[],[],[6,12],[],[],[6,12],[],[],[6,12]]),(30,[[],[],[],[],[],[],[],[],[1,5],[],[1,5]]),(801,[[100000],[100004],[100008]]),(818,[[100002],[100008]]),(802,[[100000],[100004],[100008]]),(823,[[100003],[100009],[100015]]),(827,[[100002],[100008]]),(803,[[100000],[100004]]),(830,[[100007]]),(1201,[[300000,300004,300008]]),(403,[[0]]),(1202,[[300000,300004,300008,200007]]),(1203,[[300000,300004]]),(1218,[[300002,300008]]),(1223,[[300003,300009,300015,200008]]),(1227,[[300002,300008]]),(24,[[1]]),(36,[[1,4]])])) []) _ _
    clear hlt
    simp only [aE,ah,bhq,Nat.reduceMod,Nat.reduceDiv,au,aq,ay,aN,ax,aM,aJ,aK,aL,yaq,yar,yao,yap,go_sem,aS,ef,eh,es,ea,et,er,ybb,bJ,c,Int.reduceBEq]
    refine ⟨⟨by omega,by omega,of'⟩,⟨by omega,by omega,oh⟩,⟨by omega,by omega,os⟩,⟨by omega,by omega,oa⟩,⟨by omega,by omega,ot⟩,lJ (by omega),jK (fun x=>eb x) _,⟨by omega,by omega,og⟩,?_⟩
    refine ii (H.nx+1+1+1+1+1+1) (cs:=(S.tables.map aC).flatMap AV.cells) (by simp [zlh,aG,zle,zlf]) fun kk=>?_
    obtain ⟨C0,Z,hC,hfl,hrow⟩:=iX (f:=aC) (sz:=8) (fun x=>⟨j0 .any .any .any x,rfl,rfl⟩) (by decide) kk S.tables A B m hAB
    rw [hAl] at hC
    rw [hfl]
    simp only [aE,ah,bhq,Nat.reduceMod,Nat.reduceDiv,au,aq,ay,aN,ax,aM,aJ,aK,aL,yaq,yar,yao,yap,go_sem,aS,ef,eh,es,ea,et,er,ybb,bJ,c,Int.reduceBEq,f1,h1,s1,a1,t1,r1,iNq]
    simp only [e9,e3,e6,e4,iNq]
    refine ⟨or',⟨by omega,by omega,ox⟩,⟨by omega,by omega,by decide,by decide⟩,⟨by omega,by omega⟩,⟨by omega,by omega,by decide,by decide⟩,⟨by omega,by omega⟩,⟨by omega,by omega,by decide,by decide⟩,⟨by omega,by omega⟩,⟨by omega,by omega,by decide,by decide⟩,⟨by omega,by omega⟩,⟨by omega,by omega,by decide,by decide⟩,⟨by omega,by omega⟩,⟨by omega,by omega,by decide,by decide⟩,⟨by omega,by omega⟩,⟨by omega,by omega,by decide,by decide⟩,?_⟩
    have sg:∀ (Y:List AV) (f:Nat) d,(C0++Y).getD (i4*8+f) d=Y.getD f d:=fun Y f d=>by rw [← hC];exact bo C0 Y f d
    have ss:∀ (Y:List AV) (f:Nat) v,splice (C0++Y) (i4*8+f) v=C0++splice Y f v:=fun Y f v=>by rw [← hC];exact aU C0 Y f v
    have ss0:∀ (Y:List AV) v,splice (C0++Y) (i4*8) v=C0++splice Y 0 v:=fun Y v=>ss Y 0 v
    have hm:=t2 m (by rw [hAB];simp)
    have hm0:=hm
    obtain ⟨hm1,hm2,hm3,hm4,hm5,hm6,hm7⟩:=hm
    have op:=oA (f:=bE) (l:=m.keys) fun _=>rfl
    have ob:=oA (f:=AV.int .i64) (l:=m.actions) fun _=>rfl
    have od:=oA (f:=vv) (l:=m.dargs) fun _=>rfl
    have hil:(inL m.actions).length=m.actions.length:=by simp [inL]
    obtain ⟨k0,ks,hks⟩:=List.exists_cons_of_ne_nil h8.2
    have hke:=fL (f:=bE) (l:=m.keys) (by rw [hks];simp)
    simp only [aE,ah,bhq,Nat.reduceMod,Nat.reduceDiv,au,aq,ay,aN,ax,aM,aJ,aK,aL,yaq,yar,yao,yap,go_sem,sg,ss,ss0,hke,Bool.false_eq_true,if_false,aC,ziq,splice,aP,lAq,yaz,ybb,hil]
    refine ⟨by omega,⟨by omega,by omega,op⟩,lJ (by rw [hks];simp),jK (fun x=>p8 x) _,by omega,by omega,⟨by omega,by omega,ob⟩,by omega,⟨by omega,by omega⟩,⟨by omega,by omega,od⟩,by omega,by omega,by omega,?_⟩
    refine ii (H.nx+1+1+1+1+1+1+1+1+1+1) (cs:=(m.keys.map bE).flatMap AV.cells) (by simp [zlh,aG,zle,zlf]) fun kj=>?_
    obtain ⟨C2,hC2⟩:∃ C2,(ks.map bE).flatMap AV.cells++List.replicate kj .junk=C2:=⟨_,rfl⟩
    have hfk:(m.keys.map bE).flatMap AV.cells++List.replicate kj .junk=.str k0.name::.int .i64 k0.field::.int .i64 k0.kind::C2:=by rw [hks,← hC2];rfl
    have hmk:m.keys.length=ks.length+1:=by rw [hks];rfl
    rw [hfk,hmk]
    simp only [aE,ah,bhq,Nat.reduceMod,Nat.reduceDiv,au,aq,ay,aN,ax,aM,aJ,aK,aL,yaq,yar,yao,yap,go_sem]
    refine ⟨C0,Z,C2,m,(if (inL m.actions).isEmpty=true then .full else .own (H.nx+1+1+1+1+1+1+1+1+1+1+1)),(if (m.dargs.map vv).isEmpty=true then .full else .own (H.nx+1+1+1+1+1+1+1+1+1+1+1+1)),H.nx+1+1+1+1+1+1+1+1+1+1,ks.length,k0,⟨by simp only [go_sem];rfl,hC.symm,⟨ha.1,ha.2⟩,h8.1,by omega,by omega,by simp only [go_sem]⟩,?_⟩
    simp only [aE,ah,bhq,Nat.reduceMod,Nat.reduceDiv,au,aq,ay,aN,ax,aM,aJ,aK,aL,yaq,yar,yao,yap,go_sem]
    obtain ⟨x',hx1⟩:∃ x':STable,x'={ m with keys:={ k0 with kind:=n }::ks }:=⟨_,rfl⟩
    have hx':om (k+1) x':=by
     rw [hx1]
     refine xS ⟨hm1,?_,fun p hp=>?_,hm4,hm5,hm6,hm7⟩
     ·rw [hks] at hm2;exact hm2
     ·rcases List.mem_cons.1 hp with rfl|hp
      ·exact hm3 k0 (by rw [hks];simp)
      ·exact hm3 p (by rw [hks];simp [hp])
    have hrk:bH 3 (ks.length+1) (.str k0.name::.int .i64 k0.field::.int .i64 n::C2)=x'.keys.map bE:=by
     have h9:=oF (f:=bE) (sz:=3) (fun x=>⟨[.str x.name,.int .i64 x.field,.int .i64 x.kind],rfl,rfl⟩) (by decide) (List.replicate kj .junk) x'.keys
     rw [hx1] at h9 ⊢
     rw [← hC2]
     exact h9
    refine wE (H.nx+1+1+1+1+1+1) (i4*8+2) (H.nx+1+1+1+1+1+1+1+1+1+1) 0 3 (ks.length+1) (x'.keys.map bE) (by simp only [go_sem];rfl) (by rw [← hC,List.getElem?_append_right (by omega)];simp [ML]) (by omega) (by simp only [go_sem];rfl) (by rw [yap];exact hrk) (aZ p8) fun H2 hg hk2 hn2=>?_
    have k0':=hk2 H.nx _ (by omega) (by omega) (by simp only [go_sem];rfl)
    have k1:=hk2 (H.nx+1) _ (by omega) (by omega) (by simp only [go_sem];rfl)
    have q0:=ag k0'
    simp only [zle] at hn2
    rw [List.set_append_right _ _ (by omega),hC,Nat.add_sub_cancel_left] at hg
    simp only [List.set_cons_succ,List.set_cons_zero] at hg
    replace hrow:=hrow x'
    simp only [iR,aE,ah,bhq,Nat.reduceMod,Nat.reduceDiv,au,aq,ay,aN,ax,aM,aJ,aK,aL,yaq,yar,yao,yap,go_sem,q0]
    refine gM (H.nx+1+1+1+1+1+1) (C0++(j0 .any .any .any x'++Z)) (ag hg) ?_ ?_
    ·refine fZ (eP C0) ?_
     rw [hx1]
     simp [j0,dc,dK,dd,wkM,gg,fY,wkDL_same]
    have k2:=fun o=>(AHeap.get_set_ne (H:=H2) (i:=H.nx+1+1+1+1+1+1) o (show H.nx+1≠H.nx+1+1+1+1+1+1 by omega)).trans k1
    have q1:=fun o=>ag (k2 o)
    have qs:=fun o cs=>ag (AHeap.get_set_same (H2.set (H.nx+1+1+1+1+1+1) o) (.cells cs) (glq (k2 o)))
    simp only [iR,aE,ah,bhq,Nat.reduceMod,Nat.reduceDiv,au,aq,ay,aN,ax,aM,aJ,aK,aL,yaq,yar,yao,yap,go_sem,q1,qs]
    have qg2:=fun cs p=>ag ((AHeap.get_set_ne (H:=H2.set (H.nx+1+1+1+1+1+1) (.cells cs)) (i:=H.nx+1) p (show H.nx+1+1+1+1+1+1≠H.nx+1 by omega)).trans (AHeap.get_set_same H2 (.cells cs) (glq hg)))
    refine ⟨_,_,hK { S with tables:=A++x'::B } { hU with t:=kl hAB hU.t hx' },nrq _,?_,?_,hcl,hY _⟩
    ·simp only [gu,aS]
     exact ⟨.inl ⟨.inl rfl,rfl,rfl⟩,.inl ⟨.inl rfl,rfl,rfl⟩,.inl ⟨.inl rfl,rfl,rfl⟩,.inl ⟨.inl rfl,rfl,rfl⟩,ql (qg2 _ _) (by have h9:=hrow;rw [t1] at h9;exact h9) (my (by omega)),.inl ⟨.inl rfl,rfl,rfl⟩,.inl ⟨.inl rfl,rfl,rfl⟩,.inl ⟨.inl rfl,rfl,rfl⟩,rfl,rfl,trivial⟩
    ·refine ⟨by simp only [zlf];omega,fun l o hj=>?_⟩
     have hj2:=glq hj
     rw [AHeap.get_set_ne _ _ (by omega),AHeap.get_set_ne _ _ (by omega)]
     exact hk2 l o (by omega) (by omega) (AHeap.Le.get (by repeat first|exact .refl _|refine .push ?_ _) _ _ hj)
   ·skip
    refine ACallsP.of_aw (Ω:=[(16,Ent.pure bJ),(25,Ent.some cD),(26,Ent.some cC),(27,Ent.some cr),(28,Ent.some cP),(29,Ent.some cX)]) (T:=aj [(1,[[],[],[],[2],[],[],[],[2,6],[],[],[],[2,6,10],[],[2,6,10],[],[2,6,10],[],[2,6,10]]),(2,[[],[],[],[2],[],[],[],[2,6],[],[],[],[2,6,10],[],[2,6,10],[],[2,6,10],[],[2,6,10]]),(3,[[],[],[],[2],[],[],[],[2,6],[],[2,6],[],[2,6]]),(4,[[],[],[],[],[],[],[4],[],[],[],[],[],[],[],[4,6,12],[],[],[],[],[],[],[],[4,6,12,14,20]]),(5,[[],[],[],[],[],[],[4],[],[],[],[],[],[],[],[4,6,12],[],[],[],[],[],[],[],[4,6,12,14,20]]),(18,[[],[],[],[],[],[],[],[6],[],[],[],[],[],[6,12],[],[],[6,12],[],[],[6,12]]),(23,[[],[],[],[],[],[],[],[],[7],[],[],[],[],[],[7,13],[],[],[],[],[],[7,13,19],[],[],[7,13,19],[],[],[7,13,19],[],[],[7,13,19]]),(27,[[],[],[],[],[],[],[],[6],[],[],[],[],[],[6,12],[],[],[6,12],[],[],[6,12]]),(30,[[],[],[],[],[],[],[],[],[1,5],[],[1,5]]),(801,[[100000],[100004],[100008]]),(818,[[100002],[100008]]),(802,[[100000],[100004],[100008]]),(823,[[100003],[100009],[100015]]),(827,[[100002],[100008]]),(803,[[100000],[100004]]),(830,[[100007]]),(1201,[[300000,300004,300008]]),(403,[[0]]),(1202,[[300000,300004,300008,200007]]),(1203,[[300000,300004]]),(1218,[[300002,300008]]),(1223,[[300003,300009,300015]]),(1227,[[300002,300008]]),(36,[[1]])]) ap (tCq fx (tCq fj (tCq fq (tCq eO (tCq fQ (tCq gk tNq)))))) Tryz.func11 (by kernel_rfl) (by rfl) (rs:=[.cell 10 34]) (by rfl) (by kernel_rfl) (by simp only [Tryz.ntmps11,yaz,yba];decide) fun hcl hlt=>?_
    change aw _ _ _ (KI Tryz.prog [(16,Ent.pure bJ),(25,Ent.some cD),(26,Ent.some cC),(27,Ent.some cr),(28,Ent.some cP),(29,Ent.some cX)] (gQ Tryz.prog [.cell 10 34] H.nx _ (aj [(1,[[],[],[],[2],[],[],[],[2,6],[],[],[],[2,6,10],[],[2,6,10],[],[2,6,10],[],[2,6,10]]),(2,[[],[],[],[2],[],[],[],[2,6],[],[],[],[2,6,10],[],[2,6,10],[],[2,6,10],[],[2,6,10]]),(3,[[],[],[],[2],[],[],[],[2,6],[],[2,6],[],[2,6]]),(4,[[],[],[],[],[],[],[4],[],[],[],[],[],[],[],[4,6,12],[],[],[],[],[],[],[],[4,6,12,14,20]]),(5,[[],[],[],[],[],[],[4],[],[],[],[],[],[],[],[4,6,12],[],[],[],[],[],[],[],[4,6,12,14,20]]),(18,[[],[],[],[],[],[],[],[6],[],[],[],[],[],[6,12],[],[],[6,12],[],[],[6,12]]),(23,[[],[],[],[],[],[],[],[],[7],[],[],[],[],[],[7,13],[],[],[],[],[],[7,13,19],[],[],[7,13,19],[],[],[7,13,19],[],[],[7,13,19]]),(27,[[],[],[],[],[],[],[],[6],[],[],[],[],[],[6,12],[],[],[6,12],[],[],[6,12]]),(30,[[],[],[],[],[],[],[],[],[1,5],[],[1,5]]),(801,[[100000],[100004],[100008]]),(818,[[100002],[100008]]),(802,[[100000],[100004],[100008]]),(823,[[100003],[100009],[100015]]),(827,[[100002],[100008]]),(803,[[100000],[100004]]),(830,[[100007]]),(1201,[[300000,300004,300008]]),(403,[[0]]),(1202,[[300000,300004,300008,200007]]),(1203,[[300000,300004]]),(1218,[[300002,300008]]),(1223,[[300003,300009,300015]]),(1227,[[300002,300008]]),(36,[[1]])])) []) _ _
    clear hlt
    simp only [aE,ah,bhq,Nat.reduceMod,Nat.reduceDiv,au,aq,ay,aN,ax,aM,aJ,aK,aL,yaq,yar,yao,yap,go_sem,aS,ef,eh,es,ea,et,er,ybb,bJ,c,Int.reduceBEq]
    refine ⟨⟨by omega,by omega,of'⟩,⟨by omega,by omega,oh⟩,⟨by omega,by omega,os⟩,⟨by omega,by omega,oa⟩,⟨by omega,by omega,ot⟩,lJ (by omega),jK (fun x=>eb x) _,⟨by omega,by omega,og⟩,?_⟩
    refine ii (H.nx+1+1+1+1+1+1) (cs:=(S.tables.map aC).flatMap AV.cells) (by simp [zlh,aG,zle,zlf]) fun kk=>?_
    obtain ⟨C0,Z,hC,hfl,hrow⟩:=iX (f:=aC) (sz:=8) (fun x=>⟨j0 .any .any .any x,rfl,rfl⟩) (by decide) kk S.tables A B m hAB
    rw [hAl] at hC
    rw [hfl]
    simp only [aE,ah,bhq,Nat.reduceMod,Nat.reduceDiv,au,aq,ay,aN,ax,aM,aJ,aK,aL,yaq,yar,yao,yap,go_sem,aS,ef,eh,es,ea,et,er,ybb,bJ,c,Int.reduceBEq,f1,h1,s1,a1,t1,r1,iNq]
    simp only [e9,e3,e6,e4,iNq]
    refine ⟨or',⟨by omega,by omega,ox⟩,⟨by omega,by omega,by decide,by decide⟩,⟨by omega,by omega⟩,⟨by omega,by omega,by decide,by decide⟩,⟨by omega,by omega⟩,⟨by omega,by omega,by decide,by decide⟩,⟨by omega,by omega⟩,⟨by omega,by omega,by decide,by decide⟩,⟨by omega,by omega⟩,⟨by omega,by omega,by decide,by decide⟩,⟨by omega,by omega⟩,⟨by omega,by omega,by decide,by decide⟩,⟨by omega,by omega⟩,⟨by omega,by omega,by decide,by decide⟩,?_⟩
    have sg:∀ (Y:List AV) (f:Nat) d,(C0++Y).getD (i4*8+f) d=Y.getD f d:=fun Y f d=>by rw [← hC];exact bo C0 Y f d
    have ss:∀ (Y:List AV) (f:Nat) v,splice (C0++Y) (i4*8+f) v=C0++splice Y f v:=fun Y f v=>by rw [← hC];exact aU C0 Y f v
    have ss0:∀ (Y:List AV) v,splice (C0++Y) (i4*8) v=C0++splice Y 0 v:=fun Y v=>ss Y 0 v
    have hm:=t2 m (by rw [hAB];simp)
    have hm0:=hm
    obtain ⟨hm1,hm2,hm3,hm4,hm5,hm6,hm7⟩:=hm
    have op:=oA (f:=bE) (l:=m.keys) fun _=>rfl
    have ob:=oA (f:=AV.int .i64) (l:=m.actions) fun _=>rfl
    have od:=oA (f:=vv) (l:=m.dargs) fun _=>rfl
    have hil:(inL m.actions).length=m.actions.length:=by simp [inL]
    simp only [aE,ah,bhq,Nat.reduceMod,Nat.reduceDiv,au,aq,ay,aN,ax,aM,aJ,aK,aL,yaq,yar,yao,yap,go_sem,sg,ss,ss0,aC,ziq,splice,aP,lAq,yaz,ybb,hil]
    refine ⟨by omega,⟨by omega,by omega,op⟩,by omega,by omega,⟨by omega,by omega,ob⟩,by omega,⟨by omega,by omega⟩,⟨by omega,by omega,od⟩,by omega,by omega,by omega,C0,Z,m,(if (m.keys.map bE).isEmpty=true then .full else .own (H.nx+1+1+1+1+1+1+1+1+1+1)),(if (inL m.actions).isEmpty=true then .full else .own (H.nx+1+1+1+1+1+1+1+1+1+1+1)),(if (m.dargs.map vv).isEmpty=true then .full else .own (H.nx+1+1+1+1+1+1+1+1+1+1+1+1)),k,H.nx,⟨by simp only [go_sem];rfl,hC.symm,by omega,⟨ha.1,ha.2⟩,nN (by omega) (by simp only [go_sem]),nN (f:=AV.int .i64) (by omega) (by simp only [go_sem]),nN (by omega) (by simp only [go_sem]),fun h9=>Classical.byContradiction fun h10=>h8 ⟨h9,h10⟩,by omega,hm0,ht⟩,fun H1 x' m1' m2' m3' hc hx'=>?_⟩
    have k0:=hc.keep H.nx _ (by omega) (by simp only [go_sem];rfl)
    have k1:=hc.keep (H.nx+1) _ (by omega) (by simp only [go_sem];rfl)
    have hg:=hc.get
    have hnx:=hc.nx
    simp only [zle] at hnx
    replace hrow:=hrow x'
    simp only [iR,aE,ah,bhq,Nat.reduceMod,Nat.reduceDiv,au,aq,ay,aN,ax,aM,aJ,aK,aL,yaq,yar,yao,yap,go_sem]
    refine gM (H.nx+1+1+1+1+1+1) (cs:=C0++(j0 m1' m2' m3' x'++Z)) (C0++(j0 .any .any .any x'++Z)) (ag hg) ?_ ?_
    ·exact fZ (eP C0) (fZ (by simp [dc,dK,dd,wkM,gg,fY,j0]) (eP Z))
    have q0:=fun o=>ag ((AHeap.get_set_ne (H:=H1) (i:=H.nx+1+1+1+1+1+1) o (show H.nx≠H.nx+1+1+1+1+1+1 by omega)).trans k0)
    have k2:=fun o=>(AHeap.get_set_ne (H:=H1) (i:=H.nx+1+1+1+1+1+1) o (show H.nx+1≠H.nx+1+1+1+1+1+1 by omega)).trans k1
    have q1:=fun o=>ag (k2 o)
    have qs:=fun o cs=>ag (AHeap.get_set_same (H1.set (H.nx+1+1+1+1+1+1) o) (.cells cs) (glq (k2 o)))
    simp only [iR,aE,ah,bhq,Nat.reduceMod,Nat.reduceDiv,au,aq,ay,aN,ax,aM,aJ,aK,aL,yaq,yar,yao,yap,go_sem,q0,q1,qs]
    have qg2:=fun cs p=>ag ((AHeap.get_set_ne (H:=H1.set (H.nx+1+1+1+1+1+1) (.cells cs)) (i:=H.nx+1) p (show H.nx+1+1+1+1+1+1≠H.nx+1 by omega)).trans (AHeap.get_set_same H1 (.cells cs) (glq hg)))
    refine ⟨_,_,hK { S with tables:=A++x'::B } { hU with t:=kl hAB hU.t hx' },nrq _,?_,?_,hcl,hY _⟩
    ·simp only [gu,aS]
     exact ⟨.inl ⟨.inl rfl,rfl,rfl⟩,.inl ⟨.inl rfl,rfl,rfl⟩,.inl ⟨.inl rfl,rfl,rfl⟩,.inl ⟨.inl rfl,rfl,rfl⟩,ql (qg2 _ _) (by have h9:=hrow;rw [t1] at h9;exact h9) (my (by omega)),.inl ⟨.inl rfl,rfl,rfl⟩,.inl ⟨.inl rfl,rfl,rfl⟩,.inl ⟨.inl rfl,rfl,rfl⟩,rfl,rfl,trivial⟩
    ·exact hc.le2 (by repeat first|exact .refl _|refine .push ?_ _) (nrq _) (by omega) (by omega)
 ·have c6:=c
  clear c
  rcases c6 with c|c
  all_goals
   refine ACallsP.of_aw (Ω:=[(16,Ent.pure bJ),(25,Ent.some cD),(26,Ent.some cC),(27,Ent.some cr),(28,Ent.some cP),(29,Ent.some cX)]) (T:=aj [(1,[[],[],[],[2],[],[],[],[2,6],[],[],[],[2,6,10],[],[2,6,10],[],[2,6,10],[],[2,6,10]]),(2,[[],[],[],[2],[],[],[],[2,6],[],[],[],[2,6,10],[],[2,6,10],[],[2,6,10],[],[2,6,10]]),(3,[[],[],[],[2],[],[],[],[2,6],[],[2,6],[],[2,6]]),(4,[[],[],[],[],[],[],[4],[],[],[],[],[],[],[],[4,6,12],[],[],[],[],[],[],[],[4,6,12,14,20]]),(5,[[],[],[],[],[],[],[4],[],[],[],[],[],[],[],[4,6,12],[],[],[],[],[],[],[],[4,6,12,14,20]]),(18,[[],[],[],[],[],[],[],[6],[],[],[],[],[],[6,12],[],[],[6,12],[],[],[6,12]]),(23,[[],[],[],[],[],[],[],[],[7],[],[],[],[],[],[7,13],[],[],[],[],[],[7,13,19],[],[],[7,13,19],[],[],[7,13,19],[],[],[7,13,19]]),(27,[[],[],[],[],[],[],[],[6],[],[],[],[],[],[6,12],[],[],[6,12],[],[],[6,12]]),(30,[[],[],[],[],[],[],[],[],[1,5],[],[1,5]]),(801,[[100000],[100004],[100008]]),(818,[[100002],[100008]]),(802,[[100000],[100004],[100008]]),(823,[[100003],[100009],[100015]]),(827,[[100002],[100008]]),(803,[[100000],[100004]]),(830,[[100007]]),(1201,[[300000,300004,300008]]),(404,[[0]]),(1202,[[300000,300004,300008]]),(1203,[[300000,300004,200003]]),(1218,[[300002,300008]]),(1223,[[300003,300009,300015]]),(1227,[[300002,300008]]),(36,[[1]])]) ap (tCq fx (tCq fj (tCq fq (tCq eO (tCq fQ (tCq gk tNq)))))) Tryz.func11 (by kernel_rfl) (by rfl) (rs:=[.cell 10 34]) (by rfl) (by kernel_rfl) (by simp only [Tryz.ntmps11,yaz,yba];decide) fun hcl hlt=>?_
   change aw _ _ _ (KI Tryz.prog [(16,Ent.pure bJ),(25,Ent.some cD),(26,Ent.some cC),(27,Ent.some cr),(28,Ent.some cP),(29,Ent.some cX)] (gQ Tryz.prog [.cell 10 34] H.nx _ (aj [(1,[[],[],[],[2],[],[],[],[2,6],[],[],[],[2,6,10],[],[2,6,10],[],[2,6,10],[],[2,6,10]]),(2,[[],[],[],[2],[],[],[],[2,6],[],[],[],[2,6,10],[],[2,6,10],[],[2,6,10],[],[2,6,10]]),(3,[[],[],[],[2],[],[],[],[2,6],[],[2,6],[],[2,6]]),(4,[[],[],[],[],[],[],[4],[],[],[],[],[],[],[],[4,6,12],[],[],[],[],[],[],[],[4,6,12,14,20]]),(5,[[],[],[],[],[],[],[4],[],[],[],[],[],[],[],[4,6,12],[],[],[],[],[],[],[],[4,6,12,14,20]]),(18,[[],[],[],[],[],[],[],[6],[],[],[],[],[],[6,12],[],[],[6,12],[],[],[6,12]]),(23,[[],[],[],[],[],[],[],[],[7],[],[],[],[],[],[7,13],[],[],[],[],[],[7,13,19],[],[],[7,13,19],[],[],[7,13,19],[],[],[7,13,19]]),(27,[[],[],[],[],[],[],[],[6],[],[],[],[],[],[6,12],[],[],[6,12],[],[],[6,12]]),(30,[[],[],[],[],[],[],[],[],[1,5],[],[1,5]]),(801,[[100000],[100004],[100008]]),(818,[[100002],[100008]]),(802,[[100000],[100004],[100008]]),(823,[[100003],[100009],[100015]]),(827,[[100002],[100008]]),(803,[[100000],[100004]]),(830,[[100007]]),(1201,[[300000,300004,300008]]),(404,[[0]]),(1202,[[300000,300004,300008]]),(1203,[[300000,300004,200003]]),(1218,[[300002,300008]]),(1223,[[300003,300009,300015]]),(1227,[[300002,300008]]),(36,[[1]])])) []) _ _
   clear hlt
   simp only [aE,ah,bhq,Nat.reduceMod,Nat.reduceDiv,au,aq,ay,aN,ax,aM,aJ,aK,aL,yaq,yar,yao,yap,go_sem,aS,ef,eh,es,ea,et,er,ybb,bJ,c,Int.reduceBEq]
   refine ⟨⟨by omega,by omega,of'⟩,⟨by omega,by omega,oh⟩,⟨by omega,by omega,os⟩,⟨by omega,by omega,oa⟩,⟨by omega,by omega,ot⟩,⟨by omega,by omega,og⟩,⟨by omega,by omega,or'⟩,lJ (by omega),jK (fun x=>lN x) _,⟨by omega,by omega,ox⟩,?_⟩
   refine ii (H.nx+1+1+1+1+1+1+1+1) (cs:=(S.roles.map bc).flatMap AV.cells) (by simp [zlh,aG,zle,zlf]) fun kk=>?_
   obtain ⟨A,m,B,hAl,hAB⟩:=lh (l:=S.roles) (i:=i3) (by omega)
   obtain ⟨C0,Z,hC,hfl,hrow⟩:=iX (f:=bc) (sz:=6) (fun x=>⟨nl .any .any x,rfl,rfl⟩) (by decide) kk S.roles A B m hAB
   rw [hAl] at hC
   rw [hfl]
   simp only [aE,ah,bhq,Nat.reduceMod,Nat.reduceDiv,au,aq,ay,aN,ax,aM,aJ,aK,aL,yaq,yar,yao,yap,go_sem,aS,ef,eh,es,ea,et,er,ybb,bJ,c,Int.reduceBEq,f1,h1,s1,a1,t1,r1,iNq]
   simp only [e9,e3,e6,e4,iNq]
   refine ⟨⟨by omega,by omega,by decide,by decide⟩,⟨by omega,by omega⟩,⟨by omega,by omega,by decide,by decide⟩,⟨by omega,by omega⟩,⟨by omega,by omega,by decide,by decide⟩,⟨by omega,by omega⟩,⟨by omega,by omega,by decide,by decide⟩,⟨by omega,by omega⟩,⟨by omega,by omega,by decide,by decide⟩,⟨by omega,by omega⟩,⟨by omega,by omega,by decide,by decide⟩,⟨by omega,by omega⟩,⟨by omega,by omega,by decide,by decide⟩,?_⟩
   have sg:∀ (Y:List AV) (f:Nat) d,(C0++Y).getD (i3*6+f) d=Y.getD f d:=fun Y f d=>by rw [← hC];exact bo C0 Y f d
   have ss:∀ (Y:List AV) (f:Nat) v,splice (C0++Y) (i3*6+f) v=C0++splice Y f v:=fun Y f v=>by rw [← hC];exact aU C0 Y f v
   have ss0:∀ (Y:List AV) v,splice (C0++Y) (i3*6) v=C0++splice Y 0 v:=fun Y v=>ss Y 0 v
   have hm:=r2 m (by rw [hAB];simp)
   have hm0:=hm
   obtain ⟨hm1,hm2,hm3,hm4⟩:=hm
   have op:=oA (f:=bj) (l:=m.grants) fun _=>rfl
   have ob:=oA (f:=AV.int .i64) (l:=m.actions) fun _=>rfl
   have hil:(inL m.actions).length=m.actions.length:=by simp [inL]
   simp only [aE,ah,bhq,Nat.reduceMod,Nat.reduceDiv,au,aq,ay,aN,ax,aM,aJ,aK,aL,yaq,yar,yao,yap,go_sem,sg,ss,ss0,bc,ziq,splice,aP,lAq,yaz,ybb,hil]
   refine ⟨by omega,⟨by omega,by omega,op⟩,by omega,by omega,⟨by omega,by omega,ob⟩,by omega,by omega,C0,Z,m,(if (m.grants.map bj).isEmpty=true then .full else .own (H.nx+1+1+1+1+1+1+1+1+1+1)),(if (inL m.actions).isEmpty=true then .full else .own (H.nx+1+1+1+1+1+1+1+1+1+1+1)),k,H.nx,⟨by simp only [go_sem];rfl,hC.symm,by omega,⟨ha.1,ha.2⟩,nN (by omega) (by simp only [go_sem]),nN (f:=AV.int .i64) (by omega) (by simp only [go_sem]),by omega,hm0,ht⟩,fun H1 x' m1' m2' hc hx'=>?_⟩
   have k0:=hc.keep H.nx _ (by omega) (by simp only [go_sem];rfl)
   have k1:=hc.keep (H.nx+1) _ (by omega) (by simp only [go_sem];rfl)
   have hg:=hc.get
   have hnx:=hc.nx
   simp only [zle] at hnx
   replace hrow:=hrow x'
   simp only [iR,aE,ah,bhq,Nat.reduceMod,Nat.reduceDiv,au,aq,ay,aN,ax,aM,aJ,aK,aL,yaq,yar,yao,yap,go_sem]
   refine gM (H.nx+1+1+1+1+1+1+1+1) (cs:=C0++(nl m1' m2' x'++Z)) (C0++(nl .any .any x'++Z)) (ag hg) ?_ ?_
   ·exact fZ (eP C0) (fZ (by simp [dc,dK,dd,wkM,gg,fY,nl]) (eP Z))
   have q0:=fun o=>ag ((AHeap.get_set_ne (H:=H1) (i:=H.nx+1+1+1+1+1+1+1+1) o (show H.nx≠H.nx+1+1+1+1+1+1+1+1 by omega)).trans k0)
   have k2:=fun o=>(AHeap.get_set_ne (H:=H1) (i:=H.nx+1+1+1+1+1+1+1+1) o (show H.nx+1≠H.nx+1+1+1+1+1+1+1+1 by omega)).trans k1
   have q1:=fun o=>ag (k2 o)
   have qs:=fun o cs=>ag (AHeap.get_set_same (H1.set (H.nx+1+1+1+1+1+1+1+1) o) (.cells cs) (glq (k2 o)))
   simp only [iR,aE,ah,bhq,Nat.reduceMod,Nat.reduceDiv,au,aq,ay,aN,ax,aM,aJ,aK,aL,yaq,yar,yao,yap,go_sem,q0,q1,qs]
   have qg2:=fun cs p=>ag ((AHeap.get_set_ne (H:=H1.set (H.nx+1+1+1+1+1+1+1+1) (.cells cs)) (i:=H.nx+1) p (show H.nx+1+1+1+1+1+1+1+1≠H.nx+1 by omega)).trans (AHeap.get_set_same H1 (.cells cs) (glq hg)))
   refine ⟨_,_,hK { S with roles:=A++x'::B } { hU with r:=kl hAB hU.r hx' },nrq _,?_,?_,hcl,hY _⟩
   ·simp only [gu,aS]
    exact ⟨.inl ⟨.inl rfl,rfl,rfl⟩,.inl ⟨.inl rfl,rfl,rfl⟩,.inl ⟨.inl rfl,rfl,rfl⟩,.inl ⟨.inl rfl,rfl,rfl⟩,.inl ⟨.inl rfl,rfl,rfl⟩,.inl ⟨.inl rfl,rfl,rfl⟩,ql (qg2 _ _) (by have h9:=hrow;rw [r1] at h9;exact h9) (my (by omega)),.inl ⟨.inl rfl,rfl,rfl⟩,rfl,rfl,trivial⟩
   ·exact hc.le2 (by repeat first|exact .refl _|refine .push ?_ _) (nrq _) (by omega) (by omega)
 ·have hsn:S.stages.map bx++[.agg [.int .i64 (bG .i64 n 7),.int .i64 (a % 5)]]=(S.stages++[(⟨bG .i64 n 7,a % 5⟩:SStage)]).map bx:=by rw [List.map_append];rfl
  refine ACallsP.of_aw (Ω:=[(16,Ent.pure bJ),(25,Ent.some cD),(26,Ent.some cC),(27,Ent.some cr),(28,Ent.some cP),(29,Ent.some cX)]) (T:=aj [(1,[[],[],[],[2],[],[],[],[2,6],[],[],[],[2,6,10],[],[2,6,10],[],[2,6,10],[],[2,6,10]]),(2,[[],[],[],[2],[],[],[],[2,6],[],[],[],[2,6,10],[],[2,6,10],[],[2,6,10],[],[2,6,10]]),(3,[[],[],[],[2],[],[],[],[2,6],[],[2,6],[],[2,6]]),(4,[[],[],[],[],[],[],[4],[],[],[],[],[],[],[],[4,6,12],[],[],[],[],[],[],[],[4,6,12,14,20]]),(5,[[],[],[],[],[],[],[4],[],[],[],[],[],[],[],[4,6,12],[],[],[],[],[],[],[],[4,6,12,14,20]]),(18,[[],[],[],[],[],[],[],[6],[],[],[],[],[],[6,12],[],[],[6,12],[],[],[6,12]]),(23,[[],[],[],[],[],[],[],[],[7],[],[],[],[],[],[7,13],[],[],[],[],[],[7,13,19],[],[],[7,13,19],[],[],[7,13,19],[],[],[7,13,19]]),(27,[[],[],[],[],[],[],[],[6],[],[],[],[],[],[6,12],[],[],[6,12],[],[],[6,12]]),(30,[[],[],[],[],[],[],[],[],[1,5],[],[1,5]]),(801,[[100000],[100004],[100008]]),(818,[[100002],[100008]]),(802,[[100000],[100004],[100008]]),(823,[[100003],[100009],[100015]]),(827,[[100002],[100008]]),(803,[[100000],[100004]]),(830,[[100007]]),(1201,[[300000,300004,300008]]),(1202,[[300000,300004,300008]]),(1203,[[300000,300004]]),(1218,[[300002,300008]]),(1223,[[300003,300009,300015]]),(1227,[[300002,300008]])]) ap (tCq fx (tCq fj (tCq fq (tCq eO (tCq fQ (tCq gk tNq)))))) Tryz.func11 (by kernel_rfl) (by rfl) (rs:=[.cell 10 34]) (by rfl) (by kernel_rfl) (by simp only [Tryz.ntmps11,yaz,yba];decide) fun hcl hlt=>?_
  change aw _ _ _ (KI Tryz.prog [(16,Ent.pure bJ),(25,Ent.some cD),(26,Ent.some cC),(27,Ent.some cr),(28,Ent.some cP),(29,Ent.some cX)] (gQ Tryz.prog [.cell 10 34] H.nx _ (aj [(1,[[],[],[],[2],[],[],[],[2,6],[],[],[],[2,6,10],[],[2,6,10],[],[2,6,10],[],[2,6,10]]),(2,[[],[],[],[2],[],[],[],[2,6],[],[],[],[2,6,10],[],[2,6,10],[],[2,6,10],[],[2,6,10]]),(3,[[],[],[],[2],[],[],[],[2,6],[],[2,6],[],[2,6]]),(4,[[],[],[],[],[],[],[4],[],[],[],[],[],[],[],[4,6,12],[],[],[],[],[],[],[],[4,6,12,14,20]]),(5,[[],[],[],[],[],[],[4],[],[],[],[],[],[],[],[4,6,12],[],[],[],[],[],[],[],[4,6,12,14,20]]),(18,[[],[],[],[],[],[],[],[6],[],[],[],[],[],[6,12],[],[],[6,12],[],[],[6,12]]),(23,[[],[],[],[],[],[],[],[],[7],[],[],[],[],[],[7,13],[],[],[],[],[],[7,13,19],[],[],[7,13,19],[],[],[7,13,19],[],[],[7,13,19]]),(27,[[],[],[],[],[],[],[],[6],[],[],[],[],[],[6,12],[],[],[6,12],[],[],[6,12]]),(30,[[],[],[],[],[],[],[],[],[1,5],[],[1,5]]),(801,[[100000],[100004],[100008]]),(818,[[100002],[100008]]),(802,[[100000],[100004],[100008]]),(823,[[100003],[100009],[100015]]),(827,[[100002],[100008]]),(803,[[100000],[100004]]),(830,[[100007]]),(1201,[[300000,300004,300008]]),(1202,[[300000,300004,300008]]),(1203,[[300000,300004]]),(1218,[[300002,300008]]),(1223,[[300003,300009,300015]]),(1227,[[300002,300008]])])) []) _ _
  clear hlt
  simp only [aE,ah,bhq,Nat.reduceMod,Nat.reduceDiv,au,aq,ay,aN,ax,aM,aJ,aK,aL,yaq,yar,yao,yap,go_sem,aS,ef,eh,es,ea,et,er,ybb,bJ,c,Int.reduceBEq,f1,h1,s1,a1,t1,r1,iNq]
  simp only [e9,e3,e6,e4,iNq]
  refine ⟨of',oh,os,oa,ot,⟨by omega,by omega,og⟩,or',⟨by omega,by omega,ox⟩,⟨by omega,by omega,by decide,by decide⟩,⟨by omega,by omega⟩,⟨by omega,by omega,by decide,by decide⟩,⟨by omega,by omega⟩,⟨by omega,by omega,by decide,by decide⟩,⟨by omega,by omega⟩,⟨by omega,by omega,by decide,by decide⟩,⟨by omega,by omega⟩,⟨by omega,by omega,by decide,by decide⟩,⟨by omega,by omega⟩,⟨by omega,by omega,by decide,by decide⟩,⟨by omega,by omega⟩,⟨by omega,by omega,by decide,by decide⟩,⟨by omega,by omega,by decide,by decide⟩,?_⟩
  cases hge:(S.stages.map bx).isEmpty
  all_goals
   simp only [aE,ah,bhq,Nat.reduceMod,Nat.reduceDiv,au,aq,ay,aN,ax,aM,aJ,aK,aL,yaq,yar,yao,yap,go_sem,hge,Bool.false_eq_true,if_false,if_true,ybb,List.isEmpty_cons,hsn]
   refine ⟨⟨by omega,by omega,fun z hz=>by rw [List.mem_singleton.1 hz];rfl⟩,?_⟩
   refine ⟨_,_,hK { S with stages:=S.stages++[⟨bG .i64 n 7,a % 5⟩] } { hU with g:=by simp;omega },nrq _,?_,by repeat first|exact .refl _|refine .push ?_ _,hcl,hY _⟩
   simp only [gu,aS]
   exact ⟨.inl ⟨.inl rfl,rfl,rfl⟩,.inl ⟨.inl rfl,rfl,rfl⟩,.inl ⟨.inl rfl,rfl,rfl⟩,.inl ⟨.inl rfl,rfl,rfl⟩,.inl ⟨.inl rfl,rfl,rfl⟩,.inl ⟨.inl rfl,rfl,rfl⟩,.inl ⟨.inl rfl,rfl,rfl⟩,.inl ⟨.inl rfl,rfl,rfl⟩,rfl,rfl,trivial⟩
 ·skip
  refine ACallsP.of_aw (Ω:=[(16,Ent.pure bJ),(25,Ent.some cD),(26,Ent.some cC),(27,Ent.some cr),(28,Ent.some cP),(29,Ent.some cX)]) (T:=aj [(1,[[],[],[],[2],[],[],[],[2,6],[],[],[],[2,6,10],[],[2,6,10],[],[2,6,10],[],[2,6,10]]),(2,[[],[],[],[2],[],[],[],[2,6],[],[],[],[2,6,10],[],[2,6,10],[],[2,6,10],[],[2,6,10]]),(3,[[],[],[],[2],[],[],[],[2,6],[],[2,6],[],[2,6]]),(4,[[],[],[],[],[],[],[4],[],[],[],[],[],[],[],[4,6,12],[],[],[],[],[],[],[],[4,6,12,14,20]]),(5,[[],[],[],[],[],[],[4],[],[],[],[],[],[],[],[4,6,12],[],[],[],[],[],[],[],[4,6,12,14,20]]),(18,[[],[],[],[],[],[],[],[6],[],[],[],[],[],[6,12],[],[],[6,12],[],[],[6,12]]),(23,[[],[],[],[],[],[],[],[],[7],[],[],[],[],[],[7,13],[],[],[],[],[],[7,13,19],[],[],[7,13,19],[],[],[7,13,19],[],[],[7,13,19]]),(27,[[],[],[],[],[],[],[],[6],[],[],[],[],[],[6,12],[],[],[6,12],[],[],[6,12]]),(30,[[],[],[],[],[],[],[],[],[1,5],[],[1,5]]),(801,[[100000],[100004],[100008]]),(818,[[100002],[100008]]),(802,[[100000],[100004],[100008]]),(823,[[100003],[100009],[100015]]),(827,[[100002],[100008]]),(803,[[100000],[100004]]),(830,[[100007]]),(1201,[[300000,300004,300008]]),(1202,[[300000,300004,300008]]),(1203,[[300000,300004]]),(1218,[[300002,300008]]),(1223,[[300003,300009,300015]]),(1227,[[300002,300008]])]) ap (tCq fx (tCq fj (tCq fq (tCq eO (tCq fQ (tCq gk tNq)))))) Tryz.func11 (by kernel_rfl) (by rfl) (rs:=[.cell 10 34]) (by rfl) (by kernel_rfl) (by simp only [Tryz.ntmps11,yaz,yba];decide) fun hcl hlt=>?_
  change aw _ _ _ (KI Tryz.prog [(16,Ent.pure bJ),(25,Ent.some cD),(26,Ent.some cC),(27,Ent.some cr),(28,Ent.some cP),(29,Ent.some cX)] (gQ Tryz.prog [.cell 10 34] H.nx _ (aj [(1,[[],[],[],[2],[],[],[],[2,6],[],[],[],[2,6,10],[],[2,6,10],[],[2,6,10],[],[2,6,10]]),(2,[[],[],[],[2],[],[],[],[2,6],[],[],[],[2,6,10],[],[2,6,10],[],[2,6,10],[],[2,6,10]]),(3,[[],[],[],[2],[],[],[],[2,6],[],[2,6],[],[2,6]]),(4,[[],[],[],[],[],[],[4],[],[],[],[],[],[],[],[4,6,12],[],[],[],[],[],[],[],[4,6,12,14,20]]),(5,[[],[],[],[],[],[],[4],[],[],[],[],[],[],[],[4,6,12],[],[],[],[],[],[],[],[4,6,12,14,20]]),(18,[[],[],[],[],[],[],[],[6],[],[],[],[],[],[6,12],[],[],[6,12],[],[],[6,12]]),(23,[[],[],[],[],[],[],[],[],[7],[],[],[],[],[],[7,13],[],[],[],[],[],[7,13,19],[],[],[7,13,19],[],[],[7,13,19],[],[],[7,13,19]]),(27,[[],[],[],[],[],[],[],[6],[],[],[],[],[],[6,12],[],[],[6,12],[],[],[6,12]]),(30,[[],[],[],[],[],[],[],[],[1,5],[],[1,5]]),(801,[[100000],[100004],[100008]]),(818,[[100002],[100008]]),(802,[[100000],[100004],[100008]]),(823,[[100003],[100009],[100015]]),(827,[[100002],[100008]]),(803,[[100000],[100004]]),(830,[[100007]]),(1201,[[300000,300004,300008]]),(1202,[[300000,300004,300008]]),(1203,[[300000,300004]]),(1218,[[300002,300008]]),(1223,[[300003,300009,300015]]),(1227,[[300002,300008]])])) []) _ _
  clear hlt
  simp only [aE,ah,bhq,Nat.reduceMod,Nat.reduceDiv,au,aq,ay,aN,ax,aM,aJ,aK,aL,yaq,yar,yao,yap,go_sem,aS,ef,eh,es,ea,et,er,ybb,bJ,c,Int.reduceBEq,f1,h1,s1,a1,t1,r1,iNq]
  simp only [e9,e3,e6,e4,iNq]
  refine ⟨of',oh,os,oa,ot,⟨by omega,by omega,og⟩,or',⟨by omega,by omega,ox⟩,⟨by omega,by omega,by decide,by decide⟩,⟨by omega,by omega⟩,⟨by omega,by omega,by decide,by decide⟩,⟨by omega,by omega⟩,⟨by omega,by omega,by decide,by decide⟩,⟨by omega,by omega⟩,⟨by omega,by omega,by decide,by decide⟩,⟨by omega,by omega⟩,⟨by omega,by omega,by decide,by decide⟩,⟨by omega,by omega⟩,⟨by omega,by omega,by decide,by decide⟩,⟨by omega,by omega⟩,⟨by omega,by omega,by decide,by decide⟩,?_⟩
  refine ⟨by decide,by decide,?_⟩
  cases hge:(S.refs.map bU).isEmpty
  all_goals
   refine ak (fun hc=>?_) (fun hc=>?_)
   ·have hsn:S.refs.map bU++[.agg [.int .i64 (IntKind.i64.wrap (1+bG .i64 a 3)),.int .i64 0,.int .i64 (bG .i64 n 7),.int .i64 (bG .i64 (db .i64 n 3) 1),.int .i64 (IntKind.i64.wrap (1+bG .i64 (db .i64 a 2) 3)),.int .i64 0]]=(S.refs++[(⟨IntKind.i64.wrap (1+bG .i64 a 3),0,bG .i64 n 7,bG .i64 (db .i64 n 3) 1,IntKind.i64.wrap (1+bG .i64 (db .i64 a 2) 3),0⟩:SRef)]).map bU:=by rw [List.map_append];rfl
    simp only [aE,ah,bhq,Nat.reduceMod,Nat.reduceDiv,au,aq,ay,aN,ax,aM,aJ,aK,aL,yaq,yar,yao,yap,go_sem,hge,Bool.false_eq_true,if_false,if_true,ybb,List.isEmpty_cons,hsn]
    refine ⟨by decide,by decide,⟨by omega,by omega,fun z hz=>by rw [List.mem_singleton.1 hz];rfl⟩,?_⟩
    refine ⟨_,_,hK { S with refs:=S.refs++[⟨IntKind.i64.wrap (1+bG .i64 a 3),0,bG .i64 n 7,bG .i64 (db .i64 n 3) 1,IntKind.i64.wrap (1+bG .i64 (db .i64 a 2) 3),0⟩] } { hU with x:=by simp;omega },nrq _,?_,by repeat first|exact .refl _|refine .push ?_ _,hcl,hY _⟩
    simp only [gu,aS]
    exact ⟨.inl ⟨.inl rfl,rfl,rfl⟩,.inl ⟨.inl rfl,rfl,rfl⟩,.inl ⟨.inl rfl,rfl,rfl⟩,.inl ⟨.inl rfl,rfl,rfl⟩,.inl ⟨.inl rfl,rfl,rfl⟩,.inl ⟨.inl rfl,rfl,rfl⟩,.inl ⟨.inl rfl,rfl,rfl⟩,.inl ⟨.inl rfl,rfl,rfl⟩,rfl,rfl,trivial⟩
   ·have hsn:S.refs.map bU++[.agg [.int .i64 (IntKind.i64.wrap (1+bG .i64 a 3)),.int .i64 (bG .i64 n 3),.int .i64 0,.int .i64 0,.int .i64 (IntKind.i64.wrap (1+bG .i64 (db .i64 a 2) 3)),.int .i64 (bG .i64 (db .i64 n 2) 1)]]=(S.refs++[(⟨IntKind.i64.wrap (1+bG .i64 a 3),bG .i64 n 3,0,0,IntKind.i64.wrap (1+bG .i64 (db .i64 a 2) 3),bG .i64 (db .i64 n 2) 1⟩:SRef)]).map bU:=by rw [List.map_append];rfl
    simp only [aE,ah,bhq,Nat.reduceMod,Nat.reduceDiv,au,aq,ay,aN,ax,aM,aJ,aK,aL,yaq,yar,yao,yap,go_sem,hge,Bool.false_eq_true,if_false,if_true,ybb,List.isEmpty_cons,hsn]
    refine ⟨⟨by omega,by omega,fun z hz=>by rw [List.mem_singleton.1 hz];rfl⟩,?_⟩
    refine ⟨_,_,hK { S with refs:=S.refs++[⟨IntKind.i64.wrap (1+bG .i64 a 3),bG .i64 n 3,0,0,IntKind.i64.wrap (1+bG .i64 (db .i64 a 2) 3),bG .i64 (db .i64 n 2) 1⟩] } { hU with x:=by simp;omega },nrq _,?_,by repeat first|exact .refl _|refine .push ?_ _,hcl,hY _⟩
    simp only [gu,aS]
    exact ⟨.inl ⟨.inl rfl,rfl,rfl⟩,.inl ⟨.inl rfl,rfl,rfl⟩,.inl ⟨.inl rfl,rfl,rfl⟩,.inl ⟨.inl rfl,rfl,rfl⟩,.inl ⟨.inl rfl,rfl,rfl⟩,.inl ⟨.inl rfl,rfl,rfl⟩,.inl ⟨.inl rfl,rfl,rfl⟩,.inl ⟨.inl rfl,rfl,rfl⟩,rfl,rfl,trivial⟩
 ·skip
  refine ACallsP.of_aw (Ω:=[(16,Ent.pure bJ),(25,Ent.some cD),(26,Ent.some cC),(27,Ent.some cr),(28,Ent.some cP),(29,Ent.some cX)]) (T:=aj [(1,[[],[],[],[2],[],[],[],[2,6],[],[],[],[2,6,10],[],[2,6,10],[],[2,6,10],[],[2,6,10]]),(2,[[],[],[],[2],[],[],[],[2,6],[],[],[],[2,6,10],[],[2,6,10],[],[2,6,10],[],[2,6,10]]),(3,[[],[],[],[2],[],[],[],[2,6],[],[2,6],[],[2,6]]),(4,[[],[],[],[],[],[],[4],[],[],[],[],[],[],[],[4,6,12],[],[],[],[],[],[],[],[4,6,12,14,20]]),(5,[[],[],[],[],[],[],[4],[],[],[],[],[],[],[],[4,6,12],[],[],[],[],[],[],[],[4,6,12,14,20]]),(18,[[],[],[],[],[],[],[],[6],[],[],[],[],[],[6,12],[],[],[6,12],[],[],[6,12]]),(23,[[],[],[],[],[],[],[],[],[7],[],[],[],[],[],[7,13],[],[],[],[],[],[7,13,19],[],[],[7,13,19],[],[],[7,13,19],[],[],[7,13,19]]),(27,[[],[],[],[],[],[],[],[6],[],[],[],[],[],[6,12],[],[],[6,12],[],[],[6,12]]),(30,[[],[],[],[],[],[],[],[],[1,5],[],[1,5]]),(801,[[100000],[100004],[100008]]),(818,[[100002],[100008]]),(802,[[100000],[100004],[100008]]),(823,[[100003],[100009],[100015]]),(827,[[100002],[100008]]),(803,[[100000],[100004]]),(830,[[100007]]),(1201,[[300000,300004,300008]]),(1202,[[300000,300004,300008]]),(1203,[[300000,300004]]),(1218,[[300002,300008]]),(1223,[[300003,300009,300015]]),(1227,[[300002,300008]])]) ap (tCq fx (tCq fj (tCq fq (tCq eO (tCq fQ (tCq gk tNq)))))) Tryz.func11 (by kernel_rfl) (by rfl) (rs:=[.cell 10 34]) (by rfl) (by kernel_rfl) (by simp only [Tryz.ntmps11,yaz,yba];decide) fun hcl hlt=>?_
  change aw _ _ _ (KI Tryz.prog [(16,Ent.pure bJ),(25,Ent.some cD),(26,Ent.some cC),(27,Ent.some cr),(28,Ent.some cP),(29,Ent.some cX)] (gQ Tryz.prog [.cell 10 34] H.nx _ (aj [(1,[[],[],[],[2],[],[],[],[2,6],[],[],[],[2,6,10],[],[2,6,10],[],[2,6,10],[],[2,6,10]]),(2,[[],[],[],[2],[],[],[],[2,6],[],[],[],[2,6,10],[],[2,6,10],[],[2,6,10],[],[2,6,10]]),(3,[[],[],[],[2],[],[],[],[2,6],[],[2,6],[],[2,6]]),(4,[[],[],[],[],[],[],[4],[],[],[],[],[],[],[],[4,6,12],[],[],[],[],[],[],[],[4,6,12,14,20]]),(5,[[],[],[],[],[],[],[4],[],[],[],[],[],[],[],[4,6,12],[],[],[],[],[],[],[],[4,6,12,14,20]]),(18,[[],[],[],[],[],[],[],[6],[],[],[],[],[],[6,12],[],[],[6,12],[],[],[6,12]]),(23,[[],[],[],[],[],[],[],[],[7],[],[],[],[],[],[7,13],[],[],[],[],[],[7,13,19],[],[],[7,13,19],[],[],[7,13,19],[],[],[7,13,19]]),(27,[[],[],[],[],[],[],[],[6],[],[],[],[],[],[6,12],[],[],[6,12],[],[],[6,12]]),(30,[[],[],[],[],[],[],[],[],[1,5],[],[1,5]]),(801,[[100000],[100004],[100008]]),(818,[[100002],[100008]]),(802,[[100000],[100004],[100008]]),(823,[[100003],[100009],[100015]]),(827,[[100002],[100008]]),(803,[[100000],[100004]]),(830,[[100007]]),(1201,[[300000,300004,300008]]),(1202,[[300000,300004,300008]]),(1203,[[300000,300004]]),(1218,[[300002,300008]]),(1223,[[300003,300009,300015]]),(1227,[[300002,300008]])])) []) _ _
  clear hlt
  simp only [aE,ah,bhq,Nat.reduceMod,Nat.reduceDiv,au,aq,ay,aN,ax,aM,aJ,aK,aL,yaq,yar,yao,yap,go_sem,aS,ef,eh,es,ea,et,er,ybb,bJ,c,Int.reduceBEq,f1,h1,s1,a1,t1,r1,iNq]
  simp only [e9,e3,e6,e4,iNq]
  refine ⟨of',oh,os,oa,ot,⟨by omega,by omega,og⟩,or',⟨by omega,by omega,ox⟩,⟨by omega,by omega,by decide,by decide⟩,⟨by omega,by omega⟩,⟨by omega,by omega,by decide,by decide⟩,⟨by omega,by omega⟩,⟨by omega,by omega,by decide,by decide⟩,⟨by omega,by omega⟩,⟨by omega,by omega,by decide,by decide⟩,⟨by omega,by omega⟩,⟨by omega,by omega,by decide,by decide⟩,⟨by omega,by omega⟩,⟨by omega,by omega,by decide,by decide⟩,⟨by omega,by omega⟩,⟨by omega,by omega,by decide,by decide⟩,?_⟩
  refine ⟨_,_,hK { S with maxBatch:=n,budget:=IntKind.i64.wrap (1+bG .i64 a 255) } { hU with },nrq _,?_,by repeat first|exact .refl _|refine .push ?_ _,hcl,hY _⟩
  simp only [gu,aS]
  exact ⟨.inl ⟨.inl rfl,rfl,rfl⟩,.inl ⟨.inl rfl,rfl,rfl⟩,.inl ⟨.inl rfl,rfl,rfl⟩,.inl ⟨.inl rfl,rfl,rfl⟩,.inl ⟨.inl rfl,rfl,rfl⟩,.inl ⟨.inl rfl,rfl,rfl⟩,.inl ⟨.inl rfl,rfl,rfl⟩,.inl ⟨.inl rfl,rfl,rfl⟩,rfl,rfl,trivial⟩
end Go.AL
