/- Lemmas of the proof; no condition. -/
import Derived.Test.YtjffcopmhkcejaaGreatW03p
set_option linter.all false
set_option maxRecDepth 10000
set_option maxHeartbeats 32000000
open List renaming getD_cons_succ → yav
open Go Go.AL Go.Proofs
namespace Go.AL
def Cp{H:AHeap}{id:Nat}{A M B M':Wz}(h:H.Closed)(hg:H.get id=some (.cells (A++(M++B))))(hm:ltL H.nx M'):(H.set id (.cells (A++(M'++B)))).Closed:=by
 refine bA h ?_
 have h1:ltL H.nx (A++(M++B)):=ltL_iff.2 fun j hj=>h id _ hg j hj
 rw[ltL_iff]at h1 hm ⊢
 intro j hj
 have hmem:=gMq hj
 generalize (A++(M'++B))[j]=x at hmem ⊢
 have key:∀ y∈A++(M++B),AV.lt H.nx y:=fun y hy=>by
  obtain⟨i,hi,rfl⟩:=List.getElem_of_mem hy
  exact h1 i hi
 rw[List.mem_append,List.mem_append]at hmem
 rcases hmem with hx|hx|hx
 ·exact key x (by simp[hx])
 ·obtain⟨i,hi,rfl⟩:=List.getElem_of_mem hx
  exact hm i hi
 ·exact key x (by simp[hx])
def dd{A Y v:Wz}:splice (A++Y) A.length v=A++splice Y 0 v:=bx A Y 0 v
def db{A Y:Wz}{d:AV}:(A++Y).getD A.length d=Y.getD 0 d:=cr A Y 0 d
def rZ(n:Int):Prop := -9223372036854775808≤n∧n≤9223372036854775807
def Fo{n:Int}(h:rZ n):IntKind.i64.wrap (n.tdiv 16)=n.tdiv 16∧rZ (n.tdiv 16):=by
 unfold rZ at h ⊢
 have : -9223372036854775808≤n.tdiv 16∧n.tdiv 16≤9223372036854775807:=by
  have h1:n.tdiv 16*16+n.tmod 16=n:=Int.tdiv_mul_add_tmod n 16
  have h2:n.tmod 16<16:=Int.tmod_lt_of_pos n Xb
  have h3 : -16<n.tmod 16:=by
   have:=Int.tmod_lt_of_pos (-n) (show(0:Int)<16 by decide)
   rw[Int.neg_tmod]at this
   omega
  omega
 exact⟨Xe,this⟩
def App(n0:Nat)(H:AHeap)(m:Mark)(sz n:Nat):Prop:=(m=.full∧n=0)∨∃ q,m=.own q∧n0≤q∧H.get q=some (.buf sz n)
structure Chg(n0:Nat)(H H1:AHeap)(id:Nat)(cs:Wz):Prop where
 get:H1.get id=some (.cells cs)
 nx:H.nx≤H1.nx
 cl:H1.Closed
 keep:∀ j c,j≠id→H.get j=some (.cells c)→H1.get j=some (.cells c)
 old:∀ j o,j<n0→H.get j=some o→H1.get j=some o
def gI{n0:Nat}{H:AHeap}{id:Nat}{A M B M':Wz}(hn0:n0≤id)(h:H.Closed)(hg:H.get id=some (.cells (A++(M++B))))(hm:ltL H.nx M'):Chg n0 H (H.set id (.cells (A++(M'++B)))) id (A++(M'++B)) :=
 ⟨AHeap.get_set_same _ _ (glq hg),nrq _,Cp h hg hm,fun j c hj hx=>by rw[AHeap.get_set_ne _ _ hj];exact hx,fun j o hj hx=>by rw[AHeap.get_set_ne _ _ (by omega)];exact hx⟩
theorem Chg.push{n0:Nat}{H H1:AHeap}{id:Nat}{cs:Wz}(h:Chg n0 H H1 id cs)(o:AObj)(ho:(H1.push o).Closed):Chg n0 H (H1.push o) id cs :=
 ⟨by rw[gPq _ _ (glq h.get)];exact h.get,Nat.le_succ_of_le h.nx,ho,fun j c hj hx=>by have h1:=h.keep j c hj hx;rw[gPq _ _ (glq h1)];exact h1,fun j x hj hx=>by have h1:=h.old j x hj hx;rw[gPq _ _ (glq h1)];exact h1⟩
def kq{n0:Nat}{H:AHeap}{id a b c d:Nat}{A M B M':Wz}(hn0:n0≤id)(h:H.Closed)(hg:H.get id=some (.cells (A++(M++B))))(hm:ltL (H.nx+1+1) M'):Chg n0 H (((H.set id (.cells (A++(M'++B)))).push (.buf a b)).push (.buf c d)) id (A++(M'++B)):=by
 have hl:=glq hg
 have nn0:(id=H.nx)=False:=eFo
 have nn1:(id=H.nx+1)=False:=eFo
 have e1:((H.push (.buf a b)).push (.buf c d)).get id=H.get id:=by rw[gPq _ _ (show id<(H.push (.buf a b)).nx by rw[zlc];omega),gPq _ _ hl]
 have h1:=gI (H:=(H.push (.buf a b)).push (.buf c d)) (M':=M') hn0 (aY (aY h)) (e1.trans hg) hm
 simp only[go_sem,nn0,nn1]at h1
 exact⟨h1.get,Xk,h1.cl,fun j x hj hx=>h1.keep j x hj (by
  have:=glq hx
  rw[gPq _ _ (show j<(H.push (.buf a b)).nx by rw[zlc];omega),gPq _ _ this];exact hx),fun j x hj hx=>h1.old j x hj (by
  have:=glq hx
  rw[gPq _ _ (show j<(H.push (.buf a b)).nx by rw[zlc];omega),gPq _ _ this];exact hx)⟩
def uh{H:AHeap}{q a b:Nat}(h:H.Closed):(H.set q (.buf a b)).Closed:=by
 intro k cs hk j hj
 rcases AHeap.get_set_inv _ _ hk with⟨_,e,_⟩|⟨_,h2⟩
 ·cases e
 ·exact h k cs h2 j hj
def mj{n0:Nat}{H:AHeap}{id q a b c d:Nat}{x y:Nat}{A M B M':Wz}(hn0:n0≤id)(hn1:n0≤q)(h:H.Closed)(hg:H.get id=some (.cells (A++(M++B))))(hq:H.get q=some (.buf x y))(hm:ltL H.nx M'):Chg n0 H (((H.set q (.buf a b)).set id (.cells (A++(M'++B)))).push (.buf c d)) id (A++(M'++B)):=by
 have hne:id≠q:=fun e=>by rw[← e,hg]at hq;cases hq
 have h1:=gI (H:=H.set q (.buf a b)) (M':=M') hn0 (uh h) (by rw[AHeap.get_set_ne _ _ hne];exact hg) hm
 refine⟨(h1.push _ (aY h1.cl)).get,Xk,aY h1.cl,fun j c hj hx=>(h1.push _ (aY h1.cl)).keep j c hj ?_,fun j o hj hx=>(h1.push _ (aY h1.cl)).old j o hj ?_⟩
 ·rw[AHeap.get_set_ne _ _ (fun e=>by rw[e,hq]at hx;cases hx)]
  exact hx
 ·rw[AHeap.get_set_ne _ _ (Xa)]
  exact hx
def RW(x:SField):Prop:=x.name.length≤62
def Tc(k:Nat)(x:SHeader):Prop:=x.name.length≤62∧x.fields.length≤3+k
def L1(k:Nat)(x:SState):Prop:=x.cases.length≤3+k∧∀ c∈x.cases,rW c
def yW(k:Nat)(x:SAction):Prop:=x.name.length≤62∧x.params.length≤2+k∧(∀ p∈x.params,p.name.length≤62)∧x.body.length≤3+k∧(∀ p∈x.body,vr p)∧x.restr.length≤62
def sL(k:Nat)(x:STable):Prop:=x.name.length≤62∧x.keys.length≤3+k∧(∀ p∈x.keys,p.name.length≤62)∧x.actions.length≤5+k∧x.dargs.length≤1+k∧(∀ v∈x.dargs,ng v)∧x.restr.length≤62
def zy(k:Nat)(x:SRole):Prop:=x.name.length≤62∧x.grants.length≤4+k∧(∀ g∈x.grants,g.keys.length≤4)∧x.actions.length≤6+k
def jg{n0:Nat}{Q:By1}{H1:AHeap}(h:Q (.tup []) H1)(hn:n0≤H1.nx)(hc:H1.Closed):zU n0 Q (.tup []) H1 :=
 ⟨_,_,h,hn,by simp[wk,wk2,wk1,ay],lRq _,hc,by simp[znq,znt]⟩
def xh(x:SField):Wz:=[.int .i64 x.id,.str x.name,.int .i64 x.bits]
def m8(m:Mark)(x:SState):Wz:=[.int .i64 x.id,.int .i64 x.header,.int .i64 x.select,.slice m 5 (x.cases.map ba),.int .i64 x.dflt]
def pC(m1 m2:Mark)(x:SAction):Wz:=[.int .i64 x.id,.str x.name,.slice m1 2 (x.params.map aL),.slice m2 6 (x.body.map aU),.str x.restr]
def xT:Wz→AHeap→(By1)→Prop
 |[.ptr id off,.int .i64 a,.int .i64 n,.str t],H,K=>∃ (A B:Wz) (x:SField) (p0:Nat),(H.get id=some (.cells (A++(xh x++B)))∧off=A.length∧p0≤id∧rZ a∧t.length≤62∧RW x) ∧
   ∀ H1 x',Chg p0 H H1 id (A++(xh x'++B))→RW x'→K (.tup []) H1
 |_,_,_=>False
def yL:Wz→AHeap→(By1)→Prop
 |[.ptr id off,.int .i64 a,.int .i64 n],H,K=>∃ (A B:Wz) (x:SState) (m:Mark) (k p0:Nat),(H.get id=some (.cells (A++(m8 m x++B)))∧off=A.length∧p0≤id∧rZ a∧App p0 H m 5 x.cases.length∧k≤10∧L1 k x) ∧
   ∀ H1 x' m',Chg p0 H H1 id (A++(m8 m' x'++B))→L1 (k+1) x'→K (.tup []) H1
 |_,_,_=>False
def loV(n:Int):Nat:=(IntKind.u64.wrap n).toNat
def HZ(n:Int):loV n<18446744073709551616:=by
 have:=(nw n).2
 have:=(nw n).1
 unfold loV;omega
def x9(n:Int):vc (loV n)=[.int .u64 0,.int .u64 (IntKind.u64.wrap n)]:=by
 have h1:=HZ n
 have h2:=(nw n).1
 have h3:((loV n:Nat):Int)=IntKind.u64.wrap n:=by unfold loV;omega
 unfold vc
 rw[Nat.mod_eq_of_lt (show loV n<2^64 by omega),Nat.div_eq_of_lt (show loV n<2^64 by omega),h3];rfl
theorem L3:vc 0=[.int .u64 0,.int .u64 0]:=rfl
def mw(n:Int):ng (loV n):=by
 have:=HZ n
 unfold ng;omega
def nE:ng 0:=by unfold ng;decide
def uO{k:Nat}{x:SState}{c:SCase}(h:L1 k x)(hc:rW c):L1 (k+1) {x with cases:=x.cases++[c]} :=
 ⟨by have:=h.1;simp;omega,fun d hd=>(List.mem_append.1 hd).elim (h.2 d) fun e=>by rw[List.mem_singleton.1 e];exact hc⟩
def lv{n sz:Nat}{α:Type}{f:α→AV}{m:Mark}{l:List α}(hm:∀ q,m=.own q→q<n)(hf:∀ x,AV.lt n (f x)):AV.lt n (.slice m sz (l.map f)):=by
 rw[cI]
 exact⟨hm,ltL_iff.2 fun j hj=>by rw[List.getElem_map];exact hf _⟩
def iE{r n:Nat}(h:r<n):∀ q,Mark.own r=Mark.own q→q<n:=fun q e=>by cases e;exact h
theorem App.lt{n0:Nat}{H:AHeap}{m:Mark}{sz n:Nat}(h:App n0 H m sz n):∀ q,m=.own q→q<H.nx:=fun q hq=>by
 rcases h with⟨h,_⟩|⟨p,h,_,hg⟩
 ·rw[h]at hq;cases hq
 ·rw[h]at hq;cases hq;exact glq hg
def iN:EntOk Tryz.prog 18 (Ent.some xT):=by
 refine EntOk.some fun args H K h=>?_
 unfold xT at h
 split at h<;>try exact h.elim
 rename_i id off a n t
 obtain⟨A,B,x,p0,⟨hg,rfl,hp0,ha,ht,hx⟩,hK⟩:=h
 have hg0:=hg
 simp only[xh,yal,yak]at hg
 have hl:=glq hg
 have hcs:=aB hg
 obtain⟨w1,w2,w3⟩:=Fo ha
 generalize hd:a.tdiv 16=d at *
 have hm1:=Int.emod_nonneg d (show(3:Int)≠0 by decide)
 have hm2:=Int.emod_lt_of_pos d (show(0:Int)<3 by decide)
 refine ACallsP.fS aD (tCq iX tNq) Tryz.func18 [] (T:=aC []) (h:=fun hcl=>?_)
 simp only[go_sem,gT,hd,w1]
 refine⟨Xb,⟨Xa,Xa,Xb,Xb⟩,?_⟩
 rcases(Xa:d%3=0∨d%3=1∨d%3=2)with c|c|c<;>rw[c]
 ·refine Tq1 ?_
  have hC:=gI (M':=xh {x with id:=n}) hp0 hcl hg0 (by simp[xh,zns,znt,znd,znf])
  refine⟨Xg,?_⟩
  exact jg (hK _ {x with id:=n} hC hx) hC.nx hC.cl
 ·refine Tq1 ?_
  have hC:=gI (M':=xh {x with bits:=n}) hp0 hcl hg0 (by simp[xh,zns,znt,znd,znf])
  refine⟨Xg,?_⟩
  exact jg (hK _ {x with bits:=n} hC hx) hC.nx hC.cl
 ·refine Tq1 ?_
  have hC:=gI (M':=xh {x with name:=t}) hp0 hcl hg0 (by simp[xh,zns,znt,znd,znf])
  refine⟨Xg,?_⟩
  exact jg (hK _ {x with name:=t} hC ht) hC.nx hC.cl
def iT:EntOk Tryz.prog 19 (Ent.some yL):=by
 refine EntOk.some fun args H K h=>?_
 unfold yL at h
 split at h<;>try exact h.elim
 rename_i id off a n
 obtain⟨A,B,x,m,k,p0,⟨hg,rfl,hp0,ha,hA,hk,hx⟩,hK⟩:=h
 have hg0:=hg
 simp only[m8,yal,yak]at hg
 have hl:=glq hg
 have hcs:=aB hg
 obtain⟨w1,w2,w3⟩:=Fo ha
 generalize hd:a.tdiv 16=d at *
 have hm1:=Int.emod_nonneg d (show(6:Int)≠0 by decide)
 have hm2:=Int.emod_lt_of_pos d (show(0:Int)<6 by decide)
 refine ACallsP.fS aD (tCq iX tNq) Tryz.func19 [] (T:=aC []) (h:=fun hcl=>?_)
 simp only[go_sem,gT,hd,w1]
 refine⟨Xb,⟨Xa,Xa,Xb,Xb⟩,?_⟩
 rcases(Xa:d%6=0∨d%6=1∨d%6=2∨d%6=3∨d%6=4∨d%6=5)with c|c|c|c|c|c<;>rw[c]
 ·refine Tq1 ?_
  have hC:=gI (M':=m8 m {x with id:=n}) hp0 hcl hg0 (by have:=hA.lt;simp only[m8,zns,znt,znd,and_true,true_and];exact lv this gh)
  refine⟨Xg,?_⟩
  exact jg (hK _ {x with id:=n} m hC ⟨Nat.le_succ_of_le hx.1,hx.2⟩) hC.nx hC.cl
 ·refine Tq1 ?_
  have hC:=gI (M':=m8 m {x with header:=n}) hp0 hcl hg0 (by have:=hA.lt;simp only[m8,zns,znt,znd,and_true,true_and];exact lv this gh)
  refine⟨Xg,?_⟩
  exact jg (hK _ {x with header:=n} m hC ⟨Nat.le_succ_of_le hx.1,hx.2⟩) hC.nx hC.cl
 ·refine Tq1 ?_
  have hC:=gI (M':=m8 m {x with select:=n}) hp0 hcl hg0 (by have:=hA.lt;simp only[m8,zns,znt,znd,and_true,true_and];exact lv this gh)
  refine⟨Xg,?_⟩
  exact jg (hK _ {x with select:=n} m hC ⟨Nat.le_succ_of_le hx.1,hx.2⟩) hC.nx hC.cl
 ·refine Tq1 ?_
  have hC:=gI (M':=m8 m {x with dflt:=n}) hp0 hcl hg0 (by have:=hA.lt;simp only[m8,zns,znt,znd,and_true,true_and];exact lv this gh)
  refine⟨Xg,?_⟩
  exact jg (hK _ {x with dflt:=n} m hC ⟨Nat.le_succ_of_le hx.1,hx.2⟩) hC.nx hC.cl
 ·have hsn:x.cases.map ba++[.agg [.int .u64 0,.int .u64 (IntKind.u64.wrap (cP .i64 n 255)),.int .u64 0,.int .u64 (IntKind.u64.wrap (cP .i64 (fI .i64 n 8) 255)),.int .i64 0]]=(x.cases++[(⟨loV (cP .i64 n 255),loV (cP .i64 (fI .i64 n 8) 255),0⟩:SCase)]).map ba:=by rw[List.map_append];simp[ba,x9,L3]
  have hx1:=hx.1
  rcases hA with⟨rfl,h0⟩|⟨q,rfl,hp1,hq⟩
  ·skip
   have n0:(id=H.nx)=False:=eFo
   have n1:(id=H.nx+1)=False:=eFo
   have n2:(id=H.nx+1+1)=False:=eFo
   refine Tq5 ?_
   refine⟨Xg,Xb,⟨Xa,Xa,fun z hz=>by rw[List.mem_singleton.1 hz];rfl⟩,Xg,?_⟩
   have hC:=fun a b c d=>kq (a:=a) (b:=b) (c:=c) (d:=d) (M':=m8 (.own (H.nx+1)) {x with cases:=x.cases++[⟨loV (cP .i64 n 255),loV (cP .i64 (fI .i64 n 8) 255),0⟩]}) hp0 hcl hg0 (by simp only[m8,zns,znt,znd,and_true,true_and];exact lv (iE Xa) gh)
   exact jg (hK _ {x with cases:=x.cases++[⟨loV (cP .i64 n 255),loV (cP .i64 (fI .i64 n 8) 255),0⟩]} (.own (H.nx+1)) (hC _ _ _ _) (uO hx ⟨mw _,mw _⟩)) Xk (hC _ _ _ _).cl
  ·skip
   have n0:(id=H.nx)=False:=eFo
   have n1:(id=H.nx+1)=False:=eFo
   have n2:(id=H.nx+1+1)=False:=eFo
   have hlq:=glq hq
   have hqi:id≠q:=fun e=>by rw[← e,hg]at hq;cases hq
   have nq:(q=id)=False:=eq_false (fun e=>hqi e.symm)
   have nq2:(id=q)=False:=eq_false hqi
   have q0:(q=H.nx)=False:=eFo
   have q1:(q=H.nx+1)=False:=eFo
   have hcq:=fun o=>aB ((AHeap.get_set_ne (H:=H) (i:=q) o hqi).trans hg)
   refine Tq4 ?_
   refine⟨Xg,Xb,⟨Xa,Xa,fun z hz=>by rw[List.mem_singleton.1 hz];rfl⟩,Xg,?_⟩
   have hC:=fun a b c d=>mj (a:=a) (b:=b) (c:=c) (d:=d) (M':=m8 (.own q) {x with cases:=x.cases++[⟨loV (cP .i64 n 255),loV (cP .i64 (fI .i64 n 8) 255),0⟩]}) hp0 hp1 hcl hg0 hq (by simp only[m8,zns,znt,znd,and_true,true_and];exact lv (iE hlq) gh)
   exact jg (hK _ {x with cases:=x.cases++[⟨loV (cP .i64 n 255),loV (cP .i64 (fI .i64 n 8) 255),0⟩]} (.own q) (hC _ _ _ _) (uO hx ⟨mw _,mw _⟩)) Xk (hC _ _ _ _).cl
 ·have hsn:x.cases.map ba++[.agg [.int .u64 0,.int .u64 0,.int .u64 0,.int .u64 0,.int .i64 n]]=(x.cases++[(⟨0,0,n⟩:SCase)]).map ba:=by rw[List.map_append];simp[ba,x9,L3]
  have hx1:=hx.1
  rcases hA with⟨rfl,h0⟩|⟨q,rfl,hp1,hq⟩
  ·skip
   have n0:(id=H.nx)=False:=eFo
   have n1:(id=H.nx+1)=False:=eFo
   have n2:(id=H.nx+1+1)=False:=eFo
   refine Tq5 ?_
   refine⟨Xg,⟨Xa,Xa,fun z hz=>by rw[List.mem_singleton.1 hz];rfl⟩,Xg,?_⟩
   have hC:=fun a b c d=>kq (a:=a) (b:=b) (c:=c) (d:=d) (M':=m8 (.own (H.nx+1)) {x with cases:=x.cases++[⟨0,0,n⟩]}) hp0 hcl hg0 (by simp only[m8,zns,znt,znd,and_true,true_and];exact lv (iE Xa) gh)
   exact jg (hK _ {x with cases:=x.cases++[⟨0,0,n⟩]} (.own (H.nx+1)) (hC _ _ _ _) (uO hx ⟨nE,nE⟩)) Xk (hC _ _ _ _).cl
  ·skip
   have n0:(id=H.nx)=False:=eFo
   have n1:(id=H.nx+1)=False:=eFo
   have n2:(id=H.nx+1+1)=False:=eFo
   have hlq:=glq hq
   have hqi:id≠q:=fun e=>by rw[← e,hg]at hq;cases hq
   have nq:(q=id)=False:=eq_false (fun e=>hqi e.symm)
   have nq2:(id=q)=False:=eq_false hqi
   have q0:(q=H.nx)=False:=eFo
   have q1:(q=H.nx+1)=False:=eFo
   have hcq:=fun o=>aB ((AHeap.get_set_ne (H:=H) (i:=q) o hqi).trans hg)
   refine Tq4 ?_
   refine⟨Xg,⟨Xa,Xa,fun z hz=>by rw[List.mem_singleton.1 hz];rfl⟩,Xg,?_⟩
   have hC:=fun a b c d=>mj (a:=a) (b:=b) (c:=c) (d:=d) (M':=m8 (.own q) {x with cases:=x.cases++[⟨0,0,n⟩]}) hp0 hp1 hcl hg0 hq (by simp only[m8,zns,znt,znd,and_true,true_and];exact lv (iE hlq) gh)
   exact jg (hK _ {x with cases:=x.cases++[⟨0,0,n⟩]} (.own q) (hC _ _ _ _) (uO hx ⟨nE,nE⟩)) Xk (hC _ _ _ _).cl
theorem App.lt2{n0:Nat}{H:AHeap}{m:Mark}{sz n n':Nat}(h:App n0 H m sz n)(hn:H.nx≤n'):∀ q,m=.own q→q<n':=fun q hq=>Nat.lt_of_lt_of_le (h.lt q hq) hn
theorem zb{l:List Int}{n:Int}:inL l++[.int .i64 n]=inL (l++[n]):=Xp
def DT{n:Nat}{m:Mark}{l:List Int}(hm:∀ q,m=.own q→q<n):AV.lt n (.slice m 1 (inL l)):=lv hm fun x=>by rw[znd];trivial
def okP{k:Nat}{x:SAction}{t:By}{n:Int}(h:yW k x)(ht:t.length≤62):yW (k+1) {x with params:=x.params++[⟨t,n⟩]}:=by
 obtain⟨h1,h2,h3,h4,h5,h6⟩:=h
 exact⟨h1,Xf,fun p hp=>(List.mem_append.1 hp).elim (h3 p) fun e=>by rw[List.mem_singleton.1 e];exact ht,Xd,h5,h6⟩
def Fz{k:Nat}{x:SAction}{p:SPrim}(h:yW k x)(hp:vr p):yW (k+1) {x with body:=x.body++[p]}:=by
 obtain⟨h1,h2,h3,h4,h5,h6⟩:=h
 exact⟨h1,Xd,h3,Xf,fun q hq=>(List.mem_append.1 hq).elim (h5 q) fun e=>by rw[List.mem_singleton.1 e];exact hp,h6⟩
def RP{k:Nat}{x:SAction}(h:yW k x):yW (k+1) x:=by
 obtain⟨h1,h2,h3,h4,h5,h6⟩:=h
 exact⟨h1,Xa,h3,Xa,h5,h6⟩
def ltA{n:Nat}{m1 m2:Mark}{x:SAction}(h1:∀ q,m1=.own q→q<n)(h2:∀ q,m2=.own q→q<n):ltL n (pC m1 m2 x):=by
 simp only[pC,zns,znt,znd,znf,and_true,true_and]
 exact⟨lv h1 fX,lv h2 iH⟩
def wZ:Wz→AHeap→(By1)→Prop
 |[.ptr id off,.int .i64 a,.int .i64 n,.str t],H,K=>∃ (A B:Wz) (x:SAction) (m1 m2:Mark) (k p0:Nat),(H.get id=some (.cells (A++(pC m1 m2 x++B)))∧off=A.length∧p0≤id∧rZ a∧App p0 H m1 2 x.params.length∧App p0 H m2 6 x.body.length∧k≤10∧yW k x∧t.length≤62) ∧
   ∀ H1 x' m1' m2',Chg p0 H H1 id (A++(pC m1' m2' x'++B))→yW (k+1) x'→K (.tup []) H1
 |_,_,_=>False
def ij:EntOk Tryz.prog 20 (Ent.some wZ):=by
 refine EntOk.some fun args H K h=>?_
 unfold wZ at h
 split at h<;>try exact h.elim
 rename_i id off a n t
 obtain⟨A,B,x,m1,m2,k,p0,⟨hg,rfl,hp0,ha,hA,hA2,hk,hx,ht⟩,hK⟩:=h
 have hg0:=hg
 simp only[pC,yal,yak]at hg
 have hl:=glq hg
 have hcs:=aB hg
 obtain⟨w1,w2,w3⟩:=Fo ha
 generalize hd:a.tdiv 16=d at *
 have hm1:=Int.emod_nonneg d (show(6:Int)≠0 by decide)
 have hm2:=Int.emod_lt_of_pos d (show(0:Int)<6 by decide)
 refine ACallsP.fS aD (tCq iX tNq) Tryz.func20 [] (T:=aC []) (h:=fun hcl=>?_)
 simp only[go_sem,gT,hd,w1]
 refine⟨Xb,⟨Xa,Xa,Xb,Xb⟩,?_⟩
 rcases(Xa:d%6=0∨d%6=1∨d%6=2∨d%6=3∨d%6=4∨d%6=5)with c|c|c|c|c|c<;>rw[c]
 ·refine Tq1 ?_
  have hC:=gI (M':=pC m1 m2 {x with id:=n}) hp0 hcl hg0 (by exact ltA hA.lt hA2.lt)
  refine⟨Xg,?_⟩
  exact jg (hK _ {x with id:=n} m1 m2 hC (RP hx)) hC.nx hC.cl
 ·refine Tq1 ?_
  have hC:=gI (M':=pC m1 m2 {x with name:=t}) hp0 hcl hg0 (by exact ltA hA.lt hA2.lt)
  refine⟨Xg,?_⟩
  exact jg (hK _ {x with name:=t} m1 m2 hC ⟨ht,(RP hx).2⟩) hC.nx hC.cl
 ·have hsn:x.params.map aL++[.agg [.str t,.int .i64 n]]=(x.params++[(⟨t,n⟩:SParam)]).map aL:=by rw[List.map_append];simp[aL]
  have hx1:=hx.2.1
  rcases hA with⟨rfl,h0⟩|⟨q,rfl,hp1,hq⟩
  ·skip
   have n0:(id=H.nx)=False:=eFo
   have n1:(id=H.nx+1)=False:=eFo
   have n2:(id=H.nx+1+1)=False:=eFo
   refine Tq5 ?_
   refine⟨Xg,⟨Xa,Xa,fun z hz=>by rw[List.mem_singleton.1 hz];rfl⟩,Xg,?_⟩
   have hC:=fun a b c d=>kq (a:=a) (b:=b) (c:=c) (d:=d) (M':=pC (.own (H.nx+1)) m2 {x with params:=x.params++[⟨t,n⟩]}) hp0 hcl hg0 (by exact ltA (iE Xa) (hA2.lt2 Xa))
   exact jg (hK _ {x with params:=x.params++[⟨t,n⟩]} (.own (H.nx+1)) m2 (hC _ _ _ _) (okP hx ht)) Xk (hC _ _ _ _).cl
  ·skip
   have n0:(id=H.nx)=False:=eFo
   have n1:(id=H.nx+1)=False:=eFo
   have n2:(id=H.nx+1+1)=False:=eFo
   have hlq:=glq hq
   have hqi:id≠q:=fun e=>by rw[← e,hg]at hq;cases hq
   have nq:(q=id)=False:=eq_false (fun e=>hqi e.symm)
   have nq2:(id=q)=False:=eq_false hqi
   have q0:(q=H.nx)=False:=eFo
   have q1:(q=H.nx+1)=False:=eFo
   have hcq:=fun o=>aB ((AHeap.get_set_ne (H:=H) (i:=q) o hqi).trans hg)
   refine Tq4 ?_
   refine⟨Xg,⟨Xa,Xa,fun z hz=>by rw[List.mem_singleton.1 hz];rfl⟩,Xg,?_⟩
   have hC:=fun a b c d=>mj (a:=a) (b:=b) (c:=c) (d:=d) (M':=pC (.own q) m2 {x with params:=x.params++[⟨t,n⟩]}) hp0 hp1 hcl hg0 hq (by exact ltA (iE hlq) (hA2.lt2 Xa))
   exact jg (hK _ {x with params:=x.params++[⟨t,n⟩]} (.own q) m2 (hC _ _ _ _) (okP hx ht)) Xk (hC _ _ _ _).cl
 ·have hsn:x.body.map aU++[.agg [.int .i64 (cP .i64 n 7),.int .i64 (cP .i64 (fI .i64 n 3) 15),.int .i64 (cP .i64 (fI .i64 n 7) 3),.int .i64 (cP .i64 (fI .i64 n 9) 3),.int .u64 0,.int .u64 0]]=(x.body++[(⟨cP .i64 n 7,cP .i64 (fI .i64 n 3) 15,cP .i64 (fI .i64 n 7) 3,cP .i64 (fI .i64 n 9) 3,0⟩:SPrim)]).map aU:=by rw[List.map_append];simp[aU,x9,L3]
  have hx1:=hx.2.2.2.1
  rcases hA2 with⟨rfl,h0⟩|⟨q,rfl,hp1,hq⟩
  ·skip
   have n0:(id=H.nx)=False:=eFo
   have n1:(id=H.nx+1)=False:=eFo
   have n2:(id=H.nx+1+1)=False:=eFo
   refine Tq5 ?_
   refine⟨Xg,Xb,Xb,Xb,⟨Xa,Xa,fun z hz=>by rw[List.mem_singleton.1 hz];rfl⟩,Xg,?_⟩
   have hC:=fun a b c d=>kq (a:=a) (b:=b) (c:=c) (d:=d) (M':=pC m1 (.own (H.nx+1)) {x with body:=x.body++[⟨cP .i64 n 7,cP .i64 (fI .i64 n 3) 15,cP .i64 (fI .i64 n 7) 3,cP .i64 (fI .i64 n 9) 3,0⟩]}) hp0 hcl hg0 (by exact ltA (hA.lt2 Xa) (iE Xa))
   exact jg (hK _ {x with body:=x.body++[⟨cP .i64 n 7,cP .i64 (fI .i64 n 3) 15,cP .i64 (fI .i64 n 7) 3,cP .i64 (fI .i64 n 9) 3,0⟩]} m1 (.own (H.nx+1)) (hC _ _ _ _) (Fz hx nE)) Xk (hC _ _ _ _).cl
  ·skip
   have n0:(id=H.nx)=False:=eFo
   have n1:(id=H.nx+1)=False:=eFo
   have n2:(id=H.nx+1+1)=False:=eFo
   have hlq:=glq hq
   have hqi:id≠q:=fun e=>by rw[← e,hg]at hq;cases hq
   have nq:(q=id)=False:=eq_false (fun e=>hqi e.symm)
   have nq2:(id=q)=False:=eq_false hqi
   have q0:(q=H.nx)=False:=eFo
   have q1:(q=H.nx+1)=False:=eFo
   have hcq:=fun o=>aB ((AHeap.get_set_ne (H:=H) (i:=q) o hqi).trans hg)
   refine Tq4 ?_
   refine⟨Xg,Xb,Xb,Xb,⟨Xa,Xa,fun z hz=>by rw[List.mem_singleton.1 hz];rfl⟩,Xg,?_⟩
   have hC:=fun a b c d=>mj (a:=a) (b:=b) (c:=c) (d:=d) (M':=pC m1 (.own q) {x with body:=x.body++[⟨cP .i64 n 7,cP .i64 (fI .i64 n 3) 15,cP .i64 (fI .i64 n 7) 3,cP .i64 (fI .i64 n 9) 3,0⟩]}) hp0 hp1 hcl hg0 hq (by exact ltA (hA.lt2 Xa) (iE hlq))
   exact jg (hK _ {x with body:=x.body++[⟨cP .i64 n 7,cP .i64 (fI .i64 n 3) 15,cP .i64 (fI .i64 n 7) 3,cP .i64 (fI .i64 n 9) 3,0⟩]} m1 (.own q) (hC _ _ _ _) (Fz hx nE)) Xk (hC _ _ _ _).cl
 ·have hsn:x.body.map aU++[.agg [.int .i64 (IntKind.i64.wrap (1+cP .i64 n 3)),.int .i64 (IntKind.i64.wrap (3+cP .i64 (fI .i64 n 2) 7)),.int .i64 1,.int .i64 0,.int .u64 0,.int .u64 (IntKind.u64.wrap (cP .i64 (fI .i64 n 5) 65535))]]=(x.body++[(⟨IntKind.i64.wrap (1+cP .i64 n 3),IntKind.i64.wrap (3+cP .i64 (fI .i64 n 2) 7),1,0,loV (cP .i64 (fI .i64 n 5) 65535)⟩:SPrim)]).map aU:=by rw[List.map_append];simp[aU,x9,L3]
  have hx1:=hx.2.2.2.1
  rcases hA2 with⟨rfl,h0⟩|⟨q,rfl,hp1,hq⟩
  ·skip
   have n0:(id=H.nx)=False:=eFo
   have n1:(id=H.nx+1)=False:=eFo
   have n2:(id=H.nx+1+1)=False:=eFo
   refine Tq5 ?_
   refine⟨Xg,Xb,Xb,⟨Xa,Xa,fun z hz=>by rw[List.mem_singleton.1 hz];rfl⟩,Xg,?_⟩
   have hC:=fun a b c d=>kq (a:=a) (b:=b) (c:=c) (d:=d) (M':=pC m1 (.own (H.nx+1)) {x with body:=x.body++[⟨IntKind.i64.wrap (1+cP .i64 n 3),IntKind.i64.wrap (3+cP .i64 (fI .i64 n 2) 7),1,0,loV (cP .i64 (fI .i64 n 5) 65535)⟩]}) hp0 hcl hg0 (by exact ltA (hA.lt2 Xa) (iE Xa))
   exact jg (hK _ {x with body:=x.body++[⟨IntKind.i64.wrap (1+cP .i64 n 3),IntKind.i64.wrap (3+cP .i64 (fI .i64 n 2) 7),1,0,loV (cP .i64 (fI .i64 n 5) 65535)⟩]} m1 (.own (H.nx+1)) (hC _ _ _ _) (Fz hx (mw _))) Xk (hC _ _ _ _).cl
  ·skip
   have n0:(id=H.nx)=False:=eFo
   have n1:(id=H.nx+1)=False:=eFo
   have n2:(id=H.nx+1+1)=False:=eFo
   have hlq:=glq hq
   have hqi:id≠q:=fun e=>by rw[← e,hg]at hq;cases hq
   have nq:(q=id)=False:=eq_false (fun e=>hqi e.symm)
   have nq2:(id=q)=False:=eq_false hqi
   have q0:(q=H.nx)=False:=eFo
   have q1:(q=H.nx+1)=False:=eFo
   have hcq:=fun o=>aB ((AHeap.get_set_ne (H:=H) (i:=q) o hqi).trans hg)
   refine Tq4 ?_
   refine⟨Xg,Xb,Xb,⟨Xa,Xa,fun z hz=>by rw[List.mem_singleton.1 hz];rfl⟩,Xg,?_⟩
   have hC:=fun a b c d=>mj (a:=a) (b:=b) (c:=c) (d:=d) (M':=pC m1 (.own q) {x with body:=x.body++[⟨IntKind.i64.wrap (1+cP .i64 n 3),IntKind.i64.wrap (3+cP .i64 (fI .i64 n 2) 7),1,0,loV (cP .i64 (fI .i64 n 5) 65535)⟩]}) hp0 hp1 hcl hg0 hq (by exact ltA (hA.lt2 Xa) (iE hlq))
   exact jg (hK _ {x with body:=x.body++[⟨IntKind.i64.wrap (1+cP .i64 n 3),IntKind.i64.wrap (3+cP .i64 (fI .i64 n 2) 7),1,0,loV (cP .i64 (fI .i64 n 5) 65535)⟩]} m1 (.own q) (hC _ _ _ _) (Fz hx (mw _))) Xk (hC _ _ _ _).cl
 ·have hsn:x.body.map aU++[.agg [.int .i64 7,.int .i64 0,.int .i64 2,.int .i64 (cP .i64 n 15),.int .u64 0,.int .u64 0]]=(x.body++[(⟨7,0,2,cP .i64 n 15,0⟩:SPrim)]).map aU:=by rw[List.map_append];simp[aU,x9,L3]
  have hx1:=hx.2.2.2.1
  rcases hA2 with⟨rfl,h0⟩|⟨q,rfl,hp1,hq⟩
  ·skip
   have n0:(id=H.nx)=False:=eFo
   have n1:(id=H.nx+1)=False:=eFo
   have n2:(id=H.nx+1+1)=False:=eFo
   refine Tq5 ?_
   refine⟨Xg,⟨Xa,Xa,fun z hz=>by rw[List.mem_singleton.1 hz];rfl⟩,Xg,?_⟩
   have hC:=fun a b c d=>kq (a:=a) (b:=b) (c:=c) (d:=d) (M':=pC m1 (.own (H.nx+1)) {x with body:=x.body++[⟨7,0,2,cP .i64 n 15,0⟩]}) hp0 hcl hg0 (by exact ltA (hA.lt2 Xa) (iE Xa))
   exact jg (hK _ {x with body:=x.body++[⟨7,0,2,cP .i64 n 15,0⟩]} m1 (.own (H.nx+1)) (hC _ _ _ _) (Fz hx nE)) Xk (hC _ _ _ _).cl
  ·skip
   have n0:(id=H.nx)=False:=eFo
   have n1:(id=H.nx+1)=False:=eFo
   have n2:(id=H.nx+1+1)=False:=eFo
   have hlq:=glq hq
   have hqi:id≠q:=fun e=>by rw[← e,hg]at hq;cases hq
   have nq:(q=id)=False:=eq_false (fun e=>hqi e.symm)
   have nq2:(id=q)=False:=eq_false hqi
   have q0:(q=H.nx)=False:=eFo
   have q1:(q=H.nx+1)=False:=eFo
   have hcq:=fun o=>aB ((AHeap.get_set_ne (H:=H) (i:=q) o hqi).trans hg)
   refine Tq4 ?_
   refine⟨Xg,⟨Xa,Xa,fun z hz=>by rw[List.mem_singleton.1 hz];rfl⟩,Xg,?_⟩
   have hC:=fun a b c d=>mj (a:=a) (b:=b) (c:=c) (d:=d) (M':=pC m1 (.own q) {x with body:=x.body++[⟨7,0,2,cP .i64 n 15,0⟩]}) hp0 hp1 hcl hg0 hq (by exact ltA (hA.lt2 Xa) (iE hlq))
   exact jg (hK _ {x with body:=x.body++[⟨7,0,2,cP .i64 n 15,0⟩]} m1 (.own q) (hC _ _ _ _) (Fz hx nE)) Xk (hC _ _ _ _).cl
def ni(m1 m2 m3:Mark)(x:STable):Wz:=[.int .i64 x.id,.str x.name,.slice m1 3 (x.keys.map aZ),.slice m2 1 (inL x.actions),.int .i64 x.dflt,.slice m3 2 (x.dargs.map vv),.int .i64 x.size,.str x.restr]
def RR{n:Nat}(v:Nat):AV.lt n (vv v):=by simp only[vv,znp,vc,zns,znt,znd,and_true]
def ltT{n:Nat}{m1 m2 m3:Mark}{x:STable}(h1:∀ q,m1=.own q→q<n)(h2:∀ q,m2=.own q→q<n)(h3:∀ q,m3=.own q→q<n):ltL n (ni m1 m2 m3 x):=by
 simp only[ni,zns,znt,znd,znf,and_true,true_and]
 exact⟨lv h1 jI,DT h2,lv h3 RR⟩
def S9{n:Nat}:∀ q,Mark.any=.own q→q<n:=fun q e=>by cases e
def B2{k:Nat}{x:STable}(h:sL k x):sL (k+1) x:=by
 obtain⟨h1,h2,h3,h4,h5,h6,h7⟩:=h
 exact⟨h1,Xa,h3,Xa,Xa,h6,h7⟩
def Ub{k:Nat}{x:STable}{c:SKey}(h:sL k x)(hc:c.name.length≤62):sL (k+1) {x with keys:=x.keys++[c]}:=by
 obtain⟨h1,h2,h3,h4,h5,h6,h7⟩:=h
 exact⟨h1,Xf,fun p hp=>(List.mem_append.1 hp).elim (h3 p) fun e=>by rw[List.mem_singleton.1 e];exact hc,Xd,Xd,h6,h7⟩
def UJ{k j:Nat}{x:STable}(h:sL k x):sL (k+1) {x with keys:=x.keys.take j}:=by
 obtain⟨h1,h2,h3,h4,h5,h6,h7⟩:=h
 exact⟨h1,Xf,fun p hp=>h3 p (List.mem_of_mem_take hp),Xd,Xd,h6,h7⟩
def Uf{k:Nat}{x:STable}{n:Int}(h:sL k x):sL (k+1) {x with actions:=x.actions++[n]}:=by
 obtain⟨h1,h2,h3,h4,h5,h6,h7⟩:=h
 exact⟨h1,Xd,h3,Xf,Xd,h6,h7⟩
def TE{k:Nat}{x:STable}{v:Nat}(h:sL k x)(hv:ng v):sL (k+1) {x with dargs:=x.dargs++[v]}:=by
 obtain⟨h1,h2,h3,h4,h5,h6,h7⟩:=h
 exact⟨h1,Xd,h3,Xd,Xf,fun p hp=>(List.mem_append.1 hp).elim (h6 p) fun e=>by rw[List.mem_singleton.1 e];exact hv,h7⟩
def Un(n:Int):vv (loV n)=.agg [.int .u64 0,.int .u64 (IntKind.u64.wrap n)]:=congrArg AV.agg (x9 n)
def MJ{n0:Nat}{H:AHeap}{id:Nat}{cs:Wz}(h:H.Closed)(hg:H.get id=some (.cells cs)):Chg n0 H H id cs:=⟨hg,nrq _,h,fun _ _ _ hx=>hx,fun _ _ _ hx=>hx⟩
def yI:Wz→AHeap→(By1)→Prop
 |[.ptr id off,.int .i64 a,.int .i64 n,.str t],H,K=>∃ (A B:Wz) (x:STable) (m1 m2 m3:Mark) (k p0:Nat),(H.get id=some (.cells (A++(ni m1 m2 m3 x++B)))∧off=A.length∧p0≤id∧rZ a∧App p0 H m1 3 x.keys.length∧App p0 H m2 1 x.actions.length∧App p0 H m3 2 x.dargs.length∧(a.tdiv 16%9=8→x.keys=[])∧k≤10∧sL k x∧t.length≤62) ∧
   ∀ H1 x' m1' m2' m3',Chg p0 H H1 id (A++(ni m1' m2' m3' x'++B))→sL (k+1) x'→K (.tup []) H1
 |_,_,_=>False
def jt:EntOk Tryz.prog 21 (Ent.some yI):=by
 refine EntOk.some fun args H K h=>?_
 unfold yI at h
 split at h<;>try exact h.elim
 rename_i id off a n t
 obtain⟨A,B,x,m1,m2,m3,k,p0,⟨hg,rfl,hp0,ha,hA,hA2,hA3,h8,hk,hx,ht⟩,hK⟩:=h
 have hg0:=hg
 simp only[ni,yal,yak]at hg
 have hl:=glq hg
 have hcs:=aB hg
 obtain⟨w1,w2,w3⟩:=Fo ha
 generalize hd:a.tdiv 16=d at *
 have hm1:=Int.emod_nonneg d (show(9:Int)≠0 by decide)
 have hm2:=Int.emod_lt_of_pos d (show(0:Int)<9 by decide)
 refine ACallsP.fS aD (tCq iX tNq) Tryz.func21 [] (T:=aC [(10,[[],[],[],[],[],[],[],[],[],[],[],[],[],[],[],[4,8,12]])]) (h:=fun hcl=>?_)
 simp only[go_sem,gT,hd,w1]
 refine⟨Xb,⟨Xa,Xa,Xb,Xb⟩,?_⟩
 rcases(Xa:d%9=0∨d%9=1∨d%9=2∨d%9=3∨d%9=4∨d%9=5∨d%9=6∨d%9=7∨d%9=8)with c|c|c|c|c|c|c|c|c<;>rw[c]
 ·refine Tq1 ?_
  have hC:=gI (M':=ni m1 m2 m3 {x with id:=n}) hp0 hcl hg0 (by exact ltT hA.lt hA2.lt hA3.lt)
  refine⟨Xg,?_⟩
  exact jg (hK _ {x with id:=n} m1 m2 m3 hC (B2 hx)) hC.nx hC.cl
 ·refine Tq1 ?_
  have hC:=gI (M':=ni m1 m2 m3 {x with name:=t}) hp0 hcl hg0 (by exact ltT hA.lt hA2.lt hA3.lt)
  refine⟨Xg,?_⟩
  exact jg (hK _ {x with name:=t} m1 m2 m3 hC ⟨ht,(B2 hx).2⟩) hC.nx hC.cl
 ·have hsn:x.keys.map aZ++[.agg [.str t,.int .i64 (IntKind.i64.wrap (1+cP .i64 n 15)),.int .i64 (cP .i64 (fI .i64 n 4) 7)]]=(x.keys++[(⟨t,IntKind.i64.wrap (1+cP .i64 n 15),cP .i64 (fI .i64 n 4) 7⟩:SKey)]).map aZ:=by rw[List.map_append];simp[aZ]
  have hx1:=hx.2.1
  rcases hA with⟨rfl,h0⟩|⟨q,rfl,hp1,hq⟩
  ·skip
   have n0:(id=H.nx)=False:=eFo
   have n1:(id=H.nx+1)=False:=eFo
   have n2:(id=H.nx+1+1)=False:=eFo
   refine Tq5 ?_
   refine⟨Xg,Xb,⟨Xa,Xa,fun z hz=>by rw[List.mem_singleton.1 hz];rfl⟩,Xg,?_⟩
   have hC:=fun a b c d=>kq (a:=a) (b:=b) (c:=c) (d:=d) (M':=ni (.own (H.nx+1)) m2 m3 {x with keys:=x.keys++[⟨t,IntKind.i64.wrap (1+cP .i64 n 15),cP .i64 (fI .i64 n 4) 7⟩]}) hp0 hcl hg0 (by exact ltT (iE Xa) (hA2.lt2 Xa) (hA3.lt2 Xa))
   exact jg (hK _ {x with keys:=x.keys++[⟨t,IntKind.i64.wrap (1+cP .i64 n 15),cP .i64 (fI .i64 n 4) 7⟩]} (.own (H.nx+1)) m2 m3 (hC _ _ _ _) (Ub hx ht)) Xk (hC _ _ _ _).cl
  ·skip
   have n0:(id=H.nx)=False:=eFo
   have n1:(id=H.nx+1)=False:=eFo
   have n2:(id=H.nx+1+1)=False:=eFo
   have hlq:=glq hq
   have hqi:id≠q:=fun e=>by rw[← e,hg]at hq;cases hq
   have nq:(q=id)=False:=eq_false (fun e=>hqi e.symm)
   have nq2:(id=q)=False:=eq_false hqi
   have q0:(q=H.nx)=False:=eFo
   have q1:(q=H.nx+1)=False:=eFo
   have hcq:=fun o=>aB ((AHeap.get_set_ne (H:=H) (i:=q) o hqi).trans hg)
   refine Tq4 ?_
   refine⟨Xg,Xb,⟨Xa,Xa,fun z hz=>by rw[List.mem_singleton.1 hz];rfl⟩,Xg,?_⟩
   have hC:=fun a b c d=>mj (a:=a) (b:=b) (c:=c) (d:=d) (M':=ni (.own q) m2 m3 {x with keys:=x.keys++[⟨t,IntKind.i64.wrap (1+cP .i64 n 15),cP .i64 (fI .i64 n 4) 7⟩]}) hp0 hp1 hcl hg0 hq (by exact ltT (iE hlq) (hA2.lt2 Xa) (hA3.lt2 Xa))
   exact jg (hK _ {x with keys:=x.keys++[⟨t,IntKind.i64.wrap (1+cP .i64 n 15),cP .i64 (fI .i64 n 4) 7⟩]} (.own q) m2 m3 (hC _ _ _ _) (Ub hx ht)) Xk (hC _ _ _ _).cl
 ·have hx1:=hx.2.1
  have hw:IntKind.i64.wrap ((x.keys.length:Int)-1)=(x.keys.length:Int)-1:=Xe
  obtain⟨j,hj⟩:∃ j:Nat,max ((x.keys.length:Int)-1) 0=(j:Int):=⟨(max ((x.keys.length:Int)-1) 0).toNat,Xa⟩
  refine Tq1 ?_
  simp only[hw,hj,iNq,yap,← List.map_take]
  have hC:=gI (M':=ni .any m2 m3 {x with keys:=x.keys.take j}) hp0 hcl hg0 (by exact ltT S9 hA2.lt hA3.lt)
  refine⟨Xg,Xg,⟨Xa,Xa,Xa⟩,Xg,?_⟩
  exact jg (hK _ {x with keys:=x.keys.take j} .any m2 m3 hC (UJ hx)) hC.nx hC.cl
 ·have hsn:inL x.actions++[.int .i64 n]=inL (x.actions++[n]):=by exact zb
  have hx1:=hx.2.2.2.1
  have hil:(inL x.actions).length=x.actions.length:=Xp
  rcases hA2 with⟨rfl,h0⟩|⟨q,rfl,hp1,hq⟩
  ·skip
   have n0:(id=H.nx)=False:=eFo
   have n1:(id=H.nx+1)=False:=eFo
   have n2:(id=H.nx+1+1)=False:=eFo
   refine Tq38 ?_
   refine⟨Xg,⟨Xa,Xa,fun z hz=>by rw[List.mem_singleton.1 hz];rfl⟩,Xg,?_⟩
   have hC:=fun a b c d=>kq (a:=a) (b:=b) (c:=c) (d:=d) (M':=ni m1 (.own (H.nx+1)) m3 {x with actions:=x.actions++[n]}) hp0 hcl hg0 (by exact ltT (hA.lt2 Xa) (iE Xa) (hA3.lt2 Xa))
   exact jg (hK _ {x with actions:=x.actions++[n]} m1 (.own (H.nx+1)) m3 (hC _ _ _ _) (Uf hx)) Xk (hC _ _ _ _).cl
  ·skip
   have n0:(id=H.nx)=False:=eFo
   have n1:(id=H.nx+1)=False:=eFo
   have n2:(id=H.nx+1+1)=False:=eFo
   have hlq:=glq hq
   have hqi:id≠q:=fun e=>by rw[← e,hg]at hq;cases hq
   have nq:(q=id)=False:=eq_false (fun e=>hqi e.symm)
   have nq2:(id=q)=False:=eq_false hqi
   have q0:(q=H.nx)=False:=eFo
   have q1:(q=H.nx+1)=False:=eFo
   have hcq:=fun o=>aB ((AHeap.get_set_ne (H:=H) (i:=q) o hqi).trans hg)
   refine Tq36 ?_
   refine⟨Xg,⟨Xa,Xa,fun z hz=>by rw[List.mem_singleton.1 hz];rfl⟩,Xg,?_⟩
   have hC:=fun a b c d=>mj (a:=a) (b:=b) (c:=c) (d:=d) (M':=ni m1 (.own q) m3 {x with actions:=x.actions++[n]}) hp0 hp1 hcl hg0 hq (by exact ltT (hA.lt2 Xa) (iE hlq) (hA3.lt2 Xa))
   exact jg (hK _ {x with actions:=x.actions++[n]} m1 (.own q) m3 (hC _ _ _ _) (Uf hx)) Xk (hC _ _ _ _).cl
 ·refine Tq1 ?_
  have hC:=gI (M':=ni m1 m2 m3 {x with dflt:=n}) hp0 hcl hg0 (by exact ltT hA.lt hA2.lt hA3.lt)
  refine⟨Xg,?_⟩
  exact jg (hK _ {x with dflt:=n} m1 m2 m3 hC (B2 hx)) hC.nx hC.cl
 ·have hsn:x.dargs.map vv++[.agg [.int .u64 0,.int .u64 (IntKind.u64.wrap n)]]=(x.dargs++[loV n]).map vv:=by rw[List.map_append];simp[Un]
  have hx1:=hx.2.2.2.2.1
  rcases hA3 with⟨rfl,h0⟩|⟨q,rfl,hp1,hq⟩
  ·skip
   have n0:(id=H.nx)=False:=eFo
   have n1:(id=H.nx+1)=False:=eFo
   have n2:(id=H.nx+1+1)=False:=eFo
   refine Tq5 ?_
   refine⟨Xg,⟨Xa,Xa,fun z hz=>by rw[List.mem_singleton.1 hz];rfl⟩,Xg,?_⟩
   have hC:=fun a b c d=>kq (a:=a) (b:=b) (c:=c) (d:=d) (M':=ni m1 m2 (.own (H.nx+1)) {x with dargs:=x.dargs++[loV n]}) hp0 hcl hg0 (by exact ltT (hA.lt2 Xa) (hA2.lt2 Xa) (iE Xa))
   exact jg (hK _ {x with dargs:=x.dargs++[loV n]} m1 m2 (.own (H.nx+1)) (hC _ _ _ _) (TE hx (mw _))) Xk (hC _ _ _ _).cl
  ·skip
   have n0:(id=H.nx)=False:=eFo
   have n1:(id=H.nx+1)=False:=eFo
   have n2:(id=H.nx+1+1)=False:=eFo
   have hlq:=glq hq
   have hqi:id≠q:=fun e=>by rw[← e,hg]at hq;cases hq
   have nq:(q=id)=False:=eq_false (fun e=>hqi e.symm)
   have nq2:(id=q)=False:=eq_false hqi
   have q0:(q=H.nx)=False:=eFo
   have q1:(q=H.nx+1)=False:=eFo
   have hcq:=fun o=>aB ((AHeap.get_set_ne (H:=H) (i:=q) o hqi).trans hg)
   refine Tq4 ?_
   refine⟨Xg,⟨Xa,Xa,fun z hz=>by rw[List.mem_singleton.1 hz];rfl⟩,Xg,?_⟩
   have hC:=fun a b c d=>mj (a:=a) (b:=b) (c:=c) (d:=d) (M':=ni m1 m2 (.own q) {x with dargs:=x.dargs++[loV n]}) hp0 hp1 hcl hg0 hq (by exact ltT (hA.lt2 Xa) (hA2.lt2 Xa) (iE hlq))
   exact jg (hK _ {x with dargs:=x.dargs++[loV n]} m1 m2 (.own q) (hC _ _ _ _) (TE hx (mw _))) Xk (hC _ _ _ _).cl
 ·refine Tq1 ?_
  have hC:=gI (M':=ni m1 m2 m3 {x with size:=n}) hp0 hcl hg0 (by exact ltT hA.lt hA2.lt hA3.lt)
  refine⟨Xg,?_⟩
  exact jg (hK _ {x with size:=n} m1 m2 m3 hC (B2 hx)) hC.nx hC.cl
 ·have hke:=h8 c
  rw[hke]at hg hcs
  have d0:decide (((0:Nat):Int)>0)=false:=rfl
  simp only[aX,aA,bhq,go_sem,Int.reduceBEq,hg,hcs,dd,bx,db,cr,splice,bh,yau,yav,d0]
  refine⟨Xg,?_⟩
  have hC:=MJ (n0:=p0) hcl hg0
  exact jg (hK _ x m1 m2 m3 hC (B2 hx)) hC.nx hC.cl
def SA(kid len:Nat)(m2 m3:Mark)(x:STable):Wz:=[.int .i64 x.id,.str x.name,.ms kid 0 3 len,.slice m2 1 (inL x.actions),.int .i64 x.dflt,.slice m3 2 (x.dargs.map vv),.int .i64 x.size,.str x.restr]
def vH:ECt
 |[.ptr id off,.int .i64 a,.int .i64 n,.str t],H,K=>∃ (A B C:Wz) (x:STable) (m2 m3:Mark) (kid len:Nat) (k0:SKey),(H.get id=some (.cells (A++(SA kid (len+1) m2 m3 x++B)))∧off=A.length∧rZ a∧a.tdiv 16%9=8∧kid≠id∧len≤1000∧H.get kid=some (.cells (.str k0.name::.int .i64 k0.field::.int .i64 k0.kind::C))) ∧
   K (.ret (.tup [])) (H.set kid (.cells (.str k0.name::.int .i64 k0.field::.int .i64 n::C)))
 |_,_,_=>False
def A7:EEe 21 vH:=by
 refine Yef fun _ H K h=>?_
 unfold vH at h
 split at h<;>try exact h.elim
 rename_i id off a n t
 obtain⟨A,B,C,x,m2,m3,kid,len,k0,⟨hg,rfl,ha,h8,hne,hln,hk⟩,hK⟩:=h
 refine⟨_,_,hK,?_⟩
 clear hK
 simp only[SA,yal,yak]at hg
 have hl:=glq hg
 have hlk:=glq hk
 have hcs:=aB hg
 have hck:=aB hk
 obtain⟨w1,w2,w3⟩:=Fo ha
 generalize hd:a.tdiv 16=d at *
 refine Yfw aD (tCq iX tNq) Tryz.func21 [] (nrq _) (T:=aC [(10,[[],[],[],[],[],[],[],[],[],[],[],[],[],[],[],[4,8,12]])]) (h:=fun hcl=>?_)
 simp only[go_sem,gT,hd,w1]
 refine⟨Xb,⟨Xa,Xa,Xb,Xb⟩,?_⟩
 rw[h8]
 have d0:decide (((len+1:Nat):Int)>0)=true:=dtq Xa
 have hlC:∀ z∈C,AV.lt H.nx z:=fun z hz=>by
  obtain⟨i,hi,rfl⟩:=List.getElem_of_mem hz
  have:=hcl kid _ hk (i+3) (by simp only[yaz];omega)
  simpa using this
 have hc2:(H.set kid (.cells (.str k0.name::.int .i64 k0.field::.int .i64 n::C))).Closed:=bA hcl (by
  simp only[zns,znf,znd,true_and]
  exact ltL_iff.2 fun j hj=>hlC _ (gMq hj))
 simp only[aX,aA,bhq,go_sem,Int.reduceBEq,hg,hcs,dd,bx,db,cr,splice,bh,yau,yav,d0,hk,hck]
 exact⟨Xg,Xg,⟨Xb,Xa⟩,by simp[wk,wk2,wk1,ay],lRq _,hc2,by simp[znq,znt]⟩
def rA(m1 m2:Mark)(x:SRole):Wz:=[.int .i64 x.id,.str x.name,.slice m1 4 (x.grants.map aK),.slice m2 1 (inL x.actions),.int .i64 x.quota,.bool x.audit]
def ltR{n:Nat}{m1 m2:Mark}{x:SRole}(h1:∀ q,m1=.own q→q<n)(h2:∀ q,m2=.own q→q<n):ltL n (rA m1 m2 x):=by
 simp only[rA,zns,znt,znd,znf,zne,and_true,true_and]
 exact⟨lv h1 gf,DT h2⟩
def Pg{k:Nat}{x:SRole}(h:zy k x):zy (k+1) x:=by
 obtain⟨h1,h2,h3,h4⟩:=h
 exact⟨h1,Xa,h3,Xa⟩
def T2{k:Nat}{x:SRole}{g:SGrant}(h:zy k x)(hg:g.keys.length≤4):zy (k+1) {x with grants:=x.grants++[g]}:=by
 obtain⟨h1,h2,h3,h4⟩:=h
 exact⟨h1,Xf,fun p hp=>(List.mem_append.1 hp).elim (h3 p) fun e=>by rw[List.mem_singleton.1 e];exact hg,Xd⟩
def Uj{k:Nat}{x:SRole}{n:Int}(h:zy k x):zy (k+1) {x with actions:=x.actions++[n]}:=by
 obtain⟨h1,h2,h3,h4⟩:=h
 exact⟨h1,Xd,h3,Xf⟩
def S0(a:Int):0≤cP .i64 a 3∧cP .i64 a 3≤3:=by
 have h:(BitVec.ofInt 64 a&&&BitVec.ofInt 64 3).toNat≤3:=by
  rw[BitVec.toNat_and]
  exact Nat.and_le_right
 show 0≤IntKind.i64.wrap ((BitVec.ofInt 64 a&&&BitVec.ofInt 64 3).toNat:Int)∧IntKind.i64.wrap ((BitVec.ofInt 64 a&&&BitVec.ofInt 64 3).toNat:Int)≤3
 generalize (BitVec.ofInt 64 a&&&BitVec.ofInt 64 3).toNat=z at h
 rw[wrap_i64]<;>omega
def JY(j:Nat):dh 1 j (List.replicate j [AV.bool false]).flatten=boL (List.replicate j false):=by
 have h1:(List.replicate j [AV.bool false]).flatten=boL (List.replicate j false):=by simp[boL]
 rw[h1]
 have:=pG (List.replicate j false)
 rwa[List.length_replicate]at this
def Gv{n0:Nat}{H:AHeap}{id a b:Nat}{A M B M':Wz}(hn0:n0≤id)(h:H.Closed)(hg:H.get id=some (.cells (A++(M++B))))(hm:ltL (H.nx+1) M'):Chg n0 H ((H.set id (.cells (A++(M'++B)))).push (.buf a b)) id (A++(M'++B)):=by
 have hl:=glq hg
 have nn0:(id=H.nx)=False:=eFo
 have e1:(H.push (.buf a b)).get id=H.get id:=by rw[gPq _ _ hl]
 have h1:=gI (H:=H.push (.buf a b)) (M':=M') hn0 (aY h) (e1.trans hg) hm
 simp only[go_sem,nn0]at h1
 exact⟨h1.get,Xk,h1.cl,fun j x hj hx=>h1.keep j x hj (by
  rw[gPq _ _ (glq hx)];exact hx),fun j x hj hx=>h1.old j x hj (by
  rw[gPq _ _ (glq hx)];exact hx)⟩
def Ia{n0:Nat}{H:AHeap}{id q a b:Nat}{x y:Nat}{A M B M':Wz}(hn0:n0≤id)(hn1:n0≤q)(h:H.Closed)(hg:H.get id=some (.cells (A++(M++B))))(hq:H.get q=some (.buf x y))(hm:ltL H.nx M'):Chg n0 H ((H.set q (.buf a b)).set id (.cells (A++(M'++B)))) id (A++(M'++B)):=by
 have hne:id≠q:=fun e=>by rw[← e,hg]at hq;cases hq
 have h1:=gI (H:=H.set q (.buf a b)) (M':=M') hn0 (uh h) (by rw[AHeap.get_set_ne _ _ hne];exact hg) hm
 refine⟨h1.get,by simp only[zld];omega,h1.cl,fun j c hj hx=>h1.keep j c hj ?_,fun j o hj hx=>h1.old j o hj ?_⟩
 ·rw[AHeap.get_set_ne _ _ (fun e=>by rw[e,hq]at hx;cases hx)]
  exact hx
 ·rw[AHeap.get_set_ne _ _ (Xa)]
  exact hx
def BO:Wz→AHeap→(By1)→Prop
 |[.ptr id off,.int .i64 a,.int .i64 n,.str t],H,K=>∃ (A B:Wz) (x:SRole) (m1 m2:Mark) (k p0:Nat),(H.get id=some (.cells (A++(rA m1 m2 x++B)))∧off=A.length∧p0≤id∧rZ a∧App p0 H m1 4 x.grants.length∧App p0 H m2 1 x.actions.length∧k≤10∧zy k x∧t.length≤62) ∧
   ∀ H1 x' m1' m2',Chg p0 H H1 id (A++(rA m1' m2' x'++B))→zy (k+1) x'→K (.tup []) H1
 |_,_,_=>False
def jF:EntOk Tryz.prog 22 (Ent.some BO):=by
 refine EntOk.some fun args H K h=>?_
 unfold BO at h
 split at h<;>try exact h.elim
 rename_i id off a n t
 obtain⟨A,B,x,m1,m2,k,p0,⟨hg,rfl,hp0,ha,hA,hA2,hk,hx,ht⟩,hK⟩:=h
 have hg0:=hg
 simp only[rA,yal,yak]at hg
 have hl:=glq hg
 have hcs:=aB hg
 obtain⟨w1,w2,w3⟩:=Fo ha
 generalize hd:a.tdiv 16=d at *
 have hm1:=Int.emod_nonneg d (show(5:Int)≠0 by decide)
 have hm2:=Int.emod_lt_of_pos d (show(0:Int)<5 by decide)
 refine ACallsP.fS aD (tCq iX tNq) Tryz.func22 [] (T:=aC [(7,[[],[],[],[],[],[],[],[],[],[],[],[],[],[4],[],[],[4]]),(807,[[100010],[100012]])]) (h:=fun hcl=>?_)
 simp only[go_sem,gT,hd,w1]
 refine⟨Xb,⟨Xa,Xa,Xb,Xb⟩,?_⟩
 rcases(Xa:d%5=0∨d%5=1∨d%5=2∨d%5=3∨d%5=4)with c|c|c|c|c<;>rw[c]
 ·refine Tq1 ?_
  have hC:=gI (M':=rA m1 m2 {x with id:=n}) hp0 hcl hg0 (by exact ltR hA.lt hA2.lt)
  refine⟨Xg,?_⟩
  exact jg (hK _ {x with id:=n} m1 m2 hC (Pg hx)) hC.nx hC.cl
 ·refine Tq1 ?_
  have hC:=gI (M':=rA m1 m2 {x with name:=t}) hp0 hcl hg0 (by exact ltR hA.lt hA2.lt)
  refine⟨Xg,?_⟩
  exact jg (hK _ {x with name:=t} m1 m2 hC ⟨ht,(Pg hx).2⟩) hC.nx hC.cl
 ·have hx1:=hx.2.1
  obtain⟨i1,i2⟩:=S0 (fI .i64 n 3)
  obtain⟨j,hj⟩:∃ j:Nat,cP .i64 (fI .i64 n 3) 3=(j:Int):=⟨(cP .i64 (fI .i64 n 3) 3).toNat,Xa⟩
  have hsn:x.grants.map aK++[.agg [.int .i64 (cP .i64 n 7),.bool false,.bool false,.slice .any 1 (boL (List.replicate j false))]]=(x.grants++[(⟨cP .i64 n 7,false,false,List.replicate j false⟩:SGrant)]).map aK:=by rw[List.map_append];simp[aK]
  have hrr:=JY j
  rcases hA with⟨rfl,h0⟩|⟨q,rfl,hp1,hq⟩
  ·skip
   have n0:(id=H.nx)=False:=eFo
   have n1:(id=H.nx+1)=False:=eFo
   have n2:(id=H.nx+1+1)=False:=eFo
   simp only[aX,aA,bhq,go_sem,Int.reduceBEq,hg,hcs,dd,bx,db,cr,splice,bh,yau,yav,List.isEmpty_cons,if_false,if_true,Bool.false_eq_true,n0,n1,n2,hj,iNq,hrr,hsn]
   refine⟨Xg,Xb,⟨Xa,Xa,Xa⟩,⟨Xa,Xa,fun z hz=>by rw[List.mem_singleton.1 hz];rfl⟩,Xg,?_⟩
   have hC:=fun a b=>Gv (a:=a) (b:=b) (M':=rA (.own H.nx) m2 {x with grants:=x.grants++[⟨cP .i64 n 7,false,false,List.replicate j false⟩]}) hp0 hcl hg0 (by exact ltR (iE Xa) (hA2.lt2 Xa))
   exact jg (hK _ {x with grants:=x.grants++[⟨cP .i64 n 7,false,false,List.replicate j false⟩]} (.own H.nx) m2 (hC _ _) (T2 hx Xf)) Xk (hC _ _).cl
  ·skip
   have n0:(id=H.nx)=False:=eFo
   have n1:(id=H.nx+1)=False:=eFo
   have n2:(id=H.nx+1+1)=False:=eFo
   have hlq:=glq hq
   have hqi:id≠q:=fun e=>by rw[← e,hg]at hq;cases hq
   have nq:(q=id)=False:=eq_false (fun e=>hqi e.symm)
   have nq2:(id=q)=False:=eq_false hqi
   have q0:(q=H.nx)=False:=eFo
   have q1:(q=H.nx+1)=False:=eFo
   have hcq:=fun o=>aB ((AHeap.get_set_ne (H:=H) (i:=q) o hqi).trans hg)
   simp only[aX,aA,bhq,go_sem,Int.reduceBEq,hg,hcs,dd,bx,db,cr,splice,bh,yau,yav,List.isEmpty_cons,if_false,if_true,Bool.false_eq_true,n0,n1,n2,nq,nq2,q0,q1,hq,hcq,hj,iNq,hrr,hsn]
   refine⟨Xg,Xb,⟨Xa,Xa,Xa⟩,⟨Xa,Xa,fun z hz=>by rw[List.mem_singleton.1 hz];rfl⟩,Xg,?_⟩
   have hC:=fun a b=>Ia (a:=a) (b:=b) (M':=rA (.own q) m2 {x with grants:=x.grants++[⟨cP .i64 n 7,false,false,List.replicate j false⟩]}) hp0 hp1 hcl hg0 hq (by exact ltR (iE hlq) hA2.lt)
   exact jg (hK _ {x with grants:=x.grants++[⟨cP .i64 n 7,false,false,List.replicate j false⟩]} (.own q) m2 (hC _ _) (T2 hx Xf)) Xk (hC _ _).cl
 ·have hsn:inL x.actions++[.int .i64 n]=inL (x.actions++[n]):=by exact zb
  have hx1:=hx.2.2.2
  have hil:(inL x.actions).length=x.actions.length:=Xp
  rcases hA2 with⟨rfl,h0⟩|⟨q,rfl,hp1,hq⟩
  ·skip
   have n0:(id=H.nx)=False:=eFo
   have n1:(id=H.nx+1)=False:=eFo
   have n2:(id=H.nx+1+1)=False:=eFo
   refine Tq38 ?_
   refine⟨Xg,⟨Xa,Xa,fun z hz=>by rw[List.mem_singleton.1 hz];rfl⟩,Xg,?_⟩
   have hC:=fun a b c d=>kq (a:=a) (b:=b) (c:=c) (d:=d) (M':=rA m1 (.own (H.nx+1)) {x with actions:=x.actions++[n]}) hp0 hcl hg0 (by exact ltR (hA.lt2 Xa) (iE Xa))
   exact jg (hK _ {x with actions:=x.actions++[n]} m1 (.own (H.nx+1)) (hC _ _ _ _) (Uj hx)) Xk (hC _ _ _ _).cl
  ·skip
   have n0:(id=H.nx)=False:=eFo
   have n1:(id=H.nx+1)=False:=eFo
   have n2:(id=H.nx+1+1)=False:=eFo
   have hlq:=glq hq
   have hqi:id≠q:=fun e=>by rw[← e,hg]at hq;cases hq
   have nq:(q=id)=False:=eq_false (fun e=>hqi e.symm)
   have nq2:(id=q)=False:=eq_false hqi
   have q0:(q=H.nx)=False:=eFo
   have q1:(q=H.nx+1)=False:=eFo
   have hcq:=fun o=>aB ((AHeap.get_set_ne (H:=H) (i:=q) o hqi).trans hg)
   refine Tq36 ?_
   refine⟨Xg,⟨Xa,Xa,fun z hz=>by rw[List.mem_singleton.1 hz];rfl⟩,Xg,?_⟩
   have hC:=fun a b c d=>mj (a:=a) (b:=b) (c:=c) (d:=d) (M':=rA m1 (.own q) {x with actions:=x.actions++[n]}) hp0 hp1 hcl hg0 hq (by exact ltR (hA.lt2 Xa) (iE hlq))
   exact jg (hK _ {x with actions:=x.actions++[n]} m1 (.own q) (hC _ _ _ _) (Uj hx)) Xk (hC _ _ _ _).cl
 ·refine Tq1 ?_
  have hC:=gI (M':=rA m1 m2 {x with quota:=n}) hp0 hcl hg0 (by exact ltR hA.lt hA2.lt)
  refine⟨Xg,?_⟩
  exact jg (hK _ {x with quota:=n} m1 m2 hC (Pg hx)) hC.nx hC.cl
def Tg(m:Mark)(x:SHeader):Wz:=[.int .i64 x.id,.str x.name,.slice m 1 (inL x.fields)]
structure SmB(k:Nat)(S:Sch):Prop where
 f:S.fields.length=9∧∀ x∈S.fields,RW x
 h:S.headers.length=3∧∀ x∈S.headers,Tc k x
 s:S.states.length=3∧∀ x∈S.states,L1 k x
 a:S.actions.length=6∧∀ x∈S.actions,yW k x
 t:S.tables.length=4∧∀ x∈S.tables,sL k x
 g:S.stages.length≤5+k
 r:S.roles.length=3∧∀ x∈S.roles,zy k x
 x:S.refs.length≤4+k
theorem Chg.le{n0 id i:Nat}{H0 H H1:AHeap}{cs:Wz}{o:AObj}(h:Chg n0 H H1 id cs)(hl:H0.Le H)(hn:H0.nx≤n0)(hi:n0≤i):H0.Le (H1.set i o) :=
 ⟨Nat.le_trans hl.nx h.nx,fun j x hj=>by
  have hj2:=glq hj
  rw[AHeap.get_set_ne _ _ (Xa)]
  exact h.old j x Xa (hl.get _ _ hj)⟩
theorem Chg.le2{n0 id i j:Nat}{H0 H H1:AHeap}{cs:Wz}{o p:AObj}(h:Chg n0 H H1 id cs)(hl:H0.Le H)(hn:H0.nx≤n0)(hi:n0≤i)(hj:n0≤j):H0.Le ((H1.set i o).set j p) :=
 ⟨(h.le (o:=o) hl hn hi).nx,fun l x hx=>by
  have hj2:=glq hx
  rw[AHeap.get_set_ne _ _ (Xa)]
  exact(h.le hl hn hi).get l x hx⟩
def qn{k:Nat}{S:Sch}(h:SmB k S):SmB (k+1) S:=by
 obtain⟨f,⟨h1,h2⟩,⟨s1,s2⟩,⟨a1,a2⟩,⟨t1,t2⟩,g,⟨r1,r2⟩,x⟩:=h
 exact⟨f,⟨h1,fun y hy=>⟨(h2 y hy).1,by have:=(h2 y hy).2;omega⟩⟩,⟨s1,fun y hy=>⟨by have:=(s2 y hy).1;omega,(s2 y hy).2⟩⟩,⟨a1,fun y hy=>RP (a2 y hy)⟩,⟨t1,fun y hy=>B2 (t2 y hy)⟩,Xa,⟨r1,fun y hy=>Pg (r2 y hy)⟩,Xa⟩
def nF{α:Type}{P:α→Prop}{l A B:List α}{m x:α}{n:Nat}(e:l=A++m::B)(h:l.length=n∧∀ y∈l,P y)(hx:P x):(A++x::B).length=n∧∀ y∈A++x::B,P y:=by
 subst e
 refine⟨by have:=h.1;simp at this ⊢;omega,fun y hy=>?_⟩
 rcases List.mem_append.1 hy with hy|hy
 ·exact h.2 y (by simp[hy])
 ·rcases List.mem_cons.1 hy with rfl|hy
  ·exact hx
  ·exact h.2 y (by simp[hy])
def MY{n0:Nat}{fr:Fr}{H:AHeap}{K:Vz}(id j mid off sz len:Nat){cs ms:Wz}(L:Wz)(hg:H.get id=some (.cells cs))(hj:cs[j]?=some (.ms mid off sz len))(hne:id≠mid)(hm:a8 H mid=some ms)(hL:dh sz len (ms.drop off)=L)(hlt:(AV.slice .any sz L).lt H.nx)
 (h:∀ H2:AHeap,H2.get id=some (.cells (cs.set j (.slice .any sz L)))→(∀ l o,l≠id→l≠mid→H.get l=some o→H2.get l=some o)→H2.nx=H.nx→K fr H2):mr n0 K fr H:=by
 refine OD id j mid off sz len L (aB hg) hj hne hm hL hlt (h _ ?_ (fun l o h1 h2 hx=>?_) rfl)
 ·exact AHeap.get_set_same _ _ (show id<(H.del mid).nx by rw[kS];exact glq hg)
 ·rw[AHeap.get_set_ne _ _ h1,mR,if_neg h2];exact hx
def r9{α:Type}{f:α→AV}{n0 q sz:Nat}{H:AHeap}{l:List α}(hn:n0≤q)(h:H.get q=some (.buf sz l.length)):App n0 H (if(l.map f).isEmpty=true then .full else .own q) sz l.length:=by
 cases l with
 |nil=>exact .inl ⟨rfl,rfl⟩
 |cons x y=>exact .inr ⟨q,rfl,hn,h⟩
def qJ{α:Type}{f:α→AV}{l:List α}(h:1≤l.length):l.map f≠[]:=fun e=>by
 rw[List.map_eq_nil_iff]at e
 rw[e]at h
 simp at h
def D3:Wz→AHeap→(By1)→Prop
 |[.agg l,.int .i64 q,.int .i64 a,.int .i64 n,.str t],H,K=>∃ (S:Sch) (k:Nat),(l=aR S∧SmB k S∧k≤9∧rZ q∧rZ a∧t.length≤62)∧∀ S',SmB (k+1) S'→K (cW S') H
 |_,_,_=>False
def xV{C0:Wz}{n:Nat}(hC:C0.length=n):(∀(Y:Wz)(f:Nat) d,(C0++Y).getD (n+f) d=Y.getD f d)∧(∀(Y:Wz)(f:Nat) v,splice (C0++Y) (n+f) v=C0++splice Y f v)∧∀(Y:Wz) v,splice (C0++Y) n v=C0++splice Y 0 v:=by
 subst hC
 exact⟨fun Y f d=>cr C0 Y f d,fun Y f v=>bx C0 Y f v,fun Y v=>bx C0 Y 0 v⟩
def ED{H:AHeap}{i a b:Nat}{x y z:Wz}(k0:H.get a=some (.cells x))(k1:H.get b=some (.cells y))(hg:H.get i=some (.cells z))(h1:a≠i)(h2:b≠i) :
 (∀ o,a8 (H.set i o) a=some x)∧(∀ o,(H.set i o).get b=some (.cells y))∧(∀ o,a8 (H.set i o) b=some y)∧(∀ o cs,a8 ((H.set i o).set b (.cells cs)) b=some cs)∧∀ cs p,a8 ((H.set i (.cells cs)).set b p) i=some cs:=by
 have k2:=fun o=>(AHeap.get_set_ne (H:=H) (i:=i) o h2).trans k1
 exact⟨fun o=>aB ((AHeap.get_set_ne (H:=H) (i:=i) o h1).trans k0),k2,fun o=>aB (k2 o),fun o cs=>aB (AHeap.get_set_same (H.set i o) (.cells cs) (glq (k2 o))),
  fun cs p=>aB ((AHeap.get_set_ne (H:=H.set i (.cells cs)) (i:=b) p (Ne.symm h2)).trans (AHeap.get_set_same H (.cells cs) (glq hg)))⟩
def zqZ:List (Nat × List (List Nat)):=[(827,[[100002],[100008]]),(1223,[[300003,300009,300015]]),(27,[[],[],[],[],[],[],[],[6],[],[],[],[],[],[6,12],[],[],[6,12],[],[],[6,12]]),(18,[[],[],[],[],[],[],[],[6],[],[],[],[],[],[6,12],[],[],[6,12],[],[],[6,12]]),(1,[[],[],[],[2],[],[],[],[2,6],[],[],[],[2,6,10],[],[2,6,10],[],[2,6,10],[],[2,6,10]]),(803,[[100000],[100004]]),(1227,[[300002,300008]]),(1202,[[300000,300004,300008]]),(823,[[100003],[100009],[100015]]),(4,[[],[],[],[],[],[],[4],[],[],[],[],[],[],[],[4,6,12],[],[],[],[],[],[],[],[4,6,12,14,20]]),(23,[[],[],[],[],[],[],[],[],[7],[],[],[],[],[],[7,13],[],[],[],[],[],[7,13,19],[],[],[7,13,19],[],[],[7,13,19],[],[],[7,13,19]]),(1203,[[300000,300004]]),(802,[[100000],[100004],[100008]]),(1218,[[300002,300008]]),(5,[[],[],[],[],[],[],[4],[],[],[],[],[],[],[],[4,6,12],[],[],[],[],[],[],[],[4,6,12,14,20]]),(830,[[100007]]),(801,[[100000],[100004],[100008]]),(818,[[100002],[100008]]),(2,[[],[],[],[2],[],[],[],[2,6],[],[],[],[2,6,10],[],[2,6,10],[],[2,6,10],[],[2,6,10]]),(3,[[],[],[],[2],[],[],[],[2,6],[],[2,6],[],[2,6]]),(30,[[],[],[],[],[],[],[],[],[1,5],[],[1,5]]),(1201,[[300000,300004,300008]])]
attribute [go_sem] zqZ
def K7:EntOk Tryz.prog 7 (Ent.some D3):=by
 refine EntOk.some fun args H K h=>?_
 unfold D3 at h
 split at h<;>try exact h.elim
 rename_i l q a n t
 obtain⟨S,k,⟨rfl,hS,hk,hq,ha,ht⟩,hK⟩:=h
 have hU:=qn hS
 obtain⟨⟨f1,f2⟩,⟨h1,h2⟩,⟨s1,s2⟩,⟨a1,a2⟩,⟨t1,t2⟩,g1,⟨r1,r2⟩,x1⟩:=hS
 unfold rZ at hq ha
 have oA:∀{α:Type}{f:α→AV}{l:List α},(∀ x,dp (f x).cells=true)→∀ z∈l.map f,dp z.cells=true:=fun hf z hz=>by
  obtain⟨x,_,rfl⟩:=List.mem_map.1 hz;exact hf x
 have of':=oA (f:=aJ) (l:=S.fields) fun _=>rfl
 have oh:=oA (f:=az) (l:=S.headers) fun _=>rfl
 have os:=oA (f:=aE) (l:=S.states) fun _=>rfl
 have oa:=oA (f:=ap) (l:=S.actions) fun _=>rfl
 have ot:=oA (f:=au) (l:=S.tables) fun _=>rfl
 have og:=oA (f:=aQ) (l:=S.stages) fun _=>rfl
 have or':=oA (f:=aP) (l:=S.roles) fun _=>rfl
 have ox:=oA (f:=bc) (l:=S.refs) fun _=>rfl
 have ef:=jZ (f:=aJ) (l:=S.fields) Xa
 have eh:=jZ (f:=az) (l:=S.headers) Xa
 have es:=jZ (f:=aE) (l:=S.states) Xa
 have ea:=jZ (f:=ap) (l:=S.actions) Xa
 have et:=jZ (f:=au) (l:=S.tables) Xa
 have er:=jZ (f:=aP) (l:=S.roles) Xa
 have m1:=Int.emod_nonneg q (show(12:Int)≠0 by decide)
 have m2:=Int.emod_lt_of_pos q (show(0:Int)<12 by decide)
 have hm:∀ j:Nat,1≤j→∃ i:Nat,a%(j:Int)=(i:Int)∧i<j:=fun j hj=>⟨(a%(j:Int)).toNat,by have:=Int.emod_nonneg a (show(j:Int)≠0 by omega);have:=Int.emod_lt_of_pos a (show(0:Int)<j by omega);omega,by have:=Int.emod_nonneg a (show(j:Int)≠0 by omega);have:=Int.emod_lt_of_pos a (show(0:Int)<j by omega);omega⟩
 obtain⟨i9,e9,l9⟩:=hm 9 Xb
 obtain⟨i3,e3,l3⟩:=hm 3 Xb
 obtain⟨i6,e6,l6⟩:=hm 6 Xb
 obtain⟨i4,e4,l4⟩:=hm 4 Xb
 rcases(Xa:q%12=0∨q%12=1∨q%12=2∨q%12=3∨(q%12=4∨q%12=5∨q%12=6)∨(q%12=7∨q%12=8)∨q%12=9∨q%12=10∨q%12=11)with c|c|c|c|c|c|c|c|c
 ·skip
  refine ACallsP.fS aD (tCq iX (tCq iN (tCq iT (tCq ij (tCq jt (tCq jF tNq)))))) Tryz.func7 [.cell 10 34] (T:=aC ((1201,[[300000,300004,300008,200003]])::(402,[[0]])::zqZ)) (h:=fun hcl=>?_)
  refine Tq14 ?_
  refine⟨⟨Xa,Xa,of'⟩,qJ Xa,nJ (fun x=>gL x) _,⟨Xa,Xa,oh⟩,⟨Xa,Xa,os⟩,?_⟩
  refine kQ (H.nx+1+1) (cs:=(S.fields.map aJ).flatMap AV.cells) Xv fun kk=>?_
  obtain⟨A,m,B,hAl,hAB⟩:=oT (l:=S.fields) (i:=i9) Xa
  obtain⟨C0,Z,hC,hfl,hrow⟩:=l8 (f:=aJ) (sz:=3) (fun x=>⟨xh x,rfl,rfl⟩) Xb kk S.fields A B m hAB
  rw[hAl]at hC
  rw[hfl]
  refine Tq3 ?_
  refine⟨oa,ot,⟨Xa,Xa,og⟩,or',⟨Xa,Xa,ox⟩,⟨Xa,Xa,Xb,Xb⟩,⟨Xa,Xa⟩,⟨Xa,Xa,Xb,Xb⟩,⟨Xa,Xa⟩,⟨Xa,Xa,Xb,Xb⟩,⟨Xa,Xa⟩,⟨Xa,Xa,Xb,Xb⟩,⟨Xa,Xa⟩,⟨Xa,Xa,Xb,Xb⟩,⟨Xa,Xa⟩,⟨Xa,Xa,Xb,Xb⟩,⟨Xa,Xa⟩,⟨Xa,Xa,Xb,Xb⟩,?_⟩
  refine⟨C0,Z,m,H.nx,⟨Xn,hC.symm,Xa,⟨ha.1,ha.2⟩,ht,f2 m (by rw[hAB];simp)⟩,fun H1 x' hc hx'=>?_⟩
  have k0:=hc.keep H.nx _ Xa Xn
  have k1:=hc.keep (H.nx+1) _ Xa Xn
  have hg:=hc.get
  have hnx:=hc.nx
  have hcl1:=hc.cl
  simp only[zlc]at hnx
  replace hrow:=hrow x'
  have q0:=aB k0
  have q1:=aB k1
  have qg:=aB hg
  have qs:=fun cs=>aB (AHeap.get_set_same H1 (.cells cs) (glq k1))
  refine Tq25 ?_
  have qg2:=fun o=>aB ((AHeap.get_set_ne (H:=H1) (i:=H.nx+1) o (show H.nx+1+1≠H.nx+1 by omega)).trans hg)
  refine⟨_,_,hK {S with fields:=A++x'::B} ?_,nrq _,?_,?_,hcl,?_⟩
  ·exact{hU with f:=nF hAB hU.f hx' }
  ·simp only[cW,aR]
   exact⟨uv (qg2 _) (by rw[← f1];exact hrow) (p7 Xa),.inl ⟨.inl rfl,rfl,rfl⟩,.inl ⟨.inl rfl,rfl,rfl⟩,.inl ⟨.inl rfl,rfl,rfl⟩,.inl ⟨.inl rfl,rfl,rfl⟩,.inl ⟨.inl rfl,rfl,rfl⟩,.inl ⟨.inl rfl,rfl,rfl⟩,.inl ⟨.inl rfl,rfl,rfl⟩,rfl,rfl,trivial⟩
  ·exact hc.le (by repeat first|exact .refl _|refine .push ?_ _) (nrq _) Xa
  ·exact iC _
 ·skip
  refine ACallsP.fS aD (tCq iX (tCq iN (tCq iT (tCq ij (tCq jt (tCq jF tNq)))))) Tryz.func7 [.cell 10 34] (T:=aC ((1201,[[300000,300004,300008,200007]])::(402,[[0]])::(36,[[1]])::zqZ)) (h:=fun hcl=>?_)
  refine Tq14 ?_
  refine⟨⟨Xa,Xa,of'⟩,⟨Xa,Xa,oh⟩,qJ Xa,nJ (fun x=>fK x) _,⟨Xa,Xa,os⟩,?_⟩
  refine kQ (H.nx+1+1+1) (cs:=(S.headers.map az).flatMap AV.cells) Xv fun kk=>?_
  obtain⟨A,m,B,hAl,hAB⟩:=oT (l:=S.headers) (i:=i3) Xa
  obtain⟨C0,Z,hC,hfl,hrow⟩:=l8 (f:=az) (sz:=3) (fun x=>⟨Tg .any x,rfl,rfl⟩) Xb kk S.headers A B m hAB
  rw[hAl]at hC
  rw[hfl]
  refine Tq3 ?_
  refine⟨oa,ot,⟨Xa,Xa,og⟩,or',⟨Xa,Xa,ox⟩,⟨Xa,Xa,Xb,Xb⟩,⟨Xa,Xa⟩,⟨Xa,Xa,Xb,Xb⟩,⟨Xa,Xa⟩,⟨Xa,Xa,Xb,Xb⟩,⟨Xa,Xa⟩,⟨Xa,Xa,Xb,Xb⟩,⟨Xa,Xa⟩,⟨Xa,Xa,Xb,Xb⟩,⟨Xa,Xa⟩,⟨Xa,Xa,Xb,Xb⟩,⟨Xa,Xa⟩,⟨Xa,Xa,Xb,Xb⟩,?_⟩
  obtain⟨sg,ss,ss0⟩:=xV hC
  have hm1:=(h2 m (by rw[hAB];simp)).2
  have hil:(inL m.fields).length=m.fields.length:=Xp
  have hio:∀ z∈inL m.fields,dp z.cells=true:=fun z hz=>by
   obtain⟨x,_,rfl⟩:=List.mem_map.1 hz;rfl
  simp only[aX,aA,bhq,go_sem,sg,ss,ss0,az,ziq,splice,bh,lAq,yaz,hil]
  have hsn:=zb (l:=m.fields) (n:=n)
  simp only[hsn]
  refine⟨Xa,⟨Xa,Xa,hio⟩,⟨Xa,Xa,fun z hz=>by rw[List.mem_singleton.1 hz];rfl⟩,Xa,?_⟩
  refine ax (fun hc=>?_) (fun hc=>?_)
  ·replace hrow:=hrow {m with id:=n,name:=t,fields:=m.fields++[n]}
   refine Tq72 ?_
   refine⟨Xa,Xa,?_⟩
   refine fL (H.nx+1+1+1) (cs:=C0++(.int .i64 n::.str t::.slice (.own (H.nx+1+1+1+1+1+1+1+1+1+1)) 1 (inL (m.fields++[n]))::Z)) (C0++(.int .i64 n::.str t::.slice .any 1 (inL (m.fields++[n]))::Z)) Xo ?_ ?_
   ·exact jy (ik C0) (by simp[cX,dO,cY,wkM,j6,jW,ik,Tg])
   refine Tq23 ?_
   refine⟨_,_,hK {S with headers:=A++{m with id:=n,name:=t,fields:=m.fields++[n]}::B} ?_,nrq _,?_,by repeat first|exact .refl _|refine .push ?_ _,hcl,iC _⟩
   ·exact{hU with h:=nF hAB hU.h (show Tc (k+1) {m with id:=n,name:=t,fields:=m.fields++[n]} from⟨ht,by have:=hm1;simp;omega⟩)}
   ·exact Y60
  ·replace hrow:=hrow {m with fields:=m.fields++[n]}
   refine Tq72 ?_
   skip
   refine fL (H.nx+1+1+1) (cs:=C0++(.int .i64 m.id::.str m.name::.slice (.own (H.nx+1+1+1+1+1+1+1+1+1+1)) 1 (inL (m.fields++[n]))::Z)) (C0++(.int .i64 m.id::.str m.name::.slice .any 1 (inL (m.fields++[n]))::Z)) Xo ?_ ?_
   ·exact jy (ik C0) (by simp[cX,dO,cY,wkM,j6,jW,ik,Tg])
   refine Tq23 ?_
   refine⟨_,_,hK {S with headers:=A++{m with fields:=m.fields++[n]}::B} ?_,nrq _,?_,by repeat first|exact .refl _|refine .push ?_ _,hcl,iC _⟩
   ·exact{hU with h:=nF hAB hU.h (show Tc (k+1) {m with fields:=m.fields++[n]} from⟨(h2 m (by rw[hAB];simp)).1,by have:=hm1;simp;omega⟩)}
   ·exact Y60
 ·skip
  refine ACallsP.fS aD (tCq iX (tCq iN (tCq iT (tCq ij (tCq jt (tCq jF tNq)))))) Tryz.func7 [.cell 10 34] (T:=aC ((1201,[[300000,300004,300008,200011]])::(402,[[0]])::(36,[[1]])::zqZ)) (h:=fun hcl=>?_)
  refine Tq14 ?_
  refine⟨⟨Xa,Xa,of'⟩,⟨Xa,Xa,oh⟩,⟨Xa,Xa,os⟩,qJ Xa,nJ (fun x=>eL x) _,?_⟩
  refine kQ (H.nx+1+1+1+1) (cs:=(S.states.map aE).flatMap AV.cells) Xv fun kk=>?_
  obtain⟨A,m,B,hAl,hAB⟩:=oT (l:=S.states) (i:=i3) Xa
  obtain⟨C0,Z,hC,hfl,hrow⟩:=l8 (f:=aE) (sz:=5) (fun x=>⟨m8 .any x,rfl,rfl⟩) Xb kk S.states A B m hAB
  rw[hAl]at hC
  rw[hfl]
  refine Tq3 ?_
  refine⟨oa,ot,⟨Xa,Xa,og⟩,or',⟨Xa,Xa,ox⟩,⟨Xa,Xa,Xb,Xb⟩,⟨Xa,Xa⟩,⟨Xa,Xa,Xb,Xb⟩,⟨Xa,Xa⟩,⟨Xa,Xa,Xb,Xb⟩,⟨Xa,Xa⟩,⟨Xa,Xa,Xb,Xb⟩,⟨Xa,Xa⟩,⟨Xa,Xa,Xb,Xb⟩,⟨Xa,Xa⟩,⟨Xa,Xa,Xb,Xb⟩,⟨Xa,Xa⟩,⟨Xa,Xa,Xb,Xb⟩,?_⟩
  obtain⟨sg,ss,ss0⟩:=xV hC
  have hm:=s2 m (by rw[hAB];simp)
  obtain⟨hm1,hm2⟩:=hm
  have oc:=oA (f:=ba) (l:=m.cases) fun _=>rfl
  simp only[aX,aA,bhq,go_sem,sg,ss,ss0,aE,ziq,splice,bh,lAq,yaz,ybb]
  refine⟨Xa,⟨Xa,Xa,oc⟩,Xa,C0,Z,m,.own (H.nx+1+1+1+1+1+1+1+1+1+1),k,H.nx,⟨Xn,hC.symm,Xa,⟨ha.1,ha.2⟩,.inr ⟨_,rfl,Xa,Xo⟩,Xa,⟨hm1,hm2⟩⟩,fun H1 x' m' hc hx'=>?_⟩
  have k0:=hc.keep H.nx _ Xa Xn
  have k1:=hc.keep (H.nx+1) _ Xa Xn
  have hg:=hc.get
  have hnx:=hc.nx
  simp only[zlc]at hnx
  replace hrow:=hrow x'
  refine Tq37 ?_
  refine fL (H.nx+1+1+1+1) (cs:=C0++(m8 m' x'++Z)) (C0++(m8 .any x'++Z)) (aB hg) ?_ ?_
  ·exact jy (ik C0) (jy (by simp[cX,dO,cY,wkM,j6,jW,m8]) (ik Z))
  obtain⟨q0,k2,q1,qs,qg2⟩:=ED k0 k1 hg Xa Xa
  refine Tq25 ?_
  refine⟨_,_,hK {S with states:=A++x'::B} {hU with s:=nF hAB hU.s hx' },nrq _,?_,?_,hcl,iC _⟩
  ·simp only[cW,aR]
   exact⟨.inl ⟨.inl rfl,rfl,rfl⟩,.inl ⟨.inl rfl,rfl,rfl⟩,uv (qg2 _ _) (by have h9:=hrow;rw[s1]at h9;exact h9) (p7 Xa),.inl ⟨.inl rfl,rfl,rfl⟩,.inl ⟨.inl rfl,rfl,rfl⟩,.inl ⟨.inl rfl,rfl,rfl⟩,.inl ⟨.inl rfl,rfl,rfl⟩,.inl ⟨.inl rfl,rfl,rfl⟩,rfl,rfl,trivial⟩
  ·exact Y70
 ·skip
  refine ACallsP.fS aD (tCq iX (tCq iN (tCq iT (tCq ij (tCq jt (tCq jF tNq)))))) Tryz.func7 [.cell 10 34] (T:=aC ((403,[[0]])::(1202,[[300000,300004,300008,200003]])::(36,[[1]])::zqZ)) (h:=fun hcl=>?_)
  refine Tq14 ?_
  refine⟨⟨Xa,Xa,of'⟩,⟨Xa,Xa,oh⟩,⟨Xa,Xa,os⟩,⟨Xa,Xa,oa⟩,qJ Xa,nJ (fun x=>fo x) _,⟨Xa,Xa,ot⟩,⟨Xa,Xa,og⟩,?_⟩
  refine kQ (H.nx+1+1+1+1+1) (cs:=(S.actions.map ap).flatMap AV.cells) Xv fun kk=>?_
  obtain⟨A,m,B,hAl,hAB⟩:=oT (l:=S.actions) (i:=i6) Xa
  obtain⟨C0,Z,hC,hfl,hrow⟩:=l8 (f:=ap) (sz:=5) (fun x=>⟨pC .any .any x,rfl,rfl⟩) Xb kk S.actions A B m hAB
  rw[hAl]at hC
  rw[hfl]
  refine Tq3 ?_
  refine⟨or',⟨Xa,Xa,ox⟩,⟨Xa,Xa,Xb,Xb⟩,⟨Xa,Xa⟩,⟨Xa,Xa,Xb,Xb⟩,⟨Xa,Xa⟩,⟨Xa,Xa,Xb,Xb⟩,⟨Xa,Xa⟩,⟨Xa,Xa,Xb,Xb⟩,⟨Xa,Xa⟩,⟨Xa,Xa,Xb,Xb⟩,⟨Xa,Xa⟩,⟨Xa,Xa,Xb,Xb⟩,⟨Xa,Xa⟩,⟨Xa,Xa,Xb,Xb⟩,?_⟩
  obtain⟨sg,ss,ss0⟩:=xV hC
  have hm:=a2 m (by rw[hAB];simp)
  have hm0:=hm
  obtain⟨hm1,hm2,hm3,hm4,hm5,hm6⟩:=hm
  have op:=oA (f:=aL) (l:=m.params) fun _=>rfl
  have ob:=oA (f:=aU) (l:=m.body) fun _=>rfl
  simp only[aX,aA,bhq,go_sem,sg,ss,ss0,ap,ziq,splice,bh,lAq,yaz,ybb]
  refine⟨Xa,⟨Xa,Xa,ob⟩,Xa,Xa,⟨Xa,Xa,op⟩,Xa,Xa,C0,Z,m,(if(m.params.map aL).isEmpty=true then .full else .own (H.nx+1+1+1+1+1+1+1+1+1+1+1)),(if(m.body.map aU).isEmpty=true then .full else .own (H.nx+1+1+1+1+1+1+1+1+1+1)),k,H.nx,⟨Xn,hC.symm,Xa,⟨ha.1,ha.2⟩,r9 Xa Xo,r9 Xa Xo,Xa,hm0,ht⟩,fun H1 x' m1' m2' hc hx'=>?_⟩
  have k0:=hc.keep H.nx _ Xa Xn
  have k1:=hc.keep (H.nx+1) _ Xa Xn
  have hg:=hc.get
  have hnx:=hc.nx
  simp only[zlc]at hnx
  replace hrow:=hrow x'
  refine Tq37 ?_
  refine fL (H.nx+1+1+1+1+1) (cs:=C0++(pC m1' m2' x'++Z)) (C0++(pC .any .any x'++Z)) (aB hg) ?_ ?_
  ·exact jy (ik C0) (jy (by simp[cX,dO,cY,wkM,j6,jW,pC]) (ik Z))
  obtain⟨q0,k2,q1,qs,qg2⟩:=ED k0 k1 hg Xa Xa
  refine Tq25 ?_
  refine⟨_,_,hK {S with actions:=A++x'::B} {hU with a:=nF hAB hU.a hx' },nrq _,?_,?_,hcl,iC _⟩
  ·simp only[cW,aR]
   exact⟨.inl ⟨.inl rfl,rfl,rfl⟩,.inl ⟨.inl rfl,rfl,rfl⟩,.inl ⟨.inl rfl,rfl,rfl⟩,uv (qg2 _ _) (by have h9:=hrow;rw[a1]at h9;exact h9) (p7 Xa),.inl ⟨.inl rfl,rfl,rfl⟩,.inl ⟨.inl rfl,rfl,rfl⟩,.inl ⟨.inl rfl,rfl,rfl⟩,.inl ⟨.inl rfl,rfl,rfl⟩,rfl,rfl,trivial⟩
  ·exact Y70
 ·have c6:=c
  clear c
  obtain⟨A,m,B,hAl,hAB⟩:=oT (l:=S.tables) (i:=i4) Xa
  rcases c6 with c|c|c
  all_goals
   by_cases h8:a.tdiv 16%9=8∧m.keys≠[]
   ·skip
    refine ACallsP.fS aD (tCq iX (tCq iN (tCq iT (tCq ij (tCq A7 (tCq jF tNq)))))) Tryz.func7 [.cell 10 34] (T:=aC ((403,[[0]])::(1202,[[300000,300004,300008,200007]])::(1223,[[300003,300009,300015,200008]])::(24,[[1]])::(36,[[1,4]])::zqZ)) (h:=fun hcl=>?_)
    refine Tq14 ?_
    refine⟨⟨Xa,Xa,of'⟩,⟨Xa,Xa,oh⟩,⟨Xa,Xa,os⟩,⟨Xa,Xa,oa⟩,⟨Xa,Xa,ot⟩,qJ Xa,nJ (fun x=>cZ x) _,⟨Xa,Xa,og⟩,?_⟩
    refine kQ (H.nx+1+1+1+1+1+1) (cs:=(S.tables.map au).flatMap AV.cells) Xv fun kk=>?_
    obtain⟨C0,Z,hC,hfl,hrow⟩:=l8 (f:=au) (sz:=8) (fun x=>⟨ni .any .any .any x,rfl,rfl⟩) Xb kk S.tables A B m hAB
    rw[hAl]at hC
    rw[hfl]
    refine Tq3 ?_
    refine⟨or',⟨Xa,Xa,ox⟩,⟨Xa,Xa,Xb,Xb⟩,⟨Xa,Xa⟩,⟨Xa,Xa,Xb,Xb⟩,⟨Xa,Xa⟩,⟨Xa,Xa,Xb,Xb⟩,⟨Xa,Xa⟩,⟨Xa,Xa,Xb,Xb⟩,⟨Xa,Xa⟩,⟨Xa,Xa,Xb,Xb⟩,⟨Xa,Xa⟩,⟨Xa,Xa,Xb,Xb⟩,⟨Xa,Xa⟩,⟨Xa,Xa,Xb,Xb⟩,?_⟩
    obtain⟨sg,ss,ss0⟩:=xV hC
    have hm:=t2 m (by rw[hAB];simp)
    have hm0:=hm
    obtain⟨hm1,hm2,hm3,hm4,hm5,hm6,hm7⟩:=hm
    have op:=oA (f:=aZ) (l:=m.keys) fun _=>rfl
    have ob:=oA (f:=AV.int .i64) (l:=m.actions) fun _=>rfl
    have od:=oA (f:=vv) (l:=m.dargs) fun _=>rfl
    have hil:(inL m.actions).length=m.actions.length:=Xp
    obtain⟨k0,ks,hks⟩:=List.exists_cons_of_ne_nil h8.2
    have hke:=jZ (f:=aZ) (l:=m.keys) (by rw[hks];simp)
    simp only[aX,aA,bhq,go_sem,sg,ss,ss0,hke,Bool.false_eq_true,if_false,au,ziq,splice,bh,lAq,yaz,ybb,hil]
    refine⟨Xa,⟨Xa,Xa,op⟩,qJ (by rw[hks];simp),nJ (fun x=>jI x) _,Xa,Xa,⟨Xa,Xa,ob⟩,Xa,⟨Xa,Xa⟩,⟨Xa,Xa,od⟩,Xa,Xa,Xa,?_⟩
    refine kQ (H.nx+1+1+1+1+1+1+1+1+1+1) (cs:=(m.keys.map aZ).flatMap AV.cells) Xv fun kj=>?_
    obtain⟨C2,hC2⟩:∃ C2,(ks.map aZ).flatMap AV.cells++List.replicate kj .junk=C2:=⟨_,rfl⟩
    have hfk:(m.keys.map aZ).flatMap AV.cells++List.replicate kj .junk=.str k0.name::.int .i64 k0.field::.int .i64 k0.kind::C2:=by rw[hks,← hC2];rfl
    have hmk:m.keys.length=ks.length+1:=by rw[hks];rfl
    rw[hfk,hmk]
    refine Tq23 ?_
    refine⟨C0,Z,C2,m,(if(inL m.actions).isEmpty=true then .full else .own (H.nx+1+1+1+1+1+1+1+1+1+1+1)),(if(m.dargs.map vv).isEmpty=true then .full else .own (H.nx+1+1+1+1+1+1+1+1+1+1+1+1)),H.nx+1+1+1+1+1+1+1+1+1+1,ks.length,k0,⟨Xn,hC.symm,⟨ha.1,ha.2⟩,h8.1,Xa,Xa,Xo⟩,?_⟩
    refine Tq23 ?_
    obtain⟨x',hx1⟩:∃ x':STable,x'={m with keys:={k0 with kind:=n}::ks}:=⟨_,rfl⟩
    have hx':sL (k+1) x':=by
     rw[hx1]
     refine B2 ⟨hm1,?_,fun p hp=>?_,hm4,hm5,hm6,hm7⟩
     ·rw[hks]at hm2;exact hm2
     ·rcases List.mem_cons.1 hp with rfl|hp
      ·exact hm3 k0 (by rw[hks];simp)
      ·exact hm3 p (by rw[hks];simp[hp])
    have hrk:dh 3 (ks.length+1) (.str k0.name::.int .i64 k0.field::.int .i64 n::C2)=x'.keys.map aZ:=by
     have h9:=wc (f:=aZ) (sz:=3) (fun x=>⟨[.str x.name,.int .i64 x.field,.int .i64 x.kind],rfl,rfl⟩) Xb (List.replicate kj .junk) x'.keys
     rw[hx1]at h9 ⊢
     rw[← hC2]
     exact h9
    refine MY (H.nx+1+1+1+1+1+1) (i4*8+2) (H.nx+1+1+1+1+1+1+1+1+1+1) 0 3 (ks.length+1) (x'.keys.map aZ) Xn (by rw[← hC,List.getElem?_append_right (by omega)];simp[SA]) Xa Xn (by rw[yap];exact hrk) (aa jI) fun H2 hg hk2 hn2=>?_
    have k0':=hk2 H.nx _ Xa Xa Xn
    have k1:=hk2 (H.nx+1) _ Xa Xa Xn
    have q0:=aB k0'
    simp only[zlc]at hn2
    rw[List.set_append_right _ _ Xa,hC,Nat.add_sub_cancel_left]at hg
    simp only[List.set_cons_succ,List.set_cons_zero]at hg
    replace hrow:=hrow x'
    simp only[oo,aX,aA,bhq,go_sem,q0]
    refine fL (H.nx+1+1+1+1+1+1) (C0++(ni .any .any .any x'++Z)) (aB hg) ?_ ?_
    ·refine jy (ik C0) ?_
     rw[hx1]
     simp[ni,cX,dO,cY,wkM,j6,jW,wkDL_same]
    have k2:=fun o=>(AHeap.get_set_ne (H:=H2) (i:=H.nx+1+1+1+1+1+1) o (show H.nx+1≠H.nx+1+1+1+1+1+1 by omega)).trans k1
    have q1:=fun o=>aB (k2 o)
    have qs:=fun o cs=>aB (AHeap.get_set_same (H2.set (H.nx+1+1+1+1+1+1) o) (.cells cs) (glq (k2 o)))
    simp only[oo,aX,aA,bhq,go_sem,q1,qs]
    have qg2:=fun cs p=>aB ((AHeap.get_set_ne (H:=H2.set (H.nx+1+1+1+1+1+1) (.cells cs)) (i:=H.nx+1) p (show H.nx+1+1+1+1+1+1≠H.nx+1 by omega)).trans (AHeap.get_set_same H2 (.cells cs) (glq hg)))
    refine⟨_,_,hK {S with tables:=A++x'::B} {hU with t:=nF hAB hU.t hx' },nrq _,?_,?_,hcl,iC _⟩
    ·exact Y64
    ·refine⟨by simp only[zld];omega,fun l o hj=>?_⟩
     have hj2:=glq hj
     rw[AHeap.get_set_ne _ _ Xa,AHeap.get_set_ne _ _ (Xa)]
     exact hk2 l o Xa Xa (AHeap.Le.get (by repeat first|exact .refl _|refine .push ?_ _) _ _ hj)
   ·skip
    refine ACallsP.fS aD (tCq iX (tCq iN (tCq iT (tCq ij (tCq jt (tCq jF tNq)))))) Tryz.func7 [.cell 10 34] (T:=aC ((403,[[0]])::(1202,[[300000,300004,300008,200007]])::(36,[[1]])::zqZ)) (h:=fun hcl=>?_)
    refine Tq14 ?_
    refine⟨⟨Xa,Xa,of'⟩,⟨Xa,Xa,oh⟩,⟨Xa,Xa,os⟩,⟨Xa,Xa,oa⟩,⟨Xa,Xa,ot⟩,qJ Xa,nJ (fun x=>cZ x) _,⟨Xa,Xa,og⟩,?_⟩
    refine kQ (H.nx+1+1+1+1+1+1) (cs:=(S.tables.map au).flatMap AV.cells) Xv fun kk=>?_
    obtain⟨C0,Z,hC,hfl,hrow⟩:=l8 (f:=au) (sz:=8) (fun x=>⟨ni .any .any .any x,rfl,rfl⟩) Xb kk S.tables A B m hAB
    rw[hAl]at hC
    rw[hfl]
    refine Tq3 ?_
    refine⟨or',⟨Xa,Xa,ox⟩,⟨Xa,Xa,Xb,Xb⟩,⟨Xa,Xa⟩,⟨Xa,Xa,Xb,Xb⟩,⟨Xa,Xa⟩,⟨Xa,Xa,Xb,Xb⟩,⟨Xa,Xa⟩,⟨Xa,Xa,Xb,Xb⟩,⟨Xa,Xa⟩,⟨Xa,Xa,Xb,Xb⟩,⟨Xa,Xa⟩,⟨Xa,Xa,Xb,Xb⟩,⟨Xa,Xa⟩,⟨Xa,Xa,Xb,Xb⟩,?_⟩
    obtain⟨sg,ss,ss0⟩:=xV hC
    have hm:=t2 m (by rw[hAB];simp)
    have hm0:=hm
    obtain⟨hm1,hm2,hm3,hm4,hm5,hm6,hm7⟩:=hm
    have op:=oA (f:=aZ) (l:=m.keys) fun _=>rfl
    have ob:=oA (f:=AV.int .i64) (l:=m.actions) fun _=>rfl
    have od:=oA (f:=vv) (l:=m.dargs) fun _=>rfl
    have hil:(inL m.actions).length=m.actions.length:=Xp
    simp only[aX,aA,bhq,go_sem,sg,ss,ss0,au,ziq,splice,bh,lAq,yaz,ybb,hil]
    refine⟨Xa,⟨Xa,Xa,op⟩,Xa,Xa,⟨Xa,Xa,ob⟩,Xa,⟨Xa,Xa⟩,⟨Xa,Xa,od⟩,Xa,Xa,Xa,C0,Z,m,(if(m.keys.map aZ).isEmpty=true then .full else .own (H.nx+1+1+1+1+1+1+1+1+1+1)),(if(inL m.actions).isEmpty=true then .full else .own (H.nx+1+1+1+1+1+1+1+1+1+1+1)),(if(m.dargs.map vv).isEmpty=true then .full else .own (H.nx+1+1+1+1+1+1+1+1+1+1+1+1)),k,H.nx,⟨Xn,hC.symm,Xa,⟨ha.1,ha.2⟩,r9 Xa Xo,r9 (f:=AV.int .i64) Xa Xo,r9 Xa Xo,fun h9=>Classical.byContradiction fun h10=>h8 ⟨h9,h10⟩,Xa,hm0,ht⟩,fun H1 x' m1' m2' m3' hc hx'=>?_⟩
    have k0:=hc.keep H.nx _ Xa Xn
    have k1:=hc.keep (H.nx+1) _ Xa Xn
    have hg:=hc.get
    have hnx:=hc.nx
    simp only[zlc]at hnx
    replace hrow:=hrow x'
    refine Tq37 ?_
    refine fL (H.nx+1+1+1+1+1+1) (cs:=C0++(ni m1' m2' m3' x'++Z)) (C0++(ni .any .any .any x'++Z)) (aB hg) ?_ ?_
    ·exact jy (ik C0) (jy (by simp[cX,dO,cY,wkM,j6,jW,ni]) (ik Z))
    obtain⟨q0,k2,q1,qs,qg2⟩:=ED k0 k1 hg Xa Xa
    refine Tq25 ?_
    refine⟨_,_,hK {S with tables:=A++x'::B} {hU with t:=nF hAB hU.t hx' },nrq _,?_,?_,hcl,iC _⟩
    ·exact Y64
    ·exact Y70
 ·have c6:=c
  clear c
  rcases c6 with c|c
  all_goals
   refine ACallsP.fS aD (tCq iX (tCq iN (tCq iT (tCq ij (tCq jt (tCq jF tNq)))))) Tryz.func7 [.cell 10 34] (T:=aC ((404,[[0]])::(1203,[[300000,300004,200003]])::(36,[[1]])::zqZ)) (h:=fun hcl=>?_)
   refine Tq14 ?_
   refine⟨⟨Xa,Xa,of'⟩,⟨Xa,Xa,oh⟩,⟨Xa,Xa,os⟩,⟨Xa,Xa,oa⟩,⟨Xa,Xa,ot⟩,⟨Xa,Xa,og⟩,⟨Xa,Xa,or'⟩,qJ Xa,nJ (fun x=>gO x) _,⟨Xa,Xa,ox⟩,?_⟩
   refine kQ (H.nx+1+1+1+1+1+1+1+1) (cs:=(S.roles.map aP).flatMap AV.cells) Xv fun kk=>?_
   obtain⟨A,m,B,hAl,hAB⟩:=oT (l:=S.roles) (i:=i3) Xa
   obtain⟨C0,Z,hC,hfl,hrow⟩:=l8 (f:=aP) (sz:=6) (fun x=>⟨rA .any .any x,rfl,rfl⟩) Xb kk S.roles A B m hAB
   rw[hAl]at hC
   rw[hfl]
   refine Tq3 ?_
   refine⟨⟨Xa,Xa,Xb,Xb⟩,⟨Xa,Xa⟩,⟨Xa,Xa,Xb,Xb⟩,⟨Xa,Xa⟩,⟨Xa,Xa,Xb,Xb⟩,⟨Xa,Xa⟩,⟨Xa,Xa,Xb,Xb⟩,⟨Xa,Xa⟩,⟨Xa,Xa,Xb,Xb⟩,⟨Xa,Xa⟩,⟨Xa,Xa,Xb,Xb⟩,⟨Xa,Xa⟩,⟨Xa,Xa,Xb,Xb⟩,?_⟩
   obtain⟨sg,ss,ss0⟩:=xV hC
   have hm:=r2 m (by rw[hAB];simp)
   have hm0:=hm
   obtain⟨hm1,hm2,hm3,hm4⟩:=hm
   have op:=oA (f:=aK) (l:=m.grants) fun _=>rfl
   have ob:=oA (f:=AV.int .i64) (l:=m.actions) fun _=>rfl
   have hil:(inL m.actions).length=m.actions.length:=Xp
   simp only[aX,aA,bhq,go_sem,sg,ss,ss0,aP,ziq,splice,bh,lAq,yaz,ybb,hil]
   refine⟨Xa,⟨Xa,Xa,op⟩,Xa,Xa,⟨Xa,Xa,ob⟩,Xa,Xa,C0,Z,m,(if(m.grants.map aK).isEmpty=true then .full else .own (H.nx+1+1+1+1+1+1+1+1+1+1)),(if(inL m.actions).isEmpty=true then .full else .own (H.nx+1+1+1+1+1+1+1+1+1+1+1)),k,H.nx,⟨Xn,hC.symm,Xa,⟨ha.1,ha.2⟩,r9 Xa Xo,r9 (f:=AV.int .i64) Xa Xo,Xa,hm0,ht⟩,fun H1 x' m1' m2' hc hx'=>?_⟩
   have k0:=hc.keep H.nx _ Xa Xn
   have k1:=hc.keep (H.nx+1) _ Xa Xn
   have hg:=hc.get
   have hnx:=hc.nx
   simp only[zlc]at hnx
   replace hrow:=hrow x'
   refine Tq37 ?_
   refine fL (H.nx+1+1+1+1+1+1+1+1) (cs:=C0++(rA m1' m2' x'++Z)) (C0++(rA .any .any x'++Z)) (aB hg) ?_ ?_
   ·exact jy (ik C0) (jy (by simp[cX,dO,cY,wkM,j6,jW,rA]) (ik Z))
   obtain⟨q0,k2,q1,qs,qg2⟩:=ED k0 k1 hg Xa Xa
   refine Tq25 ?_
   refine⟨_,_,hK {S with roles:=A++x'::B} {hU with r:=nF hAB hU.r hx' },nrq _,?_,?_,hcl,iC _⟩
   ·simp only[cW,aR]
    exact⟨.inl ⟨.inl rfl,rfl,rfl⟩,.inl ⟨.inl rfl,rfl,rfl⟩,.inl ⟨.inl rfl,rfl,rfl⟩,.inl ⟨.inl rfl,rfl,rfl⟩,.inl ⟨.inl rfl,rfl,rfl⟩,.inl ⟨.inl rfl,rfl,rfl⟩,uv (qg2 _ _) (by have h9:=hrow;rw[r1]at h9;exact h9) (p7 Xa),.inl ⟨.inl rfl,rfl,rfl⟩,rfl,rfl,trivial⟩
   ·exact Y70
 ·have hsn:S.stages.map aQ++[.agg [.int .i64 (cP .i64 n 7),.int .i64 (a%5)]]=(S.stages++[(⟨cP .i64 n 7,a%5⟩:SStage)]).map aQ:=by rw[List.map_append];rfl
  refine ACallsP.fS aD (tCq iX (tCq iN (tCq iT (tCq ij (tCq jt (tCq jF tNq)))))) Tryz.func7 [.cell 10 34] (T:=aC (zqZ)) (h:=fun hcl=>?_)
  refine Tq3 ?_
  refine⟨of',oh,os,oa,ot,⟨Xa,Xa,og⟩,or',⟨Xa,Xa,ox⟩,⟨Xa,Xa,Xb,Xb⟩,⟨Xa,Xa⟩,⟨Xa,Xa,Xb,Xb⟩,⟨Xa,Xa⟩,⟨Xa,Xa,Xb,Xb⟩,⟨Xa,Xa⟩,⟨Xa,Xa,Xb,Xb⟩,⟨Xa,Xa⟩,⟨Xa,Xa,Xb,Xb⟩,⟨Xa,Xa⟩,⟨Xa,Xa,Xb,Xb⟩,⟨Xa,Xa⟩,⟨Xa,Xa,Xb,Xb⟩,⟨Xa,Xa,Xb,Xb⟩,?_⟩
  cases hge:(S.stages.map aQ).isEmpty
  all_goals
   simp only[aX,aA,bhq,go_sem,hge,Bool.false_eq_true,if_false,if_true,ybb,List.isEmpty_cons,hsn]
   refine⟨⟨Xa,Xa,fun z hz=>by rw[List.mem_singleton.1 hz];rfl⟩,?_⟩
   refine⟨_,_,hK {S with stages:=S.stages++[⟨cP .i64 n 7,a%5⟩]} {hU with g:=by simp;omega},nrq _,?_,by repeat first|exact .refl _|refine .push ?_ _,hcl,iC _⟩
   simp only[cW,aR]
   exact⟨.inl ⟨.inl rfl,rfl,rfl⟩,.inl ⟨.inl rfl,rfl,rfl⟩,.inl ⟨.inl rfl,rfl,rfl⟩,.inl ⟨.inl rfl,rfl,rfl⟩,.inl ⟨.inl rfl,rfl,rfl⟩,.inl ⟨.inl rfl,rfl,rfl⟩,.inl ⟨.inl rfl,rfl,rfl⟩,.inl ⟨.inl rfl,rfl,rfl⟩,rfl,rfl,trivial⟩
 ·skip
  refine ACallsP.fS aD (tCq iX (tCq iN (tCq iT (tCq ij (tCq jt (tCq jF tNq)))))) Tryz.func7 [.cell 10 34] (T:=aC (zqZ)) (h:=fun hcl=>?_)
  refine Tq3 ?_
  refine⟨of',oh,os,oa,ot,⟨Xa,Xa,og⟩,or',⟨Xa,Xa,ox⟩,⟨Xa,Xa,Xb,Xb⟩,⟨Xa,Xa⟩,⟨Xa,Xa,Xb,Xb⟩,⟨Xa,Xa⟩,⟨Xa,Xa,Xb,Xb⟩,⟨Xa,Xa⟩,⟨Xa,Xa,Xb,Xb⟩,⟨Xa,Xa⟩,⟨Xa,Xa,Xb,Xb⟩,⟨Xa,Xa⟩,⟨Xa,Xa,Xb,Xb⟩,⟨Xa,Xa⟩,⟨Xa,Xa,Xb,Xb⟩,?_⟩
  refine⟨Xb,Xb,?_⟩
  cases hge:(S.refs.map bc).isEmpty
  all_goals
   refine ax (fun hc=>?_) (fun hc=>?_)
   ·have hsn:S.refs.map bc++[.agg [.int .i64 (IntKind.i64.wrap (1+cP .i64 a 3)),.int .i64 0,.int .i64 (cP .i64 n 7),.int .i64 (cP .i64 (fI .i64 n 3) 1),.int .i64 (IntKind.i64.wrap (1+cP .i64 (fI .i64 a 2) 3)),.int .i64 0]]=(S.refs++[(⟨IntKind.i64.wrap (1+cP .i64 a 3),0,cP .i64 n 7,cP .i64 (fI .i64 n 3) 1,IntKind.i64.wrap (1+cP .i64 (fI .i64 a 2) 3),0⟩:SRef)]).map bc:=by rw[List.map_append];rfl
    refine Tq50 ?_
    refine⟨Xb,Xb,⟨Xa,Xa,fun z hz=>by rw[List.mem_singleton.1 hz];rfl⟩,?_⟩
    refine⟨_,_,hK {S with refs:=S.refs++[⟨IntKind.i64.wrap (1+cP .i64 a 3),0,cP .i64 n 7,cP .i64 (fI .i64 n 3) 1,IntKind.i64.wrap (1+cP .i64 (fI .i64 a 2) 3),0⟩]} {hU with x:=by simp;omega},nrq _,?_,by repeat first|exact .refl _|refine .push ?_ _,hcl,iC _⟩
    simp only[cW,aR]
    exact Y50
   ·have hsn:S.refs.map bc++[.agg [.int .i64 (IntKind.i64.wrap (1+cP .i64 a 3)),.int .i64 (cP .i64 n 3),.int .i64 0,.int .i64 0,.int .i64 (IntKind.i64.wrap (1+cP .i64 (fI .i64 a 2) 3)),.int .i64 (cP .i64 (fI .i64 n 2) 1)]]=(S.refs++[(⟨IntKind.i64.wrap (1+cP .i64 a 3),cP .i64 n 3,0,0,IntKind.i64.wrap (1+cP .i64 (fI .i64 a 2) 3),cP .i64 (fI .i64 n 2) 1⟩:SRef)]).map bc:=by rw[List.map_append];rfl
    refine Tq50 ?_
    refine⟨⟨Xa,Xa,fun z hz=>by rw[List.mem_singleton.1 hz];rfl⟩,?_⟩
    refine⟨_,_,hK {S with refs:=S.refs++[⟨IntKind.i64.wrap (1+cP .i64 a 3),cP .i64 n 3,0,0,IntKind.i64.wrap (1+cP .i64 (fI .i64 a 2) 3),cP .i64 (fI .i64 n 2) 1⟩]} {hU with x:=by simp;omega},nrq _,?_,by repeat first|exact .refl _|refine .push ?_ _,hcl,iC _⟩
    simp only[cW,aR]
    exact Y50
 ·skip
  refine ACallsP.fS aD (tCq iX (tCq iN (tCq iT (tCq ij (tCq jt (tCq jF tNq)))))) Tryz.func7 [.cell 10 34] (T:=aC (zqZ)) (h:=fun hcl=>?_)
  refine Tq3 ?_
  refine⟨of',oh,os,oa,ot,⟨Xa,Xa,og⟩,or',⟨Xa,Xa,ox⟩,⟨Xa,Xa,Xb,Xb⟩,⟨Xa,Xa⟩,⟨Xa,Xa,Xb,Xb⟩,⟨Xa,Xa⟩,⟨Xa,Xa,Xb,Xb⟩,⟨Xa,Xa⟩,⟨Xa,Xa,Xb,Xb⟩,⟨Xa,Xa⟩,⟨Xa,Xa,Xb,Xb⟩,⟨Xa,Xa⟩,⟨Xa,Xa,Xb,Xb⟩,⟨Xa,Xa⟩,⟨Xa,Xa,Xb,Xb⟩,?_⟩
  refine⟨_,_,hK {S with maxBatch:=n,budget:=IntKind.i64.wrap (1+cP .i64 a 255)} {hU with},nrq _,?_,by repeat first|exact .refl _|refine .push ?_ _,hcl,iC _⟩
  simp only[cW,aR]
  exact Y50
end Go.AL
