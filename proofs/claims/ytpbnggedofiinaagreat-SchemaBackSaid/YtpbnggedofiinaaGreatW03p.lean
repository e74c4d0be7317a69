/- Lemmas of the proof; no condition. -/
import Derived.Test.YtpbnggedofiinaaGreatW03l
set_option linter.all false
set_option maxRecDepth 10000
open Go Go.AL Go.Proofs
namespace Go.AL
theorem G2:ti Tryz.prog 22=some ⟨.slice 5,1,24,.slice .nil 1 []⟩:=by kernel_rfl
attribute [go_sem] G2
def qa:Sch:=⟨[],[],[],[],[],[],[],[],1,2⟩
theorem DA:u4 qa=([0,1,0,2,0,0,0,0,0,0,0,0,0,0,0,0,0,0,0,0],0):=by decide +kernel
theorem Et:(dr qa).b.length≤ce:=by decide +kernel
theorem FW:OkSch qa:=⟨by simp [qa],by simp [qa],by simp [qa],by simp [qa],by simp [qa],by simp [qa]⟩
def mT:List AV→AHeap→(AV→Prop)→Prop
 |[],_,K=>K (.bool true)
 |_,_,_=>False
set_option maxHeartbeats 2000000 in
theorem xE:EntOk Tryz.prog 23 (Ent.pure mT):=by
 refine Ype fun _ H K h=>?_
 unfold mT at h
 split at h
 rotate_left
 ·exact h.elim
 refine ⟨_,h,?_⟩
 clear h
 refine ACalls.fW ag (tCq ok_zEnc tNq) Tryz.func23 [.tmp 0] (nrq _) (T:=af [(802,[[100005]]),(1,[[4]])]) (h:=fun hcl hlt=>?_)
 clear hlt
 simp only [bhq,Nat.reduceMod,Nat.reduceDiv,bh,bg,bm,cz,bk,cy,cr,cx,cu,List.take_succ_cons,List.take_zero,List.drop_succ_cons,List.drop_zero,go_sem,byq]
 refine iP 4 (.agg (a9 qa)) ?_ ?_
 ·simp [Fr.get,a9,qa,jF,fJ,fH,gM,gu,iu,ka,wkM]
 simp only [bhq,Nat.reduceMod,Nat.reduceDiv,bh,bg,bm,cz,bk,cy,cr,cx,cu,List.take_succ_cons,List.take_zero,List.drop_succ_cons,List.drop_zero,go_sem,byq,xK,F6]
 refine ⟨qa,⟨rfl,FW,Et⟩,?_⟩
 rw [DA]
 simp only [go_sem,byq,Int.reduceBEq]
 rw [show bM 1 16 (bys (List.replicate 16 0))=bys (List.replicate 16 0) from rfl]
 refine ⟨by decide,fun y hy=>?_,by decide,?_⟩
 ·obtain ⟨c,_,rfl⟩:=List.mem_map.1 (show y∈(List.replicate 16 (0:UInt8)).map aO from hy)
  exact ⟨_,rfl⟩
 ·refine ⟨?_,by repeat first|exact .refl _|refine .push ?_ _,hcl,?_⟩
  ·simp only [wk,wk2,wk1];rfl
  ·simp [zng]
theorem B7:ti Tryz.prog 26=some ⟨.slice 157,1,24,.slice .nil 1 []⟩:=by kernel_rfl
theorem DI:ti Tryz.prog 27=some ⟨.slice 87,1,24,.slice .nil 1 []⟩:=by kernel_rfl
theorem BN:ti Tryz.prog 29=some ⟨.slice 178,1,24,.slice .nil 1 []⟩:=by kernel_rfl
theorem Cx:ti Tryz.prog 23=some ⟨.slice 72,1,24,.slice .nil 1 []⟩:=by kernel_rfl
theorem CK:ti Tryz.prog 154=some ⟨.slice 223,1,24,.slice .nil 1 []⟩:=by kernel_rfl
theorem BZ:ti Tryz.prog 30=some ⟨.slice 83,1,24,.slice .nil 1 []⟩:=by kernel_rfl
theorem C8:ti Tryz.prog 155=some ⟨.slice 221,1,24,.slice .nil 1 []⟩:=by kernel_rfl
theorem Ek:ti Tryz.prog 28=some ⟨.slice 81,1,24,.slice .nil 1 []⟩:=by kernel_rfl
theorem EC:ti Tryz.prog 73=some ⟨.slice 3,1,24,.slice .nil 1 []⟩:=by kernel_rfl
theorem Gq:ti Tryz.prog 157=some ⟨.struct [(0,3,false),(1,9,false),(2,154,false),(3,155,false),(4,9,false)],5,88,.agg [.int .i64 0,.str [],.slice .nil 1 [],.slice .nil 1 [],.str []]⟩:=by kernel_rfl
theorem Fi:ti Tryz.prog 87=some ⟨.struct [(0,3,false),(1,9,false),(2,84,false),(3,73,false),(4,3,false),(5,85,false),(6,3,false),(7,9,false)],8,128,.agg [.int .i64 0,.str [],.slice .nil 1 [],.slice .nil 1 [],.int .i64 0,.slice .nil 1 [],.int .i64 0,.str []]⟩:=by kernel_rfl
theorem F5:ti Tryz.prog 178=some ⟨.struct [(0,3,false),(1,9,false),(2,176,false),(3,73,false),(4,3,false),(5,4,false)],6,88,.agg [.int .i64 0,.str [],.slice .nil 1 [],.slice .nil 1 [],.int .i64 0,.bool false]⟩:=by kernel_rfl
theorem Gp:ti Tryz.prog 72=some ⟨.struct [(0,3,false),(1,9,false),(2,3,false)],3,32,.agg [.int .i64 0,.str [],.int .i64 0]⟩:=by kernel_rfl
theorem Gi:ti Tryz.prog 223=some ⟨.struct [(0,9,false),(1,3,false)],2,24,.agg [.str [],.int .i64 0]⟩:=by kernel_rfl
theorem EZ:ti Tryz.prog 221=some ⟨.struct [(0,3,false),(1,3,false),(2,219,false)],6,48,.agg [.int .i64 0,.int .i64 0,.int .i64 0,.int .i64 0,.int .u64 0,.int .u64 0]⟩:=by kernel_rfl
theorem E0:ti Tryz.prog 219=some ⟨.struct [(0,3,false),(1,3,false),(2,38,false)],4,32,.agg [.int .i64 0,.int .i64 0,.int .u64 0,.int .u64 0]⟩:=by kernel_rfl
theorem FY:ti Tryz.prog 83=some ⟨.struct [(0,3,false),(1,3,false),(2,3,false),(3,3,false),(4,3,false),(5,3,false)],6,48,.agg [.int .i64 0,.int .i64 0,.int .i64 0,.int .i64 0,.int .i64 0,.int .i64 0]⟩:=by kernel_rfl
theorem Fk:ti Tryz.prog 81=some ⟨.struct [(0,3,false),(1,3,false)],2,16,.agg [.int .i64 0,.int .i64 0]⟩:=by kernel_rfl
attribute [go_sem] B7 DI BN Cx CK BZ C8 Ek EC Gq Fi F5 Gp Gi EZ E0 FY Fk
theorem wt {v:Nat} (h:v<2^128):(jh v).length≤17:=by
 unfold jh
 rw [List.length_cons,lT]
 have:=ol h
 omega
theorem cR (n w:Int):(dZ n w).b.length≤4:=cn n w
theorem lO (s:List UInt8) (m:Int):(ld s m).b.length≤65537:=xO s
theorem rl {v:Nat} (h:ib v):(kE v).b.length≤17:=wt h
theorem rF (x:Bool):(jO x).b.length≤1:=by simp [jO]
theorem EM {α:Type} {g:α→Enc} {B:Nat}:∀ {l:List α},(∀ a∈l,(g a).b.length≤B)→(bD g l).b.length≤l.length*B
 |[],_=>Nat.zero_le _
 |x::l,h=>by
  rw [bD,bL,List.length_cons,Nat.succ_mul]
  have:=h x List.mem_cons_self
  have:=EM (l:=l) fun a ha=>h a (List.mem_cons_of_mem _ ha)
  omega
theorem eT {α:Type} {g:α→Enc} {m:Int} {n B:Nat} {l:List α} (hl:l.length≤n) (h:∀ a∈l,(g a).b.length≤B):(bC g m l).b.length≤4+n*B:=by
 unfold bC ei
 rw [bL]
 have h1:=EM h
 have h2:=cn (l.length:Int) 2
 have h3:l.length*B≤n*B:=Nat.mul_le_mul_right _ hl
 dsimp only
 omega
structure SmP (N R:Nat) (x:Sch):Prop where
 f:x.fields.length≤N∧∀ a∈x.fields,mh a.name
 h:x.headers.length≤N∧∀ a∈x.headers,mh a.name∧a.fields.length≤R
 s:x.states.length≤N∧∀ a∈x.states,a.cases.length≤R∧∀ c∈a.cases,rn c
 a:x.actions.length≤N∧∀ a∈x.actions,mJ a∧a.params.length≤R∧a.body.length≤R
 t:x.tables.length≤N∧∀ a∈x.tables,oR a∧a.keys.length≤R∧a.actions.length≤R∧a.dargs.length≤R
 g:x.stages.length≤R
 r:x.roles.length≤N∧∀ a∈x.roles,mh a.name∧a.grants.length≤R∧a.actions.length≤R∧∀ q∈a.grants,q.keys.length≤R
 x:x.refs.length≤R
theorem SmP.ok {N R:Nat} {x:Sch} (h:SmP N R x):OkSch x :=
 ⟨h.f.2,fun a ha=>(h.h.2 a ha).1,fun a ha=>(h.s.2 a ha).2,fun a ha=>(h.a.2 a ha).1,fun a ha=>(h.t.2 a ha).1,fun a ha=>(h.r.2 a ha).1⟩
theorem SmP.mono {N R N' R':Nat} {x:Sch} (h:SmP N R x) (hN:N≤N') (hR:R≤R'):SmP N' R' x where
 f:=⟨Nat.le_trans h.f.1 hN,h.f.2⟩
 h:=⟨Nat.le_trans h.h.1 hN,fun a ha=>⟨(h.h.2 a ha).1,Nat.le_trans (h.h.2 a ha).2 hR⟩⟩
 s:=⟨Nat.le_trans h.s.1 hN,fun a ha=>⟨Nat.le_trans (h.s.2 a ha).1 hR,(h.s.2 a ha).2⟩⟩
 a:=⟨Nat.le_trans h.a.1 hN,fun a ha=>⟨(h.a.2 a ha).1,Nat.le_trans (h.a.2 a ha).2.1 hR,Nat.le_trans (h.a.2 a ha).2.2 hR⟩⟩
 t:=⟨Nat.le_trans h.t.1 hN,fun a ha=>⟨(h.t.2 a ha).1,Nat.le_trans (h.t.2 a ha).2.1 hR,Nat.le_trans (h.t.2 a ha).2.2.1 hR,Nat.le_trans (h.t.2 a ha).2.2.2 hR⟩⟩
 g:=Nat.le_trans h.g hR
 r:=⟨Nat.le_trans h.r.1 hN,fun a ha=>⟨(h.r.2 a ha).1,Nat.le_trans (h.r.2 a ha).2.1 hR,Nat.le_trans (h.r.2 a ha).2.2.1 hR,fun q hq=>Nat.le_trans ((h.r.2 a ha).2.2.2 q hq) hR⟩⟩
 x:=Nat.le_trans h.x hR
theorem SmP.len {x:Sch} (h:SmP 50 1100000 x):(dr x).b.length≤ce:=by
 have e1:(bC im 32 x.fields).b.length≤4+50*65545:=eT h.f.1 fun a _=>by
  unfold im;rw [bL,bL]
  have:=cR a.id 2;have:=lO a.name 24;have:=cR a.bits 1;omega
 have e2:(bC fD 8 x.headers).b.length≤4+50*(65545+1100000*4):=eT h.h.1 fun a ha=>by
  unfold fD;rw [bL,bL]
  have:=cR a.id 2;have:=lO a.name 24
  have:=eT (g:=fh) (m:=32) (h.h.2 a ha).2 (B:=4) fun n _=>cR n 2
  omega
 have e3:(bC iK 12 x.states).b.length≤4+50*(20+1100000*38):=eT h.s.1 fun a ha=>by
  unfold iK;rw [bL,bL,bL,bL]
  have:=cR a.id 2;have:=cR a.header 2;have:=cR a.select 2;have:=cR a.dflt 2
  have:=eT (g:=me) (m:=6) (h.s.2 a ha).1 (B:=38) fun c hc=>by
   unfold me;rw [bL,bL]
   have:=rl ((h.s.2 a ha).2 c hc).1;have:=rl ((h.s.2 a ha).2 c hc).2;have:=cR c.next 2;omega
  omega
 have e4:(bC fA 12 x.actions).b.length≤4+50*(131086+1100000*65541+1100000*33):=eT h.a.1 fun a ha=>by
  unfold fA;rw [bL,bL,bL,bL]
  obtain ⟨h1,h2,h3⟩:=h.a.2 a ha
  have:=cR a.id 2;have:=lO a.name 24;have:=lO a.restr 400
  have:=eT (g:=jx) (m:=4) h2 (B:=65541) fun c hc=>by
   unfold jx;rw [bL]
   have:=lO c.name 24;have:=cR c.bits 1;omega
  have:=eT (g:=ma) (m:=12) h3 (B:=33) fun c hc=>by
   unfold ma;rw [bL,bL,bL,bL]
   have:=cR c.op 1;have:=cR c.dst 2;have:=cR c.kind 1;have:=cR c.n 2;have:=rl (h1.2.2.1 c hc);omega
  omega
 have e5:(bC io 8 x.tables).b.length≤4+50*(131098+1100000*65545+1100000*4+1100000*17):=eT h.t.1 fun a ha=>by
  unfold io;simp only [bL]
  obtain ⟨h1,h2,h3,h4⟩:=h.t.2 a ha
  have:=cR a.id 2;have:=lO a.name 24;have:=lO a.restr 400;have:=cR a.dflt 2;have:=cR a.size 2
  have:=eT (g:=po) (m:=4) h2 (B:=65545) fun c hc=>by
   unfold po;rw [bL,bL]
   have:=lO c.name 24;have:=cR c.field 2;have:=cR c.kind 1;omega
  have:=eT (g:=fh) (m:=12) h3 (B:=4) fun n _=>cR n 2
  have:=eT (g:=kE) (m:=4) h4 (B:=17) fun v hv=>rl (h1.2.2.1 v hv)
  omega
 have e6:(bC i9 12 x.stages).b.length≤4+1100000*8:=eT h.g fun a _=>by
  unfold i9;rw [bL]
  have:=cR a.table 2;have:=cR a.header 2;omega
 have e7:(bC jU 6 x.roles).b.length≤4+50*(65560+1100000*(10+1100000*1)+1100000*4):=eT h.r.1 fun a ha=>by
  unfold jU;simp only [bL]
  obtain ⟨h1,h2,h3,h4⟩:=h.r.2 a ha
  have:=cR a.id 2;have:=lO a.name 24;have:=cR a.quota 2;have:=rF a.audit
  have:=eT (g:=jP) (m:=8) h2 (B:=10+1100000*1) fun c hc=>by
   unfold jP;simp only [bL]
   have:=cR c.table 2;have:=rF c.read;have:=rF c.write
   have:=eT (g:=jO) (m:=4) (h4 c hc) (B:=1) fun y _=>rF y
   omega
  have:=eT (g:=fh) (m:=12) h3 (B:=4) fun n _=>cR n 2
  omega
 have e8:(bC nE 8 x.refs).b.length≤4+1100000*24:=eT h.x fun a _=>by
  unfold nE;simp only [bL]
  have:=cR a.table 2;have:=cR a.key 1;have:=cR a.action 2;have:=cR a.param 1;have:=cR a.toTable 2;have:=cR a.toKey 1;omega
 unfold dr cb
 simp only [bL]
 rw [aZ]
 have:=cR x.maxBatch 2;have:=cR x.budget 2
 omega
theorem dy {s:List UInt8} (h:s.length≤1000):mh s:=by unfold mh;rw [aZ];omega
theorem c9 {v:Nat} (h:v≤1000):ib v:=by unfold ib;omega
theorem sF (b:List UInt8) (v:Nat):(bz b v).1.length≤40∧∀ a∈(bz b v).1,a.cases.length≤1000∧∀ c∈a.cases,rn c:=by
 have h2:=eO (b:=b) (v:=v+2) (n:=2) (by decide)
 have h6:=eO (b:=b) (v:=v+6) (n:=3) (by decide)
 have h4:=eO (b:=b) (v:=v+4) (n:=3) (by decide)
 unfold bz
 (repeat' split)<;>refine ⟨by simp,fun a ha=>?_⟩<;>simp only [List.mem_cons,List.not_mem_nil,or_false] at ha<;>rcases ha with rfl|rfl|rfl<;>refine ⟨by simp,fun c hc=>?_⟩ <;>
   simp only [List.mem_cons,List.not_mem_nil,or_false] at hc <;>
   first
    |exact hc.elim
    |(subst hc;exact ⟨c9 (by dsimp only;omega),c9 (by dsimp only;omega)⟩)
    |(rcases hc with rfl|rfl<;>exact ⟨c9 (by dsimp only;omega),c9 (by dsimp only;omega)⟩)
    |(rcases hc with rfl|rfl|rfl<;>exact ⟨c9 (by dsimp only;omega),c9 (by dsimp only;omega)⟩)
theorem sc (b:List UInt8) (v:Nat):(cU b v).length=6∧∀ a∈cU b v,mJ a∧a.params.length≤1000∧a.body.length≤1000:=by
 have h1:=eO (b:=b) (v:=v+1) (n:=256) (by decide)
 refine ⟨rfl,fun a ha=>?_⟩
 simp only [cU,List.mem_cons,List.not_mem_nil,or_false] at ha
 rcases ha with rfl|rfl|rfl|rfl|rfl|rfl<;>refine ⟨⟨dy (by simp),fun p hp=>?_,fun p hp=>?_,dy (by dsimp only;(try split)<;>simp)⟩,by simp,by simp⟩<;>simp only [List.mem_cons,List.not_mem_nil,or_false] at hp <;>
  first
   |exact hp.elim
   |(subst hp;first|exact dy (by simp)|exact c9 (by dsimp only;omega))
   |(rcases hp with rfl|rfl<;>first|exact dy (by simp)|exact c9 (by dsimp only;omega))
   |(rcases hp with rfl|rfl|rfl<;>first|exact dy (by simp)|exact c9 (by dsimp only;omega))
theorem lU {L:List (List UInt8)} (h:∀ s∈L,s.length≤1000) (i:Nat):mh (L.getD i []):=by
 rw [gEq]
 cases hi:L[i]? with
 |none=>exact dy (by simp)
 |some s=>exact dy (h s (List.mem_of_getElem? hi))
theorem sA (b:List UInt8) (v:Nat):(bZ b v).length=4∧∀ a∈bZ b v,oR a∧a.keys.length≤1000∧a.actions.length≤1000∧a.dargs.length≤1000:=by
 refine ⟨rfl,fun a ha=>?_⟩
 simp only [bZ,List.mem_cons,List.not_mem_nil,or_false] at ha
 rcases ha with rfl|rfl|rfl|rfl
 ·refine ⟨⟨dy (by simp [eK]),fun k hk=>?_,by simp [eK],lU (by decide) _⟩,by simp [eK],by simp [eK],by simp [eK]⟩
  simp only [eK,List.mem_cons,List.not_mem_nil,or_false] at hk
  subst hk;exact dy (by simp)
 ·refine ⟨⟨dy (by simp [er]),fun k hk=>?_,by simp [er],lU (by decide) _⟩,by simp only [er];split<;>simp,by simp [er],by simp [er]⟩
  simp only [er] at hk
  split at hk<;>simp only [List.cons_append,List.nil_append,List.append_nil,List.mem_cons,List.not_mem_nil,or_false] at hk
  ·rcases hk with rfl|rfl<;>exact dy (by simp)
  ·subst hk;exact dy (by simp)
 ·refine ⟨⟨dy (by simp [cC]),fun k hk=>?_,by simp [cC],lU (by decide) _⟩,by simp only [cC];split<;>simp,by simp [cC],by simp [cC]⟩
  simp only [cC] at hk
  split at hk<;>simp only [List.cons_append,List.nil_append,List.append_nil,List.mem_cons,List.not_mem_nil,or_false] at hk
  ·rcases hk with rfl|rfl|rfl<;>exact dy (by simp)
  ·rcases hk with rfl|rfl<;>exact dy (by simp)
 ·refine ⟨⟨dy (by simp [cB]),fun k hk=>?_,fun x hx=>?_,lU (by decide) _⟩,by simp only [cB];split<;>simp,by simp [cB],by simp [cB]⟩
  ·simp only [cB] at hk
   split at hk<;>simp only [List.cons_append,List.nil_append,List.append_nil,List.mem_cons,List.not_mem_nil,or_false] at hk
   ·rcases hk with rfl|rfl|rfl<;>exact dy (by simp)
   ·subst hk;exact dy (by simp)
  ·simp only [cB,List.mem_singleton] at hx
   subst hx;exact c9 (by omega)
def GrOk (n:Nat) (l:List SGrant):Prop:=l.length≤n∧∀ q∈l,q.keys.length≤1000
theorem GrOk.nil {n:Nat}:GrOk n []:=⟨Nat.zero_le _,fun q hq=>by cases hq⟩
theorem GrOk.cons {n:Nat} {l:List SGrant} {q:SGrant} (h:GrOk n l) (hq:q.keys.length≤1000):GrOk (n+1) (q::l) :=
 ⟨Nat.succ_le_succ h.1,fun x hx=>(List.mem_cons.1 hx).elim (fun e=>e ▸ hq) (h.2 x)⟩
theorem GrOk.up {n:Nat} {l:List SGrant} (h:GrOk n l):GrOk (n+1) l:=⟨Nat.le_succ_of_le h.1,h.2⟩
theorem iz (b:List UInt8):∀ (ts:List STable) (v:Nat),(∀ t∈ts,t.keys.length≤1000)→GrOk ts.length (cL b ts v).1.1∧GrOk ts.length (cL b ts v).1.2.1∧GrOk ts.length (cL b ts v).1.2.2
 |[],v,_=>⟨.nil,.nil,.nil⟩
 |t::ts,v,h=>by
  have ht:=h t List.mem_cons_self
  have hp:∀ v,(jk b v t.keys.length).length≤1000:=fun v=>by simp [jk];exact ht
  have hr:(List.replicate t.keys.length true).length≤1000:=by simp;exact ht
  simp only [cL]
  rw [List.length_cons]
  split<;>split
  ·obtain ⟨i1,i2,i3⟩:=iz b ts (v+t.keys.length+3+3) fun x hx=>h x (List.mem_cons_of_mem _ hx)
   exact ⟨i1.cons hr,i2.cons (hp _),i3.cons hr⟩
  ·obtain ⟨i1,i2,i3⟩:=iz b ts (v+t.keys.length+3+1) fun x hx=>h x (List.mem_cons_of_mem _ hx)
   exact ⟨i1.cons hr,i2.cons (hp _),i3.up⟩
  ·obtain ⟨i1,i2,i3⟩:=iz b ts (v+t.keys.length+1+3) fun x hx=>h x (List.mem_cons_of_mem _ hx)
   exact ⟨i1.cons hr,i2.up,i3.cons hr⟩
  ·obtain ⟨i1,i2,i3⟩:=iz b ts (v+t.keys.length+1+1) fun x hx=>h x (List.mem_cons_of_mem _ hx)
   exact ⟨i1.cons hr,i2.up,i3.up⟩
theorem BD (b:List UInt8) (v:Nat):SmP 40 1000 (gU b v).1:=by
 unfold gU
 dsimp only
 obtain ⟨t1,t2⟩:=sA b (cp (bz b (cp v 2)).2 4)
 obtain ⟨a1,a2⟩:=sc b (bz b (cp v 2)).2
 refine ⟨⟨(by decide:gFields.length≤40),fun a ha=>?_⟩,⟨(by decide:gHeaders.length≤40),fun a ha=>?_⟩,sF b _,⟨by dsimp only;omega,a2⟩,⟨by dsimp only;omega,t2⟩,?_,⟨by simp [il],fun a ha=>?_⟩,?_⟩
 ·simp only [gFields,List.mem_cons,List.not_mem_nil,or_false] at ha
  rcases ha with rfl|rfl|rfl|rfl|rfl|rfl|rfl|rfl|rfl<;>exact dy (by simp)
 ·simp only [gHeaders,List.mem_cons,List.not_mem_nil,or_false] at ha
  rcases ha with rfl|rfl|rfl<;>exact ⟨dy (by simp),by simp⟩
 ·split<;>simp
 ·obtain ⟨g1,g2,g3⟩:=iz b (bZ b (cp (bz b (cp v 2)).2 4)) (cp (bz b (cp v 2)).2 16+4) fun t ht=>(t2 t ht).2.1
  rw [t1] at g1 g2 g3
  simp only [il,List.mem_cons,List.not_mem_nil,or_false] at ha
  rcases ha with rfl|rfl|rfl
  ·exact ⟨dy (by simp),by have:=g1.1;dsimp only;omega,by simp,g1.2⟩
  ·exact ⟨dy (by simp),by have:=g2.1;dsimp only;omega,by simp,g2.2⟩
  ·exact ⟨dy (by simp),by have:=g3.1;dsimp only;omega,by simp,g3.2⟩
 ·(repeat' split)<;>simp
theorem AR {b:List UInt8}:zod b 0=fo b (cp 0 0):=by
 unfold zod fo cp
 simp
end Go.AL
