/- Contracts and plain laws, a part of the proof; no condition of its own. -/
import Derived.Test.YtiiiljghmilepaaGreatW03l
open Go Go.AL Go.Proofs
namespace Go.AL
set_option linter.all false
set_option maxRecDepth 10000
theorem G8:ti Tryz.prog 22=some ⟨.slice 5,1,24,.slice .nil 1 []⟩:=by kernel_rfl
attribute [go_sem] G8
def qc:Sch:=⟨[],[],[],[],[],[],[],[],1,2⟩
theorem DB:t6 qc=([0,1,0,2,0,0,0,0,0,0,0,0,0,0,0,0,0,0,0,0],0):=by decide +kernel
theorem DE:(gZ qc).b.length≤cR:=by decide +kernel
theorem Gm:OkSch qc:=⟨by simp [qc],by simp [qc],by simp [qc],by simp [qc],by simp [qc],by simp [qc]⟩
def pd:List AV→AHeap→(AV→Prop)→Prop
 |[],_,K=>K (.bool true)
 |_,_,_=>False
set_option maxHeartbeats 2000000 in
theorem xA:EntOk Tryz.prog 14 (Ent.pure pd):=by
 refine EntOk.pure fun args H K h=>?_
 unfold pd at h
 split at h
 rotate_left
 ·exact h.elim
 refine ⟨_,h,?_⟩
 clear h
 refine ACalls.fW aB (TblOk.cons FJ TblOk.nil) Tryz.func14 [.tmp 0] (Nat.le_refl _) (T:=ay [(802,[[100005]]),(1,[[4]])]) (h:=fun hcl hlt=>?_)
 clear hlt
 simp only [bhq,Nat.reduceMod,Nat.reduceDiv,aY,aZ,a0,cb,a9,bY,ca,bV,bW,List.take_succ_cons,List.take_zero,List.drop_succ_cons,List.drop_zero,go_sem,byq]
 refine g8 4 (.agg (bL qc)) ?_ ?_
 ·simp [Fr.get,bL,qc,jR,fI,fJ,gA,gH,iD,jk,wkM]
 simp only [bhq,Nat.reduceMod,Nat.reduceDiv,aY,aZ,a0,cb,a9,bY,ca,bV,bW,List.take_succ_cons,List.take_zero,List.drop_succ_cons,List.drop_zero,go_sem,byq,yz,A5]
 refine ⟨qc,⟨rfl,Gm,DE⟩,?_⟩
 rw [DB]
 simp only [go_sem,byq,Int.reduceBEq]
 rw [show cP 1 16 (bys (List.replicate 16 0))=bys (List.replicate 16 0) from rfl]
 refine ⟨by decide,fun y hy=>?_,by decide,?_⟩
 ·obtain ⟨c,_,rfl⟩:=List.mem_map.1 (show y∈(List.replicate 16 (0:UInt8)).map bd from hy)
  exact ⟨_,rfl⟩
 ·refine ⟨?_,by repeat first|exact .refl _|refine .push ?_ _,hcl,?_⟩
  ·simp only [wk,wk2,wk1];rfl
  ·simp [zna]
end Go.AL
open Go Go.AL Go.Proofs
namespace Go.AL
set_option linter.all false
set_option maxRecDepth 10000
theorem CN:ti Tryz.prog 29=some ⟨.slice 58,1,24,.slice .nil 1 []⟩:=by kernel_rfl
theorem Ec:ti Tryz.prog 30=some ⟨.slice 54,1,24,.slice .nil 1 []⟩:=by kernel_rfl
theorem Em:ti Tryz.prog 32=some ⟨.slice 87,1,24,.slice .nil 1 []⟩:=by kernel_rfl
theorem Et:ti Tryz.prog 26=some ⟨.slice 95,1,24,.slice .nil 1 []⟩:=by kernel_rfl
theorem Eh:ti Tryz.prog 55=some ⟨.slice 247,1,24,.slice .nil 1 []⟩:=by kernel_rfl
theorem DP:ti Tryz.prog 33=some ⟨.slice 90,1,24,.slice .nil 1 []⟩:=by kernel_rfl
theorem CF:ti Tryz.prog 56=some ⟨.slice 251,1,24,.slice .nil 1 []⟩:=by kernel_rfl
theorem CH:ti Tryz.prog 31=some ⟨.slice 84,1,24,.slice .nil 1 []⟩:=by kernel_rfl
theorem Ed:ti Tryz.prog 51=some ⟨.slice 3,1,24,.slice .nil 1 []⟩:=by kernel_rfl
theorem FD:ti Tryz.prog 58=some ⟨.struct [(0,3,false),(1,9,false),(2,55,false),(3,56,false),(4,9,false)],5,88,.agg [.int .i64 0,.str [],.slice .nil 1 [],.slice .nil 1 [],.str []]⟩:=by kernel_rfl
theorem F6:ti Tryz.prog 54=some ⟨.struct [(0,3,false),(1,9,false),(2,50,false),(3,51,false),(4,3,false),(5,52,false),(6,3,false),(7,9,false)],8,128,.agg [.int .i64 0,.str [],.slice .nil 1 [],.slice .nil 1 [],.int .i64 0,.slice .nil 1 [],.int .i64 0,.str []]⟩:=by kernel_rfl
theorem FF:ti Tryz.prog 87=some ⟨.struct [(0,3,false),(1,9,false),(2,85,false),(3,51,false),(4,3,false),(5,4,false)],6,88,.agg [.int .i64 0,.str [],.slice .nil 1 [],.slice .nil 1 [],.int .i64 0,.bool false]⟩:=by kernel_rfl
theorem FC:ti Tryz.prog 95=some ⟨.struct [(0,3,false),(1,9,false),(2,3,false)],3,32,.agg [.int .i64 0,.str [],.int .i64 0]⟩:=by kernel_rfl
theorem FZ:ti Tryz.prog 247=some ⟨.struct [(0,9,false),(1,3,false)],2,24,.agg [.str [],.int .i64 0]⟩:=by kernel_rfl
theorem Gb:ti Tryz.prog 251=some ⟨.struct [(0,3,false),(1,3,false),(2,249,false)],6,48,.agg [.int .i64 0,.int .i64 0,.int .i64 0,.int .i64 0,.int .u64 0,.int .u64 0]⟩:=by kernel_rfl
theorem Fa:ti Tryz.prog 249=some ⟨.struct [(0,3,false),(1,3,false),(2,212,false)],4,32,.agg [.int .i64 0,.int .i64 0,.int .u64 0,.int .u64 0]⟩:=by kernel_rfl
theorem FY:ti Tryz.prog 90=some ⟨.struct [(0,3,false),(1,3,false),(2,3,false),(3,3,false),(4,3,false),(5,3,false)],6,48,.agg [.int .i64 0,.int .i64 0,.int .i64 0,.int .i64 0,.int .i64 0,.int .i64 0]⟩:=by kernel_rfl
theorem FG:ti Tryz.prog 84=some ⟨.struct [(0,3,false),(1,3,false)],2,16,.agg [.int .i64 0,.int .i64 0]⟩:=by kernel_rfl
attribute [go_sem] CN Ec Em Et Eh DP CF CH Ed FD F6 FF FC FZ Gb Fa FY FG
end Go.AL
open Go Go.AL Go.Proofs
namespace Go.AL
set_option linter.all false
set_option maxRecDepth 10000
/-! ### How long an encoding can be -/
theorem vE {v:Nat} (h:v<2^128):(jm v).length≤17:=by
 unfold jm
 rw [List.length_cons,kC]
 have:=oI h
 omega
theorem dz (n w:Int):(bQ n w).b.length≤4:=cY n w
theorem lO (s:List UInt8) (m:Int):(gr s m).b.length≤65537:=yv s
theorem qP {v:Nat} (h:j3 v):(i5 v).b.length≤17:=vE h
theorem rk (x:Bool):(g7 x).b.length≤1:=by simp [g7]
theorem Eu {α:Type} {g:α→Enc} {B:Nat}:∀ {l:List α},(∀ a∈l,(g a).b.length≤B)→(bP g l).b.length≤l.length*B
 |[],_=>Nat.zero_le _
 |x::l,h=>by
  rw [bP,cx,List.length_cons,Nat.succ_mul]
  have:=h x List.mem_cons_self
  have:=Eu (l:=l) fun a ha=>h a (List.mem_cons_of_mem _ ha)
  omega
theorem fO {α:Type} {g:α→Enc} {m:Int} {n B:Nat} {l:List α} (hl:l.length≤n) (h:∀ a∈l,(g a).b.length≤B):(aT g m l).b.length≤4+n*B:=by
 unfold aT cC
 rw [cx]
 have h1:=Eu h
 have h2:=cY (l.length:Int) 2
 have h3:l.length*B≤n*B:=Nat.mul_le_mul_right _ hl
 dsimp only
 omega
/-- a schema whose lists are not too long -/
structure SmP (N R:Nat) (x:Sch):Prop where
 f:x.fields.length≤N∧∀ a∈x.fields,nl a.name
 h:x.headers.length≤N∧∀ a∈x.headers,nl a.name∧a.fields.length≤R
 s:x.states.length≤N∧∀ a∈x.states,a.cases.length≤R∧∀ c∈a.cases,r7 c
 a:x.actions.length≤N∧∀ a∈x.actions,lA a∧a.params.length≤R∧a.body.length≤R
 t:x.tables.length≤N∧∀ a∈x.tables,mS a∧a.keys.length≤R∧a.actions.length≤R∧a.dargs.length≤R
 g:x.stages.length≤R
 r:x.roles.length≤N∧∀ a∈x.roles,nl a.name∧a.grants.length≤R∧a.actions.length≤R∧∀ q∈a.grants,q.keys.length≤R
 x:x.refs.length≤R
theorem SmP.ok {N R:Nat} {x:Sch} (h:SmP N R x):OkSch x :=
 ⟨h.f.2,fun a ha=>(h.h.2 a ha).1,fun a ha=>(h.s.2 a ha).2,fun a ha=>(h.a.2 a ha).1,fun a ha=>(h.t.2 a ha).1,fun a ha=>(h.r.2 a ha).1⟩
theorem SmP.mono {N R N' R':Nat} {x:Sch} (h:SmP N R x) (hN:N≤N') (hR:R≤R'):SmP N' R' x where
 f:=⟨Nat.le_trans h.f.1 hN,h.f.2⟩
 h:=⟨Nat.le_trans h.h.1 hN,fun a ha=>⟨(h.h.2 a ha).1,Nat.le_trans (h.h.2 a ha).2 hR⟩⟩
 s:=⟨Nat.le_trans h.s.1 hN,fun a ha=>⟨Nat.le_trans (h.s.2 a ha).1 hR,(h.s.2 a ha).2⟩⟩
 a:=⟨Nat.le_trans h.a.1 hN,fun a ha=>⟨(h.a.2 a ha).1,Nat.le_trans (h.a.2 a ha).2.1 hR,Nat.le_trans (h.a.2 a ha).2.2 hR⟩⟩
 t:=⟨Nat.le_trans h.t.1 hN,fun a ha=>⟨(h.t.2 a ha).1,Nat.le_trans (h.t.2 a ha).2.1 hR,Nat.le_trans (h.t.2 a ha).2.2.1 hR,Nat.le_trans (h.t.2 a ha).2.2.2 hR⟩⟩
 g:=Nat.le_trans h.g hR
 r:=⟨Nat.le_trans h.r.1 hN,fun a ha=>⟨(h.r.2 a ha).1,Nat.le_trans (h.r.2 a ha).2.1 hR,Nat.le_trans (h.r.2 a ha).2.2.1 hR,fun q hq=>Nat.le_trans ((h.r.2 a ha).2.2.2 q hq) hR⟩⟩
 x:=Nat.le_trans h.x hR
theorem SmP.len {x:Sch} (h:SmP 50 1100000 x):(gZ x).b.length≤cR:=by
 have e1:(aT dT 32 x.fields).b.length≤4+50*65545:=fO h.f.1 fun a _=>by
  unfold dT;rw [cx,cx]
  have:=dz a.id 2;have:=lO a.name 24;have:=dz a.bits 1;omega
 have e2:(aT dm 8 x.headers).b.length≤4+50*(65545+1100000*4):=fO h.h.1 fun a ha=>by
  unfold dm;rw [cx,cx]
  have:=dz a.id 2;have:=lO a.name 24
  have:=fO (g:=jh) (m:=32) (h.h.2 a ha).2 (B:=4) fun n _=>dz n 2
  omega
 have e3:(aT fk 12 x.states).b.length≤4+50*(20+1100000*38):=fO h.s.1 fun a ha=>by
  unfold fk;rw [cx,cx,cx,cx]
  have:=dz a.id 2;have:=dz a.header 2;have:=dz a.select 2;have:=dz a.dflt 2
  have:=fO (g:=i7) (m:=6) (h.s.2 a ha).1 (B:=38) fun c hc=>by
   unfold i7;rw [cx,cx]
   have:=qP ((h.s.2 a ha).2 c hc).1;have:=qP ((h.s.2 a ha).2 c hc).2;have:=dz c.next 2;omega
  omega
 have e4:(aT cQ 12 x.actions).b.length≤4+50*(131086+1100000*65541+1100000*33):=fO h.a.1 fun a ha=>by
  unfold cQ;rw [cx,cx,cx,cx]
  obtain ⟨h1,h2,h3⟩:=h.a.2 a ha
  have:=dz a.id 2;have:=lO a.name 24;have:=lO a.restr 400
  have:=fO (g:=fS) (m:=4) h2 (B:=65541) fun c hc=>by
   unfold fS;rw [cx]
   have:=lO c.name 24;have:=dz c.bits 1;omega
  have:=fO (g:=jn) (m:=12) h3 (B:=33) fun c hc=>by
   unfold jn;rw [cx,cx,cx,cx]
   have:=dz c.op 1;have:=dz c.dst 2;have:=dz c.kind 1;have:=dz c.n 2;have:=qP (h1.2.2.1 c hc);omega
  omega
 have e5:(aT dX 8 x.tables).b.length≤4+50*(131098+1100000*65545+1100000*4+1100000*17):=fO h.t.1 fun a ha=>by
  unfold dX;simp only [cx]
  obtain ⟨h1,h2,h3,h4⟩:=h.t.2 a ha
  have:=dz a.id 2;have:=lO a.name 24;have:=lO a.restr 400;have:=dz a.dflt 2;have:=dz a.size 2
  have:=fO (g:=kE) (m:=4) h2 (B:=65545) fun c hc=>by
   unfold kE;rw [cx,cx]
   have:=lO c.name 24;have:=dz c.field 2;have:=dz c.kind 1;omega
  have:=fO (g:=jh) (m:=12) h3 (B:=4) fun n _=>dz n 2
  have:=fO (g:=i5) (m:=4) h4 (B:=17) fun v hv=>qP (h1.2.2.1 v hv)
  omega
 have e6:(aT fa 12 x.stages).b.length≤4+1100000*8:=fO h.g fun a _=>by
  unfold fa;rw [cx]
  have:=dz a.table 2;have:=dz a.header 2;omega
 have e7:(aT gL 6 x.roles).b.length≤4+50*(65560+1100000*(10+1100000*1)+1100000*4):=fO h.r.1 fun a ha=>by
  unfold gL;simp only [cx]
  obtain ⟨h1,h2,h3,h4⟩:=h.r.2 a ha
  have:=dz a.id 2;have:=lO a.name 24;have:=dz a.quota 2;have:=rk a.audit
  have:=fO (g:=fT) (m:=8) h2 (B:=10+1100000*1) fun c hc=>by
   unfold fT;simp only [cx]
   have:=dz c.table 2;have:=rk c.read;have:=rk c.write
   have:=fO (g:=g7) (m:=4) (h4 c hc) (B:=1) fun y _=>rk y
   omega
  have:=fO (g:=jh) (m:=12) h3 (B:=4) fun n _=>dz n 2
  omega
 have e8:(aT kF 8 x.refs).b.length≤4+1100000*24:=fO h.x fun a _=>by
  unfold kF;simp only [cx]
  have:=dz a.table 2;have:=dz a.key 1;have:=dz a.action 2;have:=dz a.param 1;have:=dz a.toTable 2;have:=dz a.toKey 1;omega
 unfold gZ dZ
 simp only [cx]
 rw [bx]
 have:=dz x.maxBatch 2;have:=dz x.budget 2
 omega
/-! ### What is generated, and what is bent -/
end Go.AL
open Go Go.AL Go.Proofs
namespace Go.AL
set_option linter.all false
set_option maxRecDepth 10000
theorem eI {s:List UInt8} (h:s.length≤1000):nl s:=by unfold nl;rw [bx];omega
theorem eo {v:Nat} (h:v≤1000):j3 v:=by unfold j3;omega
theorem sE (b:List UInt8) (v:Nat):(cq b v).1.length≤40∧∀ a∈(cq b v).1,a.cases.length≤1000∧∀ c∈a.cases,r7 c:=by
 have h2:=fH (b:=b) (v:=v+2) (n:=2) (by decide)
 have h6:=fH (b:=b) (v:=v+6) (n:=3) (by decide)
 have h4:=fH (b:=b) (v:=v+4) (n:=3) (by decide)
 unfold cq
 (repeat' split)<;>refine ⟨by simp,fun a ha=>?_⟩<;>simp only [List.mem_cons,List.not_mem_nil,or_false] at ha<;>rcases ha with rfl|rfl|rfl<;>refine ⟨by simp,fun c hc=>?_⟩ <;>
   simp only [List.mem_cons,List.not_mem_nil,or_false] at hc <;>
   first
    |exact hc.elim
    |(subst hc;exact ⟨eo (by dsimp only;omega),eo (by dsimp only;omega)⟩)
    |(rcases hc with rfl|rfl<;>exact ⟨eo (by dsimp only;omega),eo (by dsimp only;omega)⟩)
    |(rcases hc with rfl|rfl|rfl<;>exact ⟨eo (by dsimp only;omega),eo (by dsimp only;omega)⟩)
theorem r4 (b:List UInt8) (v:Nat):(dW b v).length=6∧∀ a∈dW b v,lA a∧a.params.length≤1000∧a.body.length≤1000:=by
 have h1:=fH (b:=b) (v:=v+1) (n:=256) (by decide)
 refine ⟨rfl,fun a ha=>?_⟩
 simp only [dW,List.mem_cons,List.not_mem_nil,or_false] at ha
 rcases ha with rfl|rfl|rfl|rfl|rfl|rfl<;>refine ⟨⟨eI (by simp),fun p hp=>?_,fun p hp=>?_,eI (by dsimp only;(try split)<;>simp)⟩,by simp,by simp⟩<;>simp only [List.mem_cons,List.not_mem_nil,or_false] at hp <;>
  first
   |exact hp.elim
   |(subst hp;first|exact eI (by simp)|exact eo (by dsimp only;omega))
   |(rcases hp with rfl|rfl<;>first|exact eI (by simp)|exact eo (by dsimp only;omega))
   |(rcases hp with rfl|rfl|rfl<;>first|exact eI (by simp)|exact eo (by dsimp only;omega))
theorem lW {L:List (List UInt8)} (h:∀ s∈L,s.length≤1000) (i:Nat):nl (L.getD i []):=by
 rw [List.getD_eq_getElem?_getD]
 cases hi:L[i]? with
 |none=>exact eI (by simp)
 |some s=>exact eI (h s (List.mem_of_getElem? hi))
theorem sO (b:List UInt8) (v:Nat):(cT b v).length=4∧∀ a∈cT b v,mS a∧a.keys.length≤1000∧a.actions.length≤1000∧a.dargs.length≤1000:=by
 refine ⟨rfl,fun a ha=>?_⟩
 simp only [cT,List.mem_cons,List.not_mem_nil,or_false] at ha
 rcases ha with rfl|rfl|rfl|rfl
 ·refine ⟨⟨eI (by simp [fC]),fun k hk=>?_,by simp [fC],lW (by decide) _⟩,by simp [fC],by simp [fC],by simp [fC]⟩
  simp only [fC,List.mem_cons,List.not_mem_nil,or_false] at hk
  subst hk;exact eI (by simp)
 ·refine ⟨⟨eI (by simp [fo]),fun k hk=>?_,by simp [fo],lW (by decide) _⟩,by simp only [fo];split<;>simp,by simp [fo],by simp [fo]⟩
  simp only [fo] at hk
  split at hk<;>simp only [List.cons_append,List.nil_append,List.append_nil,List.mem_cons,List.not_mem_nil,or_false] at hk
  ·rcases hk with rfl|rfl<;>exact eI (by simp)
  ·subst hk;exact eI (by simp)
 ·refine ⟨⟨eI (by simp [dj]),fun k hk=>?_,by simp [dj],lW (by decide) _⟩,by simp only [dj];split<;>simp,by simp [dj],by simp [dj]⟩
  simp only [dj] at hk
  split at hk<;>simp only [List.cons_append,List.nil_append,List.append_nil,List.mem_cons,List.not_mem_nil,or_false] at hk
  ·rcases hk with rfl|rfl|rfl<;>exact eI (by simp)
  ·rcases hk with rfl|rfl<;>exact eI (by simp)
 ·refine ⟨⟨eI (by simp [dk]),fun k hk=>?_,fun x hx=>?_,lW (by decide) _⟩,by simp only [dk];split<;>simp,by simp [dk],by simp [dk]⟩
  ·simp only [dk] at hk
   split at hk<;>simp only [List.cons_append,List.nil_append,List.append_nil,List.mem_cons,List.not_mem_nil,or_false] at hk
   ·rcases hk with rfl|rfl|rfl<;>exact eI (by simp)
   ·subst hk;exact eI (by simp)
  ·simp only [dk,List.mem_singleton] at hx
   subst hx;exact eo (by omega)
def GrOk (n:Nat) (l:List SGrant):Prop:=l.length≤n∧∀ q∈l,q.keys.length≤1000
theorem GrOk.nil {n:Nat}:GrOk n []:=⟨Nat.zero_le _,fun q hq=>by cases hq⟩
theorem GrOk.cons {n:Nat} {l:List SGrant} {q:SGrant} (h:GrOk n l) (hq:q.keys.length≤1000):GrOk (n+1) (q::l) :=
 ⟨Nat.succ_le_succ h.1,fun x hx=>(List.mem_cons.1 hx).elim (fun e=>e ▸ hq) (h.2 x)⟩
theorem GrOk.up {n:Nat} {l:List SGrant} (h:GrOk n l):GrOk (n+1) l:=⟨Nat.le_succ_of_le h.1,h.2⟩
theorem iS (b:List UInt8):∀ (ts:List STable) (v:Nat),(∀ t∈ts,t.keys.length≤1000)→GrOk ts.length (dv b ts v).1.1∧GrOk ts.length (dv b ts v).1.2.1∧GrOk ts.length (dv b ts v).1.2.2
 |[],v,_=>⟨.nil,.nil,.nil⟩
 |t::ts,v,h=>by
  have ht:=h t List.mem_cons_self
  have hp:∀ v,(jw b v t.keys.length).length≤1000:=fun v=>by simp [jw];exact ht
  have hr:(List.replicate t.keys.length true).length≤1000:=by simp;exact ht
  simp only [dv]
  rw [List.length_cons]
  split<;>split
  ·obtain ⟨i1,i2,i3⟩:=iS b ts (v+t.keys.length+3+3) fun x hx=>h x (List.mem_cons_of_mem _ hx)
   exact ⟨i1.cons hr,i2.cons (hp _),i3.cons hr⟩
  ·obtain ⟨i1,i2,i3⟩:=iS b ts (v+t.keys.length+3+1) fun x hx=>h x (List.mem_cons_of_mem _ hx)
   exact ⟨i1.cons hr,i2.cons (hp _),i3.up⟩
  ·obtain ⟨i1,i2,i3⟩:=iS b ts (v+t.keys.length+1+3) fun x hx=>h x (List.mem_cons_of_mem _ hx)
   exact ⟨i1.cons hr,i2.up,i3.cons hr⟩
  ·obtain ⟨i1,i2,i3⟩:=iS b ts (v+t.keys.length+1+1) fun x hx=>h x (List.mem_cons_of_mem _ hx)
   exact ⟨i1.cons hr,i2.up,i3.up⟩
theorem B7 (b:List UInt8) (v:Nat):SmP 40 1000 (gT b v).1:=by
 unfold gT
 dsimp only
 obtain ⟨t1,t2⟩:=sO b (cp (cq b (cp v 2)).2 4)
 obtain ⟨a1,a2⟩:=r4 b (cq b (cp v 2)).2
 refine ⟨⟨(by decide:gFields.length≤40),fun a ha=>?_⟩,⟨(by decide:gHeaders.length≤40),fun a ha=>?_⟩,sE b _,⟨by dsimp only;omega,a2⟩,⟨by dsimp only;omega,t2⟩,?_,⟨by simp [iQ],fun a ha=>?_⟩,?_⟩
 ·simp only [gFields,List.mem_cons,List.not_mem_nil,or_false] at ha
  rcases ha with rfl|rfl|rfl|rfl|rfl|rfl|rfl|rfl|rfl<;>exact eI (by simp)
 ·simp only [gHeaders,List.mem_cons,List.not_mem_nil,or_false] at ha
  rcases ha with rfl|rfl|rfl<;>exact ⟨eI (by simp),by simp⟩
 ·split<;>simp
 ·obtain ⟨g1,g2,g3⟩:=iS b (cT b (cp (cq b (cp v 2)).2 4)) (cp (cq b (cp v 2)).2 16+4) fun t ht=>(t2 t ht).2.1
  rw [t1] at g1 g2 g3
  simp only [iQ,List.mem_cons,List.not_mem_nil,or_false] at ha
  rcases ha with rfl|rfl|rfl
  ·exact ⟨eI (by simp),by have:=g1.1;dsimp only;omega,by simp,g1.2⟩
  ·exact ⟨eI (by simp),by have:=g2.1;dsimp only;omega,by simp,g2.2⟩
  ·exact ⟨eI (by simp),by have:=g3.1;dsimp only;omega,by simp,g3.2⟩
 ·(repeat' split)<;>simp
theorem Ar {b:List UInt8}:zod b 0=f8 b (cp 0 0):=by
 unfold zod f8 cp
 simp
end Go.AL
