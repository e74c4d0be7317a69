/- Lemmas of the proof; no condition. -/
import Derived.Test.YtpbnggedofiinaaGreatW04i
set_option linter.all false
set_option maxRecDepth 10000
open Go Go.AL Go.Proofs
namespace Go.AL
def Gd (x:Enc) (n:Nat):Prop:=x.l=false∧x.f=false∧x.a=false∧x.b.length≤n
theorem Gd.add {x y:Enc} {n m:Nat} (h:Gd x n) (k:Gd y m):Gd (x.add y) (n+m):=by
 obtain ⟨h1,h2,h3,h4⟩:=h
 obtain ⟨k1,k2,k3,k4⟩:=k
 refine ⟨?_,?_,?_,?_⟩
 ·show (x.l||y.l)=false;rw [h1,k1];rfl
 ·show (x.f||y.f)=false;rw [h2,k2];rfl
 ·show (x.a||y.a)=false;rw [h3,k3];rfl
 ·rw [bL];omega
theorem Gd.up {x:Enc} {n m:Nat} (h:Gd x n) (k:n≤m):Gd x m:=⟨h.1,h.2.1,h.2.2.1,Nat.le_trans h.2.2.2 k⟩
theorem fO {n:Int} (h:0≤n∧n≤65535):Gd (dZ n 2) 4:=⟨rfl,rfl,by simp [dZ,rg];omega,cn n 2⟩
theorem p4 {n:Int} (h:0≤n∧n≤255):Gd (dZ n 1) 4:=⟨rfl,rfl,by simp [dZ,rg];omega,cn n 1⟩
def nH (k:Nat) (s:List UInt8):Prop:=s.length≤k∧s.any iR=false
theorem oL {s:List UInt8} {k:Nat} {m:Int} (h:nH k s) (hm:(k:Int)≤m):Gd (ld s m) (4+k):=by
 refine ⟨?_,h.2,rfl,?_⟩
 ·have:=h.1
  simp [ld];omega
 ·have h1:=h.1
  show (iL s).length≤4+k
  unfold iL
  rw [lAq,List.length_take]
  have h2:=cn (min (s.length:Int) 65535) 2
  unfold fy at h2
  rw [if_pos (by decide)] at h2
  have h3:(2:Int).toNat=2:=rfl
  rw [h3] at h2
  omega
theorem E9 {v:Nat} (h:ib v):Gd (kE v) 17:=⟨rfl,rfl,rfl,rl h⟩
theorem gd_b {x:Bool}:Gd (jO x) 1:=⟨rfl,rfl,rfl,rF x⟩
theorem Bz {α:Type} {g:α→Enc} {B:Nat}:∀ {l:List α},(∀ a∈l,Gd (g a) B)→Gd (bD g l) (l.length*B)
 |[],_=>⟨rfl,rfl,rfl,Nat.zero_le _⟩
 |x::l,h=>by
  have h1:=(h x List.mem_cons_self).add (Bz (l:=l) fun a ha=>h a (List.mem_cons_of_mem _ ha))
  rw [bD,List.length_cons,Nat.succ_mul]
  exact h1.up (by omega)
theorem eX {α:Type} {g:α→Enc} {B N:Nat} {m:Int} {l:List α} (hl:l.length≤N) (hm:(N:Int)≤m) (h:∀ a∈l,Gd (g a) B):Gd (bC g m l) (4+N*B):=by
 have h1:Gd (ei l.length m) 4:=⟨by simp [ei];omega,rfl,rfl,cn _ 2⟩
 exact (h1.add (Bz h)).up (Nat.add_le_add_left (Nat.mul_le_mul_right _ hl) _)
theorem De {x:SField} (h:(0≤x.id∧x.id≤65535)∧nH 24 x.name∧(0≤x.bits∧x.bits≤255)):Gd (im x) 36:=(fO h.1).add ((oL h.2.1 (by decide)).add (p4 h.2.2))
theorem AH {x:SHeader} (h:(0≤x.id∧x.id≤65535)∧nH 24 x.name∧x.fields.length≤8∧∀ n∈x.fields,0≤n∧n≤65535):Gd (fD x) 68 :=
 (fO h.1).add ((oL h.2.1 (by decide)).add (eX (N:=8) (B:=4) h.2.2.1 (by decide) fun n hn=>fO (h.2.2.2 n hn)))
theorem Gb {x:SCase} (h:ib x.value∧ib x.mask∧(0≤x.next∧x.next≤65535)):Gd (me x) 38:=(E9 h.1).add ((E9 h.2.1).add (fO h.2.2))
theorem Cn {x:SState} (h:(0≤x.id∧x.id≤65535)∧(0≤x.header∧x.header≤65535)∧(0≤x.select∧x.select≤65535)∧(0≤x.dflt∧x.dflt≤65535)∧x.cases.length≤3∧∀ c∈x.cases,ib c.value∧ib c.mask∧(0≤c.next∧c.next≤65535)):Gd (iK x) 134 :=
 (fO h.1).add ((fO h.2.1).add ((fO h.2.2.1).add ((eX (N:=3) (B:=38) h.2.2.2.2.1 (by decide) fun c hc=>Gb (h.2.2.2.2.2 c hc)).add (fO h.2.2.2.1))))
theorem Ex {x:SParam} (h:nH 24 x.name∧(0≤x.bits∧x.bits≤255)):Gd (jx x) 32:=(oL h.1 (by decide)).add (p4 h.2)
theorem Fx {x:SPrim} (h:(0≤x.op∧x.op≤255)∧(0≤x.dst∧x.dst≤65535)∧(0≤x.kind∧x.kind≤255)∧(0≤x.n∧x.n≤65535)∧ib x.value):Gd (ma x) 33 :=
 (p4 h.1).add ((fO h.2.1).add ((p4 h.2.2.1).add ((fO h.2.2.2.1).add (E9 h.2.2.2.2))))
def IH (x:SAction):Prop:=(0≤x.id∧x.id≤65535)∧nH 24 x.name∧(x.params.length≤4∧∀ p∈x.params,nH 24 p.name∧(0≤p.bits∧p.bits≤255)) ∧
 (x.body.length≤4∧∀ p∈x.body,(0≤p.op∧p.op≤255)∧(0≤p.dst∧p.dst≤65535)∧(0≤p.kind∧p.kind≤255)∧(0≤p.n∧p.n≤65535)∧ib p.value)∧nH 40 x.restr
theorem AP {x:SAction} (h:IH x):Gd (fA x) 344 :=
 (fO h.1).add ((oL h.2.1 (by decide)).add ((eX (N:=4) (B:=32) h.2.2.1.1 (by decide) fun p hp=>Ex (h.2.2.1.2 p hp)).add ((eX (N:=4) (B:=33) h.2.2.2.1.1 (by decide) fun p hp=>Fx (h.2.2.2.1.2 p hp)).add (oL h.2.2.2.2 (by decide)))))
theorem GV {x:SKey} (h:nH 24 x.name∧(0≤x.field∧x.field≤65535)∧(0≤x.kind∧x.kind≤255)):Gd (po x) 36:=(oL h.1 (by decide)).add ((fO h.2.1).add (p4 h.2.2))
def Ig (x:STable):Prop:=(0≤x.id∧x.id≤65535)∧nH 24 x.name∧(x.keys.length≤4∧∀ p∈x.keys,nH 24 p.name∧(0≤p.field∧p.field≤65535)∧(0≤p.kind∧p.kind≤255)) ∧
 (x.actions.length≤8∧∀ n∈x.actions,0≤n∧n≤65535)∧(0≤x.dflt∧x.dflt≤65535)∧(x.dargs.length≤4∧∀ v∈x.dargs,ib v)∧(0≤x.size∧x.size≤65535)∧nH 80 x.restr
theorem n8 {x:STable} (h:Ig x):Gd (io x) 380:=by
 obtain ⟨h1,h2,h3,h4,h5,h6,h7,h8⟩:=h
 exact ((fO h1).add ((oL h2 (by decide)).add ((eX (N:=4) (B:=36) h3.1 (by decide) fun p hp=>GV (h3.2 p hp)).add ((eX (N:=8) (B:=4) h4.1 (by decide) fun n hn=>fO (h4.2 n hn)).add ((fO h5).add
  ((eX (N:=4) (B:=17) h6.1 (by decide) fun v hv=>E9 (h6.2 v hv)).add ((fO h7).add (oL h8 (by decide))))))))).up (by omega)
theorem vP {x:SStage} (h:(0≤x.table∧x.table≤65535)∧(0≤x.header∧x.header≤65535)):Gd (i9 x) 8:=(fO h.1).add (fO h.2)
def zW (x:SGrant):Prop:=(0≤x.table∧x.table≤65535)∧x.keys.length≤4
theorem CZ {x:SGrant} (h:zW x):Gd (jP x) 14:=(fO h.1).add (gd_b.add (gd_b.add (eX (N:=4) (B:=1) h.2 (by decide) fun _ _=>gd_b)))
def Iw (x:SRole):Prop:=(0≤x.id∧x.id≤65535)∧nH 24 x.name∧(x.grants.length≤4∧∀ g∈x.grants,zW g)∧(x.actions.length≤8∧∀ n∈x.actions,0≤n∧n≤65535)∧(0≤x.quota∧x.quota≤65535)
theorem t9 {x:SRole} (h:Iw x):Gd (jU x) 140:=by
 obtain ⟨h1,h2,h3,h4,h5⟩:=h
 exact ((fO h1).add ((oL h2 (by decide)).add ((eX (N:=4) (B:=14) h3.1 (by decide) fun p hp=>CZ (h3.2 p hp)).add ((eX (N:=8) (B:=4) h4.1 (by decide) fun n hn=>fO (h4.2 n hn)).add ((fO h5).add gd_b))))).up (by omega)
def Iz (x:SRef):Prop:=(0≤x.table∧x.table≤65535)∧(0≤x.key∧x.key≤255)∧(0≤x.action∧x.action≤65535)∧(0≤x.param∧x.param≤255)∧(0≤x.toTable∧x.toTable≤65535)∧(0≤x.toKey∧x.toKey≤255)
theorem GL {x:SRef} (h:Iz x):Gd (nE x) 24:=(fO h.1).add ((p4 h.2.1).add ((fO h.2.2.1).add ((p4 h.2.2.2.1).add ((fO h.2.2.2.2.1).add (p4 h.2.2.2.2.2)))))
theorem oA (c:Nat):0≤kw c∧kw c≤65535:=by
 unfold kw
 split
 ·exact ⟨by decide,by decide⟩
 ·split<;>exact ⟨by decide,by decide⟩
theorem xa (b:List UInt8) (v:Nat):(bz b v).1.length=3∧∀ a∈(bz b v).1,Gd (iK a) 134:=by
 have h2:=eO (b:=b) (v:=v+2) (n:=2) (by decide)
 have h6:=eO (b:=b) (v:=v+6) (n:=3) (by decide)
 have h4:=eO (b:=b) (v:=v+4) (n:=3) (by decide)
 have g1:=oA (cv b (v+3) 4)
 have g2:=oA (cv b v 4)
 have g3:=oA (cv b (v+4) 4)
 have g4:=oA (cv b (v+2) 4)
 unfold bz
 (repeat' split)<;>refine ⟨rfl,fun a ha=>?_⟩<;>simp only [List.mem_cons,List.not_mem_nil,or_false] at ha<;>rcases ha with rfl|rfl|rfl <;>
   refine Cn ⟨by dsimp only;omega,by dsimp only;omega,by dsimp only;omega,by dsimp only;omega,by simp,fun c hc=>?_⟩ <;>
   simp only [List.mem_cons,List.not_mem_nil,or_false] at hc <;>
   first
    |exact hc.elim
    |(subst hc;exact ⟨c9 (by dsimp only;omega),c9 (by dsimp only;omega),by dsimp only;omega⟩)
    |(rcases hc with rfl|rfl<;>exact ⟨c9 (by dsimp only;omega),c9 (by dsimp only;omega),by dsimp only;omega⟩)
    |(rcases hc with rfl|rfl|rfl<;>exact ⟨c9 (by dsimp only;omega),c9 (by dsimp only;omega),by dsimp only;omega⟩)
theorem ii {k:Nat} {s:List UInt8} (h:decide (s.length≤k)=true∧s.any iR=false):nH k s:=⟨of_decide_eq_true h.1,h.2⟩
theorem wy (b:List UInt8) (v:Nat):(cU b v).length=6∧∀ a∈cU b v,Gd (fA a) 344:=by
 have h1:=eO (b:=b) (v:=v+1) (n:=256) (by decide)
 have h2:=eO (b:=b) (v:=v) (n:=2) (by decide)
 refine ⟨rfl,fun a ha=>?_⟩
 simp only [cU,List.mem_cons,List.not_mem_nil,or_false] at ha
 rcases ha with rfl|rfl|rfl|rfl|rfl|rfl<;>refine AP ⟨by (try dsimp only [ci]);omega,ii ⟨rfl,rfl⟩,⟨by simp,fun p hp=>?_⟩,⟨by simp,fun p hp=>?_⟩,by dsimp only;(try split)<;>exact ii ⟨rfl,rfl⟩⟩<;>simp only [List.mem_cons,List.not_mem_nil,or_false] at hp <;>
  first
   |exact hp.elim
   |(subst hp;first|exact ⟨ii ⟨rfl,rfl⟩,by (try dsimp only);omega⟩|exact ⟨by (try dsimp only [ci]);omega,by (try dsimp only [ci]);omega,by (try dsimp only [ci]);omega,by (try dsimp only [ci]);omega,c9 (by (try dsimp only [ci]);omega)⟩)
   |(rcases hp with rfl|rfl<;>first|exact ⟨ii ⟨rfl,rfl⟩,by (try dsimp only);omega⟩|exact ⟨by (try dsimp only [ci]);omega,by (try dsimp only [ci]);omega,by (try dsimp only [ci]);omega,by (try dsimp only [ci]);omega,c9 (by (try dsimp only [ci]);omega)⟩)
   |(rcases hp with rfl|rfl|rfl<;>first|exact ⟨ii ⟨rfl,rfl⟩,by (try dsimp only);omega⟩|exact ⟨by (try dsimp only [ci]);omega,by (try dsimp only [ci]);omega,by (try dsimp only [ci]);omega,by (try dsimp only [ci]);omega,c9 (by (try dsimp only [ci]);omega)⟩)
theorem qr {L:List (List UInt8)} (h:∀ s∈L,decide (s.length≤80)=true∧s.any iR=false) (i:Nat):nH 80 (L.getD i []):=by
 rw [gEq]
 cases hi:L[i]? with
 |none=>exact ii ⟨rfl,rfl⟩
 |some s=>exact ii (h s (List.mem_of_getElem? hi))
theorem li {l:List Int} (h:(l.all fun n=>decide (0≤n∧n≤65535))=true):∀ n∈l,0≤n∧n≤65535:=fun n hn=>of_decide_eq_true (List.all_eq_true.1 h n hn)
theorem ou {l:List SKey} (h:(l.all fun p=>(decide (p.name.length≤24)&&!p.name.any iR)&&(decide (0≤p.field∧p.field≤65535)&&decide (0≤p.kind∧p.kind≤255)))=true):∀ p∈l,nH 24 p.name∧(0≤p.field∧p.field≤65535)∧(0≤p.kind∧p.kind≤255):=fun p hp=>by
 have:=List.all_eq_true.1 h p hp
 simp only [Bool.and_eq_true,Bool.not_eq_true',decide_eq_true_eq] at this
 exact ⟨⟨this.1.1,this.1.2⟩,this.2.1,this.2.2⟩
theorem wU (b:List UInt8) (v:Nat):(bZ b v).length=4∧∀ a∈bZ b v,Gd (io a) 380:=by
 have c0:=eO (b:=b) (v:=v) (n:=2) (by decide)
 have c1:=eO (b:=b) (v:=v+1) (n:=5) (by decide)
 have c2:=eO (b:=b) (v:=v+2) (n:=6) (by decide)
 have c4:=eO (b:=b) (v:=v+4) (n:=6) (by decide)
 have c6:=eO (b:=b) (v:=v+6) (n:=5) (by decide)
 refine ⟨rfl,fun a ha=>?_⟩
 simp only [bZ,List.mem_cons,List.not_mem_nil,or_false] at ha
 rcases ha with rfl|rfl|rfl|rfl
 ·exact n8 ⟨by simp only [eK,ci];omega,ii ⟨rfl,rfl⟩,⟨by simp [eK],ou rfl⟩,⟨by simp [eK],li rfl⟩,by simp only [eK,ci];omega,⟨by simp [eK],by simp [eK]⟩,by simp only [eK,ci];omega,qr (by decide) _⟩
 ·exact n8 ⟨by simp only [er,ci];omega,ii ⟨rfl,rfl⟩,⟨by simp only [er];split<;>simp,by simp only [er];split<;>exact ou rfl⟩,⟨by simp [er],li rfl⟩,by simp only [er,ci];omega,⟨by simp [er],by simp [er]⟩,by simp only [er,ci];omega,qr (by decide) _⟩
 ·exact n8 ⟨by simp only [cC,ci];omega,ii ⟨rfl,rfl⟩,⟨by simp only [cC];split<;>simp,by simp only [cC];split<;>exact ou rfl⟩,⟨by simp [cC],li rfl⟩,by simp only [cC,ci];omega,⟨by simp [cC],by simp [cC]⟩,by simp only [cC,ci];omega,qr (by decide) _⟩
 ·exact n8 ⟨by simp only [cB,ci];omega,ii ⟨rfl,rfl⟩,⟨by simp only [cB];split<;>simp,by simp only [cB];split<;>exact ou rfl⟩,⟨by simp [cB],li rfl⟩,by simp only [cB,ci];omega,⟨by simp [cB],fun v hv=>by simp only [cB,List.mem_singleton] at hv;subst hv;exact c9 (by omega)⟩,by simp only [cB,ci];omega,qr (by decide) _⟩
def GgOk (n:Nat) (l:List SGrant):Prop:=l.length≤n∧∀ q∈l,zW q
theorem GgOk.nil {n:Nat}:GgOk n []:=⟨Nat.zero_le _,fun q hq=>by cases hq⟩
theorem GgOk.cons {n:Nat} {l:List SGrant} {q:SGrant} (h:GgOk n l) (hq:zW q):GgOk (n+1) (q::l) :=
 ⟨Nat.succ_le_succ h.1,fun x hx=>(List.mem_cons.1 hx).elim (fun e=>e ▸ hq) (h.2 x)⟩
theorem GgOk.up {n:Nat} {l:List SGrant} (h:GgOk n l):GgOk (n+1) l:=⟨Nat.le_succ_of_le h.1,h.2⟩
theorem kp (b:List UInt8):∀ (ts:List STable) (v:Nat),(∀ t∈ts,(0≤t.id∧t.id≤65535)∧t.keys.length≤4)→GgOk ts.length (cL b ts v).1.1∧GgOk ts.length (cL b ts v).1.2.1∧GgOk ts.length (cL b ts v).1.2.2
 |[],v,_=>⟨.nil,.nil,.nil⟩
 |t::ts,v,h=>by
  obtain ⟨hi,ht⟩:=h t List.mem_cons_self
  have hp:∀ (r w:Bool) v,zW ⟨t.id,r,w,jk b v t.keys.length⟩:=fun r w v=>⟨hi,by simp [jk];exact ht⟩
  have hr:∀ (r w:Bool),zW ⟨t.id,r,w,List.replicate t.keys.length true⟩:=fun r w=>⟨hi,by simp;exact ht⟩
  simp only [cL]
  rw [List.length_cons]
  split<;>split
  ·obtain ⟨i1,i2,i3⟩:=kp b ts (v+t.keys.length+3+3) fun x hx=>h x (List.mem_cons_of_mem _ hx)
   exact ⟨i1.cons (hr _ _),i2.cons (hp _ _ _),i3.cons (hr _ _)⟩
  ·obtain ⟨i1,i2,i3⟩:=kp b ts (v+t.keys.length+3+1) fun x hx=>h x (List.mem_cons_of_mem _ hx)
   exact ⟨i1.cons (hr _ _),i2.cons (hp _ _ _),i3.up⟩
  ·obtain ⟨i1,i2,i3⟩:=kp b ts (v+t.keys.length+1+3) fun x hx=>h x (List.mem_cons_of_mem _ hx)
   exact ⟨i1.cons (hr _ _),i2.up,i3.cons (hr _ _)⟩
  ·obtain ⟨i1,i2,i3⟩:=kp b ts (v+t.keys.length+1+1) fun x hx=>h x (List.mem_cons_of_mem _ hx)
   exact ⟨i1.cons (hr _ _),i2.up,i3.up⟩
theorem vX (b:List UInt8) (v:Nat):∀ t∈bZ b v,(0≤t.id∧t.id≤65535)∧t.keys.length≤4:=fun a ha=>by
 simp only [bZ,List.mem_cons,List.not_mem_nil,or_false] at ha
 rcases ha with rfl|rfl|rfl|rfl
 ·exact ⟨by simp only [eK];omega,by simp [eK]⟩
 ·exact ⟨by simp only [er];omega,by simp only [er];split<;>simp⟩
 ·exact ⟨by simp only [cC];omega,by simp only [cC];split<;>simp⟩
 ·exact ⟨by simp only [cB];omega,by simp only [cB];split<;>simp⟩
theorem Af (b:List UInt8) (v w:Nat):(il b v (bZ b w)).1.length=3∧∀ a∈(il b v (bZ b w)).1,Gd (jU a) 140:=by
 have c0:=eO (b:=b) (v:=v) (n:=3) (by decide)
 have c1:=eO (b:=b) (v:=v+1) (n:=6) (by decide)
 have c2:=eO (b:=b) (v:=v+2) (n:=6) (by decide)
 have c3:=eO (b:=b) (v:=v+3) (n:=4) (by decide)
 obtain ⟨g1,g2,g3⟩:=kp b (bZ b w) (v+4) (vX b w)
 rw [show (bZ b w).length=4 from rfl] at g1 g2 g3
 refine ⟨rfl,fun a ha=>?_⟩
 simp only [il,List.mem_cons,List.not_mem_nil,or_false] at ha
 rcases ha with rfl|rfl|rfl
 ·exact t9 ⟨by dsimp only;omega,ii ⟨rfl,rfl⟩,g1,⟨by simp,li rfl⟩,by dsimp only;omega⟩
 ·refine t9 ⟨by dsimp only;omega,ii ⟨rfl,rfl⟩,g2,⟨by simp,fun n hn=>?_⟩,by dsimp only [ci];omega⟩
  simp only [List.mem_cons,List.not_mem_nil,or_false] at hn
  rcases hn with rfl|rfl|rfl<;>(try dsimp only [ci])<;>omega
 ·refine t9 ⟨by dsimp only;omega,ii ⟨rfl,rfl⟩,g3,⟨by simp,fun n hn=>?_⟩,by dsimp only [ci];omega⟩
  simp only [List.mem_cons,List.not_mem_nil,or_false] at hn
  subst hn
  (try dsimp only [ci]);omega
theorem HJ (b:List UInt8) (v:Nat):Gd (dr (gU b v).1) 8000:=by
 have c0:=eO (b:=b) (v:=cp v 0) (n:=8) (by decide)
 have c1:=eO (b:=b) (v:=cp v 1) (n:=30) (by decide)
 obtain ⟨s1,s2⟩:=xa b (cp v 2)
 obtain ⟨a1,a2⟩:=wy b (bz b (cp v 2)).2
 obtain ⟨t1,t2⟩:=wU b (cp (bz b (cp v 2)).2 4)
 obtain ⟨r1,r2⟩:=Af b (cp (bz b (cp v 2)).2 16) (cp (bz b (cp v 2)).2 4)
 unfold gU
 dsimp only
 unfold dr cb
 dsimp only
 have h1:Gd (bC im 32 gFields) (4+9*36):=eX (by decide) (by decide) fun a ha=>by
  simp only [gFields,List.mem_cons,List.not_mem_nil,or_false] at ha
  rcases ha with rfl|rfl|rfl|rfl|rfl|rfl|rfl|rfl|rfl<;>exact De ⟨by dsimp only;omega,ii ⟨rfl,rfl⟩,by dsimp only;omega⟩
 have h2:Gd (bC fD 8 gHeaders) (4+3*68):=eX (by decide) (by decide) fun a ha=>by
  simp only [gHeaders,List.mem_cons,List.not_mem_nil,or_false] at ha
  rcases ha with rfl|rfl|rfl<;>exact AH ⟨by dsimp only;omega,ii ⟨rfl,rfl⟩,by simp,li rfl⟩
 have h3:=eX (m:=12) (N:=3) (by omega) (by decide) s2
 have h4:=eX (m:=12) (N:=6) (by omega) (by decide) a2
 have h5:=eX (m:=8) (N:=4) (by omega) (by decide) t2
 have h7:=eX (m:=6) (N:=3) (by omega) (by decide) r2
 refine ((fO ?_).add ((fO ?_).add ((h1.add (h2.add h3)).add (h4.add (h5.add ((eX (N:=5) (B:=8) ?_ (by decide) ?_).add (h7.add (eX (N:=4) (B:=24) ?_ (by decide) ?_)))))))).up (by omega)
 ·dsimp only [ci];omega
 ·dsimp only [ci];omega
 ·split<;>simp
 ·intro a ha
  split at ha<;>simp only [List.cons_append,List.nil_append,List.append_nil,List.mem_cons,List.not_mem_nil,or_false] at ha
  ·rcases ha with rfl|rfl|rfl|rfl|rfl<;>exact vP ⟨by dsimp only;omega,by dsimp only;omega⟩
  ·rcases ha with rfl|rfl|rfl|rfl<;>exact vP ⟨by dsimp only;omega,by dsimp only;omega⟩
 ·(repeat' split)<;>simp
 ·intro a ha
  rw [List.mem_append,List.mem_append] at ha
  have hr:∀ x∈[(⟨2,0,4,0,1,0⟩:SRef),⟨3,2,0,0,1,0⟩,⟨4,1,0,0,1,0⟩,⟨4,0,5,0,1,0⟩],Gd (nE x) 24:=fun x hx=>by
   simp only [List.mem_cons,List.not_mem_nil,or_false] at hx
   rcases hx with rfl|rfl|rfl|rfl<;>exact GL ⟨by dsimp only;omega,by dsimp only;omega,by dsimp only;omega,by dsimp only;omega,by dsimp only;omega,by dsimp only;omega⟩
  refine hr a ?_
  rcases ha with (ha|ha)|ha
  ·split at ha
   ·simp only [List.mem_singleton] at ha;subst ha;simp
   ·cases ha
  ·split at ha
   ·simp only [List.mem_singleton] at ha;subst ha;simp
   ·cases ha
  ·split at ha
   ·simp only [List.mem_cons,List.not_mem_nil,or_false] at ha
    rcases ha with rfl|rfl<;>simp
   ·cases ha
theorem nG (n:Int):(fy n 2).length=2:=by
 unfold fy
 rw [if_pos (by decide),lK];rfl
theorem kQ {α:Type} (g:α→Enc) (m:Int) (l:List α):2≤(bC g m l).b.length:=by
 unfold bC
 rw [bL]
 show 2≤(fy _ 2).length+_
 rw [nG];omega
theorem FN (x:Sch):20≤(dr x).b.length:=by
 unfold dr cb
 simp only [bL]
 have h1:(dZ x.maxBatch 2).b.length=2:=nG _
 have h2:(dZ x.budget 2).b.length=2:=nG _
 have a1:=kQ im 32 x.fields
 have a2:=kQ fD 8 x.headers
 have a3:=kQ iK 12 x.states
 have a4:=kQ fA 12 x.actions
 have a5:=kQ io 8 x.tables
 have a6:=kQ i9 12 x.stages
 have a7:=kQ jU 6 x.roles
 have a8:=kQ nE 8 x.refs
 omega
end Go.AL
