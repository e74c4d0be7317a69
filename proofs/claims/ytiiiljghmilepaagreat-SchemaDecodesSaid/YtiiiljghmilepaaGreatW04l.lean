/- Contracts and plain laws, a part of the proof; no condition of its own. -/
import Derived.Test.YtiiiljghmilepaaGreatW04i
open List renaming length_cons → yaz, cons_append → yal, nil_append → yak, append_nil → yaj, drop_succ_cons → yao, drop_zero → yap, length_nil → yba, take_succ_cons → yaq, take_zero → yar, take_of_length_le → ybc, drop_append → ybd, take_append → ybe, drop_eq_nil_of_le → ybf
open Go Go.AL Go.Proofs
namespace Go.AL
set_option linter.all false
set_option maxRecDepth 10000
/-! ### the schema of the choices has an encoding -/
/-- nothing is wrong, and at most n bytes -/
def Gd (x:Enc) (n:Nat):Prop:=x.l=false∧x.f=false∧x.a=false∧x.b.length≤n
theorem Gd.add {x y:Enc} {n m:Nat} (h:Gd x n) (k:Gd y m):Gd (x.add y) (n+m):=by
 obtain ⟨h1,h2,h3,h4⟩:=h
 obtain ⟨k1,k2,k3,k4⟩:=k
 refine ⟨?_,?_,?_,?_⟩
 ·show (x.l||y.l)=false;rw [h1,k1];rfl
 ·show (x.f||y.f)=false;rw [h2,k2];rfl
 ·show (x.a||y.a)=false;rw [h3,k3];rfl
 ·rw [cx];omega
theorem Gd.up {x:Enc} {n m:Nat} (h:Gd x n) (k:n≤m):Gd x m:=⟨h.1,h.2.1,h.2.2.1,Nat.le_trans h.2.2.2 k⟩
theorem gG {n:Int} (h:0≤n∧n≤65535):Gd (bQ n 2) 4:=⟨rfl,rfl,by simp [bQ,rg];omega,cY n 2⟩
theorem p6 {n:Int} (h:0≤n∧n≤255):Gd (bQ n 1) 4:=⟨rfl,rfl,by simp [bQ,rg];omega,cY n 1⟩
def nU (k:Nat) (s:List UInt8):Prop:=s.length≤k∧s.any jp=false
theorem oy {s:List UInt8} {k:Nat} {m:Int} (h:nU k s) (hm:(k:Int)≤m):Gd (gr s m) (4+k):=by
 refine ⟨?_,h.2,rfl,?_⟩
 ·have:=h.1
  simp [gr];omega
 ·have h1:=h.1
  show (hO s).length≤4+k
  unfold hO
  rw [List.length_append,List.length_take]
  have h2:=cY (min (s.length:Int) 65535) 2
  unfold fQ at h2
  rw [if_pos (by decide)] at h2
  have h3:(2:Int).toNat=2:=rfl
  rw [h3] at h2
  omega
theorem Gi {v:Nat} (h:j3 v):Gd (i5 v) 17:=⟨rfl,rfl,rfl,qP h⟩
theorem gd_b {x:Bool}:Gd (g7 x) 1:=⟨rfl,rfl,rfl,rk x⟩
theorem C8 {α:Type} {g:α→Enc} {B:Nat}:∀ {l:List α},(∀ a∈l,Gd (g a) B)→Gd (bP g l) (l.length*B)
 |[],_=>⟨rfl,rfl,rfl,Nat.zero_le _⟩
 |x::l,h=>by
  have h1:=(h x List.mem_cons_self).add (C8 (l:=l) fun a ha=>h a (List.mem_cons_of_mem _ ha))
  rw [bP,yaz,Nat.succ_mul]
  exact h1.up (by omega)
theorem fP {α:Type} {g:α→Enc} {B N:Nat} {m:Int} {l:List α} (hl:l.length≤N) (hm:(N:Int)≤m) (h:∀ a∈l,Gd (g a) B):Gd (aT g m l) (4+N*B):=by
 have h1:Gd (cC l.length m) 4:=⟨by simp [cC];omega,rfl,rfl,cY _ 2⟩
 exact (h1.add (C8 h)).up (Nat.add_le_add_left (Nat.mul_le_mul_right _ hl) _)
theorem DA {x:SField} (h:(0≤x.id∧x.id≤65535)∧nU 24 x.name∧(0≤x.bits∧x.bits≤255)):Gd (dT x) 36:=(gG h.1).add ((oy h.2.1 (by decide)).add (p6 h.2.2))
theorem zw {x:SHeader} (h:(0≤x.id∧x.id≤65535)∧nU 24 x.name∧x.fields.length≤8∧∀ n∈x.fields,0≤n∧n≤65535):Gd (dm x) 68 :=
 (gG h.1).add ((oy h.2.1 (by decide)).add (fP (N:=8) (B:=4) h.2.2.1 (by decide) fun n hn=>gG (h.2.2.2 n hn)))
theorem EM {x:SCase} (h:j3 x.value∧j3 x.mask∧(0≤x.next∧x.next≤65535)):Gd (i7 x) 38:=(Gi h.1).add ((Gi h.2.1).add (gG h.2.2))
theorem Cg {x:SState} (h:(0≤x.id∧x.id≤65535)∧(0≤x.header∧x.header≤65535)∧(0≤x.select∧x.select≤65535)∧(0≤x.dflt∧x.dflt≤65535)∧x.cases.length≤3∧∀ c∈x.cases,j3 c.value∧j3 c.mask∧(0≤c.next∧c.next≤65535)):Gd (fk x) 134 :=
 (gG h.1).add ((gG h.2.1).add ((gG h.2.2.1).add ((fP (N:=3) (B:=38) h.2.2.2.2.1 (by decide) fun c hc=>EM (h.2.2.2.2.2 c hc)).add (gG h.2.2.2.1))))
theorem Dt {x:SParam} (h:nU 24 x.name∧(0≤x.bits∧x.bits≤255)):Gd (fS x) 32:=(oy h.1 (by decide)).add (p6 h.2)
theorem EW {x:SPrim} (h:(0≤x.op∧x.op≤255)∧(0≤x.dst∧x.dst≤65535)∧(0≤x.kind∧x.kind≤255)∧(0≤x.n∧x.n≤65535)∧j3 x.value):Gd (jn x) 33 :=
 (p6 h.1).add ((gG h.2.1).add ((p6 h.2.2.1).add ((gG h.2.2.2.1).add (Gi h.2.2.2.2))))
def H7 (x:SAction):Prop:=(0≤x.id∧x.id≤65535)∧nU 24 x.name∧(x.params.length≤4∧∀ p∈x.params,nU 24 p.name∧(0≤p.bits∧p.bits≤255)) ∧
 (x.body.length≤4∧∀ p∈x.body,(0≤p.op∧p.op≤255)∧(0≤p.dst∧p.dst≤65535)∧(0≤p.kind∧p.kind≤255)∧(0≤p.n∧p.n≤65535)∧j3 p.value)∧nU 40 x.restr
theorem Ap {x:SAction} (h:H7 x):Gd (cQ x) 344 :=
 (gG h.1).add ((oy h.2.1 (by decide)).add ((fP (N:=4) (B:=32) h.2.2.1.1 (by decide) fun p hp=>Dt (h.2.2.1.2 p hp)).add ((fP (N:=4) (B:=33) h.2.2.2.1.1 (by decide) fun p hp=>EW (h.2.2.2.1.2 p hp)).add (oy h.2.2.2.2 (by decide)))))
theorem GT {x:SKey} (h:nU 24 x.name∧(0≤x.field∧x.field≤65535)∧(0≤x.kind∧x.kind≤255)):Gd (kE x) 36:=(oy h.1 (by decide)).add ((gG h.2.1).add (p6 h.2.2))
def H3 (x:STable):Prop:=(0≤x.id∧x.id≤65535)∧nU 24 x.name∧(x.keys.length≤4∧∀ p∈x.keys,nU 24 p.name∧(0≤p.field∧p.field≤65535)∧(0≤p.kind∧p.kind≤255)) ∧
 (x.actions.length≤8∧∀ n∈x.actions,0≤n∧n≤65535)∧(0≤x.dflt∧x.dflt≤65535)∧(x.dargs.length≤4∧∀ v∈x.dargs,j3 v)∧(0≤x.size∧x.size≤65535)∧nU 80 x.restr
theorem ov {x:STable} (h:H3 x):Gd (dX x) 380:=by
 obtain ⟨h1,h2,h3,h4,h5,h6,h7,h8⟩:=h
 exact ((gG h1).add ((oy h2 (by decide)).add ((fP (N:=4) (B:=36) h3.1 (by decide) fun p hp=>GT (h3.2 p hp)).add ((fP (N:=8) (B:=4) h4.1 (by decide) fun n hn=>gG (h4.2 n hn)).add ((gG h5).add
  ((fP (N:=4) (B:=17) h6.1 (by decide) fun v hv=>Gi (h6.2 v hv)).add ((gG h7).add (oy h8 (by decide))))))))).up (by omega)
theorem vS {x:SStage} (h:(0≤x.table∧x.table≤65535)∧(0≤x.header∧x.header≤65535)):Gd (fa x) 8:=(gG h.1).add (gG h.2)
def AX (x:SGrant):Prop:=(0≤x.table∧x.table≤65535)∧x.keys.length≤4
theorem Cw {x:SGrant} (h:AX x):Gd (fT x) 14:=(gG h.1).add (gd_b.add (gd_b.add (fP (N:=4) (B:=1) h.2 (by decide) fun _ _=>gd_b)))
def Ic (x:SRole):Prop:=(0≤x.id∧x.id≤65535)∧nU 24 x.name∧(x.grants.length≤4∧∀ g∈x.grants,AX g)∧(x.actions.length≤8∧∀ n∈x.actions,0≤n∧n≤65535)∧(0≤x.quota∧x.quota≤65535)
theorem uX {x:SRole} (h:Ic x):Gd (gL x) 140:=by
 obtain ⟨h1,h2,h3,h4,h5⟩:=h
 exact ((gG h1).add ((oy h2 (by decide)).add ((fP (N:=4) (B:=14) h3.1 (by decide) fun p hp=>Cw (h3.2 p hp)).add ((fP (N:=8) (B:=4) h4.1 (by decide) fun n hn=>gG (h4.2 n hn)).add ((gG h5).add gd_b))))).up (by omega)
def In (x:SRef):Prop:=(0≤x.table∧x.table≤65535)∧(0≤x.key∧x.key≤255)∧(0≤x.action∧x.action≤65535)∧(0≤x.param∧x.param≤255)∧(0≤x.toTable∧x.toTable≤65535)∧(0≤x.toKey∧x.toKey≤255)
theorem G3 {x:SRef} (h:In x):Gd (kF x) 24:=(gG h.1).add ((p6 h.2.1).add ((gG h.2.2.1).add ((p6 h.2.2.2.1).add ((gG h.2.2.2.2.1).add (p6 h.2.2.2.2.2)))))
theorem oH (c:Nat):0≤kz c∧kz c≤65535:=by
 unfold kz
 split
 ·exact ⟨by decide,by decide⟩
 ·split<;>exact ⟨by decide,by decide⟩
theorem xq (b:List UInt8) (v:Nat):(cq b v).1.length=3∧∀ a∈(cq b v).1,Gd (fk a) 134:=by
 have h2:=fH (b:=b) (v:=v+2) (n:=2) (by decide)
 have h6:=fH (b:=b) (v:=v+6) (n:=3) (by decide)
 have h4:=fH (b:=b) (v:=v+4) (n:=3) (by decide)
 have g1:=oH (cv b (v+3) 4)
 have g2:=oH (cv b v 4)
 have g3:=oH (cv b (v+4) 4)
 have g4:=oH (cv b (v+2) 4)
 unfold cq
 (repeat' split)<;>refine ⟨rfl,fun a ha=>?_⟩<;>simp only [List.mem_cons,List.not_mem_nil,or_false] at ha<;>rcases ha with rfl|rfl|rfl <;>
   refine Cg ⟨by dsimp only;omega,by dsimp only;omega,by dsimp only;omega,by dsimp only;omega,by simp,fun c hc=>?_⟩ <;>
   simp only [List.mem_cons,List.not_mem_nil,or_false] at hc <;>
   first
    |exact hc.elim
    |(subst hc;exact ⟨eo (by dsimp only;omega),eo (by dsimp only;omega),by dsimp only;omega⟩)
    |(rcases hc with rfl|rfl<;>exact ⟨eo (by dsimp only;omega),eo (by dsimp only;omega),by dsimp only;omega⟩)
    |(rcases hc with rfl|rfl|rfl<;>exact ⟨eo (by dsimp only;omega),eo (by dsimp only;omega),by dsimp only;omega⟩)
theorem iP {k:Nat} {s:List UInt8} (h:decide (s.length≤k)=true∧s.any jp=false):nU k s:=⟨of_decide_eq_true h.1,h.2⟩
theorem wB (b:List UInt8) (v:Nat):(dW b v).length=6∧∀ a∈dW b v,Gd (cQ a) 344:=by
 have h1:=fH (b:=b) (v:=v+1) (n:=256) (by decide)
 have h2:=fH (b:=b) (v:=v) (n:=2) (by decide)
 refine ⟨rfl,fun a ha=>?_⟩
 simp only [dW,List.mem_cons,List.not_mem_nil,or_false] at ha
 rcases ha with rfl|rfl|rfl|rfl|rfl|rfl<;>refine Ap ⟨by (try dsimp only [ci]);omega,iP ⟨rfl,rfl⟩,⟨by simp,fun p hp=>?_⟩,⟨by simp,fun p hp=>?_⟩,by dsimp only;(try split)<;>exact iP ⟨rfl,rfl⟩⟩<;>simp only [List.mem_cons,List.not_mem_nil,or_false] at hp <;>
  first
   |exact hp.elim
   |(subst hp;first|exact ⟨iP ⟨rfl,rfl⟩,by (try dsimp only);omega⟩|exact ⟨by (try dsimp only [ci]);omega,by (try dsimp only [ci]);omega,by (try dsimp only [ci]);omega,by (try dsimp only [ci]);omega,eo (by (try dsimp only [ci]);omega)⟩)
   |(rcases hp with rfl|rfl<;>first|exact ⟨iP ⟨rfl,rfl⟩,by (try dsimp only);omega⟩|exact ⟨by (try dsimp only [ci]);omega,by (try dsimp only [ci]);omega,by (try dsimp only [ci]);omega,by (try dsimp only [ci]);omega,eo (by (try dsimp only [ci]);omega)⟩)
   |(rcases hp with rfl|rfl|rfl<;>first|exact ⟨iP ⟨rfl,rfl⟩,by (try dsimp only);omega⟩|exact ⟨by (try dsimp only [ci]);omega,by (try dsimp only [ci]);omega,by (try dsimp only [ci]);omega,by (try dsimp only [ci]);omega,eo (by (try dsimp only [ci]);omega)⟩)
theorem qh {L:List (List UInt8)} (h:∀ s∈L,decide (s.length≤80)=true∧s.any jp=false) (i:Nat):nU 80 (L.getD i []):=by
 rw [List.getD_eq_getElem?_getD]
 cases hi:L[i]? with
 |none=>exact iP ⟨rfl,rfl⟩
 |some s=>exact iP (h s (List.mem_of_getElem? hi))
theorem lu {l:List Int} (h:(l.all fun n=>decide (0≤n∧n≤65535))=true):∀ n∈l,0≤n∧n≤65535:=fun n hn=>of_decide_eq_true (List.all_eq_true.1 h n hn)
theorem oo {l:List SKey} (h:(l.all fun p=>(decide (p.name.length≤24)&&!p.name.any jp)&&(decide (0≤p.field∧p.field≤65535)&&decide (0≤p.kind∧p.kind≤255)))=true):∀ p∈l,nU 24 p.name∧(0≤p.field∧p.field≤65535)∧(0≤p.kind∧p.kind≤255):=fun p hp=>by
 have:=List.all_eq_true.1 h p hp
 simp only [Bool.and_eq_true,Bool.not_eq_true',decide_eq_true_eq] at this
 exact ⟨⟨this.1.1,this.1.2⟩,this.2.1,this.2.2⟩
theorem yq (b:List UInt8) (v:Nat):(cT b v).length=4∧∀ a∈cT b v,Gd (dX a) 380:=by
 have c0:=fH (b:=b) (v:=v) (n:=2) (by decide)
 have c1:=fH (b:=b) (v:=v+1) (n:=5) (by decide)
 have c2:=fH (b:=b) (v:=v+2) (n:=6) (by decide)
 have c4:=fH (b:=b) (v:=v+4) (n:=6) (by decide)
 have c6:=fH (b:=b) (v:=v+6) (n:=5) (by decide)
 refine ⟨rfl,fun a ha=>?_⟩
 simp only [cT,List.mem_cons,List.not_mem_nil,or_false] at ha
 rcases ha with rfl|rfl|rfl|rfl
 ·exact ov ⟨by simp only [fC,ci];omega,iP ⟨rfl,rfl⟩,⟨by simp [fC],oo rfl⟩,⟨by simp [fC],lu rfl⟩,by simp only [fC,ci];omega,⟨by simp [fC],by simp [fC]⟩,by simp only [fC,ci];omega,qh (by decide) _⟩
 ·exact ov ⟨by simp only [fo,ci];omega,iP ⟨rfl,rfl⟩,⟨by simp only [fo];split<;>simp,by simp only [fo];split<;>exact oo rfl⟩,⟨by simp [fo],lu rfl⟩,by simp only [fo,ci];omega,⟨by simp [fo],by simp [fo]⟩,by simp only [fo,ci];omega,qh (by decide) _⟩
 ·exact ov ⟨by simp only [dj,ci];omega,iP ⟨rfl,rfl⟩,⟨by simp only [dj];split<;>simp,by simp only [dj];split<;>exact oo rfl⟩,⟨by simp [dj],lu rfl⟩,by simp only [dj,ci];omega,⟨by simp [dj],by simp [dj]⟩,by simp only [dj,ci];omega,qh (by decide) _⟩
 ·exact ov ⟨by simp only [dk,ci];omega,iP ⟨rfl,rfl⟩,⟨by simp only [dk];split<;>simp,by simp only [dk];split<;>exact oo rfl⟩,⟨by simp [dk],lu rfl⟩,by simp only [dk,ci];omega,⟨by simp [dk],fun v hv=>by simp only [dk,List.mem_singleton] at hv;subst hv;exact eo (by omega)⟩,by simp only [dk,ci];omega,qh (by decide) _⟩
end Go.AL
open Go Go.AL Go.Proofs
namespace Go.AL
set_option linter.all false
set_option maxRecDepth 10000
def GgOk (n:Nat) (l:List SGrant):Prop:=l.length≤n∧∀ q∈l,AX q
theorem GgOk.nil {n:Nat}:GgOk n []:=⟨Nat.zero_le _,fun q hq=>by cases hq⟩
theorem GgOk.cons {n:Nat} {l:List SGrant} {q:SGrant} (h:GgOk n l) (hq:AX q):GgOk (n+1) (q::l) :=
 ⟨Nat.succ_le_succ h.1,fun x hx=>(List.mem_cons.1 hx).elim (fun e=>e ▸ hq) (h.2 x)⟩
theorem GgOk.up {n:Nat} {l:List SGrant} (h:GgOk n l):GgOk (n+1) l:=⟨Nat.le_succ_of_le h.1,h.2⟩
theorem kD (b:List UInt8):∀ (ts:List STable) (v:Nat),(∀ t∈ts,(0≤t.id∧t.id≤65535)∧t.keys.length≤4)→GgOk ts.length (dv b ts v).1.1∧GgOk ts.length (dv b ts v).1.2.1∧GgOk ts.length (dv b ts v).1.2.2
 |[],v,_=>⟨.nil,.nil,.nil⟩
 |t::ts,v,h=>by
  obtain ⟨hi,ht⟩:=h t List.mem_cons_self
  have hp:∀ (r w:Bool) v,AX ⟨t.id,r,w,jw b v t.keys.length⟩:=fun r w v=>⟨hi,by simp [jw];exact ht⟩
  have hr:∀ (r w:Bool),AX ⟨t.id,r,w,List.replicate t.keys.length true⟩:=fun r w=>⟨hi,by simp;exact ht⟩
  simp only [dv]
  rw [yaz]
  split<;>split
  ·obtain ⟨i1,i2,i3⟩:=kD b ts (v+t.keys.length+3+3) fun x hx=>h x (List.mem_cons_of_mem _ hx)
   exact ⟨i1.cons (hr _ _),i2.cons (hp _ _ _),i3.cons (hr _ _)⟩
  ·obtain ⟨i1,i2,i3⟩:=kD b ts (v+t.keys.length+3+1) fun x hx=>h x (List.mem_cons_of_mem _ hx)
   exact ⟨i1.cons (hr _ _),i2.cons (hp _ _ _),i3.up⟩
  ·obtain ⟨i1,i2,i3⟩:=kD b ts (v+t.keys.length+1+3) fun x hx=>h x (List.mem_cons_of_mem _ hx)
   exact ⟨i1.cons (hr _ _),i2.up,i3.cons (hr _ _)⟩
  ·obtain ⟨i1,i2,i3⟩:=kD b ts (v+t.keys.length+1+1) fun x hx=>h x (List.mem_cons_of_mem _ hx)
   exact ⟨i1.cons (hr _ _),i2.up,i3.up⟩
theorem u5 (b:List UInt8) (v:Nat):∀ t∈cT b v,(0≤t.id∧t.id≤65535)∧t.keys.length≤4:=fun a ha=>by
 simp only [cT,List.mem_cons,List.not_mem_nil,or_false] at ha
 rcases ha with rfl|rfl|rfl|rfl
 ·exact ⟨by simp only [fC];omega,by simp [fC]⟩
 ·exact ⟨by simp only [fo];omega,by simp only [fo];split<;>simp⟩
 ·exact ⟨by simp only [dj];omega,by simp only [dj];split<;>simp⟩
 ·exact ⟨by simp only [dk];omega,by simp only [dk];split<;>simp⟩
theorem Bn (b:List UInt8) (v w:Nat):(iQ b v (cT b w)).1.length=3∧∀ a∈(iQ b v (cT b w)).1,Gd (gL a) 140:=by
 have c0:=fH (b:=b) (v:=v) (n:=3) (by decide)
 have c1:=fH (b:=b) (v:=v+1) (n:=6) (by decide)
 have c2:=fH (b:=b) (v:=v+2) (n:=6) (by decide)
 have c3:=fH (b:=b) (v:=v+3) (n:=4) (by decide)
 obtain ⟨g1,g2,g3⟩:=kD b (cT b w) (v+4) (u5 b w)
 rw [show (cT b w).length=4 from rfl] at g1 g2 g3
 refine ⟨rfl,fun a ha=>?_⟩
 simp only [iQ,List.mem_cons,List.not_mem_nil,or_false] at ha
 rcases ha with rfl|rfl|rfl
 ·exact uX ⟨by dsimp only;omega,iP ⟨rfl,rfl⟩,g1,⟨by simp,lu rfl⟩,by dsimp only;omega⟩
 ·refine uX ⟨by dsimp only;omega,iP ⟨rfl,rfl⟩,g2,⟨by simp,fun n hn=>?_⟩,by dsimp only [ci];omega⟩
  simp only [List.mem_cons,List.not_mem_nil,or_false] at hn
  rcases hn with rfl|rfl|rfl<;>(try dsimp only [ci])<;>omega
 ·refine uX ⟨by dsimp only;omega,iP ⟨rfl,rfl⟩,g3,⟨by simp,fun n hn=>?_⟩,by dsimp only [ci];omega⟩
  simp only [List.mem_cons,List.not_mem_nil,or_false] at hn
  subst hn
  (try dsimp only [ci]);omega
theorem HQ (b:List UInt8) (v:Nat):Gd (gZ (gT b v).1) 8000:=by
 have c0:=fH (b:=b) (v:=cp v 0) (n:=8) (by decide)
 have c1:=fH (b:=b) (v:=cp v 1) (n:=30) (by decide)
 obtain ⟨s1,s2⟩:=xq b (cp v 2)
 obtain ⟨a1,a2⟩:=wB b (cq b (cp v 2)).2
 obtain ⟨t1,t2⟩:=yq b (cp (cq b (cp v 2)).2 4)
 obtain ⟨r1,r2⟩:=Bn b (cp (cq b (cp v 2)).2 16) (cp (cq b (cp v 2)).2 4)
 unfold gT
 dsimp only
 unfold gZ dZ
 dsimp only
 have h1:Gd (aT dT 32 gFields) (4+9*36):=fP (by decide) (by decide) fun a ha=>by
  simp only [gFields,List.mem_cons,List.not_mem_nil,or_false] at ha
  rcases ha with rfl|rfl|rfl|rfl|rfl|rfl|rfl|rfl|rfl<;>exact DA ⟨by dsimp only;omega,iP ⟨rfl,rfl⟩,by dsimp only;omega⟩
 have h2:Gd (aT dm 8 gHeaders) (4+3*68):=fP (by decide) (by decide) fun a ha=>by
  simp only [gHeaders,List.mem_cons,List.not_mem_nil,or_false] at ha
  rcases ha with rfl|rfl|rfl<;>exact zw ⟨by dsimp only;omega,iP ⟨rfl,rfl⟩,by simp,lu rfl⟩
 have h3:=fP (m:=12) (N:=3) (by omega) (by decide) s2
 have h4:=fP (m:=12) (N:=6) (by omega) (by decide) a2
 have h5:=fP (m:=8) (N:=4) (by omega) (by decide) t2
 have h7:=fP (m:=6) (N:=3) (by omega) (by decide) r2
 refine ((gG ?_).add ((gG ?_).add ((h1.add (h2.add h3)).add (h4.add (h5.add ((fP (N:=5) (B:=8) ?_ (by decide) ?_).add (h7.add (fP (N:=4) (B:=24) ?_ (by decide) ?_)))))))).up (by omega)
 ·dsimp only [ci];omega
 ·dsimp only [ci];omega
 ·split<;>simp
 ·intro a ha
  split at ha<;>simp only [yal,yak,yaj,List.mem_cons,List.not_mem_nil,or_false] at ha
  ·rcases ha with rfl|rfl|rfl|rfl|rfl<;>exact vS ⟨by dsimp only;omega,by dsimp only;omega⟩
  ·rcases ha with rfl|rfl|rfl|rfl<;>exact vS ⟨by dsimp only;omega,by dsimp only;omega⟩
 ·(repeat' split)<;>simp
 ·intro a ha
  rw [List.mem_append,List.mem_append] at ha
  have hr:∀ x∈[(⟨2,0,4,0,1,0⟩:SRef),⟨3,2,0,0,1,0⟩,⟨4,1,0,0,1,0⟩,⟨4,0,5,0,1,0⟩],Gd (kF x) 24:=fun x hx=>by
   simp only [List.mem_cons,List.not_mem_nil,or_false] at hx
   rcases hx with rfl|rfl|rfl|rfl<;>exact G3 ⟨by dsimp only;omega,by dsimp only;omega,by dsimp only;omega,by dsimp only;omega,by dsimp only;omega,by dsimp only;omega⟩
  refine hr a ?_
  rcases ha with (ha|ha)|ha
  ·split at ha
   ·simp only [List.mem_singleton] at ha;subst ha;simp
   ·cases ha
  ·split at ha
   ·simp only [List.mem_singleton] at ha;subst ha;simp
   ·cases ha
  ·split at ha
   ·simp only [List.mem_cons,List.not_mem_nil,or_false] at ha
    rcases ha with rfl|rfl<;>simp
   ·cases ha
theorem nR (n:Int):(fQ n 2).length=2:=by
 unfold fQ
 rw [if_pos (by decide),la];rfl
theorem kV {α:Type} (g:α→Enc) (m:Int) (l:List α):2≤(aT g m l).b.length:=by
 unfold aT
 rw [cx]
 show 2≤(fQ _ 2).length+_
 rw [nR];omega
theorem F9 (x:Sch):20≤(gZ x).b.length:=by
 unfold gZ dZ
 simp only [cx]
 have h1:(bQ x.maxBatch 2).b.length=2:=nR _
 have h2:(bQ x.budget 2).b.length=2:=nR _
 have a1:=kV dT 32 x.fields
 have a2:=kV dm 8 x.headers
 have a3:=kV fk 12 x.states
 have a4:=kV cQ 12 x.actions
 have a5:=kV dX 8 x.tables
 have a6:=kV fa 12 x.stages
 have a7:=kV gL 6 x.roles
 have a8:=kV kF 8 x.refs
 omega
/-- the encoding of the schema of the choices -/
theorem GY (b:List UInt8) (v:Nat):∃ B:List UInt8,t6 (gT b v).1=(B,0)∧20≤B.length∧B.length≤8000:=by
 obtain ⟨h1,h2,h3,h4⟩:=HQ b v
 have h5:=F9 (gT b v).1
 refine ⟨(gZ (gT b v).1).b,?_,h5,h4⟩
 unfold t6
 rw [h1,h2,h3]
 simp only [Bool.false_eq_true,if_false]
 rw [if_neg (by omega)]
end Go.AL
open Go Go.AL Go.Proofs
namespace Go.AL
set_option linter.all false
set_option maxRecDepth 10000
theorem zK:ti Tryz.prog 40=some ⟨.slice 22,1,24,.slice .nil 1 []⟩:=by kernel_rfl
attribute [go_sem] zK
theorem ym {l:List UInt8} {n k:Nat} (h:n=l.length):cP 1 n (bys l++List.replicate k AV.junk)=bys l:=by
 subst h
 induction l with
 |nil=>rfl
 |cons a l ih =>
  show cP 1 (l.length+1) (bd a::(bys l++List.replicate k AV.junk))=bd a::bys l
  simp only [cP,if_true,yao,yap,ih]
  rfl
theorem wD {n k:Nat} {l:List UInt8}:ltL n (bys l++List.replicate k AV.junk):=ltL_iff.2 fun j hj=>by
 rw [List.getElem_append]
 split
 ·exact ltL_iff.1 (of_eq_true zmj) j _
 ·rw [List.getElem_replicate,AV.lt]<;>simp
theorem jx {α:Type} {rd:RM α} {m:Int} (s:RS) (hm:0≤m) (hm2:m≤100):(rlX rd m s).1.length≤140737488355328:=by
 have:=EJ (rd:=rd) hm s
 omega
theorem FH (s:RS):DQ (dl LX s).1:=by
 unfold dl DQ;dsimp only [rap,cZ,kv]
 exact jx _ (by decide) (by decide)
theorem Gc (s:RS):BE (dx LX s).1:=by
 unfold dx BE;dsimp only [rap,cZ,kv]
 exact jx _ (by decide) (by decide)
theorem F0 (s:RS):BQ (dJ LX s).1:=by
 unfold dJ BQ;dsimp only [rap,cZ,kv]
 exact ⟨jx _ (by decide) (by decide),jx _ (by decide) (by decide)⟩
theorem Gx (s:RS):Ey (dH LX s).1:=by
 unfold dH Ey;dsimp only [rap,cZ,kv]
 exact ⟨jx _ (by decide) (by decide),jx _ (by decide) (by decide),jx _ (by decide) (by decide)⟩
theorem EL (s:RS):Ej (eg LX s).1:=by
 unfold eg Ej;dsimp only [rap,cZ,kv]
 exact jx _ (by decide) (by decide)
theorem F1 (s:RS):DS (dK LX s).1:=by
 unfold dK DS;dsimp only [rap,cZ,kv]
 exact ⟨jx _ (by decide) (by decide),jx _ (by decide) (by decide),mP EL _ _⟩
theorem FA (s:RS):CSch (kI LX s).1:=by
 unfold kI;dsimp only [rap,cZ,kv,mkS]
 exact ⟨jx _ (by decide) (by decide),jx _ (by decide) (by decide),mP FH _ _,jx _ (by decide) (by decide),mP Gc _ _,jx _ (by decide) (by decide),mP F0 _ _,jx _ (by decide) (by decide),mP Gx _ _,
  jx _ (by decide) (by decide),jx _ (by decide) (by decide),mP F1 _ _,jx _ (by decide) (by decide)⟩
theorem EA:CSch wz:=by
 refine ⟨?_,?_,?_,?_,?_,?_,?_,?_,?_,?_,?_,?_,?_⟩<;>simp [wz]
theorem Hh (b:List UInt8):CSch (tS b).1:=by
 unfold tS
 split
 ·exact EA
 ·unfold xB
  split
  ·exact EA
  ·exact FA _
def md:List AV→AHeap→(AV→Prop)→Prop
 |[.slice _ 1 l0,.slice _ 1 l1,.int .i64 at',.int .u8 by'],_,K=>(isB l0∧isB l1 ∧ -9223372036854775808≤at'∧at'≤9223372036854775807∧0≤by'∧by'<256)∧K (.bool true)
 |_,_,_=>False
set_option maxHeartbeats 8000000 in
theorem ok_SchemaDecodes:EntOk Tryz.prog 3 (Ent.pure md):=by
 refine EntOk.pure fun args H K h=>?_
 unfold md at h
 split at h
 rotate_left
 ·exact h.elim
 rename_i m0 l0 m1 l1 at' by'
 obtain ⟨⟨c0,c1,ha1,ha2,hb1,hb2⟩,hK⟩:=h
 refine ⟨_,hK,?_⟩
 clear hK
 obtain ⟨x0,rfl⟩:=dO c0
 obtain ⟨x1,rfl⟩:=dO c1
 clear c0 c1
 obtain ⟨B0,hB0⟩:∃ B0,x0.take (min (x0.length:Int) 200).toNat=B0:=⟨_,rfl⟩
 obtain ⟨B1,hB1⟩:∃ B1,x1.take (min (x1.length:Int) 120).toNat=B1:=⟨_,rfl⟩
 have hL0:B0.length≤200:=by rw [← hB0,List.length_take];omega
 have hL1:B1.length≤1000000:=by rw [← hB1,List.length_take];omega
 have hG:=(B7 B1 0).mono (N':=50) (R':=1100000) (by decide) (by decide)
 obtain ⟨W,hW,hW20,hW8⟩:=GY B1 0
 generalize hS:gT B1 0=SS at *
 obtain ⟨S,w1⟩:=SS
 dsimp only at hG hW
 have hz1:zod B1 0=f8 B1 (cp 0 0):=Ar
 refine ACalls.fW aB (TblOk.cons FW (TblOk.cons yy (TblOk.cons Gv (TblOk.cons Gy (TblOk.cons EQ (TblOk.cons Fk (TblOk.cons Ep (TblOk.cons xA TblOk.nil)))))))) Tryz.func3 [.tmp 8] (Nat.le_refl _) (T:=ay [(5,[[],[],[],[],[],[],[],[],[7],[],[],[7],[],[],[7,11],[],[],[7,11,14],[],[7,11,14,17],[],[7,14,17,19],[7,8,14,17,19]]),(3,[[0,3]]),(4,[[30]])]) (h:=fun hcl hlt=>?_)
 clear hlt
 simp only [cm,cl,bhq,Nat.reduceMod,Nat.reduceDiv,aY,aZ,a0,cb,a9,bY,ca,bV,bW,yaq,yar,yao,yap,go_sem,byq,uo,hB0,yap]
 refine ⟨by omega,x1,⟨rfl,by omega⟩,?_⟩
 rw [hB1,hz1]
 have hSch:pu=eG fun b v=>(cN (gT b v).1,(gT b v).2):=rfl
 simp only [cm,cl,bhq,Nat.reduceMod,Nat.reduceDiv,aY,aZ,a0,cb,a9,bY,ca,bV,bW,yaq,yar,yao,yap,go_sem,byq,uo,hSch,eG,cM hL1,Nat.zero_min,cp0,hS,cN,bL,x6,A5]
 refine ⟨S,⟨rfl,hG.ok,hG.len⟩,?_⟩
 rw [hW]
 have hWn:W≠[]:=fun e=>by rw [e] at hW20;simp at hW20
 have hpos:0<W.length:=List.length_pos_iff.2 hWn
 have c0:((W.length:Int)==0)=false:=by simp;omega
 have hwb:W.isEmpty=false:=by cases W<;>simp_all
 have hwn:bys W≠[]:=fun e=>hWn (by rwa [zmn] at e)
 have htk:W.take W.length=W:=List.take_length
 dsimp only
 have hmx:max (W.length:Int) 1=W.length:=by omega
 obtain ⟨ia,hia⟩:∃ ia:Nat,at' % (W.length:Int)=(ia:Int):=⟨(at' % (W.length:Int)).toNat,by have:=Int.emod_nonneg at' (show ((W.length:Nat):Int)≠0 by omega);omega⟩
 have hial:ia<W.length:=by have:=Int.emod_lt_of_pos at' (show (0:Int)<((W.length:Nat):Int) by omega);omega
 obtain ⟨ib,hib⟩:∃ ib:Nat,at' % 10=(ib:Int):=⟨(at' % 10).toNat,by omega⟩
 have hibl:ib<10:=by omega
 have hw2:IntKind.i64.wrap (2*(ib:Int))=((2*ib:Nat):Int):=by rw [wrap_i64]<;>omega
 obtain ⟨Hb,hHb⟩:∃ Hb,H.push (f8 B1 w1)=Hb:=⟨_,rfl⟩
 rw [hHb]
 have hb1':Hb.nx=H.nx+1:=by rw [← hHb];rfl
 have hb3':Hb.Closed:=by rw [← hHb];exact ag hcl ka
 have hb4':H.Le Hb:=by rw [← hHb];exact (AHeap.Le.refl _).push _
 clear hHb
 simp only [cm,cl,bhq,Nat.reduceMod,Nat.reduceDiv,aY,aZ,a0,cb,a9,bY,ca,bV,bW,yaq,yar,yao,yap,go_sem,byq,c0,hwb,htk,ud,hia,Int.toNat_natCast,hb1']
 refine ⟨⟨by omega,by omega⟩,hwn,fun kk=>⟨⟨by omega,by omega,by omega,by omega⟩,⟨by omega,by omega⟩,by rw [List.length_append,zle];omega,?_⟩⟩
 have hgd:(bys W++List.replicate kk AV.junk).getD ia .junk=bd W[ia]:=by
  rw [List.getD_eq_getElem?_getD,List.getElem?_append_left (by rw [zle];exact hial),← List.getD_eq_getElem?_getD,iG hial]
  simp [List.getD_eq_getElem?_getD,hial]
 obtain ⟨eb,heb⟩:∃ eb:UInt8,AV.int .u8 (Ah .u8 ((W[ia].toNat:Nat):Int) by')=bd eb:=by unfold Ah;exact ⟨_,qF⟩
 have hsp:splice (bys W++List.replicate kk AV.junk) ia (bys [eb])=bys (W.set ia eb)++List.replicate kk AV.junk:=by
  show splice _ ia [bd eb]=_
  rw [jD,List.set_append_left _ _ (by rw [zle];exact hial)]
  congr 1
  unfold bys;rw [List.map_set]
 have hrw:cP 1 W.length (bys (W.set ia eb)++List.replicate kk AV.junk)=bys (W.set ia eb):=ym (by rw [List.length_set])
 have hbl:(W.set ia eb).length=W.length:=List.length_set
 generalize W[ia]=cc at *
 generalize W.set ia eb=Bd at *
 have hgd':(bys W++List.replicate kk AV.junk).getD ia .junk=.int .u8 ((cc.toNat:Nat):Int):=hgd
 have hlc:(bys W++List.replicate kk AV.junk).length=W.length+kk:=by rw [List.length_append,zle,List.length_replicate]
 have hle1:(1=1∧W.length≤W.length)=True:=eq_true ⟨rfl,Nat.le_refl _⟩
 simp only [cm,cl,bhq,Nat.reduceMod,Nat.reduceDiv,aY,aZ,a0,cb,a9,bY,ca,bV,bW,yaq,yar,yao,yap,go_sem,byq,hgd',heb,hsp,hlc,zlx,zly,hb1']
 refine ⟨by omega,by omega,1,W.length,?_⟩
 have ht2:(List.take (2*ib) W).length=2*ib:=by rw [List.length_take];omega
 rcases Nat.eq_zero_or_pos ib with hz|hz
 case' inl =>
  have z01:((0:Nat)=2*ib)=True:=eq_true (by omega)
  have z01':((0:Int)=((2*ib:Nat):Int))=True:=eq_true (by omega)
 case' inr =>
  have z01:((0:Nat)=2*ib)=False:=eq_false (by omega)
  have z01':((0:Int)=((2*ib:Nat):Int))=False:=eq_false (by omega)
 all_goals
  simp only [cm,cl,bhq,Nat.reduceMod,Nat.reduceDiv,aY,aZ,a0,cb,a9,bY,ca,bV,bW,yaq,yar,yao,yap,go_sem,byq,hle1,hrw,Nat.le_refl,eq_self,hbl,zoe,zlx,zly,hb1',ud,hia,hib,hw2,z01,z01',ht2,if_false,if_true,Int.toNat_natCast]
  have hnil:∀ h:ib=0,bys (List.take (2*ib) W)=[]:=fun h=>by rw [h];rfl
  refine ⟨⟨by omega,by omega,by omega,by omega⟩,⟨by omega,by omega,by omega⟩,⟨by omega,by omega⟩,⟨by omega,by omega,by omega,by omega⟩,⟨by omega,by omega,by omega,by omega⟩,⟨by omega,by omega,by omega,by omega⟩,by first|exact ⟨by omega,by omega⟩|exact ⟨hnil (by omega),by omega,by omega⟩,?_⟩
 case' inr =>
  generalize hLm:(if B0.isEmpty=true then Mark.full else Mark.own (H.nx+1+1+1))=mk at *
  have hmk:∀ j,mk=.own j→j=H.nx+1+1+1:=fun j h=>by
   rw [← hLm] at h
   split at h
   ·cases h
   ·cases h;rfl
  clear hLm
 case' inl =>
  obtain ⟨mk,hLm⟩:∃ mk,mk=Mark.own (H.nx+1+1+1):=⟨_,rfl⟩
  have hmk:∀ j,mk=.own j→j=H.nx+1+1+1:=fun j h=>by rw [hLm] at h;cases h;rfl
  rw [show (AV.slice (Mark.own (H.nx+1+1+1)) 1 (bys (List.take (2*ib) W++B0)))=AV.slice mk 1 (bys (List.take (2*ib) W++B0)) by rw [hLm]]
  clear hLm
 all_goals
  generalize hRl:[AV.slice Mark.any 1 (bys B0),AV.slice Mark.any 1 (bys W),AV.slice (Mark.own (H.nx+1+1)) 1 (bys Bd),AV.slice Mark.any 1 (bys (List.take ia W)),AV.slice (Mark.own (H.nx+1+1)) 1 (bys (Bd++B0)),AV.slice mk 1 (bys (List.take (2*ib) W++B0))]=Rl
  have hR6:Rl.length=6:=by rw [← hRl];rfl
  have hRb:∀ i,i<6→∃ m s,Rl.getD i .junk=.slice m 1 (bys s)∧s.length≤8300:=by
   intro i hi
   rw [← hRl]
   rcases (by omega:i=0∨i=1∨i=2∨i=3∨i=4∨i=5) with rfl|rfl|rfl|rfl|rfl|rfl
   ·exact ⟨_,B0,rfl,by omega⟩
   ·exact ⟨_,W,rfl,by omega⟩
   ·exact ⟨_,Bd,rfl,by omega⟩
   ·exact ⟨_,W.take ia,rfl,by rw [List.length_take];omega⟩
   ·exact ⟨_,Bd++B0,rfl,by rw [List.length_append];omega⟩
   ·exact ⟨_,W.take (2*ib)++B0,rfl,by rw [List.length_append];omega⟩
  obtain ⟨Hx,hHx⟩:∃ Hx,(((((Hb.push (AObj.cells (bys Bd++List.replicate kk AV.junk))).del (H.nx+1)).push (AObj.buf 1 (W.length+B0.length))).push (AObj.buf 1 (2*ib+B0.length))).push (AObj.buf 1 6))=Hx:=⟨_,rfl⟩
  rw [hHx]
  have hx1:Hx.nx=H.nx+1+1+1+1+1:=by rw [← hHx];simp only [zky,iq,hb1']
  have hx2:Hx.Closed:=by rw [← hHx];exact aP (aP (aP (r5 (ag hb3' wD))))
  have hx0:H.Le Hx:=by rw [← hHx];exact ((((hb4'.push _).del (by omega)).push _).push _).push _
  have hx3:(AV.slice .any 1 Rl).lt Hx.nx:=by
   rw [← hRl,hx1];simp (disch:=first|assumption|omega|(simp;done)|(simp;omega)|(simp only [bt,and_true];first|done|omega|(simp;done))) [↓zmi,beq,ybc,ybd,ybe,al,wk,wk2,wk1,wkM,wkL,aG,ybf,aH,zky,iq,zmh]
   exact fun j h=>by have:=hmk j h;omega
  have hx5:H.nx≤Hx.nx:=by omega
  refine aA (A:=Nat) (fun j=>[(65,.slice .any 1 Rl),(66,.int .i64 ((6:Nat):Int)),(67,.int .i64 (j:Int))]) (fun _=>Hx) (fun j=>j≤6) (fun j=>6 - j) 0 (by omega) ?_ fun j hj=>?_
  ·refine ⟨by simp only [zkk,zkp,hx1];omega,AHeap.Le.refl _,hx2,?_,?_⟩
   ·simp only [ltF,zmz,and_true]
    exact hx3
   ·simp [bf,wk2,wk1,wkM,Fr.get]
  simp only [go_sem,byq]
  refine ai (fun hc2=>?_) (fun hc2=>?_)
  ·have hj5:j<6:=by simp at hc2;omega
   obtain ⟨ms,s,hRj,hsl⟩:=hRb j hj5
   have ej:IntKind.i64.wrap ((j:Int)+1)=((j+1:Nat):Int):=by rw [wrap_i64]<;>omega
   simp only [cm,cl,bhq,Nat.reduceMod,Nat.reduceDiv,aY,aZ,a0,cb,a9,bY,ca,bV,bW,yaq,yar,yao,yap,go_sem,byq,Int.toNat_natCast,hR6,hRj,hx1,uP,t4,At]
   refine ⟨⟨by omega,by omega⟩,s,⟨rfl,by omega⟩,?_⟩
   have hrc:=Hh s
   obtain ⟨⟨D,De⟩,hDD⟩:∃ D,tS s=D:=⟨_,rfl⟩
   rw [hDD] at hrc ⊢
   dsimp only at hrc
   have hne:(De != De)=false:=by simp
   simp only [cm,cl,bhq,Nat.reduceMod,Nat.reduceDiv,aY,aZ,a0,cb,a9,bY,ca,bV,bW,yaq,yar,yao,yap,go_sem,byq,hx1,cN,bL,uP,t4,At]
   refine ⟨s,⟨rfl,by omega⟩,?_⟩
   rw [hDD]
   simp only [cm,cl,bhq,Nat.reduceMod,Nat.reduceDiv,aY,aZ,a0,cb,a9,bY,ca,bV,bW,yaq,yar,yao,yap,go_sem,byq,hx1,cN,bL,uR,CQ,hne]
   refine ⟨D,D,⟨rfl,rfl,hrc,hrc⟩,?_⟩
   simp only [cm,cl,bhq,Nat.reduceMod,Nat.reduceDiv,aY,aZ,a0,cb,a9,bY,ca,bV,bW,yaq,yar,yao,yap,go_sem,byq,hx1,x4,ej,Bool.not_true]
   refine ⟨j+1,by omega,by omega,by (try simp only [zky]);omega,by repeat first|exact .refl _|refine .push ?_ _,hx2,?_,?_⟩
   ·simp only [ltF,zmz,and_true]
    exact hx3
   ·simp [bf,wk2,wk1,wkM,Fr.get]
  ·have hj5:j=6:=by simp at hc2;omega
   simp only [go_sem,byq,pd]
   exact ⟨rfl,by first|exact hx0|exact hx0.push _,hcl,by rw [zna];trivial⟩
end Go.AL
