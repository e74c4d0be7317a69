/- Lemmas of the proof; no condition. -/
import Derived.Test.YtpbnggedofiinaaGreatS10i
import Derived.Test.YtpbnggedofiinaaGreatS10v
set_option linter.all false
set_option maxRecDepth 10000
open Go Go.AL Go.Proofs
namespace Go.AL
def Ii (S:Sch) (id:Int):Option STable:=S.tables.find? fun t=>t.id==id
structure MOk (m:SMatch):Prop where
 v:m.value<2^128
 k:m.mask<2^128
 h:m.high<2^128
theorem FE {a b:Int} (h:isV a b):∃ x:Nat,x<2^128∧a=((x/2^64:Nat):Int)∧b=((x % 2^64:Nat):Int)∧vOf a.toNat b.toNat=x:=by
 obtain ⟨h0,h1,h2,h3⟩:=h
 obtain ⟨x,rfl⟩:=bY h0
 obtain ⟨y,rfl⟩:=bY h2
 have hy:y<2^64:=by omega
 refine ⟨vOf x y,nr (by omega) hy,by rw [uC hy],by rw [Eb hy],by simp only [iNq]⟩
theorem cH {x y:Nat}:((((x/2^64:Nat):Int)==((y/2^64:Nat):Int))&&((((x % 2^64:Nat):Int)==((y % 2^64:Nat):Int))&&true))=decide (x=y):=by
 rw [Bool.eq_iff_iff]
 simp only [Bool.and_eq_true,beq_iff_eq,decide_eq_true_eq,and_true]
 omega
theorem bT {x y:Nat}:((((x/2^64:Nat):Int)==((y/2^64:Nat):Int))&&(((x % 2^64:Nat):Int)==((y % 2^64:Nat):Int)))=decide (x=y):=by
 rw [← cH,Bool.and_true]
theorem ga {x:Nat} (h:x<2^128):isV ((x/2^64:Nat):Int) ((x % 2^64:Nat):Int)=True:=eq_true (by unfold isV;omega)
structure EOk (e:SEntry):Prop where
 ml:e.ms.length≤140737488355328
 al:e.args.length≤140737488355328
 mo:∀ m∈e.ms,MOk m
theorem mF:Tryz.prog.eqGuardType Tryz.prog.depth 254=false:=by kernel_rfl
theorem pj {m n:SMatch}:teq Tryz.prog 9 254 (.agg [.bool m.present,.int .u64 ((m.value/2^64:Nat):Int),.int .u64 ((m.value % 2^64:Nat):Int),.int .u64 ((m.mask/2^64:Nat):Int),.int .u64 ((m.mask % 2^64:Nat):Int),.int .i64 m.pfx,.int .u64 ((m.high/2^64:Nat):Int),.int .u64 ((m.high % 2^64:Nat):Int)])
 (.agg [.bool n.present,.int .u64 ((n.value/2^64:Nat):Int),.int .u64 ((n.value % 2^64:Nat):Int),.int .u64 ((n.mask/2^64:Nat):Int),.int .u64 ((n.mask % 2^64:Nat):Int),.int .i64 n.pfx,.int .u64 ((n.high/2^64:Nat):Int),.int .u64 ((n.high % 2^64:Nat):Int)])=some (decide (m=n)):=by
 have g1:Tryz.prog.stoodInHeld 254=false:=by kernel_rfl
 have g2:Tryz.prog.stoodInHeld 38=false:=by kernel_rfl
 by_cases h:m=n
 ·subst h
  simp [rK,om,teq,teq.go,teq.part,sx,nY,uj,ceq,g1,g2,TD.agg]
 ·rw [dfq h]
  obtain ⟨p,v,k,f,hh⟩:=m
  obtain ⟨p',v',k',f',h'⟩:=n
  dsimp only
  generalize h1:v/2^64=a1
  generalize h2:v % 2^64=a2
  generalize h3:v'/2^64=b1
  generalize h4:v' % 2^64=b2
  generalize h5:k/2^64=a3
  generalize h6:k % 2^64=a4
  generalize h7:k'/2^64=b3
  generalize h8:k' % 2^64=b4
  generalize h9:hh/2^64=a5
  generalize h10:hh % 2^64=a6
  generalize h11:h'/2^64=b5
  generalize h12:h' % 2^64=b6
  simp [rK,om,teq,teq.go,teq.part,sx,nY,uj,ceq,g1,g2,TD.agg]
  intro q1 q2 q3 q4 q5 q6 q7 q8
  apply h
  rw [q1,q6,show v=v' by omega,show k=k' by omega,show hh=h' by omega]
theorem o9 {P:SAction→Prop} (h0:P ⟨0,[],[],[],[]⟩):∀ {l:List SAction} {a:Int},(∀ x∈l,P x)→P (fx l a)
 |[],_,_=>h0
 |x::l,a,h=>by
  unfold fx
  split
  ·exact h x List.mem_cons_self
  ·exact o9 h0 fun y hy=>h y (List.mem_cons_of_mem _ hy)
theorem iY {b:List UInt8} {v:Nat}:∀ t∈cF b v,t.keys.length≤3∧(∀ k∈t.keys,1≤rZ gFields k.field∧rZ gFields k.field≤32∧(k.kind=2→16≤rZ gFields k.field))∧1≤t.actions.length∧t.actions.length≤5:=by
 intro t ht
 simp only [cF,List.mem_cons,List.not_mem_nil,or_false] at ht
 rcases ht with rfl|rfl|rfl|rfl
 ·refine ⟨by simp [i9],fun k hk=>?_,by simp [i9],by simp [i9]⟩
  simp only [i9,List.mem_cons,List.not_mem_nil,or_false] at hk
  subst hk
  decide
 ·refine ⟨by simp only [jd];split<;>simp,fun k hk=>?_,by simp [jd],by simp [jd]⟩
  simp only [jd] at hk
  split at hk<;>simp only [List.cons_append,List.nil_append,List.append_nil,List.mem_cons,List.not_mem_nil,or_false] at hk
  ·rcases hk with rfl|rfl<;>decide
  ·subst hk;decide
 ·refine ⟨by simp only [dW];split<;>simp,fun k hk=>?_,by simp [dW],by simp [dW]⟩
  simp only [dW] at hk
  split at hk<;>simp only [List.cons_append,List.nil_append,List.append_nil,List.mem_cons,List.not_mem_nil,or_false] at hk
  ·rcases hk with rfl|rfl|rfl<;>decide
  ·rcases hk with rfl|rfl<;>decide
 ·refine ⟨by simp only [dU];split<;>simp,fun k hk=>?_,by simp [dU],by simp [dU]⟩
  simp only [dU] at hk
  split at hk<;>simp only [List.cons_append,List.nil_append,List.append_nil,List.mem_cons,List.not_mem_nil,or_false] at hk
  ·rcases hk with rfl|rfl|rfl<;>decide
  ·subst hk;decide
theorem rQ {b:List UInt8} {v:Nat}:∀ a∈du b v,a.params.length≤4∧∀ p∈a.params,0≤p.bits∧p.bits≤1000:=by
 intro a ha
 simp only [du,List.mem_cons,List.not_mem_nil,or_false] at ha
 rcases ha with rfl|rfl|rfl|rfl|rfl|rfl<;>refine ⟨by simp,fun p hp=>?_⟩<;>simp only [List.mem_cons,List.not_mem_nil,or_false] at hp<;>first|exact hp.elim|(subst hp;decide)|(rcases hp with rfl|rfl<;>decide)
theorem Fz (b:List UInt8) (v:Nat):GenS (eL b v).1 where
 fl:=(by decide:gFields.length≤1000)
 al:=by simp [eL,du]
 tl:=by simp [eL,cF]
 t1:=by simp [eL,cF]
 kl:=fun t ht=>by have:=(iY t ht).1;omega
 kb:=fun t ht=>(iY t ht).2.1
 a1:=fun t ht=>⟨(iY t ht).2.2.1,by have:=(iY t ht).2.2.2;omega⟩
 pl:=fun a=>o9 (P:=fun x=>x.params.length≤100) (by decide) fun x hx=>by have:=(rQ x hx).1;omega
 pb:=fun a=>o9 (P:=fun x=>∀ p∈x.params,0≤p.bits∧p.bits≤1000) (by simp) fun x hx=>(rQ x hx).2
def e0:SEntry:=⟨2,[⟨true,167772161,0,8,0⟩],0,0,[]⟩
theorem zg {b:List UInt8}:zod b 0=cr b (cp 0 0):=by
 unfold zod cr cp
 simp
structure GM (m:SMatch):Prop where
 v:m.value<2^32
 k:m.mask<2^32
 h:m.high<2^32
 p0:0≤m.pfx
 p1:m.pfx≤32
theorem Ca {b:List UInt8} {v:Nat} {w kind:Int} (h1:1≤w) (h2:w≤32) (h3:kind=2→16≤w):GM (cq b v w kind).1:=by
 have hX:=pO (x:=qy b v) h1 h2
 have hno:GM dV:=⟨by decide,by decide,by decide,by decide,by decide⟩
 unfold cq
 dsimp only
 split
 ·rename_i hk
  have:=BI (b:=b) (u:=v+4) (h3 hk)
  split
  ·exact ⟨Nat.lt_of_le_of_lt Nat.and_le_left hX,by dsimp only;decide,by dsimp only;decide,by dsimp only;omega,by dsimp only;omega⟩
  ·exact hno
 ·split
  ·split
   ·exact ⟨Nat.lt_of_le_of_lt Nat.and_le_left hX,pO h1 h2,by dsimp only;decide,by dsimp only;decide,by dsimp only;decide⟩
   ·exact hno
  ·split
   ·split
    ·refine ⟨hX,by dsimp only;decide,?_,by dsimp only;decide,by dsimp only;decide⟩
     dsimp only
     unfold oR
     have:2^w.toNat≤2^32:=Nat.pow_le_pow_right (by decide) (by omega)
     have:=Nat.two_pow_pos w.toNat
     omega
    ·exact hno
   ·exact ⟨hX,by dsimp only;decide,by dsimp only;decide,by dsimp only;decide,by dsimp only;decide⟩
theorem nI {S:Sch} {b:List UInt8}:∀ (ks:List SKey) (v:Nat) (p:Int),(∀ k∈ks,1≤eW S k.field∧eW S k.field≤32∧(k.kind=2→16≤eW S k.field))→0≤p→p≤5 →
 (ct S b ks v p).1.1.length=ks.length∧(∀ m∈(ct S b ks v p).1.1,GM m)∧0≤(ct S b ks v p).1.2∧(ct S b ks v p).1.2≤5
 |[],v,p,_,h1,h2=>⟨rfl,by simp [ct],h1,h2⟩
 |k::ks,v,p,h,h1,h2=>by
  obtain ⟨g1,g2,g3⟩:=h k List.mem_cons_self
  have hm:=Ca (b:=b) (v:=v) g1 g2 g3
  have hc:=cn (b:=b) (v:=(cq b v (eW S k.field) k.kind).2) (n:=5) (by decide)
  unfold ct
  dsimp only
  by_cases hk:k.kind=3∨k.kind=4
  ·simp only [if_pos hk]
   obtain ⟨i1,i2,i3,i4⟩:=nI ks ((cq b v (eW S k.field) k.kind).2+1) (1+ci b (cq b v (eW S k.field) k.kind).2 5) (fun x hx=>h x (List.mem_cons_of_mem _ hx)) (by unfold ci;omega) (by unfold ci;omega)
   exact ⟨by simp [i1],fun m hm'=>(List.mem_cons.1 hm').elim (fun e=>e ▸ hm) (i2 m),i3,i4⟩
  ·simp only [if_neg hk]
   obtain ⟨i1,i2,i3,i4⟩:=nI ks (cq b v (eW S k.field) k.kind).2 p (fun x hx=>h x (List.mem_cons_of_mem _ hx)) h1 h2
   exact ⟨by simp [i1],fun m hm'=>(List.mem_cons.1 hm').elim (fun e=>e ▸ hm) (i2 m),i3,i4⟩
theorem tV {b:List UInt8}:∀ (ps:List SParam) (v:Nat),(jz b ps v).1.length=ps.length∧∀ x∈(jz b ps v).1,x<256
 |[],v=>⟨rfl,by simp [jz]⟩
 |p::ps,v=>by
  obtain ⟨i1,i2⟩:=tV ps (v+1)
  unfold jz
  refine ⟨by simp only [List.length_cons];rw [i1],fun x hx=>?_⟩
  rcases List.mem_cons.1 hx with rfl|hx
  ·have:=cn (b:=b) (v:=v) (n:=256) (by decide)
   unfold low
   split
   ·exact this
   ·exact Nat.lt_of_le_of_lt (Nat.mod_le _ _) this
  ·exact i2 x hx
theorem lk {S:Sch} {n:Int} (h:1≤S.tables.length):fH S n∈S.tables:=by
 have hm1:=Int.emod_nonneg n (show ((S.tables.length:Nat):Int)≠0 by omega)
 have hm2:=Int.emod_lt_of_pos n (show (0:Int)<((S.tables.length:Nat):Int) by omega)
 have hmi:(n % ((S.tables.length:Nat):Int)).toNat<S.tables.length:=by omega
 unfold fH
 rw [gEq,gQq hmi]
 exact gMq hmi
structure GE (S:Sch) (t:STable) (e:SEntry):Prop where
 tb:e.table=t.id
 ml:e.ms.length=t.keys.length
 mo:∀ m∈e.ms,GM m
 p0:0≤e.prio
 p1:e.prio≤5
 am:e.act∈t.actions
 al:e.args.length=(fx S.actions e.act).params.length
 ao:∀ x∈e.args,x<256
theorem qR {S:Sch} (hG:GenS S) {b:List UInt8} {v:Nat} {n:Int}:GE S (fH S n) (er S b v n).1:=by
 have ht:=lk (S:=S) (n:=n) hG.t1
 obtain ⟨i1,i2,i3,i4⟩:=nI (b:=b) (fH S n).keys v 0 (hG.kb _ ht) (by omega) (by omega)
 have hc:cv b (ct S b (fH S n).keys v 0).2 (fH S n).actions.length<(fH S n).actions.length:=cn (by have:=(hG.a1 _ ht).1;omega)
 unfold er
 dsimp only
 refine ⟨rfl,i1,i2,i3,i4,?_,(tV _ _).1,(tV _ _).2⟩
 dsimp only
 rw [gEq,gQq hc]
 exact gMq hc
theorem GE.ok {S:Sch} {t:STable} {e:SEntry} (h:GE S t e) (h1:t.keys.length≤100) (h2:∀ a:Int,(fx S.actions a).params.length≤100):EOk e :=
 ⟨by have:=h.ml;omega,by have:=h.al;have:=h2 e.act;omega,fun m hm=>by have:=h.mo m hm;exact ⟨Nat.lt_of_lt_of_le this.v (by decide),Nat.lt_of_lt_of_le this.k (by decide),Nat.lt_of_lt_of_le this.h (by decide)⟩⟩
structure TabS (S:Sch):Prop where
 uq:∀ t∈S.tables,Ii S t.id=some t
 k4:∀ t∈S.tables,t.keys.length≤3
 b2:∀ t∈S.tables,∀ k∈t.keys,k.kind=2→eW S k.field=32
 l4:S.tables.length=4
theorem FK (b:List UInt8) (v:Nat):TabS (eL b v).1 where
 uq:=fun t ht=>by
  simp only [eL,cF,List.mem_cons,List.not_mem_nil,or_false] at ht
  rcases ht with rfl|rfl|rfl|rfl<;>rfl
 k4:=fun t ht=>(iY t ht).1
 b2:=fun t ht k hk h2=>by
  simp only [eL,cF,List.mem_cons,List.not_mem_nil,or_false] at ht
  rcases ht with rfl|rfl|rfl|rfl
  ·simp only [i9,List.mem_cons,List.not_mem_nil,or_false] at hk
   subst hk;exact absurd h2 (by decide)
  ·simp only [jd] at hk
   split at hk<;>simp only [List.cons_append,List.nil_append,List.append_nil,List.mem_cons,List.not_mem_nil,or_false] at hk
   ·rcases hk with rfl|rfl
    ·rfl
    ·exact absurd h2 (by decide)
   ·subst hk;rfl
  ·simp only [dW] at hk
   split at hk<;>simp only [List.cons_append,List.nil_append,List.append_nil,List.mem_cons,List.not_mem_nil,or_false] at hk
   ·rcases hk with rfl|rfl|rfl<;>exact absurd h2 (by decide)
   ·rcases hk with rfl|rfl<;>exact absurd h2 (by decide)
  ·simp only [dU] at hk
   split at hk<;>simp only [List.cons_append,List.nil_append,List.append_nil,List.mem_cons,List.not_mem_nil,or_false] at hk
   ·rcases hk with rfl|rfl|rfl
    ·exact absurd h2 (by decide)
    ·exact absurd h2 (by decide)
    ·rfl
   ·subst hk;exact absurd h2 (by decide)
 l4:=rfl
def jL (a b:Int):Int:=if a<b then -1 else if b<a then 1 else 0
def jm:List Int→Int
 |[]=>0
 |x::xs=>if (x != 0)=true then x else jm xs
theorem B4 {a b:Int}:(jL a b != 0)=(a != b):=by
 unfold jL
 split
 ·have:a≠b:=by omega
  simp [this]
 ·split
  ·have:a≠b:=by omega
   simp [this]
  ·have:a=b:=by omega
   simp [this]
end Go.AL
