/- Contracts and plain laws, a part of the proof; no condition of its own. -/
import Derived.Test.YtiiiljghmilepaaAlCode
/- The abstract layer, fifth part: the rules by which simp walks code. -/
namespace Go.AL
set_option linter.all false
variable {P:Program} {Ω:Tbl} {B:Conts} {k:List KItem} {fr:Fr} {H:AHeap}
theorem zaa {K:Conts}:aw P Ω .skip K fr H=K.n fr H:=(rfl)
theorem zae {K:Conts} {id:Nat} {l:List Oper}:aw P Ω (.region id l.toArray false) K fr H=dp P Ω K.n0 l.toArray ((K.T id).headD []) l K.n K.p fr H:=(rfl)
@[congr] theorem w4 {ops:Array Oper} {is is':List Nat} {l:List Oper} {K:Fr→AHeap→Prop} {Kp:Fr→AV→AHeap→Prop} {n0:Nat} (h:is=is'):dp P Ω n0 ops is l K Kp fr H=dp P Ω n0 ops is' l K Kp fr H:=by rw [h]
theorem zaf {ops:Array Oper} {l:List Oper} {K:Fr→AHeap→Prop} {Kp:Fr→AV→AHeap→Prop} {n0:Nat}:dp P Ω n0 ops [] l K Kp fr H=aD P Ω ops l K Kp fr H:=(rfl)
theorem qf {n0:Nat} {ops:Array Oper} {i:Nat} {is:List Nat} {l:List Oper} {K:Fr→AHeap→Prop} {Kp:Fr→AV→AHeap→Prop} (h:i % 3=0):dp P Ω n0 ops (i::is) l K Kp fr H=aD P Ω ops (l.take (i/3)) (fun fr H=>match l.drop (i/3) with
 |o::rest=>o.guard=none∧aW P o fr H (dp P Ω n0 ops is rest K Kp)
 |[]=>False) Kp fr H:=if_pos h
theorem pP {n0:Nat} {ops:Array Oper} {i:Nat} {is:List Nat} {l:List Oper} {K:Fr→AHeap→Prop} {Kp:Fr→AV→AHeap→Prop} (h:i % 3=1):dp P Ω n0 ops (i::is) l K Kp fr H=aD P Ω ops (l.take (i/3)) (fun fr H=>gV n0 (dp P Ω n0 ops is (l.drop (i/3)) K Kp) fr H) Kp fr H :=
 (if_neg (by omega)).trans (if_pos h)
theorem rz {n0:Nat} {ops:Array Oper} {i:Nat} {is:List Nat} {l:List Oper} {K:Fr→AHeap→Prop} {Kp:Fr→AV→AHeap→Prop} (h:i % 3=2):dp P Ω n0 ops (i::is) l K Kp fr H=aD P Ω ops (l.take (i/3)) (fun fr H=>match l.drop (i/3) with
 |o::rest=>o.guard=none∧aX P o fr H (dp P Ω n0 ops is rest K Kp)
 |[]=>False) Kp fr H:=(if_neg (by omega)).trans (if_neg (by omega))
theorem nz {n0:Nat} {K:Fr→AHeap→Prop} (fr':Fr) (H':AHeap) (h:enterW n0 fr H fr' H') (hk:K fr' H'):gV n0 K fr H:=.inl ⟨fr',H',h,hk⟩
theorem jA {n0:Nat} {K:Fr→AHeap→Prop} (s j sz:Nat) (cs:List AV) (h1:Fr.get fr s=.agg cs) (h2:cs[j]?=some (.slice .nil 1 [])) (hk:K ((s,.agg (cs.set j (.slice (.own H.nx) sz [])))::fr) (H.push (.buf sz 0))):gV n0 K fr H:=.inr (.inl ⟨s,j,sz,cs,h1,h2,hk⟩)
theorem eE {n0:Nat} {K:Fr→AHeap→Prop} (s:Nat) (y:AV) (h:wkD (Fr.get fr s) y) (hk:K ((s,y)::fr) H):gV n0 K fr H:=.inr (.inr (.inl ⟨s,y,h,hk⟩))
theorem uX {n0:Nat} {K:Fr→AHeap→Prop} (id:Nat) {cs:List AV} (cs':List AV) (hc:am H id=some cs) (h:gX cs cs') (hk:K fr (H.set id (.cells cs'))):gV n0 K fr H:=.inr (.inr (.inr (.inl ⟨id,cs,cs',hc,h,hk⟩)))
theorem wkDR_iff:∀ {xs ys:List AV},lm xs ys↔xs.length=ys.length∧∀ i (hi:i<xs.length) (hi':i<ys.length),gX xs[i].cells ys[i].cells
 |[],[]=>by simp [lm]
 |[],_::_=>by simp [lm]
 |_::_,[]=>by simp [lm]
 |x::xs,y::ys=>by
  rw [lm,wkDR_iff]
  constructor
  ·rintro ⟨h1,h2,h3⟩
   refine ⟨by simp [h2],fun j hj hj'=>?_⟩
   cases j with
   |zero=>exact h1
   |succ j=>exact h3 j (by simpa using hj) (by simpa using hj')
  ·rintro ⟨h1,h2⟩
   exact ⟨h2 0 (by simp) (by simp),by simpa using h1,fun j hj hj'=>h2 (j+1) (by simpa using hj) (by simpa using hj')⟩
theorem fN {xs ys:List AV}:wkD (.agg xs) (.agg ys)=gX xs ys:=by rw [wkD];exact propext wkDL_iff.symm
theorem di {m m':Mark} {sz sz':Nat} {xs ys:List AV}:wkD (.slice m sz xs) (.slice m' sz' ys)=((wkM m m'∧sz=sz'∧lm xs ys)∨(m=.nil∧m'=.any∧xs=[]∧ys=[])):=by
 rw [wkD]
 refine propext (or_congr (and_congr Iff.rfl (and_congr Iff.rfl ?_)) Iff.rfl)
 rw [wkDR_iff]
 exact and_congr Iff.rfl ⟨fun h i hi hi'=>wkDL_iff.2 (h i hi hi'),fun h i hi hi'=>wkDL_iff.1 (h i hi hi')⟩
theorem dT:gX [] []=True:=(rfl)
theorem dk {x y:AV} {xs ys:List AV}:gX (x::xs) (y::ys)=(wkD x y∧gX xs ys):=(rfl)
theorem dW:lm [] []=True:=(rfl)
theorem dj {x y:AV} {xs ys:List AV}:lm (x::xs) (y::ys)=(gX x.cells y.cells∧lm xs ys):=(rfl)
theorem mg:∀ x:AV,wkD x x
 |.agg xs=>by rw [wkD];exact ⟨rfl,fun j hj _=>mg xs[j]⟩
 |.slice m sz xs=>by rw [wkD];exact .inl ⟨.inr rfl,rfl,rfl,fun i hi _=>⟨rfl,fun j hj _=>mg xs[i].cells[j]⟩⟩
 |.int _ _|.bool _|.str _|.ptr _ _|.cptr _|.nilp|.ms _ _ _ _|.mapv _|.nilm|.func _ _ _|.nilf|.iface _ _|.nili|.tup _|.junk=>by rw [wkD]<;>(intros;contradiction)
termination_by x=>SizeOf.sizeOf x
decreasing_by
 all_goals simp_wf
 all_goals first
  |(have h1:=AV.sizeOf_cells (List.getElem_mem hj);have h2:=List.sizeOf_lt_of_mem (List.getElem_mem hi);omega)
  |(have:=List.sizeOf_lt_of_mem (List.getElem_mem hj);omega)
theorem wkDL_same {xs:List AV}:gX xs xs=True:=eq_true (wkDL_iff.2 ⟨rfl,fun _ _ _=>mg _⟩)
theorem nw {xs:List AV}:lm xs xs=True:=eq_true (wkDR_iff.2 ⟨rfl,fun _ _ _=>wkDL_same.symm ▸ trivial⟩)
theorem fF {k:IntKind} {n:Int} {y:AV}:wkD (.int k n) y=(.int k n=y):=by rw [wkD]<;>(intros;contradiction)
theorem eX {s:List UInt8} {y:AV}:wkD (.str s) y=(.str s=y):=by rw [wkD]<;>(intros;contradiction)
theorem eT {b:Bool} {y:AV}:wkD (.bool b) y=(.bool b=y):=by rw [wkD]<;>(intros;contradiction)
theorem zfi {n0:Nat} {K:Fr→AHeap→Prop}:lr [] n0 K fr H=K fr H:=(rfl)
theorem zfj {n0:Nat} {m:List Nat} {l:List (List Nat)} {K:Fr→AHeap→Prop}:lr (m::l) n0 K fr H=gV n0 K fr H:=(rfl)
@[congr] theorem xB {l l':List (List Nat)} {n0:Nat} {K:Fr→AHeap→Prop} (h:l=l'):lr l n0 K fr H=lr l' n0 K fr H:=by rw [h]
@[congr] theorem xA {n0:Nat} {K:Fr→AHeap→Prop} {fr':Fr} (h:fr=fr'):gV n0 K fr H=gV n0 K fr' H:=by rw [h]
theorem zfh {K:Conts} {id:Nat} {l:List Oper}:aw P Ω (.region id l.toArray true) K fr H=lr (K.T (id+400)) K.n0 (fun fr H=>ke P (K.T (id+800)) [] H fun pre H=>awD P Ω l.toArray l ⟨K.T id,0,[],pre,(K.T (id+1200)).headD []⟩ [] K.n fr H) fr H:=(rfl)
theorem zhb {pre:List (Nat × Nat)} {N:List (Nat × Nat)→AHeap→Prop}:ke P [] pre H N=N pre H:=(rfl)
theorem zhc {i t:Nat} {l:List (List Nat)} {pre:List (Nat × Nat)} {N:List (Nat × Nat)→AHeap→Prop}:ke P ([i,t]::l) pre H N=((ti P t).isSome=true∧cb pre i=none∧ke P l ((i,H.nx)::pre) (H.push (.cells (fS P t))) N):=(rfl)
theorem zhv {i:Nat} {l:List (List Nat)} {pre:List (Nat × Nat)} {N:List (Nat × Nat)→AHeap→Prop}:ke P ([i]::l) pre H N=(100000≤i∧cb pre i=none∧ke P l ((i,0)::pre) H N):=(rfl)
theorem zhd {i:Nat}:cb [] i=none:=(rfl)
theorem zhe {i r:Nat} {l:List (Nat × Nat)}:cb ((i,r)::l) i=some r:=by simp [cb]
theorem zhf {i j r:Nat} {l:List (Nat × Nat)} (h:j≠i):cb ((j,r)::l) i=cb l i:=by simp [cb,h]
theorem zhm {t:TypeId}:fS P t=(ti P t).elim [] fun i=>i.zero.cells:=(rfl)
@[congr] theorem xX {l l':List (List Nat)} {pre:List (Nat × Nat)} {N:List (Nat × Nat)→AHeap→Prop} (h:l=l'):ke P l pre H N=ke P l' pre H N:=by rw [h]
theorem zag {a b:Code}:aw P Ω (.seq a b) (KI P Ω B k) fr H=aw P Ω a (KI P Ω B (.code b::k)) fr H:=(rfl)
theorem zah {id:Nat} {c:Code}:aw P Ω (.block id c) (KI P Ω B k) fr H=aw P Ω c (KI P Ω B (.blk id::k)) fr H:=(rfl)
theorem zai {K:Conts} {id:Nat}:aw P Ω (.exit id) K fr H=K.x id fr H:=(rfl)
theorem zab {K:Conts} {l:Nat}:aw P Ω (.label l) K fr H=K.n fr H:=(rfl)
theorem zaj {K:Conts}:aw P Ω .ret K fr H=K.r fr H:=(rfl)
theorem zak {c:Code}:(KI P Ω B (.code c::k)).n fr H=aw P Ω c (KI P Ω B k) fr H:=(rfl)
theorem zal {id:Nat}:(KI P Ω B (.blk id::k)).n fr H=(KI P Ω B k).n fr H:=(rfl)
theorem zam {R:Fr→AHeap→Prop}:(KI P Ω B (.back R::k)).n fr H=R fr H:=(rfl)
theorem zan:(KI P Ω B []).n fr H=B.n fr H:=(rfl)
theorem zao {id:Nat}:(KI P Ω B (.blk id::k)).x id fr H=(KI P Ω B k).n fr H:=by simp [KI]
theorem zap {id i:Nat} (h:i≠id):(KI P Ω B (.blk id::k)).x i fr H=(KI P Ω B k).x i fr H:=by simp [KI,h]
theorem zaq {c:Code} {i:Nat}:(KI P Ω B (.code c::k)).x i fr H=(KI P Ω B k).x i fr H:=(rfl)
theorem zar {R:Fr→AHeap→Prop} {i:Nat}:(KI P Ω B (.back R::k)).x i fr H=(KI P Ω B k).x i fr H:=(rfl)
theorem y7:(KI P Ω B k).r=B.r:=by
 induction k with
 |nil=>rfl
 |cons x k ih=>cases x<;>exact ih
theorem yY:(KI P Ω B k).T=B.T:=by
 induction k with
 |nil=>rfl
 |cons a k ih=>cases a<;>exact ih
theorem zad {P:Program} {Ω:Tbl} {k:List KItem} {fr:Fr} {H:AHeap} {rs:List ResultVar} {n0:Nat} {e:AEnd} {H1:AHeap} {id:Nat} {l:List Oper}:aw P Ω (.region id l.toArray false) (KI P Ω (kY P rs n0 e H1 (ax [])) k) fr H=aD P Ω l.toArray l (KI P Ω (kY P rs n0 e H1 (ax [])) k).n (KI P Ω (kY P rs n0 e H1 (ax [])) k).p fr H:=by
 rw [zae,yY];rfl
theorem zb:(KI P Ω B k).r fr H=B.r fr H:=by rw [y7]
theorem yP:(KI P Ω B k).p=B.p:=by
 induction k with
 |nil=>rfl
 |cons x k ih=>cases x<;>exact ih
theorem zg {v:AV}:(KI P Ω B k).p fr v H=B.p fr v H:=by rw [yP]
/-! ### Conditions -/
def jN (P:Program) (Ω:Tbl) (v:AV) (a b:Code) (K:Conts) (fr:Fr) (H:AHeap):Prop :=
 match v with
 |.bool t=>(t=true→aw P Ω a K fr H)∧(t=false→aw P Ω b K fr H)
 |_=>False
theorem zas {K:Conts} {c:Operand} {a b:Code}:aw P Ω (.cond c a b) K fr H=jN P Ω (ev fr c) a b K fr H:=(rfl)
theorem zat {K:Conts} {a b:Code}:jN P Ω (.bool true) a b K fr H=aw P Ω a K fr H:=by simp [jN]
theorem zau {K:Conts} {a b:Code}:jN P Ω (.bool false) a b K fr H=aw P Ω b K fr H:=by simp [jN]
/-- gW ways, for a test that is not decided -/
def gW (t:Bool) (A B:Prop):Prop:=(t=true→A)∧(t=false→B)
theorem al {K:Conts} {t:Bool} {a b:Code} (h1:t=true→aw P Ω a K fr H) (h2:t=false→aw P Ω b K fr H):jN P Ω (.bool t) a b K fr H:=⟨h1,h2⟩
@[congr] theorem xt {v v':AV} {K:Conts} {a b:Code} (h:v=v'):jN P Ω v a b K fr H=jN P Ω v' a b K fr H:=by rw [h]
/-! ### Operations -/
def bA (P:Program) (Ω:Tbl) (r:Option R) (d:Option Tmp) (ops:Array Oper) (rest:List Oper) (K:Fr→AHeap→Prop) (Kp:Fr→AV→AHeap→Prop) (fr:Fr):Prop :=
 match r with
 |some r=>r.c∧aD P Ω ops rest K Kp (fr.put d r.v) r.H
 |none=>False
@[congr] theorem xw {r r':Option R} {d:Option Tmp} {ops:Array Oper} {rest:List Oper} {K:Fr→AHeap→Prop} {Kp:Fr→AV→AHeap→Prop}
 (h:r=r'):bA P Ω r d ops rest K Kp fr=bA P Ω r' d ops rest K Kp fr:=by rw [h]
section
variable {d:Option Tmp} {i:Tmp} {ops:Array Oper} {rest:List Oper} {K:Fr→AHeap→Prop} {Kp:Fr→AV→AHeap→Prop} {c:Prop} {v:AV}
theorem zfv:bA P Ω (some ⟨True,v,H⟩) (some i) ops rest K Kp fr=aD P Ω ops rest K Kp ((i,v)::fr) H:=by simp [bA,Fr.put]
theorem zfw:bA P Ω (some ⟨c,v,H⟩) (some i) ops rest K Kp fr=(c∧aD P Ω ops rest K Kp ((i,v)::fr) H):=(rfl)
theorem zfx:bA P Ω (some ⟨True,v,H⟩) none ops rest K Kp fr=aD P Ω ops rest K Kp fr H:=by simp [bA,Fr.put]
theorem zfy:bA P Ω (some ⟨c,v,H⟩) none ops rest K Kp fr=(c∧aD P Ω ops rest K Kp fr H):=(rfl)
theorem zaw:aD P Ω ops [] K Kp fr H=K fr H:=(rfl)
variable {t s u:TypeId} {pos:String} {aft:Array Edge} {x y z:Operand} {j n:Nat} {b:Bool}
theorem zax:aD P Ω ops ((Oper.mk d (.move x) t pos aft none)::rest) K Kp fr H=bA P Ω (some ⟨True,ev fr x,H⟩) d ops rest K Kp fr:=(rfl)
theorem zay:aD P Ω ops ((Oper.mk d (.assign x) t pos aft none)::rest) K Kp fr H=bA P Ω (zin P t x (ev fr x) H) d ops rest K Kp fr:=(rfl)
theorem zaz:aD P Ω ops ((Oper.mk d (.pick x y z) t pos aft none)::rest) K Kp fr H=bA P Ω (ziv (ev fr x) (ev fr y) (ev fr z) H) d ops rest K Kp fr:=(rfl)
theorem zba:aD P Ω ops ((Oper.mk d (.alloc s) t pos aft none)::rest) K Kp fr H=bA P Ω (ziw P s H) d ops rest K Kp fr:=(rfl)
theorem zbb:aD P Ω ops ((Oper.mk d (.box s x) t pos aft none)::rest) K Kp fr H=bA P Ω (si (ev fr x) H) d ops rest K Kp fr:=(rfl)
theorem zbc {ps:List (Nat × Operand)}:aD P Ω ops ((Oper.mk d (.build s ps.toArray) t pos aft none)::rest) K Kp fr H=bA P Ω (zix P s (ps.map fun p=>(p.1,ev fr p.2)) H) d ops rest K Kp fr:=(rfl)
theorem zbd {ps:List (Nat × Operand)}:aD P Ω ops ((Oper.mk d (.buildSlice s n ps.toArray) t pos aft none)::rest) K Kp fr H=bA P Ω (ziy P s n (ps.map fun p=>(p.1,ev fr p.2)) H) d ops rest K Kp fr:=(rfl)
theorem zbe:aD P Ω ops ((Oper.mk d (.load s x) t pos aft none)::rest) K Kp fr H=bA P Ω (zja P s (ev fr x) H) d ops rest K Kp fr:=(rfl)
theorem zbf:aD P Ω ops ((Oper.mk d (.store s x y) t pos aft none)::rest) K Kp fr H=bA P Ω (zjc P s (ev fr x) (ev fr y) H) d ops rest K Kp fr:=(rfl)
theorem zbg:aD P Ω ops ((Oper.mk d (.nilCheck x) t pos aft none)::rest) K Kp fr H=bA P Ω (zjd (ev fr x) H) d ops rest K Kp fr:=(rfl)
theorem eM {op:BinOp} (h:od y=false):aD P Ω ops ((Oper.mk d (.binOp op s x y u) t pos aft none)::rest) K Kp fr H=bA P Ω (iV P op s (ev fr x) (ev fr y) H) d ops rest K Kp fr:=by
 unfold aD jD
 simp only [ek,gF,h,Bool.false_eq_true,if_false]
 rfl
theorem zbp {op:BinOp}:aD P Ω ops ((Oper.mk d (.binOp op s x (.const (.slice none 0 0)) u) t pos aft none)::rest) K Kp fr H=mA ((ti P s).map TI.desc) op (ev fr x) (fun b=>aD P Ω ops rest K Kp (fr.put d (.bool b)) H):=(rfl)
theorem zbh {op:BinOp} {i:Nat}:aD P Ω ops ((Oper.mk d (.binOp op s x (.tmp i) u) t pos aft none)::rest) K Kp fr H=bA P Ω (iV P op s (ev fr x) (ev fr (.tmp i)) H) d ops rest K Kp fr:=eM rfl
theorem zbi {op:BinOp} {k:IntKind} {z:Int}:aD P Ω ops ((Oper.mk d (.binOp op s x (.const (.int k z)) u) t pos aft none)::rest) K Kp fr H=bA P Ω (iV P op s (ev fr x) (ev fr (.const (.int k z))) H) d ops rest K Kp fr:=eM rfl
theorem zbj {op:BinOp} {t1:Bool}:aD P Ω ops ((Oper.mk d (.binOp op s x (.const (.bool t1)) u) t pos aft none)::rest) K Kp fr H=bA P Ω (iV P op s (ev fr x) (ev fr (.const (.bool t1))) H) d ops rest K Kp fr:=eM rfl
theorem zbk {op:BinOp} {t1:ByteArray}:aD P Ω ops ((Oper.mk d (.binOp op s x (.const (.string t1)) u) t pos aft none)::rest) K Kp fr H=bA P Ω (iV P op s (ev fr x) (ev fr (.const (.string t1))) H) d ops rest K Kp fr:=eM rfl
theorem zbl {op:BinOp} {t1:Option Addr}:aD P Ω ops ((Oper.mk d (.binOp op s x (.const (.pointer t1)) u) t pos aft none)::rest) K Kp fr H=bA P Ω (iV P op s (ev fr x) (ev fr (.const (.pointer t1))) H) d ops rest K Kp fr:=eM rfl
theorem zbm {op:BinOp}  : aD P Ω ops ((Oper.mk d (.binOp op s x (.const .nilIface) u) t pos aft none)::rest) K Kp fr H=bA P Ω (iV P op s (ev fr x) (ev fr (.const .nilIface)) H) d ops rest K Kp fr:=eM rfl
theorem zbn {op:BinOp}  : aD P Ω ops ((Oper.mk d (.binOp op s x (.const .nilFunc) u) t pos aft none)::rest) K Kp fr H=bA P Ω (iV P op s (ev fr x) (ev fr (.const .nilFunc)) H) d ops rest K Kp fr:=eM rfl
theorem zbo {op:BinOp} {t1:Option Nat}:aD P Ω ops ((Oper.mk d (.binOp op s x (.const (.map t1)) u) t pos aft none)::rest) K Kp fr H=bA P Ω (iV P op s (ev fr x) (ev fr (.const (.map t1))) H) d ops rest K Kp fr:=eM rfl
@[congr] theorem ye {td td':Option TD} {op:BinOp} {x x':AV} {L:Bool→Prop} (h1:td=td') (h2:x=x'):mA td op x L=mA td' op x' L:=by rw [h1,h2]
theorem zbq {e:TypeId} {m:Mark} {sz:Nat} {xs:List AV} {L:Bool→Prop}:mA (some (.slice e)) .eql (.slice m sz xs) L=∀ b,(xs≠[]→b=false)→L b:=(rfl)
theorem zbr {e:TypeId} {m:Mark} {sz:Nat} {xs:List AV} {L:Bool→Prop}:mA (some (.slice e)) .neq (.slice m sz xs) L=∀ b,(xs≠[]→b=true)→L b:=(rfl)
theorem zbs {e:TypeId} {a c m n:Nat} {L:Bool→Prop}:mA (some (.slice e)) .eql (.ms a c m n) L=∀ b,L b:=(rfl)
theorem zbt {e:TypeId} {a c m n:Nat} {L:Bool→Prop}:mA (some (.slice e)) .neq (.ms a c m n) L=∀ b,L b:=(rfl)
theorem zbu {op:UnOp}:aD P Ω ops ((Oper.mk d (.unOp op s x) t pos aft none)::rest) K Kp fr H=bA P Ω (rUn op (ev fr x) H) d ops rest K Kp fr:=(rfl)
theorem zbv:aD P Ω ops ((Oper.mk d (.convert s u x) t pos aft none)::rest) K Kp fr H=bA P Ω (zji P s u (ev fr x) H) d ops rest K Kp fr:=(rfl)
theorem zbw:aD P Ω ops ((Oper.mk d (.makeInterface s x) t pos aft none)::rest) K Kp fr H=bA P Ω (zjj P s (ev fr x) H) d ops rest K Kp fr:=(rfl)
theorem zbx {f:Fn} {as bs:List Operand}:aD P Ω ops ((Oper.mk d (.makeFunc f as.toArray bs.toArray) t pos aft none)::rest) K Kp fr H=bA P Ω (some ⟨True,.func f (as.map (ev fr)) (bs.map (ev fr)),H⟩) d ops rest K Kp fr:=(rfl)
theorem zbz {mz:Option Operand}:aD P Ω ops ((Oper.mk d (.makeMap s mz) t pos aft none)::rest) K Kp fr H=bA P Ω (ziq P s (mz.map (ev fr)) H) d ops rest K Kp fr:=(rfl)
theorem zca {b:Bool}:aD P Ω ops ((Oper.mk d (.lookup s x y b) t pos aft none)::rest) K Kp fr H=bA P Ω (zir P s (ev fr x) (ev fr y) b H) d ops rest K Kp fr:=(rfl)
theorem zcb:aD P Ω ops ((Oper.mk d (.mapUpdate s x y z) t pos aft none)::rest) K Kp fr H=bA P Ω (zis P s (ev fr x) (ev fr y) (ev fr z) H) d ops rest K Kp fr:=(rfl)
theorem zby:aD P Ω ops ((Oper.mk d (.makeSlice s x y) t pos aft none)::rest) K Kp fr H=bA P Ω (zip P s (ev fr x) (ev fr y) H) d ops rest K Kp fr:=(rfl)
theorem zcc {lo hi mx:Option Operand}:aD P Ω ops ((Oper.mk d (.slice s x lo hi mx) t pos aft none)::rest) K Kp fr H=bA P Ω (ziu P s (ev fr x) (lo.map (ev fr)) (hi.map (ev fr)) (mx.map (ev fr)) H) d ops rest K Kp fr:=(rfl)
theorem zcd:aD P Ω ops ((Oper.mk d (.fieldAddr s x n) t pos aft none)::rest) K Kp fr H=bA P Ω (zje P s (ev fr x) n H) d ops rest K Kp fr:=(rfl)
theorem zce:aD P Ω ops ((Oper.mk d (.field s x n) t pos aft none)::rest) K Kp fr H=bA P Ω (zjf P s (ev fr x) n H) d ops rest K Kp fr:=(rfl)
theorem zcf:aD P Ω ops ((Oper.mk d (.indexAddr s x y) t pos aft none)::rest) K Kp fr H=bA P Ω (zjg P s (ev fr x) (ev fr y) H) d ops rest K Kp fr:=(rfl)
theorem zcg:aD P Ω ops ((Oper.mk d (.index s x y) t pos aft none)::rest) K Kp fr H=bA P Ω (zjh P s (ev fr x) (ev fr y) H) d ops rest K Kp fr:=(rfl)
theorem zch:aD P Ω ops ((Oper.mk d (.typeAssert x s u b) t pos aft none)::rest) K Kp fr H=bA P Ω (fB P (ev fr x) u b H) d ops rest K Kp fr:=(rfl)
theorem zci:aD P Ω ops ((Oper.mk d (.extract x n) t pos aft none)::rest) K Kp fr H=bA P Ω (zjk (ev fr x) n H) d ops rest K Kp fr:=(rfl)
theorem zcj {bi:Builtin} {as:List Operand} {ts:List TypeId} (h:bi≠.panic):aD P Ω ops ((Oper.mk d (.call ⟨.builtin bi,as.toArray,ts.toArray⟩) t pos aft none)::rest) K Kp fr H=bA P Ω (zio P bi ts (as.map (ev fr)) H) d ops rest K Kp fr:=by
 cases bi<;>first|rfl|exact absurd rfl h
theorem zfm {i:Nat} {v:AV}:Fr.put fr (some i) v=(i,v)::fr:=(rfl)
theorem zfn {v:AV}:Fr.put fr none v=fr:=(rfl)
/-! ### Guards -/
def gZ:List Oper→Nat→Option Nat
 |[],_=>none
 |o::l,j=>if j=0 then o.dst else gZ l (j - 1)
theorem iS {l:List Oper} {j:Nat}:dO l.toArray j=gZ l j:=by
 unfold dO
 rw [List.getElem?_toArray]
 induction l generalizing j with
 |nil=>rfl
 |cons o l ih =>
  unfold gZ
  cases j with
  |zero=>rfl
  |succ j=>rw [if_neg (by omega),Nat.add_sub_cancel,← ih];rfl
@[congr] theorem yk {l:List Oper} {j j':Nat} (h:j=j'):gZ l j=gZ l j':=by rw [h]
theorem zfk {o:Op} {d:Option Tmp} {t:TypeId} {pos:String} {aft:Array Edge} {g:Option (Nat × Bool)} {l:List Oper}:gZ (Oper.mk d o t pos aft g::l) 0=d:=(rfl)
theorem zfl {o:Oper} {l:List Oper} {j:Nat} (h:j≠0):gZ (o::l) j=gZ l (j - 1):=by simp [gZ,h]
/-- an operation behind its guard -/
def gK (P:Program) (Ω:Tbl) (g:Option Nat) (want:Bool) (o:Oper) (ops:Array Oper) (rest:List Oper) (K:Fr→AHeap→Prop) (Kp:Fr→AV→AHeap→Prop) (fr:Fr) (H:AHeap):Prop :=
 match g with
 |some i=>gK2 (Fr.get fr i) i
 |none=>False
where
 gK2 (v:AV) (i:Nat):Prop :=
 match v with
 |.bool b=>(b=want→aD P Ω ops (o::rest) K Kp ((i,.bool want)::fr) H)∧(b=(!want)→aD P Ω ops rest K Kp (Fr.put ((i,.bool (!want))::fr) o.dst (.tup [])) H)
 |.tup []=>aD P Ω ops rest K Kp (fr.put o.dst (.tup [])) H
 |_=>False
section
variable {g:Option Nat} {want:Bool} {o:Oper} {ops:Array Oper} {rest l:List Oper} {K:Fr→AHeap→Prop} {Kp:Fr→AV→AHeap→Prop} {i j:Nat} {v:AV}
theorem zcl {op:Op} {d:Option Tmp} {t:TypeId} {pos:String} {aft:Array Edge}:aD P Ω l.toArray (Oper.mk d op t pos aft (some (j,want))::rest) K Kp fr H =
 gK P Ω (gZ l j) want (Oper.mk d op t pos aft none) l.toArray rest K Kp fr H:=by
 unfold aD gK
 simp only [kK]
 have e:(l.toArray[j]?).bind (·.dst)=gZ l j:=iS
 have e2:dO l.toArray j=gZ l j:=iS
 rw [e,e2]
 cases gZ l j with
 |none=>rfl
 |some i =>
  simp only [gK.gK2]
  cases Fr.get fr i
  case tup vs=>cases vs<;>rfl
  all_goals rfl
theorem zfo:gK P Ω (some i) want o ops rest K Kp fr H=gK.gK2 P Ω want o ops rest K Kp fr H (Fr.get fr i) i:=(rfl)
@[congr] theorem yJ {g':Option Nat} (h:g=g'):gK P Ω g want o ops rest K Kp fr H=gK P Ω g' want o ops rest K Kp fr H:=by rw [h]
@[congr] theorem yw {v':AV} (h:v=v'):gK.gK2 P Ω want o ops rest K Kp fr H v i=gK.gK2 P Ω want o ops rest K Kp fr H v' i:=by rw [h]
theorem zfu {op:Op} {d:Option Tmp} {t:TypeId} {pos:String} {aft:Array Edge}:gK.gK2 P Ω want (Oper.mk d op t pos aft none) ops rest K Kp fr H (.bool want) i=aD P Ω ops (Oper.mk d op t pos aft none::rest) K Kp ((i,.bool want)::fr) H:=by
 simp [gK.gK2]
theorem zfp {op:Op} {d:Tmp} {t:TypeId} {pos:String} {aft:Array Edge} {b:Bool}:gK.gK2 P Ω false (Oper.mk (some d) op t pos aft none) ops rest K Kp fr H (.bool b) i =
 gW b (aD P Ω ops rest K Kp ((d,.tup [])::(i,.bool true)::fr) H) (aD P Ω ops (Oper.mk (some d) op t pos aft none::rest) K Kp ((i,.bool false)::fr) H):=by
 unfold gW gK.gK2;cases b<;>simp [Fr.put]
theorem zfq {op:Op} {d:Tmp} {t:TypeId} {pos:String} {aft:Array Edge} {b:Bool}:gK.gK2 P Ω true (Oper.mk (some d) op t pos aft none) ops rest K Kp fr H (.bool b) i =
 gW b (aD P Ω ops (Oper.mk (some d) op t pos aft none::rest) K Kp ((i,.bool true)::fr) H) (aD P Ω ops rest K Kp ((d,.tup [])::(i,.bool false)::fr) H):=by
 unfold gW gK.gK2;cases b<;>simp [Fr.put]
theorem zfr {op:Op} {d:Tmp} {t:TypeId} {pos:String} {aft:Array Edge}:gK.gK2 P Ω want (Oper.mk (some d) op t pos aft none) ops rest K Kp fr H (.tup []) i=aD P Ω ops rest K Kp ((d,.tup [])::fr) H:=(rfl)
theorem zfs {A B:Prop}:gW true A B=A:=by simp [gW]
theorem zft {A B:Prop}:gW false A B=B:=by simp [gW]
theorem bR {t:Bool} {A B:Prop} (h1:t=true→A) (h2:t=false→B):gW t A B:=⟨h1,h2⟩
end
/-! ### Calls -/
/-- a continuation that simp leaves alone till it is used: the mark's type names it -/
structure Held {α:Type} (F:α) where
def co (F:AEnd→AHeap→Prop) (h:Held F):AEnd→AHeap→Prop:=F
def cl (F:AV→Prop) (h:Held F):AV→Prop:=F
def gB (F:AV→AHeap→Prop) (h:Held F):AV→AHeap→Prop:=F
theorem zoh {F:AV→AHeap→Prop} {h:Held F} {v:AV} {H:AHeap}:gB F h v H=F v H:=(rfl)
theorem zof {F:AEnd→AHeap→Prop} {h:Held F} {x:AEnd} {H:AHeap}:co F h x H=F x H:=(rfl)
theorem zog {F:AV→Prop} {h:Held F} {v:AV}:cl F h v=F v:=(rfl)
def gU (P:Program) (Ω Ω':Tbl) (f:AV) (args:List AV) (H:AHeap) (d:Option Tmp) (ops:Array Oper) (rest:List Oper) (K:Fr→AHeap→Prop) (Kp:Fr→AV→AHeap→Prop) (fr:Fr):Prop :=
 match f with
 |.func (.func k) first cap=>kF Ω' k (first++args++cap) H (fun v H'=>aD P Ω ops rest K Kp (fr.put d v) H') (Kp fr)
 |_=>False
@[congr] theorem xu {Ω':Tbl} {f f':AV} {args args':List AV} (h1:f=f') (h2:args=args') :
 gU P Ω Ω' f args H d ops rest K Kp fr=gU P Ω Ω' f' args' H d ops rest K Kp fr:=by rw [h1,h2]
theorem zck {as:List Operand} {ts:Array TypeId}:aD P Ω ops ((Oper.mk d (.call ⟨.value x,as.toArray,ts⟩) t pos aft none)::rest) K Kp fr H=gU P Ω Ω (ev fr x) (as.map (ev fr)) H d ops rest K Kp fr:=(rfl)
theorem zoi {Ω':Tbl} {f:FuncId} {p:List AV→AHeap→(AV→Prop)→Prop} {args first cap:List AV} :
 gU P Ω ((f,Ent.pure p)::Ω') (.func (.func f) first cap) args H d ops rest K Kp fr=p (first++args++cap) H (cl (fun v=>aD P Ω ops rest K Kp (fr.put d v) H) ⟨⟩):=by
 simp [gU,kF,jn,Ent.pure,cl]
theorem zoj {Ω':Tbl} {f:FuncId} {p:List AV→AHeap→(AEnd→AHeap→Prop)→Prop} {args first cap:List AV} :
 gU P Ω ((f,Ent.effect p)::Ω') (.func (.func f) first cap) args H d ops rest K Kp fr=p (first++args++cap) H (co (fun x H'=>match x with|.ret v=>aD P Ω ops rest K Kp (fr.put d v) H'|.panic v=>Kp fr v H') ⟨⟩):=by
 simp [gU,kF,jn,Ent.effect,co]
 rfl
theorem zok {Ω':Tbl} {f:FuncId} {p:List AV→AHeap→(AV→AHeap→Prop)→Prop} {args first cap:List AV} :
 gU P Ω ((f,Ent.some p)::Ω') (.func (.func f) first cap) args H d ops rest K Kp fr=p (first++args++cap) H (gB (fun v H'=>aD P Ω ops rest K Kp (fr.put d v) H') ⟨⟩):=by
 simp [gU,kF,jn,Ent.some,gB]
theorem zol {Ω':Tbl} {f g:FuncId} {e:Ent} {args first cap:List AV} (h:g≠f) :
 gU P Ω ((g,e)::Ω') (.func (.func f) first cap) args H d ops rest K Kp fr=gU P Ω Ω' (.func (.func f) first cap) args H d ops rest K Kp fr:=by
 simp [gU,kF,jn,h]
end
/-! ### Regions that draw their order -/
def dI (P:Program) (Ω:Tbl) (r:Option R) (d:Option Tmp) (ops:Array Oper) (rest:List Oper) (hs:HS) (ps:List (Nat × (AHeap→Prop))) (K:Fr→AHeap→Prop) (fr:Fr) (H:AHeap):Prop :=
 match r with
 |none=>False
 |some r=>r.c∧awD P Ω ops rest hs.nx ps K (fr.put d r.v) H
def dR (P:Program) (Ω:Tbl) (o:Oper) (r:Option R) (ops:Array Oper) (rest:List Oper) (hs:HS) (ps:List (Nat × (AHeap→Prop))) (K:Fr→AHeap→Prop) (fr:Fr) (H:AHeap):Prop :=
 match r with
 |none=>False
 |some r=>r.c∧mb hs (gh P o fr r.v)∧awD P Ω ops rest hs.nx ((hs.i,gh P o fr r.v)::ps) K (fr.put o.dst r.v) H
def dE (P:Program) (Ω:Tbl) (r:Option R) (d:Option Tmp) (ops:Array Oper) (rest:List Oper) (hs:HS) (ps:List (Nat × (AHeap→Prop))) (K:Fr→AHeap→Prop) (fr:Fr) (H:AHeap):Prop :=
 match r with
 |none=>False
 |some r=>r.c∧iW hs r.H ps∧awD P Ω ops rest (hs.push H) ps K (fr.put d r.v) r.H
def dC (P:Program) (Ω:Tbl) (td:Option TD) (r:Option R) (d:Option Tmp) (ops:Array Oper) (rest:List Oper) (hs:HS) (ps:List (Nat × (AHeap→Prop))) (K:Fr→AHeap→Prop) (fr:Fr) (H:AHeap):Prop :=
 match td with
 |some (.slice _)=>dE P Ω r d ops rest hs ps K fr H
 |_=>dI P Ω r d ops rest hs ps K fr H
def dS (P:Program) (Ω:Tbl) (td:Option TD) (o:Oper) (r:Option R) (ops:Array Oper) (rest:List Oper) (hs:HS) (ps:List (Nat × (AHeap→Prop))) (K:Fr→AHeap→Prop) (fr:Fr) (H:AHeap):Prop :=
 match td with
 |some (.array _ _)=>dR P Ω o r ops rest hs ps K fr H
 |_=>dI P Ω r o.dst ops rest hs ps K fr H
section
variable {d:Option Tmp} {o:Oper} {ops:Array Oper} {rest l:List Oper} {hs:HS} {ps:List (Nat × (AHeap→Prop))} {K:Fr→AHeap→Prop} {c:Prop} {v:AV} {r r':Option R} {G:AHeap}
@[congr] theorem yE (h:r=r'):dI P Ω r d ops rest hs ps K fr H=dI P Ω r' d ops rest hs ps K fr H:=by rw [h]
@[congr] theorem yO (h:r=r'):dR P Ω o r ops rest hs ps K fr H=dR P Ω o r' ops rest hs ps K fr H:=by rw [h]
@[congr] theorem yD (h:r=r'):dE P Ω r d ops rest hs ps K fr H=dE P Ω r' d ops rest hs ps K fr H:=by rw [h]
@[congr] theorem yI {td td':Option TD} (h:td=td'):dC P Ω td r d ops rest hs ps K fr H=dC P Ω td' r d ops rest hs ps K fr H:=by rw [h]
theorem zdv:dI P Ω (some ⟨c,v,G⟩) d ops rest hs ps K fr H=(c∧awD P Ω ops rest hs.nx ps K (fr.put d v) H):=(rfl)
theorem zdw:dR P Ω o (some ⟨c,v,G⟩) ops rest hs ps K fr H=(c∧mb hs (gh P o fr v)∧awD P Ω ops rest hs.nx ((hs.i,gh P o fr v)::ps) K (fr.put o.dst v) H):=(rfl)
theorem zdx:dE P Ω (some ⟨c,v,G⟩) d ops rest hs ps K fr H=(c∧iW hs G ps∧awD P Ω ops rest (hs.push H) ps K (fr.put d v) G):=(rfl)
@[congr] theorem yX {td td':Option TD} (h:td=td'):dS P Ω td o r ops rest hs ps K fr H=dS P Ω td' o r ops rest hs ps K fr H:=by rw [h]
theorem zfa {e:TypeId}:dS P Ω (some (.slice e)) o r ops rest hs ps K fr H=dI P Ω r o.dst ops rest hs ps K fr H:=(rfl)
theorem zfb:dS P Ω (some .string) o r ops rest hs ps K fr H=dI P Ω r o.dst ops rest hs ps K fr H:=(rfl)
theorem zfc {n:Nat} {e:TypeId}:dS P Ω (some (.array n e)) o r ops rest hs ps K fr H=dR P Ω o r ops rest hs ps K fr H:=(rfl)
theorem zdy {e:TypeId}:dC P Ω (some (.slice e)) r d ops rest hs ps K fr H=dE P Ω r d ops rest hs ps K fr H:=(rfl)
theorem zdz:dC P Ω (some .string) r d ops rest hs ps K fr H=dI P Ω r d ops rest hs ps K fr H:=(rfl)
theorem zea {k:IntKind}:dC P Ω (some (.int k)) r d ops rest hs ps K fr H=dI P Ω r d ops rest hs ps K fr H:=(rfl)
theorem zdu:awD P Ω ops [] hs ps K fr H=K fr H:=(rfl)
theorem zeg {c:AHeap→Prop}:mb hs c=nv (hs.ms.headD []) c hs.hs:=(rfl)
theorem zeh:iW hs H ps=nL (hs.ms.headD []) H ps:=(rfl)
theorem zei {m:List Nat} {c:AHeap→Prop}:nv m c []=True:=(rfl)
theorem zej {m:List Nat} {j:Nat} {c:AHeap→Prop} {h:AHeap} {l:List (Nat × AHeap)}:nv m c ((j,h)::l)=(skip m j (c h)∧nv m c l):=(rfl)
theorem zek {m:List Nat}:nL m H []=True:=(rfl)
theorem zel {m:List Nat} {j:Nat} {c:AHeap→Prop}:nL m H ((j,c)::ps)=(skip m j (c H)∧nL m H ps):=(rfl)
theorem zem {a:List (List Nat)} {i:Nat} {b:List (Nat × AHeap)} {p:List (Nat × Nat)} {q:List Nat}:(HS.mk a i b p q).ms=a:=(rfl)
theorem zm {a:List (List Nat)} {i:Nat} {b:List (Nat × AHeap)} {p:List (Nat × Nat)} {q:List Nat}:(HS.mk a i b p q).i=i:=(rfl)
theorem zen {a:List (List Nat)} {i:Nat} {b:List (Nat × AHeap)} {p:List (Nat × Nat)} {q:List Nat}:(HS.mk a i b p q).hs=b:=(rfl)
theorem zhn {a:List (List Nat)} {i:Nat} {b:List (Nat × AHeap)} {p:List (Nat × Nat)} {q:List Nat}:(HS.mk a i b p q).lit=q:=(rfl)
theorem zhq {i:Nat}:cn [] i=false:=(rfl)
theorem zhr {i:Nat} {l:List Nat}:cn (i::l) i=true:=by simp [cn]
theorem zhs {i j:Nat} {l:List Nat} (h:j≠i):cn (j::l) i=cn l i:=by simp [cn,h]
theorem zho:(HS.nx hs).lit=hs.lit:=(rfl)
theorem zhp:(HS.push hs H).lit=hs.lit:=(rfl)
theorem zhg {a:List (List Nat)} {i:Nat} {b:List (Nat × AHeap)} {p:List (Nat × Nat)} {q:List Nat}:(HS.mk a i b p q).pre=p:=(rfl)
theorem zhh:(HS.nx hs).pre=hs.pre:=(rfl)
theorem zhi:(HS.push hs H).pre=hs.pre:=(rfl)
theorem zeo:(HS.nx hs).ms=hs.ms.tail:=(rfl)
theorem y9:(HS.nx hs).i=hs.i+1:=(rfl)
theorem zep:(HS.nx hs).hs=hs.hs:=(rfl)
theorem zeq:(HS.push hs H).ms=hs.ms.tail:=(rfl)
theorem zer:(HS.push hs H).i=hs.i+1:=(rfl)
theorem zes:(HS.push hs H).hs=(hs.i,H)::hs.hs:=(rfl)
@[congr] theorem yl {m m':List Nat} {j j':Nat} {c:Prop} (h1:m=m') (h2:j=j'):skip m j c=skip m' j' c:=by rw [h1,h2]
theorem zet {j:Nat} {c:Prop}:skip [] j c=c:=by simp [skip]
theorem zeu {j:Nat} {m:List Nat} {c:Prop}:skip (j::m) j c=True:=by simp [skip]
theorem zev {i j:Nat} {m:List Nat} {c:Prop} (h:i≠j):skip (i::m) j c=skip m j c:=by simp [skip,Ne.symm h]
def sE (r:Option R) (v:AV):Prop:=match r with|some r=>r.c∧r.v=v|none=>False
@[congr] theorem yt (h:r=r'):sE r v=sE r' v:=by rw [h]
theorem zew {v':AV}:sE (some ⟨c,v',G⟩) v=(c∧v'=v):=(rfl)
variable {t s u:TypeId} {pos:String} {aft:Array Edge} {x y z:Operand} {j n:Nat} {b:Bool}
theorem zex {g:Option (Nat × Bool)}:gh P (Oper.mk d (.load s x) t pos aft g) fr v G=sE (zja P s (ev fr x) G) v:=(rfl)
theorem zcm  : awD P Ω ops (Oper.mk d (.move x) t pos aft none::rest) hs ps K fr H=dI P Ω (some ⟨True,ev fr x,H⟩) d ops rest hs ps K fr H:=(rfl)
theorem zcn {i:Nat}:awD P Ω ops (Oper.mk d (.assign (.tmp i)) t pos aft none::rest) hs ps K fr H=dI P Ω (zin P t (.tmp i) (ev fr (.tmp i)) H) d ops rest hs ps K fr H:=(rfl)
theorem zco {w:Value}:awD P Ω ops (Oper.mk d (.assign (.const w)) t pos aft none::rest) hs ps K fr H=dE P Ω (zin P t (.const w) (ev fr (.const w)) H) d ops rest hs ps K fr H:=(rfl)
theorem zcp  : awD P Ω ops (Oper.mk d (.pick x y z) t pos aft none::rest) hs ps K fr H=dI P Ω (ziv (ev fr x) (ev fr y) (ev fr z) H) d ops rest hs ps K fr H:=(rfl)
def dA (P:Program) (Ω:Tbl) (p:Option Nat) (s:TypeId) (d:Option Tmp) (ops:Array Oper) (rest:List Oper) (hs:HS) (ps:List (Nat × (AHeap→Prop))) (K:Fr→AHeap→Prop) (fr:Fr) (H:AHeap):Prop :=
 match p with
 |some r=>(ej P s r H∧(ti P s).isSome=true)∧mb hs (ej P s r)∧awD P Ω ops rest hs.nx ((hs.i,ej P s r)::ps) K (fr.put d (.ptr r 0)) H
 |none=>dE P Ω (ziw P s H) d ops rest hs ps K fr H
@[congr] theorem yM {p p':Option Nat} (h:p=p'):dA P Ω p s d ops rest hs ps K fr H=dA P Ω p' s d ops rest hs ps K fr H:=by rw [h]
theorem zhj {r:Nat}:dA P Ω (some r) s d ops rest hs ps K fr H=((ej P s r H∧(ti P s).isSome=true)∧mb hs (ej P s r)∧awD P Ω ops rest hs.nx ((hs.i,ej P s r)::ps) K (fr.put d (.ptr r 0)) H):=(rfl)
theorem zhk:dA P Ω none s d ops rest hs ps K fr H=dE P Ω (ziw P s H) d ops rest hs ps K fr H:=(rfl)
theorem zhl {t:TypeId} {r:Nat} {G:AHeap}:ej P t r G=(am G r=some (fS P t)):=(rfl)
theorem zcq  : awD P Ω ops (Oper.mk d (.alloc s) t pos aft none::rest) hs ps K fr H=dA P Ω (if hs.i<100000 then cb hs.pre hs.i else none) s d ops rest hs ps K fr H:=by
 unfold awD i5 dA gM
 dsimp only
 by_cases h:hs.i<100000
 ·rw [if_pos h,if_pos h];cases cb hs.pre hs.i<;>rfl
 ·rw [if_neg h,if_neg h];rfl
theorem zcr  : awD P Ω ops (Oper.mk d (.box s x) t pos aft none::rest) hs ps K fr H=dE P Ω (si (ev fr x) H) d ops rest hs ps K fr H:=(rfl)
theorem zcs {pz:List (Nat × Operand)}:awD P Ω ops (Oper.mk d (.build s pz.toArray) t pos aft none::rest) hs ps K fr H=dI P Ω (zix P s (pz.map fun p=>(p.1,ev fr p.2)) H) d ops rest hs ps K fr H:=(rfl)
def dL (P:Program) (Ω:Tbl) (b:Bool) (r:Option R) (d:Option Tmp) (ops:Array Oper) (rest:List Oper) (hs:HS) (ps:List (Nat × (AHeap→Prop))) (K:Fr→AHeap→Prop) (fr:Fr) (H:AHeap):Prop :=
 match b with
 |false=>dE P Ω r d ops rest hs ps K fr H
 |true=>match r with
  |some ⟨c,.slice _ sz xs,_⟩=>c∧iW hs (H.push (.cells (xs.flatMap AV.cells))) ps∧awD P Ω ops rest (hs.push H) ps K (fr.put d (.ms H.nx 0 sz xs.length)) (H.push (.cells (xs.flatMap AV.cells)))
  |_=>False
@[congr] theorem yV {b b':Bool} (h1:b=b') (h2:r=r'):dL P Ω b r d ops rest hs ps K fr H=dL P Ω b' r' d ops rest hs ps K fr H:=by rw [h1,h2]
theorem zht:dL P Ω false r d ops rest hs ps K fr H=dE P Ω r d ops rest hs ps K fr H:=(rfl)
theorem zhu {m:Mark} {sz:Nat} {xs:List AV}:dL P Ω true (some ⟨c,.slice m sz xs,G⟩) d ops rest hs ps K fr H =
 (c∧iW hs (H.push (.cells (xs.flatMap AV.cells))) ps∧awD P Ω ops rest (hs.push H) ps K (fr.put d (.ms H.nx 0 sz xs.length)) (H.push (.cells (xs.flatMap AV.cells)))):=(rfl)
def dF (P:Program) (Ω:Tbl) (q:Option Nat) (b g:Bool) (r:Option R) (d:Option Tmp) (ops:Array Oper) (rest:List Oper) (hs:HS) (ps:List (Nat × (AHeap→Prop))) (K:Fr→AHeap→Prop) (fr:Fr) (H:AHeap):Prop :=
 match q with
 |none=>dL P Ω b r d ops rest hs ps K fr H
 |some _=>match r with
  |some ⟨c,.slice _ sz xs,_⟩=>c∧awD P Ω ops rest hs.nx ps K (fr.put d (.slice (v4 g) sz xs)) H
  |some ⟨c,.ms _ 0 sz n,G⟩=>match am G H.nx with
   |some cs=>c∧awD P Ω ops rest hs.nx ps K (fr.put d (.slice .any sz (aY sz n cs))) H
   |none=>False
  |_=>False
@[congr] theorem y3 {q q':Option Nat} {b g g':Bool} (h1:q=q') (h3:g=g') (h2:r=r'):dF P Ω q b g r d ops rest hs ps K fr H=dF P Ω q' b g' r' d ops rest hs ps K fr H:=by rw [h1,h2,h3]
theorem zhw {b g:Bool}:dF P Ω none b g r d ops rest hs ps K fr H=dL P Ω b r d ops rest hs ps K fr H:=(rfl)
theorem zhx {q:Nat} {b:Bool} {m:Mark} {sz:Nat} {xs:List AV}:dF P Ω (some q) b false (some ⟨c,.slice m sz xs,G⟩) d ops rest hs ps K fr H=(c∧awD P Ω ops rest hs.nx ps K (fr.put d (.slice .any sz xs)) H):=(rfl)
theorem zhy {q:Nat} {b:Bool} {m:Mark} {sz:Nat} {xs:List AV}:dF P Ω (some q) b true (some ⟨c,.slice m sz xs,G⟩) d ops rest hs ps K fr H=(c∧awD P Ω ops rest hs.nx ps K (fr.put d (.slice .full sz xs)) H):=(rfl)
theorem zct {pz:List (Nat × Operand)}:awD P Ω ops (Oper.mk d (.buildSlice s n pz.toArray) t pos aft none::rest) hs ps K fr H=dF P Ω (cb hs.pre (hs.i+100000)) (cn hs.lit hs.i) (cn hs.lit (hs.i+300000)) (ziy P s n (pz.map fun p=>(p.1,ev fr p.2)) H) d ops rest hs ps K fr H:=by
 unfold awD i5
 simp only [gM,i0,mu]
 cases cb hs.pre (hs.i+100000) with
 |some q=>simp only [Option.isSome_some,if_true];rfl
 |none =>
  simp only [Option.isSome_none,Bool.false_eq_true,if_false,zhw]
  cases cn hs.lit hs.i with
  |false=>rfl
  |true=>simp only [if_true];rfl
theorem zcu  : awD P Ω ops (Oper.mk d (.store s x y) t pos aft none::rest) hs ps K fr H=dE P Ω (zjc P s (ev fr x) (ev fr y) H) d ops rest hs ps K fr H:=(rfl)
theorem zcv  : awD P Ω ops (Oper.mk d (.nilCheck x) t pos aft none::rest) hs ps K fr H=dI P Ω (zjd (ev fr x) H) d ops rest hs ps K fr H:=(rfl)
theorem zcw {op:BinOp}:awD P Ω ops (Oper.mk d (.binOp op s x y u) t pos aft none::rest) hs ps K fr H=dI P Ω (iV P op s (ev fr x) (ev fr y) H) d ops rest hs ps K fr H:=(rfl)
theorem zcx {op:UnOp}:awD P Ω ops (Oper.mk d (.unOp op s x) t pos aft none::rest) hs ps K fr H=dI P Ω (rUn op (ev fr x) H) d ops rest hs ps K fr H:=(rfl)
theorem zcy  : awD P Ω ops (Oper.mk d (.makeInterface s x) t pos aft none::rest) hs ps K fr H=dI P Ω (zjj P s (ev fr x) H) d ops rest hs ps K fr H:=(rfl)
theorem zcz {f:Fn} {as bs:List Operand}:awD P Ω ops (Oper.mk d (.makeFunc f as.toArray bs.toArray) t pos aft none::rest) hs ps K fr H=dI P Ω (some ⟨True,.func f (as.map (ev fr)) (bs.map (ev fr)),H⟩) d ops rest hs ps K fr H:=(rfl)
theorem zdb {mz:Option Operand}:awD P Ω ops (Oper.mk d (.makeMap s mz) t pos aft none::rest) hs ps K fr H=dE P Ω (ziq P s (mz.map (ev fr)) H) d ops rest hs ps K fr H:=(rfl)
theorem zdd:awD P Ω ops (Oper.mk d (.mapUpdate s x y z) t pos aft none::rest) hs ps K fr H=dE P Ω (zis P s (ev fr x) (ev fr y) (ev fr z) H) d ops rest hs ps K fr H:=(rfl)
theorem zdc:awD P Ω ops (Oper.mk d (.lookup s x y b) t pos aft none::rest) hs ps K fr H=dR P Ω (Oper.mk d (.lookup s x y b) t pos aft none) (zir P s (ev fr x) (ev fr y) b H) ops rest hs ps K fr H:=(rfl)
theorem zey {g:Option (Nat × Bool)}:gh P (Oper.mk d (.lookup s x y b) t pos aft g) fr v G=sE (zir P s (ev fr x) (ev fr y) b G) v:=(rfl)
def dG (P:Program) (Ω:Tbl) (q:Option Nat) (r:Option R) (d:Option Tmp) (ops:Array Oper) (rest:List Oper) (hs:HS) (ps:List (Nat × (AHeap→Prop))) (K:Fr→AHeap→Prop) (fr:Fr) (H:AHeap):Prop :=
 match q with
 |none=>dE P Ω r d ops rest hs ps K fr H
 |some _=>match r with
  |some ⟨c,.slice _ sz xs,_⟩=>c∧awD P Ω ops rest hs.nx ps K (fr.put d (.slice (v4 (cn hs.lit (hs.i+300000))) sz xs)) H
  |some ⟨c,.ms _ 0 sz n,G⟩=>match am G H.nx with
   |some cs=>c∧awD P Ω ops rest hs.nx ps K (fr.put d (.slice .any sz (aY sz n cs))) H
   |none=>False
  |_=>False
@[congr] theorem y6 {q q':Option Nat} (h1:q=q') (h2:r=r'):dG P Ω q r d ops rest hs ps K fr H=dG P Ω q' r' d ops rest hs ps K fr H:=by rw [h1,h2]
theorem zhz:dG P Ω none r d ops rest hs ps K fr H=dE P Ω r d ops rest hs ps K fr H:=(rfl)
theorem zia {q i sz n:Nat} {cs:List AV}:dG P Ω (some q) (some ⟨c,.ms i 0 sz n,H.push (.cells cs)⟩) d ops rest hs ps K fr H=(c∧awD P Ω ops rest hs.nx ps K (fr.put d (.slice .any sz (aY sz n cs))) H):=by
 show (match am (H.push (.cells cs)) H.nx with|some cs=>c∧awD P Ω ops rest hs.nx ps K (fr.put d (.slice .any sz (aY sz n cs))) H|none=>False)=_
 rw [show am (H.push (.cells cs)) H.nx=some cs by unfold am;rw [AHeap.get_push_new]]
theorem zda  : awD P Ω ops (Oper.mk d (.makeSlice s x y) t pos aft none::rest) hs ps K fr H=dG P Ω (cb hs.pre (hs.i+100000)) (zip P s (ev fr x) (ev fr y) H) d ops rest hs ps K fr H:=by
 unfold awD i5
 simp only [gM,i0,mu,qb]
 cases cb hs.pre (hs.i+100000) with
 |some q =>
  simp only [Option.isSome_some,if_true]
  unfold jH cI dG
  rfl
 |none=>simp only [Option.isSome_none,Bool.false_eq_true,if_false];rfl
theorem zde {lo hi mx:Option Operand}:awD P Ω ops (Oper.mk d (.slice s x lo hi mx) t pos aft none::rest) hs ps K fr H=dS P Ω ((ti P s).map TI.desc) (Oper.mk d (.slice s x lo hi mx) t pos aft none) (ziu P s (ev fr x) (lo.map (ev fr)) (hi.map (ev fr)) (mx.map (ev fr)) H) ops rest hs ps K fr H:=by
 unfold awD i5 dS dR dI
 simp only [gM,i0,mu,qb,ek,Bool.false_eq_true,if_false,kind,jH,cI]
 cases ziu P s (ev fr x) (lo.map (ev fr)) (hi.map (ev fr)) (mx.map (ev fr)) H with
 |none=>simp only;split<;>rfl
 |some r =>
  simp only
  cases (ti P s).map TI.desc with
  |none=>rfl
  |some td=>cases td<;>rfl
theorem zez {lo hi mx:Option Operand} {g:Option (Nat × Bool)}:gh P (Oper.mk d (.slice s x lo hi mx) t pos aft g) fr v G=sE (ziu P s (ev fr x) (lo.map (ev fr)) (hi.map (ev fr)) (mx.map (ev fr)) G) v:=(rfl)
theorem zdf  : awD P Ω ops (Oper.mk d (.fieldAddr s x n) t pos aft none::rest) hs ps K fr H=dI P Ω (zje P s (ev fr x) n H) d ops rest hs ps K fr H:=(rfl)
theorem zdg  : awD P Ω ops (Oper.mk d (.field s x n) t pos aft none::rest) hs ps K fr H=dI P Ω (zjf P s (ev fr x) n H) d ops rest hs ps K fr H:=(rfl)
theorem zdh  : awD P Ω ops (Oper.mk d (.indexAddr s x y) t pos aft none::rest) hs ps K fr H=dI P Ω (zjg P s (ev fr x) (ev fr y) H) d ops rest hs ps K fr H:=(rfl)
theorem zdi  : awD P Ω ops (Oper.mk d (.index s x y) t pos aft none::rest) hs ps K fr H=dI P Ω (zjh P s (ev fr x) (ev fr y) H) d ops rest hs ps K fr H:=(rfl)
theorem zdj  : awD P Ω ops (Oper.mk d (.typeAssert x s u b) t pos aft none::rest) hs ps K fr H=dI P Ω (fB P (ev fr x) u b H) d ops rest hs ps K fr H:=(rfl)
theorem zdk  : awD P Ω ops (Oper.mk d (.extract x n) t pos aft none::rest) hs ps K fr H=dI P Ω (zjk (ev fr x) n H) d ops rest hs ps K fr H:=(rfl)
theorem zdl {as:List Operand} {ts:List TypeId}:awD P Ω ops (Oper.mk d (.call ⟨.builtin .len,as.toArray,ts.toArray⟩) t pos aft none::rest) hs ps K fr H=dI P Ω (zio P .len ts (as.map (ev fr)) H) d ops rest hs ps K fr H:=(rfl)
theorem zdm {as:List Operand} {ts:List TypeId}:awD P Ω ops (Oper.mk d (.call ⟨.builtin .min,as.toArray,ts.toArray⟩) t pos aft none::rest) hs ps K fr H=dI P Ω (zio P .min ts (as.map (ev fr)) H) d ops rest hs ps K fr H:=(rfl)
theorem zdn {as:List Operand} {ts:List TypeId}:awD P Ω ops (Oper.mk d (.call ⟨.builtin .max,as.toArray,ts.toArray⟩) t pos aft none::rest) hs ps K fr H=dI P Ω (zio P .max ts (as.map (ev fr)) H) d ops rest hs ps K fr H:=(rfl)
def dP (P:Program) (Ω:Tbl) (b:Bool) (ts:List TypeId) (vs:List AV) (r:Option R) (d:Option Tmp) (ops:Array Oper) (rest:List Oper) (hs:HS) (ps:List (Nat × (AHeap→Prop))) (K:Fr→AHeap→Prop) (fr:Fr) (H:AHeap):Prop :=
 match b with
 |false=>dE P Ω r d ops rest hs ps K fr H
 |true=>qi P ts vs H fun v H'=>iW hs H' ps∧awD P Ω ops rest (hs.push H) ps K (fr.put d v) H'
@[congr] theorem y5 {b b':Bool} {ts:List TypeId} {vs vs':List AV} (h1:b=b') (h3:vs=vs') (h2:r=r'):dP P Ω b ts vs r d ops rest hs ps K fr H=dP P Ω b' ts vs' r' d ops rest hs ps K fr H:=by rw [h1,h2,h3]
theorem zib {ts:List TypeId} {vs:List AV}:dP P Ω false ts vs r d ops rest hs ps K fr H=dE P Ω r d ops rest hs ps K fr H:=(rfl)
def dQ (P:Program) (Ω:Tbl) (r:Option R) (d:Option Tmp) (ops:Array Oper) (rest:List Oper) (hs:HS) (ps:List (Nat × (AHeap→Prop))) (K:Fr→AHeap→Prop) (fr:Fr) (H:AHeap):Prop :=
 match r with
 |some r=>r.c∧u5 H r.v fun v H'=>iW hs H' ps∧awD P Ω ops rest (hs.push H) ps K (fr.put d v) H'
 |none=>False
@[congr] theorem yH (h2:r=r'):dQ P Ω r d ops rest hs ps K fr H=dQ P Ω r' d ops rest hs ps K fr H:=by rw [h2]
theorem zic {ts:List TypeId} {sz:Nat} {x:AV} {t t2:TypeId}:dP P Ω true (t::t2::ts) [.slice .full sz [],x] r d ops rest hs ps K fr H=dQ P Ω (zjp P t t2 sz [] x H) d ops rest hs ps K fr H:=(rfl)
theorem zid {c:Prop} {i sz:Nat} {xs:List AV} {G:AHeap}:dQ P Ω (some ⟨c,.slice (.own i) sz xs,G⟩) d ops rest hs ps K fr H=(c∧xs≠[]∧(∀ x∈xs.flatMap AV.cells,x.lt 0)∧iW hs (H.push (.part (xs.flatMap AV.cells))) ps∧awD P Ω ops rest (hs.push H) ps K (fr.put d (.ms H.nx 0 sz xs.length)) (H.push (.part (xs.flatMap AV.cells)))):=(rfl)
theorem zdo {as:List Operand} {ts:List TypeId}:awD P Ω ops (Oper.mk d (.call ⟨.builtin .append,as.toArray,ts.toArray⟩) t pos aft none::rest) hs ps K fr H=dP P Ω (cn hs.lit (hs.i+200000)) ts (as.map (ev fr)) (zio P .append ts (as.map (ev fr)) H) d ops rest hs ps K fr H:=by
 unfold awD i5 dP
 simp only [gM,i0,mu,qb]
 cases cn hs.lit (hs.i+200000) with
 |false=>rfl
 |true=>simp only [if_true,t9];rfl
theorem zdp {as:List Operand} {ts:List TypeId}:awD P Ω ops (Oper.mk d (.call ⟨.builtin .copy,as.toArray,ts.toArray⟩) t pos aft none::rest) hs ps K fr H=dE P Ω (zio P .copy ts (as.map (ev fr)) H) d ops rest hs ps K fr H:=(rfl)
theorem zdq:awD P Ω ops (Oper.mk d (.load s x) t pos aft none::rest) hs ps K fr H=dR P Ω (Oper.mk d (.load s x) t pos aft none) (zja P s (ev fr x) H) ops rest hs ps K fr H:=(rfl)
theorem zdr:awD P Ω ops (Oper.mk d (.convert s u x) t pos aft none::rest) hs ps K fr H=dC P Ω ((ti P u).map TI.desc) (zji P s u (ev fr x) H) d ops rest hs ps K fr H:=by
 unfold awD i5 dC dE dI
 simp only [gM,i0,mu,qb,ek,Bool.false_eq_true,if_false,kind,jH,cI]
 cases zji P s u (ev fr x) H with
 |none=>simp only;split<;>rfl
 |some r =>
  simp only
  cases (ti P u).map TI.desc with
  |none=>rfl
  |some td=>cases td<;>rfl
/-! calls -/
def iZ (P:Program) (Ω Ω':Tbl) (f:AV) (args:List AV) (d:Option Tmp) (ops:Array Oper) (rest:List Oper) (hs:HS) (ps:List (Nat × (AHeap→Prop))) (K:Fr→AHeap→Prop) (fr:Fr) (H:AHeap):Prop :=
 match f with
 |.func (.func k) first cap=>ka Ω' k (first++args++cap) hs ps (fun v hs' ps' H'=>awD P Ω ops rest hs' ps' K (fr.put d v) H') H
 |_=>False
@[congr] theorem xz {Ω':Tbl} {f f':AV} {args args':List AV} (h1:f=f') (h2:args=args') :
 iZ P Ω Ω' f args d ops rest hs ps K fr H=iZ P Ω Ω' f' args' d ops rest hs ps K fr H:=by rw [h1,h2]
theorem zds {as:List Operand} {ts:Array TypeId}:awD P Ω ops (Oper.mk d (.call ⟨.value x,as.toArray,ts⟩) t pos aft none::rest) hs ps K fr H =
 iZ P Ω Ω (ev fr x) (as.map (ev fr)) d ops rest hs ps K fr H:=(rfl)
theorem zom {Ω':Tbl} {f:FuncId} {p:List AV→AHeap→(AV→Prop)→Prop} {args first cap:List AV} :
 iZ P Ω ((f,Ent.pure p)::Ω') (.func (.func f) first cap) args d ops rest hs ps K fr H =
  p (first++args++cap) H (cl (fun v=>mb hs (fun h=>p (first++args++cap) h (fun v'=>v'=v))∧awD P Ω ops rest hs.nx ((hs.i,fun h=>h=H∨p (first++args++cap) h (fun v'=>v'=v))::ps) K (fr.put d v) H) ⟨⟩):=by
 simp [iZ,ka,jn,Ent.pure,cl]
theorem zon {Ω':Tbl} {f:FuncId} {p:List AV→AHeap→(AEnd→AHeap→Prop)→Prop} {args first cap:List AV} :
 iZ P Ω ((f,Ent.effect p)::Ω') (.func (.func f) first cap) args d ops rest hs ps K fr H =
  p (first++args++cap) H (co (fun x H'=>match x with|.ret v=>iW hs H' ps∧awD P Ω ops rest (hs.push H) ps K (fr.put d v) H'|.panic _=>False) ⟨⟩):=by
 simp [iZ,ka,jn,Ent.effect,co]
 rfl
theorem zoo {Ω':Tbl} {f g:FuncId} {e:Ent} {args first cap:List AV} (h:g≠f) :
 iZ P Ω ((g,e)::Ω') (.func (.func f) first cap) args d ops rest hs ps K fr H=iZ P Ω Ω' (.func (.func f) first cap) args d ops rest hs ps K fr H:=by
 simp [iZ,ka,jn,h]
/-! guards -/
def dgK (P:Program) (Ω:Tbl) (g:Option Nat) (want:Bool) (o:Oper) (ops:Array Oper) (rest:List Oper) (hs:HS) (ps:List (Nat × (AHeap→Prop))) (K:Fr→AHeap→Prop) (fr:Fr) (H:AHeap):Prop :=
 match g with
 |some i=>dgK2 (Fr.get fr i) i
 |none=>False
where
 dgK2 (v:AV) (i:Nat):Prop :=
 match v with
 |.bool b=>(b=want→awD P Ω ops (o::rest) hs ps K ((i,.bool want)::fr) H)∧(b=(!want)→awD P Ω ops rest hs.nx ps K (Fr.put ((i,.bool (!want))::fr) o.dst (.tup [])) H)
 |.tup []=>awD P Ω ops rest hs.nx ps K (fr.put o.dst (.tup [])) H
 |_=>False
theorem zdt {want:Bool} {op:Op}:awD P Ω l.toArray (Oper.mk d op t pos aft (some (j,want))::rest) hs ps K fr H =
 dgK P Ω (gZ l j) want (Oper.mk d op t pos aft none) l.toArray rest hs ps K fr H:=by
 unfold awD dgK
 simp only [kK]
 have e:(l.toArray[j]?).bind (·.dst)=gZ l j:=iS
 have e2:dO l.toArray j=gZ l j:=iS
 rw [e,e2]
 cases gZ l j with
 |none=>rfl
 |some i =>
  simp only [dgK.dgK2]
  cases Fr.get fr i
  case tup vs=>cases vs<;>rfl
  all_goals rfl
variable {want:Bool} {i:Nat}
theorem zfd:dgK P Ω (some i) want o ops rest hs ps K fr H=dgK.dgK2 P Ω want o ops rest hs ps K fr H (Fr.get fr i) i:=(rfl)
@[congr] theorem yy {g g':Option Nat} (h:g=g'):dgK P Ω g want o ops rest hs ps K fr H=dgK P Ω g' want o ops rest hs ps K fr H:=by rw [h]
@[congr] theorem xM {v':AV} (h:v=v'):dgK.dgK2 P Ω want o ops rest hs ps K fr H v i=dgK.dgK2 P Ω want o ops rest hs ps K fr H v' i:=by rw [h]
theorem zfg {op:Op} {d:Tmp}:dgK.dgK2 P Ω want (Oper.mk (some d) op t pos aft none) ops rest hs ps K fr H (.tup []) i=awD P Ω ops rest hs.nx ps K ((d,.tup [])::fr) H:=(rfl)
theorem zfe {op:Op} {d:Tmp} {b:Bool}:dgK.dgK2 P Ω false (Oper.mk (some d) op t pos aft none) ops rest hs ps K fr H (.bool b) i =
 gW b (awD P Ω ops rest hs.nx ps K ((d,.tup [])::(i,.bool true)::fr) H) (awD P Ω ops (Oper.mk (some d) op t pos aft none::rest) hs ps K ((i,.bool false)::fr) H):=by
 unfold gW dgK.dgK2;cases b<;>simp [Fr.put]
theorem zff {op:Op} {d:Tmp} {b:Bool}:dgK.dgK2 P Ω true (Oper.mk (some d) op t pos aft none) ops rest hs ps K fr H (.bool b) i =
 gW b (awD P Ω ops (Oper.mk (some d) op t pos aft none::rest) hs ps K ((i,.bool true)::fr) H) (awD P Ω ops rest hs.nx ps K ((d,.tup [])::(i,.bool false)::fr) H):=by
 unfold gW dgK.dgK2;cases b<;>simp [Fr.put]
end
theorem zed {i:Nat}:ax [] i=[]:=(rfl)
theorem zee {i:Nat} {m:List (List Nat)} {l:List (Nat × List (List Nat))}:ax ((i,m)::l) i=m:=by simp [ax]
theorem zef {i j:Nat} {m:List (List Nat)} {l:List (Nat × List (List Nat))} (h:i≠j):ax ((j,m)::l) i=ax l i:=by simp [ax,h]
/-! ### Frames -/
theorem zfz {i:Nat}:ev fr (.tmp i)=Fr.get fr i:=(rfl)
theorem zga {kd:IntKind} {n:Int}:ev fr (.const (.int kd n))=.int kd n:=(rfl)
theorem zgb {b:Bool}:ev fr (.const (.bool b))=.bool b:=(rfl)
theorem zgc:ev fr (.const (.slice none 0 0))=.slice .nil 1 []:=(rfl)
theorem zgd:ev fr (.const (.pointer none))=.nilp:=(rfl)
theorem zge:ev fr (.const .nilIface)=.nili:=(rfl)
theorem zgf:ev fr (.const .nilFunc)=.nilf:=(rfl)
theorem zgg:ev fr (.const (.map none))=.nilm:=(rfl)
theorem zgh {s:ByteArray}:ev fr (.const (.string s))=.str s.data.toList:=(rfl)
theorem zgi {f:Nat}:ev fr (.func f)=.func (.func f) [] []:=(rfl)
theorem zgj {i:Nat} {v:AV}:Fr.get ((i,v)::fr) i=v:=by simp [Fr.get]
theorem zgk {i j:Nat} {v:AV} (h:j≠i):Fr.get ((j,v)::fr) i=Fr.get fr i:=by simp [Fr.get,h]
end Go.AL
