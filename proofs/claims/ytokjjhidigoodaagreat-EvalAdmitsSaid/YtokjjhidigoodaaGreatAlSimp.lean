/- Contracts and plain laws, a part of the proof; no condition of its own. -/
import Derived.Test.YtokjjhidigoodaaGreatAlCode
/- The abstract layer, fifth part: the rules by which simp walks code. -/
namespace Go.AL
set_option linter.all false
variable {P:Program} {Ω:Tbl} {B:Conts} {k:List KItem} {fr:Fr} {H:AHeap}
theorem zaa {K:Conts}:aw P Ω .skip K fr H=K.n fr H:=(rfl)
theorem zae {K:Conts} {id:Nat} {l:List Oper}:aw P Ω (.region id l.toArray false) K fr H=gC P Ω K.n0 l.toArray ((K.T id).headD []) l K.n K.p fr H:=(rfl)
@[congr] theorem Ie {ops:Array Oper} {is is':List Nat} {l:List Oper} {K:Fr→AHeap→Prop} {Kp:Fr→AV→AHeap→Prop} {n0:Nat} (h:is=is'):gC P Ω n0 ops is l K Kp fr H=gC P Ω n0 ops is' l K Kp fr H:=by rw [h]
theorem zaf {ops:Array Oper} {l:List Oper} {K:Fr→AHeap→Prop} {Kp:Fr→AV→AHeap→Prop} {n0:Nat}:gC P Ω n0 ops [] l K Kp fr H=bB P Ω ops l K Kp fr H:=(rfl)
theorem zb {n0:Nat} {ops:Array Oper} {i:Nat} {is:List Nat} {l:List Oper} {K:Fr→AHeap→Prop} {Kp:Fr→AV→AHeap→Prop} (h:i % 3=0):gC P Ω n0 ops (i::is) l K Kp fr H=bB P Ω ops (l.take (i/3)) (fun fr H=>match l.drop (i/3) with
 |o::rest=>o.guard=none∧bc P o fr H (gC P Ω n0 ops is rest K Kp)
 |[]=>False) Kp fr H:=if_pos h
theorem zG {n0:Nat} {ops:Array Oper} {i:Nat} {is:List Nat} {l:List Oper} {K:Fr→AHeap→Prop} {Kp:Fr→AV→AHeap→Prop} (h:i % 3=1):gC P Ω n0 ops (i::is) l K Kp fr H=bB P Ω ops (l.take (i/3)) (fun fr H=>kH n0 (gC P Ω n0 ops is (l.drop (i/3)) K Kp) fr H) Kp fr H :=
 (if_neg (by omega)).trans (if_pos h)
theorem Cn {n0:Nat} {ops:Array Oper} {i:Nat} {is:List Nat} {l:List Oper} {K:Fr→AHeap→Prop} {Kp:Fr→AV→AHeap→Prop} (h:i % 3=2):gC P Ω n0 ops (i::is) l K Kp fr H=bB P Ω ops (l.take (i/3)) (fun fr H=>match l.drop (i/3) with
 |o::rest=>o.guard=none∧bf P o fr H (gC P Ω n0 ops is rest K Kp)
 |[]=>False) Kp fr H:=(if_neg (by omega)).trans (if_neg (by omega))
theorem qD {n0:Nat} {K:Fr→AHeap→Prop} (fr':Fr) (H':AHeap) (h:enterW n0 fr H fr' H') (hk:K fr' H'):kH n0 K fr H:=.inl ⟨fr',H',h,hk⟩
theorem jV {n0:Nat} {K:Fr→AHeap→Prop} (s j sz:Nat) (cs:List AV) (h1:Fr.get fr s=.agg cs) (h2:cs[j]?=some (.slice .nil 1 [])) (hk:K ((s,.agg (cs.set j (.slice (.own H.nx) sz [])))::fr) (H.push (.buf sz 0))):kH n0 K fr H:=.inr (.inl ⟨s,j,sz,cs,h1,h2,hk⟩)
theorem hP {n0:Nat} {K:Fr→AHeap→Prop} (s:Nat) (y:AV) (h:wkD (Fr.get fr s) y) (hk:K ((s,y)::fr) H):kH n0 K fr H:=.inr (.inr (.inl ⟨s,y,h,hk⟩))
theorem fg {n0:Nat} {K:Fr→AHeap→Prop} (id:Nat) {cs:List AV} (cs':List AV) (hc:aL H id=some cs) (h:mt cs cs') (hk:K fr (H.set id (.cells cs'))):kH n0 K fr H:=.inr (.inr (.inr (.inl ⟨id,cs,cs',hc,h,hk⟩)))
theorem EA {n0:Nat} {K:Fr→AHeap→Prop} (s j sz:Nat) {id off:Nat} {cs:List AV} (h0:Fr.get fr s=.ptr id off) (hc:aL H id=some cs) (hj:cs[j]?=some (.slice .nil 1 [])) (h:K fr ((H.push (.buf sz 0)).set id (.cells (cs.set j (.slice (.own H.nx) sz []))))):kH n0 K fr H:=.inr (.inr (.inr (.inr (.inr (.inl ⟨s,id,off,j,sz,cs,h0,hc,hj,h⟩)))))
theorem wkDR_iff:∀ {xs ys:List AV},si xs ys↔xs.length=ys.length∧∀ i (hi:i<xs.length) (hi':i<ys.length),mt xs[i].cells ys[i].cells
 |[],[]=>by simp [si]
 |[],_::_=>by simp [si]
 |_::_,[]=>by simp [si]
 |x::xs,y::ys=>by
  rw [si,wkDR_iff]
  constructor
  ·rintro ⟨h1,h2,h3⟩
   refine ⟨by simp [h2],fun j hj hj'=>?_⟩
   cases j with
   |zero=>exact h1
   |succ j=>exact h3 j (by simpa using hj) (by simpa using hj')
  ·rintro ⟨h1,h2⟩
   exact ⟨h2 0 (by simp) (by simp),by simpa using h1,fun j hj hj'=>h2 (j+1) (by simpa using hj) (by simpa using hj')⟩
theorem jG {xs ys:List AV}:wkD (.agg xs) (.agg ys)=mt xs ys:=by rw [wkD];exact propext wkDL_iff.symm
theorem cn {m m':Mark} {sz sz':Nat} {xs ys:List AV}:wkD (.slice m sz xs) (.slice m' sz' ys)=((wkM m m'∧sz=sz'∧si xs ys)∨(m=.nil∧m'=.any∧xs=[]∧ys=[])):=by
 rw [wkD]
 refine propext (or_congr (and_congr Iff.rfl (and_congr Iff.rfl ?_)) Iff.rfl)
 rw [wkDR_iff]
 exact and_congr Iff.rfl ⟨fun h i hi hi'=>wkDL_iff.2 (h i hi hi'),fun h i hi hi'=>wkDL_iff.1 (h i hi hi')⟩
theorem cH:mt [] []=True:=(rfl)
theorem ck {x y:AV} {xs ys:List AV}:mt (x::xs) (y::ys)=(wkD x y∧mt xs ys):=(rfl)
theorem cG:si [] []=True:=(rfl)
theorem eW {x y:AV} {xs ys:List AV}:si (x::xs) (y::ys)=(mt x.cells y.cells∧si xs ys):=(rfl)
theorem uF:∀ x:AV,wkD x x
 |.agg xs=>by rw [wkD];exact ⟨rfl,fun j hj _=>uF xs[j]⟩
 |.slice m sz xs=>by rw [wkD];exact .inl ⟨.inr rfl,rfl,rfl,fun i hi _=>⟨rfl,fun j hj _=>uF xs[i].cells[j]⟩⟩
 |.int _ _|.bool _|.str _|.ptr _ _|.cptr _|.nilp|.ms _ _ _ _|.mapv _|.nilm|.func _ _ _|.nilf|.iface _ _|.nili|.tup _|.junk=>by rw [wkD]<;>(intros;contradiction)
termination_by x=>SizeOf.sizeOf x
decreasing_by
 all_goals simp_wf
 all_goals first
  |(have h1:=AV.sizeOf_cells (List.getElem_mem hj);have h2:=List.sizeOf_lt_of_mem (List.getElem_mem hi);omega)
  |(have:=List.sizeOf_lt_of_mem (List.getElem_mem hj);omega)
theorem wkDL_same {xs:List AV}:mt xs xs=True:=eq_true (wkDL_iff.2 ⟨rfl,fun _ _ _=>uF _⟩)
theorem qQ {xs:List AV}:si xs xs=True:=eq_true (wkDR_iff.2 ⟨rfl,fun _ _ _=>wkDL_same.symm ▸ trivial⟩)
theorem i8 {k:IntKind} {n:Int} {y:AV}:wkD (.int k n) y=(.int k n=y):=by rw [wkD]<;>(intros;contradiction)
theorem jN {s:List UInt8} {y:AV}:wkD (.str s) y=(.str s=y):=by rw [wkD]<;>(intros;contradiction)
theorem jk {b:Bool} {y:AV}:wkD (.bool b) y=(.bool b=y):=by rw [wkD]<;>(intros;contradiction)
theorem zfj {n0:Nat} {K:Fr→AHeap→Prop}:uD [] n0 K fr H=K fr H:=(rfl)
theorem zfk {n0:Nat} {m:List Nat} {l:List (List Nat)} {K:Fr→AHeap→Prop}:uD (m::l) n0 K fr H=kH n0 K fr H:=(rfl)
@[congr] theorem JM {l l':List (List Nat)} {n0:Nat} {K:Fr→AHeap→Prop} (h:l=l'):uD l n0 K fr H=uD l' n0 K fr H:=by rw [h]
@[congr] theorem JS {n0:Nat} {K:Fr→AHeap→Prop} {fr':Fr} (h:fr=fr'):kH n0 K fr H=kH n0 K fr' H:=by rw [h]
theorem zfi {K:Conts} {id:Nat} {l:List Oper}:aw P Ω (.region id l.toArray true) K fr H=uD (K.T (id+400)) K.n0 (fun fr H=>rd P (K.T (id+800)) [] H fun pre H=>awD P Ω l.toArray l ⟨K.T id,0,[],pre,(K.T (id+1200)).headD []⟩ [] K.n fr H) fr H:=(rfl)
theorem zhc {pre:List (Nat × Nat)} {N:List (Nat × Nat)→AHeap→Prop}:rd P [] pre H N=N pre H:=(rfl)
theorem zhd {i t:Nat} {l:List (List Nat)} {pre:List (Nat × Nat)} {N:List (Nat × Nat)→AHeap→Prop}:rd P ([i,t]::l) pre H N=((ti P t).isSome=true∧eu pre i=none∧rd P l ((i,H.nx)::pre) (H.push (.cells (kW P t))) N):=(rfl)
theorem zhw {i:Nat} {l:List (List Nat)} {pre:List (Nat × Nat)} {N:List (Nat × Nat)→AHeap→Prop}:rd P ([i]::l) pre H N=(100000≤i∧eu pre i=none∧rd P l ((i,0)::pre) H N):=(rfl)
theorem zhe {i:Nat}:eu [] i=none:=(rfl)
theorem zhf {i r:Nat} {l:List (Nat × Nat)}:eu ((i,r)::l) i=some r:=by simp [eu]
theorem zhg {i j r:Nat} {l:List (Nat × Nat)} (h:j≠i):eu ((j,r)::l) i=eu l i:=by simp [eu,h]
theorem zhn {t:TypeId}:kW P t=(ti P t).elim [] fun i=>i.zero.cells:=(rfl)
@[congr] theorem KB {l l':List (List Nat)} {pre:List (Nat × Nat)} {N:List (Nat × Nat)→AHeap→Prop} (h:l=l'):rd P l pre H N=rd P l' pre H N:=by rw [h]
theorem zag {a b:Code}:aw P Ω (.seq a b) (KI P Ω B k) fr H=aw P Ω a (KI P Ω B (.code b::k)) fr H:=(rfl)
theorem zah {id:Nat} {c:Code}:aw P Ω (.block id c) (KI P Ω B k) fr H=aw P Ω c (KI P Ω B (.blk id::k)) fr H:=(rfl)
theorem zai {K:Conts} {id:Nat}:aw P Ω (.exit id) K fr H=K.x id fr H:=(rfl)
theorem zab {K:Conts} {l:Nat}:aw P Ω (.label l) K fr H=K.n fr H:=(rfl)
theorem zaj {K:Conts}:aw P Ω .ret K fr H=K.r fr H:=(rfl)
theorem zak {c:Code}:(KI P Ω B (.code c::k)).n fr H=aw P Ω c (KI P Ω B k) fr H:=(rfl)
theorem zal {id:Nat}:(KI P Ω B (.blk id::k)).n fr H=(KI P Ω B k).n fr H:=(rfl)
theorem zam {R:Fr→AHeap→Prop}:(KI P Ω B (.back R::k)).n fr H=R fr H:=(rfl)
theorem zan:(KI P Ω B []).n fr H=B.n fr H:=(rfl)
theorem zao {id:Nat}:(KI P Ω B (.blk id::k)).x id fr H=(KI P Ω B k).n fr H:=by simp [KI]
theorem zap {id i:Nat} (h:i≠id):(KI P Ω B (.blk id::k)).x i fr H=(KI P Ω B k).x i fr H:=by simp [KI,h]
theorem zaq {c:Code} {i:Nat}:(KI P Ω B (.code c::k)).x i fr H=(KI P Ω B k).x i fr H:=(rfl)
theorem zar {R:Fr→AHeap→Prop} {i:Nat}:(KI P Ω B (.back R::k)).x i fr H=(KI P Ω B k).x i fr H:=(rfl)
theorem Lc:(KI P Ω B k).r=B.r:=by
 induction k with
 |nil=>rfl
 |cons x k ih=>cases x<;>exact ih
theorem Lj:(KI P Ω B k).T=B.T:=by
 induction k with
 |nil=>rfl
 |cons a k ih=>cases a<;>exact ih
theorem zad {P:Program} {Ω:Tbl} {k:List KItem} {fr:Fr} {H:AHeap} {rs:List ResultVar} {n0:Nat} {e:AEnd} {H1:AHeap} {id:Nat} {l:List Oper}:aw P Ω (.region id l.toArray false) (KI P Ω (sk P rs n0 e H1 (aA [])) k) fr H=bB P Ω l.toArray l (KI P Ω (sk P rs n0 e H1 (aA [])) k).n (KI P Ω (sk P rs n0 e H1 (aA [])) k).p fr H:=by
 rw [zae,Lj];rfl
theorem LQ:(KI P Ω B k).r fr H=B.r fr H:=by rw [Lc]
theorem Li:(KI P Ω B k).p=B.p:=by
 induction k with
 |nil=>rfl
 |cons x k ih=>cases x<;>exact ih
theorem LX {v:AV}:(KI P Ω B k).p fr v H=B.p fr v H:=by rw [Li]
/-! ### Conditions -/
def n8 (P:Program) (Ω:Tbl) (v:AV) (a b:Code) (K:Conts) (fr:Fr) (H:AHeap):Prop :=
 match v with
 |.bool t=>(t=true→aw P Ω a K fr H)∧(t=false→aw P Ω b K fr H)
 |_=>False
theorem zas {K:Conts} {c:Operand} {a b:Code}:aw P Ω (.cond c a b) K fr H=n8 P Ω (ev fr c) a b K fr H:=(rfl)
theorem zat {K:Conts} {a b:Code}:n8 P Ω (.bool true) a b K fr H=aw P Ω a K fr H:=by simp [n8]
theorem zau {K:Conts} {a b:Code}:n8 P Ω (.bool false) a b K fr H=aw P Ω b K fr H:=by simp [n8]
/-- k8 ways, for a test that is not decided -/
def k8 (t:Bool) (A B:Prop):Prop:=(t=true→A)∧(t=false→B)
theorem zav {K:Conts} {t:Bool} {a b:Code}:n8 P Ω (.bool t) a b K fr H=k8 t (aw P Ω a K fr H) (aw P Ω b K fr H):=(rfl)
theorem aq {K:Conts} {t:Bool} {a b:Code} (h1:t=true→aw P Ω a K fr H) (h2:t=false→aw P Ω b K fr H):n8 P Ω (.bool t) a b K fr H:=⟨h1,h2⟩
@[congr] theorem JW {v v':AV} {K:Conts} {a b:Code} (h:v=v'):n8 P Ω v a b K fr H=n8 P Ω v' a b K fr H:=by rw [h]
/-! ### Operations -/
def cP (P:Program) (Ω:Tbl) (r:Option R) (d:Option Tmp) (ops:Array Oper) (rest:List Oper) (K:Fr→AHeap→Prop) (Kp:Fr→AV→AHeap→Prop) (fr:Fr):Prop :=
 match r with
 |some r=>r.c∧bB P Ω ops rest K Kp (fr.put d r.v) r.H
 |none=>False
@[congr] theorem JN {r r':Option R} {d:Option Tmp} {ops:Array Oper} {rest:List Oper} {K:Fr→AHeap→Prop} {Kp:Fr→AV→AHeap→Prop}
 (h:r=r'):cP P Ω r d ops rest K Kp fr=cP P Ω r' d ops rest K Kp fr:=by rw [h]
section
variable {d:Option Tmp} {i:Tmp} {ops:Array Oper} {rest:List Oper} {K:Fr→AHeap→Prop} {Kp:Fr→AV→AHeap→Prop} {c:Prop} {v:AV}
theorem zfw:cP P Ω (some ⟨True,v,H⟩) (some i) ops rest K Kp fr=bB P Ω ops rest K Kp ((i,v)::fr) H:=by simp [cP,Fr.put]
theorem zfx:cP P Ω (some ⟨c,v,H⟩) (some i) ops rest K Kp fr=(c∧bB P Ω ops rest K Kp ((i,v)::fr) H):=(rfl)
theorem zfy:cP P Ω (some ⟨True,v,H⟩) none ops rest K Kp fr=bB P Ω ops rest K Kp fr H:=by simp [cP,Fr.put]
theorem zfz:cP P Ω (some ⟨c,v,H⟩) none ops rest K Kp fr=(c∧bB P Ω ops rest K Kp fr H):=(rfl)
theorem zaw:bB P Ω ops [] K Kp fr H=K fr H:=(rfl)
variable {t s u:TypeId} {pos:String} {aft:Array Edge} {x y z:Operand} {j n:Nat} {b:Bool}
theorem zax:bB P Ω ops ((Oper.mk d (.move x) t pos aft none)::rest) K Kp fr H=cP P Ω (some ⟨True,ev fr x,H⟩) d ops rest K Kp fr:=(rfl)
theorem zay:bB P Ω ops ((Oper.mk d (.assign x) t pos aft none)::rest) K Kp fr H=cP P Ω (zip P t x (ev fr x) H) d ops rest K Kp fr:=(rfl)
theorem zaz:bB P Ω ops ((Oper.mk d (.pick x y z) t pos aft none)::rest) K Kp fr H=cP P Ω (zix (ev fr x) (ev fr y) (ev fr z) H) d ops rest K Kp fr:=(rfl)
theorem zba:bB P Ω ops ((Oper.mk d (.alloc s) t pos aft none)::rest) K Kp fr H=cP P Ω (ziy P s H) d ops rest K Kp fr:=(rfl)
theorem zbb:bB P Ω ops ((Oper.mk d (.box s x) t pos aft none)::rest) K Kp fr H=cP P Ω (Eb (ev fr x) H) d ops rest K Kp fr:=(rfl)
theorem zbc {ps:List (Nat × Operand)}:bB P Ω ops ((Oper.mk d (.build s ps.toArray) t pos aft none)::rest) K Kp fr H=cP P Ω (ziz P s (ps.map fun p=>(p.1,ev fr p.2)) H) d ops rest K Kp fr:=(rfl)
theorem zbd {ps:List (Nat × Operand)}:bB P Ω ops ((Oper.mk d (.buildSlice s n ps.toArray) t pos aft none)::rest) K Kp fr H=cP P Ω (zja P s n (ps.map fun p=>(p.1,ev fr p.2)) H) d ops rest K Kp fr:=(rfl)
theorem zbe:bB P Ω ops ((Oper.mk d (.load s x) t pos aft none)::rest) K Kp fr H=cP P Ω (zjc P s (ev fr x) H) d ops rest K Kp fr:=(rfl)
theorem zbf:bB P Ω ops ((Oper.mk d (.store s x y) t pos aft none)::rest) K Kp fr H=cP P Ω (zje P s (ev fr x) (ev fr y) H) d ops rest K Kp fr:=(rfl)
theorem zbg:bB P Ω ops ((Oper.mk d (.nilCheck x) t pos aft none)::rest) K Kp fr H=cP P Ω (zjf (ev fr x) H) d ops rest K Kp fr:=(rfl)
theorem jf {op:BinOp} (h:xE y=false):bB P Ω ops ((Oper.mk d (.binOp op s x y u) t pos aft none)::rest) K Kp fr H=cP P Ω (n7 P op s (ev fr x) (ev fr y) H) d ops rest K Kp fr:=by
 unfold bB og
 simp only [iz,lJ,h,Bool.false_eq_true,if_false]
 rfl
theorem zbp {op:BinOp}:bB P Ω ops ((Oper.mk d (.binOp op s x (.const (.slice none 0 0)) u) t pos aft none)::rest) K Kp fr H=uU ((ti P s).map TI.desc) op (ev fr x) (fun b=>bB P Ω ops rest K Kp (fr.put d (.bool b)) H):=(rfl)
theorem zbh {op:BinOp} {i:Nat}:bB P Ω ops ((Oper.mk d (.binOp op s x (.tmp i) u) t pos aft none)::rest) K Kp fr H=cP P Ω (n7 P op s (ev fr x) (ev fr (.tmp i)) H) d ops rest K Kp fr:=jf rfl
theorem zbi {op:BinOp} {k:IntKind} {z:Int}:bB P Ω ops ((Oper.mk d (.binOp op s x (.const (.int k z)) u) t pos aft none)::rest) K Kp fr H=cP P Ω (n7 P op s (ev fr x) (ev fr (.const (.int k z))) H) d ops rest K Kp fr:=jf rfl
theorem zbj {op:BinOp} {t1:Bool}:bB P Ω ops ((Oper.mk d (.binOp op s x (.const (.bool t1)) u) t pos aft none)::rest) K Kp fr H=cP P Ω (n7 P op s (ev fr x) (ev fr (.const (.bool t1))) H) d ops rest K Kp fr:=jf rfl
theorem zbk {op:BinOp} {t1:ByteArray}:bB P Ω ops ((Oper.mk d (.binOp op s x (.const (.string t1)) u) t pos aft none)::rest) K Kp fr H=cP P Ω (n7 P op s (ev fr x) (ev fr (.const (.string t1))) H) d ops rest K Kp fr:=jf rfl
theorem zbl {op:BinOp} {t1:Option Addr}:bB P Ω ops ((Oper.mk d (.binOp op s x (.const (.pointer t1)) u) t pos aft none)::rest) K Kp fr H=cP P Ω (n7 P op s (ev fr x) (ev fr (.const (.pointer t1))) H) d ops rest K Kp fr:=jf rfl
theorem zbm {op:BinOp}  : bB P Ω ops ((Oper.mk d (.binOp op s x (.const .nilIface) u) t pos aft none)::rest) K Kp fr H=cP P Ω (n7 P op s (ev fr x) (ev fr (.const .nilIface)) H) d ops rest K Kp fr:=jf rfl
theorem zbn {op:BinOp}  : bB P Ω ops ((Oper.mk d (.binOp op s x (.const .nilFunc) u) t pos aft none)::rest) K Kp fr H=cP P Ω (n7 P op s (ev fr x) (ev fr (.const .nilFunc)) H) d ops rest K Kp fr:=jf rfl
theorem zbo {op:BinOp} {t1:Option Nat}:bB P Ω ops ((Oper.mk d (.binOp op s x (.const (.map t1)) u) t pos aft none)::rest) K Kp fr H=cP P Ω (n7 P op s (ev fr x) (ev fr (.const (.map t1))) H) d ops rest K Kp fr:=jf rfl
@[congr] theorem KN {td td':Option TD} {op:BinOp} {x x':AV} {L:Bool→Prop} (h1:td=td') (h2:x=x'):uU td op x L=uU td' op x' L:=by rw [h1,h2]
theorem zbq {e:TypeId} {m:Mark} {sz:Nat} {xs:List AV} {L:Bool→Prop}:uU (some (.slice e)) .eql (.slice m sz xs) L=∀ b,(xs≠[]→b=false)→L b:=(rfl)
theorem zbr {e:TypeId} {m:Mark} {sz:Nat} {xs:List AV} {L:Bool→Prop}:uU (some (.slice e)) .neq (.slice m sz xs) L=∀ b,(xs≠[]→b=true)→L b:=(rfl)
theorem zbs {e:TypeId} {a c m n:Nat} {L:Bool→Prop}:uU (some (.slice e)) .eql (.ms a c m n) L=∀ b,L b:=(rfl)
theorem zbt {e:TypeId} {a c m n:Nat} {L:Bool→Prop}:uU (some (.slice e)) .neq (.ms a c m n) L=∀ b,L b:=(rfl)
theorem zbu {op:UnOp}:bB P Ω ops ((Oper.mk d (.unOp op s x) t pos aft none)::rest) K Kp fr H=cP P Ω (rUn op (ev fr x) H) d ops rest K Kp fr:=(rfl)
theorem zbv:bB P Ω ops ((Oper.mk d (.convert s u x) t pos aft none)::rest) K Kp fr H=cP P Ω (zjk P s u (ev fr x) H) d ops rest K Kp fr:=(rfl)
theorem zbw:bB P Ω ops ((Oper.mk d (.makeInterface s x) t pos aft none)::rest) K Kp fr H=cP P Ω (zjl P s (ev fr x) H) d ops rest K Kp fr:=(rfl)
theorem zbx {f:Fn} {as bs:List Operand}:bB P Ω ops ((Oper.mk d (.makeFunc f as.toArray bs.toArray) t pos aft none)::rest) K Kp fr H=cP P Ω (some ⟨True,.func f (as.map (ev fr)) (bs.map (ev fr)),H⟩) d ops rest K Kp fr:=(rfl)
theorem zbz {mz:Option Operand}:bB P Ω ops ((Oper.mk d (.makeMap s mz) t pos aft none)::rest) K Kp fr H=cP P Ω (zis P s (mz.map (ev fr)) H) d ops rest K Kp fr:=(rfl)
theorem zca {b:Bool}:bB P Ω ops ((Oper.mk d (.lookup s x y b) t pos aft none)::rest) K Kp fr H=cP P Ω (zit P s (ev fr x) (ev fr y) b H) d ops rest K Kp fr:=(rfl)
theorem zcb:bB P Ω ops ((Oper.mk d (.mapUpdate s x y z) t pos aft none)::rest) K Kp fr H=cP P Ω (ziu P s (ev fr x) (ev fr y) (ev fr z) H) d ops rest K Kp fr:=(rfl)
theorem zby:bB P Ω ops ((Oper.mk d (.makeSlice s x y) t pos aft none)::rest) K Kp fr H=cP P Ω (zir P s (ev fr x) (ev fr y) H) d ops rest K Kp fr:=(rfl)
theorem zcc {lo hi mx:Option Operand}:bB P Ω ops ((Oper.mk d (.slice s x lo hi mx) t pos aft none)::rest) K Kp fr H=cP P Ω (ziw P s (ev fr x) (lo.map (ev fr)) (hi.map (ev fr)) (mx.map (ev fr)) H) d ops rest K Kp fr:=(rfl)
theorem zcd:bB P Ω ops ((Oper.mk d (.fieldAddr s x n) t pos aft none)::rest) K Kp fr H=cP P Ω (zjg P s (ev fr x) n H) d ops rest K Kp fr:=(rfl)
theorem zce:bB P Ω ops ((Oper.mk d (.field s x n) t pos aft none)::rest) K Kp fr H=cP P Ω (zjh P s (ev fr x) n H) d ops rest K Kp fr:=(rfl)
theorem zcf:bB P Ω ops ((Oper.mk d (.indexAddr s x y) t pos aft none)::rest) K Kp fr H=cP P Ω (zji P s (ev fr x) (ev fr y) H) d ops rest K Kp fr:=(rfl)
theorem zcg:bB P Ω ops ((Oper.mk d (.index s x y) t pos aft none)::rest) K Kp fr H=cP P Ω (zjj P s (ev fr x) (ev fr y) H) d ops rest K Kp fr:=(rfl)
theorem zch:bB P Ω ops ((Oper.mk d (.typeAssert x s u b) t pos aft none)::rest) K Kp fr H=cP P Ω (gl P (ev fr x) u b H) d ops rest K Kp fr:=(rfl)
theorem zci:bB P Ω ops ((Oper.mk d (.extract x n) t pos aft none)::rest) K Kp fr H=cP P Ω (zjm (ev fr x) n H) d ops rest K Kp fr:=(rfl)
theorem zcj {bi:Builtin} {as:List Operand} {ts:List TypeId} (h:bi≠.panic):bB P Ω ops ((Oper.mk d (.call ⟨.builtin bi,as.toArray,ts.toArray⟩) t pos aft none)::rest) K Kp fr H=cP P Ω (ziq P bi ts (as.map (ev fr)) H) d ops rest K Kp fr:=by
 cases bi<;>first|rfl|exact absurd rfl h
theorem zfn {i:Nat} {v:AV}:Fr.put fr (some i) v=(i,v)::fr:=(rfl)
theorem zfo {v:AV}:Fr.put fr none v=fr:=(rfl)
/-! ### Guards -/
def ny:List Oper→Nat→Option Nat
 |[],_=>none
 |o::l,j=>if j=0 then o.dst else ny l (j - 1)
theorem nU {l:List Oper} {j:Nat}:ii l.toArray j=ny l j:=by
 unfold ii
 rw [List.getElem?_toArray]
 induction l generalizing j with
 |nil=>rfl
 |cons o l ih =>
  unfold ny
  cases j with
  |zero=>rfl
  |succ j=>rw [if_neg (by omega),Nat.add_sub_cancel,← ih];rfl
@[congr] theorem JZ {l:List Oper} {j j':Nat} (h:j=j'):ny l j=ny l j':=by rw [h]
theorem zfl {o:Op} {d:Option Tmp} {t:TypeId} {pos:String} {aft:Array Edge} {g:Option (Nat × Bool)} {l:List Oper}:ny (Oper.mk d o t pos aft g::l) 0=d:=(rfl)
theorem zfm {o:Oper} {l:List Oper} {j:Nat} (h:j≠0):ny (o::l) j=ny l (j - 1):=by simp [ny,h]
/-- an operation behind its guard -/
def gK (P:Program) (Ω:Tbl) (g:Option Nat) (want:Bool) (o:Oper) (ops:Array Oper) (rest:List Oper) (K:Fr→AHeap→Prop) (Kp:Fr→AV→AHeap→Prop) (fr:Fr) (H:AHeap):Prop :=
 match g with
 |some i=>gK2 (Fr.get fr i) i
 |none=>False
where
 gK2 (v:AV) (i:Nat):Prop :=
 match v with
 |.bool b=>(b=want→bB P Ω ops (o::rest) K Kp ((i,.bool want)::fr) H)∧(b=(!want)→bB P Ω ops rest K Kp (Fr.put ((i,.bool (!want))::fr) o.dst (.tup [])) H)
 |.tup []=>bB P Ω ops rest K Kp (fr.put o.dst (.tup [])) H
 |_=>False
section
variable {g:Option Nat} {want:Bool} {o:Oper} {ops:Array Oper} {rest l:List Oper} {K:Fr→AHeap→Prop} {Kp:Fr→AV→AHeap→Prop} {i j:Nat} {v:AV}
theorem zcm {op:Op} {d:Option Tmp} {t:TypeId} {pos:String} {aft:Array Edge}:bB P Ω l.toArray (Oper.mk d op t pos aft (some (j,want))::rest) K Kp fr H =
 gK P Ω (ny l j) want (Oper.mk d op t pos aft none) l.toArray rest K Kp fr H:=by
 unfold bB gK
 simp only [rF]
 have e:(l.toArray[j]?).bind (·.dst)=ny l j:=nU
 have e2:ii l.toArray j=ny l j:=nU
 rw [e,e2]
 cases ny l j with
 |none=>rfl
 |some i =>
  simp only [gK.gK2]
  cases Fr.get fr i
  case tup vs=>cases vs<;>rfl
  all_goals rfl
theorem zfp:gK P Ω (some i) want o ops rest K Kp fr H=gK.gK2 P Ω want o ops rest K Kp fr H (Fr.get fr i) i:=(rfl)
@[congr] theorem Lx {g':Option Nat} (h:g=g'):gK P Ω g want o ops rest K Kp fr H=gK P Ω g' want o ops rest K Kp fr H:=by rw [h]
@[congr] theorem Lb {v':AV} (h:v=v'):gK.gK2 P Ω want o ops rest K Kp fr H v i=gK.gK2 P Ω want o ops rest K Kp fr H v' i:=by rw [h]
theorem zfv {op:Op} {d:Option Tmp} {t:TypeId} {pos:String} {aft:Array Edge}:gK.gK2 P Ω want (Oper.mk d op t pos aft none) ops rest K Kp fr H (.bool want) i=bB P Ω ops (Oper.mk d op t pos aft none::rest) K Kp ((i,.bool want)::fr) H:=by
 simp [gK.gK2]
theorem zfq {op:Op} {d:Tmp} {t:TypeId} {pos:String} {aft:Array Edge} {b:Bool}:gK.gK2 P Ω false (Oper.mk (some d) op t pos aft none) ops rest K Kp fr H (.bool b) i =
 k8 b (bB P Ω ops rest K Kp ((d,.tup [])::(i,.bool true)::fr) H) (bB P Ω ops (Oper.mk (some d) op t pos aft none::rest) K Kp ((i,.bool false)::fr) H):=by
 unfold k8 gK.gK2;cases b<;>simp [Fr.put]
theorem zfr {op:Op} {d:Tmp} {t:TypeId} {pos:String} {aft:Array Edge} {b:Bool}:gK.gK2 P Ω true (Oper.mk (some d) op t pos aft none) ops rest K Kp fr H (.bool b) i =
 k8 b (bB P Ω ops (Oper.mk (some d) op t pos aft none::rest) K Kp ((i,.bool true)::fr) H) (bB P Ω ops rest K Kp ((d,.tup [])::(i,.bool false)::fr) H):=by
 unfold k8 gK.gK2;cases b<;>simp [Fr.put]
theorem zfs {op:Op} {d:Tmp} {t:TypeId} {pos:String} {aft:Array Edge}:gK.gK2 P Ω want (Oper.mk (some d) op t pos aft none) ops rest K Kp fr H (.tup []) i=bB P Ω ops rest K Kp ((d,.tup [])::fr) H:=(rfl)
theorem zft {A B:Prop}:k8 true A B=A:=by simp [k8]
theorem zfu {A B:Prop}:k8 false A B=B:=by simp [k8]
theorem bD {t:Bool} {A B:Prop} (h1:t=true→A) (h2:t=false→B):k8 t A B:=⟨h1,h2⟩
end
/-! ### Calls -/
/-- a continuation that simp leaves alone till it is used: the mark's type names it -/
structure Held {α:Type} (F:α) where
def cr (F:AEnd→AHeap→Prop) (h:Held F):AEnd→AHeap→Prop:=F
def bv (F:AV→Prop) (h:Held F):AV→Prop:=F
def ki (F:AV→AHeap→Prop) (h:Held F):AV→AHeap→Prop:=F
theorem zoj {F:AV→AHeap→Prop} {h:Held F} {v:AV} {H:AHeap}:ki F h v H=F v H:=(rfl)
theorem zoh {F:AEnd→AHeap→Prop} {h:Held F} {x:AEnd} {H:AHeap}:cr F h x H=F x H:=(rfl)
theorem zoi {F:AV→Prop} {h:Held F} {v:AV}:bv F h v=F v:=(rfl)
def kQ (P:Program) (Ω Ω':Tbl) (f:AV) (args:List AV) (H:AHeap) (d:Option Tmp) (ops:Array Oper) (rest:List Oper) (K:Fr→AHeap→Prop) (Kp:Fr→AV→AHeap→Prop) (fr:Fr):Prop :=
 match f with
 |.func (.func k) first cap=>nf Ω' k (first++args++cap) H (fun v H'=>bB P Ω ops rest K Kp (fr.put d v) H') (Kp fr)
 |_=>False
/-- the method's function, as a function value -/
def De (P:Program) (name:String):AV→AV
 |.iface t _=>match mth P t name with
  |some k=>.func (.func k) [] []
  |none=>.junk
 |_=>.junk
def KT:AV→AV
 |.iface _ x=>x
 |_=>.junk
@[congr] theorem JQ {Ω':Tbl} {f f':AV} {args args':List AV} (h1:f=f') (h2:args=args') :
 kQ P Ω Ω' f args H d ops rest K Kp fr=kQ P Ω Ω' f' args' H d ops rest K Kp fr:=by rw [h1,h2]
theorem zck {as:List Operand} {ts:Array TypeId}:bB P Ω ops ((Oper.mk d (.call ⟨.value x,as.toArray,ts⟩) t pos aft none)::rest) K Kp fr H=kQ P Ω Ω (ev fr x) (as.map (ev fr)) H d ops rest K Kp fr:=(rfl)
theorem zcl {as:List Operand} {ts:Array TypeId} {name:String}:bB P Ω ops ((Oper.mk d (.call ⟨.invoke x name,as.toArray,ts⟩) t pos aft none)::rest) K Kp fr H=kQ P Ω Ω (De P name (ev fr x)) (KT (ev fr x)::as.map (ev fr)) H d ops rest K Kp fr:=by
 show Gf P Ω name (ev fr x) _ H _ _=_
 unfold Gf kQ De KT
 cases ev fr x<;>try rfl
 rename_i t y
 dsimp only
 cases mth P t name with
 |none=>rfl
 |some k=>simp
theorem uC {name:String} {t:TypeId} {v:AV} {k:FuncId} (h:mth P t name=some k):De P name (.iface t v)=.func (.func k) [] []:=by simp only [De,h]
theorem zif {t:TypeId} {v:AV}:KT (.iface t v)=v:=(rfl)
theorem zok {Ω':Tbl} {f:FuncId} {p:List AV→AHeap→(AV→Prop)→Prop} {args first cap:List AV} :
 kQ P Ω ((f,Ent.pure p)::Ω') (.func (.func f) first cap) args H d ops rest K Kp fr=p (first++args++cap) H (bv (fun v=>bB P Ω ops rest K Kp (fr.put d v) H) ⟨⟩):=by
 simp [kQ,nf,nZ,Ent.pure,bv]
theorem zol {Ω':Tbl} {f:FuncId} {p:List AV→AHeap→(AEnd→AHeap→Prop)→Prop} {args first cap:List AV} :
 kQ P Ω ((f,Ent.effect p)::Ω') (.func (.func f) first cap) args H d ops rest K Kp fr=p (first++args++cap) H (cr (fun x H'=>match x with|.ret v=>bB P Ω ops rest K Kp (fr.put d v) H'|.panic v=>Kp fr v H') ⟨⟩):=by
 simp [kQ,nf,nZ,Ent.effect,cr]
 rfl
theorem zom {Ω':Tbl} {f:FuncId} {p:List AV→AHeap→(AV→AHeap→Prop)→Prop} {args first cap:List AV} :
 kQ P Ω ((f,Ent.some p)::Ω') (.func (.func f) first cap) args H d ops rest K Kp fr=p (first++args++cap) H (ki (fun v H'=>bB P Ω ops rest K Kp (fr.put d v) H') ⟨⟩):=by
 simp [kQ,nf,nZ,Ent.some,ki]
theorem zon {Ω':Tbl} {f g:FuncId} {e:Ent} {args first cap:List AV} (h:g≠f) :
 kQ P Ω ((g,e)::Ω') (.func (.func f) first cap) args H d ops rest K Kp fr=kQ P Ω Ω' (.func (.func f) first cap) args H d ops rest K Kp fr:=by
 simp [kQ,nf,nZ,h]
end
/-! ### Regions that draw their order -/
def dI (P:Program) (Ω:Tbl) (r:Option R) (d:Option Tmp) (ops:Array Oper) (rest:List Oper) (hs:HS) (ps:List (Nat × (AHeap→Prop))) (K:Fr→AHeap→Prop) (fr:Fr) (H:AHeap):Prop :=
 match r with
 |none=>False
 |some r=>r.c∧awD P Ω ops rest hs.nx ps K (fr.put d r.v) H
def dR (P:Program) (Ω:Tbl) (o:Oper) (r:Option R) (ops:Array Oper) (rest:List Oper) (hs:HS) (ps:List (Nat × (AHeap→Prop))) (K:Fr→AHeap→Prop) (fr:Fr) (H:AHeap):Prop :=
 match r with
 |none=>False
 |some r=>r.c∧sX hs (ll P o fr r.v)∧awD P Ω ops rest hs.nx ((hs.i,ll P o fr r.v)::ps) K (fr.put o.dst r.v) H
def dE (P:Program) (Ω:Tbl) (r:Option R) (d:Option Tmp) (ops:Array Oper) (rest:List Oper) (hs:HS) (ps:List (Nat × (AHeap→Prop))) (K:Fr→AHeap→Prop) (fr:Fr) (H:AHeap):Prop :=
 match r with
 |none=>False
 |some r=>r.c∧nX hs r.H ps∧awD P Ω ops rest (hs.push H) ps K (fr.put d r.v) r.H
def dC (P:Program) (Ω:Tbl) (td:Option TD) (r:Option R) (d:Option Tmp) (ops:Array Oper) (rest:List Oper) (hs:HS) (ps:List (Nat × (AHeap→Prop))) (K:Fr→AHeap→Prop) (fr:Fr) (H:AHeap):Prop :=
 match td with
 |some (.slice _)=>dE P Ω r d ops rest hs ps K fr H
 |_=>dI P Ω r d ops rest hs ps K fr H
def dS (P:Program) (Ω:Tbl) (td:Option TD) (o:Oper) (r:Option R) (ops:Array Oper) (rest:List Oper) (hs:HS) (ps:List (Nat × (AHeap→Prop))) (K:Fr→AHeap→Prop) (fr:Fr) (H:AHeap):Prop :=
 match td with
 |some (.array _ _)=>dR P Ω o r ops rest hs ps K fr H
 |_=>dI P Ω r o.dst ops rest hs ps K fr H
section
variable {d:Option Tmp} {o:Oper} {ops:Array Oper} {rest l:List Oper} {hs:HS} {ps:List (Nat × (AHeap→Prop))} {K:Fr→AHeap→Prop} {c:Prop} {v:AV} {r r':Option R} {G:AHeap}
@[congr] theorem Lk (h:r=r'):dI P Ω r d ops rest hs ps K fr H=dI P Ω r' d ops rest hs ps K fr H:=by rw [h]
@[congr] theorem Ld (h:r=r'):dR P Ω o r ops rest hs ps K fr H=dR P Ω o r' ops rest hs ps K fr H:=by rw [h]
@[congr] theorem Lh (h:r=r'):dE P Ω r d ops rest hs ps K fr H=dE P Ω r' d ops rest hs ps K fr H:=by rw [h]
@[congr] theorem LN {td td':Option TD} (h:td=td'):dC P Ω td r d ops rest hs ps K fr H=dC P Ω td' r d ops rest hs ps K fr H:=by rw [h]
theorem zdw:dI P Ω (some ⟨c,v,G⟩) d ops rest hs ps K fr H=(c∧awD P Ω ops rest hs.nx ps K (fr.put d v) H):=(rfl)
theorem zdx:dR P Ω o (some ⟨c,v,G⟩) ops rest hs ps K fr H=(c∧sX hs (ll P o fr v)∧awD P Ω ops rest hs.nx ((hs.i,ll P o fr v)::ps) K (fr.put o.dst v) H):=(rfl)
theorem zdy:dE P Ω (some ⟨c,v,G⟩) d ops rest hs ps K fr H=(c∧nX hs G ps∧awD P Ω ops rest (hs.push H) ps K (fr.put d v) G):=(rfl)
@[congr] theorem LG {td td':Option TD} (h:td=td'):dS P Ω td o r ops rest hs ps K fr H=dS P Ω td' o r ops rest hs ps K fr H:=by rw [h]
theorem zfb {e:TypeId}:dS P Ω (some (.slice e)) o r ops rest hs ps K fr H=dI P Ω r o.dst ops rest hs ps K fr H:=(rfl)
theorem zfc:dS P Ω (some .string) o r ops rest hs ps K fr H=dI P Ω r o.dst ops rest hs ps K fr H:=(rfl)
theorem zfd {n:Nat} {e:TypeId}:dS P Ω (some (.array n e)) o r ops rest hs ps K fr H=dR P Ω o r ops rest hs ps K fr H:=(rfl)
theorem zdz {e:TypeId}:dC P Ω (some (.slice e)) r d ops rest hs ps K fr H=dE P Ω r d ops rest hs ps K fr H:=(rfl)
theorem zea:dC P Ω (some .string) r d ops rest hs ps K fr H=dI P Ω r d ops rest hs ps K fr H:=(rfl)
theorem zeb {k:IntKind}:dC P Ω (some (.int k)) r d ops rest hs ps K fr H=dI P Ω r d ops rest hs ps K fr H:=(rfl)
theorem zdv:awD P Ω ops [] hs ps K fr H=K fr H:=(rfl)
theorem zeh {c:AHeap→Prop}:sX hs c=wj (hs.ms.headD []) c hs.hs:=(rfl)
theorem zei:nX hs H ps=v9 (hs.ms.headD []) H ps:=(rfl)
theorem zej {m:List Nat} {c:AHeap→Prop}:wj m c []=True:=(rfl)
theorem zek {m:List Nat} {j:Nat} {c:AHeap→Prop} {h:AHeap} {l:List (Nat × AHeap)}:wj m c ((j,h)::l)=(skip m j (c h)∧wj m c l):=(rfl)
theorem zel {m:List Nat}:v9 m H []=True:=(rfl)
theorem zem {m:List Nat} {j:Nat} {c:AHeap→Prop}:v9 m H ((j,c)::ps)=(skip m j (c H)∧v9 m H ps):=(rfl)
theorem zen {a:List (List Nat)} {i:Nat} {b:List (Nat × AHeap)} {p:List (Nat × Nat)} {q:List Nat}:(HS.mk a i b p q).ms=a:=(rfl)
theorem L8 {a:List (List Nat)} {i:Nat} {b:List (Nat × AHeap)} {p:List (Nat × Nat)} {q:List Nat}:(HS.mk a i b p q).i=i:=(rfl)
theorem zeo {a:List (List Nat)} {i:Nat} {b:List (Nat × AHeap)} {p:List (Nat × Nat)} {q:List Nat}:(HS.mk a i b p q).hs=b:=(rfl)
theorem zho {a:List (List Nat)} {i:Nat} {b:List (Nat × AHeap)} {p:List (Nat × Nat)} {q:List Nat}:(HS.mk a i b p q).lit=q:=(rfl)
theorem zhr {i:Nat}:eM [] i=false:=(rfl)
theorem zhs {i:Nat} {l:List Nat}:eM (i::l) i=true:=by simp [eM]
theorem zht {i j:Nat} {l:List Nat} (h:j≠i):eM (j::l) i=eM l i:=by simp [eM,h]
theorem zhp:(HS.nx hs).lit=hs.lit:=(rfl)
theorem zhq:(HS.push hs H).lit=hs.lit:=(rfl)
theorem zhh {a:List (List Nat)} {i:Nat} {b:List (Nat × AHeap)} {p:List (Nat × Nat)} {q:List Nat}:(HS.mk a i b p q).pre=p:=(rfl)
theorem zhi:(HS.nx hs).pre=hs.pre:=(rfl)
theorem zhj:(HS.push hs H).pre=hs.pre:=(rfl)
theorem zep:(HS.nx hs).ms=hs.ms.tail:=(rfl)
theorem LT:(HS.nx hs).i=hs.i+1:=(rfl)
theorem zeq:(HS.nx hs).hs=hs.hs:=(rfl)
theorem zer:(HS.push hs H).ms=hs.ms.tail:=(rfl)
theorem zes:(HS.push hs H).i=hs.i+1:=(rfl)
theorem zet:(HS.push hs H).hs=(hs.i,H)::hs.hs:=(rfl)
@[congr] theorem KK {m m':List Nat} {j j':Nat} {c:Prop} (h1:m=m') (h2:j=j'):skip m j c=skip m' j' c:=by rw [h1,h2]
theorem zeu {j:Nat} {c:Prop}:skip [] j c=c:=by simp [skip]
theorem zev {j:Nat} {m:List Nat} {c:Prop}:skip (j::m) j c=True:=by simp [skip]
theorem zew {i j:Nat} {m:List Nat} {c:Prop} (h:i≠j):skip (i::m) j c=skip m j c:=by simp [skip,Ne.symm h]
def Dc (r:Option R) (v:AV):Prop:=match r with|some r=>r.c∧r.v=v|none=>False
@[congr] theorem Ko (h:r=r'):Dc r v=Dc r' v:=by rw [h]
theorem zex {v':AV}:Dc (some ⟨c,v',G⟩) v=(c∧v'=v):=(rfl)
variable {t s u:TypeId} {pos:String} {aft:Array Edge} {x y z:Operand} {j n:Nat} {b:Bool}
theorem zey {g:Option (Nat × Bool)}:ll P (Oper.mk d (.load s x) t pos aft g) fr v G=Dc (zjc P s (ev fr x) G) v:=(rfl)
theorem zcn  : awD P Ω ops (Oper.mk d (.move x) t pos aft none::rest) hs ps K fr H=dI P Ω (some ⟨True,ev fr x,H⟩) d ops rest hs ps K fr H:=(rfl)
theorem zco {i:Nat}:awD P Ω ops (Oper.mk d (.assign (.tmp i)) t pos aft none::rest) hs ps K fr H=dI P Ω (zip P t (.tmp i) (ev fr (.tmp i)) H) d ops rest hs ps K fr H:=(rfl)
theorem zcp {w:Value}:awD P Ω ops (Oper.mk d (.assign (.const w)) t pos aft none::rest) hs ps K fr H=dE P Ω (zip P t (.const w) (ev fr (.const w)) H) d ops rest hs ps K fr H:=(rfl)
theorem zcq  : awD P Ω ops (Oper.mk d (.pick x y z) t pos aft none::rest) hs ps K fr H=dI P Ω (zix (ev fr x) (ev fr y) (ev fr z) H) d ops rest hs ps K fr H:=(rfl)
def dA (P:Program) (Ω:Tbl) (p:Option Nat) (s:TypeId) (d:Option Tmp) (ops:Array Oper) (rest:List Oper) (hs:HS) (ps:List (Nat × (AHeap→Prop))) (K:Fr→AHeap→Prop) (fr:Fr) (H:AHeap):Prop :=
 match p with
 |some r=>(iQ P s r H∧(ti P s).isSome=true)∧sX hs (iQ P s r)∧awD P Ω ops rest hs.nx ((hs.i,iQ P s r)::ps) K (fr.put d (.ptr r 0)) H
 |none=>dE P Ω (ziy P s H) d ops rest hs ps K fr H
@[congr] theorem Lv {p p':Option Nat} (h:p=p'):dA P Ω p s d ops rest hs ps K fr H=dA P Ω p' s d ops rest hs ps K fr H:=by rw [h]
theorem zhk {r:Nat}:dA P Ω (some r) s d ops rest hs ps K fr H=((iQ P s r H∧(ti P s).isSome=true)∧sX hs (iQ P s r)∧awD P Ω ops rest hs.nx ((hs.i,iQ P s r)::ps) K (fr.put d (.ptr r 0)) H):=(rfl)
theorem zhl:dA P Ω none s d ops rest hs ps K fr H=dE P Ω (ziy P s H) d ops rest hs ps K fr H:=(rfl)
theorem zhm {t:TypeId} {r:Nat} {G:AHeap}:iQ P t r G=(aL G r=some (kW P t)):=(rfl)
theorem zcr  : awD P Ω ops (Oper.mk d (.alloc s) t pos aft none::rest) hs ps K fr H=dA P Ω (if hs.i<100000 then eu hs.pre hs.i else none) s d ops rest hs ps K fr H:=by
 unfold awD oo dA mr
 dsimp only
 by_cases h:hs.i<100000
 ·rw [if_pos h,if_pos h];cases eu hs.pre hs.i<;>rfl
 ·rw [if_neg h,if_neg h];rfl
theorem zcs  : awD P Ω ops (Oper.mk d (.box s x) t pos aft none::rest) hs ps K fr H=dE P Ω (Eb (ev fr x) H) d ops rest hs ps K fr H:=(rfl)
theorem zct {pz:List (Nat × Operand)}:awD P Ω ops (Oper.mk d (.build s pz.toArray) t pos aft none::rest) hs ps K fr H=dI P Ω (ziz P s (pz.map fun p=>(p.1,ev fr p.2)) H) d ops rest hs ps K fr H:=(rfl)
def dL (P:Program) (Ω:Tbl) (b:Bool) (r:Option R) (d:Option Tmp) (ops:Array Oper) (rest:List Oper) (hs:HS) (ps:List (Nat × (AHeap→Prop))) (K:Fr→AHeap→Prop) (fr:Fr) (H:AHeap):Prop :=
 match b with
 |false=>dE P Ω r d ops rest hs ps K fr H
 |true=>match r with
  |some ⟨c,.slice _ sz xs,_⟩=>c∧nX hs (H.push (.cells (xs.flatMap AV.cells))) ps∧awD P Ω ops rest (hs.push H) ps K (fr.put d (.ms H.nx 0 sz xs.length)) (H.push (.cells (xs.flatMap AV.cells)))
  |_=>False
@[congr] theorem Ln {b b':Bool} (h1:b=b') (h2:r=r'):dL P Ω b r d ops rest hs ps K fr H=dL P Ω b' r' d ops rest hs ps K fr H:=by rw [h1,h2]
theorem zhu:dL P Ω false r d ops rest hs ps K fr H=dE P Ω r d ops rest hs ps K fr H:=(rfl)
theorem zhv {m:Mark} {sz:Nat} {xs:List AV}:dL P Ω true (some ⟨c,.slice m sz xs,G⟩) d ops rest hs ps K fr H =
 (c∧nX hs (H.push (.cells (xs.flatMap AV.cells))) ps∧awD P Ω ops rest (hs.push H) ps K (fr.put d (.ms H.nx 0 sz xs.length)) (H.push (.cells (xs.flatMap AV.cells)))):=(rfl)
def dF (P:Program) (Ω:Tbl) (q:Option Nat) (b g:Bool) (r:Option R) (d:Option Tmp) (ops:Array Oper) (rest:List Oper) (hs:HS) (ps:List (Nat × (AHeap→Prop))) (K:Fr→AHeap→Prop) (fr:Fr) (H:AHeap):Prop :=
 match q with
 |none=>dL P Ω b r d ops rest hs ps K fr H
 |some _=>match r with
  |some ⟨c,.slice _ sz xs,_⟩=>c∧awD P Ω ops rest hs.nx ps K (fr.put d (.slice (Gb g) sz xs)) H
  |some ⟨c,.ms _ 0 sz n,G⟩=>match aL G H.nx with
   |some cs=>c∧awD P Ω ops rest hs.nx ps K (fr.put d (.slice .any sz (ca sz n cs))) H
   |none=>False
  |_=>False
@[congr] theorem Lg {q q':Option Nat} {b g g':Bool} (h1:q=q') (h3:g=g') (h2:r=r'):dF P Ω q b g r d ops rest hs ps K fr H=dF P Ω q' b g' r' d ops rest hs ps K fr H:=by rw [h1,h2,h3]
theorem zhx {b g:Bool}:dF P Ω none b g r d ops rest hs ps K fr H=dL P Ω b r d ops rest hs ps K fr H:=(rfl)
theorem zhy {q:Nat} {b:Bool} {m:Mark} {sz:Nat} {xs:List AV}:dF P Ω (some q) b false (some ⟨c,.slice m sz xs,G⟩) d ops rest hs ps K fr H=(c∧awD P Ω ops rest hs.nx ps K (fr.put d (.slice .any sz xs)) H):=(rfl)
theorem zhz {q:Nat} {b:Bool} {m:Mark} {sz:Nat} {xs:List AV}:dF P Ω (some q) b true (some ⟨c,.slice m sz xs,G⟩) d ops rest hs ps K fr H=(c∧awD P Ω ops rest hs.nx ps K (fr.put d (.slice .full sz xs)) H):=(rfl)
theorem zcu {pz:List (Nat × Operand)}:awD P Ω ops (Oper.mk d (.buildSlice s n pz.toArray) t pos aft none::rest) hs ps K fr H=dF P Ω (eu hs.pre (hs.i+100000)) (eM hs.lit hs.i) (eM hs.lit (hs.i+300000)) (zja P s n (pz.map fun p=>(p.1,ev fr p.2)) H) d ops rest hs ps K fr H:=by
 unfold awD oo
 simp only [mr,om,uH]
 cases eu hs.pre (hs.i+100000) with
 |some q=>simp only [Option.isSome_some,if_true];rfl
 |none =>
  simp only [Option.isSome_none,Bool.false_eq_true,if_false,zhx]
  cases eM hs.lit hs.i with
  |false=>rfl
  |true=>simp only [if_true];rfl
theorem zcv  : awD P Ω ops (Oper.mk d (.store s x y) t pos aft none::rest) hs ps K fr H=dE P Ω (zje P s (ev fr x) (ev fr y) H) d ops rest hs ps K fr H:=(rfl)
theorem zcw  : awD P Ω ops (Oper.mk d (.nilCheck x) t pos aft none::rest) hs ps K fr H=dI P Ω (zjf (ev fr x) H) d ops rest hs ps K fr H:=(rfl)
theorem zcx {op:BinOp}:awD P Ω ops (Oper.mk d (.binOp op s x y u) t pos aft none::rest) hs ps K fr H=dI P Ω (n7 P op s (ev fr x) (ev fr y) H) d ops rest hs ps K fr H:=(rfl)
theorem zcy {op:UnOp}:awD P Ω ops (Oper.mk d (.unOp op s x) t pos aft none::rest) hs ps K fr H=dI P Ω (rUn op (ev fr x) H) d ops rest hs ps K fr H:=(rfl)
theorem zcz  : awD P Ω ops (Oper.mk d (.makeInterface s x) t pos aft none::rest) hs ps K fr H=dI P Ω (zjl P s (ev fr x) H) d ops rest hs ps K fr H:=(rfl)
theorem zda {f:Fn} {as bs:List Operand}:awD P Ω ops (Oper.mk d (.makeFunc f as.toArray bs.toArray) t pos aft none::rest) hs ps K fr H=dI P Ω (some ⟨True,.func f (as.map (ev fr)) (bs.map (ev fr)),H⟩) d ops rest hs ps K fr H:=(rfl)
theorem zdc {mz:Option Operand}:awD P Ω ops (Oper.mk d (.makeMap s mz) t pos aft none::rest) hs ps K fr H=dE P Ω (zis P s (mz.map (ev fr)) H) d ops rest hs ps K fr H:=(rfl)
theorem zde:awD P Ω ops (Oper.mk d (.mapUpdate s x y z) t pos aft none::rest) hs ps K fr H=dE P Ω (ziu P s (ev fr x) (ev fr y) (ev fr z) H) d ops rest hs ps K fr H:=(rfl)
theorem zdd:awD P Ω ops (Oper.mk d (.lookup s x y b) t pos aft none::rest) hs ps K fr H=dR P Ω (Oper.mk d (.lookup s x y b) t pos aft none) (zit P s (ev fr x) (ev fr y) b H) ops rest hs ps K fr H:=(rfl)
theorem zez {g:Option (Nat × Bool)}:ll P (Oper.mk d (.lookup s x y b) t pos aft g) fr v G=Dc (zit P s (ev fr x) (ev fr y) b G) v:=(rfl)
def dG (P:Program) (Ω:Tbl) (q:Option Nat) (r:Option R) (d:Option Tmp) (ops:Array Oper) (rest:List Oper) (hs:HS) (ps:List (Nat × (AHeap→Prop))) (K:Fr→AHeap→Prop) (fr:Fr) (H:AHeap):Prop :=
 match q with
 |none=>dE P Ω r d ops rest hs ps K fr H
 |some _=>match r with
  |some ⟨c,.slice _ sz xs,_⟩=>c∧awD P Ω ops rest hs.nx ps K (fr.put d (.slice (Gb (eM hs.lit (hs.i+300000))) sz xs)) H
  |some ⟨c,.ms _ 0 sz n,G⟩=>match aL G H.nx with
   |some cs=>c∧awD P Ω ops rest hs.nx ps K (fr.put d (.slice .any sz (ca sz n cs))) H
   |none=>False
  |_=>False
@[congr] theorem LB {q q':Option Nat} (h1:q=q') (h2:r=r'):dG P Ω q r d ops rest hs ps K fr H=dG P Ω q' r' d ops rest hs ps K fr H:=by rw [h1,h2]
theorem zia:dG P Ω none r d ops rest hs ps K fr H=dE P Ω r d ops rest hs ps K fr H:=(rfl)
theorem zib {q i sz n:Nat} {cs:List AV}:dG P Ω (some q) (some ⟨c,.ms i 0 sz n,H.push (.cells cs)⟩) d ops rest hs ps K fr H=(c∧awD P Ω ops rest hs.nx ps K (fr.put d (.slice .any sz (ca sz n cs))) H):=by
 show (match aL (H.push (.cells cs)) H.nx with|some cs=>c∧awD P Ω ops rest hs.nx ps K (fr.put d (.slice .any sz (ca sz n cs))) H|none=>False)=_
 rw [show aL (H.push (.cells cs)) H.nx=some cs by unfold aL;rw [AHeap.get_push_new]]
theorem zdb  : awD P Ω ops (Oper.mk d (.makeSlice s x y) t pos aft none::rest) hs ps K fr H=dG P Ω (eu hs.pre (hs.i+100000)) (zir P s (ev fr x) (ev fr y) H) d ops rest hs ps K fr H:=by
 unfold awD oo
 simp only [mr,om,uH,zB]
 cases eu hs.pre (hs.i+100000) with
 |some q =>
  simp only [Option.isSome_some,if_true]
  unfold qu fk dG
  rfl
 |none=>simp only [Option.isSome_none,Bool.false_eq_true,if_false];rfl
theorem zdf {lo hi mx:Option Operand}:awD P Ω ops (Oper.mk d (.slice s x lo hi mx) t pos aft none::rest) hs ps K fr H=dS P Ω ((ti P s).map TI.desc) (Oper.mk d (.slice s x lo hi mx) t pos aft none) (ziw P s (ev fr x) (lo.map (ev fr)) (hi.map (ev fr)) (mx.map (ev fr)) H) ops rest hs ps K fr H:=by
 unfold awD oo dS dR dI
 simp only [mr,om,uH,zB,iz,Bool.false_eq_true,if_false,kind,qu,fk]
 cases ziw P s (ev fr x) (lo.map (ev fr)) (hi.map (ev fr)) (mx.map (ev fr)) H with
 |none=>simp only;split<;>rfl
 |some r =>
  simp only
  cases (ti P s).map TI.desc with
  |none=>rfl
  |some td=>cases td<;>rfl
theorem zfa {lo hi mx:Option Operand} {g:Option (Nat × Bool)}:ll P (Oper.mk d (.slice s x lo hi mx) t pos aft g) fr v G=Dc (ziw P s (ev fr x) (lo.map (ev fr)) (hi.map (ev fr)) (mx.map (ev fr)) G) v:=(rfl)
theorem zdg  : awD P Ω ops (Oper.mk d (.fieldAddr s x n) t pos aft none::rest) hs ps K fr H=dI P Ω (zjg P s (ev fr x) n H) d ops rest hs ps K fr H:=(rfl)
theorem zdh  : awD P Ω ops (Oper.mk d (.field s x n) t pos aft none::rest) hs ps K fr H=dI P Ω (zjh P s (ev fr x) n H) d ops rest hs ps K fr H:=(rfl)
theorem zdi  : awD P Ω ops (Oper.mk d (.indexAddr s x y) t pos aft none::rest) hs ps K fr H=dI P Ω (zji P s (ev fr x) (ev fr y) H) d ops rest hs ps K fr H:=(rfl)
theorem zdj  : awD P Ω ops (Oper.mk d (.index s x y) t pos aft none::rest) hs ps K fr H=dI P Ω (zjj P s (ev fr x) (ev fr y) H) d ops rest hs ps K fr H:=(rfl)
theorem zdk  : awD P Ω ops (Oper.mk d (.typeAssert x s u b) t pos aft none::rest) hs ps K fr H=dI P Ω (gl P (ev fr x) u b H) d ops rest hs ps K fr H:=(rfl)
theorem zdl  : awD P Ω ops (Oper.mk d (.extract x n) t pos aft none::rest) hs ps K fr H=dI P Ω (zjm (ev fr x) n H) d ops rest hs ps K fr H:=(rfl)
theorem zdm {as:List Operand} {ts:List TypeId}:awD P Ω ops (Oper.mk d (.call ⟨.builtin .len,as.toArray,ts.toArray⟩) t pos aft none::rest) hs ps K fr H=dI P Ω (ziq P .len ts (as.map (ev fr)) H) d ops rest hs ps K fr H:=(rfl)
theorem zdn {as:List Operand} {ts:List TypeId}:awD P Ω ops (Oper.mk d (.call ⟨.builtin .min,as.toArray,ts.toArray⟩) t pos aft none::rest) hs ps K fr H=dI P Ω (ziq P .min ts (as.map (ev fr)) H) d ops rest hs ps K fr H:=(rfl)
theorem zdo {as:List Operand} {ts:List TypeId}:awD P Ω ops (Oper.mk d (.call ⟨.builtin .max,as.toArray,ts.toArray⟩) t pos aft none::rest) hs ps K fr H=dI P Ω (ziq P .max ts (as.map (ev fr)) H) d ops rest hs ps K fr H:=(rfl)
def dP (P:Program) (Ω:Tbl) (b:Bool) (ts:List TypeId) (vs:List AV) (r:Option R) (d:Option Tmp) (ops:Array Oper) (rest:List Oper) (hs:HS) (ps:List (Nat × (AHeap→Prop))) (K:Fr→AHeap→Prop) (fr:Fr) (H:AHeap):Prop :=
 match b with
 |false=>dE P Ω r d ops rest hs ps K fr H
 |true=>Ae P ts vs H fun v H'=>nX hs H' ps∧awD P Ω ops rest (hs.push H) ps K (fr.put d v) H'
@[congr] theorem Lw {b b':Bool} {ts:List TypeId} {vs vs':List AV} (h1:b=b') (h3:vs=vs') (h2:r=r'):dP P Ω b ts vs r d ops rest hs ps K fr H=dP P Ω b' ts vs' r' d ops rest hs ps K fr H:=by rw [h1,h2,h3]
theorem zic {ts:List TypeId} {vs:List AV}:dP P Ω false ts vs r d ops rest hs ps K fr H=dE P Ω r d ops rest hs ps K fr H:=(rfl)
def dQ (P:Program) (Ω:Tbl) (r:Option R) (d:Option Tmp) (ops:Array Oper) (rest:List Oper) (hs:HS) (ps:List (Nat × (AHeap→Prop))) (K:Fr→AHeap→Prop) (fr:Fr) (H:AHeap):Prop :=
 match r with
 |some r=>r.c∧FC H r.v fun v H'=>nX hs H' ps∧awD P Ω ops rest (hs.push H) ps K (fr.put d v) H'
 |none=>False
@[congr] theorem Lm (h2:r=r'):dQ P Ω r d ops rest hs ps K fr H=dQ P Ω r' d ops rest hs ps K fr H:=by rw [h2]
theorem zid {ts:List TypeId} {sz:Nat} {x:AV} {t t2:TypeId}:dP P Ω true (t::t2::ts) [.slice .full sz [],x] r d ops rest hs ps K fr H=dQ P Ω (zjr P t t2 sz [] x H) d ops rest hs ps K fr H:=(rfl)
theorem zie {c:Prop} {i sz:Nat} {xs:List AV} {G:AHeap}:dQ P Ω (some ⟨c,.slice (.own i) sz xs,G⟩) d ops rest hs ps K fr H=(c∧xs≠[]∧(∀ x∈xs.flatMap AV.cells,x.lt 0)∧nX hs (H.push (.part (xs.flatMap AV.cells))) ps∧awD P Ω ops rest (hs.push H) ps K (fr.put d (.ms H.nx 0 sz xs.length)) (H.push (.part (xs.flatMap AV.cells)))):=(rfl)
theorem zdp {as:List Operand} {ts:List TypeId}:awD P Ω ops (Oper.mk d (.call ⟨.builtin .append,as.toArray,ts.toArray⟩) t pos aft none::rest) hs ps K fr H=dP P Ω (eM hs.lit (hs.i+200000)) ts (as.map (ev fr)) (ziq P .append ts (as.map (ev fr)) H) d ops rest hs ps K fr H:=by
 unfold awD oo dP
 simp only [mr,om,uH,zB]
 cases eM hs.lit (hs.i+200000) with
 |false=>rfl
 |true=>simp only [if_true,Gv];rfl
theorem zdq {as:List Operand} {ts:List TypeId}:awD P Ω ops (Oper.mk d (.call ⟨.builtin .copy,as.toArray,ts.toArray⟩) t pos aft none::rest) hs ps K fr H=dE P Ω (ziq P .copy ts (as.map (ev fr)) H) d ops rest hs ps K fr H:=(rfl)
theorem zdr:awD P Ω ops (Oper.mk d (.load s x) t pos aft none::rest) hs ps K fr H=dR P Ω (Oper.mk d (.load s x) t pos aft none) (zjc P s (ev fr x) H) ops rest hs ps K fr H:=(rfl)
theorem zds:awD P Ω ops (Oper.mk d (.convert s u x) t pos aft none::rest) hs ps K fr H=dC P Ω ((ti P u).map TI.desc) (zjk P s u (ev fr x) H) d ops rest hs ps K fr H:=by
 unfold awD oo dC dE dI
 simp only [mr,om,uH,zB,iz,Bool.false_eq_true,if_false,kind,qu,fk]
 cases zjk P s u (ev fr x) H with
 |none=>simp only;split<;>rfl
 |some r =>
  simp only
  cases (ti P u).map TI.desc with
  |none=>rfl
  |some td=>cases td<;>rfl
/-! calls -/
def ox (P:Program) (Ω Ω':Tbl) (f:AV) (args:List AV) (d:Option Tmp) (ops:Array Oper) (rest:List Oper) (hs:HS) (ps:List (Nat × (AHeap→Prop))) (K:Fr→AHeap→Prop) (fr:Fr) (H:AHeap):Prop :=
 match f with
 |.func (.func k) first cap=>qM Ω' k (first++args++cap) hs ps (fun v hs' ps' H'=>awD P Ω ops rest hs' ps' K (fr.put d v) H') H
 |_=>False
@[congr] theorem JV {Ω':Tbl} {f f':AV} {args args':List AV} (h1:f=f') (h2:args=args') :
 ox P Ω Ω' f args d ops rest hs ps K fr H=ox P Ω Ω' f' args' d ops rest hs ps K fr H:=by rw [h1,h2]
theorem zdt {as:List Operand} {ts:Array TypeId}:awD P Ω ops (Oper.mk d (.call ⟨.value x,as.toArray,ts⟩) t pos aft none::rest) hs ps K fr H =
 ox P Ω Ω (ev fr x) (as.map (ev fr)) d ops rest hs ps K fr H:=(rfl)
theorem zoo {Ω':Tbl} {f:FuncId} {p:List AV→AHeap→(AV→Prop)→Prop} {args first cap:List AV} :
 ox P Ω ((f,Ent.pure p)::Ω') (.func (.func f) first cap) args d ops rest hs ps K fr H =
  p (first++args++cap) H (bv (fun v=>sX hs (fun h=>p (first++args++cap) h (fun v'=>v'=v))∧awD P Ω ops rest hs.nx ((hs.i,fun h=>h=H∨p (first++args++cap) h (fun v'=>v'=v))::ps) K (fr.put d v) H) ⟨⟩):=by
 simp [ox,qM,nZ,Ent.pure,bv]
theorem zop {Ω':Tbl} {f:FuncId} {p:List AV→AHeap→(AEnd→AHeap→Prop)→Prop} {args first cap:List AV} :
 ox P Ω ((f,Ent.effect p)::Ω') (.func (.func f) first cap) args d ops rest hs ps K fr H =
  p (first++args++cap) H (cr (fun x H'=>match x with|.ret v=>nX hs H' ps∧awD P Ω ops rest (hs.push H) ps K (fr.put d v) H'|.panic _=>False) ⟨⟩):=by
 simp [ox,qM,nZ,Ent.effect,cr]
 rfl
theorem zoq {Ω':Tbl} {f g:FuncId} {e:Ent} {args first cap:List AV} (h:g≠f) :
 ox P Ω ((g,e)::Ω') (.func (.func f) first cap) args d ops rest hs ps K fr H=ox P Ω Ω' (.func (.func f) first cap) args d ops rest hs ps K fr H:=by
 simp [ox,qM,nZ,h]
/-! guards -/
def dgK (P:Program) (Ω:Tbl) (g:Option Nat) (want:Bool) (o:Oper) (ops:Array Oper) (rest:List Oper) (hs:HS) (ps:List (Nat × (AHeap→Prop))) (K:Fr→AHeap→Prop) (fr:Fr) (H:AHeap):Prop :=
 match g with
 |some i=>dgK2 (Fr.get fr i) i
 |none=>False
where
 dgK2 (v:AV) (i:Nat):Prop :=
 match v with
 |.bool b=>(b=want→awD P Ω ops (o::rest) hs ps K ((i,.bool want)::fr) H)∧(b=(!want)→awD P Ω ops rest hs.nx ps K (Fr.put ((i,.bool (!want))::fr) o.dst (.tup [])) H)
 |.tup []=>awD P Ω ops rest hs.nx ps K (fr.put o.dst (.tup [])) H
 |_=>False
theorem zdu {want:Bool} {op:Op}:awD P Ω l.toArray (Oper.mk d op t pos aft (some (j,want))::rest) hs ps K fr H =
 dgK P Ω (ny l j) want (Oper.mk d op t pos aft none) l.toArray rest hs ps K fr H:=by
 unfold awD dgK
 simp only [rF]
 have e:(l.toArray[j]?).bind (·.dst)=ny l j:=nU
 have e2:ii l.toArray j=ny l j:=nU
 rw [e,e2]
 cases ny l j with
 |none=>rfl
 |some i =>
  simp only [dgK.dgK2]
  cases Fr.get fr i
  case tup vs=>cases vs<;>rfl
  all_goals rfl
variable {want:Bool} {i:Nat}
theorem zfe:dgK P Ω (some i) want o ops rest hs ps K fr H=dgK.dgK2 P Ω want o ops rest hs ps K fr H (Fr.get fr i) i:=(rfl)
@[congr] theorem K4 {g g':Option Nat} (h:g=g'):dgK P Ω g want o ops rest hs ps K fr H=dgK P Ω g' want o ops rest hs ps K fr H:=by rw [h]
@[congr] theorem KP {v':AV} (h:v=v'):dgK.dgK2 P Ω want o ops rest hs ps K fr H v i=dgK.dgK2 P Ω want o ops rest hs ps K fr H v' i:=by rw [h]
theorem zfh {op:Op} {d:Tmp}:dgK.dgK2 P Ω want (Oper.mk (some d) op t pos aft none) ops rest hs ps K fr H (.tup []) i=awD P Ω ops rest hs.nx ps K ((d,.tup [])::fr) H:=(rfl)
theorem zff {op:Op} {d:Tmp} {b:Bool}:dgK.dgK2 P Ω false (Oper.mk (some d) op t pos aft none) ops rest hs ps K fr H (.bool b) i =
 k8 b (awD P Ω ops rest hs.nx ps K ((d,.tup [])::(i,.bool true)::fr) H) (awD P Ω ops (Oper.mk (some d) op t pos aft none::rest) hs ps K ((i,.bool false)::fr) H):=by
 unfold k8 dgK.dgK2;cases b<;>simp [Fr.put]
theorem zfg {op:Op} {d:Tmp} {b:Bool}:dgK.dgK2 P Ω true (Oper.mk (some d) op t pos aft none) ops rest hs ps K fr H (.bool b) i =
 k8 b (awD P Ω ops (Oper.mk (some d) op t pos aft none::rest) hs ps K ((i,.bool true)::fr) H) (awD P Ω ops rest hs.nx ps K ((d,.tup [])::(i,.bool false)::fr) H):=by
 unfold k8 dgK.dgK2;cases b<;>simp [Fr.put]
end
theorem zee {i:Nat}:aA [] i=[]:=(rfl)
theorem zef {i:Nat} {m:List (List Nat)} {l:List (Nat × List (List Nat))}:aA ((i,m)::l) i=m:=by simp [aA]
theorem zeg {i j:Nat} {m:List (List Nat)} {l:List (Nat × List (List Nat))} (h:i≠j):aA ((j,m)::l) i=aA l i:=by simp [aA,h]
/-! ### Frames -/
theorem zga {i:Nat}:ev fr (.tmp i)=Fr.get fr i:=(rfl)
theorem zgb {kd:IntKind} {n:Int}:ev fr (.const (.int kd n))=.int kd n:=(rfl)
theorem zgc {b:Bool}:ev fr (.const (.bool b))=.bool b:=(rfl)
theorem zgd:ev fr (.const (.slice none 0 0))=.slice .nil 1 []:=(rfl)
theorem zge:ev fr (.const (.pointer none))=.nilp:=(rfl)
theorem zgf:ev fr (.const .nilIface)=.nili:=(rfl)
theorem zgg:ev fr (.const .nilFunc)=.nilf:=(rfl)
theorem zgh:ev fr (.const (.map none))=.nilm:=(rfl)
theorem zgi {s:ByteArray}:ev fr (.const (.string s))=.str s.data.toList:=(rfl)
theorem zgj {f:Nat}:ev fr (.func f)=.func (.func f) [] []:=(rfl)
theorem zgk {i:Nat} {v:AV}:Fr.get ((i,v)::fr) i=v:=by simp [Fr.get]
theorem zgl {i j:Nat} {v:AV} (h:j≠i):Fr.get ((j,v)::fr) i=Fr.get fr i:=by simp [Fr.get,h]
end Go.AL
