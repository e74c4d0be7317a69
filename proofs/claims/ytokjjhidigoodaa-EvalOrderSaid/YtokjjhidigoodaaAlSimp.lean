/- Contracts and plain laws, a part of the proof; no condition of its own. -/
import Derived.Test.YtokjjhidigoodaaAlCode
/- The abstract layer, fifth part: the rules by which simp walks code. -/
namespace Go.AL
set_option linter.all false
variable {P:Program} {Ω:Tbl} {B:Conts} {k:List KItem} {fr:Fr} {H:AHeap}
theorem zaa {K:Conts}:aw P Ω .skip K fr H=K.n fr H:=(rfl)
theorem zae {K:Conts} {id:Nat} {l:List Oper}:aw P Ω (.region id l.toArray false) K fr H=cP P Ω K.n0 l.toArray ((K.T id).headD []) l K.n K.p fr H:=(rfl)
@[congr] theorem wG {ops:Array Oper} {is is':List Nat} {l:List Oper} {K:Fr→AHeap→Prop} {Kp:Fr→AV→AHeap→Prop} {n0:Nat} (h:is=is'):cP P Ω n0 ops is l K Kp fr H=cP P Ω n0 ops is' l K Kp fr H:=by rw [h]
theorem zaf {ops:Array Oper} {l:List Oper} {K:Fr→AHeap→Prop} {Kp:Fr→AV→AHeap→Prop} {n0:Nat}:cP P Ω n0 ops [] l K Kp fr H=aE P Ω ops l K Kp fr H:=(rfl)
theorem pW {n0:Nat} {ops:Array Oper} {i:Nat} {is:List Nat} {l:List Oper} {K:Fr→AHeap→Prop} {Kp:Fr→AV→AHeap→Prop} (h:i % 3=0):cP P Ω n0 ops (i::is) l K Kp fr H=aE P Ω ops (l.take (i/3)) (fun fr H=>match l.drop (i/3) with
 |o::rest=>o.guard=none∧kX P o fr H (cP P Ω n0 ops is rest K Kp)
 |[]=>False) Kp fr H:=if_pos h
theorem oM {n0:Nat} {ops:Array Oper} {i:Nat} {is:List Nat} {l:List Oper} {K:Fr→AHeap→Prop} {Kp:Fr→AV→AHeap→Prop} (h:i % 3=1):cP P Ω n0 ops (i::is) l K Kp fr H=aE P Ω ops (l.take (i/3)) (fun fr H=>j5 n0 (cP P Ω n0 ops is (l.drop (i/3)) K Kp) fr H) Kp fr H :=
 (if_neg (by omega)).trans (if_pos h)
theorem rD {n0:Nat} {ops:Array Oper} {i:Nat} {is:List Nat} {l:List Oper} {K:Fr→AHeap→Prop} {Kp:Fr→AV→AHeap→Prop} (h:i % 3=2):cP P Ω n0 ops (i::is) l K Kp fr H=aE P Ω ops (l.take (i/3)) (fun fr H=>match l.drop (i/3) with
 |o::rest=>o.guard=none∧lU P o fr H (cP P Ω n0 ops is rest K Kp)
 |[]=>False) Kp fr H:=(if_neg (by omega)).trans (if_neg (by omega))
theorem u3 {n0:Nat} {K:Fr→AHeap→Prop} (s j sz:Nat) (cs:List AV) (h1:Fr.get fr s=.agg cs) (h2:cs[j]?=some (.slice .nil 1 [])) (hk:K ((s,.agg (cs.set j (.slice (.own H.nx) sz [])))::fr) (H.push (.buf sz 0))):j5 n0 K fr H:=.inr (.inl ⟨s,j,sz,cs,h1,h2,hk⟩)
theorem sX {n0:Nat} {K:Fr→AHeap→Prop} (s j sz:Nat) {id off:Nat} {cs:List AV} (h0:Fr.get fr s=.ptr id off) (hc:ak H id=some cs) (hj:cs[j]?=some (.slice .nil 1 [])) (h:K fr ((H.push (.buf sz 0)).set id (.cells (cs.set j (.slice (.own H.nx) sz []))))):j5 n0 K fr H:=.inr (.inr (.inr (.inr (.inr (.inl ⟨s,id,off,j,sz,cs,h0,hc,hj,h⟩)))))
theorem zfj {n0:Nat} {K:Fr→AHeap→Prop}:lR [] n0 K fr H=K fr H:=(rfl)
theorem zfk {n0:Nat} {m:List Nat} {l:List (List Nat)} {K:Fr→AHeap→Prop}:lR (m::l) n0 K fr H=j5 n0 K fr H:=(rfl)
@[congr] theorem xZ {l l':List (List Nat)} {n0:Nat} {K:Fr→AHeap→Prop} (h:l=l'):lR l n0 K fr H=lR l' n0 K fr H:=by rw [h]
@[congr] theorem x8 {n0:Nat} {K:Fr→AHeap→Prop} {fr':Fr} (h:fr=fr'):j5 n0 K fr H=j5 n0 K fr' H:=by rw [h]
theorem zfi {K:Conts} {id:Nat} {l:List Oper}:aw P Ω (.region id l.toArray true) K fr H=lR (K.T (id+400)) K.n0 (fun fr H=>jN P (K.T (id+800)) [] H fun pre H=>awD P Ω l.toArray l ⟨K.T id,0,[],pre,(K.T (id+1200)).headD []⟩ [] K.n fr H) fr H:=(rfl)
theorem zhc {pre:List (Nat × Nat)} {N:List (Nat × Nat)→AHeap→Prop}:jN P [] pre H N=N pre H:=(rfl)
theorem zhd {i t:Nat} {l:List (List Nat)} {pre:List (Nat × Nat)} {N:List (Nat × Nat)→AHeap→Prop}:jN P ([i,t]::l) pre H N=((ti P t).isSome=true∧bK pre i=none∧jN P l ((i,H.nx)::pre) (H.push (.cells (fa P t))) N):=(rfl)
theorem zhw {i:Nat} {l:List (List Nat)} {pre:List (Nat × Nat)} {N:List (Nat × Nat)→AHeap→Prop}:jN P ([i]::l) pre H N=(100000≤i∧bK pre i=none∧jN P l ((i,0)::pre) H N):=(rfl)
theorem zhe {i:Nat}:bK [] i=none:=(rfl)
theorem zhf {i r:Nat} {l:List (Nat × Nat)}:bK ((i,r)::l) i=some r:=by simp [bK]
theorem zhg {i j r:Nat} {l:List (Nat × Nat)} (h:j≠i):bK ((j,r)::l) i=bK l i:=by simp [bK,h]
theorem zhn {t:TypeId}:fa P t=(ti P t).elim [] fun i=>i.zero.cells:=(rfl)
@[congr] theorem y9 {l l':List (List Nat)} {pre:List (Nat × Nat)} {N:List (Nat × Nat)→AHeap→Prop} (h:l=l'):jN P l pre H N=jN P l' pre H N:=by rw [h]
theorem zag {a b:Code}:aw P Ω (.seq a b) (KI P Ω B k) fr H=aw P Ω a (KI P Ω B (.code b::k)) fr H:=(rfl)
theorem zah {id:Nat} {c:Code}:aw P Ω (.block id c) (KI P Ω B k) fr H=aw P Ω c (KI P Ω B (.blk id::k)) fr H:=(rfl)
theorem zai {K:Conts} {id:Nat}:aw P Ω (.exit id) K fr H=K.x id fr H:=(rfl)
theorem zab {K:Conts} {l:Nat}:aw P Ω (.label l) K fr H=K.n fr H:=(rfl)
theorem zaj {K:Conts}:aw P Ω .ret K fr H=K.r fr H:=(rfl)
theorem zak {c:Code}:(KI P Ω B (.code c::k)).n fr H=aw P Ω c (KI P Ω B k) fr H:=(rfl)
theorem zal {id:Nat}:(KI P Ω B (.blk id::k)).n fr H=(KI P Ω B k).n fr H:=(rfl)
theorem zam {R:Fr→AHeap→Prop}:(KI P Ω B (.back R::k)).n fr H=R fr H:=(rfl)
theorem zan:(KI P Ω B []).n fr H=B.n fr H:=(rfl)
theorem zao {id:Nat}:(KI P Ω B (.blk id::k)).x id fr H=(KI P Ω B k).n fr H:=by simp [KI]
theorem zap {id i:Nat} (h:i≠id):(KI P Ω B (.blk id::k)).x i fr H=(KI P Ω B k).x i fr H:=by simp [KI,h]
theorem zaq {c:Code} {i:Nat}:(KI P Ω B (.code c::k)).x i fr H=(KI P Ω B k).x i fr H:=(rfl)
theorem zar {R:Fr→AHeap→Prop} {i:Nat}:(KI P Ω B (.back R::k)).x i fr H=(KI P Ω B k).x i fr H:=(rfl)
theorem zZ:(KI P Ω B k).r=B.r:=by
 induction k with
 |nil=>rfl
 |cons x k ih=>cases x<;>exact ih
theorem zK:(KI P Ω B k).T=B.T:=by
 induction k with
 |nil=>rfl
 |cons a k ih=>cases a<;>exact ih
theorem zad {P:Program} {Ω:Tbl} {k:List KItem} {fr:Fr} {H:AHeap} {rs:List ResultVar} {n0:Nat} {e:AEnd} {H1:AHeap} {id:Nat} {l:List Oper}:aw P Ω (.region id l.toArray false) (KI P Ω (kq P rs n0 e H1 (al [])) k) fr H=aE P Ω l.toArray l (KI P Ω (kq P rs n0 e H1 (al [])) k).n (KI P Ω (kq P rs n0 e H1 (al [])) k).p fr H:=by
 rw [zae,zK];rfl
theorem Ap:(KI P Ω B k).r fr H=B.r fr H:=by rw [zZ]
theorem zM:(KI P Ω B k).p=B.p:=by
 induction k with
 |nil=>rfl
 |cons x k ih=>cases x<;>exact ih
theorem AG {v:AV}:(KI P Ω B k).p fr v H=B.p fr v H:=by rw [zM]
/-! ### Conditions -/
def ik (P:Program) (Ω:Tbl) (v:AV) (a b:Code) (K:Conts) (fr:Fr) (H:AHeap):Prop :=
 match v with
 |.bool t=>(t=true→aw P Ω a K fr H)∧(t=false→aw P Ω b K fr H)
 |_=>False
theorem zas {K:Conts} {c:Operand} {a b:Code}:aw P Ω (.cond c a b) K fr H=ik P Ω (ev fr c) a b K fr H:=(rfl)
theorem zat {K:Conts} {a b:Code}:ik P Ω (.bool true) a b K fr H=aw P Ω a K fr H:=by simp [ik]
theorem zau {K:Conts} {a b:Code}:ik P Ω (.bool false) a b K fr H=aw P Ω b K fr H:=by simp [ik]
/-- fF ways, for a test that is not decided -/
def fF (t:Bool) (A B:Prop):Prop:=(t=true→A)∧(t=false→B)
theorem zav {K:Conts} {t:Bool} {a b:Code}:ik P Ω (.bool t) a b K fr H=fF t (aw P Ω a K fr H) (aw P Ω b K fr H):=(rfl)
theorem ar {K:Conts} {t:Bool} {a b:Code} (h1:t=true→aw P Ω a K fr H) (h2:t=false→aw P Ω b K fr H):ik P Ω (.bool t) a b K fr H:=⟨h1,h2⟩
@[congr] theorem ye {v v':AV} {K:Conts} {a b:Code} (h:v=v'):ik P Ω v a b K fr H=ik P Ω v' a b K fr H:=by rw [h]
/-! ### Operations -/
def bj (P:Program) (Ω:Tbl) (r:Option R) (d:Option Tmp) (ops:Array Oper) (rest:List Oper) (K:Fr→AHeap→Prop) (Kp:Fr→AV→AHeap→Prop) (fr:Fr):Prop :=
 match r with
 |some r=>r.c∧aE P Ω ops rest K Kp (fr.put d r.v) r.H
 |none=>False
@[congr] theorem yl {r r':Option R} {d:Option Tmp} {ops:Array Oper} {rest:List Oper} {K:Fr→AHeap→Prop} {Kp:Fr→AV→AHeap→Prop}
 (h:r=r'):bj P Ω r d ops rest K Kp fr=bj P Ω r' d ops rest K Kp fr:=by rw [h]
section
variable {d:Option Tmp} {i:Tmp} {ops:Array Oper} {rest:List Oper} {K:Fr→AHeap→Prop} {Kp:Fr→AV→AHeap→Prop} {c:Prop} {v:AV}
theorem zfw:bj P Ω (some ⟨True,v,H⟩) (some i) ops rest K Kp fr=aE P Ω ops rest K Kp ((i,v)::fr) H:=by simp [bj,Fr.put]
theorem zfx:bj P Ω (some ⟨c,v,H⟩) (some i) ops rest K Kp fr=(c∧aE P Ω ops rest K Kp ((i,v)::fr) H):=(rfl)
theorem zfy:bj P Ω (some ⟨True,v,H⟩) none ops rest K Kp fr=aE P Ω ops rest K Kp fr H:=by simp [bj,Fr.put]
theorem zfz:bj P Ω (some ⟨c,v,H⟩) none ops rest K Kp fr=(c∧aE P Ω ops rest K Kp fr H):=(rfl)
theorem zaw:aE P Ω ops [] K Kp fr H=K fr H:=(rfl)
variable {t s u:TypeId} {pos:String} {aft:Array Edge} {x y z:Operand} {j n:Nat} {b:Bool}
theorem zax:aE P Ω ops ((Oper.mk d (.move x) t pos aft none)::rest) K Kp fr H=bj P Ω (some ⟨True,ev fr x,H⟩) d ops rest K Kp fr:=(rfl)
theorem zay:aE P Ω ops ((Oper.mk d (.assign x) t pos aft none)::rest) K Kp fr H=bj P Ω (zip P t x (ev fr x) H) d ops rest K Kp fr:=(rfl)
theorem zaz:aE P Ω ops ((Oper.mk d (.pick x y z) t pos aft none)::rest) K Kp fr H=bj P Ω (zix (ev fr x) (ev fr y) (ev fr z) H) d ops rest K Kp fr:=(rfl)
theorem zba:aE P Ω ops ((Oper.mk d (.alloc s) t pos aft none)::rest) K Kp fr H=bj P Ω (ziy P s H) d ops rest K Kp fr:=(rfl)
theorem zbb:aE P Ω ops ((Oper.mk d (.box s x) t pos aft none)::rest) K Kp fr H=bj P Ω (sW (ev fr x) H) d ops rest K Kp fr:=(rfl)
theorem zbc {ps:List (Nat × Operand)}:aE P Ω ops ((Oper.mk d (.build s ps.toArray) t pos aft none)::rest) K Kp fr H=bj P Ω (ziz P s (ps.map fun p=>(p.1,ev fr p.2)) H) d ops rest K Kp fr:=(rfl)
theorem zbd {ps:List (Nat × Operand)}:aE P Ω ops ((Oper.mk d (.buildSlice s n ps.toArray) t pos aft none)::rest) K Kp fr H=bj P Ω (zja P s n (ps.map fun p=>(p.1,ev fr p.2)) H) d ops rest K Kp fr:=(rfl)
theorem zbe:aE P Ω ops ((Oper.mk d (.load s x) t pos aft none)::rest) K Kp fr H=bj P Ω (zjc P s (ev fr x) H) d ops rest K Kp fr:=(rfl)
theorem zbf:aE P Ω ops ((Oper.mk d (.store s x y) t pos aft none)::rest) K Kp fr H=bj P Ω (zje P s (ev fr x) (ev fr y) H) d ops rest K Kp fr:=(rfl)
theorem zbg:aE P Ω ops ((Oper.mk d (.nilCheck x) t pos aft none)::rest) K Kp fr H=bj P Ω (zjf (ev fr x) H) d ops rest K Kp fr:=(rfl)
theorem dY {op:BinOp} (h:nB y=false):aE P Ω ops ((Oper.mk d (.binOp op s x y u) t pos aft none)::rest) K Kp fr H=bj P Ω (hU P op s (ev fr x) (ev fr y) H) d ops rest K Kp fr:=by
 unfold aE ic
 simp only [di,fU,h,Bool.false_eq_true,if_false]
 rfl
theorem zbp {op:BinOp}:aE P Ω ops ((Oper.mk d (.binOp op s x (.const (.slice none 0 0)) u) t pos aft none)::rest) K Kp fr H=mh ((ti P s).map TI.desc) op (ev fr x) (fun b=>aE P Ω ops rest K Kp (fr.put d (.bool b)) H):=(rfl)
theorem zbh {op:BinOp} {i:Nat}:aE P Ω ops ((Oper.mk d (.binOp op s x (.tmp i) u) t pos aft none)::rest) K Kp fr H=bj P Ω (hU P op s (ev fr x) (ev fr (.tmp i)) H) d ops rest K Kp fr:=dY rfl
theorem zbi {op:BinOp} {k:IntKind} {z:Int}:aE P Ω ops ((Oper.mk d (.binOp op s x (.const (.int k z)) u) t pos aft none)::rest) K Kp fr H=bj P Ω (hU P op s (ev fr x) (ev fr (.const (.int k z))) H) d ops rest K Kp fr:=dY rfl
theorem zbj {op:BinOp} {t1:Bool}:aE P Ω ops ((Oper.mk d (.binOp op s x (.const (.bool t1)) u) t pos aft none)::rest) K Kp fr H=bj P Ω (hU P op s (ev fr x) (ev fr (.const (.bool t1))) H) d ops rest K Kp fr:=dY rfl
theorem zbk {op:BinOp} {t1:ByteArray}:aE P Ω ops ((Oper.mk d (.binOp op s x (.const (.string t1)) u) t pos aft none)::rest) K Kp fr H=bj P Ω (hU P op s (ev fr x) (ev fr (.const (.string t1))) H) d ops rest K Kp fr:=dY rfl
theorem zbl {op:BinOp} {t1:Option Addr}:aE P Ω ops ((Oper.mk d (.binOp op s x (.const (.pointer t1)) u) t pos aft none)::rest) K Kp fr H=bj P Ω (hU P op s (ev fr x) (ev fr (.const (.pointer t1))) H) d ops rest K Kp fr:=dY rfl
theorem zbm {op:BinOp}  : aE P Ω ops ((Oper.mk d (.binOp op s x (.const .nilIface) u) t pos aft none)::rest) K Kp fr H=bj P Ω (hU P op s (ev fr x) (ev fr (.const .nilIface)) H) d ops rest K Kp fr:=dY rfl
theorem zbn {op:BinOp}  : aE P Ω ops ((Oper.mk d (.binOp op s x (.const .nilFunc) u) t pos aft none)::rest) K Kp fr H=bj P Ω (hU P op s (ev fr x) (ev fr (.const .nilFunc)) H) d ops rest K Kp fr:=dY rfl
theorem zbo {op:BinOp} {t1:Option Nat}:aE P Ω ops ((Oper.mk d (.binOp op s x (.const (.map t1)) u) t pos aft none)::rest) K Kp fr H=bj P Ω (hU P op s (ev fr x) (ev fr (.const (.map t1))) H) d ops rest K Kp fr:=dY rfl
@[congr] theorem yy {td td':Option TD} {op:BinOp} {x x':AV} {L:Bool→Prop} (h1:td=td') (h2:x=x'):mh td op x L=mh td' op x' L:=by rw [h1,h2]
theorem zbq {e:TypeId} {m:Mark} {sz:Nat} {xs:List AV} {L:Bool→Prop}:mh (some (.slice e)) .eql (.slice m sz xs) L=∀ b,(xs≠[]→b=false)→L b:=(rfl)
theorem zbr {e:TypeId} {m:Mark} {sz:Nat} {xs:List AV} {L:Bool→Prop}:mh (some (.slice e)) .neq (.slice m sz xs) L=∀ b,(xs≠[]→b=true)→L b:=(rfl)
theorem zbs {e:TypeId} {a c m n:Nat} {L:Bool→Prop}:mh (some (.slice e)) .eql (.ms a c m n) L=∀ b,L b:=(rfl)
theorem zbt {e:TypeId} {a c m n:Nat} {L:Bool→Prop}:mh (some (.slice e)) .neq (.ms a c m n) L=∀ b,L b:=(rfl)
theorem zbu {op:UnOp}:aE P Ω ops ((Oper.mk d (.unOp op s x) t pos aft none)::rest) K Kp fr H=bj P Ω (rUn op (ev fr x) H) d ops rest K Kp fr:=(rfl)
theorem zbv:aE P Ω ops ((Oper.mk d (.convert s u x) t pos aft none)::rest) K Kp fr H=bj P Ω (zjk P s u (ev fr x) H) d ops rest K Kp fr:=(rfl)
theorem zbw:aE P Ω ops ((Oper.mk d (.makeInterface s x) t pos aft none)::rest) K Kp fr H=bj P Ω (zjl P s (ev fr x) H) d ops rest K Kp fr:=(rfl)
theorem zbx {f:Fn} {as bs:List Operand}:aE P Ω ops ((Oper.mk d (.makeFunc f as.toArray bs.toArray) t pos aft none)::rest) K Kp fr H=bj P Ω (some ⟨True,.func f (as.map (ev fr)) (bs.map (ev fr)),H⟩) d ops rest K Kp fr:=(rfl)
theorem zbz {mz:Option Operand}:aE P Ω ops ((Oper.mk d (.makeMap s mz) t pos aft none)::rest) K Kp fr H=bj P Ω (zis P s (mz.map (ev fr)) H) d ops rest K Kp fr:=(rfl)
theorem zca {b:Bool}:aE P Ω ops ((Oper.mk d (.lookup s x y b) t pos aft none)::rest) K Kp fr H=bj P Ω (zit P s (ev fr x) (ev fr y) b H) d ops rest K Kp fr:=(rfl)
theorem zcb:aE P Ω ops ((Oper.mk d (.mapUpdate s x y z) t pos aft none)::rest) K Kp fr H=bj P Ω (ziu P s (ev fr x) (ev fr y) (ev fr z) H) d ops rest K Kp fr:=(rfl)
theorem zby:aE P Ω ops ((Oper.mk d (.makeSlice s x y) t pos aft none)::rest) K Kp fr H=bj P Ω (zir P s (ev fr x) (ev fr y) H) d ops rest K Kp fr:=(rfl)
theorem zcc {lo hi mx:Option Operand}:aE P Ω ops ((Oper.mk d (.slice s x lo hi mx) t pos aft none)::rest) K Kp fr H=bj P Ω (ziw P s (ev fr x) (lo.map (ev fr)) (hi.map (ev fr)) (mx.map (ev fr)) H) d ops rest K Kp fr:=(rfl)
theorem zcd:aE P Ω ops ((Oper.mk d (.fieldAddr s x n) t pos aft none)::rest) K Kp fr H=bj P Ω (zjg P s (ev fr x) n H) d ops rest K Kp fr:=(rfl)
theorem zce:aE P Ω ops ((Oper.mk d (.field s x n) t pos aft none)::rest) K Kp fr H=bj P Ω (zjh P s (ev fr x) n H) d ops rest K Kp fr:=(rfl)
theorem zcf:aE P Ω ops ((Oper.mk d (.indexAddr s x y) t pos aft none)::rest) K Kp fr H=bj P Ω (zji P s (ev fr x) (ev fr y) H) d ops rest K Kp fr:=(rfl)
theorem zcg:aE P Ω ops ((Oper.mk d (.index s x y) t pos aft none)::rest) K Kp fr H=bj P Ω (zjj P s (ev fr x) (ev fr y) H) d ops rest K Kp fr:=(rfl)
theorem zch:aE P Ω ops ((Oper.mk d (.typeAssert x s u b) t pos aft none)::rest) K Kp fr H=bj P Ω (cM P (ev fr x) u b H) d ops rest K Kp fr:=(rfl)
theorem zci:aE P Ω ops ((Oper.mk d (.extract x n) t pos aft none)::rest) K Kp fr H=bj P Ω (zjm (ev fr x) n H) d ops rest K Kp fr:=(rfl)
theorem zcj {bi:Builtin} {as:List Operand} {ts:List TypeId} (h:bi≠.panic):aE P Ω ops ((Oper.mk d (.call ⟨.builtin bi,as.toArray,ts.toArray⟩) t pos aft none)::rest) K Kp fr H=bj P Ω (ziq P bi ts (as.map (ev fr)) H) d ops rest K Kp fr:=by
 cases bi<;>first|rfl|exact absurd rfl h
theorem zfn {i:Nat} {v:AV}:Fr.put fr (some i) v=(i,v)::fr:=(rfl)
theorem zfo {v:AV}:Fr.put fr none v=fr:=(rfl)
/-! ### Guards -/
def gf:List Oper→Nat→Option Nat
 |[],_=>none
 |o::l,j=>if j=0 then o.dst else gf l (j - 1)
theorem gS {l:List Oper} {j:Nat}:da l.toArray j=gf l j:=by
 unfold da
 rw [List.getElem?_toArray]
 induction l generalizing j with
 |nil=>rfl
 |cons o l ih =>
  unfold gf
  cases j with
  |zero=>rfl
  |succ j=>rw [if_neg (by omega),Nat.add_sub_cancel,← ih];rfl
@[congr] theorem y5 {l:List Oper} {j j':Nat} (h:j=j'):gf l j=gf l j':=by rw [h]
theorem zfl {o:Op} {d:Option Tmp} {t:TypeId} {pos:String} {aft:Array Edge} {g:Option (Nat × Bool)} {l:List Oper}:gf (Oper.mk d o t pos aft g::l) 0=d:=(rfl)
theorem zfm {o:Oper} {l:List Oper} {j:Nat} (h:j≠0):gf (o::l) j=gf l (j - 1):=by simp [gf,h]
/-- an operation behind its guard -/
def gK (P:Program) (Ω:Tbl) (g:Option Nat) (want:Bool) (o:Oper) (ops:Array Oper) (rest:List Oper) (K:Fr→AHeap→Prop) (Kp:Fr→AV→AHeap→Prop) (fr:Fr) (H:AHeap):Prop :=
 match g with
 |some i=>gK2 (Fr.get fr i) i
 |none=>False
where
 gK2 (v:AV) (i:Nat):Prop :=
 match v with
 |.bool b=>(b=want→aE P Ω ops (o::rest) K Kp ((i,.bool want)::fr) H)∧(b=(!want)→aE P Ω ops rest K Kp (Fr.put ((i,.bool (!want))::fr) o.dst (.tup [])) H)
 |.tup []=>aE P Ω ops rest K Kp (fr.put o.dst (.tup [])) H
 |_=>False
section
variable {g:Option Nat} {want:Bool} {o:Oper} {ops:Array Oper} {rest l:List Oper} {K:Fr→AHeap→Prop} {Kp:Fr→AV→AHeap→Prop} {i j:Nat} {v:AV}
theorem zcm {op:Op} {d:Option Tmp} {t:TypeId} {pos:String} {aft:Array Edge}:aE P Ω l.toArray (Oper.mk d op t pos aft (some (j,want))::rest) K Kp fr H =
 gK P Ω (gf l j) want (Oper.mk d op t pos aft none) l.toArray rest K Kp fr H:=by
 unfold aE gK
 simp only [ka]
 have e:(l.toArray[j]?).bind (·.dst)=gf l j:=gS
 have e2:da l.toArray j=gf l j:=gS
 rw [e,e2]
 cases gf l j with
 |none=>rfl
 |some i =>
  simp only [gK.gK2]
  cases Fr.get fr i
  case tup vs=>cases vs<;>rfl
  all_goals rfl
theorem zfp:gK P Ω (some i) want o ops rest K Kp fr H=gK.gK2 P Ω want o ops rest K Kp fr H (Fr.get fr i) i:=(rfl)
@[congr] theorem zO {g':Option Nat} (h:g=g'):gK P Ω g want o ops rest K Kp fr H=gK P Ω g' want o ops rest K Kp fr H:=by rw [h]
@[congr] theorem zq {v':AV} (h:v=v'):gK.gK2 P Ω want o ops rest K Kp fr H v i=gK.gK2 P Ω want o ops rest K Kp fr H v' i:=by rw [h]
theorem zfv {op:Op} {d:Option Tmp} {t:TypeId} {pos:String} {aft:Array Edge}:gK.gK2 P Ω want (Oper.mk d op t pos aft none) ops rest K Kp fr H (.bool want) i=aE P Ω ops (Oper.mk d op t pos aft none::rest) K Kp ((i,.bool want)::fr) H:=by
 simp [gK.gK2]
theorem zfq {op:Op} {d:Tmp} {t:TypeId} {pos:String} {aft:Array Edge} {b:Bool}:gK.gK2 P Ω false (Oper.mk (some d) op t pos aft none) ops rest K Kp fr H (.bool b) i =
 fF b (aE P Ω ops rest K Kp ((d,.tup [])::(i,.bool true)::fr) H) (aE P Ω ops (Oper.mk (some d) op t pos aft none::rest) K Kp ((i,.bool false)::fr) H):=by
 unfold fF gK.gK2;cases b<;>simp [Fr.put]
theorem zfr {op:Op} {d:Tmp} {t:TypeId} {pos:String} {aft:Array Edge} {b:Bool}:gK.gK2 P Ω true (Oper.mk (some d) op t pos aft none) ops rest K Kp fr H (.bool b) i =
 fF b (aE P Ω ops (Oper.mk (some d) op t pos aft none::rest) K Kp ((i,.bool true)::fr) H) (aE P Ω ops rest K Kp ((d,.tup [])::(i,.bool false)::fr) H):=by
 unfold fF gK.gK2;cases b<;>simp [Fr.put]
theorem zfs {op:Op} {d:Tmp} {t:TypeId} {pos:String} {aft:Array Edge}:gK.gK2 P Ω want (Oper.mk (some d) op t pos aft none) ops rest K Kp fr H (.tup []) i=aE P Ω ops rest K Kp ((d,.tup [])::fr) H:=(rfl)
theorem zft {A B:Prop}:fF true A B=A:=by simp [fF]
theorem zfu {A B:Prop}:fF false A B=B:=by simp [fF]
theorem bD {t:Bool} {A B:Prop} (h1:t=true→A) (h2:t=false→B):fF t A B:=⟨h1,h2⟩
end
/-! ### Calls -/
/-- a continuation that simp leaves alone till it is used: the mark's type names it -/
structure Held {α:Type} (F:α) where
def ub (F:AEnd→AHeap→Prop) (h:Held F):AEnd→AHeap→Prop:=F
def nz (F:AV→Prop) (h:Held F):AV→Prop:=F
def yX (F:AV→AHeap→Prop) (h:Held F):AV→AHeap→Prop:=F
theorem zoj {F:AV→AHeap→Prop} {h:Held F} {v:AV} {H:AHeap}:yX F h v H=F v H:=(rfl)
theorem zoh {F:AEnd→AHeap→Prop} {h:Held F} {x:AEnd} {H:AHeap}:ub F h x H=F x H:=(rfl)
theorem zoi {F:AV→Prop} {h:Held F} {v:AV}:nz F h v=F v:=(rfl)
def e8 (P:Program) (Ω Ω':Tbl) (f:AV) (args:List AV) (H:AHeap) (d:Option Tmp) (ops:Array Oper) (rest:List Oper) (K:Fr→AHeap→Prop) (Kp:Fr→AV→AHeap→Prop) (fr:Fr):Prop :=
 match f with
 |.func (.func k) first cap=>gg Ω' k (first++args++cap) H (fun v H'=>aE P Ω ops rest K Kp (fr.put d v) H') (Kp fr)
 |_=>False
/-- the method's function, as a function value -/
def sD (P:Program) (name:String):AV→AV
 |.iface t _=>match mth P t name with
  |some k=>.func (.func k) [] []
  |none=>.junk
 |_=>.junk
def yW:AV→AV
 |.iface _ x=>x
 |_=>.junk
@[congr] theorem yk {Ω':Tbl} {f f':AV} {args args':List AV} (h1:f=f') (h2:args=args') :
 e8 P Ω Ω' f args H d ops rest K Kp fr=e8 P Ω Ω' f' args' H d ops rest K Kp fr:=by rw [h1,h2]
theorem zck {as:List Operand} {ts:Array TypeId}:aE P Ω ops ((Oper.mk d (.call ⟨.value x,as.toArray,ts⟩) t pos aft none)::rest) K Kp fr H=e8 P Ω Ω (ev fr x) (as.map (ev fr)) H d ops rest K Kp fr:=(rfl)
theorem zcl {as:List Operand} {ts:Array TypeId} {name:String}:aE P Ω ops ((Oper.mk d (.call ⟨.invoke x name,as.toArray,ts⟩) t pos aft none)::rest) K Kp fr H=e8 P Ω Ω (sD P name (ev fr x)) (yW (ev fr x)::as.map (ev fr)) H d ops rest K Kp fr:=by
 show wu P Ω name (ev fr x) _ H _ _=_
 unfold wu e8 sD yW
 cases ev fr x<;>try rfl
 rename_i t y
 dsimp only
 cases mth P t name with
 |none=>rfl
 |some k=>simp
theorem lj {name:String} {t:TypeId} {v:AV} {k:FuncId} (h:mth P t name=some k):sD P name (.iface t v)=.func (.func k) [] []:=by simp only [sD,h]
theorem zif {t:TypeId} {v:AV}:yW (.iface t v)=v:=(rfl)
theorem zok {Ω':Tbl} {f:FuncId} {p:List AV→AHeap→(AV→Prop)→Prop} {args first cap:List AV} :
 e8 P Ω ((f,Ent.pure p)::Ω') (.func (.func f) first cap) args H d ops rest K Kp fr=p (first++args++cap) H (nz (fun v=>aE P Ω ops rest K Kp (fr.put d v) H) ⟨⟩):=by
 simp [e8,gg,hG,Ent.pure,nz]
theorem zol {Ω':Tbl} {f:FuncId} {p:List AV→AHeap→(AEnd→AHeap→Prop)→Prop} {args first cap:List AV} :
 e8 P Ω ((f,Ent.effect p)::Ω') (.func (.func f) first cap) args H d ops rest K Kp fr=p (first++args++cap) H (ub (fun x H'=>match x with|.ret v=>aE P Ω ops rest K Kp (fr.put d v) H'|.panic v=>Kp fr v H') ⟨⟩):=by
 simp [e8,gg,hG,Ent.effect,ub]
 rfl
theorem zom {Ω':Tbl} {f:FuncId} {p:List AV→AHeap→(AV→AHeap→Prop)→Prop} {args first cap:List AV} :
 e8 P Ω ((f,Ent.some p)::Ω') (.func (.func f) first cap) args H d ops rest K Kp fr=p (first++args++cap) H (yX (fun v H'=>aE P Ω ops rest K Kp (fr.put d v) H') ⟨⟩):=by
 simp [e8,gg,hG,Ent.some,yX]
theorem zon {Ω':Tbl} {f g:FuncId} {e:Ent} {args first cap:List AV} (h:g≠f) :
 e8 P Ω ((g,e)::Ω') (.func (.func f) first cap) args H d ops rest K Kp fr=e8 P Ω Ω' (.func (.func f) first cap) args H d ops rest K Kp fr:=by
 simp [e8,gg,hG,h]
end
/-! ### Regions that draw their order -/
def dI (P:Program) (Ω:Tbl) (r:Option R) (d:Option Tmp) (ops:Array Oper) (rest:List Oper) (hs:HS) (ps:List (Nat × (AHeap→Prop))) (K:Fr→AHeap→Prop) (fr:Fr) (H:AHeap):Prop :=
 match r with
 |none=>False
 |some r=>r.c∧awD P Ω ops rest hs.nx ps K (fr.put d r.v) H
def dR (P:Program) (Ω:Tbl) (o:Oper) (r:Option R) (ops:Array Oper) (rest:List Oper) (hs:HS) (ps:List (Nat × (AHeap→Prop))) (K:Fr→AHeap→Prop) (fr:Fr) (H:AHeap):Prop :=
 match r with
 |none=>False
 |some r=>r.c∧lM hs (ff P o fr r.v)∧awD P Ω ops rest hs.nx ((hs.i,ff P o fr r.v)::ps) K (fr.put o.dst r.v) H
def dE (P:Program) (Ω:Tbl) (r:Option R) (d:Option Tmp) (ops:Array Oper) (rest:List Oper) (hs:HS) (ps:List (Nat × (AHeap→Prop))) (K:Fr→AHeap→Prop) (fr:Fr) (H:AHeap):Prop :=
 match r with
 |none=>False
 |some r=>r.c∧hY hs r.H ps∧awD P Ω ops rest (hs.push H) ps K (fr.put d r.v) r.H
def dC (P:Program) (Ω:Tbl) (td:Option TD) (r:Option R) (d:Option Tmp) (ops:Array Oper) (rest:List Oper) (hs:HS) (ps:List (Nat × (AHeap→Prop))) (K:Fr→AHeap→Prop) (fr:Fr) (H:AHeap):Prop :=
 match td with
 |some (.slice _)=>dE P Ω r d ops rest hs ps K fr H
 |_=>dI P Ω r d ops rest hs ps K fr H
def dS (P:Program) (Ω:Tbl) (td:Option TD) (o:Oper) (r:Option R) (ops:Array Oper) (rest:List Oper) (hs:HS) (ps:List (Nat × (AHeap→Prop))) (K:Fr→AHeap→Prop) (fr:Fr) (H:AHeap):Prop :=
 match td with
 |some (.array _ _)=>dR P Ω o r ops rest hs ps K fr H
 |_=>dI P Ω r o.dst ops rest hs ps K fr H
section
variable {d:Option Tmp} {o:Oper} {ops:Array Oper} {rest l:List Oper} {hs:HS} {ps:List (Nat × (AHeap→Prop))} {K:Fr→AHeap→Prop} {c:Prop} {v:AV} {r r':Option R} {G:AHeap}
@[congr] theorem Ac (h:r=r'):dI P Ω r d ops rest hs ps K fr H=dI P Ω r' d ops rest hs ps K fr H:=by rw [h]
@[congr] theorem zW (h:r=r'):dR P Ω o r ops rest hs ps K fr H=dR P Ω o r' ops rest hs ps K fr H:=by rw [h]
@[congr] theorem z5 (h:r=r'):dE P Ω r d ops rest hs ps K fr H=dE P Ω r' d ops rest hs ps K fr H:=by rw [h]
@[congr] theorem zX {td td':Option TD} (h:td=td'):dC P Ω td r d ops rest hs ps K fr H=dC P Ω td' r d ops rest hs ps K fr H:=by rw [h]
theorem zdw:dI P Ω (some ⟨c,v,G⟩) d ops rest hs ps K fr H=(c∧awD P Ω ops rest hs.nx ps K (fr.put d v) H):=(rfl)
theorem zdx:dR P Ω o (some ⟨c,v,G⟩) ops rest hs ps K fr H=(c∧lM hs (ff P o fr v)∧awD P Ω ops rest hs.nx ((hs.i,ff P o fr v)::ps) K (fr.put o.dst v) H):=(rfl)
theorem zdy:dE P Ω (some ⟨c,v,G⟩) d ops rest hs ps K fr H=(c∧hY hs G ps∧awD P Ω ops rest (hs.push H) ps K (fr.put d v) G):=(rfl)
@[congr] theorem zQ {td td':Option TD} (h:td=td'):dS P Ω td o r ops rest hs ps K fr H=dS P Ω td' o r ops rest hs ps K fr H:=by rw [h]
theorem zfb {e:TypeId}:dS P Ω (some (.slice e)) o r ops rest hs ps K fr H=dI P Ω r o.dst ops rest hs ps K fr H:=(rfl)
theorem zfc:dS P Ω (some .string) o r ops rest hs ps K fr H=dI P Ω r o.dst ops rest hs ps K fr H:=(rfl)
theorem zfd {n:Nat} {e:TypeId}:dS P Ω (some (.array n e)) o r ops rest hs ps K fr H=dR P Ω o r ops rest hs ps K fr H:=(rfl)
theorem zdz {e:TypeId}:dC P Ω (some (.slice e)) r d ops rest hs ps K fr H=dE P Ω r d ops rest hs ps K fr H:=(rfl)
theorem zea:dC P Ω (some .string) r d ops rest hs ps K fr H=dI P Ω r d ops rest hs ps K fr H:=(rfl)
theorem zeb {k:IntKind}:dC P Ω (some (.int k)) r d ops rest hs ps K fr H=dI P Ω r d ops rest hs ps K fr H:=(rfl)
theorem zdv:awD P Ω ops [] hs ps K fr H=K fr H:=(rfl)
theorem zeh {c:AHeap→Prop}:lM hs c=nk (hs.ms.headD []) c hs.hs:=(rfl)
theorem zei:hY hs H ps=my (hs.ms.headD []) H ps:=(rfl)
theorem zej {m:List Nat} {c:AHeap→Prop}:nk m c []=True:=(rfl)
theorem zek {m:List Nat} {j:Nat} {c:AHeap→Prop} {h:AHeap} {l:List (Nat × AHeap)}:nk m c ((j,h)::l)=(skip m j (c h)∧nk m c l):=(rfl)
theorem zel {m:List Nat}:my m H []=True:=(rfl)
theorem zem {m:List Nat} {j:Nat} {c:AHeap→Prop}:my m H ((j,c)::ps)=(skip m j (c H)∧my m H ps):=(rfl)
theorem zen {a:List (List Nat)} {i:Nat} {b:List (Nat × AHeap)} {p:List (Nat × Nat)} {q:List Nat}:(HS.mk a i b p q).ms=a:=(rfl)
theorem Ak {a:List (List Nat)} {i:Nat} {b:List (Nat × AHeap)} {p:List (Nat × Nat)} {q:List Nat}:(HS.mk a i b p q).i=i:=(rfl)
theorem zeo {a:List (List Nat)} {i:Nat} {b:List (Nat × AHeap)} {p:List (Nat × Nat)} {q:List Nat}:(HS.mk a i b p q).hs=b:=(rfl)
theorem zho {a:List (List Nat)} {i:Nat} {b:List (Nat × AHeap)} {p:List (Nat × Nat)} {q:List Nat}:(HS.mk a i b p q).lit=q:=(rfl)
theorem zhr {i:Nat}:bU [] i=false:=(rfl)
theorem zhs {i:Nat} {l:List Nat}:bU (i::l) i=true:=by simp [bU]
theorem zht {i j:Nat} {l:List Nat} (h:j≠i):bU (j::l) i=bU l i:=by simp [bU,h]
theorem zhp:(HS.nx hs).lit=hs.lit:=(rfl)
theorem zhq:(HS.push hs H).lit=hs.lit:=(rfl)
theorem zhh {a:List (List Nat)} {i:Nat} {b:List (Nat × AHeap)} {p:List (Nat × Nat)} {q:List Nat}:(HS.mk a i b p q).pre=p:=(rfl)
theorem zhi:(HS.nx hs).pre=hs.pre:=(rfl)
theorem zhj:(HS.push hs H).pre=hs.pre:=(rfl)
theorem zep:(HS.nx hs).ms=hs.ms.tail:=(rfl)
theorem Aw:(HS.nx hs).i=hs.i+1:=(rfl)
theorem zeq:(HS.nx hs).hs=hs.hs:=(rfl)
theorem zer:(HS.push hs H).ms=hs.ms.tail:=(rfl)
theorem zes:(HS.push hs H).i=hs.i+1:=(rfl)
theorem zet:(HS.push hs H).hs=(hs.i,H)::hs.hs:=(rfl)
@[congr] theorem zh {m m':List Nat} {j j':Nat} {c:Prop} (h1:m=m') (h2:j=j'):skip m j c=skip m' j' c:=by rw [h1,h2]
theorem zeu {j:Nat} {c:Prop}:skip [] j c=c:=by simp [skip]
theorem zev {j:Nat} {m:List Nat} {c:Prop}:skip (j::m) j c=True:=by simp [skip]
theorem zew {i j:Nat} {m:List Nat} {c:Prop} (h:i≠j):skip (i::m) j c=skip m j c:=by simp [skip,Ne.symm h]
def sC (r:Option R) (v:AV):Prop:=match r with|some r=>r.c∧r.v=v|none=>False
@[congr] theorem y7 (h:r=r'):sC r v=sC r' v:=by rw [h]
theorem zex {v':AV}:sC (some ⟨c,v',G⟩) v=(c∧v'=v):=(rfl)
variable {t s u:TypeId} {pos:String} {aft:Array Edge} {x y z:Operand} {j n:Nat} {b:Bool}
theorem zey {g:Option (Nat × Bool)}:ff P (Oper.mk d (.load s x) t pos aft g) fr v G=sC (zjc P s (ev fr x) G) v:=(rfl)
theorem zcn  : awD P Ω ops (Oper.mk d (.move x) t pos aft none::rest) hs ps K fr H=dI P Ω (some ⟨True,ev fr x,H⟩) d ops rest hs ps K fr H:=(rfl)
theorem zco {i:Nat}:awD P Ω ops (Oper.mk d (.assign (.tmp i)) t pos aft none::rest) hs ps K fr H=dI P Ω (zip P t (.tmp i) (ev fr (.tmp i)) H) d ops rest hs ps K fr H:=(rfl)
theorem zcp {w:Value}:awD P Ω ops (Oper.mk d (.assign (.const w)) t pos aft none::rest) hs ps K fr H=dE P Ω (zip P t (.const w) (ev fr (.const w)) H) d ops rest hs ps K fr H:=(rfl)
theorem zcq  : awD P Ω ops (Oper.mk d (.pick x y z) t pos aft none::rest) hs ps K fr H=dI P Ω (zix (ev fr x) (ev fr y) (ev fr z) H) d ops rest hs ps K fr H:=(rfl)
def dA (P:Program) (Ω:Tbl) (p:Option Nat) (s:TypeId) (d:Option Tmp) (ops:Array Oper) (rest:List Oper) (hs:HS) (ps:List (Nat × (AHeap→Prop))) (K:Fr→AHeap→Prop) (fr:Fr) (H:AHeap):Prop :=
 match p with
 |some r=>(dy P s r H∧(ti P s).isSome=true)∧lM hs (dy P s r)∧awD P Ω ops rest hs.nx ((hs.i,dy P s r)::ps) K (fr.put d (.ptr r 0)) H
 |none=>dE P Ω (ziy P s H) d ops rest hs ps K fr H
@[congr] theorem zT {p p':Option Nat} (h:p=p'):dA P Ω p s d ops rest hs ps K fr H=dA P Ω p' s d ops rest hs ps K fr H:=by rw [h]
theorem zhk {r:Nat}:dA P Ω (some r) s d ops rest hs ps K fr H=((dy P s r H∧(ti P s).isSome=true)∧lM hs (dy P s r)∧awD P Ω ops rest hs.nx ((hs.i,dy P s r)::ps) K (fr.put d (.ptr r 0)) H):=(rfl)
theorem zhl:dA P Ω none s d ops rest hs ps K fr H=dE P Ω (ziy P s H) d ops rest hs ps K fr H:=(rfl)
theorem zhm {t:TypeId} {r:Nat} {G:AHeap}:dy P t r G=(ak G r=some (fa P t)):=(rfl)
theorem zcr  : awD P Ω ops (Oper.mk d (.alloc s) t pos aft none::rest) hs ps K fr H=dA P Ω (if hs.i<100000 then bK hs.pre hs.i else none) s d ops rest hs ps K fr H:=by
 unfold awD hZ dA fX
 dsimp only
 by_cases h:hs.i<100000
 ·rw [if_pos h,if_pos h];cases bK hs.pre hs.i<;>rfl
 ·rw [if_neg h,if_neg h];rfl
theorem zcs  : awD P Ω ops (Oper.mk d (.box s x) t pos aft none::rest) hs ps K fr H=dE P Ω (sW (ev fr x) H) d ops rest hs ps K fr H:=(rfl)
theorem zct {pz:List (Nat × Operand)}:awD P Ω ops (Oper.mk d (.build s pz.toArray) t pos aft none::rest) hs ps K fr H=dI P Ω (ziz P s (pz.map fun p=>(p.1,ev fr p.2)) H) d ops rest hs ps K fr H:=(rfl)
def dL (P:Program) (Ω:Tbl) (b:Bool) (r:Option R) (d:Option Tmp) (ops:Array Oper) (rest:List Oper) (hs:HS) (ps:List (Nat × (AHeap→Prop))) (K:Fr→AHeap→Prop) (fr:Fr) (H:AHeap):Prop :=
 match b with
 |false=>dE P Ω r d ops rest hs ps K fr H
 |true=>match r with
  |some ⟨c,.slice _ sz xs,_⟩=>c∧hY hs (H.push (.cells (xs.flatMap AV.cells))) ps∧awD P Ω ops rest (hs.push H) ps K (fr.put d (.ms H.nx 0 sz xs.length)) (H.push (.cells (xs.flatMap AV.cells)))
  |_=>False
@[congr] theorem Af {b b':Bool} (h1:b=b') (h2:r=r'):dL P Ω b r d ops rest hs ps K fr H=dL P Ω b' r' d ops rest hs ps K fr H:=by rw [h1,h2]
theorem zhu:dL P Ω false r d ops rest hs ps K fr H=dE P Ω r d ops rest hs ps K fr H:=(rfl)
theorem zhv {m:Mark} {sz:Nat} {xs:List AV}:dL P Ω true (some ⟨c,.slice m sz xs,G⟩) d ops rest hs ps K fr H =
 (c∧hY hs (H.push (.cells (xs.flatMap AV.cells))) ps∧awD P Ω ops rest (hs.push H) ps K (fr.put d (.ms H.nx 0 sz xs.length)) (H.push (.cells (xs.flatMap AV.cells)))):=(rfl)
def dF (P:Program) (Ω:Tbl) (q:Option Nat) (b g:Bool) (r:Option R) (d:Option Tmp) (ops:Array Oper) (rest:List Oper) (hs:HS) (ps:List (Nat × (AHeap→Prop))) (K:Fr→AHeap→Prop) (fr:Fr) (H:AHeap):Prop :=
 match q with
 |none=>dL P Ω b r d ops rest hs ps K fr H
 |some _=>match r with
  |some ⟨c,.slice _ sz xs,_⟩=>c∧awD P Ω ops rest hs.nx ps K (fr.put d (.slice (uo g) sz xs)) H
  |some ⟨c,.ms _ 0 sz n,G⟩=>match ak G H.nx with
   |some cs=>c∧awD P Ω ops rest hs.nx ps K (fr.put d (.slice .any sz (bb sz n cs))) H
   |none=>False
  |_=>False
@[congr] theorem zP {q q':Option Nat} {b g g':Bool} (h1:q=q') (h3:g=g') (h2:r=r'):dF P Ω q b g r d ops rest hs ps K fr H=dF P Ω q' b g' r' d ops rest hs ps K fr H:=by rw [h1,h2,h3]
theorem zhx {b g:Bool}:dF P Ω none b g r d ops rest hs ps K fr H=dL P Ω b r d ops rest hs ps K fr H:=(rfl)
theorem zhy {q:Nat} {b:Bool} {m:Mark} {sz:Nat} {xs:List AV}:dF P Ω (some q) b false (some ⟨c,.slice m sz xs,G⟩) d ops rest hs ps K fr H=(c∧awD P Ω ops rest hs.nx ps K (fr.put d (.slice .any sz xs)) H):=(rfl)
theorem zhz {q:Nat} {b:Bool} {m:Mark} {sz:Nat} {xs:List AV}:dF P Ω (some q) b true (some ⟨c,.slice m sz xs,G⟩) d ops rest hs ps K fr H=(c∧awD P Ω ops rest hs.nx ps K (fr.put d (.slice .full sz xs)) H):=(rfl)
theorem zcu {pz:List (Nat × Operand)}:awD P Ω ops (Oper.mk d (.buildSlice s n pz.toArray) t pos aft none::rest) hs ps K fr H=dF P Ω (bK hs.pre (hs.i+100000)) (bU hs.lit hs.i) (bU hs.lit (hs.i+300000)) (zja P s n (pz.map fun p=>(p.1,ev fr p.2)) H) d ops rest hs ps K fr H:=by
 unfold awD hZ
 simp only [fX,ig,lV]
 cases bK hs.pre (hs.i+100000) with
 |some q=>simp only [Option.isSome_some,if_true];rfl
 |none =>
  simp only [Option.isSome_none,Bool.false_eq_true,if_false,zhx]
  cases bU hs.lit hs.i with
  |false=>rfl
  |true=>simp only [if_true];rfl
theorem zcv  : awD P Ω ops (Oper.mk d (.store s x y) t pos aft none::rest) hs ps K fr H=dE P Ω (zje P s (ev fr x) (ev fr y) H) d ops rest hs ps K fr H:=(rfl)
theorem zcw  : awD P Ω ops (Oper.mk d (.nilCheck x) t pos aft none::rest) hs ps K fr H=dI P Ω (zjf (ev fr x) H) d ops rest hs ps K fr H:=(rfl)
theorem zcx {op:BinOp}:awD P Ω ops (Oper.mk d (.binOp op s x y u) t pos aft none::rest) hs ps K fr H=dI P Ω (hU P op s (ev fr x) (ev fr y) H) d ops rest hs ps K fr H:=(rfl)
theorem zcy {op:UnOp}:awD P Ω ops (Oper.mk d (.unOp op s x) t pos aft none::rest) hs ps K fr H=dI P Ω (rUn op (ev fr x) H) d ops rest hs ps K fr H:=(rfl)
theorem zcz  : awD P Ω ops (Oper.mk d (.makeInterface s x) t pos aft none::rest) hs ps K fr H=dI P Ω (zjl P s (ev fr x) H) d ops rest hs ps K fr H:=(rfl)
theorem zda {f:Fn} {as bs:List Operand}:awD P Ω ops (Oper.mk d (.makeFunc f as.toArray bs.toArray) t pos aft none::rest) hs ps K fr H=dI P Ω (some ⟨True,.func f (as.map (ev fr)) (bs.map (ev fr)),H⟩) d ops rest hs ps K fr H:=(rfl)
theorem zdc {mz:Option Operand}:awD P Ω ops (Oper.mk d (.makeMap s mz) t pos aft none::rest) hs ps K fr H=dE P Ω (zis P s (mz.map (ev fr)) H) d ops rest hs ps K fr H:=(rfl)
theorem zde:awD P Ω ops (Oper.mk d (.mapUpdate s x y z) t pos aft none::rest) hs ps K fr H=dE P Ω (ziu P s (ev fr x) (ev fr y) (ev fr z) H) d ops rest hs ps K fr H:=(rfl)
theorem zdd:awD P Ω ops (Oper.mk d (.lookup s x y b) t pos aft none::rest) hs ps K fr H=dR P Ω (Oper.mk d (.lookup s x y b) t pos aft none) (zit P s (ev fr x) (ev fr y) b H) ops rest hs ps K fr H:=(rfl)
theorem zez {g:Option (Nat × Bool)}:ff P (Oper.mk d (.lookup s x y b) t pos aft g) fr v G=sC (zit P s (ev fr x) (ev fr y) b G) v:=(rfl)
def dG (P:Program) (Ω:Tbl) (q:Option Nat) (r:Option R) (d:Option Tmp) (ops:Array Oper) (rest:List Oper) (hs:HS) (ps:List (Nat × (AHeap→Prop))) (K:Fr→AHeap→Prop) (fr:Fr) (H:AHeap):Prop :=
 match q with
 |none=>dE P Ω r d ops rest hs ps K fr H
 |some _=>match r with
  |some ⟨c,.slice _ sz xs,_⟩=>c∧awD P Ω ops rest hs.nx ps K (fr.put d (.slice (uo (bU hs.lit (hs.i+300000))) sz xs)) H
  |some ⟨c,.ms _ 0 sz n,G⟩=>match ak G H.nx with
   |some cs=>c∧awD P Ω ops rest hs.nx ps K (fr.put d (.slice .any sz (bb sz n cs))) H
   |none=>False
  |_=>False
@[congr] theorem z4 {q q':Option Nat} (h1:q=q') (h2:r=r'):dG P Ω q r d ops rest hs ps K fr H=dG P Ω q' r' d ops rest hs ps K fr H:=by rw [h1,h2]
theorem zia:dG P Ω none r d ops rest hs ps K fr H=dE P Ω r d ops rest hs ps K fr H:=(rfl)
theorem zib {q i sz n:Nat} {cs:List AV}:dG P Ω (some q) (some ⟨c,.ms i 0 sz n,H.push (.cells cs)⟩) d ops rest hs ps K fr H=(c∧awD P Ω ops rest hs.nx ps K (fr.put d (.slice .any sz (bb sz n cs))) H):=by
 show (match ak (H.push (.cells cs)) H.nx with|some cs=>c∧awD P Ω ops rest hs.nx ps K (fr.put d (.slice .any sz (bb sz n cs))) H|none=>False)=_
 rw [show ak (H.push (.cells cs)) H.nx=some cs by unfold ak;rw [AHeap.get_push_new]]
theorem zdb  : awD P Ω ops (Oper.mk d (.makeSlice s x y) t pos aft none::rest) hs ps K fr H=dG P Ω (bK hs.pre (hs.i+100000)) (zir P s (ev fr x) (ev fr y) H) d ops rest hs ps K fr H:=by
 unfold awD hZ
 simp only [fX,ig,lV,oR]
 cases bK hs.pre (hs.i+100000) with
 |some q =>
  simp only [Option.isSome_some,if_true]
  unfold jk cn dG
  rfl
 |none=>simp only [Option.isSome_none,Bool.false_eq_true,if_false];rfl
theorem zdf {lo hi mx:Option Operand}:awD P Ω ops (Oper.mk d (.slice s x lo hi mx) t pos aft none::rest) hs ps K fr H=dS P Ω ((ti P s).map TI.desc) (Oper.mk d (.slice s x lo hi mx) t pos aft none) (ziw P s (ev fr x) (lo.map (ev fr)) (hi.map (ev fr)) (mx.map (ev fr)) H) ops rest hs ps K fr H:=by
 unfold awD hZ dS dR dI
 simp only [fX,ig,lV,oR,di,Bool.false_eq_true,if_false,kind,jk,cn]
 cases ziw P s (ev fr x) (lo.map (ev fr)) (hi.map (ev fr)) (mx.map (ev fr)) H with
 |none=>simp only;split<;>rfl
 |some r =>
  simp only
  cases (ti P s).map TI.desc with
  |none=>rfl
  |some td=>cases td<;>rfl
theorem zfa {lo hi mx:Option Operand} {g:Option (Nat × Bool)}:ff P (Oper.mk d (.slice s x lo hi mx) t pos aft g) fr v G=sC (ziw P s (ev fr x) (lo.map (ev fr)) (hi.map (ev fr)) (mx.map (ev fr)) G) v:=(rfl)
theorem zdg  : awD P Ω ops (Oper.mk d (.fieldAddr s x n) t pos aft none::rest) hs ps K fr H=dI P Ω (zjg P s (ev fr x) n H) d ops rest hs ps K fr H:=(rfl)
theorem zdh  : awD P Ω ops (Oper.mk d (.field s x n) t pos aft none::rest) hs ps K fr H=dI P Ω (zjh P s (ev fr x) n H) d ops rest hs ps K fr H:=(rfl)
theorem zdi  : awD P Ω ops (Oper.mk d (.indexAddr s x y) t pos aft none::rest) hs ps K fr H=dI P Ω (zji P s (ev fr x) (ev fr y) H) d ops rest hs ps K fr H:=(rfl)
theorem zdj  : awD P Ω ops (Oper.mk d (.index s x y) t pos aft none::rest) hs ps K fr H=dI P Ω (zjj P s (ev fr x) (ev fr y) H) d ops rest hs ps K fr H:=(rfl)
theorem zdk  : awD P Ω ops (Oper.mk d (.typeAssert x s u b) t pos aft none::rest) hs ps K fr H=dI P Ω (cM P (ev fr x) u b H) d ops rest hs ps K fr H:=(rfl)
theorem zdl  : awD P Ω ops (Oper.mk d (.extract x n) t pos aft none::rest) hs ps K fr H=dI P Ω (zjm (ev fr x) n H) d ops rest hs ps K fr H:=(rfl)
theorem zdm {as:List Operand} {ts:List TypeId}:awD P Ω ops (Oper.mk d (.call ⟨.builtin .len,as.toArray,ts.toArray⟩) t pos aft none::rest) hs ps K fr H=dI P Ω (ziq P .len ts (as.map (ev fr)) H) d ops rest hs ps K fr H:=(rfl)
theorem zdn {as:List Operand} {ts:List TypeId}:awD P Ω ops (Oper.mk d (.call ⟨.builtin .min,as.toArray,ts.toArray⟩) t pos aft none::rest) hs ps K fr H=dI P Ω (ziq P .min ts (as.map (ev fr)) H) d ops rest hs ps K fr H:=(rfl)
theorem zdo {as:List Operand} {ts:List TypeId}:awD P Ω ops (Oper.mk d (.call ⟨.builtin .max,as.toArray,ts.toArray⟩) t pos aft none::rest) hs ps K fr H=dI P Ω (ziq P .max ts (as.map (ev fr)) H) d ops rest hs ps K fr H:=(rfl)
def dP (P:Program) (Ω:Tbl) (b:Bool) (ts:List TypeId) (vs:List AV) (r:Option R) (d:Option Tmp) (ops:Array Oper) (rest:List Oper) (hs:HS) (ps:List (Nat × (AHeap→Prop))) (K:Fr→AHeap→Prop) (fr:Fr) (H:AHeap):Prop :=
 match b with
 |false=>dE P Ω r d ops rest hs ps K fr H
 |true=>q7 P ts vs H fun v H'=>hY hs H' ps∧awD P Ω ops rest (hs.push H) ps K (fr.put d v) H'
@[congr] theorem zR {b b':Bool} {ts:List TypeId} {vs vs':List AV} (h1:b=b') (h3:vs=vs') (h2:r=r'):dP P Ω b ts vs r d ops rest hs ps K fr H=dP P Ω b' ts vs' r' d ops rest hs ps K fr H:=by rw [h1,h2,h3]
theorem zic {ts:List TypeId} {vs:List AV}:dP P Ω false ts vs r d ops rest hs ps K fr H=dE P Ω r d ops rest hs ps K fr H:=(rfl)
def dQ (P:Program) (Ω:Tbl) (r:Option R) (d:Option Tmp) (ops:Array Oper) (rest:List Oper) (hs:HS) (ps:List (Nat × (AHeap→Prop))) (K:Fr→AHeap→Prop) (fr:Fr) (H:AHeap):Prop :=
 match r with
 |some r=>r.c∧uK H r.v fun v H'=>hY hs H' ps∧awD P Ω ops rest (hs.push H) ps K (fr.put d v) H'
 |none=>False
@[congr] theorem zE (h2:r=r'):dQ P Ω r d ops rest hs ps K fr H=dQ P Ω r' d ops rest hs ps K fr H:=by rw [h2]
theorem zid {ts:List TypeId} {sz:Nat} {x:AV} {t t2:TypeId}:dP P Ω true (t::t2::ts) [.slice .full sz [],x] r d ops rest hs ps K fr H=dQ P Ω (zjr P t t2 sz [] x H) d ops rest hs ps K fr H:=(rfl)
theorem zie {c:Prop} {i sz:Nat} {xs:List AV} {G:AHeap}:dQ P Ω (some ⟨c,.slice (.own i) sz xs,G⟩) d ops rest hs ps K fr H=(c∧xs≠[]∧(∀ x∈xs.flatMap AV.cells,x.lt 0)∧hY hs (H.push (.part (xs.flatMap AV.cells))) ps∧awD P Ω ops rest (hs.push H) ps K (fr.put d (.ms H.nx 0 sz xs.length)) (H.push (.part (xs.flatMap AV.cells)))):=(rfl)
theorem zdp {as:List Operand} {ts:List TypeId}:awD P Ω ops (Oper.mk d (.call ⟨.builtin .append,as.toArray,ts.toArray⟩) t pos aft none::rest) hs ps K fr H=dP P Ω (bU hs.lit (hs.i+200000)) ts (as.map (ev fr)) (ziq P .append ts (as.map (ev fr)) H) d ops rest hs ps K fr H:=by
 unfold awD hZ dP
 simp only [fX,ig,lV,oR]
 cases bU hs.lit (hs.i+200000) with
 |false=>rfl
 |true=>simp only [if_true,v9];rfl
theorem zdq {as:List Operand} {ts:List TypeId}:awD P Ω ops (Oper.mk d (.call ⟨.builtin .copy,as.toArray,ts.toArray⟩) t pos aft none::rest) hs ps K fr H=dE P Ω (ziq P .copy ts (as.map (ev fr)) H) d ops rest hs ps K fr H:=(rfl)
theorem zdr:awD P Ω ops (Oper.mk d (.load s x) t pos aft none::rest) hs ps K fr H=dR P Ω (Oper.mk d (.load s x) t pos aft none) (zjc P s (ev fr x) H) ops rest hs ps K fr H:=(rfl)
theorem zds:awD P Ω ops (Oper.mk d (.convert s u x) t pos aft none::rest) hs ps K fr H=dC P Ω ((ti P u).map TI.desc) (zjk P s u (ev fr x) H) d ops rest hs ps K fr H:=by
 unfold awD hZ dC dE dI
 simp only [fX,ig,lV,oR,di,Bool.false_eq_true,if_false,kind,jk,cn]
 cases zjk P s u (ev fr x) H with
 |none=>simp only;split<;>rfl
 |some r =>
  simp only
  cases (ti P u).map TI.desc with
  |none=>rfl
  |some td=>cases td<;>rfl
/-! calls -/
def io (P:Program) (Ω Ω':Tbl) (f:AV) (args:List AV) (d:Option Tmp) (ops:Array Oper) (rest:List Oper) (hs:HS) (ps:List (Nat × (AHeap→Prop))) (K:Fr→AHeap→Prop) (fr:Fr) (H:AHeap):Prop :=
 match f with
 |.func (.func k) first cap=>jB Ω' k (first++args++cap) hs ps (fun v hs' ps' H'=>awD P Ω ops rest hs' ps' K (fr.put d v) H') H
 |_=>False
@[congr] theorem x7 {Ω':Tbl} {f f':AV} {args args':List AV} (h1:f=f') (h2:args=args') :
 io P Ω Ω' f args d ops rest hs ps K fr H=io P Ω Ω' f' args' d ops rest hs ps K fr H:=by rw [h1,h2]
theorem zdt {as:List Operand} {ts:Array TypeId}:awD P Ω ops (Oper.mk d (.call ⟨.value x,as.toArray,ts⟩) t pos aft none::rest) hs ps K fr H =
 io P Ω Ω (ev fr x) (as.map (ev fr)) d ops rest hs ps K fr H:=(rfl)
theorem zoo {Ω':Tbl} {f:FuncId} {p:List AV→AHeap→(AV→Prop)→Prop} {args first cap:List AV} :
 io P Ω ((f,Ent.pure p)::Ω') (.func (.func f) first cap) args d ops rest hs ps K fr H =
  p (first++args++cap) H (nz (fun v=>lM hs (fun h=>p (first++args++cap) h (fun v'=>v'=v))∧awD P Ω ops rest hs.nx ((hs.i,fun h=>h=H∨p (first++args++cap) h (fun v'=>v'=v))::ps) K (fr.put d v) H) ⟨⟩):=by
 simp [io,jB,hG,Ent.pure,nz]
theorem zop {Ω':Tbl} {f:FuncId} {p:List AV→AHeap→(AEnd→AHeap→Prop)→Prop} {args first cap:List AV} :
 io P Ω ((f,Ent.effect p)::Ω') (.func (.func f) first cap) args d ops rest hs ps K fr H =
  p (first++args++cap) H (ub (fun x H'=>match x with|.ret v=>hY hs H' ps∧awD P Ω ops rest (hs.push H) ps K (fr.put d v) H'|.panic _=>False) ⟨⟩):=by
 simp [io,jB,hG,Ent.effect,ub]
 rfl
theorem zoq {Ω':Tbl} {f g:FuncId} {e:Ent} {args first cap:List AV} (h:g≠f) :
 io P Ω ((g,e)::Ω') (.func (.func f) first cap) args d ops rest hs ps K fr H=io P Ω Ω' (.func (.func f) first cap) args d ops rest hs ps K fr H:=by
 simp [io,jB,hG,h]
/-! guards -/
def dgK (P:Program) (Ω:Tbl) (g:Option Nat) (want:Bool) (o:Oper) (ops:Array Oper) (rest:List Oper) (hs:HS) (ps:List (Nat × (AHeap→Prop))) (K:Fr→AHeap→Prop) (fr:Fr) (H:AHeap):Prop :=
 match g with
 |some i=>dgK2 (Fr.get fr i) i
 |none=>False
where
 dgK2 (v:AV) (i:Nat):Prop :=
 match v with
 |.bool b=>(b=want→awD P Ω ops (o::rest) hs ps K ((i,.bool want)::fr) H)∧(b=(!want)→awD P Ω ops rest hs.nx ps K (Fr.put ((i,.bool (!want))::fr) o.dst (.tup [])) H)
 |.tup []=>awD P Ω ops rest hs.nx ps K (fr.put o.dst (.tup [])) H
 |_=>False
theorem zdu {want:Bool} {op:Op}:awD P Ω l.toArray (Oper.mk d op t pos aft (some (j,want))::rest) hs ps K fr H =
 dgK P Ω (gf l j) want (Oper.mk d op t pos aft none) l.toArray rest hs ps K fr H:=by
 unfold awD dgK
 simp only [ka]
 have e:(l.toArray[j]?).bind (·.dst)=gf l j:=gS
 have e2:da l.toArray j=gf l j:=gS
 rw [e,e2]
 cases gf l j with
 |none=>rfl
 |some i =>
  simp only [dgK.dgK2]
  cases Fr.get fr i
  case tup vs=>cases vs<;>rfl
  all_goals rfl
variable {want:Bool} {i:Nat}
theorem zfe:dgK P Ω (some i) want o ops rest hs ps K fr H=dgK.dgK2 P Ω want o ops rest hs ps K fr H (Fr.get fr i) i:=(rfl)
@[congr] theorem zv {g g':Option Nat} (h:g=g'):dgK P Ω g want o ops rest hs ps K fr H=dgK P Ω g' want o ops rest hs ps K fr H:=by rw [h]
@[congr] theorem zp {v':AV} (h:v=v'):dgK.dgK2 P Ω want o ops rest hs ps K fr H v i=dgK.dgK2 P Ω want o ops rest hs ps K fr H v' i:=by rw [h]
theorem zfh {op:Op} {d:Tmp}:dgK.dgK2 P Ω want (Oper.mk (some d) op t pos aft none) ops rest hs ps K fr H (.tup []) i=awD P Ω ops rest hs.nx ps K ((d,.tup [])::fr) H:=(rfl)
theorem zff {op:Op} {d:Tmp} {b:Bool}:dgK.dgK2 P Ω false (Oper.mk (some d) op t pos aft none) ops rest hs ps K fr H (.bool b) i =
 fF b (awD P Ω ops rest hs.nx ps K ((d,.tup [])::(i,.bool true)::fr) H) (awD P Ω ops (Oper.mk (some d) op t pos aft none::rest) hs ps K ((i,.bool false)::fr) H):=by
 unfold fF dgK.dgK2;cases b<;>simp [Fr.put]
theorem zfg {op:Op} {d:Tmp} {b:Bool}:dgK.dgK2 P Ω true (Oper.mk (some d) op t pos aft none) ops rest hs ps K fr H (.bool b) i =
 fF b (awD P Ω ops (Oper.mk (some d) op t pos aft none::rest) hs ps K ((i,.bool true)::fr) H) (awD P Ω ops rest hs.nx ps K ((d,.tup [])::(i,.bool false)::fr) H):=by
 unfold fF dgK.dgK2;cases b<;>simp [Fr.put]
end
theorem zee {i:Nat}:al [] i=[]:=(rfl)
theorem zef {i:Nat} {m:List (List Nat)} {l:List (Nat × List (List Nat))}:al ((i,m)::l) i=m:=by simp [al]
theorem zeg {i j:Nat} {m:List (List Nat)} {l:List (Nat × List (List Nat))} (h:i≠j):al ((j,m)::l) i=al l i:=by simp [al,h]
/-! ### Frames -/
theorem zga {i:Nat}:ev fr (.tmp i)=Fr.get fr i:=(rfl)
theorem zgb {kd:IntKind} {n:Int}:ev fr (.const (.int kd n))=.int kd n:=(rfl)
theorem zgc {b:Bool}:ev fr (.const (.bool b))=.bool b:=(rfl)
theorem zgd:ev fr (.const (.slice none 0 0))=.slice .nil 1 []:=(rfl)
theorem zge:ev fr (.const (.pointer none))=.nilp:=(rfl)
theorem zgf:ev fr (.const .nilIface)=.nili:=(rfl)
theorem zgg:ev fr (.const .nilFunc)=.nilf:=(rfl)
theorem zgh:ev fr (.const (.map none))=.nilm:=(rfl)
theorem zgi {s:ByteArray}:ev fr (.const (.string s))=.str s.data.toList:=(rfl)
theorem zgj {f:Nat}:ev fr (.func f)=.func (.func f) [] []:=(rfl)
theorem zgk {i:Nat} {v:AV}:Fr.get ((i,v)::fr) i=v:=by simp [Fr.get]
theorem zgl {i j:Nat} {v:AV} (h:j≠i):Fr.get ((j,v)::fr) i=Fr.get fr i:=by simp [Fr.get,h]
end Go.AL
