/- Lemmas of the proof; no condition. -/
import Derived.Test.YtokjjhidigoodaaGreatAlCode
set_option linter.all false
namespace Go.AL
variable {P:Program} {Ω:Tbl} {B:Conts} {k:List KItem} {fr:Fr} {H:AHeap}
theorem zaa {K:Conts}:aw P Ω .skip K fr H=K.n fr H:=(rfl)
theorem zae {K:Conts} {id:Nat} {l:List Oper}:aw P Ω (.region id l.toArray false) K fr H=iu P Ω K.n0 l.toArray ((K.T id).headD []) l K.n K.p fr H:=(rfl)
@[congr] theorem LO {ops:Array Oper} {is is':List Nat} {l:List Oper} {K:Fr→AHeap→Prop} {Kp:Fr→AV→AHeap→Prop} {n0:Nat} (h:is=is'):iu P Ω n0 ops is l K Kp fr H=iu P Ω n0 ops is' l K Kp fr H:=by rw [h]
theorem zaf {ops:Array Oper} {l:List Oper} {K:Fr→AHeap→Prop} {Kp:Fr→AV→AHeap→Prop} {n0:Nat}:iu P Ω n0 ops [] l K Kp fr H=bP P Ω ops l K Kp fr H:=(rfl)
theorem Bt {n0:Nat} {ops:Array Oper} {i:Nat} {is:List Nat} {l:List Oper} {K:Fr→AHeap→Prop} {Kp:Fr→AV→AHeap→Prop} (h:i % 3=0):iu P Ω n0 ops (i::is) l K Kp fr H=bP P Ω ops (l.take (i/3)) (fun fr H=>match l.drop (i/3) with
 |o::rest=>o.guard=none∧aD P o fr H (iu P Ω n0 ops is rest K Kp)
 |[]=>False) Kp fr H:=if_pos h
theorem Bx {n0:Nat} {ops:Array Oper} {i:Nat} {is:List Nat} {l:List Oper} {K:Fr→AHeap→Prop} {Kp:Fr→AV→AHeap→Prop} (h:i % 3=1):iu P Ω n0 ops (i::is) l K Kp fr H=bP P Ω ops (l.take (i/3)) (fun fr H=>ln n0 (iu P Ω n0 ops is (l.drop (i/3)) K Kp) fr H) Kp fr H :=
 (if_neg (by omega)).trans (if_pos h)
theorem EW {n0:Nat} {ops:Array Oper} {i:Nat} {is:List Nat} {l:List Oper} {K:Fr→AHeap→Prop} {Kp:Fr→AV→AHeap→Prop} (h:i % 3=2):iu P Ω n0 ops (i::is) l K Kp fr H=bP P Ω ops (l.take (i/3)) (fun fr H=>match l.drop (i/3) with
 |o::rest=>o.guard=none∧aE P o fr H (iu P Ω n0 ops is rest K Kp)
 |[]=>False) Kp fr H:=(if_neg (by omega)).trans (if_neg (by omega))
theorem tV {n0:Nat} {K:Fr→AHeap→Prop} (fr':Fr) (H':AHeap) (h:enterW n0 fr H fr' H') (hk:K fr' H'):ln n0 K fr H:=.inl ⟨fr',H',h,hk⟩
theorem lJ {n0:Nat} {K:Fr→AHeap→Prop} (s j sz:Nat) (cs:List AV) (h1:Fr.get fr s=.agg cs) (h2:cs[j]?=some (.slice .nil 1 [])) (hk:K ((s,.agg (cs.set j (.slice (.own H.nx) sz [])))::fr) (H.push (.buf sz 0))):ln n0 K fr H:=.inr (.inl ⟨s,j,sz,cs,h1,h2,hk⟩)
theorem im {n0:Nat} {K:Fr→AHeap→Prop} (s:Nat) (y:AV) (h:wkD (Fr.get fr s) y) (hk:K ((s,y)::fr) H):ln n0 K fr H:=.inr (.inr (.inl ⟨s,y,h,hk⟩))
theorem fO {n0:Nat} {K:Fr→AHeap→Prop} (id:Nat) {cs:List AV} (cs':List AV) (hc:aR H id=some cs) (h:nX cs cs') (hk:K fr (H.set id (.cells cs'))):ln n0 K fr H:=.inr (.inr (.inr (.inl ⟨id,cs,cs',hc,h,hk⟩)))
theorem xM {n0:Nat} {K:Fr→AHeap→Prop} (id:Nat) {cs:List AV} (hc:H.get id=some (.part cs)) (h:∀ k,K fr (H.set id (.cells (cs++List.replicate k .junk)))):ln n0 K fr H:=.inr (.inr (.inr (.inr (.inl ⟨id,cs,hc,h⟩))))
theorem GP {n0:Nat} {K:Fr→AHeap→Prop} (s j sz:Nat) {id off:Nat} {cs:List AV} (h0:Fr.get fr s=.ptr id off) (hc:aR H id=some cs) (hj:cs[j]?=some (.slice .nil 1 [])) (h:K fr ((H.push (.buf sz 0)).set id (.cells (cs.set j (.slice (.own H.nx) sz []))))):ln n0 K fr H:=.inr (.inr (.inr (.inr (.inr (.inl ⟨s,id,off,j,sz,cs,h0,hc,hj,h⟩)))))
theorem wkDR_iff:∀ {xs ys:List AV},uF xs ys↔xs.length=ys.length∧∀ i (hi:i<xs.length) (hi':i<ys.length),nX xs[i].cells ys[i].cells
 |[],[]=>by simp [uF]
 |[],_::_=>by simp [uF]
 |_::_,[]=>by simp [uF]
 |x::xs,y::ys=>by
  rw [uF,wkDR_iff]
  exact X6
theorem j6 {xs ys:List AV}:wkD (.agg xs) (.agg ys)=nX xs ys:=by rw [wkD];exact propext wkDL_iff.symm
theorem cw {m m':Mark} {sz sz':Nat} {xs ys:List AV}:wkD (.slice m sz xs) (.slice m' sz' ys)=((wkM m m'∧sz=sz'∧uF xs ys)∨(m=.nil∧m'=.any∧xs=[]∧ys=[])):=by
 rw [wkD]
 refine propext (or_congr (and_congr Iff.rfl (and_congr Iff.rfl ?_)) Iff.rfl)
 rw [wkDR_iff]
 exact and_congr Iff.rfl ⟨fun h i hi hi'=>wkDL_iff.2 (h i hi hi'),fun h i hi hi'=>wkDL_iff.1 (h i hi hi')⟩
theorem cQ:nX [] []=True:=(rfl)
theorem cx {x y:AV} {xs ys:List AV}:nX (x::xs) (y::ys)=(wkD x y∧nX xs ys):=(rfl)
theorem cP:uF [] []=True:=(rfl)
theorem fu {x y:AV} {xs ys:List AV}:uF (x::xs) (y::ys)=(nX x.cells y.cells∧uF xs ys):=(rfl)
theorem wo:∀ x:AV,wkD x x
 |.agg xs=>by rw [wkD];exact ⟨rfl,fun j hj _=>wo xs[j]⟩
 |.slice m sz xs=>by rw [wkD];exact .inl ⟨.inr rfl,rfl,rfl,fun i hi _=>⟨rfl,fun j hj _=>wo xs[i].cells[j]⟩⟩
 |.int _ _|.bool _|.str _|.ptr _ _|.cptr _|.nilp|.ms _ _ _ _|.mapv _|.nilm|.func _ _ _|.nilf|.iface _ _|.nili|.tup _|.junk=>by rw [wkD]<;>(intros;contradiction)
termination_by x=>SizeOf.sizeOf x
decreasing_by
 all_goals simp_wf
 all_goals first
  |(have h1:=AV.sizeOf_cells (List.getElem_mem hj);have h2:=List.sizeOf_lt_of_mem (List.getElem_mem hi);omega)
  |(have:=List.sizeOf_lt_of_mem (List.getElem_mem hj);omega)
theorem wkDL_same {xs:List AV}:nX xs xs=True:=eq_true (wkDL_iff.2 ⟨rfl,fun _ _ _=>wo _⟩)
theorem tn {xs:List AV}:uF xs xs=True:=eq_true (wkDR_iff.2 ⟨rfl,fun _ _ _=>wkDL_same.symm ▸ trivial⟩)
theorem jg {k:IntKind} {n:Int} {y:AV}:wkD (.int k n) y=(.int k n=y):=by rw [wkD]<;>(intros;contradiction)
theorem kM {s:List UInt8} {y:AV}:wkD (.str s) y=(.str s=y):=by rw [wkD]<;>(intros;contradiction)
theorem jk {b:Bool} {y:AV}:wkD (.bool b) y=(.bool b=y):=by rw [wkD]<;>(intros;contradiction)
theorem zfj {n0:Nat} {K:Fr→AHeap→Prop}:vK [] n0 K fr H=K fr H:=(rfl)
theorem zfk {n0:Nat} {m:List Nat} {l:List (List Nat)} {K:Fr→AHeap→Prop}:vK (m::l) n0 K fr H=ln n0 K fr H:=(rfl)
@[congr] theorem M1 {l l':List (List Nat)} {n0:Nat} {K:Fr→AHeap→Prop} (h:l=l'):vK l n0 K fr H=vK l' n0 K fr H:=by rw [h]
@[congr] theorem MX {n0:Nat} {K:Fr→AHeap→Prop} {fr':Fr} (h:fr=fr'):ln n0 K fr H=ln n0 K fr' H:=by rw [h]
theorem zfi {K:Conts} {id:Nat} {l:List Oper}:aw P Ω (.region id l.toArray true) K fr H=vK (K.T (id+400)) K.n0 (fun fr H=>tQ P (K.T (id+800)) [] H fun pre H=>awD P Ω l.toArray l ⟨K.T id,0,[],pre,(K.T (id+1200)).headD []⟩ [] K.n fr H) fr H:=(rfl)
theorem zhc {pre:List (Nat × Nat)} {N:List (Nat × Nat)→AHeap→Prop}:tQ P [] pre H N=N pre H:=(rfl)
theorem zhd {i t:Nat} {l:List (List Nat)} {pre:List (Nat × Nat)} {N:List (Nat × Nat)→AHeap→Prop}:tQ P ([i,t]::l) pre H N=((ti P t).isSome=true∧eW pre i=none∧tQ P l ((i,H.nx)::pre) (H.push (.cells (mt P t))) N):=(rfl)
theorem zhw {i:Nat} {l:List (List Nat)} {pre:List (Nat × Nat)} {N:List (Nat × Nat)→AHeap→Prop}:tQ P ([i]::l) pre H N=(100000≤i∧eW pre i=none∧tQ P l ((i,0)::pre) H N):=(rfl)
theorem zhe {i:Nat}:eW [] i=none:=(rfl)
theorem zhf {i r:Nat} {l:List (Nat × Nat)}:eW ((i,r)::l) i=some r:=by simp [eW]
theorem zhg {i j r:Nat} {l:List (Nat × Nat)} (h:j≠i):eW ((j,r)::l) i=eW l i:=by simp [eW,h]
theorem zhn {t:TypeId}:mt P t=(ti P t).elim [] fun i=>i.zero.cells:=(rfl)
@[congr] theorem M8 {l l':List (List Nat)} {pre:List (Nat × Nat)} {N:List (Nat × Nat)→AHeap→Prop} (h:l=l'):tQ P l pre H N=tQ P l' pre H N:=by rw [h]
theorem zag {a b:Code}:aw P Ω (.seq a b) (KI P Ω B k) fr H=aw P Ω a (KI P Ω B (.code b::k)) fr H:=(rfl)
theorem zah {id:Nat} {c:Code}:aw P Ω (.block id c) (KI P Ω B k) fr H=aw P Ω c (KI P Ω B (.blk id::k)) fr H:=(rfl)
theorem zai {K:Conts} {id:Nat}:aw P Ω (.exit id) K fr H=K.x id fr H:=(rfl)
theorem zab {K:Conts} {l:Nat}:aw P Ω (.label l) K fr H=K.n fr H:=(rfl)
theorem zaj {K:Conts}:aw P Ω .ret K fr H=K.r fr H:=(rfl)
theorem zak {c:Code}:(KI P Ω B (.code c::k)).n fr H=aw P Ω c (KI P Ω B k) fr H:=(rfl)
theorem zal {id:Nat}:(KI P Ω B (.blk id::k)).n fr H=(KI P Ω B k).n fr H:=(rfl)
theorem zam {R:Fr→AHeap→Prop}:(KI P Ω B (.back R::k)).n fr H=R fr H:=(rfl)
theorem zan:(KI P Ω B []).n fr H=B.n fr H:=(rfl)
theorem zao {id:Nat}:(KI P Ω B (.blk id::k)).x id fr H=(KI P Ω B k).n fr H:=by simp [KI]
theorem zap {id i:Nat} (h:i≠id):(KI P Ω B (.blk id::k)).x i fr H=(KI P Ω B k).x i fr H:=by simp [KI,h]
theorem zaq {c:Code} {i:Nat}:(KI P Ω B (.code c::k)).x i fr H=(KI P Ω B k).x i fr H:=(rfl)
theorem zar {R:Fr→AHeap→Prop} {i:Nat}:(KI P Ω B (.back R::k)).x i fr H=(KI P Ω B k).x i fr H:=(rfl)
theorem Oy:(KI P Ω B k).r=B.r:=by
 induction k with
 |nil=>rfl
 |cons x k ih=>cases x<;>exact ih
theorem OM:(KI P Ω B k).T=B.T:=by
 induction k with
 |nil=>rfl
 |cons a k ih=>cases a<;>exact ih
theorem zad {P:Program} {Ω:Tbl} {k:List KItem} {fr:Fr} {H:AHeap} {rs:List ResultVar} {n0:Nat} {e:AEnd} {H1:AHeap} {id:Nat} {l:List Oper}:aw P Ω (.region id l.toArray false) (KI P Ω (uG P rs n0 e H1 (av [])) k) fr H=bP P Ω l.toArray l (KI P Ω (uG P rs n0 e H1 (av [])) k).n (KI P Ω (uG P rs n0 e H1 (av [])) k).p fr H:=by
 rw [zae,OM];rfl
theorem O8:(KI P Ω B k).r fr H=B.r fr H:=by rw [Oy]
theorem OD:(KI P Ω B k).p=B.p:=by
 induction k with
 |nil=>rfl
 |cons x k ih=>cases x<;>exact ih
theorem Pe {v:AV}:(KI P Ω B k).p fr v H=B.p fr v H:=by rw [OD]
def qp (P:Program) (Ω:Tbl) (v:AV) (a b:Code) (K:Conts) (fr:Fr) (H:AHeap):Prop :=
 match v with
 |.bool t=>(t=true→aw P Ω a K fr H)∧(t=false→aw P Ω b K fr H)
 |_=>False
theorem zas {K:Conts} {c:Operand} {a b:Code}:aw P Ω (.cond c a b) K fr H=qp P Ω (ev fr c) a b K fr H:=(rfl)
theorem zat {K:Conts} {a b:Code}:qp P Ω (.bool true) a b K fr H=aw P Ω a K fr H:=by simp [qp]
theorem zau {K:Conts} {a b:Code}:qp P Ω (.bool false) a b K fr H=aw P Ω b K fr H:=by simp [qp]
def mB (t:Bool) (A B:Prop):Prop:=(t=true→A)∧(t=false→B)
theorem zav {K:Conts} {t:Bool} {a b:Code}:qp P Ω (.bool t) a b K fr H=mB t (aw P Ω a K fr H) (aw P Ω b K fr H):=(rfl)
theorem au {K:Conts} {t:Bool} {a b:Code} (h1:t=true→aw P Ω a K fr H) (h2:t=false→aw P Ω b K fr H):qp P Ω (.bool t) a b K fr H:=⟨h1,h2⟩
@[congr] theorem MY {v v':AV} {K:Conts} {a b:Code} (h:v=v'):qp P Ω v a b K fr H=qp P Ω v' a b K fr H:=by rw [h]
def di (P:Program) (Ω:Tbl) (r:Option R) (d:Option Tmp) (ops:Array Oper) (rest:List Oper) (K:Fr→AHeap→Prop) (Kp:Fr→AV→AHeap→Prop) (fr:Fr):Prop :=
 match r with
 |some r=>r.c∧bP P Ω ops rest K Kp (fr.put d r.v) r.H
 |none=>False
@[congr] theorem M6 {r r':Option R} {d:Option Tmp} {ops:Array Oper} {rest:List Oper} {K:Fr→AHeap→Prop} {Kp:Fr→AV→AHeap→Prop}
 (h:r=r'):di P Ω r d ops rest K Kp fr=di P Ω r' d ops rest K Kp fr:=by rw [h]
section
variable {d:Option Tmp} {i:Tmp} {ops:Array Oper} {rest:List Oper} {K:Fr→AHeap→Prop} {Kp:Fr→AV→AHeap→Prop} {c:Prop} {v:AV}
theorem zfw:di P Ω (some ⟨True,v,H⟩) (some i) ops rest K Kp fr=bP P Ω ops rest K Kp ((i,v)::fr) H:=by simp [di,Fr.put]
theorem zfx:di P Ω (some ⟨c,v,H⟩) (some i) ops rest K Kp fr=(c∧bP P Ω ops rest K Kp ((i,v)::fr) H):=(rfl)
theorem zfy:di P Ω (some ⟨True,v,H⟩) none ops rest K Kp fr=bP P Ω ops rest K Kp fr H:=by simp [di,Fr.put]
theorem zfz:di P Ω (some ⟨c,v,H⟩) none ops rest K Kp fr=(c∧bP P Ω ops rest K Kp fr H):=(rfl)
theorem zaw:bP P Ω ops [] K Kp fr H=K fr H:=(rfl)
variable {t s u:TypeId} {pos:String} {aft:Array Edge} {x y z:Operand} {j n:Nat} {b:Bool}
theorem zax:bP P Ω ops ((Oper.mk d (.move x) t pos aft none)::rest) K Kp fr H=di P Ω (some ⟨True,ev fr x,H⟩) d ops rest K Kp fr:=(rfl)
theorem zay:bP P Ω ops ((Oper.mk d (.assign x) t pos aft none)::rest) K Kp fr H=di P Ω (zip P t x (ev fr x) H) d ops rest K Kp fr:=(rfl)
theorem zaz:bP P Ω ops ((Oper.mk d (.pick x y z) t pos aft none)::rest) K Kp fr H=di P Ω (zix (ev fr x) (ev fr y) (ev fr z) H) d ops rest K Kp fr:=(rfl)
theorem zba:bP P Ω ops ((Oper.mk d (.alloc s) t pos aft none)::rest) K Kp fr H=di P Ω (ziy P s H) d ops rest K Kp fr:=(rfl)
theorem zbb:bP P Ω ops ((Oper.mk d (.box s x) t pos aft none)::rest) K Kp fr H=di P Ω (F3 (ev fr x) H) d ops rest K Kp fr:=(rfl)
theorem zbc {ps:List (Nat × Operand)}:bP P Ω ops ((Oper.mk d (.build s ps.toArray) t pos aft none)::rest) K Kp fr H=di P Ω (ziz P s (ps.map fun p=>(p.1,ev fr p.2)) H) d ops rest K Kp fr:=(rfl)
theorem zbd {ps:List (Nat × Operand)}:bP P Ω ops ((Oper.mk d (.buildSlice s n ps.toArray) t pos aft none)::rest) K Kp fr H=di P Ω (zja P s n (ps.map fun p=>(p.1,ev fr p.2)) H) d ops rest K Kp fr:=(rfl)
theorem zbe:bP P Ω ops ((Oper.mk d (.load s x) t pos aft none)::rest) K Kp fr H=di P Ω (zjc P s (ev fr x) H) d ops rest K Kp fr:=(rfl)
theorem zbf:bP P Ω ops ((Oper.mk d (.store s x y) t pos aft none)::rest) K Kp fr H=di P Ω (zje P s (ev fr x) (ev fr y) H) d ops rest K Kp fr:=(rfl)
theorem zbg:bP P Ω ops ((Oper.mk d (.nilCheck x) t pos aft none)::rest) K Kp fr H=di P Ω (zjf (ev fr x) H) d ops rest K Kp fr:=(rfl)
theorem kw {op:BinOp} (h:zM y=false):bP P Ω ops ((Oper.mk d (.binOp op s x y u) t pos aft none)::rest) K Kp fr H=di P Ω (p6 P op s (ev fr x) (ev fr y) H) d ops rest K Kp fr:=by
 unfold bP qs
 simp only [jx,nz,h,Bool.false_eq_true,if_false]
 rfl
theorem zbp {op:BinOp}:bP P Ω ops ((Oper.mk d (.binOp op s x (.const (.slice none 0 0)) u) t pos aft none)::rest) K Kp fr H=xB ((ti P s).map TI.desc) op (ev fr x) (fun b=>bP P Ω ops rest K Kp (fr.put d (.bool b)) H):=(rfl)
theorem zbh {op:BinOp} {i:Nat}:bP P Ω ops ((Oper.mk d (.binOp op s x (.tmp i) u) t pos aft none)::rest) K Kp fr H=di P Ω (p6 P op s (ev fr x) (ev fr (.tmp i)) H) d ops rest K Kp fr:=kw rfl
theorem zbi {op:BinOp} {k:IntKind} {z:Int}:bP P Ω ops ((Oper.mk d (.binOp op s x (.const (.int k z)) u) t pos aft none)::rest) K Kp fr H=di P Ω (p6 P op s (ev fr x) (ev fr (.const (.int k z))) H) d ops rest K Kp fr:=kw rfl
theorem zbj {op:BinOp} {t1:Bool}:bP P Ω ops ((Oper.mk d (.binOp op s x (.const (.bool t1)) u) t pos aft none)::rest) K Kp fr H=di P Ω (p6 P op s (ev fr x) (ev fr (.const (.bool t1))) H) d ops rest K Kp fr:=kw rfl
theorem zbk {op:BinOp} {t1:ByteArray}:bP P Ω ops ((Oper.mk d (.binOp op s x (.const (.string t1)) u) t pos aft none)::rest) K Kp fr H=di P Ω (p6 P op s (ev fr x) (ev fr (.const (.string t1))) H) d ops rest K Kp fr:=kw rfl
theorem zbl {op:BinOp} {t1:Option Addr}:bP P Ω ops ((Oper.mk d (.binOp op s x (.const (.pointer t1)) u) t pos aft none)::rest) K Kp fr H=di P Ω (p6 P op s (ev fr x) (ev fr (.const (.pointer t1))) H) d ops rest K Kp fr:=kw rfl
theorem zbm {op:BinOp}  : bP P Ω ops ((Oper.mk d (.binOp op s x (.const .nilIface) u) t pos aft none)::rest) K Kp fr H=di P Ω (p6 P op s (ev fr x) (ev fr (.const .nilIface)) H) d ops rest K Kp fr:=kw rfl
theorem zbn {op:BinOp}  : bP P Ω ops ((Oper.mk d (.binOp op s x (.const .nilFunc) u) t pos aft none)::rest) K Kp fr H=di P Ω (p6 P op s (ev fr x) (ev fr (.const .nilFunc)) H) d ops rest K Kp fr:=kw rfl
theorem zbo {op:BinOp} {t1:Option Nat}:bP P Ω ops ((Oper.mk d (.binOp op s x (.const (.map t1)) u) t pos aft none)::rest) K Kp fr H=di P Ω (p6 P op s (ev fr x) (ev fr (.const (.map t1))) H) d ops rest K Kp fr:=kw rfl
@[congr] theorem Nc {td td':Option TD} {op:BinOp} {x x':AV} {L:Bool→Prop} (h1:td=td') (h2:x=x'):xB td op x L=xB td' op x' L:=by rw [h1,h2]
theorem zbq {e:TypeId} {m:Mark} {sz:Nat} {xs:List AV} {L:Bool→Prop}:xB (some (.slice e)) .eql (.slice m sz xs) L=∀ b,(xs≠[]→b=false)→L b:=(rfl)
theorem zbr {e:TypeId} {m:Mark} {sz:Nat} {xs:List AV} {L:Bool→Prop}:xB (some (.slice e)) .neq (.slice m sz xs) L=∀ b,(xs≠[]→b=true)→L b:=(rfl)
theorem zbs {e:TypeId} {a c m n:Nat} {L:Bool→Prop}:xB (some (.slice e)) .eql (.ms a c m n) L=∀ b,L b:=(rfl)
theorem zbt {e:TypeId} {a c m n:Nat} {L:Bool→Prop}:xB (some (.slice e)) .neq (.ms a c m n) L=∀ b,L b:=(rfl)
theorem zbu {op:UnOp}:bP P Ω ops ((Oper.mk d (.unOp op s x) t pos aft none)::rest) K Kp fr H=di P Ω (rUn op (ev fr x) H) d ops rest K Kp fr:=(rfl)
theorem zbv:bP P Ω ops ((Oper.mk d (.convert s u x) t pos aft none)::rest) K Kp fr H=di P Ω (zjk P s u (ev fr x) H) d ops rest K Kp fr:=(rfl)
theorem zbw:bP P Ω ops ((Oper.mk d (.makeInterface s x) t pos aft none)::rest) K Kp fr H=di P Ω (zjl P s (ev fr x) H) d ops rest K Kp fr:=(rfl)
theorem zbx {f:Fn} {as bs:List Operand}:bP P Ω ops ((Oper.mk d (.makeFunc f as.toArray bs.toArray) t pos aft none)::rest) K Kp fr H=di P Ω (some ⟨True,.func f (as.map (ev fr)) (bs.map (ev fr)),H⟩) d ops rest K Kp fr:=(rfl)
theorem zbz {mz:Option Operand}:bP P Ω ops ((Oper.mk d (.makeMap s mz) t pos aft none)::rest) K Kp fr H=di P Ω (zis P s (mz.map (ev fr)) H) d ops rest K Kp fr:=(rfl)
theorem zca {b:Bool}:bP P Ω ops ((Oper.mk d (.lookup s x y b) t pos aft none)::rest) K Kp fr H=di P Ω (zit P s (ev fr x) (ev fr y) b H) d ops rest K Kp fr:=(rfl)
theorem zcb:bP P Ω ops ((Oper.mk d (.mapUpdate s x y z) t pos aft none)::rest) K Kp fr H=di P Ω (ziu P s (ev fr x) (ev fr y) (ev fr z) H) d ops rest K Kp fr:=(rfl)
theorem zby:bP P Ω ops ((Oper.mk d (.makeSlice s x y) t pos aft none)::rest) K Kp fr H=di P Ω (zir P s (ev fr x) (ev fr y) H) d ops rest K Kp fr:=(rfl)
theorem zcc {lo hi mx:Option Operand}:bP P Ω ops ((Oper.mk d (.slice s x lo hi mx) t pos aft none)::rest) K Kp fr H=di P Ω (ziw P s (ev fr x) (lo.map (ev fr)) (hi.map (ev fr)) (mx.map (ev fr)) H) d ops rest K Kp fr:=(rfl)
theorem zcd:bP P Ω ops ((Oper.mk d (.fieldAddr s x n) t pos aft none)::rest) K Kp fr H=di P Ω (zjg P s (ev fr x) n H) d ops rest K Kp fr:=(rfl)
theorem zce:bP P Ω ops ((Oper.mk d (.field s x n) t pos aft none)::rest) K Kp fr H=di P Ω (zjh P s (ev fr x) n H) d ops rest K Kp fr:=(rfl)
theorem zcf:bP P Ω ops ((Oper.mk d (.indexAddr s x y) t pos aft none)::rest) K Kp fr H=di P Ω (zji P s (ev fr x) (ev fr y) H) d ops rest K Kp fr:=(rfl)
theorem zcg:bP P Ω ops ((Oper.mk d (.index s x y) t pos aft none)::rest) K Kp fr H=di P Ω (zjj P s (ev fr x) (ev fr y) H) d ops rest K Kp fr:=(rfl)
theorem zch:bP P Ω ops ((Oper.mk d (.typeAssert x s u b) t pos aft none)::rest) K Kp fr H=di P Ω (io P (ev fr x) u b H) d ops rest K Kp fr:=(rfl)
theorem zci:bP P Ω ops ((Oper.mk d (.extract x n) t pos aft none)::rest) K Kp fr H=di P Ω (zjm (ev fr x) n H) d ops rest K Kp fr:=(rfl)
theorem zcj {bi:Builtin} {as:List Operand} {ts:List TypeId} (h:bi≠.panic):bP P Ω ops ((Oper.mk d (.call ⟨.builtin bi,as.toArray,ts.toArray⟩) t pos aft none)::rest) K Kp fr H=di P Ω (ziq P bi ts (as.map (ev fr)) H) d ops rest K Kp fr:=by
 cases bi<;>first|rfl|exact absurd rfl h
theorem zfn {i:Nat} {v:AV}:Fr.put fr (some i) v=(i,v)::fr:=(rfl)
theorem zfo {v:AV}:Fr.put fr none v=fr:=(rfl)
def pe:List Oper→Nat→Option Nat
 |[],_=>none
 |o::l,j=>if j=0 then o.dst else pe l (j - 1)
theorem pN {l:List Oper} {j:Nat}:jd l.toArray j=pe l j:=by
 unfold jd
 rw [List.getElem?_toArray]
 induction l generalizing j with
 |nil=>rfl
 |cons o l ih =>
  unfold pe
  cases j with
  |zero=>rfl
  |succ j=>rw [if_neg (by omega),Nat.add_sub_cancel,← ih];rfl
@[congr] theorem Na {l:List Oper} {j j':Nat} (h:j=j'):pe l j=pe l j':=by rw [h]
theorem zfl {o:Op} {d:Option Tmp} {t:TypeId} {pos:String} {aft:Array Edge} {g:Option (Nat × Bool)} {l:List Oper}:pe (Oper.mk d o t pos aft g::l) 0=d:=(rfl)
theorem zfm {o:Oper} {l:List Oper} {j:Nat} (h:j≠0):pe (o::l) j=pe l (j - 1):=by simp [pe,h]
def gK (P:Program) (Ω:Tbl) (g:Option Nat) (want:Bool) (o:Oper) (ops:Array Oper) (rest:List Oper) (K:Fr→AHeap→Prop) (Kp:Fr→AV→AHeap→Prop) (fr:Fr) (H:AHeap):Prop :=
 match g with
 |some i=>gK2 (Fr.get fr i) i
 |none=>False
where
 gK2 (v:AV) (i:Nat):Prop :=
 match v with
 |.bool b=>(b=want→bP P Ω ops (o::rest) K Kp ((i,.bool want)::fr) H)∧(b=(!want)→bP P Ω ops rest K Kp (Fr.put ((i,.bool (!want))::fr) o.dst (.tup [])) H)
 |.tup []=>bP P Ω ops rest K Kp (fr.put o.dst (.tup [])) H
 |_=>False
section
variable {g:Option Nat} {want:Bool} {o:Oper} {ops:Array Oper} {rest l:List Oper} {K:Fr→AHeap→Prop} {Kp:Fr→AV→AHeap→Prop} {i j:Nat} {v:AV}
theorem zcm {op:Op} {d:Option Tmp} {t:TypeId} {pos:String} {aft:Array Edge}:bP P Ω l.toArray (Oper.mk d op t pos aft (some (j,want))::rest) K Kp fr H =
 gK P Ω (pe l j) want (Oper.mk d op t pos aft none) l.toArray rest K Kp fr H:=by
 unfold bP gK
 simp only [ub]
 have e:(l.toArray[j]?).bind (·.dst)=pe l j:=pN
 have e2:jd l.toArray j=pe l j:=pN
 rw [e,e2]
 cases pe l j with
 |none=>rfl
 |some i =>
  simp only [gK.gK2]
  cases Fr.get fr i
  case tup vs=>cases vs<;>rfl
  all_goals rfl
theorem zfp:gK P Ω (some i) want o ops rest K Kp fr H=gK.gK2 P Ω want o ops rest K Kp fr H (Fr.get fr i) i:=(rfl)
@[congr] theorem Ol {g':Option Nat} (h:g=g'):gK P Ω g want o ops rest K Kp fr H=gK P Ω g' want o ops rest K Kp fr H:=by rw [h]
@[congr] theorem N6 {v':AV} (h:v=v'):gK.gK2 P Ω want o ops rest K Kp fr H v i=gK.gK2 P Ω want o ops rest K Kp fr H v' i:=by rw [h]
theorem zfv {op:Op} {d:Option Tmp} {t:TypeId} {pos:String} {aft:Array Edge}:gK.gK2 P Ω want (Oper.mk d op t pos aft none) ops rest K Kp fr H (.bool want) i=bP P Ω ops (Oper.mk d op t pos aft none::rest) K Kp ((i,.bool want)::fr) H:=by
 simp [gK.gK2]
theorem zfq {op:Op} {d:Tmp} {t:TypeId} {pos:String} {aft:Array Edge} {b:Bool}:gK.gK2 P Ω false (Oper.mk (some d) op t pos aft none) ops rest K Kp fr H (.bool b) i =
 mB b (bP P Ω ops rest K Kp ((d,.tup [])::(i,.bool true)::fr) H) (bP P Ω ops (Oper.mk (some d) op t pos aft none::rest) K Kp ((i,.bool false)::fr) H):=by
 unfold mB gK.gK2;cases b<;>simp [Fr.put]
theorem zfr {op:Op} {d:Tmp} {t:TypeId} {pos:String} {aft:Array Edge} {b:Bool}:gK.gK2 P Ω true (Oper.mk (some d) op t pos aft none) ops rest K Kp fr H (.bool b) i =
 mB b (bP P Ω ops (Oper.mk (some d) op t pos aft none::rest) K Kp ((i,.bool true)::fr) H) (bP P Ω ops rest K Kp ((d,.tup [])::(i,.bool false)::fr) H):=by
 unfold mB gK.gK2;cases b<;>simp [Fr.put]
theorem zfs {op:Op} {d:Tmp} {t:TypeId} {pos:String} {aft:Array Edge}:gK.gK2 P Ω want (Oper.mk (some d) op t pos aft none) ops rest K Kp fr H (.tup []) i=bP P Ω ops rest K Kp ((d,.tup [])::fr) H:=(rfl)
theorem zft {A B:Prop}:mB true A B=A:=by simp [mB]
theorem zfu {A B:Prop}:mB false A B=B:=by simp [mB]
theorem bx {t:Bool} {A B:Prop} (h1:t=true→A) (h2:t=false→B):mB t A B:=⟨h1,h2⟩
end
structure Held {α:Type} (F:α) where
def bp (F:AEnd→AHeap→Prop) (h:Held F):AEnd→AHeap→Prop:=F
def aM (F:AV→Prop) (h:Held F):AV→Prop:=F
def lA (F:AV→AHeap→Prop) (h:Held F):AV→AHeap→Prop:=F
theorem zoj {F:AV→AHeap→Prop} {h:Held F} {v:AV} {H:AHeap}:lA F h v H=F v H:=(rfl)
theorem zoh {F:AEnd→AHeap→Prop} {h:Held F} {x:AEnd} {H:AHeap}:bp F h x H=F x H:=(rfl)
theorem zoi {F:AV→Prop} {h:Held F} {v:AV}:aM F h v=F v:=(rfl)
def lZ (P:Program) (Ω Ω':Tbl) (f:AV) (args:List AV) (H:AHeap) (d:Option Tmp) (ops:Array Oper) (rest:List Oper) (K:Fr→AHeap→Prop) (Kp:Fr→AV→AHeap→Prop) (fr:Fr):Prop :=
 match f with
 |.func (.func k) first cap=>nZ Ω' k (first++args++cap) H (fun v H'=>bP P Ω ops rest K Kp (fr.put d v) H') (Kp fr)
 |_=>False
def GC (P:Program) (name:String):AV→AV
 |.iface t _=>match mth P t name with
  |some k=>.func (.func k) [] []
  |none=>.junk
 |_=>.junk
def Ni:AV→AV
 |.iface _ x=>x
 |_=>.junk
@[congr] theorem MU {Ω':Tbl} {f f':AV} {args args':List AV} (h1:f=f') (h2:args=args') :
 lZ P Ω Ω' f args H d ops rest K Kp fr=lZ P Ω Ω' f' args' H d ops rest K Kp fr:=by rw [h1,h2]
theorem zck {as:List Operand} {ts:Array TypeId}:bP P Ω ops ((Oper.mk d (.call ⟨.value x,as.toArray,ts⟩) t pos aft none)::rest) K Kp fr H=lZ P Ω Ω (ev fr x) (as.map (ev fr)) H d ops rest K Kp fr:=(rfl)
theorem zcl {as:List Operand} {ts:Array TypeId} {name:String}:bP P Ω ops ((Oper.mk d (.call ⟨.invoke x name,as.toArray,ts⟩) t pos aft none)::rest) K Kp fr H=lZ P Ω Ω (GC P name (ev fr x)) (Ni (ev fr x)::as.map (ev fr)) H d ops rest K Kp fr:=by
 show Is P Ω name (ev fr x) _ H _ _=_
 unfold Is lZ GC Ni
 cases ev fr x<;>try rfl
 rename_i t y
 dsimp only
 cases mth P t name with
 |none=>rfl
 |some k=>simp
theorem vj {name:String} {t:TypeId} {v:AV} {k:FuncId} (h:mth P t name=some k):GC P name (.iface t v)=.func (.func k) [] []:=by simp only [GC,h]
theorem zif {t:TypeId} {v:AV}:Ni (.iface t v)=v:=(rfl)
theorem zok {Ω':Tbl} {f:FuncId} {p:List AV→AHeap→(AV→Prop)→Prop} {args first cap:List AV} :
 lZ P Ω ((f,Ent.pure p)::Ω') (.func (.func f) first cap) args H d ops rest K Kp fr=p (first++args++cap) H (aM (fun v=>bP P Ω ops rest K Kp (fr.put d v) H) ⟨⟩):=by
 simp [lZ,nZ,pY,Ent.pure,aM]
theorem zol {Ω':Tbl} {f:FuncId} {p:List AV→AHeap→(AEnd→AHeap→Prop)→Prop} {args first cap:List AV} :
 lZ P Ω ((f,Ent.effect p)::Ω') (.func (.func f) first cap) args H d ops rest K Kp fr=p (first++args++cap) H (bp (fun x H'=>match x with|.ret v=>bP P Ω ops rest K Kp (fr.put d v) H'|.panic v=>Kp fr v H') ⟨⟩):=by
 simp [lZ,nZ,pY,Ent.effect,bp]
 rfl
theorem zom {Ω':Tbl} {f:FuncId} {p:List AV→AHeap→(AV→AHeap→Prop)→Prop} {args first cap:List AV} :
 lZ P Ω ((f,Ent.some p)::Ω') (.func (.func f) first cap) args H d ops rest K Kp fr=p (first++args++cap) H (lA (fun v H'=>bP P Ω ops rest K Kp (fr.put d v) H') ⟨⟩):=by
 simp [lZ,nZ,pY,Ent.some,lA]
theorem zon {Ω':Tbl} {f g:FuncId} {e:Ent} {args first cap:List AV} (h:g≠f) :
 lZ P Ω ((g,e)::Ω') (.func (.func f) first cap) args H d ops rest K Kp fr=lZ P Ω Ω' (.func (.func f) first cap) args H d ops rest K Kp fr:=by
 simp [lZ,nZ,pY,h]
end
def dI (P:Program) (Ω:Tbl) (r:Option R) (d:Option Tmp) (ops:Array Oper) (rest:List Oper) (hs:HS) (ps:List (Nat × (AHeap→Prop))) (K:Fr→AHeap→Prop) (fr:Fr) (H:AHeap):Prop :=
 match r with
 |none=>False
 |some r=>r.c∧awD P Ω ops rest hs.nx ps K (fr.put d r.v) H
def dR (P:Program) (Ω:Tbl) (o:Oper) (r:Option R) (ops:Array Oper) (rest:List Oper) (hs:HS) (ps:List (Nat × (AHeap→Prop))) (K:Fr→AHeap→Prop) (fr:Fr) (H:AHeap):Prop :=
 match r with
 |none=>False
 |some r=>r.c∧v7 hs (m8 P o fr r.v)∧awD P Ω ops rest hs.nx ((hs.i,m8 P o fr r.v)::ps) K (fr.put o.dst r.v) H
def dE (P:Program) (Ω:Tbl) (r:Option R) (d:Option Tmp) (ops:Array Oper) (rest:List Oper) (hs:HS) (ps:List (Nat × (AHeap→Prop))) (K:Fr→AHeap→Prop) (fr:Fr) (H:AHeap):Prop :=
 match r with
 |none=>False
 |some r=>r.c∧pZ hs r.H ps∧awD P Ω ops rest (hs.push H) ps K (fr.put d r.v) r.H
def dC (P:Program) (Ω:Tbl) (td:Option TD) (r:Option R) (d:Option Tmp) (ops:Array Oper) (rest:List Oper) (hs:HS) (ps:List (Nat × (AHeap→Prop))) (K:Fr→AHeap→Prop) (fr:Fr) (H:AHeap):Prop :=
 match td with
 |some (.slice _)=>dE P Ω r d ops rest hs ps K fr H
 |_=>dI P Ω r d ops rest hs ps K fr H
def dS (P:Program) (Ω:Tbl) (td:Option TD) (o:Oper) (r:Option R) (ops:Array Oper) (rest:List Oper) (hs:HS) (ps:List (Nat × (AHeap→Prop))) (K:Fr→AHeap→Prop) (fr:Fr) (H:AHeap):Prop :=
 match td with
 |some (.array _ _)=>dR P Ω o r ops rest hs ps K fr H
 |_=>dI P Ω r o.dst ops rest hs ps K fr H
section
variable {d:Option Tmp} {o:Oper} {ops:Array Oper} {rest l:List Oper} {hs:HS} {ps:List (Nat × (AHeap→Prop))} {K:Fr→AHeap→Prop} {c:Prop} {v:AV} {r r':Option R} {G:AHeap}
@[congr] theorem Om (h:r=r'):dI P Ω r d ops rest hs ps K fr H=dI P Ω r' d ops rest hs ps K fr H:=by rw [h]
@[congr] theorem Oj (h:r=r'):dR P Ω o r ops rest hs ps K fr H=dR P Ω o r' ops rest hs ps K fr H:=by rw [h]
@[congr] theorem OB (h:r=r'):dE P Ω r d ops rest hs ps K fr H=dE P Ω r' d ops rest hs ps K fr H:=by rw [h]
@[congr] theorem On {td td':Option TD} (h:td=td'):dC P Ω td r d ops rest hs ps K fr H=dC P Ω td' r d ops rest hs ps K fr H:=by rw [h]
theorem zdw:dI P Ω (some ⟨c,v,G⟩) d ops rest hs ps K fr H=(c∧awD P Ω ops rest hs.nx ps K (fr.put d v) H):=(rfl)
theorem zdx:dR P Ω o (some ⟨c,v,G⟩) ops rest hs ps K fr H=(c∧v7 hs (m8 P o fr v)∧awD P Ω ops rest hs.nx ((hs.i,m8 P o fr v)::ps) K (fr.put o.dst v) H):=(rfl)
theorem zdy:dE P Ω (some ⟨c,v,G⟩) d ops rest hs ps K fr H=(c∧pZ hs G ps∧awD P Ω ops rest (hs.push H) ps K (fr.put d v) G):=(rfl)
@[congr] theorem Ot {td td':Option TD} (h:td=td'):dS P Ω td o r ops rest hs ps K fr H=dS P Ω td' o r ops rest hs ps K fr H:=by rw [h]
theorem zfb {e:TypeId}:dS P Ω (some (.slice e)) o r ops rest hs ps K fr H=dI P Ω r o.dst ops rest hs ps K fr H:=(rfl)
theorem zfc:dS P Ω (some .string) o r ops rest hs ps K fr H=dI P Ω r o.dst ops rest hs ps K fr H:=(rfl)
theorem zfd {n:Nat} {e:TypeId}:dS P Ω (some (.array n e)) o r ops rest hs ps K fr H=dR P Ω o r ops rest hs ps K fr H:=(rfl)
theorem zdz {e:TypeId}:dC P Ω (some (.slice e)) r d ops rest hs ps K fr H=dE P Ω r d ops rest hs ps K fr H:=(rfl)
theorem zea:dC P Ω (some .string) r d ops rest hs ps K fr H=dI P Ω r d ops rest hs ps K fr H:=(rfl)
theorem zeb {k:IntKind}:dC P Ω (some (.int k)) r d ops rest hs ps K fr H=dI P Ω r d ops rest hs ps K fr H:=(rfl)
theorem zdv:awD P Ω ops [] hs ps K fr H=K fr H:=(rfl)
theorem zeh {c:AHeap→Prop}:v7 hs c=yz (hs.ms.headD []) c hs.hs:=(rfl)
theorem zei:pZ hs H ps=yT (hs.ms.headD []) H ps:=(rfl)
theorem zej {m:List Nat} {c:AHeap→Prop}:yz m c []=True:=(rfl)
theorem zek {m:List Nat} {j:Nat} {c:AHeap→Prop} {h:AHeap} {l:List (Nat × AHeap)}:yz m c ((j,h)::l)=(skip m j (c h)∧yz m c l):=(rfl)
theorem zel {m:List Nat}:yT m H []=True:=(rfl)
theorem zem {m:List Nat} {j:Nat} {c:AHeap→Prop}:yT m H ((j,c)::ps)=(skip m j (c H)∧yT m H ps):=(rfl)
theorem zen {a:List (List Nat)} {i:Nat} {b:List (Nat × AHeap)} {p:List (Nat × Nat)} {q:List Nat}:(HS.mk a i b p q).ms=a:=(rfl)
theorem Pb {a:List (List Nat)} {i:Nat} {b:List (Nat × AHeap)} {p:List (Nat × Nat)} {q:List Nat}:(HS.mk a i b p q).i=i:=(rfl)
theorem zeo {a:List (List Nat)} {i:Nat} {b:List (Nat × AHeap)} {p:List (Nat × Nat)} {q:List Nat}:(HS.mk a i b p q).hs=b:=(rfl)
theorem zho {a:List (List Nat)} {i:Nat} {b:List (Nat × AHeap)} {p:List (Nat × Nat)} {q:List Nat}:(HS.mk a i b p q).lit=q:=(rfl)
theorem zhr {i:Nat}:fC [] i=false:=(rfl)
theorem zhs {i:Nat} {l:List Nat}:fC (i::l) i=true:=by simp [fC]
theorem zht {i j:Nat} {l:List Nat} (h:j≠i):fC (j::l) i=fC l i:=by simp [fC,h]
theorem zhp:(HS.nx hs).lit=hs.lit:=(rfl)
theorem zhq:(HS.push hs H).lit=hs.lit:=(rfl)
theorem zhh {a:List (List Nat)} {i:Nat} {b:List (Nat × AHeap)} {p:List (Nat × Nat)} {q:List Nat}:(HS.mk a i b p q).pre=p:=(rfl)
theorem zhi:(HS.nx hs).pre=hs.pre:=(rfl)
theorem zhj:(HS.push hs H).pre=hs.pre:=(rfl)
theorem zep:(HS.nx hs).ms=hs.ms.tail:=(rfl)
theorem Pa:(HS.nx hs).i=hs.i+1:=(rfl)
theorem zeq:(HS.nx hs).hs=hs.hs:=(rfl)
theorem zer:(HS.push hs H).ms=hs.ms.tail:=(rfl)
theorem zes:(HS.push hs H).i=hs.i+1:=(rfl)
theorem zet:(HS.push hs H).hs=(hs.i,H)::hs.hs:=(rfl)
@[congr] theorem ND {m m':List Nat} {j j':Nat} {c:Prop} (h1:m=m') (h2:j=j'):skip m j c=skip m' j' c:=by rw [h1,h2]
theorem zeu {j:Nat} {c:Prop}:skip [] j c=c:=by simp [skip]
theorem zev {j:Nat} {m:List Nat} {c:Prop}:skip (j::m) j c=True:=by simp [skip]
theorem zew {i j:Nat} {m:List Nat} {c:Prop} (h:i≠j):skip (i::m) j c=skip m j c:=by simp [skip,Ne.symm h]
def Fp (r:Option R) (v:AV):Prop:=match r with|some r=>r.c∧r.v=v|none=>False
@[congr] theorem N2 (h:r=r'):Fp r v=Fp r' v:=by rw [h]
theorem zex {v':AV}:Fp (some ⟨c,v',G⟩) v=(c∧v'=v):=(rfl)
variable {t s u:TypeId} {pos:String} {aft:Array Edge} {x y z:Operand} {j n:Nat} {b:Bool}
theorem zey {g:Option (Nat × Bool)}:m8 P (Oper.mk d (.load s x) t pos aft g) fr v G=Fp (zjc P s (ev fr x) G) v:=(rfl)
theorem zcn  : awD P Ω ops (Oper.mk d (.move x) t pos aft none::rest) hs ps K fr H=dI P Ω (some ⟨True,ev fr x,H⟩) d ops rest hs ps K fr H:=(rfl)
theorem zco {i:Nat}:awD P Ω ops (Oper.mk d (.assign (.tmp i)) t pos aft none::rest) hs ps K fr H=dI P Ω (zip P t (.tmp i) (ev fr (.tmp i)) H) d ops rest hs ps K fr H:=(rfl)
theorem zcp {w:Value}:awD P Ω ops (Oper.mk d (.assign (.const w)) t pos aft none::rest) hs ps K fr H=dE P Ω (zip P t (.const w) (ev fr (.const w)) H) d ops rest hs ps K fr H:=(rfl)
theorem zcq  : awD P Ω ops (Oper.mk d (.pick x y z) t pos aft none::rest) hs ps K fr H=dI P Ω (zix (ev fr x) (ev fr y) (ev fr z) H) d ops rest hs ps K fr H:=(rfl)
def dA (P:Program) (Ω:Tbl) (p:Option Nat) (s:TypeId) (d:Option Tmp) (ops:Array Oper) (rest:List Oper) (hs:HS) (ps:List (Nat × (AHeap→Prop))) (K:Fr→AHeap→Prop) (fr:Fr) (H:AHeap):Prop :=
 match p with
 |some r=>(jH P s r H∧(ti P s).isSome=true)∧v7 hs (jH P s r)∧awD P Ω ops rest hs.nx ((hs.i,jH P s r)::ps) K (fr.put d (.ptr r 0)) H
 |none=>dE P Ω (ziy P s H) d ops rest hs ps K fr H
@[congr] theorem Ou {p p':Option Nat} (h:p=p'):dA P Ω p s d ops rest hs ps K fr H=dA P Ω p' s d ops rest hs ps K fr H:=by rw [h]
theorem zhk {r:Nat}:dA P Ω (some r) s d ops rest hs ps K fr H=((jH P s r H∧(ti P s).isSome=true)∧v7 hs (jH P s r)∧awD P Ω ops rest hs.nx ((hs.i,jH P s r)::ps) K (fr.put d (.ptr r 0)) H):=(rfl)
theorem zhl:dA P Ω none s d ops rest hs ps K fr H=dE P Ω (ziy P s H) d ops rest hs ps K fr H:=(rfl)
theorem zhm {t:TypeId} {r:Nat} {G:AHeap}:jH P t r G=(aR G r=some (mt P t)):=(rfl)
theorem zcr  : awD P Ω ops (Oper.mk d (.alloc s) t pos aft none::rest) hs ps K fr H=dA P Ω (if hs.i<100000 then eW hs.pre hs.i else none) s d ops rest hs ps K fr H:=by
 unfold awD qr dA nV
 dsimp only
 by_cases h:hs.i<100000
 ·rw [if_pos h,if_pos h];cases eW hs.pre hs.i<;>rfl
 ·rw [if_neg h,if_neg h];rfl
theorem zcs  : awD P Ω ops (Oper.mk d (.box s x) t pos aft none::rest) hs ps K fr H=dE P Ω (F3 (ev fr x) H) d ops rest hs ps K fr H:=(rfl)
theorem zct {pz:List (Nat × Operand)}:awD P Ω ops (Oper.mk d (.build s pz.toArray) t pos aft none::rest) hs ps K fr H=dI P Ω (ziz P s (pz.map fun p=>(p.1,ev fr p.2)) H) d ops rest hs ps K fr H:=(rfl)
def dL (P:Program) (Ω:Tbl) (b:Bool) (r:Option R) (d:Option Tmp) (ops:Array Oper) (rest:List Oper) (hs:HS) (ps:List (Nat × (AHeap→Prop))) (K:Fr→AHeap→Prop) (fr:Fr) (H:AHeap):Prop :=
 match b with
 |false=>dE P Ω r d ops rest hs ps K fr H
 |true=>match r with
  |some ⟨c,.slice _ sz xs,_⟩=>c∧pZ hs (H.push (.cells (xs.flatMap AV.cells))) ps∧awD P Ω ops rest (hs.push H) ps K (fr.put d (.ms H.nx 0 sz xs.length)) (H.push (.cells (xs.flatMap AV.cells)))
  |_=>False
@[congr] theorem OO {b b':Bool} (h1:b=b') (h2:r=r'):dL P Ω b r d ops rest hs ps K fr H=dL P Ω b' r' d ops rest hs ps K fr H:=by rw [h1,h2]
theorem zhu:dL P Ω false r d ops rest hs ps K fr H=dE P Ω r d ops rest hs ps K fr H:=(rfl)
theorem zhv {m:Mark} {sz:Nat} {xs:List AV}:dL P Ω true (some ⟨c,.slice m sz xs,G⟩) d ops rest hs ps K fr H =
 (c∧pZ hs (H.push (.cells (xs.flatMap AV.cells))) ps∧awD P Ω ops rest (hs.push H) ps K (fr.put d (.ms H.nx 0 sz xs.length)) (H.push (.cells (xs.flatMap AV.cells)))):=(rfl)
def dF (P:Program) (Ω:Tbl) (q:Option Nat) (b g:Bool) (r:Option R) (d:Option Tmp) (ops:Array Oper) (rest:List Oper) (hs:HS) (ps:List (Nat × (AHeap→Prop))) (K:Fr→AHeap→Prop) (fr:Fr) (H:AHeap):Prop :=
 match q with
 |none=>dL P Ω b r d ops rest hs ps K fr H
 |some _=>match r with
  |some ⟨c,.slice _ sz xs,_⟩=>c∧awD P Ω ops rest hs.nx ps K (fr.put d (.slice (H4 g) sz xs)) H
  |some ⟨c,.ms _ 0 sz n,G⟩=>match aR G H.nx with
   |some cs=>c∧awD P Ω ops rest hs.nx ps K (fr.put d (.slice .any sz (ce sz n cs))) H
   |none=>False
  |_=>False
@[congr] theorem Of {q q':Option Nat} {b g g':Bool} (h1:q=q') (h3:g=g') (h2:r=r'):dF P Ω q b g r d ops rest hs ps K fr H=dF P Ω q' b g' r' d ops rest hs ps K fr H:=by rw [h1,h2,h3]
theorem zhx {b g:Bool}:dF P Ω none b g r d ops rest hs ps K fr H=dL P Ω b r d ops rest hs ps K fr H:=(rfl)
theorem zhy {q:Nat} {b:Bool} {m:Mark} {sz:Nat} {xs:List AV}:dF P Ω (some q) b false (some ⟨c,.slice m sz xs,G⟩) d ops rest hs ps K fr H=(c∧awD P Ω ops rest hs.nx ps K (fr.put d (.slice .any sz xs)) H):=(rfl)
theorem zhz {q:Nat} {b:Bool} {m:Mark} {sz:Nat} {xs:List AV}:dF P Ω (some q) b true (some ⟨c,.slice m sz xs,G⟩) d ops rest hs ps K fr H=(c∧awD P Ω ops rest hs.nx ps K (fr.put d (.slice .full sz xs)) H):=(rfl)
theorem zcu {pz:List (Nat × Operand)}:awD P Ω ops (Oper.mk d (.buildSlice s n pz.toArray) t pos aft none::rest) hs ps K fr H=dF P Ω (eW hs.pre (hs.i+100000)) (fC hs.lit hs.i) (fC hs.lit (hs.i+300000)) (zja P s n (pz.map fun p=>(p.1,ev fr p.2)) H) d ops rest hs ps K fr H:=by
 unfold awD qr
 simp only [nV,p7,vh]
 cases eW hs.pre (hs.i+100000) with
 |some q=>simp only [Option.isSome_some,if_true];rfl
 |none =>
  simp only [Option.isSome_none,Bool.false_eq_true,if_false,zhx]
  cases fC hs.lit hs.i with
  |false=>rfl
  |true=>simp only [if_true];rfl
theorem zcv  : awD P Ω ops (Oper.mk d (.store s x y) t pos aft none::rest) hs ps K fr H=dE P Ω (zje P s (ev fr x) (ev fr y) H) d ops rest hs ps K fr H:=(rfl)
theorem zcw  : awD P Ω ops (Oper.mk d (.nilCheck x) t pos aft none::rest) hs ps K fr H=dI P Ω (zjf (ev fr x) H) d ops rest hs ps K fr H:=(rfl)
theorem zcx {op:BinOp}:awD P Ω ops (Oper.mk d (.binOp op s x y u) t pos aft none::rest) hs ps K fr H=dI P Ω (p6 P op s (ev fr x) (ev fr y) H) d ops rest hs ps K fr H:=(rfl)
theorem zcy {op:UnOp}:awD P Ω ops (Oper.mk d (.unOp op s x) t pos aft none::rest) hs ps K fr H=dI P Ω (rUn op (ev fr x) H) d ops rest hs ps K fr H:=(rfl)
theorem zcz  : awD P Ω ops (Oper.mk d (.makeInterface s x) t pos aft none::rest) hs ps K fr H=dI P Ω (zjl P s (ev fr x) H) d ops rest hs ps K fr H:=(rfl)
theorem zda {f:Fn} {as bs:List Operand}:awD P Ω ops (Oper.mk d (.makeFunc f as.toArray bs.toArray) t pos aft none::rest) hs ps K fr H=dI P Ω (some ⟨True,.func f (as.map (ev fr)) (bs.map (ev fr)),H⟩) d ops rest hs ps K fr H:=(rfl)
theorem zdc {mz:Option Operand}:awD P Ω ops (Oper.mk d (.makeMap s mz) t pos aft none::rest) hs ps K fr H=dE P Ω (zis P s (mz.map (ev fr)) H) d ops rest hs ps K fr H:=(rfl)
theorem zde:awD P Ω ops (Oper.mk d (.mapUpdate s x y z) t pos aft none::rest) hs ps K fr H=dE P Ω (ziu P s (ev fr x) (ev fr y) (ev fr z) H) d ops rest hs ps K fr H:=(rfl)
theorem zdd:awD P Ω ops (Oper.mk d (.lookup s x y b) t pos aft none::rest) hs ps K fr H=dR P Ω (Oper.mk d (.lookup s x y b) t pos aft none) (zit P s (ev fr x) (ev fr y) b H) ops rest hs ps K fr H:=(rfl)
theorem zez {g:Option (Nat × Bool)}:m8 P (Oper.mk d (.lookup s x y b) t pos aft g) fr v G=Fp (zit P s (ev fr x) (ev fr y) b G) v:=(rfl)
def dG (P:Program) (Ω:Tbl) (q:Option Nat) (r:Option R) (d:Option Tmp) (ops:Array Oper) (rest:List Oper) (hs:HS) (ps:List (Nat × (AHeap→Prop))) (K:Fr→AHeap→Prop) (fr:Fr) (H:AHeap):Prop :=
 match q with
 |none=>dE P Ω r d ops rest hs ps K fr H
 |some _=>match r with
  |some ⟨c,.slice _ sz xs,_⟩=>c∧awD P Ω ops rest hs.nx ps K (fr.put d (.slice (H4 (fC hs.lit (hs.i+300000))) sz xs)) H
  |some ⟨c,.ms _ 0 sz n,G⟩=>match aR G H.nx with
   |some cs=>c∧awD P Ω ops rest hs.nx ps K (fr.put d (.slice .any sz (ce sz n cs))) H
   |none=>False
  |_=>False
@[congr] theorem OT {q q':Option Nat} (h1:q=q') (h2:r=r'):dG P Ω q r d ops rest hs ps K fr H=dG P Ω q' r' d ops rest hs ps K fr H:=by rw [h1,h2]
theorem zia:dG P Ω none r d ops rest hs ps K fr H=dE P Ω r d ops rest hs ps K fr H:=(rfl)
theorem zib {q i sz n:Nat} {cs:List AV}:dG P Ω (some q) (some ⟨c,.ms i 0 sz n,H.push (.cells cs)⟩) d ops rest hs ps K fr H=(c∧awD P Ω ops rest hs.nx ps K (fr.put d (.slice .any sz (ce sz n cs))) H):=by
 show (match aR (H.push (.cells cs)) H.nx with|some cs=>c∧awD P Ω ops rest hs.nx ps K (fr.put d (.slice .any sz (ce sz n cs))) H|none=>False)=_
 rw [show aR (H.push (.cells cs)) H.nx=some cs by unfold aR;rw [AHeap.get_push_new]]
theorem zdb  : awD P Ω ops (Oper.mk d (.makeSlice s x y) t pos aft none::rest) hs ps K fr H=dG P Ω (eW hs.pre (hs.i+100000)) (zir P s (ev fr x) (ev fr y) H) d ops rest hs ps K fr H:=by
 unfold awD qr
 simp only [nV,p7,vh,BN]
 cases eW hs.pre (hs.i+100000) with
 |some q =>
  simp only [Option.isSome_some,if_true]
  unfold sF ge dG
  rfl
 |none=>simp only [Option.isSome_none,Bool.false_eq_true,if_false];rfl
theorem zdf {lo hi mx:Option Operand}:awD P Ω ops (Oper.mk d (.slice s x lo hi mx) t pos aft none::rest) hs ps K fr H=dS P Ω ((ti P s).map TI.desc) (Oper.mk d (.slice s x lo hi mx) t pos aft none) (ziw P s (ev fr x) (lo.map (ev fr)) (hi.map (ev fr)) (mx.map (ev fr)) H) ops rest hs ps K fr H:=by
 unfold awD qr dS dR dI
 simp only [nV,p7,vh,BN,jx,Bool.false_eq_true,if_false,kind,sF,ge]
 cases ziw P s (ev fr x) (lo.map (ev fr)) (hi.map (ev fr)) (mx.map (ev fr)) H with
 |none=>simp only;split<;>rfl
 |some r =>
  simp only
  cases (ti P s).map TI.desc with
  |none=>rfl
  |some td=>cases td<;>rfl
theorem zfa {lo hi mx:Option Operand} {g:Option (Nat × Bool)}:m8 P (Oper.mk d (.slice s x lo hi mx) t pos aft g) fr v G=Fp (ziw P s (ev fr x) (lo.map (ev fr)) (hi.map (ev fr)) (mx.map (ev fr)) G) v:=(rfl)
theorem zdg  : awD P Ω ops (Oper.mk d (.fieldAddr s x n) t pos aft none::rest) hs ps K fr H=dI P Ω (zjg P s (ev fr x) n H) d ops rest hs ps K fr H:=(rfl)
theorem zdh  : awD P Ω ops (Oper.mk d (.field s x n) t pos aft none::rest) hs ps K fr H=dI P Ω (zjh P s (ev fr x) n H) d ops rest hs ps K fr H:=(rfl)
theorem zdi  : awD P Ω ops (Oper.mk d (.indexAddr s x y) t pos aft none::rest) hs ps K fr H=dI P Ω (zji P s (ev fr x) (ev fr y) H) d ops rest hs ps K fr H:=(rfl)
theorem zdj  : awD P Ω ops (Oper.mk d (.index s x y) t pos aft none::rest) hs ps K fr H=dI P Ω (zjj P s (ev fr x) (ev fr y) H) d ops rest hs ps K fr H:=(rfl)
theorem zdk  : awD P Ω ops (Oper.mk d (.typeAssert x s u b) t pos aft none::rest) hs ps K fr H=dI P Ω (io P (ev fr x) u b H) d ops rest hs ps K fr H:=(rfl)
theorem zdl  : awD P Ω ops (Oper.mk d (.extract x n) t pos aft none::rest) hs ps K fr H=dI P Ω (zjm (ev fr x) n H) d ops rest hs ps K fr H:=(rfl)
theorem zdm {as:List Operand} {ts:List TypeId}:awD P Ω ops (Oper.mk d (.call ⟨.builtin .len,as.toArray,ts.toArray⟩) t pos aft none::rest) hs ps K fr H=dI P Ω (ziq P .len ts (as.map (ev fr)) H) d ops rest hs ps K fr H:=(rfl)
theorem zdn {as:List Operand} {ts:List TypeId}:awD P Ω ops (Oper.mk d (.call ⟨.builtin .min,as.toArray,ts.toArray⟩) t pos aft none::rest) hs ps K fr H=dI P Ω (ziq P .min ts (as.map (ev fr)) H) d ops rest hs ps K fr H:=(rfl)
theorem zdo {as:List Operand} {ts:List TypeId}:awD P Ω ops (Oper.mk d (.call ⟨.builtin .max,as.toArray,ts.toArray⟩) t pos aft none::rest) hs ps K fr H=dI P Ω (ziq P .max ts (as.map (ev fr)) H) d ops rest hs ps K fr H:=(rfl)
def dP (P:Program) (Ω:Tbl) (b:Bool) (ts:List TypeId) (vs:List AV) (r:Option R) (d:Option Tmp) (ops:Array Oper) (rest:List Oper) (hs:HS) (ps:List (Nat × (AHeap→Prop))) (K:Fr→AHeap→Prop) (fr:Fr) (H:AHeap):Prop :=
 match b with
 |false=>dE P Ω r d ops rest hs ps K fr H
 |true=>DQ P ts vs H fun v H'=>pZ hs H' ps∧awD P Ω ops rest (hs.push H) ps K (fr.put d v) H'
@[congr] theorem Oh {b b':Bool} {ts:List TypeId} {vs vs':List AV} (h1:b=b') (h3:vs=vs') (h2:r=r'):dP P Ω b ts vs r d ops rest hs ps K fr H=dP P Ω b' ts vs' r' d ops rest hs ps K fr H:=by rw [h1,h2,h3]
theorem zic {ts:List TypeId} {vs:List AV}:dP P Ω false ts vs r d ops rest hs ps K fr H=dE P Ω r d ops rest hs ps K fr H:=(rfl)
def dQ (P:Program) (Ω:Tbl) (r:Option R) (d:Option Tmp) (ops:Array Oper) (rest:List Oper) (hs:HS) (ps:List (Nat × (AHeap→Prop))) (K:Fr→AHeap→Prop) (fr:Fr) (H:AHeap):Prop :=
 match r with
 |some r=>r.c∧Kw H r.v fun v H'=>pZ hs H' ps∧awD P Ω ops rest (hs.push H) ps K (fr.put d v) H'
 |none=>False
@[congr] theorem OA (h2:r=r'):dQ P Ω r d ops rest hs ps K fr H=dQ P Ω r' d ops rest hs ps K fr H:=by rw [h2]
theorem zid {ts:List TypeId} {sz:Nat} {x:AV} {t t2:TypeId}:dP P Ω true (t::t2::ts) [.slice .full sz [],x] r d ops rest hs ps K fr H=dQ P Ω (zjr P t t2 sz [] x H) d ops rest hs ps K fr H:=(rfl)
theorem zie {c:Prop} {i sz:Nat} {xs:List AV} {G:AHeap}:dQ P Ω (some ⟨c,.slice (.own i) sz xs,G⟩) d ops rest hs ps K fr H=(c∧xs≠[]∧(∀ x∈xs.flatMap AV.cells,x.lt 0)∧pZ hs (H.push (.part (xs.flatMap AV.cells))) ps∧awD P Ω ops rest (hs.push H) ps K (fr.put d (.ms H.nx 0 sz xs.length)) (H.push (.part (xs.flatMap AV.cells)))):=(rfl)
theorem zdp {as:List Operand} {ts:List TypeId}:awD P Ω ops (Oper.mk d (.call ⟨.builtin .append,as.toArray,ts.toArray⟩) t pos aft none::rest) hs ps K fr H=dP P Ω (fC hs.lit (hs.i+200000)) ts (as.map (ev fr)) (ziq P .append ts (as.map (ev fr)) H) d ops rest hs ps K fr H:=by
 unfold awD qr dP
 simp only [nV,p7,vh,BN]
 cases fC hs.lit (hs.i+200000) with
 |false=>rfl
 |true=>simp only [if_true,JS];rfl
theorem zdq {as:List Operand} {ts:List TypeId}:awD P Ω ops (Oper.mk d (.call ⟨.builtin .copy,as.toArray,ts.toArray⟩) t pos aft none::rest) hs ps K fr H=dE P Ω (ziq P .copy ts (as.map (ev fr)) H) d ops rest hs ps K fr H:=(rfl)
theorem zdr:awD P Ω ops (Oper.mk d (.load s x) t pos aft none::rest) hs ps K fr H=dR P Ω (Oper.mk d (.load s x) t pos aft none) (zjc P s (ev fr x) H) ops rest hs ps K fr H:=(rfl)
theorem zds:awD P Ω ops (Oper.mk d (.convert s u x) t pos aft none::rest) hs ps K fr H=dC P Ω ((ti P u).map TI.desc) (zjk P s u (ev fr x) H) d ops rest hs ps K fr H:=by
 unfold awD qr dC dE dI
 simp only [nV,p7,vh,BN,jx,Bool.false_eq_true,if_false,kind,sF,ge]
 cases zjk P s u (ev fr x) H with
 |none=>simp only;split<;>rfl
 |some r =>
  simp only
  cases (ti P u).map TI.desc with
  |none=>rfl
  |some td=>cases td<;>rfl
def qg (P:Program) (Ω Ω':Tbl) (f:AV) (args:List AV) (d:Option Tmp) (ops:Array Oper) (rest:List Oper) (hs:HS) (ps:List (Nat × (AHeap→Prop))) (K:Fr→AHeap→Prop) (fr:Fr) (H:AHeap):Prop :=
 match f with
 |.func (.func k) first cap=>tP Ω' k (first++args++cap) hs ps (fun v hs' ps' H'=>awD P Ω ops rest hs' ps' K (fr.put d v) H') H
 |_=>False
@[congr] theorem MV {Ω':Tbl} {f f':AV} {args args':List AV} (h1:f=f') (h2:args=args') :
 qg P Ω Ω' f args d ops rest hs ps K fr H=qg P Ω Ω' f' args' d ops rest hs ps K fr H:=by rw [h1,h2]
theorem zdt {as:List Operand} {ts:Array TypeId}:awD P Ω ops (Oper.mk d (.call ⟨.value x,as.toArray,ts⟩) t pos aft none::rest) hs ps K fr H =
 qg P Ω Ω (ev fr x) (as.map (ev fr)) d ops rest hs ps K fr H:=(rfl)
theorem zoo {Ω':Tbl} {f:FuncId} {p:List AV→AHeap→(AV→Prop)→Prop} {args first cap:List AV} :
 qg P Ω ((f,Ent.pure p)::Ω') (.func (.func f) first cap) args d ops rest hs ps K fr H =
  p (first++args++cap) H (aM (fun v=>v7 hs (fun h=>p (first++args++cap) h (fun v'=>v'=v))∧awD P Ω ops rest hs.nx ((hs.i,fun h=>h=H∨p (first++args++cap) h (fun v'=>v'=v))::ps) K (fr.put d v) H) ⟨⟩):=by
 simp [qg,tP,pY,Ent.pure,aM]
theorem zop {Ω':Tbl} {f:FuncId} {p:List AV→AHeap→(AEnd→AHeap→Prop)→Prop} {args first cap:List AV} :
 qg P Ω ((f,Ent.effect p)::Ω') (.func (.func f) first cap) args d ops rest hs ps K fr H =
  p (first++args++cap) H (bp (fun x H'=>match x with|.ret v=>pZ hs H' ps∧awD P Ω ops rest (hs.push H) ps K (fr.put d v) H'|.panic _=>False) ⟨⟩):=by
 simp [qg,tP,pY,Ent.effect,bp]
 rfl
theorem zoq {Ω':Tbl} {f g:FuncId} {e:Ent} {args first cap:List AV} (h:g≠f) :
 qg P Ω ((g,e)::Ω') (.func (.func f) first cap) args d ops rest hs ps K fr H=qg P Ω Ω' (.func (.func f) first cap) args d ops rest hs ps K fr H:=by
 simp [qg,tP,pY,h]
def dgK (P:Program) (Ω:Tbl) (g:Option Nat) (want:Bool) (o:Oper) (ops:Array Oper) (rest:List Oper) (hs:HS) (ps:List (Nat × (AHeap→Prop))) (K:Fr→AHeap→Prop) (fr:Fr) (H:AHeap):Prop :=
 match g with
 |some i=>dgK2 (Fr.get fr i) i
 |none=>False
where
 dgK2 (v:AV) (i:Nat):Prop :=
 match v with
 |.bool b=>(b=want→awD P Ω ops (o::rest) hs ps K ((i,.bool want)::fr) H)∧(b=(!want)→awD P Ω ops rest hs.nx ps K (Fr.put ((i,.bool (!want))::fr) o.dst (.tup [])) H)
 |.tup []=>awD P Ω ops rest hs.nx ps K (fr.put o.dst (.tup [])) H
 |_=>False
theorem zdu {want:Bool} {op:Op}:awD P Ω l.toArray (Oper.mk d op t pos aft (some (j,want))::rest) hs ps K fr H =
 dgK P Ω (pe l j) want (Oper.mk d op t pos aft none) l.toArray rest hs ps K fr H:=by
 unfold awD dgK
 simp only [ub]
 have e:(l.toArray[j]?).bind (·.dst)=pe l j:=pN
 have e2:jd l.toArray j=pe l j:=pN
 rw [e,e2]
 cases pe l j with
 |none=>rfl
 |some i =>
  simp only [dgK.dgK2]
  cases Fr.get fr i
  case tup vs=>cases vs<;>rfl
  all_goals rfl
variable {want:Bool} {i:Nat}
theorem zfe:dgK P Ω (some i) want o ops rest hs ps K fr H=dgK.dgK2 P Ω want o ops rest hs ps K fr H (Fr.get fr i) i:=(rfl)
@[congr] theorem Oe {g g':Option Nat} (h:g=g'):dgK P Ω g want o ops rest hs ps K fr H=dgK P Ω g' want o ops rest hs ps K fr H:=by rw [h]
@[congr] theorem Nm {v':AV} (h:v=v'):dgK.dgK2 P Ω want o ops rest hs ps K fr H v i=dgK.dgK2 P Ω want o ops rest hs ps K fr H v' i:=by rw [h]
theorem zfh {op:Op} {d:Tmp}:dgK.dgK2 P Ω want (Oper.mk (some d) op t pos aft none) ops rest hs ps K fr H (.tup []) i=awD P Ω ops rest hs.nx ps K ((d,.tup [])::fr) H:=(rfl)
theorem zff {op:Op} {d:Tmp} {b:Bool}:dgK.dgK2 P Ω false (Oper.mk (some d) op t pos aft none) ops rest hs ps K fr H (.bool b) i =
 mB b (awD P Ω ops rest hs.nx ps K ((d,.tup [])::(i,.bool true)::fr) H) (awD P Ω ops (Oper.mk (some d) op t pos aft none::rest) hs ps K ((i,.bool false)::fr) H):=by
 unfold mB dgK.dgK2;cases b<;>simp [Fr.put]
theorem zfg {op:Op} {d:Tmp} {b:Bool}:dgK.dgK2 P Ω true (Oper.mk (some d) op t pos aft none) ops rest hs ps K fr H (.bool b) i =
 mB b (awD P Ω ops (Oper.mk (some d) op t pos aft none::rest) hs ps K ((i,.bool true)::fr) H) (awD P Ω ops rest hs.nx ps K ((d,.tup [])::(i,.bool false)::fr) H):=by
 unfold mB dgK.dgK2;cases b<;>simp [Fr.put]
end
theorem zee {i:Nat}:av [] i=[]:=(rfl)
theorem zef {i:Nat} {m:List (List Nat)} {l:List (Nat × List (List Nat))}:av ((i,m)::l) i=m:=by simp [av]
theorem zeg {i j:Nat} {m:List (List Nat)} {l:List (Nat × List (List Nat))} (h:i≠j):av ((j,m)::l) i=av l i:=by simp [av,h]
theorem zga {i:Nat}:ev fr (.tmp i)=Fr.get fr i:=(rfl)
theorem zgb {kd:IntKind} {n:Int}:ev fr (.const (.int kd n))=.int kd n:=(rfl)
theorem zgc {b:Bool}:ev fr (.const (.bool b))=.bool b:=(rfl)
theorem zgd:ev fr (.const (.slice none 0 0))=.slice .nil 1 []:=(rfl)
theorem zge:ev fr (.const (.pointer none))=.nilp:=(rfl)
theorem zgf:ev fr (.const .nilIface)=.nili:=(rfl)
theorem zgg:ev fr (.const .nilFunc)=.nilf:=(rfl)
theorem zgh:ev fr (.const (.map none))=.nilm:=(rfl)
theorem zgi {s:ByteArray}:ev fr (.const (.string s))=.str s.data.toList:=(rfl)
theorem zgj {f:Nat}:ev fr (.func f)=.func (.func f) [] []:=(rfl)
theorem zgk {i:Nat} {v:AV}:Fr.get ((i,v)::fr) i=v:=by simp [Fr.get]
theorem zgl {i j:Nat} {v:AV} (h:j≠i):Fr.get ((j,v)::fr) i=Fr.get fr i:=by simp [Fr.get,h]
end Go.AL
