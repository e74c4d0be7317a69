/- Lemmas of the proof; no condition. -/
import Derived.Test.YtjffcopmhkcejaaGreatAlCode
set_option linter.all false
namespace Go.AL
variable {P:Program} {Ω:Tbl} {B:Conts} {k:List KItem} {fr:Fr} {H:AHeap}
theorem zaa{K:Conts}:aw P Ω .skip K fr H=K.n fr H:=(rfl)
theorem zae{K:Conts}{id:Nat}{l:List Oper}:aw P Ω (.region id l.toArray false) K fr H=kh P Ω K.n0 l.toArray ((K.T id).headD []) l K.n K.p fr H:=(rfl)
@[congr] theorem Oc{ops:Array Oper}{is is':List Nat}{l:List Oper}{K:Vz}{Kp:Fr→AV→AHeap→Prop}{n0:Nat}(h:is=is'):kh P Ω n0 ops is l K Kp fr H=kh P Ω n0 ops is' l K Kp fr H:=by rw[h]
theorem zaf{ops:Array Oper}{l:List Oper}{K:Vz}{Kp:Fr→AV→AHeap→Prop}{n0:Nat}:kh P Ω n0 ops [] l K Kp fr H=cC P Ω ops l K Kp fr H:=(rfl)
theorem Av{n0:Nat}{ops:Array Oper}{i:Nat}{is:List Nat}{l:List Oper}{K:Vz}{Kp:Fr→AV→AHeap→Prop}(h:i%3=0):kh P Ω n0 ops (i::is) l K Kp fr H=cC P Ω ops (l.take (i/3)) (fun fr H=>match l.drop (i/3)with
 |o::rest=>o.guard=none∧aN P o fr H (kh P Ω n0 ops is rest K Kp)
 |[]=>False) Kp fr H:=if_pos h
def BC{n0:Nat}{ops:Array Oper}{i:Nat}{is:List Nat}{l:List Oper}{K:Vz}{Kp:Fr→AV→AHeap→Prop}(h:i%3=1):kh P Ω n0 ops (i::is) l K Kp fr H=cC P Ω ops (l.take (i/3)) (fun fr H=>mr n0 (kh P Ω n0 ops is (l.drop (i/3)) K Kp) fr H) Kp fr H :=
 (if_neg Xa).trans (if_pos h)
theorem Ef{n0:Nat}{ops:Array Oper}{i:Nat}{is:List Nat}{l:List Oper}{K:Vz}{Kp:Fr→AV→AHeap→Prop}(h:i%3=2):kh P Ω n0 ops (i::is) l K Kp fr H=cC P Ω ops (l.take (i/3)) (fun fr H=>match l.drop (i/3)with
 |o::rest=>o.guard=none∧aO P o fr H (kh P Ω n0 ops is rest K Kp)
 |[]=>False) Kp fr H:=(if_neg Xa).trans (if_neg Xa)
def tW{n0:Nat}{K:Vz}(fr':Fr)(H':AHeap)(h:enterW n0 fr H fr' H')(hk:K fr' H'):mr n0 K fr H:=.inl ⟨fr',H',h,hk⟩
def vB{n0:Nat}{K:Vz}(s j sz:Nat)(cs:Wz)(h1:Fr.get fr s=.agg cs)(h2:cs[j]?=some (.slice .nil 1 []))(hk:K ((s,.agg (cs.set j (.slice (.own H.nx) sz [])))::fr) (H.push (.buf sz 0))):mr n0 K fr H:=.inr (.inl ⟨s,j,sz,cs,h1,h2,hk⟩)
def lO{n0:Nat}{K:Vz}(s:Nat)(y:AV)(h:wkD (Fr.get fr s) y)(hk:K ((s,y)::fr) H):mr n0 K fr H:=.inr (.inr (.inl ⟨s,y,h,hk⟩))
def fL{n0:Nat}{K:Vz}(id:Nat){cs:Wz}(cs':Wz)(hc:a8 H id=some cs)(h:nB cs cs')(hk:K fr (H.set id (.cells cs'))):mr n0 K fr H:=.inr (.inr (.inr (.inl ⟨id,cs,cs',hc,h,hk⟩)))
def kQ{n0:Nat}{K:Vz}(id:Nat){cs:Wz}(hc:H.get id=some (.part cs))(h:∀ k,K fr (H.set id (.cells (cs++List.replicate k .junk)))):mr n0 K fr H:=.inr (.inr (.inr (.inr (.inl ⟨id,cs,hc,h⟩))))
def xW{n0:Nat}{K:Vz}(s j sz:Nat){id off:Nat}{cs:Wz}(h0:Fr.get fr s=.ptr id off)(hc:a8 H id=some cs)(hj:cs[j]?=some (.slice .nil 1 []))(h:K fr ((H.push (.buf sz 0)).set id (.cells (cs.set j (.slice (.own H.nx) sz []))))):mr n0 K fr H:=.inr (.inr (.inr (.inr (.inr (.inl ⟨s,id,off,j,sz,cs,h0,hc,hj,h⟩)))))
def OD{n0:Nat}{K:Vz}(id j mid off sz len:Nat){cs ms:Wz}(L:Wz)(hc:a8 H id=some cs)(hj:cs[j]?=some (.ms mid off sz len))(hne:id≠mid)(hm:a8 H mid=some ms)(hL:dh sz len (ms.drop off)=L)(hlt:(AV.slice .any sz L).lt H.nx)
 (h:K fr ((H.del mid).set id (.cells (cs.set j (.slice .any sz L))))):mr n0 K fr H:=.inr (.inr (.inr (.inr (.inr (.inr ⟨id,j,mid,off,sz,len,cs,ms,hc,hj,hne,hm,by rw[hL];exact hlt,by rw[hL];exact h⟩)))))
theorem wkDR_iff:∀{xs ys:Wz},uH xs ys↔xs.length=ys.length∧∀ i (hi:i<xs.length) (hi':i<ys.length),nB xs[i].cells ys[i].cells
 |[],[]=>by simp[uH]
 |[],_::_=>by simp[uH]
 |_::_,[]=>by simp[uH]
 |x::xs,y::ys=>by
  rw[uH,wkDR_iff]
  exact W6
def nS{xs ys:Wz}:wkD (.agg xs) (.agg ys)=nB xs ys:=by rw[wkD];exact propext wkDL_iff.symm
def cY{m m':Mark}{sz sz':Nat}{xs ys:Wz}:wkD (.slice m sz xs) (.slice m' sz' ys)=((wkM m m'∧sz=sz'∧uH xs ys)∨(m=.nil∧m'=.any∧xs=[]∧ys=[])):=by
 rw[wkD]
 refine propext (or_congr (and_congr Iff.rfl (and_congr Iff.rfl ?_)) Iff.rfl)
 rw[wkDR_iff]
 exact and_congr Iff.rfl ⟨fun h i hi hi'=>wkDL_iff.2 (h i hi hi'),fun h i hi hi'=>wkDL_iff.1 (h i hi hi')⟩
theorem dO:nB [] []=True:=(rfl)
theorem cX{x y:AV}{xs ys:Wz}:nB (x::xs) (y::ys)=(wkD x y∧nB xs ys):=(rfl)
theorem fq:uH [] []=True:=(rfl)
theorem jc{x y:AV}{xs ys:Wz}:uH (x::xs) (y::ys)=(nB x.cells y.cells∧uH xs ys):=(rfl)
theorem jW:∀ x:AV,wkD x x
 |.agg xs=>by rw[wkD];exact⟨rfl,fun j hj _=>jW xs[j]⟩
 |.slice m sz xs=>by rw[wkD];exact .inl ⟨.inr rfl,rfl,rfl,fun i hi _=>⟨rfl,fun j hj _=>jW xs[i].cells[j]⟩⟩
 |.int _ _|.bool _|.str _|.ptr _ _|.cptr _|.nilp|.ms _ _ _ _|.mapv _|.nilm|.func _ _ _|.nilf|.iface _ _|.nili|.tup _|.junk=>by rw[wkD]<;>(intros;contradiction)
termination_by x=>SizeOf.sizeOf x
decreasing_by
 all_goals simp_wf
 all_goals first
  |(have h1:=AV.sizeOf_cells (List.getElem_mem hj);have h2:=List.sizeOf_lt_of_mem (List.getElem_mem hi);omega)
  |(have:=List.sizeOf_lt_of_mem (List.getElem_mem hj);omega)
theorem wkDL_same{xs:Wz}:nB xs xs=True:=eq_true (wkDL_iff.2 ⟨rfl,fun _ _ _=>jW _⟩)
theorem j6{xs:Wz}:uH xs xs=True:=eq_true (wkDR_iff.2 ⟨rfl,fun _ _ _=>wkDL_same.symm▸trivial⟩)
def mU{k:IntKind}{n:Int}{y:AV}:wkD (.int k n) y=(.int k n=y):=by rw[wkD]<;>(intros;contradiction)
def mP{s:By}{y:AV}:wkD (.str s) y=(.str s=y):=by rw[wkD]<;>(intros;contradiction)
def mG{b:Bool}{y:AV}:wkD (.bool b) y=(.bool b=y):=by rw[wkD]<;>(intros;contradiction)
theorem zfn{n0:Nat}{K:Vz}:wq [] n0 K fr H=K fr H:=(rfl)
theorem zfo{n0:Nat}{m:List Nat}{l:List (List Nat)}{K:Vz}:wq (m::l) n0 K fr H=mr n0 K fr H:=(rfl)
@[congr] theorem Q1{l l':List (List Nat)}{n0:Nat}{K:Vz}(h:l=l'):wq l n0 K fr H=wq l' n0 K fr H:=by rw[h]
@[congr] theorem Q2{n0:Nat}{K:Vz}{fr':Fr}(h:fr=fr'):mr n0 K fr H=mr n0 K fr' H:=by rw[h]
theorem zfm{K:Conts}{id:Nat}{l:List Oper}:aw P Ω (.region id l.toArray true) K fr H=wq (K.T (id+400)) K.n0 (fun fr H=>tA P (K.T (id+800)) [] H fun pre H=>awD P Ω l.toArray l ⟨K.T id,0,[],pre,(K.T (id+1200)).headD []⟩ [] K.n fr H) fr H:=(rfl)
theorem zhg{pre:List (Nat × Nat)}{N:List (Nat × Nat)→AHeap→Prop}:tA P [] pre H N=N pre H:=(rfl)
theorem zhh{i t:Nat}{l:List (List Nat)}{pre:List (Nat × Nat)}{N:List (Nat × Nat)→AHeap→Prop}:tA P ([i,t]::l) pre H N=((ti P t).isSome=true∧ii pre i=none∧tA P l ((i,H.nx)::pre) (H.push (.cells (oB P t))) N):=(rfl)
theorem zia{i:Nat}{l:List (List Nat)}{pre:List (Nat × Nat)}{N:List (Nat × Nat)→AHeap→Prop}:tA P ([i]::l) pre H N=(100000≤i∧ii pre i=none∧tA P l ((i,0)::pre) H N):=(rfl)
theorem zhi{i:Nat}:ii [] i=none:=(rfl)
def zhj{i r:Nat}{l:List (Nat × Nat)}:ii ((i,r)::l) i=some r:=by simp[ii]
def zhk{i j r:Nat}{l:List (Nat × Nat)}(h:j≠i):ii ((j,r)::l) i=ii l i:=by simp[ii,h]
theorem zhr{t:TypeId}:oB P t=(ti P t).elim [] fun i=>i.zero.cells:=(rfl)
@[congr] theorem R5{l l':List (List Nat)}{pre:List (Nat × Nat)}{N:List (Nat × Nat)→AHeap→Prop}(h:l=l'):tA P l pre H N=tA P l' pre H N:=by rw[h]
theorem zag{a b:Code}:aw P Ω (.seq a b) (KI P Ω B k) fr H=aw P Ω a (KI P Ω B (.code b::k)) fr H:=(rfl)
theorem zah{id:Nat}{c:Code}:aw P Ω (.block id c) (KI P Ω B k) fr H=aw P Ω c (KI P Ω B (.blk id::k)) fr H:=(rfl)
theorem zai{K:Conts}{id:Nat}:aw P Ω (.exit id) K fr H=K.x id fr H:=(rfl)
theorem zab{K:Conts}{l:Nat}:aw P Ω (.label l) K fr H=K.n fr H:=(rfl)
theorem zaj{K:Conts}:aw P Ω .ret K fr H=K.r fr H:=(rfl)
theorem zak{c:Code}:(KI P Ω B (.code c::k)).n fr H=aw P Ω c (KI P Ω B k) fr H:=(rfl)
theorem zal{id:Nat}:(KI P Ω B (.blk id::k)).n fr H=(KI P Ω B k).n fr H:=(rfl)
theorem zam{R:Vz}:(KI P Ω B (.back R::k)).n fr H=R fr H:=(rfl)
theorem zan:(KI P Ω B []).n fr H=B.n fr H:=(rfl)
def zao{id:Nat}:(KI P Ω B (.blk id::k)).x id fr H=(KI P Ω B k).n fr H:=by simp[KI]
def zap{id i:Nat}(h:i≠id):(KI P Ω B (.blk id::k)).x i fr H=(KI P Ω B k).x i fr H:=by simp[KI,h]
theorem zaq{c:Code}{i:Nat}:(KI P Ω B (.code c::k)).x i fr H=(KI P Ω B k).x i fr H:=(rfl)
theorem zar{R:Vz}{i:Nat}:(KI P Ω B (.back R::k)).x i fr H=(KI P Ω B k).x i fr H:=(rfl)
def TX:(KI P Ω B k).r=B.r:=by
 induction k with
 |nil=>rfl
 |cons x k ih=>cases x<;>exact ih
def TU:(KI P Ω B k).T=B.T:=by
 induction k with
 |nil=>rfl
 |cons a k ih=>cases a<;>exact ih
def zad{P:Program}{Ω:Tbl}{k:List KItem}{fr:Fr}{H:AHeap}{rs:List ResultVar}{n0:Nat}{e:AEnd}{H1:AHeap}{id:Nat}{l:List Oper}:aw P Ω (.region id l.toArray false) (KI P Ω (sQ P rs n0 e H1 (aC [])) k) fr H=cC P Ω l.toArray l (KI P Ω (sQ P rs n0 e H1 (aC [])) k).n (KI P Ω (sQ P rs n0 e H1 (aC [])) k).p fr H:=by
 rw[zae,TU];rfl
def UU:(KI P Ω B k).r fr H=B.r fr H:=by rw[TX]
def TG:(KI P Ω B k).p=B.p:=by
 induction k with
 |nil=>rfl
 |cons x k ih=>cases x<;>exact ih
def UF{v:AV}:(KI P Ω B k).p fr v H=B.p fr v H:=by rw[TG]
def rF(P:Program)(Ω:Tbl)(v:AV)(a b:Code)(K:Conts)(fr:Fr)(H:AHeap):Prop :=
 match v with
 |.bool t=>(t=true→aw P Ω a K fr H)∧(t=false→aw P Ω b K fr H)
 |_=>False
theorem zas{K:Conts}{c:Operand}{a b:Code}:aw P Ω (.cond c a b) K fr H=rF P Ω (ev fr c) a b K fr H:=(rfl)
def zat{K:Conts}{a b:Code}:rF P Ω (.bool true) a b K fr H=aw P Ω a K fr H:=by simp[rF]
def zau{K:Conts}{a b:Code}:rF P Ω (.bool false) a b K fr H=aw P Ω b K fr H:=by simp[rF]
def pV(t:Bool)(A B:Prop):Prop:=(t=true→A)∧(t=false→B)
theorem zav{K:Conts}{t:Bool}{a b:Code}:rF P Ω (.bool t) a b K fr H=pV t (aw P Ω a K fr H) (aw P Ω b K fr H):=(rfl)
def ax{K:Conts}{t:Bool}{a b:Code}(h1:t=true→aw P Ω a K fr H)(h2:t=false→aw P Ω b K fr H):rF P Ω (.bool t) a b K fr H:=⟨h1,h2⟩
@[congr] theorem RF{v v':AV}{K:Conts}{a b:Code}(h:v=v'):rF P Ω v a b K fr H=rF P Ω v' a b K fr H:=by rw[h]
def fF(P:Program)(Ω:Tbl)(r:Option R)(d:Option Tmp)(ops:Array Oper)(rest:List Oper)(K:Vz)(Kp:Fr→AV→AHeap→Prop)(fr:Fr):Prop :=
 match r with
 |some r=>r.c∧cC P Ω ops rest K Kp (fr.put d r.v) r.H
 |none=>False
@[congr] theorem Ri{r r':Option R}{d:Option Tmp}{ops:Array Oper}{rest:List Oper}{K:Vz}{Kp:Fr→AV→AHeap→Prop}
 (h:r=r'):fF P Ω r d ops rest K Kp fr=fF P Ω r' d ops rest K Kp fr:=by rw[h]
section
variable {d:Option Tmp} {i:Tmp} {ops:Array Oper} {rest:List Oper} {K:Vz} {Kp:Fr→AV→AHeap→Prop} {c:Prop} {v:AV}
def zga:fF P Ω (some ⟨True,v,H⟩) (some i) ops rest K Kp fr=cC P Ω ops rest K Kp ((i,v)::fr) H:=by simp[fF,Fr.put]
theorem zgb:fF P Ω (some ⟨c,v,H⟩) (some i) ops rest K Kp fr=(c∧cC P Ω ops rest K Kp ((i,v)::fr) H):=(rfl)
def zgc:fF P Ω (some ⟨True,v,H⟩) none ops rest K Kp fr=cC P Ω ops rest K Kp fr H:=by simp[fF,Fr.put]
theorem zgd:fF P Ω (some ⟨c,v,H⟩) none ops rest K Kp fr=(c∧cC P Ω ops rest K Kp fr H):=(rfl)
theorem zaw:cC P Ω ops [] K Kp fr H=K fr H:=(rfl)
variable {t s u:TypeId} {pos:String} {aft:Array Edge} {x y z:Operand} {j n:Nat} {b:Bool}
theorem zax:cC P Ω ops ((Oper.mk d (.move x) t pos aft none)::rest) K Kp fr H=fF P Ω (some ⟨True,ev fr x,H⟩) d ops rest K Kp fr:=(rfl)
theorem zay:cC P Ω ops ((Oper.mk d (.assign x) t pos aft none)::rest) K Kp fr H=fF P Ω (zit P t x (ev fr x) H) d ops rest K Kp fr:=(rfl)
theorem zaz:cC P Ω ops ((Oper.mk d (.pick x y z) t pos aft none)::rest) K Kp fr H=fF P Ω (zjb (ev fr x) (ev fr y) (ev fr z) H) d ops rest K Kp fr:=(rfl)
theorem zba:cC P Ω ops ((Oper.mk d (.alloc s) t pos aft none)::rest) K Kp fr H=fF P Ω (zjc P s H) d ops rest K Kp fr:=(rfl)
theorem zbb:cC P Ω ops ((Oper.mk d (.box s x) t pos aft none)::rest) K Kp fr H=fF P Ω (FD (ev fr x) H) d ops rest K Kp fr:=(rfl)
theorem zbc{ps:List (Nat × Operand)}:cC P Ω ops ((Oper.mk d (.build s ps.toArray) t pos aft none)::rest) K Kp fr H=fF P Ω (zjd P s (ps.map fun p=>(p.1,ev fr p.2)) H) d ops rest K Kp fr:=(rfl)
theorem zbd{ps:List (Nat × Operand)}:cC P Ω ops ((Oper.mk d (.buildSlice s n ps.toArray) t pos aft none)::rest) K Kp fr H=fF P Ω (zje P s n (ps.map fun p=>(p.1,ev fr p.2)) H) d ops rest K Kp fr:=(rfl)
theorem zbe:cC P Ω ops ((Oper.mk d (.load s x) t pos aft none)::rest) K Kp fr H=fF P Ω (zjg P s (ev fr x) H) d ops rest K Kp fr:=(rfl)
theorem zbf:cC P Ω ops ((Oper.mk d (.store s x y) t pos aft none)::rest) K Kp fr H=fF P Ω (zji P s (ev fr x) (ev fr y) H) d ops rest K Kp fr:=(rfl)
theorem zbg:cC P Ω ops ((Oper.mk d (.nilCheck x) t pos aft none)::rest) K Kp fr H=fF P Ω (zjj (ev fr x) H) d ops rest K Kp fr:=(rfl)
def mD{op:BinOp}(h:zv y=false):cC P Ω ops ((Oper.mk d (.binOp op s x y u) t pos aft none)::rest) K Kp fr H=fF P Ω (rC P op s (ev fr x) (ev fr y) H) d ops rest K Kp fr:=by
 unfold cC sO
 simp only[lu,pD,h,Bool.false_eq_true,if_false]
 rfl
theorem zbp{op:BinOp}:cC P Ω ops ((Oper.mk d (.binOp op s x (.const (.slice none 0 0)) u) t pos aft none)::rest) K Kp fr H=xz ((ti P s).map TI.desc) op (ev fr x) (fun b=>cC P Ω ops rest K Kp (fr.put d (.bool b)) H):=(rfl)
def zbh{op:BinOp}{i:Nat}:cC P Ω ops ((Oper.mk d (.binOp op s x (.tmp i) u) t pos aft none)::rest) K Kp fr H=fF P Ω (rC P op s (ev fr x) (ev fr (.tmp i)) H) d ops rest K Kp fr:=mD rfl
def zbi{op:BinOp}{k:IntKind}{z:Int}:cC P Ω ops ((Oper.mk d (.binOp op s x (.const (.int k z)) u) t pos aft none)::rest) K Kp fr H=fF P Ω (rC P op s (ev fr x) (ev fr (.const (.int k z))) H) d ops rest K Kp fr:=mD rfl
def zbj{op:BinOp}{t1:Bool}:cC P Ω ops ((Oper.mk d (.binOp op s x (.const (.bool t1)) u) t pos aft none)::rest) K Kp fr H=fF P Ω (rC P op s (ev fr x) (ev fr (.const (.bool t1))) H) d ops rest K Kp fr:=mD rfl
def zbk{op:BinOp}{t1:ByteArray}:cC P Ω ops ((Oper.mk d (.binOp op s x (.const (.string t1)) u) t pos aft none)::rest) K Kp fr H=fF P Ω (rC P op s (ev fr x) (ev fr (.const (.string t1))) H) d ops rest K Kp fr:=mD rfl
def zbl{op:BinOp}{t1:Option Addr}:cC P Ω ops ((Oper.mk d (.binOp op s x (.const (.pointer t1)) u) t pos aft none)::rest) K Kp fr H=fF P Ω (rC P op s (ev fr x) (ev fr (.const (.pointer t1))) H) d ops rest K Kp fr:=mD rfl
def zbm{op:BinOp}  : cC P Ω ops ((Oper.mk d (.binOp op s x (.const .nilIface) u) t pos aft none)::rest) K Kp fr H=fF P Ω (rC P op s (ev fr x) (ev fr (.const .nilIface)) H) d ops rest K Kp fr:=mD rfl
def zbn{op:BinOp}  : cC P Ω ops ((Oper.mk d (.binOp op s x (.const .nilFunc) u) t pos aft none)::rest) K Kp fr H=fF P Ω (rC P op s (ev fr x) (ev fr (.const .nilFunc)) H) d ops rest K Kp fr:=mD rfl
def zbo{op:BinOp}{t1:Option Nat}:cC P Ω ops ((Oper.mk d (.binOp op s x (.const (.map t1)) u) t pos aft none)::rest) K Kp fr H=fF P Ω (rC P op s (ev fr x) (ev fr (.const (.map t1))) H) d ops rest K Kp fr:=mD rfl
@[congr] theorem Tm{td td':Option TD}{op:BinOp}{x x':AV}{L:Bool→Prop}(h1:td=td')(h2:x=x'):xz td op x L=xz td' op x' L:=by rw[h1,h2]
theorem zbq{e:TypeId}{m:Mark}{sz:Nat}{xs:Wz}{L:Bool→Prop}:xz (some (.slice e)) .eql (.slice m sz xs) L=∀ b,(xs≠[]→b=false)→L b:=(rfl)
theorem zbr{e:TypeId}{m:Mark}{sz:Nat}{xs:Wz}{L:Bool→Prop}:xz (some (.slice e)) .neq (.slice m sz xs) L=∀ b,(xs≠[]→b=true)→L b:=(rfl)
theorem zbs{e:TypeId}{a c m n:Nat}{L:Bool→Prop}:xz (some (.slice e)) .eql (.ms a c m n) L=∀ b,L b:=(rfl)
theorem zbt{e:TypeId}{a c m n:Nat}{L:Bool→Prop}:xz (some (.slice e)) .neq (.ms a c m n) L=∀ b,L b:=(rfl)
theorem zbu{op:UnOp}:cC P Ω ops ((Oper.mk d (.unOp op s x) t pos aft none)::rest) K Kp fr H=fF P Ω (rUn op (ev fr x) H) d ops rest K Kp fr:=(rfl)
theorem zbv:cC P Ω ops ((Oper.mk d (.convert s u x) t pos aft none)::rest) K Kp fr H=fF P Ω (zjo P s u (ev fr x) H) d ops rest K Kp fr:=(rfl)
theorem zbw:cC P Ω ops ((Oper.mk d (.makeInterface s x) t pos aft none)::rest) K Kp fr H=fF P Ω (zjp P s (ev fr x) H) d ops rest K Kp fr:=(rfl)
theorem zbx{f:Fn}{as bs:List Operand}:cC P Ω ops ((Oper.mk d (.makeFunc f as.toArray bs.toArray) t pos aft none)::rest) K Kp fr H=fF P Ω (some ⟨True,.func f (as.map (ev fr)) (bs.map (ev fr)),H⟩) d ops rest K Kp fr:=(rfl)
theorem zbz{mz:Option Operand}:cC P Ω ops ((Oper.mk d (.makeMap s mz) t pos aft none)::rest) K Kp fr H=fF P Ω (ziw P s (mz.map (ev fr)) H) d ops rest K Kp fr:=(rfl)
theorem zca{b:Bool}:cC P Ω ops ((Oper.mk d (.lookup s x y b) t pos aft none)::rest) K Kp fr H=fF P Ω (zix P s (ev fr x) (ev fr y) b H) d ops rest K Kp fr:=(rfl)
theorem zcb:cC P Ω ops ((Oper.mk d (.mapUpdate s x y z) t pos aft none)::rest) K Kp fr H=fF P Ω (ziy P s (ev fr x) (ev fr y) (ev fr z) H) d ops rest K Kp fr:=(rfl)
theorem zcc:cC P Ω ops ((Oper.mk d (.mapEntry s x y) t pos aft none)::rest) K Kp fr H=fF P Ω (mY P s (ev fr x) (ev fr y) H) d ops rest K Kp fr:=(rfl)
theorem zcd:cC P Ω ops ((Oper.mk d (.entryStore s x y z) t pos aft none)::rest) K Kp fr H=fF P Ω (kP (ev fr x) (ev fr y) (ev fr z) H) d ops rest K Kp fr:=(rfl)
theorem zby:cC P Ω ops ((Oper.mk d (.makeSlice s x y) t pos aft none)::rest) K Kp fr H=fF P Ω (ziv P s (ev fr x) (ev fr y) H) d ops rest K Kp fr:=(rfl)
theorem zce{lo hi mx:Option Operand}:cC P Ω ops ((Oper.mk d (.slice s x lo hi mx) t pos aft none)::rest) K Kp fr H=fF P Ω (zja P s (ev fr x) (lo.map (ev fr)) (hi.map (ev fr)) (mx.map (ev fr)) H) d ops rest K Kp fr:=(rfl)
theorem zcf:cC P Ω ops ((Oper.mk d (.fieldAddr s x n) t pos aft none)::rest) K Kp fr H=fF P Ω (zjk P s (ev fr x) n H) d ops rest K Kp fr:=(rfl)
theorem zcg:cC P Ω ops ((Oper.mk d (.field s x n) t pos aft none)::rest) K Kp fr H=fF P Ω (zjl P s (ev fr x) n H) d ops rest K Kp fr:=(rfl)
theorem zch:cC P Ω ops ((Oper.mk d (.indexAddr s x y) t pos aft none)::rest) K Kp fr H=fF P Ω (zjm P s (ev fr x) (ev fr y) H) d ops rest K Kp fr:=(rfl)
theorem zci:cC P Ω ops ((Oper.mk d (.index s x y) t pos aft none)::rest) K Kp fr H=fF P Ω (zjn P s (ev fr x) (ev fr y) H) d ops rest K Kp fr:=(rfl)
theorem zcj:cC P Ω ops ((Oper.mk d (.typeAssert x s u b) t pos aft none)::rest) K Kp fr H=fF P Ω (nX P (ev fr x) u b H) d ops rest K Kp fr:=(rfl)
theorem zck:cC P Ω ops ((Oper.mk d (.extract x n) t pos aft none)::rest) K Kp fr H=fF P Ω (zjq (ev fr x) n H) d ops rest K Kp fr:=(rfl)
def zcl{bi:Builtin}{as:List Operand}{ts:List TypeId}(h:bi≠.panic):cC P Ω ops ((Oper.mk d (.call ⟨.builtin bi,as.toArray,ts.toArray⟩) t pos aft none)::rest) K Kp fr H=fF P Ω (ziu P bi ts (as.map (ev fr)) H) d ops rest K Kp fr:=by
 cases bi<;>first|rfl|exact absurd rfl h
theorem zfr{i:Nat}{v:AV}:Fr.put fr (some i) v=(i,v)::fr:=(rfl)
theorem zfs{v:AV}:Fr.put fr none v=fr:=(rfl)
def pZ:List Oper→Nat→Option Nat
 |[],_=>none
 |o::l,j=>if j=0 then o.dst else pZ l (j-1)
def rp{l:List Oper}{j:Nat}:kU l.toArray j=pZ l j:=by
 unfold kU
 rw[List.getElem?_toArray]
 induction l generalizing j with
 |nil=>rfl
 |cons o l ih =>
  unfold pZ
  cases j with
  |zero=>rfl
  |succ j=>rw[if_neg Xa,Nat.add_sub_cancel,← ih];rfl
@[congr] theorem Sh{l:List Oper}{j j':Nat}(h:j=j'):pZ l j=pZ l j':=by rw[h]
theorem zfp{o:Op}{d:Option Tmp}{t:TypeId}{pos:String}{aft:Array Edge}{g:Option (Nat × Bool)}{l:List Oper}:pZ (Oper.mk d o t pos aft g::l) 0=d:=(rfl)
def zfq{o:Oper}{l:List Oper}{j:Nat}(h:j≠0):pZ (o::l) j=pZ l (j-1):=by simp[pZ,h]
def gK(P:Program)(Ω:Tbl)(g:Option Nat)(want:Bool)(o:Oper)(ops:Array Oper)(rest:List Oper)(K:Vz)(Kp:Fr→AV→AHeap→Prop)(fr:Fr)(H:AHeap):Prop :=
 match g with
 |some i=>gK2 (Fr.get fr i) i
 |none=>False
where
 gK2 (v:AV) (i:Nat):Prop :=
 match v with
 |.bool b=>(b=want→cC P Ω ops (o::rest) K Kp ((i,.bool want)::fr) H)∧(b=(!want)→cC P Ω ops rest K Kp (Fr.put ((i,.bool (!want))::fr) o.dst (.tup [])) H)
 |.tup []=>cC P Ω ops rest K Kp (fr.put o.dst (.tup [])) H
 |_=>False
section
variable {g:Option Nat} {want:Bool} {o:Oper} {ops:Array Oper} {rest l:List Oper} {K:Vz} {Kp:Fr→AV→AHeap→Prop} {i j:Nat} {v:AV}
def zco{op:Op}{d:Option Tmp}{t:TypeId}{pos:String}{aft:Array Edge}:cC P Ω l.toArray (Oper.mk d op t pos aft (some (j,want))::rest) K Kp fr H =
 gK P Ω (pZ l j) want (Oper.mk d op t pos aft none) l.toArray rest K Kp fr H:=by
 unfold cC gK
 simp only[uA]
 have e:(l.toArray[j]?).bind (·.dst)=pZ l j:=rp
 have e2:kU l.toArray j=pZ l j:=rp
 rw[e,e2]
 cases pZ l j with
 |none=>rfl
 |some i =>
  simp only[gK.gK2]
  cases Fr.get fr i
  case tup vs=>cases vs<;>rfl
  all_goals rfl
theorem zft:gK P Ω (some i) want o ops rest K Kp fr H=gK.gK2 P Ω want o ops rest K Kp fr H (Fr.get fr i) i:=(rfl)
@[congr] theorem Ud{g':Option Nat}(h:g=g'):gK P Ω g want o ops rest K Kp fr H=gK P Ω g' want o ops rest K Kp fr H:=by rw[h]
@[congr] theorem Tn{v':AV}(h:v=v'):gK.gK2 P Ω want o ops rest K Kp fr H v i=gK.gK2 P Ω want o ops rest K Kp fr H v' i:=by rw[h]
def zfz{op:Op}{d:Option Tmp}{t:TypeId}{pos:String}{aft:Array Edge}:gK.gK2 P Ω want (Oper.mk d op t pos aft none) ops rest K Kp fr H (.bool want) i=cC P Ω ops (Oper.mk d op t pos aft none::rest) K Kp ((i,.bool want)::fr) H:=by
 simp[gK.gK2]
def zfu{op:Op}{d:Tmp}{t:TypeId}{pos:String}{aft:Array Edge}{b:Bool}:gK.gK2 P Ω false (Oper.mk (some d) op t pos aft none) ops rest K Kp fr H (.bool b) i =
 pV b (cC P Ω ops rest K Kp ((d,.tup [])::(i,.bool true)::fr) H) (cC P Ω ops (Oper.mk (some d) op t pos aft none::rest) K Kp ((i,.bool false)::fr) H):=by
 unfold pV gK.gK2;cases b<;>simp[Fr.put]
def zfv{op:Op}{d:Tmp}{t:TypeId}{pos:String}{aft:Array Edge}{b:Bool}:gK.gK2 P Ω true (Oper.mk (some d) op t pos aft none) ops rest K Kp fr H (.bool b) i =
 pV b (cC P Ω ops (Oper.mk (some d) op t pos aft none::rest) K Kp ((i,.bool true)::fr) H) (cC P Ω ops rest K Kp ((d,.tup [])::(i,.bool false)::fr) H):=by
 unfold pV gK.gK2;cases b<;>simp[Fr.put]
theorem zfw{op:Op}{d:Tmp}{t:TypeId}{pos:String}{aft:Array Edge}:gK.gK2 P Ω want (Oper.mk (some d) op t pos aft none) ops rest K Kp fr H (.tup []) i=cC P Ω ops rest K Kp ((d,.tup [])::fr) H:=(rfl)
def zfx{A B:Prop}:pV true A B=A:=by simp[pV]
def zfy{A B:Prop}:pV false A B=B:=by simp[pV]
def eZ{t:Bool}{A B:Prop}(h1:t=true→A)(h2:t=false→B):pV t A B:=⟨h1,h2⟩
end
structure Held{α:Type}(F:α) where
def aX(F:AEnd→AHeap→Prop)(h:Held F):AEnd→AHeap→Prop:=F
def aA(F:AV→Prop)(h:Held F):AV→Prop:=F
def oo(F:By1)(h:Held F):AV→AHeap→Prop:=F
theorem zol{F:By1}{h:Held F}{v:AV}{H:AHeap}:oo F h v H=F v H:=(rfl)
theorem zoj{F:AEnd→AHeap→Prop}{h:Held F}{x:AEnd}{H:AHeap}:aX F h x H=F x H:=(rfl)
theorem zok{F:AV→Prop}{h:Held F}{v:AV}:aA F h v=F v:=(rfl)
def pL(P:Program)(Ω Ω':Tbl)(f:AV)(args:Wz)(H:AHeap)(d:Option Tmp)(ops:Array Oper)(rest:List Oper)(K:Vz)(Kp:Fr→AV→AHeap→Prop)(fr:Fr):Prop :=
 match f with
 |.func (.func k) first cap=>ut Ω' k (first++args++cap) H (fun v H'=>cC P Ω ops rest K Kp (fr.put d v) H') (Kp fr)
 |_=>False
@[congr] theorem Rm{Ω':Tbl}{f f':AV}{args args':Wz}(h1:f=f')(h2:args=args') :
 pL P Ω Ω' f args H d ops rest K Kp fr=pL P Ω Ω' f' args' H d ops rest K Kp fr:=by rw[h1,h2]
theorem zcm{as:List Operand}{ts:Array TypeId}:cC P Ω ops ((Oper.mk d (.call ⟨.value x,as.toArray,ts⟩) t pos aft none)::rest) K Kp fr H=pL P Ω Ω (ev fr x) (as.map (ev fr)) H d ops rest K Kp fr:=(rfl)
def zom{Ω':Tbl}{f:FuncId}{p:Wz→AHeap→(AV→Prop)→Prop}{args first cap:Wz} :
 pL P Ω ((f,Ent.pure p)::Ω') (.func (.func f) first cap) args H d ops rest K Kp fr=p (first++args++cap) H (aA (fun v=>cC P Ω ops rest K Kp (fr.put d v) H) ⟨⟩):=by
 simp[pL,ut,qD,Ent.pure,aA]
def zon{Ω':Tbl}{f:FuncId}{p:Wz→AHeap→(AEnd→AHeap→Prop)→Prop}{args first cap:Wz} :
 pL P Ω ((f,Ent.effect p)::Ω') (.func (.func f) first cap) args H d ops rest K Kp fr=p (first++args++cap) H (aX (fun x H'=>match x with|.ret v=>cC P Ω ops rest K Kp (fr.put d v) H'|.panic v=>Kp fr v H') ⟨⟩):=by
 simp[pL,ut,qD,Ent.effect,aX]
 rfl
def zoo{Ω':Tbl}{f:FuncId}{p:Wz→AHeap→(By1)→Prop}{args first cap:Wz} :
 pL P Ω ((f,Ent.some p)::Ω') (.func (.func f) first cap) args H d ops rest K Kp fr=p (first++args++cap) H (oo (fun v H'=>cC P Ω ops rest K Kp (fr.put d v) H') ⟨⟩):=by
 simp[pL,ut,qD,Ent.some,oo]
def zop{Ω':Tbl}{f g:FuncId}{e:Ent}{args first cap:Wz}(h:g≠f) :
 pL P Ω ((g,e)::Ω') (.func (.func f) first cap) args H d ops rest K Kp fr=pL P Ω Ω' (.func (.func f) first cap) args H d ops rest K Kp fr:=by
 simp[pL,ut,qD,h]
end
def dI(P:Program)(Ω:Tbl)(r:Option R)(d:Option Tmp)(ops:Array Oper)(rest:List Oper)(hs:HS)(ps:List (Nat × (AHeap→Prop)))(K:Vz)(fr:Fr)(H:AHeap):Prop :=
 match r with
 |none=>False
 |some r=>r.c∧awD P Ω ops rest hs.nx ps K (fr.put d r.v) H
def dR(P:Program)(Ω:Tbl)(o:Oper)(r:Option R)(ops:Array Oper)(rest:List Oper)(hs:HS)(ps:List (Nat × (AHeap→Prop)))(K:Vz)(fr:Fr)(H:AHeap):Prop :=
 match r with
 |none=>False
 |some r=>r.c∧v8 hs (oF P o fr r.v)∧awD P Ω ops rest hs.nx ((hs.i,oF P o fr r.v)::ps) K (fr.put o.dst r.v) H
def dE(P:Program)(Ω:Tbl)(r:Option R)(d:Option Tmp)(ops:Array Oper)(rest:List Oper)(hs:HS)(ps:List (Nat × (AHeap→Prop)))(K:Vz)(fr:Fr)(H:AHeap):Prop :=
 match r with
 |none=>False
 |some r=>r.c∧pe hs r.H ps∧awD P Ω ops rest (hs.push H) ps K (fr.put d r.v) r.H
def dC(P:Program)(Ω:Tbl)(td:Option TD)(r:Option R)(d:Option Tmp)(ops:Array Oper)(rest:List Oper)(hs:HS)(ps:List (Nat × (AHeap→Prop)))(K:Vz)(fr:Fr)(H:AHeap):Prop :=
 match td with
 |some (.slice _)=>dE P Ω r d ops rest hs ps K fr H
 |_=>dI P Ω r d ops rest hs ps K fr H
def dS(P:Program)(Ω:Tbl)(td:Option TD)(o:Oper)(r:Option R)(ops:Array Oper)(rest:List Oper)(hs:HS)(ps:List (Nat × (AHeap→Prop)))(K:Vz)(fr:Fr)(H:AHeap):Prop :=
 match td with
 |some (.array _ _)=>dR P Ω o r ops rest hs ps K fr H
 |_=>dI P Ω r o.dst ops rest hs ps K fr H
section
variable {d:Option Tmp} {o:Oper} {ops:Array Oper} {rest l:List Oper} {hs:HS} {ps:List (Nat × (AHeap→Prop))} {K:Vz} {c:Prop} {v:AV} {r r':Option R} {G:AHeap}
@[congr] theorem T1(h:r=r'):dI P Ω r d ops rest hs ps K fr H=dI P Ω r' d ops rest hs ps K fr H:=by rw[h]
@[congr] theorem TP(h:r=r'):dR P Ω o r ops rest hs ps K fr H=dR P Ω o r' ops rest hs ps K fr H:=by rw[h]
@[congr] theorem Uk(h:r=r'):dE P Ω r d ops rest hs ps K fr H=dE P Ω r' d ops rest hs ps K fr H:=by rw[h]
@[congr] theorem T5{td td':Option TD}(h:td=td'):dC P Ω td r d ops rest hs ps K fr H=dC P Ω td' r d ops rest hs ps K fr H:=by rw[h]
theorem zea:dI P Ω (some ⟨c,v,G⟩) d ops rest hs ps K fr H=(c∧awD P Ω ops rest hs.nx ps K (fr.put d v) H):=(rfl)
theorem zeb:dR P Ω o (some ⟨c,v,G⟩) ops rest hs ps K fr H=(c∧v8 hs (oF P o fr v)∧awD P Ω ops rest hs.nx ((hs.i,oF P o fr v)::ps) K (fr.put o.dst v) H):=(rfl)
theorem zec:dE P Ω (some ⟨c,v,G⟩) d ops rest hs ps K fr H=(c∧pe hs G ps∧awD P Ω ops rest (hs.push H) ps K (fr.put d v) G):=(rfl)
@[congr] theorem Ug{td td':Option TD}(h:td=td'):dS P Ω td o r ops rest hs ps K fr H=dS P Ω td' o r ops rest hs ps K fr H:=by rw[h]
theorem zff{e:TypeId}:dS P Ω (some (.slice e)) o r ops rest hs ps K fr H=dI P Ω r o.dst ops rest hs ps K fr H:=(rfl)
theorem zfg:dS P Ω (some .string) o r ops rest hs ps K fr H=dI P Ω r o.dst ops rest hs ps K fr H:=(rfl)
theorem zfh{n:Nat}{e:TypeId}:dS P Ω (some (.array n e)) o r ops rest hs ps K fr H=dR P Ω o r ops rest hs ps K fr H:=(rfl)
theorem zed{e:TypeId}:dC P Ω (some (.slice e)) r d ops rest hs ps K fr H=dE P Ω r d ops rest hs ps K fr H:=(rfl)
theorem zee:dC P Ω (some .string) r d ops rest hs ps K fr H=dI P Ω r d ops rest hs ps K fr H:=(rfl)
theorem zef{k:IntKind}:dC P Ω (some (.int k)) r d ops rest hs ps K fr H=dI P Ω r d ops rest hs ps K fr H:=(rfl)
theorem zdz:awD P Ω ops [] hs ps K fr H=K fr H:=(rfl)
theorem zel{c:AHeap→Prop}:v8 hs c=x8 (hs.ms.headD []) c hs.hs:=(rfl)
theorem zem:pe hs H ps=yB (hs.ms.headD []) H ps:=(rfl)
theorem zen{m:List Nat}{c:AHeap→Prop}:x8 m c []=True:=(rfl)
theorem zeo{m:List Nat}{j:Nat}{c:AHeap→Prop}{h:AHeap}{l:List (Nat × AHeap)}:x8 m c ((j,h)::l)=(skip m j (c h)∧x8 m c l):=(rfl)
theorem zep{m:List Nat}:yB m H []=True:=(rfl)
theorem zeq{m:List Nat}{j:Nat}{c:AHeap→Prop}:yB m H ((j,c)::ps)=(skip m j (c H)∧yB m H ps):=(rfl)
theorem zer{a:List (List Nat)}{i:Nat}{b:List (Nat × AHeap)}{p:List (Nat × Nat)}{q:List Nat}:(HS.mk a i b p q).ms=a:=(rfl)
theorem UT{a:List (List Nat)}{i:Nat}{b:List (Nat × AHeap)}{p:List (Nat × Nat)}{q:List Nat}:(HS.mk a i b p q).i=i:=(rfl)
theorem zes{a:List (List Nat)}{i:Nat}{b:List (Nat × AHeap)}{p:List (Nat × Nat)}{q:List Nat}:(HS.mk a i b p q).hs=b:=(rfl)
theorem zhs{a:List (List Nat)}{i:Nat}{b:List (Nat × AHeap)}{p:List (Nat × Nat)}{q:List Nat}:(HS.mk a i b p q).lit=q:=(rfl)
theorem zhv{i:Nat}:iM [] i=false:=(rfl)
def zhw{i:Nat}{l:List Nat}:iM (i::l) i=true:=by simp[iM]
def zhx{i j:Nat}{l:List Nat}(h:j≠i):iM (j::l) i=iM l i:=by simp[iM,h]
theorem zht:(HS.nx hs).lit=hs.lit:=(rfl)
theorem zhu:(HS.push hs H).lit=hs.lit:=(rfl)
theorem zhl{a:List (List Nat)}{i:Nat}{b:List (Nat × AHeap)}{p:List (Nat × Nat)}{q:List Nat}:(HS.mk a i b p q).pre=p:=(rfl)
theorem zhm:(HS.nx hs).pre=hs.pre:=(rfl)
theorem zhn:(HS.push hs H).pre=hs.pre:=(rfl)
theorem zet:(HS.nx hs).ms=hs.ms.tail:=(rfl)
theorem Uv:(HS.nx hs).i=hs.i+1:=(rfl)
theorem zeu:(HS.nx hs).hs=hs.hs:=(rfl)
theorem zev:(HS.push hs H).ms=hs.ms.tail:=(rfl)
theorem zew:(HS.push hs H).i=hs.i+1:=(rfl)
theorem zex:(HS.push hs H).hs=(hs.i,H)::hs.hs:=(rfl)
@[congr] theorem Se{m m':List Nat}{j j':Nat}{c:Prop}(h1:m=m')(h2:j=j'):skip m j c=skip m' j' c:=by rw[h1,h2]
def zey{j:Nat}{c:Prop}:skip [] j c=c:=by simp[skip]
def zez{j:Nat}{m:List Nat}{c:Prop}:skip (j::m) j c=True:=by simp[skip]
def zfa{i j:Nat}{m:List Nat}{c:Prop}(h:i≠j):skip (i::m) j c=skip m j c:=by simp[skip,Ne.symm h]
def GX(r:Option R)(v:AV):Prop:=match r with|some r=>r.c∧r.v=v|none=>False
@[congr] theorem S8(h:r=r'):GX r v=GX r' v:=by rw[h]
theorem zfb{v':AV}:GX (some ⟨c,v',G⟩) v=(c∧v'=v):=(rfl)
variable {t s u:TypeId} {pos:String} {aft:Array Edge} {x y z:Operand} {j n:Nat} {b:Bool}
theorem zfc{g:Option (Nat × Bool)}:oF P (Oper.mk d (.load s x) t pos aft g) fr v G=GX (zjg P s (ev fr x) G) v:=(rfl)
theorem zcp  : awD P Ω ops (Oper.mk d (.move x) t pos aft none::rest) hs ps K fr H=dI P Ω (some ⟨True,ev fr x,H⟩) d ops rest hs ps K fr H:=(rfl)
theorem zcq{i:Nat}:awD P Ω ops (Oper.mk d (.assign (.tmp i)) t pos aft none::rest) hs ps K fr H=dI P Ω (zit P t (.tmp i) (ev fr (.tmp i)) H) d ops rest hs ps K fr H:=(rfl)
theorem zcr{w:Value}:awD P Ω ops (Oper.mk d (.assign (.const w)) t pos aft none::rest) hs ps K fr H=dE P Ω (zit P t (.const w) (ev fr (.const w)) H) d ops rest hs ps K fr H:=(rfl)
theorem zcs  : awD P Ω ops (Oper.mk d (.pick x y z) t pos aft none::rest) hs ps K fr H=dI P Ω (zjb (ev fr x) (ev fr y) (ev fr z) H) d ops rest hs ps K fr H:=(rfl)
def dA(P:Program)(Ω:Tbl)(p:Option Nat)(s:TypeId)(d:Option Tmp)(ops:Array Oper)(rest:List Oper)(hs:HS)(ps:List (Nat × (AHeap→Prop)))(K:Vz)(fr:Fr)(H:AHeap):Prop :=
 match p with
 |some r=>(lZ P s r H∧(ti P s).isSome=true)∧v8 hs (lZ P s r)∧awD P Ω ops rest hs.nx ((hs.i,lZ P s r)::ps) K (fr.put d (.ptr r 0)) H
 |none=>dE P Ω (zjc P s H) d ops rest hs ps K fr H
@[congr] theorem TV{p p':Option Nat}(h:p=p'):dA P Ω p s d ops rest hs ps K fr H=dA P Ω p' s d ops rest hs ps K fr H:=by rw[h]
theorem zho{r:Nat}:dA P Ω (some r) s d ops rest hs ps K fr H=((lZ P s r H∧(ti P s).isSome=true)∧v8 hs (lZ P s r)∧awD P Ω ops rest hs.nx ((hs.i,lZ P s r)::ps) K (fr.put d (.ptr r 0)) H):=(rfl)
theorem zhp:dA P Ω none s d ops rest hs ps K fr H=dE P Ω (zjc P s H) d ops rest hs ps K fr H:=(rfl)
theorem zhq{t:TypeId}{r:Nat}{G:AHeap}:lZ P t r G=(a8 G r=some (oB P t)):=(rfl)
def zct  : awD P Ω ops (Oper.mk d (.alloc s) t pos aft none::rest) hs ps K fr H=dA P Ω (if hs.i<100000 then ii hs.pre hs.i else none) s d ops rest hs ps K fr H:=by
 unfold awD pJ dA oK
 dsimp only
 by_cases h:hs.i<100000
 ·rw[if_pos h,if_pos h];cases ii hs.pre hs.i<;>rfl
 ·rw[if_neg h,if_neg h];rfl
theorem zcu  : awD P Ω ops (Oper.mk d (.box s x) t pos aft none::rest) hs ps K fr H=dE P Ω (FD (ev fr x) H) d ops rest hs ps K fr H:=(rfl)
theorem zcv{pz:List (Nat × Operand)}:awD P Ω ops (Oper.mk d (.build s pz.toArray) t pos aft none::rest) hs ps K fr H=dI P Ω (zjd P s (pz.map fun p=>(p.1,ev fr p.2)) H) d ops rest hs ps K fr H:=(rfl)
def dL(P:Program)(Ω:Tbl)(b:Bool)(r:Option R)(d:Option Tmp)(ops:Array Oper)(rest:List Oper)(hs:HS)(ps:List (Nat × (AHeap→Prop)))(K:Vz)(fr:Fr)(H:AHeap):Prop :=
 match b with
 |false=>dE P Ω r d ops rest hs ps K fr H
 |true=>match r with
  |some ⟨c,.slice _ sz xs,_⟩=>c∧pe hs (H.push (.cells (xs.flatMap AV.cells))) ps∧awD P Ω ops rest (hs.push H) ps K (fr.put d (.ms H.nx 0 sz xs.length)) (H.push (.cells (xs.flatMap AV.cells)))
  |_=>False
@[congr] theorem Ue{b b':Bool}(h1:b=b')(h2:r=r'):dL P Ω b r d ops rest hs ps K fr H=dL P Ω b' r' d ops rest hs ps K fr H:=by rw[h1,h2]
theorem zhy:dL P Ω false r d ops rest hs ps K fr H=dE P Ω r d ops rest hs ps K fr H:=(rfl)
theorem zhz{m:Mark}{sz:Nat}{xs:Wz}:dL P Ω true (some ⟨c,.slice m sz xs,G⟩) d ops rest hs ps K fr H =
 (c∧pe hs (H.push (.cells (xs.flatMap AV.cells))) ps∧awD P Ω ops rest (hs.push H) ps K (fr.put d (.ms H.nx 0 sz xs.length)) (H.push (.cells (xs.flatMap AV.cells)))):=(rfl)
def dF(P:Program)(Ω:Tbl)(q:Option Nat)(b g:Bool)(r:Option R)(d:Option Tmp)(ops:Array Oper)(rest:List Oper)(hs:HS)(ps:List (Nat × (AHeap→Prop)))(K:Vz)(fr:Fr)(H:AHeap):Prop :=
 match q with
 |none=>dL P Ω b r d ops rest hs ps K fr H
 |some _=>match r with
  |some ⟨c,.slice _ sz xs,_⟩=>c∧awD P Ω ops rest hs.nx ps K (fr.put d (.slice (I5 g) sz xs)) H
  |some ⟨c,.ms _ 0 sz n,G⟩=>match a8 G H.nx with
   |some cs=>c∧awD P Ω ops rest hs.nx ps K (fr.put d (.slice .any sz (dh sz n cs))) H
   |none=>False
  |_=>False
@[congr] theorem TS{q q':Option Nat}{b g g':Bool}(h1:q=q')(h3:g=g')(h2:r=r'):dF P Ω q b g r d ops rest hs ps K fr H=dF P Ω q' b g' r' d ops rest hs ps K fr H:=by rw[h1,h2,h3]
theorem zib{b g:Bool}:dF P Ω none b g r d ops rest hs ps K fr H=dL P Ω b r d ops rest hs ps K fr H:=(rfl)
theorem zic{q:Nat}{b:Bool}{m:Mark}{sz:Nat}{xs:Wz}:dF P Ω (some q) b false (some ⟨c,.slice m sz xs,G⟩) d ops rest hs ps K fr H=(c∧awD P Ω ops rest hs.nx ps K (fr.put d (.slice .any sz xs)) H):=(rfl)
theorem zid{q:Nat}{b:Bool}{m:Mark}{sz:Nat}{xs:Wz}:dF P Ω (some q) b true (some ⟨c,.slice m sz xs,G⟩) d ops rest hs ps K fr H=(c∧awD P Ω ops rest hs.nx ps K (fr.put d (.slice .full sz xs)) H):=(rfl)
def zcw{pz:List (Nat × Operand)}:awD P Ω ops (Oper.mk d (.buildSlice s n pz.toArray) t pos aft none::rest) hs ps K fr H=dF P Ω (ii hs.pre (hs.i+100000)) (iM hs.lit hs.i) (iM hs.lit (hs.i+300000)) (zje P s n (pz.map fun p=>(p.1,ev fr p.2)) H) d ops rest hs ps K fr H:=by
 unfold awD pJ
 simp only[oK,pY,uG]
 cases ii hs.pre (hs.i+100000)with
 |some q=>simp only[Option.isSome_some,if_true];rfl
 |none =>
  simp only[Option.isSome_none,Bool.false_eq_true,if_false,zib]
  cases iM hs.lit hs.i with
  |false=>rfl
  |true=>simp only[if_true];rfl
theorem zcx  : awD P Ω ops (Oper.mk d (.store s x y) t pos aft none::rest) hs ps K fr H=dE P Ω (zji P s (ev fr x) (ev fr y) H) d ops rest hs ps K fr H:=(rfl)
theorem zcy  : awD P Ω ops (Oper.mk d (.nilCheck x) t pos aft none::rest) hs ps K fr H=dI P Ω (zjj (ev fr x) H) d ops rest hs ps K fr H:=(rfl)
theorem zcz{op:BinOp}:awD P Ω ops (Oper.mk d (.binOp op s x y u) t pos aft none::rest) hs ps K fr H=dI P Ω (rC P op s (ev fr x) (ev fr y) H) d ops rest hs ps K fr H:=(rfl)
theorem zda{op:UnOp}:awD P Ω ops (Oper.mk d (.unOp op s x) t pos aft none::rest) hs ps K fr H=dI P Ω (rUn op (ev fr x) H) d ops rest hs ps K fr H:=(rfl)
theorem zdb  : awD P Ω ops (Oper.mk d (.makeInterface s x) t pos aft none::rest) hs ps K fr H=dI P Ω (zjp P s (ev fr x) H) d ops rest hs ps K fr H:=(rfl)
theorem zdc{f:Fn}{as bs:List Operand}:awD P Ω ops (Oper.mk d (.makeFunc f as.toArray bs.toArray) t pos aft none::rest) hs ps K fr H=dI P Ω (some ⟨True,.func f (as.map (ev fr)) (bs.map (ev fr)),H⟩) d ops rest hs ps K fr H:=(rfl)
theorem zde{mz:Option Operand}:awD P Ω ops (Oper.mk d (.makeMap s mz) t pos aft none::rest) hs ps K fr H=dE P Ω (ziw P s (mz.map (ev fr)) H) d ops rest hs ps K fr H:=(rfl)
theorem zdg:awD P Ω ops (Oper.mk d (.mapUpdate s x y z) t pos aft none::rest) hs ps K fr H=dE P Ω (ziy P s (ev fr x) (ev fr y) (ev fr z) H) d ops rest hs ps K fr H:=(rfl)
theorem zdh:awD P Ω ops (Oper.mk d (.mapEntry s x y) t pos aft none::rest) hs ps K fr H=dE P Ω (mY P s (ev fr x) (ev fr y) H) d ops rest hs ps K fr H:=(rfl)
theorem zdi:awD P Ω ops (Oper.mk d (.entryStore s x y z) t pos aft none::rest) hs ps K fr H=dE P Ω (kP (ev fr x) (ev fr y) (ev fr z) H) d ops rest hs ps K fr H:=(rfl)
theorem zdf:awD P Ω ops (Oper.mk d (.lookup s x y b) t pos aft none::rest) hs ps K fr H=dR P Ω (Oper.mk d (.lookup s x y b) t pos aft none) (zix P s (ev fr x) (ev fr y) b H) ops rest hs ps K fr H:=(rfl)
theorem zfd{g:Option (Nat × Bool)}:oF P (Oper.mk d (.lookup s x y b) t pos aft g) fr v G=GX (zix P s (ev fr x) (ev fr y) b G) v:=(rfl)
def dG(P:Program)(Ω:Tbl)(q:Option Nat)(r:Option R)(d:Option Tmp)(ops:Array Oper)(rest:List Oper)(hs:HS)(ps:List (Nat × (AHeap→Prop)))(K:Vz)(fr:Fr)(H:AHeap):Prop :=
 match q with
 |none=>dE P Ω r d ops rest hs ps K fr H
 |some _=>match r with
  |some ⟨c,.slice _ sz xs,_⟩=>c∧awD P Ω ops rest hs.nx ps K (fr.put d (.slice (I5 (iM hs.lit (hs.i+300000))) sz xs)) H
  |some ⟨c,.ms _ 0 sz n,G⟩=>match a8 G H.nx with
   |some cs=>c∧awD P Ω ops rest hs.nx ps K (fr.put d (.slice .any sz (dh sz n cs))) H
   |none=>False
  |_=>False
@[congr] theorem Tz{q q':Option Nat}(h1:q=q')(h2:r=r'):dG P Ω q r d ops rest hs ps K fr H=dG P Ω q' r' d ops rest hs ps K fr H:=by rw[h1,h2]
theorem zie:dG P Ω none r d ops rest hs ps K fr H=dE P Ω r d ops rest hs ps K fr H:=(rfl)
def zif{q i sz n:Nat}{cs:Wz}:dG P Ω (some q) (some ⟨c,.ms i 0 sz n,H.push (.cells cs)⟩) d ops rest hs ps K fr H=(c∧awD P Ω ops rest hs.nx ps K (fr.put d (.slice .any sz (dh sz n cs))) H):=by
 show(match a8 (H.push (.cells cs)) H.nx with|some cs=>c∧awD P Ω ops rest hs.nx ps K (fr.put d (.slice .any sz (dh sz n cs))) H|none=>False)=_
 rw[show a8 (H.push (.cells cs)) H.nx=some cs by unfold a8;rw[AHeap.get_push_new]]
def zdd  : awD P Ω ops (Oper.mk d (.makeSlice s x y) t pos aft none::rest) hs ps K fr H=dG P Ω (ii hs.pre (hs.i+100000)) (ziv P s (ev fr x) (ev fr y) H) d ops rest hs ps K fr H:=by
 unfold awD pJ
 simp only[oK,pY,uG,yn]
 cases ii hs.pre (hs.i+100000)with
 |some q =>
  simp only[Option.isSome_some,if_true]
  unfold sB jn dG
  rfl
 |none=>simp only[Option.isSome_none,Bool.false_eq_true,if_false];rfl
def zdj{lo hi mx:Option Operand}:awD P Ω ops (Oper.mk d (.slice s x lo hi mx) t pos aft none::rest) hs ps K fr H=dS P Ω ((ti P s).map TI.desc) (Oper.mk d (.slice s x lo hi mx) t pos aft none) (zja P s (ev fr x) (lo.map (ev fr)) (hi.map (ev fr)) (mx.map (ev fr)) H) ops rest hs ps K fr H:=by
 unfold awD pJ dS dR dI
 simp only[oK,pY,uG,yn,lu,Bool.false_eq_true,if_false,kind,sB,jn]
 cases zja P s (ev fr x) (lo.map (ev fr)) (hi.map (ev fr)) (mx.map (ev fr)) H with
 |none=>simp only;split<;>rfl
 |some r =>
  simp only
  cases(ti P s).map TI.desc with
  |none=>rfl
  |some td=>cases td<;>rfl
theorem zfe{lo hi mx:Option Operand}{g:Option (Nat × Bool)}:oF P (Oper.mk d (.slice s x lo hi mx) t pos aft g) fr v G=GX (zja P s (ev fr x) (lo.map (ev fr)) (hi.map (ev fr)) (mx.map (ev fr)) G) v:=(rfl)
theorem zdk  : awD P Ω ops (Oper.mk d (.fieldAddr s x n) t pos aft none::rest) hs ps K fr H=dI P Ω (zjk P s (ev fr x) n H) d ops rest hs ps K fr H:=(rfl)
theorem zdl  : awD P Ω ops (Oper.mk d (.field s x n) t pos aft none::rest) hs ps K fr H=dI P Ω (zjl P s (ev fr x) n H) d ops rest hs ps K fr H:=(rfl)
theorem zdm  : awD P Ω ops (Oper.mk d (.indexAddr s x y) t pos aft none::rest) hs ps K fr H=dI P Ω (zjm P s (ev fr x) (ev fr y) H) d ops rest hs ps K fr H:=(rfl)
theorem zdn  : awD P Ω ops (Oper.mk d (.index s x y) t pos aft none::rest) hs ps K fr H=dI P Ω (zjn P s (ev fr x) (ev fr y) H) d ops rest hs ps K fr H:=(rfl)
theorem zdo  : awD P Ω ops (Oper.mk d (.typeAssert x s u b) t pos aft none::rest) hs ps K fr H=dI P Ω (nX P (ev fr x) u b H) d ops rest hs ps K fr H:=(rfl)
theorem zdp  : awD P Ω ops (Oper.mk d (.extract x n) t pos aft none::rest) hs ps K fr H=dI P Ω (zjq (ev fr x) n H) d ops rest hs ps K fr H:=(rfl)
theorem zdq{as:List Operand}{ts:List TypeId}:awD P Ω ops (Oper.mk d (.call ⟨.builtin .len,as.toArray,ts.toArray⟩) t pos aft none::rest) hs ps K fr H=dI P Ω (ziu P .len ts (as.map (ev fr)) H) d ops rest hs ps K fr H:=(rfl)
theorem zdr{as:List Operand}{ts:List TypeId}:awD P Ω ops (Oper.mk d (.call ⟨.builtin .min,as.toArray,ts.toArray⟩) t pos aft none::rest) hs ps K fr H=dI P Ω (ziu P .min ts (as.map (ev fr)) H) d ops rest hs ps K fr H:=(rfl)
theorem zds{as:List Operand}{ts:List TypeId}:awD P Ω ops (Oper.mk d (.call ⟨.builtin .max,as.toArray,ts.toArray⟩) t pos aft none::rest) hs ps K fr H=dI P Ω (ziu P .max ts (as.map (ev fr)) H) d ops rest hs ps K fr H:=(rfl)
def dP(P:Program)(Ω:Tbl)(b:Bool)(ts:List TypeId)(vs:Wz)(r:Option R)(d:Option Tmp)(ops:Array Oper)(rest:List Oper)(hs:HS)(ps:List (Nat × (AHeap→Prop)))(K:Vz)(fr:Fr)(H:AHeap):Prop :=
 match b with
 |false=>dE P Ω r d ops rest hs ps K fr H
 |true=>Ck P ts vs H fun v H'=>pe hs H' ps∧awD P Ω ops rest (hs.push H) ps K (fr.put d v) H'
@[congr] theorem TK{b b':Bool}{ts:List TypeId}{vs vs':Wz}(h1:b=b')(h3:vs=vs')(h2:r=r'):dP P Ω b ts vs r d ops rest hs ps K fr H=dP P Ω b' ts vs' r' d ops rest hs ps K fr H:=by rw[h1,h2,h3]
theorem zig{ts:List TypeId}{vs:Wz}:dP P Ω false ts vs r d ops rest hs ps K fr H=dE P Ω r d ops rest hs ps K fr H:=(rfl)
def dQ(P:Program)(Ω:Tbl)(r:Option R)(d:Option Tmp)(ops:Array Oper)(rest:List Oper)(hs:HS)(ps:List (Nat × (AHeap→Prop)))(K:Vz)(fr:Fr)(H:AHeap):Prop :=
 match r with
 |some r=>r.c∧Kl H r.v fun v H'=>pe hs H' ps∧awD P Ω ops rest (hs.push H) ps K (fr.put d v) H'
 |none=>False
@[congr] theorem Ty(h2:r=r'):dQ P Ω r d ops rest hs ps K fr H=dQ P Ω r' d ops rest hs ps K fr H:=by rw[h2]
theorem zih{ts:List TypeId}{sz:Nat}{x:AV}{t t2:TypeId}:dP P Ω true (t::t2::ts) [.slice .full sz [],x] r d ops rest hs ps K fr H=dQ P Ω (zjt P t t2 sz [] x H) d ops rest hs ps K fr H:=(rfl)
theorem zii{c:Prop}{i sz:Nat}{xs:Wz}{G:AHeap}:dQ P Ω (some ⟨c,.slice (.own i) sz xs,G⟩) d ops rest hs ps K fr H=(c∧xs≠[]∧(∀ x∈xs.flatMap AV.cells,x.lt 0)∧pe hs (H.push (.part (xs.flatMap AV.cells))) ps∧awD P Ω ops rest (hs.push H) ps K (fr.put d (.ms H.nx 0 sz xs.length)) (H.push (.part (xs.flatMap AV.cells)))):=(rfl)
def zdt{as:List Operand}{ts:List TypeId}:awD P Ω ops (Oper.mk d (.call ⟨.builtin .append,as.toArray,ts.toArray⟩) t pos aft none::rest) hs ps K fr H=dP P Ω (iM hs.lit (hs.i+200000)) ts (as.map (ev fr)) (ziu P .append ts (as.map (ev fr)) H) d ops rest hs ps K fr H:=by
 unfold awD pJ dP
 simp only[oK,pY,uG,yn]
 cases iM hs.lit (hs.i+200000)with
 |false=>rfl
 |true=>simp only[if_true,M9];rfl
theorem zdu{as:List Operand}{ts:List TypeId}:awD P Ω ops (Oper.mk d (.call ⟨.builtin .copy,as.toArray,ts.toArray⟩) t pos aft none::rest) hs ps K fr H=dE P Ω (ziu P .copy ts (as.map (ev fr)) H) d ops rest hs ps K fr H:=(rfl)
theorem zdv:awD P Ω ops (Oper.mk d (.load s x) t pos aft none::rest) hs ps K fr H=dR P Ω (Oper.mk d (.load s x) t pos aft none) (zjg P s (ev fr x) H) ops rest hs ps K fr H:=(rfl)
def zdw:awD P Ω ops (Oper.mk d (.convert s u x) t pos aft none::rest) hs ps K fr H=dC P Ω ((ti P u).map TI.desc) (zjo P s u (ev fr x) H) d ops rest hs ps K fr H:=by
 unfold awD pJ dC dE dI
 simp only[oK,pY,uG,yn,lu,Bool.false_eq_true,if_false,kind,sB,jn]
 cases zjo P s u (ev fr x) H with
 |none=>simp only;split<;>rfl
 |some r =>
  simp only
  cases(ti P u).map TI.desc with
  |none=>rfl
  |some td=>cases td<;>rfl
def pN(P:Program)(Ω Ω':Tbl)(b:Bool)(f:AV)(args:Wz)(d:Option Tmp)(ops:Array Oper)(rest:List Oper)(hs:HS)(ps:List (Nat × (AHeap→Prop)))(K:Vz)(fr:Fr)(H:AHeap):Prop :=
 match f with
 |.func (.func k) first cap=>qF b Ω' k (first++args++cap) hs ps (fun v hs' ps' H'=>awD P Ω ops rest hs' ps' K (fr.put d v) H') H
 |_=>False
@[congr] theorem Ra{Ω':Tbl}{b:Bool}{f f':AV}{args args':Wz}(h1:f=f')(h2:args=args') :
 pN P Ω Ω' b f args d ops rest hs ps K fr H=pN P Ω Ω' b f' args' d ops rest hs ps K fr H:=by rw[h1,h2]
theorem zdx{as:List Operand}{ts:Array TypeId}:awD P Ω ops (Oper.mk d (.call ⟨.value x,as.toArray,ts⟩) t pos aft none::rest) hs ps K fr H =
 pN P Ω Ω (SK x) (ev fr x) (as.map (ev fr)) d ops rest hs ps K fr H:=(rfl)
def zoq{Ω':Tbl}{b:Bool}{f:FuncId}{p:Wz→AHeap→(AV→Prop)→Prop}{args first cap:Wz} :
 pN P Ω ((f,Ent.pure p)::Ω') b (.func (.func f) first cap) args d ops rest hs ps K fr H =
  p (first++args++cap) H (aA (fun v=>v8 hs (fun h=>p (first++args++cap) h (fun v'=>v'=v))∧awD P Ω ops rest hs.nx ((hs.i,fun h=>h=H∨p (first++args++cap) h (fun v'=>v'=v))::ps) K (fr.put d v) H) ⟨⟩):=by
 simp[pN,qF,qD,Ent.pure,aA]
def zor{Ω':Tbl}{b:Bool}{f:FuncId}{p:Wz→AHeap→(AEnd→AHeap→Prop)→Prop}{args first cap:Wz} :
 pN P Ω ((f,Ent.effect p)::Ω') b (.func (.func f) first cap) args d ops rest hs ps K fr H =
  p (first++args++cap) H (aX (fun x H'=>match x with|.ret v=>pe hs H' ps∧awD P Ω ops rest (hs.push H) ps K (fr.put d v) H'|.panic _=>False) ⟨⟩):=by
 simp[pN,qF,qD,Ent.effect,aX]
 rfl
def Df{Ω':Tbl}{b:Bool}{f:FuncId}{p:Wz→AHeap→(By1)→Prop}{args first cap:Wz} :
 pN P Ω ((f,Ent.some p)::Ω') b (.func (.func f) first cap) args d ops rest hs ps K fr H =
  (b=true∧p (first++args++cap) H (oo (fun v H'=>pe hs H' ps∧awD P Ω ops rest (hs.push H) ps K (fr.put d v) H') ⟨⟩)):=by
 simp[pN,qF,qD,Ent.some,oo]
def zos{Ω':Tbl}{b:Bool}{f g:FuncId}{e:Ent}{args first cap:Wz}(h:g≠f) :
 pN P Ω ((g,e)::Ω') b (.func (.func f) first cap) args d ops rest hs ps K fr H=pN P Ω Ω' b (.func (.func f) first cap) args d ops rest hs ps K fr H:=by
 simp[pN,qF,qD,h]
def dgK(P:Program)(Ω:Tbl)(g:Option Nat)(want:Bool)(o:Oper)(ops:Array Oper)(rest:List Oper)(hs:HS)(ps:List (Nat × (AHeap→Prop)))(K:Vz)(fr:Fr)(H:AHeap):Prop :=
 match g with
 |some i=>dgK2 (Fr.get fr i) i
 |none=>False
where
 dgK2 (v:AV) (i:Nat):Prop :=
 match v with
 |.bool b=>(b=want→awD P Ω ops (o::rest) hs ps K ((i,.bool want)::fr) H)∧(b=(!want)→awD P Ω ops rest hs.nx ps K (Fr.put ((i,.bool (!want))::fr) o.dst (.tup [])) H)
 |.tup []=>awD P Ω ops rest hs.nx ps K (fr.put o.dst (.tup [])) H
 |_=>False
def zdy{want:Bool}{op:Op}:awD P Ω l.toArray (Oper.mk d op t pos aft (some (j,want))::rest) hs ps K fr H =
 dgK P Ω (pZ l j) want (Oper.mk d op t pos aft none) l.toArray rest hs ps K fr H:=by
 unfold awD dgK
 simp only[uA]
 have e:(l.toArray[j]?).bind (·.dst)=pZ l j:=rp
 have e2:kU l.toArray j=pZ l j:=rp
 rw[e,e2]
 cases pZ l j with
 |none=>rfl
 |some i =>
  simp only[dgK.dgK2]
  cases Fr.get fr i
  case tup vs=>cases vs<;>rfl
  all_goals rfl
variable {want:Bool} {i:Nat}
theorem zfi:dgK P Ω (some i) want o ops rest hs ps K fr H=dgK.dgK2 P Ω want o ops rest hs ps K fr H (Fr.get fr i) i:=(rfl)
@[congr] theorem To{g g':Option Nat}(h:g=g'):dgK P Ω g want o ops rest hs ps K fr H=dgK P Ω g' want o ops rest hs ps K fr H:=by rw[h]
@[congr] theorem RS{v':AV}(h:v=v'):dgK.dgK2 P Ω want o ops rest hs ps K fr H v i=dgK.dgK2 P Ω want o ops rest hs ps K fr H v' i:=by rw[h]
theorem zfl{op:Op}{d:Tmp}:dgK.dgK2 P Ω want (Oper.mk (some d) op t pos aft none) ops rest hs ps K fr H (.tup []) i=awD P Ω ops rest hs.nx ps K ((d,.tup [])::fr) H:=(rfl)
def zfj{op:Op}{d:Tmp}{b:Bool}:dgK.dgK2 P Ω false (Oper.mk (some d) op t pos aft none) ops rest hs ps K fr H (.bool b) i =
 pV b (awD P Ω ops rest hs.nx ps K ((d,.tup [])::(i,.bool true)::fr) H) (awD P Ω ops (Oper.mk (some d) op t pos aft none::rest) hs ps K ((i,.bool false)::fr) H):=by
 unfold pV dgK.dgK2;cases b<;>simp[Fr.put]
def zfk{op:Op}{d:Tmp}{b:Bool}:dgK.dgK2 P Ω true (Oper.mk (some d) op t pos aft none) ops rest hs ps K fr H (.bool b) i =
 pV b (awD P Ω ops (Oper.mk (some d) op t pos aft none::rest) hs ps K ((i,.bool true)::fr) H) (awD P Ω ops rest hs.nx ps K ((d,.tup [])::(i,.bool false)::fr) H):=by
 unfold pV dgK.dgK2;cases b<;>simp[Fr.put]
end
theorem zei{i:Nat}:aC [] i=[]:=(rfl)
def zej{i:Nat}{m:List (List Nat)}{l:List (Nat × List (List Nat))}:aC ((i,m)::l) i=m:=by simp[aC]
def zek{i j:Nat}{m:List (List Nat)}{l:List (Nat × List (List Nat))}(h:i≠j):aC ((j,m)::l) i=aC l i:=by simp[aC,h]
theorem zge{i:Nat}:ev fr (.tmp i)=Fr.get fr i:=(rfl)
theorem zgf{kd:IntKind}{n:Int}:ev fr (.const (.int kd n))=.int kd n:=(rfl)
theorem zgg{b:Bool}:ev fr (.const (.bool b))=.bool b:=(rfl)
theorem zgh:ev fr (.const (.slice none 0 0))=.slice .nil 1 []:=(rfl)
theorem zgi:ev fr (.const (.pointer none))=.nilp:=(rfl)
theorem zgj:ev fr (.const .nilIface)=.nili:=(rfl)
theorem zgk:ev fr (.const .nilFunc)=.nilf:=(rfl)
theorem zgl:ev fr (.const (.map none))=.nilm:=(rfl)
theorem zgm{s:ByteArray}:ev fr (.const (.string s))=.str s.data.toList:=(rfl)
theorem zgn{f:Nat}:ev fr (.func f)=.func (.func f) [] []:=(rfl)
def zgo{i:Nat}{v:AV}:Fr.get ((i,v)::fr) i=v:=by simp[Fr.get]
def zgp{i j:Nat}{v:AV}(h:j≠i):Fr.get ((j,v)::fr) i=Fr.get fr i:=by simp[Fr.get,h]
end Go.AL
