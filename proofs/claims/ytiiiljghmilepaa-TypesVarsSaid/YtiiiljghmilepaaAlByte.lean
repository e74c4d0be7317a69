/- Contracts and plain laws, a part of the proof; no condition of its own. -/
import Derived.Test.YtiiiljghmilepaaAlSimp
import Derived.Test.YtiiiljghmilepaaAlSound17
/- The abstract layer: simp's rules for heaps and for the end of a function. -/
namespace Go.AL
set_option linter.all false
theorem zac {P:Program} {Ω:Tbl} {K:Conts} {fr:Fr} {H:AHeap} {c:Code}:aw P Ω (.scope c) K fr H=aw P Ω c K fr H:=(rfl)
@[congr] theorem yS {P:Program} {Ω:Tbl} {c:Code} {K:Conts} {fr:Fr} {H:AHeap}:aw P Ω c K fr H=aw P Ω c K fr H:=(rfl)
@[congr] theorem xC {P:Program} {Ω:Tbl} {ops:Array Oper} {rest:List Oper} {K:Fr→AHeap→Prop} {Kp:Fr→AV→AHeap→Prop} {fr:Fr} {H:AHeap}:aD P Ω ops rest K Kp fr H=aD P Ω ops rest K Kp fr H:=(rfl)
@[congr] theorem yC {P:Program} {Ω:Tbl} {ops:Array Oper} {rest:List Oper} {hs:HS} {ps:List (Nat × (AHeap→Prop))} {K:Fr→AHeap→Prop} {fr:Fr} {H:AHeap}:awD P Ω ops rest hs ps K fr H=awD P Ω ops rest hs ps K fr H:=(rfl)
@[congr] theorem yn {t:Bool} {A B A' B':Prop} {t':Bool} (h:t=t') (h1:A=A') (h2:B=B'):gW t A B=gW t' A' B':=by rw [h,h1,h2]
theorem zky {H:AHeap} {o:AObj}:(H.push o).nx=H.nx+1:=(rfl)
theorem zkz {H:AHeap} {i:Nat} {o:AObj}:(H.set i o).nx=H.nx:=(rfl)
theorem zlb {H:AHeap} {o:AObj} {i:Nat}:(H.push o).get i=if i=H.nx then some o else H.get i:=by
 unfold AHeap.get AHeap.push
 by_cases h:i=H.nx
 ·subst h;simp
 ·by_cases h2:i<H.nx
  ·simp [h,h2,Nat.lt_succ_of_lt h2]
  ·simp only [h,if_false,h2];split<;>first|omega|rfl
theorem zlc {H:AHeap} {o o':AObj} {i:Nat}:(H.push o).set i o'=if i=H.nx then H.push o' else (H.set i o').push o:=by
 split
 ·rename_i h;subst h
  unfold AHeap.set AHeap.push;congr 1;funext j;by_cases hj:j=H.nx<;>simp [hj]
 ·rename_i h
  unfold AHeap.set AHeap.push;congr 1;funext j
  simp only
  by_cases h1:j=i
  ·subst h1;simp [h]
  ·simp [h1]
theorem zld {H:AHeap} {i:Nat} {o o':AObj}:(H.set i o).set i o'=H.set i o':=by
 unfold AHeap.set;congr 1;funext j;simp only;split<;>rfl
theorem bb {H:AHeap} {i j:Nat} {o:AObj}:(H.set i o).get j=if j=i then (if i<H.nx then some o else none) else H.get j:=by
 unfold AHeap.get AHeap.set
 by_cases h:j=i
 ·subst h;simp
 ·simp [h]
theorem bx {H:AHeap} {id:Nat} {cs:List AV} (h:H.get id=some (.cells cs)):am H id=some cs:=by simp [am,h]
theorem zla {H:AHeap} {o:AObj} {i:Nat}:am (H.push o) i=if i=H.nx then (match o with|.cells cs=>some cs|_=>none) else am H i:=by
 unfold am
 rw [zlb]
 by_cases h:i=H.nx
 ·simp only [h,if_true];cases o<;>rfl
 ·simp only [h,if_false]
theorem dD {H:AHeap} {i j:Nat} {cs:List AV} (hi:i<H.nx):am (H.set i (.cells cs)) j=if j=i then some cs else am H j:=by
 unfold am
 rw [bb]
 by_cases h:j=i
 ·simp only [h,if_true,hi]
 ·simp only [h,if_false]
theorem zmq {H:AHeap}:H.Le H=True:=eq_true (AHeap.Le.refl H)
theorem zmr {H:AHeap} {o1:AObj}:H.Le (H.push o1)=True:=eq_true ((AHeap.Le.refl H).push _)
theorem zms {H:AHeap} {o1 o2:AObj}:H.Le ((H.push o1).push o2)=True:=eq_true (((AHeap.Le.refl H).push _).push _)
theorem zmt {H:AHeap} {o1 o2 o3:AObj}:H.Le (((H.push o1).push o2).push o3)=True:=eq_true ((((AHeap.Le.refl H).push _).push _).push _)
theorem zmu {H:AHeap} {o1 o2 o3 o4:AObj}:H.Le ((((H.push o1).push o2).push o3).push o4)=True:=eq_true (((((AHeap.Le.refl H).push _).push _).push _).push _)
theorem zmv {H:AHeap} {o1 o2 o3 o4 o5:AObj}:H.Le (((((H.push o1).push o2).push o3).push o4).push o5)=True:=eq_true ((((((AHeap.Le.refl H).push _).push _).push _).push _).push _)
theorem zmw {H:AHeap} {o1 o2 o3 o4 o5 o6:AObj}:H.Le ((((((H.push o1).push o2).push o3).push o4).push o5).push o6)=True:=eq_true (((((((AHeap.Le.refl H).push _).push _).push _).push _).push _).push _)
theorem zmx {H:AHeap} {o1 o2 o3 o4 o5 o6 o7:AObj}:H.Le (((((((H.push o1).push o2).push o3).push o4).push o5).push o6).push o7)=True:=eq_true ((((((((AHeap.Le.refl H).push _).push _).push _).push _).push _).push _).push _)
theorem zmy {H:AHeap} {o1 o2 o3 o4 o5 o6 o7 o8:AObj}:H.Le ((((((((H.push o1).push o2).push o3).push o4).push o5).push o6).push o7).push o8)=True:=eq_true (((((((((AHeap.Le.refl H).push _).push _).push _).push _).push _).push _).push _).push _)
theorem znu {H:AHeap} {q1 o1:AObj}:(H.push q1).Le ((H.push q1).push o1)=True:=eq_true ((AHeap.Le.refl (H.push q1)).push _)
theorem znv {H:AHeap} {q1 q2 o1:AObj}:((H.push q1).push q2).Le (((H.push q1).push q2).push o1)=True:=eq_true ((AHeap.Le.refl ((H.push q1).push q2)).push _)
theorem znw {H:AHeap} {q1 o1 o2:AObj}:(H.push q1).Le (((H.push q1).push o1).push o2)=True:=eq_true (((AHeap.Le.refl (H.push q1)).push _).push _)
theorem znx {H:AHeap} {q1 q2 o1 o2:AObj}:((H.push q1).push q2).Le ((((H.push q1).push q2).push o1).push o2)=True:=eq_true (((AHeap.Le.refl ((H.push q1).push q2)).push _).push _)
theorem zny {H:AHeap} {q1 o1 o2 o3:AObj}:(H.push q1).Le ((((H.push q1).push o1).push o2).push o3)=True:=eq_true ((((AHeap.Le.refl (H.push q1)).push _).push _).push _)
theorem znz {H:AHeap} {q1 q2 o1 o2 o3:AObj}:((H.push q1).push q2).Le (((((H.push q1).push q2).push o1).push o2).push o3)=True:=eq_true ((((AHeap.Le.refl ((H.push q1).push q2)).push _).push _).push _)
theorem zoa {H:AHeap} {q1 o1 o2 o3 o4:AObj}:(H.push q1).Le (((((H.push q1).push o1).push o2).push o3).push o4)=True:=eq_true (((((AHeap.Le.refl (H.push q1)).push _).push _).push _).push _)
theorem zob {H:AHeap} {q1 q2 o1 o2 o3 o4:AObj}:((H.push q1).push q2).Le ((((((H.push q1).push q2).push o1).push o2).push o3).push o4)=True:=eq_true (((((AHeap.Le.refl ((H.push q1).push q2)).push _).push _).push _).push _)
theorem zoc {H:AHeap} {q1 o1 o2 o3 o4 o5:AObj}:(H.push q1).Le ((((((H.push q1).push o1).push o2).push o3).push o4).push o5)=True:=eq_true ((((((AHeap.Le.refl (H.push q1)).push _).push _).push _).push _).push _)
theorem zOd {H:AHeap} {q1 q2 o1 o2 o3 o4 o5:AObj}:((H.push q1).push q2).Le (((((((H.push q1).push q2).push o1).push o2).push o3).push o4).push o5)=True:=eq_true ((((((AHeap.Le.refl ((H.push q1).push q2)).push _).push _).push _).push _).push _)
theorem zmp {H:AHeap} {i:Nat} (h:H.nx≤i):H.get i=none:=by
 unfold AHeap.get;rw [if_neg (by omega)]
section
variable {P:Program} {rs:List ResultVar} {n0:Nat} {e:AEnd} {H1 H:AHeap} {fr:Fr} {x:AV} {s t u:Nat}
theorem zki {Q:AV→AHeap→Prop} {T:Nat→List (List Nat)}:(nH P rs n0 Q T).r fr H=dl P rs n0 Q fr H:=(rfl)
theorem zkj {Q:AV→AHeap→Prop} {T:Nat→List (List Nat)}:(nH P rs n0 Q T).n fr H=dl P rs n0 Q fr H:=(rfl)
theorem zkk {Q:AV→AHeap→Prop} {T:Nat→List (List Nat)}:(nH P rs n0 Q T).n0=n0:=(rfl)
theorem zec {Q:AV→AHeap→Prop} {T:Nat→List (List Nat)}:(nH P rs n0 Q T).T=T:=(rfl)
def qe (n0:Nat) (Q:AV→AHeap→Prop) (v:AV) (H:AHeap):Prop:=∃ x H1,Q x H1∧n0≤H1.nx∧ag H v H1 x
theorem zkl {Q:AV→AHeap→Prop}:dl P [] n0 Q fr H=qe n0 Q (.tup []) H:=by simp [dl,gk,one,qe]
theorem zkm {Q:AV→AHeap→Prop}:dl P [.tmp t] n0 Q fr H=qe n0 Q (Fr.get fr t) H:=by simp [dl,gk,j0,one,qe]
theorem zkn {Q:AV→AHeap→Prop}:dl P [.tmp t,.tmp s] n0 Q fr H=qe n0 Q (.tup [Fr.get fr t,Fr.get fr s]) H:=by simp [dl,gk,j0,one,qe]
theorem zko {Q:AV→AHeap→Prop} {ty:TypeId}:dl P [.cell t ty] n0 Q fr H=match zja P ty (Fr.get fr t) H with|some r=>r.c∧qe n0 Q r.v H|none=>False:=by
 simp only [dl,gk,j0]
 cases zja P ty (Fr.get fr t) H with
 |none=>rfl
 |some r=>simp [one,qe]
theorem zeb {T:Nat→List (List Nat)}:(kY P rs n0 e H1 T).T=T:=(rfl)
theorem zkg {T:Nat→List (List Nat)}:(kY P rs n0 e H1 T).r fr H=cG P rs e H1 fr H:=(rfl)
theorem zkp {T:Nat→List (List Nat)}:(kY P rs n0 e H1 T).n0=n0:=(rfl)
theorem zkh {T:Nat→List (List Nat)}:(kY P rs n0 e H1 T).n fr H=cG P rs e H1 fr H:=(rfl)
theorem zkq {T:Nat→List (List Nat)} {y:AV} {fr:Fr}:(kY P rs n0 (.panic x) H1 T).p fr y H=ag H y H1 x:=(rfl)
theorem zkr {T:Nat→List (List Nat)} {y:AV} {fr:Fr}:(kY P rs n0 (.ret x) H1 T).p fr y H=False:=(rfl)
theorem zks:cG P [] (.ret x) H1 fr H=ag H (.tup []) H1 x:=by simp [cG,gk,one]
theorem zkt:cG P [.tmp t] (.ret x) H1 fr H=ag H (Fr.get fr t) H1 x:=by simp [cG,gk,j0,one]
theorem zku:cG P [.tmp t,.tmp s] (.ret x) H1 fr H=ag H (.tup [Fr.get fr t,Fr.get fr s]) H1 x:=by simp [cG,gk,j0,one]
theorem zkv:cG P [.tmp t,.tmp s,.tmp u] (.ret x) H1 fr H=ag H (.tup [Fr.get fr t,Fr.get fr s,Fr.get fr u]) H1 x:=by simp [cG,gk,j0,one]
theorem zkw {ty:TypeId}:cG P [.cell t ty] (.ret x) H1 fr H=match zja P ty (Fr.get fr t) H with|some r=>r.c∧ag H r.v H1 x|none=>False:=by
 simp only [cG,gk,j0]
 cases zja P ty (Fr.get fr t) H with
 |none=>rfl
 |some r=>simp [one]
end
section
variable {k:IntKind} {n:Int} {b:Bool} {s:List UInt8} {i j l:Nat} {cs:List AV} {m:Mark} {t:TypeId} {v:AV} {f:Fn}
theorem zgm:aJ []=true:=(rfl)
theorem zgl:aJ (v::cs)=(v.one&&aJ cs):=(rfl)
theorem zgn:(AV.int k n).one=true:=(rfl)
theorem zgo:(AV.bool b).one=true:=(rfl)
theorem zgp:(AV.str s).one=true:=(rfl)
theorem zgq:(AV.ptr i j).one=true:=(rfl)
theorem zgr:(AV.cptr cs).one=true:=(rfl)
theorem zgs:AV.nilp.one=true:=(rfl)
theorem zgt:(AV.slice m i cs).one=true:=(rfl)
theorem zgu:(AV.ms i j l t).one=true:=(rfl)
theorem zgv:(AV.mapv i).one=true:=(rfl)
theorem zgw:AV.nilm.one=true:=(rfl)
theorem zgx {as bs:List AV}:(AV.func f as bs).one=true:=(rfl)
theorem zgy:AV.nilf.one=true:=(rfl)
theorem zgz:(AV.iface t v).one=true:=(rfl)
theorem zha:AV.nili.one=true:=(rfl)
theorem zjs:(AV.int k n).cells=[.int k n]:=(rfl)
theorem zjt:(AV.bool b).cells=[.bool b]:=(rfl)
theorem zju:(AV.str s).cells=[.str s]:=(rfl)
theorem zjv:(AV.ptr i j).cells=[.ptr i j]:=(rfl)
theorem zjw:(AV.cptr cs).cells=[.cptr cs]:=(rfl)
theorem zjx:AV.nilp.cells=[.nilp]:=(rfl)
theorem zjy:(AV.slice m i cs).cells=[.slice m i cs]:=(rfl)
theorem zjz:(AV.ms i j l t).cells=[.ms i j l t]:=(rfl)
theorem zka:(AV.mapv i).cells=[.mapv i]:=(rfl)
theorem zkb:AV.nilm.cells=[.nilm]:=(rfl)
theorem zkc {as bs:List AV}:(AV.func f as bs).cells=[.func f as bs]:=(rfl)
theorem zkd:AV.nilf.cells=[.nilf]:=(rfl)
theorem zke:(AV.iface t v).cells=[.iface t v]:=(rfl)
theorem zkf:AV.nili.cells=[.nili]:=(rfl)
theorem zik:(AV.agg cs).cells=cs:=(rfl)
end
theorem lX {P:Program} {Ω:Tbl} {B:Conts}:∀ {k:List KItem},(KI P Ω B k).n0=B.n0
 |[]=>rfl
 |.code c::k=>lX (k:=k)
 |.blk id::k=>lX (k:=k)
 |.back R::k=>lX (k:=k)
/-- the same, values may be taken for weaker ones -/
theorem az {P:Program} {Ω:Tbl} {B:Conts} {k:List KItem} {c:Code} {fr:Fr} {H:AHeap} {A:Type} (F:A→Fr) (G:A→AHeap) (I:A→Prop) (μ:A→Nat) (x0:A) (h0:I x0)
 (he:enterW B.n0 fr H (F x0) (G x0))
 (hb:∀ a,I a→aw P Ω c (KI P Ω B (.back (fun fr' H'=>∃ a',I a'∧μ a'<μ a∧enterW B.n0 fr' H' (F a') (G a'))::k)) (F a) (G a)) :
 aw P Ω (.loop c) (KI P Ω B k) fr H:=by
 refine ⟨some true,A,F,G,I,μ,⟨x0,h0,by rw [lX];exact he⟩,fun a ha=>?_⟩
 have:=hb a ha
 rw [← lX (P:=P) (Ω:=Ω) (k:=k)] at this
 exact this
section
variable {k:IntKind} {n m i j l:Nat} {z:Int} {b:Bool} {s:List UInt8} {v:AV} {t:TypeId} {vs:List AV}
theorem zmz:(AV.int k z).lt m=True:=eq_true (by rw [AV.lt]<;>simp)
theorem zna:(AV.bool b).lt m=True:=eq_true (by rw [AV.lt]<;>simp)
theorem znb:(AV.str s).lt m=True:=eq_true (by rw [AV.lt]<;>simp)
theorem znc:AV.nilp.lt m=True:=eq_true (by rw [AV.lt]<;>simp)
theorem znd:AV.nilm.lt m=True:=eq_true (by rw [AV.lt]<;>simp)
theorem zne:AV.nilf.lt m=True:=eq_true (by rw [AV.lt]<;>simp)
theorem znf:AV.nili.lt m=True:=eq_true (by rw [AV.lt]<;>simp)
theorem zng:AV.junk.lt m=True:=eq_true (by rw [AV.lt]<;>simp)
theorem znh:(AV.ptr i j).lt m=(i<m):=by rw [AV.lt]
theorem zni:(AV.mapv i).lt m=(i<m):=by rw [AV.lt]
theorem znj:(AV.ms i j l n).lt m=(i<m):=by rw [AV.lt]
theorem znk:(AV.iface t v).lt m=v.lt m:=by rw [AV.lt]
def ltL (m:Nat):List AV→Prop
 |[]=>True
 |v::vs=>v.lt m∧ltL m vs
theorem ltL_iff {m:Nat}:∀ {vs:List AV},ltL m vs↔∀ (j:Nat) (hj:j<vs.length),(vs[j]).lt m
 |[]=>⟨fun _ j hj=>absurd hj (by simp),fun _=>trivial⟩
 |v::vs=>⟨fun h j hj=>by
   cases j with
   |zero=>exact h.1
   |succ j=>exact ltL_iff.1 h.2 j (by simpa using hj),fun h=>⟨h 0 (by simp),ltL_iff.2 fun j hj=>h (j+1) (by simpa using hj)⟩⟩
theorem znl:(AV.agg vs).lt m=ltL m vs:=by rw [AV.lt];exact propext ltL_iff.symm
theorem znm:(AV.tup vs).lt m=ltL m vs:=by rw [AV.lt];exact propext ltL_iff.symm
theorem znn:(AV.cptr vs).lt m=ltL m vs:=by rw [AV.lt];exact propext ltL_iff.symm
theorem zno:ltL m (v::vs)=(v.lt m∧ltL m vs):=(rfl)
theorem znp:ltL m []=True:=(rfl)
end
theorem bm {n sz:Nat} {m:Mark} {xs:List AV}:(AV.slice m sz xs).lt n=((∀ id,m=.own id→id<n)∧ltL n xs):=by
 rw [AV.lt];exact propext ⟨fun h=>⟨h.1,ltL_iff.2 h.2⟩,fun h=>⟨h.1,ltL_iff.1 h.2⟩⟩
theorem af {H:AHeap} {a b:Nat} (h:H.Closed):(H.push (.buf a b)).Closed:=by
 intro i cs hi j hj
 rw [zlb] at hi
 split at hi
 ·cases hi
 ·exact AV.lt_mono (by rw [zky];omega) _ (h i cs hi j hj)
theorem ae {H:AHeap} {cs:List AV} (h:H.Closed) (hc:ltL (H.nx+1) cs):(H.push (.cells cs)).Closed:=by
 intro i cs' hi j hj
 rw [zlb] at hi
 split at hi
 ·cases hi;exact ltL_iff.1 hc j hj
 ·exact AV.lt_mono (by rw [zky];omega) _ (h i cs' hi j hj)
theorem aa {H:AHeap} {i a b:Nat} (h:H.Closed):(H.set i (.buf a b)).Closed:=by
 intro k cs hi j hj
 rw [bb] at hi
 split at hi
 ·split at hi<;>cases hi
 ·exact h k cs hi j hj
theorem ah {H:AHeap} {i:Nat} {cs:List AV} (h:H.Closed) (hc:ltL H.nx cs):(H.set i (.cells cs)).Closed:=by
 intro k cs' hi j hj
 rw [bb] at hi
 split at hi
 ·split at hi
  ·cases hi;exact ltL_iff.1 hc j hj
  ·cases hi
 ·exact h k cs' hi j hj
theorem znq {H:AHeap} {a b:Nat} (h:H.Closed):(H.push (.buf a b)).Closed=True:=eq_true (af h)
theorem znr {H:AHeap} {a b c d:Nat} (h:H.Closed):((H.push (.buf a b)).push (.buf c d)).Closed=True:=eq_true (af (af h))
theorem zns {H:AHeap} {a b c d e f:Nat} (h:H.Closed):(((H.push (.buf a b)).push (.buf c d)).push (.buf e f)).Closed=True:=eq_true (af (af (af h)))
theorem yG {H:AHeap} {i a b:Nat} (h:H.Closed):(H.set i (.buf a b)).Closed=True:=eq_true (aa h)
theorem znt {H:AHeap} {i:Nat} {cs:List AV} (h:H.Closed) (hc:ltL H.nx cs):(H.set i (.cells cs)).Closed=True:=eq_true (ah h hc)
theorem zlz {H:AHeap} {cs:List AV} (h:H.Closed) (hc:ltL (H.nx+1) cs):(H.push (.cells cs)).Closed=True:=eq_true (ae h hc)
theorem zma {H:AHeap} {cs ds:List AV} (h:H.Closed) (hc:ltL (H.nx+1) cs) (hd:ltL (H.nx+1+1) ds):((H.push (.cells cs)).push (.cells ds)).Closed=True:=eq_true (ae (ae h hc) hd)
theorem zmb {H:AHeap} {cs ds es:List AV} (h:H.Closed) (hc:ltL (H.nx+1) cs) (hd:ltL (H.nx+1+1) ds) (he:ltL (H.nx+1+1+1) es):(((H.push (.cells cs)).push (.cells ds)).push (.cells es)).Closed=True:=eq_true (ae (ae (ae h hc) hd) he)
theorem zmc {H:AHeap} {cs:List AV} {a b:Nat} (h:H.Closed) (hc:ltL (H.nx+1) cs):((H.push (.cells cs)).push (.buf a b)).Closed=True:=eq_true (af (ae h hc))
theorem zmd {H:AHeap} {q1 q2 q3 o1:AObj}:(((H.push q1).push q2).push q3).Le ((((H.push q1).push q2).push q3).push o1)=True:=eq_true ((AHeap.Le.refl (((H.push q1).push q2).push q3)).push _)
theorem zme {H:AHeap} {q1 q2 q3 o1 o2:AObj}:(((H.push q1).push q2).push q3).Le (((((H.push q1).push q2).push q3).push o1).push o2)=True:=eq_true (((AHeap.Le.refl (((H.push q1).push q2).push q3)).push _).push _)
theorem zmf {H:AHeap} {q1 q2 q3 o1 o2 o3:AObj}:(((H.push q1).push q2).push q3).Le ((((((H.push q1).push q2).push q3).push o1).push o2).push o3)=True:=eq_true ((((AHeap.Le.refl (((H.push q1).push q2).push q3)).push _).push _).push _)
theorem AHeap.Le.del {H H':AHeap} (h:H.Le H') {i:Nat} (hi:H.nx≤i):H.Le (H'.del i):=⟨h.nx,fun j x hj=>by
 have hlt:=AHeap.get_lt hj
 rw [du,if_neg (by omega)];exact h.get j x hj⟩
theorem eR {H:AHeap} {i:Nat}:(H.del i).nx=H.nx:=(rfl)
theorem gt {H:AHeap} {i j:Nat}:(H.del i).get j=if j=i then none else H.get j:=du H i j
theorem nF {H:AHeap} {i j:Nat}:am (H.del i) j=if j=i then none else am H j:=by
 unfold am
 rw [gt]
 by_cases h:j=i
 ·simp [h]
 ·simp [h]
theorem ai {H:AHeap} {i:Nat} (h:H.Closed):(H.del i).Closed:=by
 intro k cs hk j hj
 rw [gt] at hk
 split at hk
 ·cases hk
 ·exact h k cs hk j hj
/-- an id of the heap at the start is none of the new ones -/
theorem cx {i n:Nat} (h:i<n):(i=n)=False∧(n=i)=False∧(i=n+1)=False∧(n+1=i)=False∧(i=n+1+1)=False∧(n+1+1=i)=False∧(i=n+1+1+1)=False∧(n+1+1+1=i)=False∧(i=n+1+1+1+1)=False∧(n+1+1+1+1=i)=False∧(i=n+1+1+1+1+1)=False∧(n+1+1+1+1+1=i)=False∧(i=n+1+1+1+1+1+1)=False∧(n+1+1+1+1+1+1=i)=False∧(i=n+1+1+1+1+1+1+1)=False∧(n+1+1+1+1+1+1+1=i)=False∧(i=n+1+1+1+1+1+1+1+1)=False∧(n+1+1+1+1+1+1+1+1=i)=False:=by
 refine ⟨?_,?_,?_,?_,?_,?_,?_,?_,?_,?_,?_,?_,?_,?_,?_,?_,?_,?_⟩<;>exact eq_false (by omega)
end Go.AL
/- The abstract layer: rows of bytes. -/
namespace Go.AL
set_option linter.all false
/-- a row of bytes -/
def bys (l:List UInt8):List AV:=l.map bc
theorem zle {l:List UInt8}:(bys l).length=l.length:=by simp [bys]
/-- the bytes of a row -/
def unb (l:List AV):List UInt8:=l.map byteOf
/-- a row is one of bytes -/
def isB (l:List AV):Prop:=l=bys (unb l)
theorem zlf:bys []=[]:=rfl
theorem zlg {l:List UInt8} {n:Nat}:(bys l).take n=bys (l.take n):=by simp [bys]
theorem zlh {l:List UInt8} {n:Nat}:(bys l).drop n=bys (l.drop n):=by simp [bys]
theorem zli {l m:List UInt8}:bys l++bys m=bys (l++m):=by simp [bys]
theorem zlj {b:UInt8} {l:List UInt8}:bc b::bys l=bys (b::l):=rfl
theorem zlk {b:UInt8}:[bc b]=bys [b]:=rfl
theorem zlm {l:List UInt8}:(bys l).isEmpty=l.isEmpty:=by cases l<;>rfl
theorem zmn {l:List UInt8}:(bys l=[])=(l=[]):=by cases l<;>simp [bys]
theorem zmo {l m:List UInt8}:(bys l=bys m)=(l=m):=by
 refine propext ⟨fun h=>?_,fun h=>by rw [h]⟩
 have h2:=congrArg (List.map byteOf) h
 simp only [bys,List.map_map] at h2
 have:byteOf ∘ bc=id:=funext fun b=>by simp [byteOf,bc]
 rwa [this,List.map_id,List.map_id] at h2
theorem zln {l:List UInt8}:(bys l).flatMap AV.cells=bys l:=by
 unfold bys
 induction l with
 |nil=>rfl
 |cons a l ih=>simp only [List.map_cons,List.flatMap_cons,ih];rfl
theorem zlo {n:Nat}:(List.replicate n [AV.int .u8 0]).flatten=bys (List.replicate n (0:UInt8)):=by
 unfold bys
 induction n with
 |zero=>rfl
 |succ n ih=>simp only [List.replicate_succ,List.flatten_cons,ih];rfl
theorem zlp {l:List UInt8}:(∀ z∈bys l,aJ z.cells=true)=True:=eq_true fun z hz=>by
 obtain ⟨b,_,rfl⟩:=List.mem_map.1 hz
 rfl
theorem zll {l:List UInt8}:aJ (bys l)=true:=by
 unfold bys aJ
 rw [List.all_map]
 exact List.all_eq_true.2 fun x _=>rfl
theorem zlq {l:List UInt8}:(∀ z∈bys l,oD z)=True:=eq_true fun z hz=>by
 obtain ⟨b,_,rfl⟩:=List.mem_map.1 hz
 exact ⟨_,rfl⟩
theorem mO {b:UInt8}:byteOf (bc b)=b:=by simp [byteOf,bc]
theorem zlr {l:List UInt8}:(bys l).map byteOf=l:=by
 unfold bys
 rw [List.map_map]
 have:byteOf ∘ bc=id:=funext fun b=>mO
 rw [this,List.map_id]
theorem zlt {l:List UInt8}:unb (bys l)=l:=zlr
theorem zlu:unb []=[]:=rfl
theorem zlv {l:List UInt8}:isB (bys l)=True:=eq_true (by show bys l=bys (unb (bys l));rw [zlt])
theorem zlw:isB []=True:=eq_true rfl
theorem rp {l:List AV} (h:isB l):∃ xs,l=bys xs:=⟨_,h⟩
theorem zls {l:List UInt8}:l.map bc=bys l:=rfl
theorem n7 {l:List UInt8} {i:Nat} (h:i<l.length):(bys l).getD i .junk=bc (l.getD i 0):=by
 simp [bys,List.getD_eq_getElem?_getD,h]
theorem zmm {n:Nat} {m:Mark} {l:List UInt8}:(AV.slice m 1 (bys l)).lt n=∀ id,m=.own id→id<n:=by
 rw [AV.lt]
 refine propext ⟨fun h=>h.1,fun h=>⟨h,fun j hj=>?_⟩⟩
 simp only [bys,List.getElem_map,bc]
 rw [AV.lt]<;>simp
theorem zly {b:UInt8}:(bc b).one=true:=rfl
theorem zlx {b:UInt8}:(bc b).cells=[bc b]:=rfl
theorem mG (xs vs:List AV):∀ (n:Nat),n+vs.length≤xs.length→splice xs n vs=xs.take n++vs++xs.drop (n+vs.length):=by
 induction xs generalizing vs with
 |nil =>
  intro n h
  simp only [List.length_nil,Nat.le_zero,Nat.add_eq_zero_iff,List.length_eq_zero_iff] at h
  obtain ⟨rfl,rfl⟩:=h;rfl
 |cons a xs ih =>
  intro n h
  cases n with
  |zero =>
   cases vs with
   |nil=>simp [splice]
   |cons v vs =>
    simp only [splice]
    rw [ih vs 0 (by simp at h ⊢;omega)]
    simp
  |succ n =>
   simp only [splice]
   rw [ih vs n (by simp at h ⊢;omega)]
   simp [Nat.add_right_comm]
theorem zmk {xs ys:List UInt8} {n:Nat} (h:n+ys.length≤xs.length):splice (bys xs) n (bys ys)=bys (xs.take n++ys++xs.drop (n+ys.length)):=by
 rw [mG _ _ _ (by simpa [bys] using h)];simp [bys]
theorem zml {n:Nat} {l:List UInt8} (h:n≤l.length):aY 1 n (bys l)=bys (l.take n):=by
 unfold bys
 induction n generalizing l with
 |zero=>simp [aY]
 |succ n ih =>
  cases l with
  |nil=>simp at h
  |cons a l =>
   simp only [aY,if_true,List.map_cons,List.drop_succ_cons,List.drop_zero,List.take_succ_cons]
   rw [ih (by simpa using h)]
   rfl
theorem wrap_i64 {n:Int} (h : -9223372036854775808≤n) (h2:n<9223372036854775808):IntKind.wrap .i64 n=n:=mY h (by omega)
theorem qd {n:Int} (h:0≤n) (h2:n<18446744073709551616):IntKind.wrap .u64 n=n:=by
 have:IntKind.wrap .u64 n=n % 18446744073709551616:=by simp [IntKind.wrap,IntKind.signed,IntKind.bits]
 rw [this];omega
theorem EntOk.pure {P:Program} {f:FuncId} {p:List AV→AHeap→(AV→Prop)→Prop} (h:∀ args H K,p args H K→∃ x,K x∧ACalls P f args H (.ret x) H):EntOk P f (Ent.pure p) :=
 ⟨fun _=>h,fun h=>(by cases h),fun q h=>(by cases h)⟩
theorem EntOk.effect {P:Program} {f:FuncId} {e:List AV→AHeap→(AEnd→AHeap→Prop)→Prop} (h:∀ args H K,e args H K→∃ x H1,K x H1∧ACalls P f args H x H1):EntOk P f (Ent.effect e) :=
 ⟨fun h=>(by cases h),fun _=>h,fun q h=>(by cases h)⟩
theorem EntOk.some {P:Program} {f:FuncId} {q:List AV→AHeap→(AV→AHeap→Prop)→Prop} (h:∀ args H K,q args H K→ACallsP P f args H K):EntOk P f (Ent.some q) :=
 ⟨fun h=>(by cases h),fun _ _ _ _ h=>h.elim,fun q' h'=>by cases h';exact h⟩
theorem TblOk.nil {P:Program}:TblOk P []:=fun f e h=>by cases h
theorem TblOk.cons {P:Program} {Ω:Tbl} {f:FuncId} {e:Ent} (h:EntOk P f e) (k:TblOk P Ω):TblOk P ((f,e)::Ω):=fun g x hg=>by
 unfold jn at hg
 split at hg
 ·rename_i he;cases hg;subst he;exact h
 ·exact k g x hg
/-! a new object is none of those behind it -/
theorem za {a:Nat}:(a=a+1+1)=False:=eq_false (by omega)
theorem zp {a:Nat}:(a+1+1=a)=False:=eq_false (by omega)
theorem zf {a:Nat}:(a=a+1+1+1)=False:=eq_false (by omega)
theorem zd {a:Nat}:(a+1+1+1=a)=False:=eq_false (by omega)
theorem zr {a:Nat}:(a=a+1+1+1+1)=False:=eq_false (by omega)
theorem zc {a:Nat}:(a+1+1+1+1=a)=False:=eq_false (by omega)
theorem zj {a:Nat}:(a=a+1+1+1+1+1)=False:=eq_false (by omega)
theorem zu {a:Nat}:(a+1+1+1+1+1=a)=False:=eq_false (by omega)
theorem zh {a:Nat}:(a=a+1+1+1+1+1+1)=False:=eq_false (by omega)
theorem zt {a:Nat}:(a+1+1+1+1+1+1=a)=False:=eq_false (by omega)
theorem zq {a:Nat}:(a=a+1+1+1+1+1+1+1)=False:=eq_false (by omega)
theorem zk {a:Nat}:(a+1+1+1+1+1+1+1=a)=False:=eq_false (by omega)
theorem zo {a:Nat}:(a=a+1+1+1+1+1+1+1+1)=False:=eq_false (by omega)
theorem zi {a:Nat}:(a+1+1+1+1+1+1+1+1=a)=False:=eq_false (by omega)
theorem zl {a:Nat}:(a=a+1+1+1+1+1+1+1+1+1)=False:=eq_false (by omega)
theorem zv {a:Nat}:(a+1+1+1+1+1+1+1+1+1=a)=False:=eq_false (by omega)
theorem zie {a:Nat}:(a=a+1+1+1+1+1+1+1+1+1+1)=False:=eq_false (by omega)
theorem zif {a:Nat}:(a+1+1+1+1+1+1+1+1+1+1=a)=False:=eq_false (by omega)
theorem zig {a:Nat}:(a=a+1+1+1+1+1+1+1+1+1+1+1)=False:=eq_false (by omega)
theorem zih {a:Nat}:(a+1+1+1+1+1+1+1+1+1+1+1=a)=False:=eq_false (by omega)
theorem zii {a:Nat}:(a=a+1+1+1+1+1+1+1+1+1+1+1+1)=False:=eq_false (by omega)
theorem zij {a:Nat}:(a+1+1+1+1+1+1+1+1+1+1+1+1=a)=False:=eq_false (by omega)
theorem p4 {H' H1:AHeap} (v:AV):wk1 H' H1 v v:=by
 cases v<;>first|rfl|skip
 exact .inl ⟨.inr rfl,rfl,rfl⟩
theorem pq {H' H1:AHeap}:∀ (vs:List AV),wkL H' H1 vs vs
 |[]=>trivial
 |v::vs=>⟨p4 v,pq vs⟩
theorem pg {H' H1:AHeap} (v:AV):wk2 H' H1 v v:=by
 cases v<;>first|exact pq _|(simp only [wk2];exact p4 _)
theorem nA {H' H1:AHeap}:∀ (vs:List AV),ak H' H1 vs vs
 |[]=>trivial
 |v::vs=>⟨pg v,nA vs⟩
theorem zmi {H' H1:AHeap} {v:AV}:wk H' H1 v v=True:=eq_true (by cases v<;>first|exact nA _|(simp only [wk];exact pg _))
theorem zmj {n:Nat} {l:List UInt8}:ltL n (bys l)=True:=eq_true (ltL_iff.2 fun j hj=>by
 simp only [bys,List.getElem_map,bc]
 rw [AV.lt]<;>simp)
theorem zoe:((0:Nat):Int)=0:=rfl
theorem zmh {m:Mark} {sz n:Nat}:(AV.slice m sz []).lt n=∀ id,m=.own id→id<n:=by
 rw [AV.lt];exact propext ⟨fun h=>h.1,fun h=>⟨h,fun j hj=>absurd hj (by simp)⟩⟩
theorem zkx {P:Program} {H1 H:AHeap} {fr:Fr} {x:AV} {t s:Nat} {ty:TypeId}:cG P [.cell t ty,.tmp s] (.ret x) H1 fr H=match zja P ty (Fr.get fr t) H with|some r=>r.c∧ag H (.tup [r.v,Fr.get fr s]) H1 x|none=>False:=by
 simp only [cG,gk,j0]
 cases zja P ty (Fr.get fr t) H with
 |none=>rfl
 |some r=>simp [one]
end Go.AL
