/- Lemmas of the proof; no condition. -/
import Derived.Test.YtpbnggedofiinaaGreatAlSimp
import Derived.Test.YtpbnggedofiinaaGreatAlSound17
set_option linter.all false
namespace Go.AL
theorem zac {P:Program} {Ω:Tbl} {K:Conts} {fr:Fr} {H:AHeap} {c:Code}:aw P Ω (.scope c) K fr H=aw P Ω c K fr H:=(rfl)
@[congr] theorem HE {P:Program} {Ω:Tbl} {c:Code} {K:Conts} {fr:Fr} {H:AHeap}:aw P Ω c K fr H=aw P Ω c K fr H:=(rfl)
@[congr] theorem Gt {P:Program} {Ω:Tbl} {ops:Array Oper} {rest:List Oper} {K:Fr→AHeap→Prop} {Kp:Fr→AV→AHeap→Prop} {fr:Fr} {H:AHeap}:bo P Ω ops rest K Kp fr H=bo P Ω ops rest K Kp fr H:=(rfl)
@[congr] theorem Hx {P:Program} {Ω:Tbl} {ops:Array Oper} {rest:List Oper} {hs:HS} {ps:List (Nat × (AHeap→Prop))} {K:Fr→AHeap→Prop} {fr:Fr} {H:AHeap}:awD P Ω ops rest hs ps K fr H=awD P Ω ops rest hs ps K fr H:=(rfl)
@[congr] theorem Hq {t:Bool} {A B A' B':Prop} {t':Bool} (h:t=t') (h1:A=A') (h2:B=B'):mV t A B=mV t' A' B':=by rw [h,h1,h2]
theorem zle {H:AHeap} {o:AObj}:(H.push o).nx=H.nx+1:=(rfl)
theorem zlf {H:AHeap} {i:Nat} {o:AObj}:(H.set i o).nx=H.nx:=(rfl)
theorem zlh {H:AHeap} {o:AObj} {i:Nat}:(H.push o).get i=if i=H.nx then some o else H.get i:=by
 unfold AHeap.get AHeap.push
 by_cases h:i=H.nx
 ·subst h;simp
 ·by_cases h2:i<H.nx
  ·simp [h,h2,Nat.lt_succ_of_lt h2]
  ·simp only [h,if_false,h2];split<;>first|omega|rfl
theorem zli {H:AHeap} {o o':AObj} {i:Nat}:(H.push o).set i o'=if i=H.nx then H.push o' else (H.set i o').push o:=by
 split
 ·rename_i h;subst h
  unfold AHeap.set AHeap.push;congr 1;funext j;by_cases hj:j=H.nx<;>simp [hj]
 ·rename_i h
  unfold AHeap.set AHeap.push;congr 1;funext j
  simp only
  by_cases h1:j=i
  ·subst h1;simp [h]
  ·simp [h1]
theorem zlj {H:AHeap} {i:Nat} {o o':AObj}:(H.set i o).set i o'=H.set i o':=by
 unfold AHeap.set;congr 1;funext j;simp only;split<;>rfl
theorem jS {H:AHeap} {i j:Nat} {o:AObj}:(H.set i o).get j=if j=i then (if i<H.nx then some o else none) else H.get j:=by
 unfold AHeap.get AHeap.set
 by_cases h:j=i
 ·subst h;simp
 ·simp [h]
theorem aM {H:AHeap} {id:Nat} {cs:List AV} (h:H.get id=some (.cells cs)):ai H id=some cs:=by simp [ai,h]
theorem zlg {H:AHeap} {o:AObj} {i:Nat}:ai (H.push o) i=if i=H.nx then (match o with|.cells cs=>some cs|_=>none) else ai H i:=by
 unfold ai
 rw [zlh]
 by_cases h:i=H.nx
 ·simp only [h,if_true];cases o<;>rfl
 ·simp only [h,if_false]
theorem eZ {H:AHeap} {i j:Nat} {cs:List AV} (hi:i<H.nx):ai (H.set i (.cells cs)) j=if j=i then some cs else ai H j:=by
 unfold ai
 rw [jS]
 by_cases h:j=i
 ·simp only [h,if_true,hi]
 ·simp only [h,if_false]
theorem zmw {H:AHeap}:H.Le H=True:=eq_true (AHeap.Le.refl H)
theorem zmx {H:AHeap} {o1:AObj}:H.Le (H.push o1)=True:=eq_true ((AHeap.Le.refl H).push _)
theorem zmy {H:AHeap} {o1 o2:AObj}:H.Le ((H.push o1).push o2)=True:=eq_true (((AHeap.Le.refl H).push _).push _)
theorem zmz {H:AHeap} {o1 o2 o3:AObj}:H.Le (((H.push o1).push o2).push o3)=True:=eq_true ((((AHeap.Le.refl H).push _).push _).push _)
theorem zna {H:AHeap} {o1 o2 o3 o4:AObj}:H.Le ((((H.push o1).push o2).push o3).push o4)=True:=eq_true (((((AHeap.Le.refl H).push _).push _).push _).push _)
theorem znb {H:AHeap} {o1 o2 o3 o4 o5:AObj}:H.Le (((((H.push o1).push o2).push o3).push o4).push o5)=True:=eq_true ((((((AHeap.Le.refl H).push _).push _).push _).push _).push _)
theorem znc {H:AHeap} {o1 o2 o3 o4 o5 o6:AObj}:H.Le ((((((H.push o1).push o2).push o3).push o4).push o5).push o6)=True:=eq_true (((((((AHeap.Le.refl H).push _).push _).push _).push _).push _).push _)
theorem znd {H:AHeap} {o1 o2 o3 o4 o5 o6 o7:AObj}:H.Le (((((((H.push o1).push o2).push o3).push o4).push o5).push o6).push o7)=True:=eq_true ((((((((AHeap.Le.refl H).push _).push _).push _).push _).push _).push _).push _)
theorem zne {H:AHeap} {o1 o2 o3 o4 o5 o6 o7 o8:AObj}:H.Le ((((((((H.push o1).push o2).push o3).push o4).push o5).push o6).push o7).push o8)=True:=eq_true (((((((((AHeap.Le.refl H).push _).push _).push _).push _).push _).push _).push _).push _)
theorem zoa {H:AHeap} {q1 o1:AObj}:(H.push q1).Le ((H.push q1).push o1)=True:=eq_true ((AHeap.Le.refl (H.push q1)).push _)
theorem zob {H:AHeap} {q1 q2 o1:AObj}:((H.push q1).push q2).Le (((H.push q1).push q2).push o1)=True:=eq_true ((AHeap.Le.refl ((H.push q1).push q2)).push _)
theorem zoc {H:AHeap} {q1 o1 o2:AObj}:(H.push q1).Le (((H.push q1).push o1).push o2)=True:=eq_true (((AHeap.Le.refl (H.push q1)).push _).push _)
theorem zOd {H:AHeap} {q1 q2 o1 o2:AObj}:((H.push q1).push q2).Le ((((H.push q1).push q2).push o1).push o2)=True:=eq_true (((AHeap.Le.refl ((H.push q1).push q2)).push _).push _)
theorem zoe {H:AHeap} {q1 o1 o2 o3:AObj}:(H.push q1).Le ((((H.push q1).push o1).push o2).push o3)=True:=eq_true ((((AHeap.Le.refl (H.push q1)).push _).push _).push _)
theorem zof {H:AHeap} {q1 q2 o1 o2 o3:AObj}:((H.push q1).push q2).Le (((((H.push q1).push q2).push o1).push o2).push o3)=True:=eq_true ((((AHeap.Le.refl ((H.push q1).push q2)).push _).push _).push _)
theorem zog {H:AHeap} {q1 o1 o2 o3 o4:AObj}:(H.push q1).Le (((((H.push q1).push o1).push o2).push o3).push o4)=True:=eq_true (((((AHeap.Le.refl (H.push q1)).push _).push _).push _).push _)
theorem zoh {H:AHeap} {q1 q2 o1 o2 o3 o4:AObj}:((H.push q1).push q2).Le ((((((H.push q1).push q2).push o1).push o2).push o3).push o4)=True:=eq_true (((((AHeap.Le.refl ((H.push q1).push q2)).push _).push _).push _).push _)
theorem zoi {H:AHeap} {q1 o1 o2 o3 o4 o5:AObj}:(H.push q1).Le ((((((H.push q1).push o1).push o2).push o3).push o4).push o5)=True:=eq_true ((((((AHeap.Le.refl (H.push q1)).push _).push _).push _).push _).push _)
theorem zoj {H:AHeap} {q1 q2 o1 o2 o3 o4 o5:AObj}:((H.push q1).push q2).Le (((((((H.push q1).push q2).push o1).push o2).push o3).push o4).push o5)=True:=eq_true ((((((AHeap.Le.refl ((H.push q1).push q2)).push _).push _).push _).push _).push _)
theorem zmv {H:AHeap} {i:Nat} (h:H.nx≤i):H.get i=none:=by
 unfold AHeap.get;rw [if_neg (by omega)]
section
variable {P:Program} {rs:List ResultVar} {n0:Nat} {e:AEnd} {H1 H:AHeap} {fr:Fr} {x:AV} {s t u:Nat}
theorem zko {Q:AV→AHeap→Prop} {T:Nat→List (List Nat)}:(tJ P rs n0 Q T).r fr H=gN P rs n0 Q fr H:=(rfl)
theorem zkp {Q:AV→AHeap→Prop} {T:Nat→List (List Nat)}:(tJ P rs n0 Q T).n fr H=gN P rs n0 Q fr H:=(rfl)
theorem zkq {Q:AV→AHeap→Prop} {T:Nat→List (List Nat)}:(tJ P rs n0 Q T).n0=n0:=(rfl)
theorem zeh {Q:AV→AHeap→Prop} {T:Nat→List (List Nat)}:(tJ P rs n0 Q T).T=T:=(rfl)
def yr (n0:Nat) (Q:AV→AHeap→Prop) (v:AV) (H:AHeap):Prop:=∃ x H1,Q x H1∧n0≤H1.nx∧ag H v H1 x
theorem zkr {Q:AV→AHeap→Prop}:gN P [] n0 Q fr H=yr n0 Q (.tup []) H:=by simp [gN,lS,one,yr]
theorem zks {Q:AV→AHeap→Prop}:gN P [.tmp t] n0 Q fr H=yr n0 Q (Fr.get fr t) H:=by simp [gN,lS,qC,one,yr]
theorem zkt {Q:AV→AHeap→Prop}:gN P [.tmp t,.tmp s] n0 Q fr H=yr n0 Q (.tup [Fr.get fr t,Fr.get fr s]) H:=by simp [gN,lS,qC,one,yr]
theorem zku {Q:AV→AHeap→Prop} {ty:TypeId}:gN P [.cell t ty] n0 Q fr H=match zjg P ty (Fr.get fr t) H with|some r=>r.c∧yr n0 Q r.v H|none=>False:=by
 simp only [gN,lS,qC]
 cases zjg P ty (Fr.get fr t) H with
 |none=>rfl
 |some r=>simp [one,yr]
theorem zeg {T:Nat→List (List Nat)}:(qt P rs n0 e H1 T).T=T:=(rfl)
theorem zkm {T:Nat→List (List Nat)}:(qt P rs n0 e H1 T).r fr H=fN P rs e H1 fr H:=(rfl)
theorem zkv {T:Nat→List (List Nat)}:(qt P rs n0 e H1 T).n0=n0:=(rfl)
theorem zkn {T:Nat→List (List Nat)}:(qt P rs n0 e H1 T).n fr H=fN P rs e H1 fr H:=(rfl)
theorem zkw {T:Nat→List (List Nat)} {y:AV} {fr:Fr}:(qt P rs n0 (.panic x) H1 T).p fr y H=ag H y H1 x:=(rfl)
theorem zkx {T:Nat→List (List Nat)} {y:AV} {fr:Fr}:(qt P rs n0 (.ret x) H1 T).p fr y H=False:=(rfl)
theorem zky:fN P [] (.ret x) H1 fr H=ag H (.tup []) H1 x:=by simp [fN,lS,one]
theorem zkz:fN P [.tmp t] (.ret x) H1 fr H=ag H (Fr.get fr t) H1 x:=by simp [fN,lS,qC,one]
theorem zla:fN P [.tmp t,.tmp s] (.ret x) H1 fr H=ag H (.tup [Fr.get fr t,Fr.get fr s]) H1 x:=by simp [fN,lS,qC,one]
theorem zlb:fN P [.tmp t,.tmp s,.tmp u] (.ret x) H1 fr H=ag H (.tup [Fr.get fr t,Fr.get fr s,Fr.get fr u]) H1 x:=by simp [fN,lS,qC,one]
theorem zlc {ty:TypeId}:fN P [.cell t ty] (.ret x) H1 fr H=match zjg P ty (Fr.get fr t) H with|some r=>r.c∧ag H r.v H1 x|none=>False:=by
 simp only [fN,lS,qC]
 cases zjg P ty (Fr.get fr t) H with
 |none=>rfl
 |some r=>simp [one]
end
section
variable {k:IntKind} {n:Int} {b:Bool} {s:List UInt8} {i j l:Nat} {cs:List AV} {m:Mark} {t:TypeId} {v:AV} {f:Fn}
theorem zgr:bN []=true:=(rfl)
theorem zgq:bN (v::cs)=(v.one&&bN cs):=(rfl)
theorem zgs:(AV.int k n).one=true:=(rfl)
theorem zgt:(AV.bool b).one=true:=(rfl)
theorem zgu:(AV.str s).one=true:=(rfl)
theorem zgv:(AV.ptr i j).one=true:=(rfl)
theorem zgw:(AV.cptr cs).one=true:=(rfl)
theorem zgx:AV.nilp.one=true:=(rfl)
theorem zgy:(AV.slice m i cs).one=true:=(rfl)
theorem zgz:(AV.ms i j l t).one=true:=(rfl)
theorem zha:(AV.mapv i).one=true:=(rfl)
theorem zhb:AV.nilm.one=true:=(rfl)
theorem zhc {as bs:List AV}:(AV.func f as bs).one=true:=(rfl)
theorem zhd:AV.nilf.one=true:=(rfl)
theorem zhe:(AV.iface t v).one=true:=(rfl)
theorem zhf:AV.nili.one=true:=(rfl)
theorem zjy:(AV.int k n).cells=[.int k n]:=(rfl)
theorem zjz:(AV.bool b).cells=[.bool b]:=(rfl)
theorem zka:(AV.str s).cells=[.str s]:=(rfl)
theorem zkb:(AV.ptr i j).cells=[.ptr i j]:=(rfl)
theorem zkc:(AV.cptr cs).cells=[.cptr cs]:=(rfl)
theorem zkd:AV.nilp.cells=[.nilp]:=(rfl)
theorem zke:(AV.slice m i cs).cells=[.slice m i cs]:=(rfl)
theorem zkf:(AV.ms i j l t).cells=[.ms i j l t]:=(rfl)
theorem zkg:(AV.mapv i).cells=[.mapv i]:=(rfl)
theorem zkh:AV.nilm.cells=[.nilm]:=(rfl)
theorem zki {as bs:List AV}:(AV.func f as bs).cells=[.func f as bs]:=(rfl)
theorem zkj:AV.nilf.cells=[.nilf]:=(rfl)
theorem zkk:(AV.iface t v).cells=[.iface t v]:=(rfl)
theorem zkl:AV.nili.cells=[.nili]:=(rfl)
theorem ziq:(AV.agg cs).cells=cs:=(rfl)
end
theorem nK {P:Program} {Ω:Tbl} {B:Conts}:∀ {k:List KItem},(KI P Ω B k).n0=B.n0
 |[]=>rfl
 |.code c::k=>nK (k:=k)
 |.blk id::k=>nK (k:=k)
 |.back R::k=>nK (k:=k)
theorem jr {P:Program} {Ω:Tbl} {B:Conts} {k:List KItem} {c:Code} {fr:Fr} {H:AHeap} {A:Type} (F:A→Fr) (G:A→AHeap) (I:A→Prop) (μ:A→Nat) (x0:A) (h0:I x0)
 (he:enter B.n0 fr H (F x0) (G x0))
 (hb:∀ a,I a→aw P Ω c (KI P Ω B (.back (fun fr' H'=>∃ a',I a'∧μ a'<μ a∧enter B.n0 fr' H' (F a') (G a'))::k)) (F a) (G a)) :
 aw P Ω (.loop c) (KI P Ω B k) fr H:=by
 refine ⟨some false,A,F,G,I,μ,⟨x0,h0,by rw [nK];exact he⟩,fun a ha=>?_⟩
 have:=hb a ha
 rw [← nK (P:=P) (Ω:=Ω) (k:=k)] at this
 exact this
theorem aK {P:Program} {Ω:Tbl} {B:Conts} {k:List KItem} {c:Code} {fr:Fr} {H:AHeap} {A:Type} (F:A→Fr) (G:A→AHeap) (I:A→Prop) (μ:A→Nat) (x0:A) (h0:I x0)
 (he:enterW B.n0 fr H (F x0) (G x0))
 (hb:∀ a,I a→aw P Ω c (KI P Ω B (.back (fun fr' H'=>∃ a',I a'∧μ a'<μ a∧enterW B.n0 fr' H' (F a') (G a'))::k)) (F a) (G a)) :
 aw P Ω (.loop c) (KI P Ω B k) fr H:=by
 refine ⟨some true,A,F,G,I,μ,⟨x0,h0,by rw [nK];exact he⟩,fun a ha=>?_⟩
 have:=hb a ha
 rw [← nK (P:=P) (Ω:=Ω) (k:=k)] at this
 exact this
section
variable {k:IntKind} {n m i j l:Nat} {z:Int} {b:Bool} {s:List UInt8} {v:AV} {t:TypeId} {vs:List AV}
theorem znf:(AV.int k z).lt m=True:=eq_true (by rw [AV.lt]<;>simp)
theorem zng:(AV.bool b).lt m=True:=eq_true (by rw [AV.lt]<;>simp)
theorem znh:(AV.str s).lt m=True:=eq_true (by rw [AV.lt]<;>simp)
theorem zni:AV.nilp.lt m=True:=eq_true (by rw [AV.lt]<;>simp)
theorem znj:AV.nilm.lt m=True:=eq_true (by rw [AV.lt]<;>simp)
theorem znk:AV.nilf.lt m=True:=eq_true (by rw [AV.lt]<;>simp)
theorem znl:AV.nili.lt m=True:=eq_true (by rw [AV.lt]<;>simp)
theorem znm:AV.junk.lt m=True:=eq_true (by rw [AV.lt]<;>simp)
theorem znn:(AV.ptr i j).lt m=(i<m):=by rw [AV.lt]
theorem zno:(AV.mapv i).lt m=(i<m):=by rw [AV.lt]
theorem znp:(AV.ms i j l n).lt m=(i<m):=by rw [AV.lt]
theorem znq:(AV.iface t v).lt m=v.lt m:=by rw [AV.lt]
def ltL (m:Nat):List AV→Prop
 |[]=>True
 |v::vs=>v.lt m∧ltL m vs
theorem ltL_iff {m:Nat}:∀ {vs:List AV},ltL m vs↔∀ (j:Nat) (hj:j<vs.length),(vs[j]).lt m
 |[]=>⟨fun _ j hj=>absurd hj (by simp),fun _=>trivial⟩
 |v::vs=>⟨fun h j hj=>by
   cases j with
   |zero=>exact h.1
   |succ j=>exact ltL_iff.1 h.2 j (by simpa using hj),fun h=>⟨h 0 (by simp),ltL_iff.2 fun j hj=>h (j+1) (by simpa using hj)⟩⟩
theorem znr:(AV.agg vs).lt m=ltL m vs:=by rw [AV.lt];exact propext ltL_iff.symm
theorem zns:(AV.tup vs).lt m=ltL m vs:=by rw [AV.lt];exact propext ltL_iff.symm
theorem znt:(AV.cptr vs).lt m=ltL m vs:=by rw [AV.lt];exact propext ltL_iff.symm
theorem znu:ltL m (v::vs)=(v.lt m∧ltL m vs):=(rfl)
theorem znv:ltL m []=True:=(rfl)
end
theorem lt_sliceL {n sz:Nat} {m:Mark} {xs:List AV}:(AV.slice m sz xs).lt n=((∀ id,m=.own id→id<n)∧ltL n xs):=by
 rw [AV.lt];exact propext ⟨fun h=>⟨h.1,ltL_iff.2 h.2⟩,fun h=>⟨h.1,ltL_iff.1 h.2⟩⟩
theorem bj {H:AHeap} {a b:Nat} (h:H.Closed):(H.push (.buf a b)).Closed:=by
 intro i cs hi j hj
 rw [zlh] at hi
 split at hi
 ·cases hi
 ·exact AV.lt_mono (by rw [zle];omega) _ (h i cs hi j hj)
theorem aD {H:AHeap} {cs:List AV} (h:H.Closed) (hc:ltL (H.nx+1) cs):(H.push (.cells cs)).Closed:=by
 intro i cs' hi j hj
 rw [zlh] at hi
 split at hi
 ·cases hi;exact ltL_iff.1 hc j hj
 ·exact AV.lt_mono (by rw [zle];omega) _ (h i cs' hi j hj)
theorem km {H:AHeap} {i a b:Nat} (h:H.Closed):(H.set i (.buf a b)).Closed:=by
 intro k cs hi j hj
 rw [jS] at hi
 split at hi
 ·split at hi<;>cases hi
 ·exact h k cs hi j hj
theorem aP {H:AHeap} {i:Nat} {cs:List AV} (h:H.Closed) (hc:ltL H.nx cs):(H.set i (.cells cs)).Closed:=by
 intro k cs' hi j hj
 rw [jS] at hi
 split at hi
 ·split at hi
  ·cases hi;exact ltL_iff.1 hc j hj
  ·cases hi
 ·exact h k cs' hi j hj
theorem znw {H:AHeap} {a b:Nat} (h:H.Closed):(H.push (.buf a b)).Closed=True:=eq_true (bj h)
theorem znx {H:AHeap} {a b c d:Nat} (h:H.Closed):((H.push (.buf a b)).push (.buf c d)).Closed=True:=eq_true (bj (bj h))
theorem zny {H:AHeap} {a b c d e f:Nat} (h:H.Closed):(((H.push (.buf a b)).push (.buf c d)).push (.buf e f)).Closed=True:=eq_true (bj (bj (bj h)))
theorem HG {H:AHeap} {i a b:Nat} (h:H.Closed):(H.set i (.buf a b)).Closed=True:=eq_true (km h)
theorem znz {H:AHeap} {i:Nat} {cs:List AV} (h:H.Closed) (hc:ltL H.nx cs):(H.set i (.cells cs)).Closed=True:=eq_true (aP h hc)
theorem zmf {H:AHeap} {cs:List AV} (h:H.Closed) (hc:ltL (H.nx+1) cs):(H.push (.cells cs)).Closed=True:=eq_true (aD h hc)
theorem zmg {H:AHeap} {cs ds:List AV} (h:H.Closed) (hc:ltL (H.nx+1) cs) (hd:ltL (H.nx+1+1) ds):((H.push (.cells cs)).push (.cells ds)).Closed=True:=eq_true (aD (aD h hc) hd)
theorem zmh {H:AHeap} {cs ds es:List AV} (h:H.Closed) (hc:ltL (H.nx+1) cs) (hd:ltL (H.nx+1+1) ds) (he:ltL (H.nx+1+1+1) es):(((H.push (.cells cs)).push (.cells ds)).push (.cells es)).Closed=True:=eq_true (aD (aD (aD h hc) hd) he)
theorem zmi {H:AHeap} {cs:List AV} {a b:Nat} (h:H.Closed) (hc:ltL (H.nx+1) cs):((H.push (.cells cs)).push (.buf a b)).Closed=True:=eq_true (bj (aD h hc))
theorem zmj {H:AHeap} {q1 q2 q3 o1:AObj}:(((H.push q1).push q2).push q3).Le ((((H.push q1).push q2).push q3).push o1)=True:=eq_true ((AHeap.Le.refl (((H.push q1).push q2).push q3)).push _)
theorem zmk {H:AHeap} {q1 q2 q3 o1 o2:AObj}:(((H.push q1).push q2).push q3).Le (((((H.push q1).push q2).push q3).push o1).push o2)=True:=eq_true (((AHeap.Le.refl (((H.push q1).push q2).push q3)).push _).push _)
theorem zml {H:AHeap} {q1 q2 q3 o1 o2 o3:AObj}:(((H.push q1).push q2).push q3).Le ((((((H.push q1).push q2).push q3).push o1).push o2).push o3)=True:=eq_true ((((AHeap.Le.refl (((H.push q1).push q2).push q3)).push _).push _).push _)
theorem AHeap.Le.del {H H':AHeap} (h:H.Le H') {i:Nat} (hi:H.nx≤i):H.Le (H'.del i):=⟨h.nx,fun j x hj=>by
 have hlt:=AHeap.get_lt hj
 rw [j6,if_neg (by omega)];exact h.get j x hj⟩
theorem gI {H:AHeap} {i:Nat}:(H.del i).nx=H.nx:=(rfl)
theorem md {H:AHeap} {i j:Nat}:(H.del i).get j=if j=i then none else H.get j:=j6 H i j
theorem vP {H:AHeap} {i j:Nat}:ai (H.del i) j=if j=i then none else ai H j:=by
 unfold ai
 rw [md]
 by_cases h:j=i
 ·simp [h]
 ·simp [h]
theorem zD {H:AHeap} {i:Nat} (h:H.Closed):(H.del i).Closed:=by
 intro k cs hk j hj
 rw [md] at hk
 split at hk
 ·cases hk
 ·exact h k cs hk j hj
theorem cL {H:AHeap} {i:Nat} {o:AObj} (h:H.get i=some o):H.set i o=H:=by
 have hlt:=AHeap.get_lt h
 unfold AHeap.get at h
 rw [if_pos hlt] at h
 cases H with
 |mk nx f =>
  unfold AHeap.set
  congr 1
  funext j
  dsimp only at h ⊢
  split
  ·rename_i e;rw [e,h]
  ·rfl
theorem dd {i n:Nat} (h:i<n):(i=n)=False∧(n=i)=False∧(i=n+1)=False∧(n+1=i)=False∧(i=n+1+1)=False∧(n+1+1=i)=False∧(i=n+1+1+1)=False∧(n+1+1+1=i)=False∧(i=n+1+1+1+1)=False∧(n+1+1+1+1=i)=False∧(i=n+1+1+1+1+1)=False∧(n+1+1+1+1+1=i)=False∧(i=n+1+1+1+1+1+1)=False∧(n+1+1+1+1+1+1=i)=False∧(i=n+1+1+1+1+1+1+1)=False∧(n+1+1+1+1+1+1+1=i)=False∧(i=n+1+1+1+1+1+1+1+1)=False∧(n+1+1+1+1+1+1+1+1=i)=False:=by
 refine ⟨?_,?_,?_,?_,?_,?_,?_,?_,?_,?_,?_,?_,?_,?_,?_,?_,?_,?_⟩<;>exact eq_false (by omega)
def bys (l:List UInt8):List AV:=l.map aL
theorem zlk {l:List UInt8}:(bys l).length=l.length:=by simp [bys]
def unb (l:List AV):List UInt8:=l.map byteOf
def isB (l:List AV):Prop:=l=bys (unb l)
theorem zll:bys []=[]:=rfl
theorem zlm {l:List UInt8} {n:Nat}:(bys l).take n=bys (l.take n):=by simp [bys]
theorem zln {l:List UInt8} {n:Nat}:(bys l).drop n=bys (l.drop n):=by simp [bys]
theorem zlo {l m:List UInt8}:bys l++bys m=bys (l++m):=by simp [bys]
theorem zlp {b:UInt8} {l:List UInt8}:aL b::bys l=bys (b::l):=rfl
theorem zlq {b:UInt8}:[aL b]=bys [b]:=rfl
theorem zls {l:List UInt8}:(bys l).isEmpty=l.isEmpty:=by cases l<;>rfl
theorem zmt {l:List UInt8}:(bys l=[])=(l=[]):=by cases l<;>simp [bys]
theorem zmu {l m:List UInt8}:(bys l=bys m)=(l=m):=by
 refine propext ⟨fun h=>?_,fun h=>by rw [h]⟩
 have h2:=congrArg (List.map byteOf) h
 simp only [bys,List.map_map] at h2
 have:byteOf ∘ aL=id:=funext fun b=>by simp [byteOf,aL]
 rwa [this,List.map_id,List.map_id] at h2
theorem zlt {l:List UInt8}:(bys l).flatMap AV.cells=bys l:=by
 unfold bys
 induction l with
 |nil=>rfl
 |cons a l ih=>simp only [List.map_cons,List.flatMap_cons,ih];rfl
theorem zlu {n:Nat}:(List.replicate n [AV.int .u8 0]).flatten=bys (List.replicate n (0:UInt8)):=by
 unfold bys
 induction n with
 |zero=>rfl
 |succ n ih=>simp only [List.replicate_succ,List.flatten_cons,ih];rfl
theorem zlv {l:List UInt8}:(∀ z∈bys l,bN z.cells=true)=True:=eq_true fun z hz=>by
 obtain ⟨b,_,rfl⟩:=List.mem_map.1 hz
 rfl
theorem zlr {l:List UInt8}:bN (bys l)=true:=by
 unfold bys bN
 rw [List.all_map]
 exact List.all_eq_true.2 fun x _=>rfl
theorem zlw {l:List UInt8}:(∀ z∈bys l,wI z)=True:=eq_true fun z hz=>by
 obtain ⟨b,_,rfl⟩:=List.mem_map.1 hz
 exact ⟨_,rfl⟩
theorem uG {b:UInt8}:byteOf (aL b)=b:=by simp [byteOf,aL]
theorem zlx {l:List UInt8}:(bys l).map byteOf=l:=by
 unfold bys
 rw [List.map_map]
 have:byteOf ∘ aL=id:=funext fun b=>uG
 rw [this,List.map_id]
theorem zlz {l:List UInt8}:unb (bys l)=l:=zlx
theorem zma:unb []=[]:=rfl
theorem zmb {l:List UInt8}:isB (bys l)=True:=eq_true (by show bys l=bys (unb (bys l));rw [zlz])
theorem zmc:isB []=True:=eq_true rfl
theorem fY {l:List AV} (h:isB l):∃ xs,l=bys xs:=⟨_,h⟩
theorem zly {l:List UInt8}:l.map aL=bys l:=rfl
theorem nO {l:List UInt8} {i:Nat} (h:i<l.length):(bys l).getD i .junk=aL (l.getD i 0):=by
 simp [bys,List.getD_eq_getElem?_getD,h]
theorem zms {n:Nat} {m:Mark} {l:List UInt8}:(AV.slice m 1 (bys l)).lt n=∀ id,m=.own id→id<n:=by
 rw [AV.lt]
 refine propext ⟨fun h=>h.1,fun h=>⟨h,fun j hj=>?_⟩⟩
 simp only [bys,List.getElem_map,aL]
 rw [AV.lt]<;>simp
theorem zme {b:UInt8}:(aL b).one=true:=rfl
theorem zmd {b:UInt8}:(aL b).cells=[aL b]:=rfl
theorem oE (xs vs:List AV):∀ (n:Nat),n+vs.length≤xs.length→splice xs n vs=xs.take n++vs++xs.drop (n+vs.length):=by
 induction xs generalizing vs with
 |nil =>
  intro n h
  simp only [List.length_nil,Nat.le_zero,Nat.add_eq_zero_iff,List.length_eq_zero_iff] at h
  obtain ⟨rfl,rfl⟩:=h;rfl
 |cons a xs ih =>
  intro n h
  cases n with
  |zero =>
   cases vs with
   |nil=>simp [splice]
   |cons v vs =>
    simp only [splice]
    rw [ih vs 0 (by simp at h ⊢;omega)]
    simp
  |succ n =>
   simp only [splice]
   rw [ih vs n (by simp at h ⊢;omega)]
   simp [Nat.add_right_comm]
theorem zmq {xs ys:List UInt8} {n:Nat} (h:n+ys.length≤xs.length):splice (bys xs) n (bys ys)=bys (xs.take n++ys++xs.drop (n+ys.length)):=by
 rw [oE _ _ _ (by simpa [bys] using h)];simp [bys]
theorem zmr {n:Nat} {l:List UInt8} (h:n≤l.length):bK 1 n (bys l)=bys (l.take n):=by
 unfold bys
 induction n generalizing l with
 |zero=>simp [bK]
 |succ n ih =>
  cases l with
  |nil=>simp at h
  |cons a l =>
   simp only [bK,if_true,List.map_cons,List.drop_succ_cons,List.drop_zero,List.take_succ_cons]
   rw [ih (by simpa using h)]
   rfl
theorem wrap_i64 {n:Int} (h : -9223372036854775808≤n) (h2:n<9223372036854775808):IntKind.wrap .i64 n=n:=uU h (by omega)
theorem cG {n:Int} (h:0≤n) (h2:n<18446744073709551616):IntKind.wrap .u64 n=n:=by
 have:IntKind.wrap .u64 n=n % 18446744073709551616:=by simp [IntKind.wrap,IntKind.signed,IntKind.bits]
 rw [this];omega
theorem sw {n:Int}:AV.int .u8 (IntKind.wrap .u8 n)=aL (UInt8.ofNat (n % 256).toNat):=by
 unfold aL
 congr 1
 have h:IntKind.wrap .u8 n=n % 256:=by simp [IntKind.wrap,IntKind.signed,IntKind.bits]
 rw [h]
 have h1:0≤n % 256:=Int.emod_nonneg _ (by decide)
 have h2:n % 256<256:=Int.emod_lt_of_pos _ (by decide)
 rw [UInt8.toNat_ofNat_of_lt' (by simp [UInt8.size];omega)]
 omega
theorem EntOk.pure {P:Program} {f:FuncId} {p:List AV→AHeap→(AV→Prop)→Prop} (h:∀ args H K,p args H K→∃ x,K x∧ACalls P f args H (.ret x) H):EntOk P f (Ent.pure p) :=
 ⟨fun _=>h,fun h=>(by cases h),fun q h=>(by cases h)⟩
theorem EntOk.effect {P:Program} {f:FuncId} {e:List AV→AHeap→(AEnd→AHeap→Prop)→Prop} (h:∀ args H K,e args H K→∃ x H1,K x H1∧ACalls P f args H x H1):EntOk P f (Ent.effect e) :=
 ⟨fun h=>(by cases h),fun _=>h,fun q h=>(by cases h)⟩
theorem EntOk.some {P:Program} {f:FuncId} {q:List AV→AHeap→(AV→AHeap→Prop)→Prop} (h:∀ args H K,q args H K→ACallsP P f args H K):EntOk P f (Ent.some q) :=
 ⟨fun h=>(by cases h),fun _ _ _ _ h=>h.elim,fun q' h'=>by cases h';exact h⟩
theorem TblOk.nil {P:Program}:TblOk P []:=fun f e h=>by cases h
theorem TblOk.cons {P:Program} {Ω:Tbl} {f:FuncId} {e:Ent} (h:EntOk P f e) (k:TblOk P Ω):TblOk P ((f,e)::Ω):=fun g x hg=>by
 unfold mT at hg
 split at hg
 ·rename_i he;cases hg;subst he;exact h
 ·exact k g x hg
theorem Ip {a:Nat}:(a=a+1+1)=False:=eq_false (by omega)
theorem Io {a:Nat}:(a+1+1=a)=False:=eq_false (by omega)
theorem Iw {a:Nat}:(a=a+1+1+1)=False:=eq_false (by omega)
theorem Im {a:Nat}:(a+1+1+1=a)=False:=eq_false (by omega)
theorem Id {a:Nat}:(a=a+1+1+1+1)=False:=eq_false (by omega)
theorem Ic {a:Nat}:(a+1+1+1+1=a)=False:=eq_false (by omega)
theorem Ib {a:Nat}:(a=a+1+1+1+1+1)=False:=eq_false (by omega)
theorem Iq {a:Nat}:(a+1+1+1+1+1=a)=False:=eq_false (by omega)
theorem Ik {a:Nat}:(a=a+1+1+1+1+1+1)=False:=eq_false (by omega)
theorem ID {a:Nat}:(a+1+1+1+1+1+1=a)=False:=eq_false (by omega)
theorem IB {a:Nat}:(a=a+1+1+1+1+1+1+1)=False:=eq_false (by omega)
theorem Ir {a:Nat}:(a+1+1+1+1+1+1+1=a)=False:=eq_false (by omega)
theorem Iu {a:Nat}:(a=a+1+1+1+1+1+1+1+1)=False:=eq_false (by omega)
theorem Ig {a:Nat}:(a+1+1+1+1+1+1+1+1=a)=False:=eq_false (by omega)
theorem Is {a:Nat}:(a=a+1+1+1+1+1+1+1+1+1)=False:=eq_false (by omega)
theorem Iy {a:Nat}:(a+1+1+1+1+1+1+1+1+1=a)=False:=eq_false (by omega)
theorem zik {a:Nat}:(a=a+1+1+1+1+1+1+1+1+1+1)=False:=eq_false (by omega)
theorem zil {a:Nat}:(a+1+1+1+1+1+1+1+1+1+1=a)=False:=eq_false (by omega)
theorem zim {a:Nat}:(a=a+1+1+1+1+1+1+1+1+1+1+1)=False:=eq_false (by omega)
theorem zin {a:Nat}:(a+1+1+1+1+1+1+1+1+1+1+1=a)=False:=eq_false (by omega)
theorem zio {a:Nat}:(a=a+1+1+1+1+1+1+1+1+1+1+1+1)=False:=eq_false (by omega)
theorem zip {a:Nat}:(a+1+1+1+1+1+1+1+1+1+1+1+1=a)=False:=eq_false (by omega)
theorem yB {H' H1:AHeap} (v:AV):wk1 H' H1 v v:=by
 cases v<;>first|rfl|skip
 exact .inl ⟨.inr rfl,rfl,rfl⟩
theorem yj {H' H1:AHeap}:∀ (vs:List AV),wkL H' H1 vs vs
 |[]=>trivial
 |v::vs=>⟨yB v,yj vs⟩
theorem xR {H' H1:AHeap} (v:AV):wk2 H' H1 v v:=by
 cases v<;>first|exact yj _|(simp only [wk2];exact yB _)
theorem vX {H' H1:AHeap}:∀ (vs:List AV),ak H' H1 vs vs
 |[]=>trivial
 |v::vs=>⟨xR v,vX vs⟩
theorem zmo {H' H1:AHeap} {v:AV}:wk H' H1 v v=True:=eq_true (by cases v<;>first|exact vX _|(simp only [wk];exact xR _))
theorem zmp {n:Nat} {l:List UInt8}:ltL n (bys l)=True:=eq_true (ltL_iff.2 fun j hj=>by
 simp only [bys,List.getElem_map,aL]
 rw [AV.lt]<;>simp)
theorem zok:((0:Nat):Int)=0:=rfl
theorem zmn {m:Mark} {sz n:Nat}:(AV.slice m sz []).lt n=∀ id,m=.own id→id<n:=by
 rw [AV.lt];exact propext ⟨fun h=>h.1,fun h=>⟨h,fun j hj=>absurd hj (by simp)⟩⟩
theorem zld {P:Program} {H1 H:AHeap} {fr:Fr} {x:AV} {t s:Nat} {ty:TypeId}:fN P [.cell t ty,.tmp s] (.ret x) H1 fr H=match zjg P ty (Fr.get fr t) H with|some r=>r.c∧ag H (.tup [r.v,Fr.get fr s]) H1 x|none=>False:=by
 simp only [fN,lS,qC]
 cases zjg P ty (Fr.get fr t) H with
 |none=>rfl
 |some r=>simp [one]
end Go.AL
