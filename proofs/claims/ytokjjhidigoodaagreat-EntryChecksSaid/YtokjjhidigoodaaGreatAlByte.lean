/- Lemmas of the proof; no condition. -/
import Derived.Test.YtokjjhidigoodaaGreatAlSimp
import Derived.Test.YtokjjhidigoodaaGreatAlSound17
set_option linter.all false
namespace Go.AL
theorem zac {P:Program} {Ω:Tbl} {K:Conts} {fr:Fr} {H:AHeap} {c:Code}:aw P Ω (.scope c) K fr H=aw P Ω c K fr H:=(rfl)
@[congr] theorem Oz {P:Program} {Ω:Tbl} {c:Code} {K:Conts} {fr:Fr} {H:AHeap}:aw P Ω c K fr H=aw P Ω c K fr H:=(rfl)
@[congr] theorem M3 {P:Program} {Ω:Tbl} {ops:Array Oper} {rest:List Oper} {K:Fr→AHeap→Prop} {Kp:Fr→AV→AHeap→Prop} {fr:Fr} {H:AHeap}:bP P Ω ops rest K Kp fr H=bP P Ω ops rest K Kp fr H:=(rfl)
@[congr] theorem N7 {P:Program} {Ω:Tbl} {ops:Array Oper} {rest:List Oper} {hs:HS} {ps:List (Nat × (AHeap→Prop))} {K:Fr→AHeap→Prop} {fr:Fr} {H:AHeap}:awD P Ω ops rest hs ps K fr H=awD P Ω ops rest hs ps K fr H:=(rfl)
@[congr] theorem N0 {t:Bool} {A B A' B':Prop} {t':Bool} (h:t=t') (h1:A=A') (h2:B=B'):mB t A B=mB t' A' B':=by rw [h,h1,h2]
theorem zla {H:AHeap} {o:AObj}:(H.push o).nx=H.nx+1:=(rfl)
theorem zlb {H:AHeap} {i:Nat} {o:AObj}:(H.set i o).nx=H.nx:=(rfl)
theorem zld {H:AHeap} {o:AObj} {i:Nat}:(H.push o).get i=if i=H.nx then some o else H.get i:=by
 unfold AHeap.get AHeap.push
 by_cases h:i=H.nx
 ·subst h;simp
 ·by_cases h2:i<H.nx
  ·simp [h,h2,Nat.lt_succ_of_lt h2]
  ·simp only [h,if_false,h2];split<;>first|omega|rfl
theorem zle {H:AHeap} {o o':AObj} {i:Nat}:(H.push o).set i o'=if i=H.nx then H.push o' else (H.set i o').push o:=by
 split
 ·rename_i h;subst h
  unfold AHeap.set AHeap.push;congr 1;funext j;by_cases hj:j=H.nx<;>simp [hj]
 ·rename_i h
  unfold AHeap.set AHeap.push;congr 1;funext j
  simp only
  by_cases h1:j=i
  ·subst h1;simp [h]
  ·simp [h1]
theorem zlf {H:AHeap} {i:Nat} {o o':AObj}:(H.set i o).set i o'=H.set i o':=by
 unfold AHeap.set;congr 1;funext j;simp only;split<;>rfl
theorem aB {H:AHeap} {i j:Nat} {o:AObj}:(H.set i o).get j=if j=i then (if i<H.nx then some o else none) else H.get j:=by
 unfold AHeap.get AHeap.set
 by_cases h:j=i
 ·subst h;simp
 ·simp [h]
theorem ay {H:AHeap} {id:Nat} {cs:List AV} (h:H.get id=some (.cells cs)):aR H id=some cs:=by simp [aR,h]
theorem zlc {H:AHeap} {o:AObj} {i:Nat}:aR (H.push o) i=if i=H.nx then (match o with|.cells cs=>some cs|_=>none) else aR H i:=by
 unfold aR
 rw [zld]
 by_cases h:i=H.nx
 ·simp only [h,if_true];cases o<;>rfl
 ·simp only [h,if_false]
theorem eX {H:AHeap} {i j:Nat} {cs:List AV} (hi:i<H.nx):aR (H.set i (.cells cs)) j=if j=i then some cs else aR H j:=by
 unfold aR
 rw [aB]
 by_cases h:j=i
 ·simp only [h,if_true,hi]
 ·simp only [h,if_false]
theorem zms {H:AHeap}:H.Le H=True:=eq_true (AHeap.Le.refl H)
theorem zmt {H:AHeap} {o1:AObj}:H.Le (H.push o1)=True:=eq_true ((AHeap.Le.refl H).push _)
theorem zmu {H:AHeap} {o1 o2:AObj}:H.Le ((H.push o1).push o2)=True:=eq_true (((AHeap.Le.refl H).push _).push _)
theorem zmv {H:AHeap} {o1 o2 o3:AObj}:H.Le (((H.push o1).push o2).push o3)=True:=eq_true ((((AHeap.Le.refl H).push _).push _).push _)
theorem zmw {H:AHeap} {o1 o2 o3 o4:AObj}:H.Le ((((H.push o1).push o2).push o3).push o4)=True:=eq_true (((((AHeap.Le.refl H).push _).push _).push _).push _)
theorem zmx {H:AHeap} {o1 o2 o3 o4 o5:AObj}:H.Le (((((H.push o1).push o2).push o3).push o4).push o5)=True:=eq_true ((((((AHeap.Le.refl H).push _).push _).push _).push _).push _)
theorem zmy {H:AHeap} {o1 o2 o3 o4 o5 o6:AObj}:H.Le ((((((H.push o1).push o2).push o3).push o4).push o5).push o6)=True:=eq_true (((((((AHeap.Le.refl H).push _).push _).push _).push _).push _).push _)
theorem zmz {H:AHeap} {o1 o2 o3 o4 o5 o6 o7:AObj}:H.Le (((((((H.push o1).push o2).push o3).push o4).push o5).push o6).push o7)=True:=eq_true ((((((((AHeap.Le.refl H).push _).push _).push _).push _).push _).push _).push _)
theorem zna {H:AHeap} {o1 o2 o3 o4 o5 o6 o7 o8:AObj}:H.Le ((((((((H.push o1).push o2).push o3).push o4).push o5).push o6).push o7).push o8)=True:=eq_true (((((((((AHeap.Le.refl H).push _).push _).push _).push _).push _).push _).push _).push _)
theorem znw {H:AHeap} {q1 o1:AObj}:(H.push q1).Le ((H.push q1).push o1)=True:=eq_true ((AHeap.Le.refl (H.push q1)).push _)
theorem znx {H:AHeap} {q1 q2 o1:AObj}:((H.push q1).push q2).Le (((H.push q1).push q2).push o1)=True:=eq_true ((AHeap.Le.refl ((H.push q1).push q2)).push _)
theorem zny {H:AHeap} {q1 o1 o2:AObj}:(H.push q1).Le (((H.push q1).push o1).push o2)=True:=eq_true (((AHeap.Le.refl (H.push q1)).push _).push _)
theorem znz {H:AHeap} {q1 q2 o1 o2:AObj}:((H.push q1).push q2).Le ((((H.push q1).push q2).push o1).push o2)=True:=eq_true (((AHeap.Le.refl ((H.push q1).push q2)).push _).push _)
theorem zoa {H:AHeap} {q1 o1 o2 o3:AObj}:(H.push q1).Le ((((H.push q1).push o1).push o2).push o3)=True:=eq_true ((((AHeap.Le.refl (H.push q1)).push _).push _).push _)
theorem zob {H:AHeap} {q1 q2 o1 o2 o3:AObj}:((H.push q1).push q2).Le (((((H.push q1).push q2).push o1).push o2).push o3)=True:=eq_true ((((AHeap.Le.refl ((H.push q1).push q2)).push _).push _).push _)
theorem zoc {H:AHeap} {q1 o1 o2 o3 o4:AObj}:(H.push q1).Le (((((H.push q1).push o1).push o2).push o3).push o4)=True:=eq_true (((((AHeap.Le.refl (H.push q1)).push _).push _).push _).push _)
theorem zOd {H:AHeap} {q1 q2 o1 o2 o3 o4:AObj}:((H.push q1).push q2).Le ((((((H.push q1).push q2).push o1).push o2).push o3).push o4)=True:=eq_true (((((AHeap.Le.refl ((H.push q1).push q2)).push _).push _).push _).push _)
theorem zoe {H:AHeap} {q1 o1 o2 o3 o4 o5:AObj}:(H.push q1).Le ((((((H.push q1).push o1).push o2).push o3).push o4).push o5)=True:=eq_true ((((((AHeap.Le.refl (H.push q1)).push _).push _).push _).push _).push _)
theorem zof {H:AHeap} {q1 q2 o1 o2 o3 o4 o5:AObj}:((H.push q1).push q2).Le (((((((H.push q1).push q2).push o1).push o2).push o3).push o4).push o5)=True:=eq_true ((((((AHeap.Le.refl ((H.push q1).push q2)).push _).push _).push _).push _).push _)
theorem zmr {H:AHeap} {i:Nat} (h:H.nx≤i):H.get i=none:=by
 unfold AHeap.get;rw [if_neg (by omega)]
section
variable {P:Program} {rs:List ResultVar} {n0:Nat} {e:AEnd} {H1 H:AHeap} {fr:Fr} {x:AV} {s t u:Nat}
theorem zkk {Q:AV→AHeap→Prop} {T:Nat→List (List Nat)}:(lh P rs n0 Q T).r fr H=fK P rs n0 Q fr H:=(rfl)
theorem zkl {Q:AV→AHeap→Prop} {T:Nat→List (List Nat)}:(lh P rs n0 Q T).n fr H=fK P rs n0 Q fr H:=(rfl)
theorem zkm {Q:AV→AHeap→Prop} {T:Nat→List (List Nat)}:(lh P rs n0 Q T).n0=n0:=(rfl)
theorem zed {Q:AV→AHeap→Prop} {T:Nat→List (List Nat)}:(lh P rs n0 Q T).T=T:=(rfl)
def wQ (n0:Nat) (Q:AV→AHeap→Prop) (v:AV) (H:AHeap):Prop:=∃ x H1,Q x H1∧n0≤H1.nx∧af H v H1 x
theorem zkn {Q:AV→AHeap→Prop}:fK P [] n0 Q fr H=wQ n0 Q (.tup []) H:=by simp [fK,mC,one,wQ]
theorem zko {Q:AV→AHeap→Prop}:fK P [.tmp t] n0 Q fr H=wQ n0 Q (Fr.get fr t) H:=by simp [fK,mC,qD,one,wQ]
theorem zkp {Q:AV→AHeap→Prop}:fK P [.tmp t,.tmp s] n0 Q fr H=wQ n0 Q (.tup [Fr.get fr t,Fr.get fr s]) H:=by simp [fK,mC,qD,one,wQ]
theorem zkq {Q:AV→AHeap→Prop} {ty:TypeId}:fK P [.cell t ty] n0 Q fr H=match zjc P ty (Fr.get fr t) H with|some r=>r.c∧wQ n0 Q r.v H|none=>False:=by
 simp only [fK,mC,qD]
 cases zjc P ty (Fr.get fr t) H with
 |none=>rfl
 |some r=>simp [one,wQ]
theorem zec {T:Nat→List (List Nat)}:(uG P rs n0 e H1 T).T=T:=(rfl)
theorem zki {T:Nat→List (List Nat)}:(uG P rs n0 e H1 T).r fr H=fQ P rs e H1 fr H:=(rfl)
theorem zkr {T:Nat→List (List Nat)}:(uG P rs n0 e H1 T).n0=n0:=(rfl)
theorem zkj {T:Nat→List (List Nat)}:(uG P rs n0 e H1 T).n fr H=fQ P rs e H1 fr H:=(rfl)
theorem zks {T:Nat→List (List Nat)} {y:AV} {fr:Fr}:(uG P rs n0 (.panic x) H1 T).p fr y H=af H y H1 x:=(rfl)
theorem zkt {T:Nat→List (List Nat)} {y:AV} {fr:Fr}:(uG P rs n0 (.ret x) H1 T).p fr y H=False:=(rfl)
theorem zku:fQ P [] (.ret x) H1 fr H=af H (.tup []) H1 x:=by simp [fQ,mC,one]
theorem zkv:fQ P [.tmp t] (.ret x) H1 fr H=af H (Fr.get fr t) H1 x:=by simp [fQ,mC,qD,one]
theorem zkw:fQ P [.tmp t,.tmp s] (.ret x) H1 fr H=af H (.tup [Fr.get fr t,Fr.get fr s]) H1 x:=by simp [fQ,mC,qD,one]
theorem zkx:fQ P [.tmp t,.tmp s,.tmp u] (.ret x) H1 fr H=af H (.tup [Fr.get fr t,Fr.get fr s,Fr.get fr u]) H1 x:=by simp [fQ,mC,qD,one]
theorem zky {ty:TypeId}:fQ P [.cell t ty] (.ret x) H1 fr H=match zjc P ty (Fr.get fr t) H with|some r=>r.c∧af H r.v H1 x|none=>False:=by
 exact X41
end
section
variable {k:IntKind} {n:Int} {b:Bool} {s:List UInt8} {i j l:Nat} {cs:List AV} {m:Mark} {t:TypeId} {v:AV} {f:Fn}
theorem zgn:bM []=true:=(rfl)
theorem zgm:bM (v::cs)=(v.one&&bM cs):=(rfl)
theorem zgo:(AV.int k n).one=true:=(rfl)
theorem zgp:(AV.bool b).one=true:=(rfl)
theorem zgq:(AV.str s).one=true:=(rfl)
theorem zgr:(AV.ptr i j).one=true:=(rfl)
theorem zgs:(AV.cptr cs).one=true:=(rfl)
theorem zgt:AV.nilp.one=true:=(rfl)
theorem zgu:(AV.slice m i cs).one=true:=(rfl)
theorem zgv:(AV.ms i j l t).one=true:=(rfl)
theorem zgw:(AV.mapv i).one=true:=(rfl)
theorem zgx:AV.nilm.one=true:=(rfl)
theorem zgy {as bs:List AV}:(AV.func f as bs).one=true:=(rfl)
theorem zgz:AV.nilf.one=true:=(rfl)
theorem zha:(AV.iface t v).one=true:=(rfl)
theorem zhb:AV.nili.one=true:=(rfl)
theorem zju:(AV.int k n).cells=[.int k n]:=(rfl)
theorem zjv:(AV.bool b).cells=[.bool b]:=(rfl)
theorem zjw:(AV.str s).cells=[.str s]:=(rfl)
theorem zjx:(AV.ptr i j).cells=[.ptr i j]:=(rfl)
theorem zjy:(AV.cptr cs).cells=[.cptr cs]:=(rfl)
theorem zjz:AV.nilp.cells=[.nilp]:=(rfl)
theorem zka:(AV.slice m i cs).cells=[.slice m i cs]:=(rfl)
theorem zkb:(AV.ms i j l t).cells=[.ms i j l t]:=(rfl)
theorem zkc:(AV.mapv i).cells=[.mapv i]:=(rfl)
theorem zkd:AV.nilm.cells=[.nilm]:=(rfl)
theorem zke {as bs:List AV}:(AV.func f as bs).cells=[.func f as bs]:=(rfl)
theorem zkf:AV.nilf.cells=[.nilf]:=(rfl)
theorem zkg:(AV.iface t v).cells=[.iface t v]:=(rfl)
theorem zkh:AV.nili.cells=[.nili]:=(rfl)
theorem zim:(AV.agg cs).cells=cs:=(rfl)
end
theorem iC {P:Program} {Ω:Tbl} {B:Conts}:∀ {k:List KItem},(KI P Ω B k).n0=B.n0
 |[]=>rfl
 |.code c::k=>iC (k:=k)
 |.blk id::k=>iC (k:=k)
 |.back R::k=>iC (k:=k)
theorem eJ {P:Program} {Ω:Tbl} {B:Conts} {k:List KItem} {c:Code} {fr:Fr} {H:AHeap} {A:Type} (F:A→Fr) (G:A→AHeap) (I:A→Prop) (μ:A→Nat) (x0:A) (h0:I x0)
 (he:enter B.n0 fr H (F x0) (G x0))
 (hb:∀ a,I a→aw P Ω c (KI P Ω B (.back (fun fr' H'=>∃ a',I a'∧μ a'<μ a∧enter B.n0 fr' H' (F a') (G a'))::k)) (F a) (G a)) :
 aw P Ω (.loop c) (KI P Ω B k) fr H:=by
 refine ⟨some false,A,F,G,I,μ,⟨x0,h0,by rw [iC];exact he⟩,fun a ha=>?_⟩
 have:=hb a ha
 rw [← iC (P:=P) (Ω:=Ω) (k:=k)] at this
 exact this
theorem xP {P:Program} {Ω:Tbl} {B:Conts} {k:List KItem} {c:Code} {fr:Fr} {H:AHeap} (h:aw P Ω c (KI P Ω B (.back (fun _ _=>False)::k)) fr H):aw P Ω (.loop c) (KI P Ω B k) fr H:=by
 refine ⟨none,Unit,fun _=>fr,fun _=>H,fun _=>True,fun _=>0,⟨(),trivial,rfl,rfl⟩,fun _ _=>?_⟩
 have e:(fun (fr':Fr) (H':AHeap)=>∃ a':Unit,True∧(0:Nat)<0∧enterB none (KI P Ω B k).n0 fr' H' fr H)=fun _ _=>False:=by
  funext fr' H'
  exact eq_false fun ⟨_,_,h,_⟩=>absurd h (by decide)
 show aw P Ω c { KI P Ω B k with n:=_ } fr H
 rw [e]
 exact h
theorem az {P:Program} {Ω:Tbl} {B:Conts} {k:List KItem} {c:Code} {fr:Fr} {H:AHeap} {A:Type} (F:A→Fr) (G:A→AHeap) (I:A→Prop) (μ:A→Nat) (x0:A) (h0:I x0)
 (he:enterW B.n0 fr H (F x0) (G x0))
 (hb:∀ a,I a→aw P Ω c (KI P Ω B (.back (fun fr' H'=>∃ a',I a'∧μ a'<μ a∧enterW B.n0 fr' H' (F a') (G a'))::k)) (F a) (G a)) :
 aw P Ω (.loop c) (KI P Ω B k) fr H:=by
 refine ⟨some true,A,F,G,I,μ,⟨x0,h0,by rw [iC];exact he⟩,fun a ha=>?_⟩
 have:=hb a ha
 rw [← iC (P:=P) (Ω:=Ω) (k:=k)] at this
 exact this
section
variable {k:IntKind} {n m i j l:Nat} {z:Int} {b:Bool} {s:List UInt8} {v:AV} {t:TypeId} {vs:List AV}
theorem znb:(AV.int k z).lt m=True:=eq_true (by rw [AV.lt]<;>simp)
theorem znc:(AV.bool b).lt m=True:=eq_true (by rw [AV.lt]<;>simp)
theorem znd:(AV.str s).lt m=True:=eq_true (by rw [AV.lt]<;>simp)
theorem zne:AV.nilp.lt m=True:=eq_true (by rw [AV.lt]<;>simp)
theorem znf:AV.nilm.lt m=True:=eq_true (by rw [AV.lt]<;>simp)
theorem zng:AV.nilf.lt m=True:=eq_true (by rw [AV.lt]<;>simp)
theorem znh:AV.nili.lt m=True:=eq_true (by rw [AV.lt]<;>simp)
theorem zni:AV.junk.lt m=True:=eq_true (by rw [AV.lt]<;>simp)
theorem znj:(AV.ptr i j).lt m=(i<m):=by rw [AV.lt]
theorem znk:(AV.mapv i).lt m=(i<m):=by rw [AV.lt]
theorem znl:(AV.ms i j l n).lt m=(i<m):=by rw [AV.lt]
theorem znm:(AV.iface t v).lt m=v.lt m:=by rw [AV.lt]
def ltL (m:Nat):List AV→Prop
 |[]=>True
 |v::vs=>v.lt m∧ltL m vs
theorem ltL_iff {m:Nat}:∀ {vs:List AV},ltL m vs↔∀ (j:Nat) (hj:j<vs.length),(vs[j]).lt m
 |[]=>⟨fun _ j hj=>absurd hj (by simp),fun _=>trivial⟩
 |v::vs=>⟨fun h j hj=>by
   cases j with
   |zero=>exact h.1
   |succ j=>exact ltL_iff.1 h.2 j (by simpa using hj),fun h=>⟨h 0 (by simp),ltL_iff.2 fun j hj=>h (j+1) (by simpa using hj)⟩⟩
theorem znn:(AV.agg vs).lt m=ltL m vs:=by rw [AV.lt];exact propext ltL_iff.symm
theorem zno:(AV.tup vs).lt m=ltL m vs:=by rw [AV.lt];exact propext ltL_iff.symm
theorem znp:(AV.cptr vs).lt m=ltL m vs:=by rw [AV.lt];exact propext ltL_iff.symm
theorem znq:ltL m (v::vs)=(v.lt m∧ltL m vs):=(rfl)
theorem znr:ltL m []=True:=(rfl)
end
theorem aS {n sz:Nat} {m:Mark} {xs:List AV}:(AV.slice m sz xs).lt n=((∀ id,m=.own id→id<n)∧ltL n xs):=by
 rw [AV.lt];exact propext ⟨fun h=>⟨h.1,ltL_iff.2 h.2⟩,fun h=>⟨h.1,ltL_iff.1 h.2⟩⟩
theorem ag {H:AHeap} {a b:Nat} (h:H.Closed):(H.push (.buf a b)).Closed:=by
 intro i cs hi j hj
 rw [zld] at hi
 split at hi
 ·cases hi
 ·exact AV.lt_mono (by rw [zla];omega) _ (h i cs hi j hj)
theorem ae {H:AHeap} {cs:List AV} (h:H.Closed) (hc:ltL (H.nx+1) cs):(H.push (.cells cs)).Closed:=by
 intro i cs' hi j hj
 rw [zld] at hi
 split at hi
 ·cases hi;exact ltL_iff.1 hc j hj
 ·exact AV.lt_mono (by rw [zla];omega) _ (h i cs' hi j hj)
theorem aa {H:AHeap} {i a b:Nat} (h:H.Closed):(H.set i (.buf a b)).Closed:=by
 intro k cs hi j hj
 rw [aB] at hi
 split at hi
 ·split at hi<;>cases hi
 ·exact h k cs hi j hj
theorem ai {H:AHeap} {i:Nat} {cs:List AV} (h:H.Closed) (hc:ltL H.nx cs):(H.set i (.cells cs)).Closed:=by
 intro k cs' hi j hj
 rw [aB] at hi
 split at hi
 ·split at hi
  ·cases hi;exact ltL_iff.1 hc j hj
  ·cases hi
 ·exact h k cs' hi j hj
theorem zns {H:AHeap} {a b:Nat} (h:H.Closed):(H.push (.buf a b)).Closed=True:=eq_true (ag h)
theorem znt {H:AHeap} {a b c d:Nat} (h:H.Closed):((H.push (.buf a b)).push (.buf c d)).Closed=True:=eq_true (ag (ag h))
theorem znu {H:AHeap} {a b c d e f:Nat} (h:H.Closed):(((H.push (.buf a b)).push (.buf c d)).push (.buf e f)).Closed=True:=eq_true (ag (ag (ag h)))
theorem Ox {H:AHeap} {i a b:Nat} (h:H.Closed):(H.set i (.buf a b)).Closed=True:=eq_true (aa h)
theorem znv {H:AHeap} {i:Nat} {cs:List AV} (h:H.Closed) (hc:ltL H.nx cs):(H.set i (.cells cs)).Closed=True:=eq_true (ai h hc)
theorem zmb {H:AHeap} {cs:List AV} (h:H.Closed) (hc:ltL (H.nx+1) cs):(H.push (.cells cs)).Closed=True:=eq_true (ae h hc)
theorem zmc {H:AHeap} {cs ds:List AV} (h:H.Closed) (hc:ltL (H.nx+1) cs) (hd:ltL (H.nx+1+1) ds):((H.push (.cells cs)).push (.cells ds)).Closed=True:=eq_true (ae (ae h hc) hd)
theorem zmd {H:AHeap} {cs ds es:List AV} (h:H.Closed) (hc:ltL (H.nx+1) cs) (hd:ltL (H.nx+1+1) ds) (he:ltL (H.nx+1+1+1) es):(((H.push (.cells cs)).push (.cells ds)).push (.cells es)).Closed=True:=eq_true (ae (ae (ae h hc) hd) he)
theorem zme {H:AHeap} {cs:List AV} {a b:Nat} (h:H.Closed) (hc:ltL (H.nx+1) cs):((H.push (.cells cs)).push (.buf a b)).Closed=True:=eq_true (ag (ae h hc))
theorem zmf {H:AHeap} {q1 q2 q3 o1:AObj}:(((H.push q1).push q2).push q3).Le ((((H.push q1).push q2).push q3).push o1)=True:=eq_true ((AHeap.Le.refl (((H.push q1).push q2).push q3)).push _)
theorem zmg {H:AHeap} {q1 q2 q3 o1 o2:AObj}:(((H.push q1).push q2).push q3).Le (((((H.push q1).push q2).push q3).push o1).push o2)=True:=eq_true (((AHeap.Le.refl (((H.push q1).push q2).push q3)).push _).push _)
theorem zmh {H:AHeap} {q1 q2 q3 o1 o2 o3:AObj}:(((H.push q1).push q2).push q3).Le ((((((H.push q1).push q2).push q3).push o1).push o2).push o3)=True:=eq_true ((((AHeap.Le.refl (((H.push q1).push q2).push q3)).push _).push _).push _)
theorem AHeap.Le.del {H H':AHeap} (h:H.Le H') {i:Nat} (hi:H.nx≤i):H.Le (H'.del i):=⟨h.nx,fun j x hj=>by
 have hlt:=AHeap.get_lt hj
 rw [iN,if_neg (by omega)];exact h.get j x hj⟩
theorem kc {H:AHeap} {i:Nat}:(H.del i).nx=H.nx:=(rfl)
theorem np {H:AHeap} {i j:Nat}:(H.del i).get j=if j=i then none else H.get j:=iN H i j
theorem yD {H:AHeap} {i j:Nat}:aR (H.del i) j=if j=i then none else aR H j:=by
 unfold aR
 rw [np]
 by_cases h:j=i
 ·simp [h]
 ·simp [h]
theorem aq {H:AHeap} {i:Nat} (h:H.Closed):(H.del i).Closed:=by
 intro k cs hk j hj
 rw [np] at hk
 split at hk
 ·cases hk
 ·exact h k cs hk j hj
theorem cD {i n:Nat} (h:i<n):(i=n)=False∧(n=i)=False∧(i=n+1)=False∧(n+1=i)=False∧(i=n+1+1)=False∧(n+1+1=i)=False∧(i=n+1+1+1)=False∧(n+1+1+1=i)=False∧(i=n+1+1+1+1)=False∧(n+1+1+1+1=i)=False∧(i=n+1+1+1+1+1)=False∧(n+1+1+1+1+1=i)=False∧(i=n+1+1+1+1+1+1)=False∧(n+1+1+1+1+1+1=i)=False∧(i=n+1+1+1+1+1+1+1)=False∧(n+1+1+1+1+1+1+1=i)=False∧(i=n+1+1+1+1+1+1+1+1)=False∧(n+1+1+1+1+1+1+1+1=i)=False:=by
 refine ⟨?_,?_,?_,?_,?_,?_,?_,?_,?_,?_,?_,?_,?_,?_,?_,?_,?_,?_⟩<;>exact eq_false (by omega)
def bys (l:List UInt8):List AV:=l.map bZ
theorem zlg {l:List UInt8}:(bys l).length=l.length:=by simp [bys]
def unb (l:List AV):List UInt8:=l.map byteOf
def isB (l:List AV):Prop:=l=bys (unb l)
theorem zlh:bys []=[]:=rfl
theorem zli {l:List UInt8} {n:Nat}:(bys l).take n=bys (l.take n):=by simp [bys]
theorem zlj {l:List UInt8} {n:Nat}:(bys l).drop n=bys (l.drop n):=by simp [bys]
theorem zlk {l m:List UInt8}:bys l++bys m=bys (l++m):=by simp [bys]
theorem zll {b:UInt8} {l:List UInt8}:bZ b::bys l=bys (b::l):=rfl
theorem zlm {b:UInt8}:[bZ b]=bys [b]:=rfl
theorem zlo {l:List UInt8}:(bys l).isEmpty=l.isEmpty:=by cases l<;>rfl
theorem zmp {l:List UInt8}:(bys l=[])=(l=[]):=by cases l<;>simp [bys]
theorem zmq {l m:List UInt8}:(bys l=bys m)=(l=m):=by
 refine propext ⟨fun h=>?_,fun h=>by rw [h]⟩
 have h2:=congrArg (List.map byteOf) h
 simp only [bys,List.map_map] at h2
 have:byteOf ∘ bZ=id:=funext fun b=>by simp [byteOf,bZ]
 rwa [this,List.map_id,List.map_id] at h2
theorem zlp {l:List UInt8}:(bys l).flatMap AV.cells=bys l:=by
 unfold bys
 induction l with
 |nil=>rfl
 |cons a l ih=>simp only [List.map_cons,List.flatMap_cons,ih];rfl
theorem zlq {n:Nat}:(List.replicate n [AV.int .u8 0]).flatten=bys (List.replicate n (0:UInt8)):=by
 unfold bys
 induction n with
 |zero=>rfl
 |succ n ih=>simp only [List.replicate_succ,List.flatten_cons,ih];rfl
theorem zlr {l:List UInt8}:(∀ z∈bys l,bM z.cells=true)=True:=eq_true fun z hz=>by
 obtain ⟨b,_,rfl⟩:=List.mem_map.1 hz
 rfl
theorem zln {l:List UInt8}:bM (bys l)=true:=by
 unfold bys bM
 rw [List.all_map]
 exact List.all_eq_true.2 fun x _=>rfl
theorem zls {l:List UInt8}:(∀ z∈bys l,zC z)=True:=eq_true fun z hz=>by
 obtain ⟨b,_,rfl⟩:=List.mem_map.1 hz
 exact ⟨_,rfl⟩
theorem xA {b:UInt8}:byteOf (bZ b)=b:=by simp [byteOf,bZ]
theorem zlt {l:List UInt8}:(bys l).map byteOf=l:=by
 unfold bys
 rw [List.map_map]
 have:byteOf ∘ bZ=id:=funext fun b=>xA
 rw [this,List.map_id]
theorem zlv {l:List UInt8}:unb (bys l)=l:=zlt
theorem zlw:unb []=[]:=rfl
theorem zlx {l:List UInt8}:isB (bys l)=True:=eq_true (by show bys l=bys (unb (bys l));rw [zlv])
theorem zly:isB []=True:=eq_true rfl
theorem zh {l:List AV} (h:isB l):∃ xs,l=bys xs:=⟨_,h⟩
theorem zlu {l:List UInt8}:l.map bZ=bys l:=rfl
theorem Ay {l:List UInt8} {i:Nat} (h:i<l.length):(bys l).getD i .junk=bZ (l.getD i 0):=by
 simp [bys,List.getD_eq_getElem?_getD,h]
theorem zmo {n:Nat} {m:Mark} {l:List UInt8}:(AV.slice m 1 (bys l)).lt n=∀ id,m=.own id→id<n:=by
 rw [AV.lt]
 refine propext ⟨fun h=>h.1,fun h=>⟨h,fun j hj=>?_⟩⟩
 simp only [bys,List.getElem_map,bZ]
 rw [AV.lt]<;>simp
theorem zma {b:UInt8}:(bZ b).one=true:=rfl
theorem zlz {b:UInt8}:(bZ b).cells=[bZ b]:=rfl
theorem qc (xs vs:List AV):∀ (n:Nat),n+vs.length≤xs.length→splice xs n vs=xs.take n++vs++xs.drop (n+vs.length):=by
 induction xs generalizing vs with
 |nil =>
  intro n h
  simp only [List.length_nil,Nat.le_zero,Nat.add_eq_zero_iff,List.length_eq_zero_iff] at h
  obtain ⟨rfl,rfl⟩:=h;rfl
 |cons a xs ih =>
  intro n h
  cases n with
  |zero =>
   cases vs with
   |nil=>simp [splice]
   |cons v vs =>
    simp only [splice]
    rw [ih vs 0 (by simp at h ⊢;omega)]
    simp
  |succ n =>
   simp only [splice]
   rw [ih vs n (by simp at h ⊢;omega)]
   simp [Nat.add_right_comm]
theorem zmm {xs ys:List UInt8} {n:Nat} (h:n+ys.length≤xs.length):splice (bys xs) n (bys ys)=bys (xs.take n++ys++xs.drop (n+ys.length)):=by
 rw [qc _ _ _ (by simpa [bys] using h)];simp [bys]
theorem zmn {n:Nat} {l:List UInt8} (h:n≤l.length):ce 1 n (bys l)=bys (l.take n):=by
 unfold bys
 induction n generalizing l with
 |zero=>simp [ce]
 |succ n ih =>
  cases l with
  |nil=>simp at h
  |cons a l =>
   simp only [ce,if_true,List.map_cons,List.drop_succ_cons,List.drop_zero,List.take_succ_cons]
   rw [ih (by simpa using h)]
   rfl
theorem wrap_i64 {n:Int} (h : -9223372036854775808≤n) (h2:n<9223372036854775808):IntKind.wrap .i64 n=n:=yn h (by omega)
theorem cV {n:Int} (h:0≤n) (h2:n<18446744073709551616):IntKind.wrap .u64 n=n:=by
 have:IntKind.wrap .u64 n=n % 18446744073709551616:=by simp [IntKind.wrap,IntKind.signed,IntKind.bits]
 rw [this];omega
theorem EntOk.pure {P:Program} {f:FuncId} {p:List AV→AHeap→(AV→Prop)→Prop} (h:∀ args H K,p args H K→∃ x,K x∧ACalls P f args H (.ret x) H):EntOk P f (Ent.pure p) :=
 ⟨fun _=>h,fun h=>(by cases h),fun q h=>(by cases h)⟩
theorem EntOk.effect {P:Program} {f:FuncId} {e:List AV→AHeap→(AEnd→AHeap→Prop)→Prop} (h:∀ args H K,e args H K→∃ x H1,K x H1∧ACalls P f args H x H1):EntOk P f (Ent.effect e) :=
 ⟨fun h=>(by cases h),fun _=>h,fun q h=>(by cases h)⟩
theorem EntOk.some {P:Program} {f:FuncId} {q:List AV→AHeap→(AV→AHeap→Prop)→Prop} (h:∀ args H K,q args H K→ACallsP P f args H K):EntOk P f (Ent.some q) :=
 ⟨fun h=>(by cases h),fun _ _ _ _ h=>h.elim,fun q' h'=>by cases h';exact h⟩
theorem TblOk.nil {P:Program}:TblOk P []:=fun f e h=>by cases h
theorem TblOk.cons {P:Program} {Ω:Tbl} {f:FuncId} {e:Ent} (h:EntOk P f e) (k:TblOk P Ω):TblOk P ((f,e)::Ω):=fun g x hg=>by
 unfold pY at hg
 split at hg
 ·rename_i he;cases hg;subst he;exact h
 ·exact k g x hg
theorem O9 {a:Nat}:(a=a+1+1)=False:=eq_false (by omega)
theorem O6 {a:Nat}:(a+1+1=a)=False:=eq_false (by omega)
theorem Pg {a:Nat}:(a=a+1+1+1)=False:=eq_false (by omega)
theorem OX {a:Nat}:(a+1+1+1=a)=False:=eq_false (by omega)
theorem O7 {a:Nat}:(a=a+1+1+1+1)=False:=eq_false (by omega)
theorem OU {a:Nat}:(a+1+1+1+1=a)=False:=eq_false (by omega)
theorem OZ {a:Nat}:(a=a+1+1+1+1+1)=False:=eq_false (by omega)
theorem O4 {a:Nat}:(a+1+1+1+1+1=a)=False:=eq_false (by omega)
theorem Pf {a:Nat}:(a=a+1+1+1+1+1+1)=False:=eq_false (by omega)
theorem OW {a:Nat}:(a+1+1+1+1+1+1=a)=False:=eq_false (by omega)
theorem O5 {a:Nat}:(a=a+1+1+1+1+1+1+1)=False:=eq_false (by omega)
theorem OV {a:Nat}:(a+1+1+1+1+1+1+1=a)=False:=eq_false (by omega)
theorem Pi {a:Nat}:(a=a+1+1+1+1+1+1+1+1)=False:=eq_false (by omega)
theorem Pc {a:Nat}:(a+1+1+1+1+1+1+1+1=a)=False:=eq_false (by omega)
theorem O3 {a:Nat}:(a=a+1+1+1+1+1+1+1+1+1)=False:=eq_false (by omega)
theorem OY {a:Nat}:(a+1+1+1+1+1+1+1+1+1=a)=False:=eq_false (by omega)
theorem zig {a:Nat}:(a=a+1+1+1+1+1+1+1+1+1+1)=False:=eq_false (by omega)
theorem zih {a:Nat}:(a+1+1+1+1+1+1+1+1+1+1=a)=False:=eq_false (by omega)
theorem zii {a:Nat}:(a=a+1+1+1+1+1+1+1+1+1+1+1)=False:=eq_false (by omega)
theorem zij {a:Nat}:(a+1+1+1+1+1+1+1+1+1+1+1=a)=False:=eq_false (by omega)
theorem zik {a:Nat}:(a=a+1+1+1+1+1+1+1+1+1+1+1+1)=False:=eq_false (by omega)
theorem zil {a:Nat}:(a+1+1+1+1+1+1+1+1+1+1+1+1=a)=False:=eq_false (by omega)
theorem Co {H' H1:AHeap} (v:AV):wk1 H' H1 v v:=by
 cases v<;>first|rfl|skip
 exact .inl ⟨.inr rfl,rfl,rfl⟩
theorem BG {H' H1:AHeap}:∀ (vs:List AV),wkL H' H1 vs vs
 |[]=>trivial
 |v::vs=>⟨Co v,BG vs⟩
theorem B6 {H' H1:AHeap} (v:AV):wk2 H' H1 v v:=by
 cases v<;>first|exact BG _|(simp only [wk2];exact Co _)
theorem xK {H' H1:AHeap}:∀ (vs:List AV),aj H' H1 vs vs
 |[]=>trivial
 |v::vs=>⟨B6 v,xK vs⟩
theorem zmk {H' H1:AHeap} {v:AV}:wk H' H1 v v=True:=eq_true (by cases v<;>first|exact xK _|(simp only [wk];exact B6 _))
theorem zml {n:Nat} {l:List UInt8}:ltL n (bys l)=True:=eq_true (ltL_iff.2 fun j hj=>by
 simp only [bys,List.getElem_map,bZ]
 rw [AV.lt]<;>simp)
theorem zog:((0:Nat):Int)=0:=rfl
theorem zmj {m:Mark} {sz n:Nat}:(AV.slice m sz []).lt n=∀ id,m=.own id→id<n:=by
 rw [AV.lt];exact propext ⟨fun h=>h.1,fun h=>⟨h,fun j hj=>absurd hj (by simp)⟩⟩
theorem zkz {P:Program} {H1 H:AHeap} {fr:Fr} {x:AV} {t s:Nat} {ty:TypeId}:fQ P [.cell t ty,.tmp s] (.ret x) H1 fr H=match zjc P ty (Fr.get fr t) H with|some r=>r.c∧af H (.tup [r.v,Fr.get fr s]) H1 x|none=>False:=by
 exact X41
end Go.AL
