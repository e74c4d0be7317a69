/- Contracts and plain laws, a part of the proof; no condition of its own. -/
import Derived.Test.YthpglnacipgolaaGreatAlSound17
import Derived.Recover
/- The abstract layer: a function with one deferred closure, which may recover. -/
namespace Go.AL
set_option linter.all false
set_option linter.unusedSectionVars false

/-- the closure's call: the frame below returns, or panics with what is then recovered -/
def ADefer (P:Program) (g:FuncId) (caps:List AV) (H:AHeap) (e:Option AV) (H2:AHeap):Prop :=
  ∀ w γ vs,State w γ H→RelA w γ H caps vs →
    match e with
    | none=>CallsD P g vs .returning w fun en u' w'=>(∃ r,en=.returned r)∧u'=.returning∧∃ γ',State w' γ' H2∧Ext w γ H w' γ' H2
    | some x=>∀ v,Rel w γ H x v→CallsD P g vs (.panicking [{ v,recovered:=false }]) w fun en u' w'=>(∃ r,en=.returned r)∧u'=.panicking [{ v,recovered:=true }]∧∃ γ',State w' γ' H2∧Ext w γ H w' γ' H2

/-- the end of the closure -/
def dEnd (n0:Nat) (H2:AHeap) (T:Nat→List (List Nat):=assoc []):Conts where
  T:=T
  n0:=n0
  n:=fun _ H=>H2.Le H∧H2.Closed∧n0≤H2.nx
  r:=fun _ H=>H2.Le H∧H2.Closed∧n0≤H2.nx
  x:=fun _ _ _=>False
  p:=fun _ _ _=>False

section
variable {P:Program} {Ω:Tbl}

theorem frInv {args:List AV} {w:World} {γ:Conc} {H:AHeap} {vs:Array Value} {n:Nat} (hs:State w γ H) (hr:RelA w γ H args vs) (ha:args.length≤n) :
    Inv w γ H [] n w γ H (Fr.get (frOf 0 args)) { tmps:=vs++Array.replicate (n - vs.size) undef,defers:=[] }:=by
  refine ⟨hs,Ext.refl _ _ _,fun t=>?_,?_,rfl⟩
  · rw [frOf_get,if_pos (Nat.zero_le _),Nat.sub_zero]
    by_cases ht:t<args.length
    · obtain ⟨u,hu,hru⟩:=hr.2 t ht
      have hlt:t<vs.size:=by rw [hr.1];exact ht
      rw [List.getElem?_eq_getElem ht,Option.getD_some,Array.getD_eq_getD_getElem?,Array.getElem?_append_left hlt,hu]
      exact hru
    · rw [List.getElem?_eq_none (by omega),Option.getD_none,Rel];trivial
  · simp [hr.1];omega

theorem RelA.lt {args:List AV} {w:World} {γ:Conc} {H:AHeap} {vs:Array Value} (hr:RelA w γ H args vs):∀ x∈args,x.lt H.nx:=fun x hx=>by
  obtain ⟨j,hj,rfl⟩:=List.getElem_of_mem hx
  obtain ⟨u,_,hru⟩:=hr.2 j hj
  exact Rel.lt _ _ hru

theorem ADefer.of_aw (hm:P.follows .mixedOrders=true) (hΩ:TblOk P Ω) {g:FuncId} {gn:Func} {C:Code} {id a b:Nat} {t1 t2:TypeId} {p1 p2:String} {e1 e2:Array Edge} (hf:P.funcs[g]?=some gn)
    (hb:gn.body=some (.seq (.region id #[⟨some a,.call ⟨.builtin .recover,#[],#[]⟩,t1,p1,e1,none⟩,⟨some b,.assign (.tmp a),t2,p2,e2,none⟩] false) C)) (hrs:gn.results.toList=[]) {T:Nat→List (List Nat)}
    (hok:codeOk P Ω T gn.ntmps C=true) (ha:a<gn.ntmps) (hb':b<gn.ntmps) {caps:List AV} (hc:caps.length≤gn.ntmps) {H H2:AHeap} {e:Option AV}
    (h:H.Closed→(∀ x∈caps,x.lt H.nx)→aw P Ω C (dEnd H.nx H2 T) ((b,e.getD .nili)::(a,e.getD .nili)::frOf 0 caps) H):ADefer P g caps H e H2:=by
  intro w γ vs hs hr
  replace h:=h hs.closed hr.lt
  have main:∀ (u u':FrameMode) (c0:Frame) (cs:List Frame) (v:Value),Rel w γ H (e.getD .nili) v →
      C.wpS P (bodyPostS P gn c0 cs fun en u'' w'=>(∃ r,en=.returned r)∧u''=u'∧∃ γ',State w' γ' H2∧Ext w γ H w' γ' H2)
        (({ tmps:=vs++Array.replicate (gn.ntmps - vs.size) undef,defers:=[] }:Act).put (some a) v |>.put (some b) v) ({ c0 with mode:=u' }::cs) w:=by
    intro u u' c0 cs v hv
    refine wpS_of_wp ?_
    have hi0:=frInv (n:=gn.ntmps) hs hr hc
    have hi1 := hi0.put (o := ⟨some a, .alloc 0, 0, "", #[], none⟩) (x := e.getD .nili) (v := v) (by simp [dstIn, ha]) hs (Ext.refl _ _ _) hv
    have hi2 := hi1.put (o := ⟨some b, .alloc 0, 0, "", #[], none⟩) (x := e.getD .nili) (v := v) (by simp [dstIn, hb']) hs (Ext.refl _ _ _) hv
    rw [← get_put,← get_put] at hi2
    refine aw_sound (ds:=[]) hm hΩ C (dEnd H.nx H2 T) _ hok ⟨rfl,?_,?_,?_,?_⟩ _ _ _ _ _ hi2 h
    all_goals clear h
    case refine_3=>intro i fr H' w' γ' a' _ h5;exact h5.elim
    case refine_4=>intro fr x v H' w' γ' a' _ _ h5;exact h5.elim
    all_goals
      intro fr H' w' γ' a' hi h5
      obtain ⟨g1,g2,g3⟩:=h5
      obtain ⟨r,hr,_⟩:=results_sound hi.state hi.sim (fn:=gn) (c:=True) (xs:=[]) (by rw [hrs];rfl) trivial
      exact ⟨hi.defers,u',rfl,r,hr,⟨r,rfl⟩,rfl,γ',hi.state.drop g1 g2,hi.ext.drop g1 g3⟩
  cases e with
  | none =>
    refine callsD_of_wpS hf hb fun c0 cs hu=>wpS_seq (wpS_region ?_)
    have hc0:({ c0 with mode:=FrameMode.returning }:Frame)=c0:=by rw [← hu]
    have:=main .returning .returning c0 cs .nilIface (by show Rel w γ H .nili _;rw [Rel])
    rw [hc0] at this
    have hrec:recoverD (c0::cs)=none:=by simp [recoverD,hu]
    have hsz:vs.size+(gn.ntmps - vs.size)=gn.ntmps:=by rw [hr.1];omega
    simp [wpOpsS,Region.wanted,execOp,resolve,invoke,builtin,Oper.upon,List.range,List.range.loop,Act.put,Act.eval,hrec,hsz,ha,Exit.thenS]
    simpa [Act.put] using this
  | some x =>
    intro v hv
    refine callsD_of_wpS hf hb fun c0 cs hu=>wpS_seq (wpS_region ?_)
    have:=main (.panicking [{ v,recovered:=false }]) (.panicking [{ v,recovered:=true }]) c0 cs v hv
    have hrec:recoverD (c0::cs)=some (v,{ c0 with mode:=.panicking [{ v,recovered:=true }] }::cs):=by simp [recoverD,hu]
    have hsz:vs.size+(gn.ntmps - vs.size)=gn.ntmps:=by rw [hr.1];omega
    simp [wpOpsS,Region.wanted,execOp,resolve,invoke,builtin,Oper.upon,List.range,List.range.loop,Act.put,Act.eval,hrec,hsz,ha,Exit.thenS]
    simpa [Act.put] using this

end
end Go.AL

