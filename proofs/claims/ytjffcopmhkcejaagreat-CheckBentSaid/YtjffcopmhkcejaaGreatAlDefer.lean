/- Lemmas of the proof; no condition. -/
import Derived.Test.YtjffcopmhkcejaaGreatAlSound17
import Derived.Recover
set_option linter.all false
set_option linter.unusedSectionVars false
namespace Go.AL
def ADefer(P:Program)(g:FuncId)(caps:Wz)(H:AHeap)(e:Option AV)(H2:AHeap):Prop :=
 ∀ w γ vs,State w γ H→RelA w γ H caps vs →
  match e with
  |none=>CallsD P g vs .returning w fun en u' w'=>(∃ r,en=.returned r)∧u'=.returning∧∃ γ',State w' γ' H2∧Ext w γ H w' γ' H2
  |some x=>∀ v,Rel w γ H x v→CallsD P g vs (.panicking [{v,recovered:=false}]) w fun en u' w'=>(∃ r,en=.returned r)∧u'=.panicking [{v,recovered:=true}]∧∃ γ',State w' γ' H2∧Ext w γ H w' γ' H2
def C8(n0:Nat)(H2:AHeap)(T:Nat→List (List Nat):=aC []):Conts where
 T:=T
 n0:=n0
 n:=fun _ H=>H2.Le H∧H2.Closed∧n0≤H2.nx
 r:=fun _ H=>H2.Le H∧H2.Closed∧n0≤H2.nx
 x:=fun _ _ _=>False
 p:=fun _ _ _=>False
section
variable {P:Program} {Ω:Tbl}
def RG{args:Wz}{w:World}{γ:cQ}{H:AHeap}{vs:Array Value}{n:Nat}(hs:State w γ H)(hr:RelA w γ H args vs)(ha:args.length≤n) :
 Inv w γ H [] n w γ H (Fr.get (s5 0 args)) {tmps:=vs++Array.replicate (n-vs.size) undef,defers:=[]}:=by
 refine⟨hs,Ext.refl _ _ _,fun t=>?_,?_,rfl⟩
 ·rw[tc,if_pos (Nat.zero_le _),Nat.sub_zero]
  by_cases ht:t<args.length
  ·obtain⟨u,hu,hru⟩:=hr.2 t ht
   have hlt:t<vs.size:=by rw[hr.1];exact ht
   rw[List.getElem?_eq_getElem ht,Option.getD_some,Array.getD_eq_getD_getElem?,Array.getElem?_append_left hlt,hu]
   exact hru
  ·rw[List.getElem?_eq_none Xa,Option.getD_none,Rel];trivial
 ·simp[hr.1];omega
theorem RelA.lt{args:Wz}{w:World}{γ:cQ}{H:AHeap}{vs:Array Value}(hr:RelA w γ H args vs):∀ x∈args,x.lt H.nx:=fun x hx=>by
 obtain⟨j,hj,rfl⟩:=List.getElem_of_mem hx
 obtain⟨u,_,hru⟩:=hr.2 j hj
 exact Rel.lt _ _ hru
theorem ADefer.of_aw(hm:P.follows .mixedOrders=true)(hΩ:TblOk P Ω){g:FuncId}{gn:Func}{C:Code}{id a b:Nat}{t1 t2:TypeId}{p1 p2:String}{e1 e2:Array Edge}(hf:P.funcs[g]?=some gn)
 (hb:gn.body=some (.seq (.region id #[⟨some a,.call ⟨.builtin .recover,#[],#[]⟩,t1,p1,e1,none⟩,⟨some b,.assign (.tmp a),t2,p2,e2,none⟩] false) C)) (hrs:gn.results.toList=[]) {T:Nat→List (List Nat)}
 (hok:jJ P Ω T gn.ntmps C=true) (ha:a<gn.ntmps) (hb':b<gn.ntmps) {caps:Wz} (hc:caps.length≤gn.ntmps) {H H2:AHeap} {e:Option AV}
 (h:H.Closed→(∀ x∈caps,x.lt H.nx)→aw P Ω C (C8 H.nx H2 T) ((b,e.getD .nili)::(a,e.getD .nili)::s5 0 caps) H):ADefer P g caps H e H2:=by
 intro w γ vs hs hr
 replace h:=h hs.closed hr.lt
 have main:∀(u u':FrameMode)(c0:Frame)(cs:List Frame)(v:Value),Rel w γ H (e.getD .nili) v →
  C.wpS P (bodyPostS P gn c0 cs fun en u'' w'=>(∃ r,en=.returned r)∧u''=u'∧∃ γ',State w' γ' H2∧Ext w γ H w' γ' H2)
   (({tmps:=vs++Array.replicate (gn.ntmps-vs.size) undef,defers:=[]}:Act).put (some a) v |>.put (some b) v) ({c0 with mode:=u' }::cs) w:=by
  intro u u' c0 cs v hv
  refine wpS_of_wp ?_
  have hi0:=RG (n:=gn.ntmps) hs hr hc
  have hi1 := hi0.put (o := ⟨some a, .alloc 0, 0, "", #[], none⟩) (x := e.getD .nili) (v := v) (by simp [mC, ha]) hs (Ext.refl _ _ _) hv
  have hi2 := hi1.put (o := ⟨some b, .alloc 0, 0, "", #[], none⟩) (x := e.getD .nili) (v := v) (by simp [mC, hb']) hs (Ext.refl _ _ _) hv
  rw[← gZ,← gZ]at hi2
  refine jw (ds:=[]) hm hΩ C (C8 H.nx H2 T) _ hok ⟨rfl,?_,?_,?_,?_⟩ _ _ _ _ _ hi2 h
  all_goals clear h
  case refine_3=>intro i fr H' w' γ' a' _ h5;exact h5.elim
  case refine_4=>intro fr x v H' w' γ' a' _ _ h5;exact h5.elim
  all_goals
   intro fr H' w' γ' a' hi h5
   obtain⟨g1,g2,g3⟩:=h5
   obtain⟨r,hr,_⟩:=mi hi.state hi.sim (fn:=gn) (c:=True) (xs:=[]) (by rw[hrs];rfl) trivial
   exact⟨hi.defers,u',rfl,r,hr,⟨r,rfl⟩,rfl,γ',hi.state.drop g1 g2,hi.ext.drop g1 g3⟩
 cases e with
 |none =>
  refine callsD_of_wpS hf hb fun c0 cs hu=>wpS_seq (wpS_region ?_)
  have hc0:({c0 with mode:=FrameMode.returning}:Frame)=c0:=by rw[← hu]
  have:=main .returning .returning c0 cs .nilIface (by show Rel w γ H .nili _;rw[Rel])
  rw[hc0]at this
  have hrec:recoverD (c0::cs)=none:=by simp[recoverD,hu]
  have hsz:vs.size+(gn.ntmps-vs.size)=gn.ntmps:=by rw[hr.1];omega
  simp[wpOpsS,Region.wanted,execOp,resolve,invoke,builtin,Oper.upon,List.range,List.range.loop,Act.put,Act.eval,hrec,hsz,ha,Exit.thenS]
  simpa[Act.put]using this
 |some x =>
  intro v hv
  refine callsD_of_wpS hf hb fun c0 cs hu=>wpS_seq (wpS_region ?_)
  have:=main (.panicking [{v,recovered:=false}]) (.panicking [{v,recovered:=true}]) c0 cs v hv
  have hrec:recoverD (c0::cs)=some (v,{c0 with mode:=.panicking [{v,recovered:=true}]}::cs):=by simp[recoverD,hu]
  have hsz:vs.size+(gn.ntmps-vs.size)=gn.ntmps:=by rw[hr.1];omega
  simp[wpOpsS,Region.wanted,execOp,resolve,invoke,builtin,Oper.upon,List.range,List.range.loop,Act.put,Act.eval,hrec,hsz,ha,Exit.thenS]
  simpa[Act.put]using this
def Be(P:Program)(rs:List ResultVar)(H1:AHeap)(x:AV)(g:FuncId)(caps:Wz)(e:Option AV)(fr:Fr)(H:AHeap):Prop :=
 ∃ H2,ADefer P g caps H e H2∧match n8 P fr H2 rs with
  |some (c,vs)=>c∧ag H2 (one vs) H1 x
  |none=>False
def wL(P:Program)(rs:List ResultVar)(H1:AHeap)(x:AV)(g:FuncId)(caps:Wz)(n0:Nat)(T:Nat→List (List Nat):=aC []):Conts where
 T:=T
 n0:=n0
 n:=fun fr H=>Be P rs H1 x g caps none fr H
 r:=fun fr H=>Be P rs H1 x g caps none fr H
 x:=fun _ _ _=>False
 p:=fun fr v H=>Be P rs H1 x g caps (some v) fr H
def DG(P:Program)(Ω:Tbl)(C:Code)(rs:List ResultVar)(H1:AHeap)(x:AV)(g:FuncId)(d:Nat)(caps:List Nat)(n0:Nat)(T:Nat→List (List Nat):=aC []):Conts where
 T:=T
 n0:=n0
 n:=fun fr H=>aw P Ω C (wL P rs H1 x g (caps.map (Fr.get fr)) H.nx T) ((d,.func (.func g) [] (caps.map (Fr.get fr)))::fr) H
 r:=fun _ _=>False
 x:=fun _ _ _=>False
 p:=fun _ _ _=>False
theorem ACalls.of_defer(hm:P.follows .mixedOrders=true)(hΩ:TblOk P Ω){f:FuncId}{fn:Func}{A C:Code}{id d:Nat}{g:FuncId}{gn:Func}{gc:Code}{caps:List Nat}{t1 t2:TypeId}{p1 p2:String}{e1 e2:Array Edge}
 (hf : P.funcs[f]? = some fn) (hname : (fn.name == "runtime.NumGoroutine") = false) (hg : P.funcs[g]? = some gn) (hgname : (gn.name == "runtime.NumGoroutine") = false) (hgb : gn.body = some gc)
 (hb:fn.body=some (.seq A (.seq (.region id #[⟨some d,.makeFunc (.func g) #[] (caps.map Operand.tmp).toArray,t1,p1,e1,none⟩,⟨none,.defer ⟨.value (.tmp d),#[],#[]⟩,t2,p2,e2,none⟩] false) C)))
 {rs:List ResultVar} (hrs:fn.results.toList=rs) {T:Nat→List (List Nat)} (hokA:jJ P Ω T fn.ntmps A=true) (hokC:jJ P Ω T fn.ntmps C=true) (hd:d<fn.ntmps) {args:Wz} (ha:args.length≤fn.ntmps)
 {H H1:AHeap} {x:AV} (hnx:H.nx≤H1.nx)
 (h:H.Closed→(∀ x∈args,x.lt H.nx)→aw P Ω A (DG P Ω C rs H1 x g d caps H.nx T) (s5 0 args) H):ACalls P f args H (.ret x) H1:=by
 subst hrs
 intro w γ vs hs hr
 replace h:=h hs.closed hr.lt
 rw[oS hf hname hb]
 refine calls_of_wp_defers hf hb (wp_seq ?_)
 refine jw (ds:=[]) hm hΩ A _ _ hokA ⟨rfl,?_,?_,?_,?_⟩ _ _ _ _ _ (RG hs hr ha) h
 all_goals clear h
 case refine_2=>intro fr H' w' γ' a' _ h5;exact h5.elim
 case refine_3=>intro i fr H' w' γ' a' _ h5;exact h5.elim
 case refine_4=>intro fr x v H' w' γ' a' _ _ h5;exact h5.elim
 intro fr H' w' γ' a' hi h5
 refine wp_seq (wp_region ?_)
 have hsz:d<a'.tmps.size:=by rw[hi.size];exact hd
 let fv:Value:=.func (.func g) #[] (caps.map fun t=>a'.tmps.getD t undef).toArray
 have hrun:∀ Q:Exit→Act→World→Prop,Q .normal {tmps:=a'.tmps.setIfInBounds d fv,defers:=[{target:=.fn (.func g) (caps.map fun t=>a'.tmps.getD t undef).toArray,args:=#[]}]} w' →
  wpOps P #[⟨some d,.makeFunc (.func g) #[] (caps.map Operand.tmp).toArray,t1,p1,e1,none⟩,⟨none,.defer ⟨.value (.tmp d),#[],#[]⟩,t2,p2,e2,none⟩] Q (List.range 2) a' w':=by
  intro Q hQ
  have hdef:=hi.defers
  have hmap:(List.map (a'.eval∘Operand.tmp) caps)=caps.map fun t=>a'.tmps.getD t undef:=rfl
  simp[wpOps,Region.wanted,Oper.wp,execOp,resolve,Deferred.ofValue,Oper.upon,List.range,List.range.loop,Act.put,Act.eval,hsz,hdef,Instr.makeFunc,hmap]
  exact .inl (.inl (by simpa[fv]using hQ))
 refine hrun _ ?_
 show Code.wp P C (bodyPostD P fn _) _ w'
 have hcaps:∀{w2 γ2 H2},Ext w' γ' H' w2 γ2 H2→RelA w2 γ2 H2 (caps.map (Fr.get fr)) (caps.map fun t=>a'.tmps.getD t undef).toArray:=fun he=>by
  refine⟨Xc,fun j hj=>?_⟩
  have hj':j<caps.length:=by simpa using hj
  refine⟨a'.tmps.getD caps[j] undef,by simp[hj'],?_⟩
  rw[List.getElem_map]
  exact(hi.sim caps[j]).ext he
 have hfv:Rel w' γ' H' (.func (.func g) [] (caps.map (Fr.get fr))) fv:=by
  rw[Rel]
  refine⟨#[],_,rfl,rfl,Xc,fun j hj=>absurd hj Xc,(hcaps (Ext.refl _ _ _)).2⟩
 have hi2:Inv w' γ' H' [{target:=.fn (.func g) (caps.map fun t=>a'.tmps.getD t undef).toArray,args:=#[]}] fn.ntmps w' γ' H' (Fr.get ((d,.func (.func g) [] (caps.map (Fr.get fr)))::fr))
  {tmps:=a'.tmps.setIfInBounds d fv,defers:=[{target:=.fn (.func g) (caps.map fun t=>a'.tmps.getD t undef).toArray,args:=#[]}]}:=by
  have hp := hi.put (o := ⟨some d, .alloc 0, 0, "", #[], none⟩) (x := .func (.func g) [] (caps.map (Fr.get fr))) (v := fv) (by simp [mC, hd]) hi.state (Ext.refl _ _ _) hfv
  rw[← gZ]at hp
  exact⟨hi.state,Ext.refl _ _ _,hp.sim,by simpa using hi.size,rfl⟩
 have hinv:∀ w2,(invoke (.fn (.func g) (caps.map fun t=>a'.tmps.getD t undef).toArray) #[]).run P w2=.ok (.enter g (caps.map fun t=>a'.tmps.getD t undef).toArray) w2:=fun w2=>by
  show(callFunc g (#[]++_)).run P w2=_
  rw[Array.empty_append]
  exact oS hg hgname hgb _ _
 have fin:∀{e:Option AV}{fr2:Fr}{w2:World}{γ2:cQ}{H2:AHeap}{a2:Act}{v:Value},Inv w' γ' H' [{target:=.fn (.func g) (caps.map fun t=>a'.tmps.getD t undef).toArray,args:=#[]}] fn.ntmps w2 γ2 H2 (Fr.get fr2) a2 →
  (∀ y,e=some y→Rel w2 γ2 H2 y v)→Be P fn.results.toList H1 x g (caps.map (Fr.get fr)) e fr2 H2 →
  Leaves P fn a2.tmps (fun en w3=>∃ γ3,State w3 γ3 H1∧Ext w γ H w3 γ3 H1∧DS w3 γ3 H1 (.ret x) en) a2.defers (match e with|none=>.returning|some _=>.panicking [{v,recovered:=false}]) w2:=by
  intro e fr2 w2 γ2 H2 a2 v hi3 hv hf3
  rw[hi3.defers]
  obtain⟨H3,hD,hres⟩:=hf3
  have hc:=hD w2 γ2 _ hi3.state (hcaps hi3.ext)
  have done:∀{w3 γ3},State w3 γ3 H3→Ext w2 γ2 H2 w3 γ3 H3→∃ v,(results fn a2.tmps).run P w3=.ok v w3∧∃ γ3,State w3 γ3 H1∧Ext w γ H w3 γ3 H1∧DS w3 γ3 H1 (.ret x) (.returned v):=by
   intro w3 γ3 h3 he3
   split at hres
   ·rename_i c ys hl
    obtain⟨hc2,g1,g2,g3,g4⟩:=hres
    obtain⟨v,hv,hrel⟩:=mi h3 (hi3.sim.ext he3) hl hc2
    exact⟨v,hv,γ3,h3.drop g2 g3,((hi.ext.trans hi3.ext).trans he3).drop g2 hnx,yZ h3 g2 hrel g1 g4⟩
   ·exact hres.elim
  cases e with
  |none =>
   refine⟨Xc,_,_,_,_,rfl,hinv w2,?_⟩
   intro c cs hu
   obtain⟨en,u',w3,frx,⟨⟨r,rfl⟩,rfl,γ3,h3,he3⟩,hcom,hk,hgo⟩:=hc c cs hu
   exact⟨_,_,w3,frx,done h3 he3,hcom,hk,hgo⟩
  |some y =>
   refine⟨Xc,_,_,_,_,rfl,hinv w2,?_⟩
   intro c cs hu
   obtain⟨en,u',w3,frx,⟨⟨r,rfl⟩,rfl,γ3,h3,he3⟩,hcom,hk,hgo⟩:=hc v (hv y rfl) c cs hu
   exact⟨_,_,w3,frx,done h3 he3,hcom,hk,hgo⟩
 refine jw hm hΩ C (wL P fn.results.toList H1 x g (caps.map (Fr.get fr)) H'.nx T) _ hokC ⟨rfl,?_,?_,?_,?_⟩ _ _ _ _ _ hi2 h5
 case refine_3=>intro i fr H' w' γ' a' _ h5;exact h5.elim
 case refine_4 =>
  intro fr2 y v H2 w2 γ2 a2 hi3 hv h6
  exact fin (e:=some y) hi3 (fun z hz=>by cases hz;exact hv) h6
 all_goals
  intro fr2 H2 w2 γ2 a2 hi3 h6
  exact fin (e:=none) (v:=undef) hi3 (fun z hz=>by cases hz) h6
end
end Go.AL
