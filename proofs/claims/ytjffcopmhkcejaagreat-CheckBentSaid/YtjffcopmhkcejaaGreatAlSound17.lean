/- Lemmas of the proof; no condition. -/
import Derived.Test.YtjffcopmhkcejaaGreatAlSound15
import Derived.Laws.Sem
import Derived.Scope
import Derived.Deep.LoopGhost
set_option linter.all false
set_option linter.unusedSectionVars false
namespace Go.AL
theorem Ext.drop{w w':World}{γ γ':cQ}{H0 H H':AHeap}(h:Ext w γ H0 w' γ' H)(hl:H'.Le H)(hn:H0.nx≤H'.nx):Ext w γ H0 w' γ' H' where
 os:=h.os
 tape:=h.tape
 output:=h.output
 size:=h.size
 nx:=hn
 block:=h.block
 imm:=fun b e hb hi=>(h.imm b e hb hi).drop hl
 un:=h.un
 none:=fun id hid hn=>by
  exact W19
 keep:=fun id o ho hb=>⟨(h.keep id o ho hb).1,(h.keep id o ho hb).2.drop hl⟩
 bufs:=fun id sz n ho sz' n' h'=>h.bufs id sz n ho sz' n' (hl.get _ _ h')
 bufk:=fun id sz n ho o h'=>h.bufk id sz n ho o (hl.get _ _ h')
section
variable {P:Program} {w:World} {γ:cQ} {H H1:AHeap}
theorem EK(hs:State w γ H)(hl:H1.Le H):∀{xs ys:Wz},wkL H H1 xs ys→ys.length=xs.length∧∀(j:Nat)(hj:j<ys.length),∃ hj':j<xs.length,wk1 H H1 xs[j] ys[j]
 |[],[],_=>⟨rfl,fun j hj=>absurd hj Xc⟩
 |x::xs,y::ys,h=>by
  obtain⟨h1,h2⟩:=EK hs hl h.2
  exact W15
 |[],_::_,h=>h.elim
 |_::_,[],h=>h.elim
def zX(hs:State w γ H)(hl:H1.Le H){x y:AV}{v:Value}(h:Rel w γ H x v)(hw:wk2 H H1 x y)(hlt:y.lt H1.nx):Rel w γ H1 y v:=by
 unfold wk2 at hw
 split at hw
 ·rename_i xs ys
  obtain⟨hlen,hj⟩:=EK hs hl hw
  rw[AV.lt]at hlt
  rw[Rel]at h ⊢
  obtain⟨C,hv,hsz,hc⟩:=h
  refine⟨C,hv,Xa,fun j hjl=>?_⟩
  obtain⟨hj',hw'⟩:=hj j hjl
  obtain⟨u,hu,hr⟩:=hc j hj'
  exact⟨u,hu,uY hs hl hr hw' (hlt j hjl)⟩
 ·exact uY hs hl h hw hlt
theorem z9(hs:State w γ H)(hl:H1.Le H):∀{xs ys:Wz},ay H H1 xs ys→ys.length=xs.length∧∀(j:Nat)(hj:j<ys.length),∃ hj':j<xs.length,wk2 H H1 xs[j] ys[j]
 |[],[],_=>⟨rfl,fun j hj=>absurd hj Xc⟩
 |x::xs,y::ys,h=>by
  obtain⟨h1,h2⟩:=z9 hs hl h.2
  exact W15
 |[],_::_,h=>h.elim
 |_::_,[],h=>h.elim
def yZ(hs:State w γ H)(hl:H1.Le H){x y:AV}{v:Value}(h:Rel w γ H x v)(hw:wk H H1 x y)(hlt:y.lt H1.nx):Rel w γ H1 y v:=by
 unfold wk at hw
 split at hw
 ·rename_i xs ys
  obtain⟨hlen,hj⟩:=z9 hs hl hw
  rw[AV.lt]at hlt
  rw[Rel]at h ⊢
  obtain⟨C,hv,hsz,hc⟩:=h
  refine⟨C,hv,Xa,fun j hjl=>?_⟩
  obtain⟨hj',hw'⟩:=hj j hjl
  obtain⟨u,hu,hr⟩:=hc j hj'
  exact⟨u,hu,zX hs hl hr hw' (hlt j hjl)⟩
 ·exact zX hs hl h hw hlt
def Du(hs:State w γ H){fr:Fr}{a:Act}(hf:SimF w γ H (Fr.get fr) a){r:ResultVar}{c:Prop}{x:AV}(h:rP P fr H r=some (c,x))(hc:c) :
 ∃ v,((match r with|.tmp t=>pure (a.tmps.getD t undef)|.cell b t=>do loadVar t (← asAddr (a.tmps.getD b undef)):Sem Value).run P w)=.ok v w∧Rel w γ H x v:=by
 cases r with
 |tmp t =>
  simp only[rP]at h
  cases h
  exact⟨_,Xc,hf t⟩
 |cell b t =>
  simp only[rP]at h
  cases hl:zjg P t (Fr.get fr b) H with
  |none=>rw[hl]at h;cases h
  |some r =>
   rw[hl]at h;cases h
   have hb:=hf b
   obtain⟨_,v,h1,h4⟩:=sD hs hb hl hc
   have hp:∃ ad,a.tmps.getD b undef=.pointer (some ad):=by
    unfold zjg at hl
    split at hl
    ·rename_i heq;rw[heq,Rel]at hb;obtain⟨_,_,blk,_,hv⟩:=hb;exact⟨_,hv⟩
    ·rename_i heq;rw[heq,Rel]at hb;obtain⟨blk,off,C,ty,fr,hv,_⟩:=hb;exact⟨_,hv⟩
    ·cases hl
   obtain⟨ad,had⟩:=hp
   rw[had]at h1
   refine⟨v,?_,h4⟩
   simp only[had]
   simpa[Instr.loadAt,Instr.sureAddr,asAddr]using h1
end
section
variable {P:Program} {w:World} {γ:cQ} {H:AHeap}
def qO(H:AHeap)(i j:Nat):(H.del i).get j=if j=i then none else H.get j:=by
 unfold AHeap.get AHeap.del
 by_cases h:j=i
 ·simp[h]
 ·simp[h]
end
section
variable {P:Program} {Ω:Tbl} {w0:World} {γ0:cQ} {H0:AHeap} {ds:List Deferred} {n:Nat}
theorem zE{m:Nat}:∀{fr:Fr},ltF m fr→∀ t,(Fr.get fr t).lt m
 |[],_,t=>by simp only[Fr.get];rw[AV.lt]<;>simp
 |(i,v)::l,h,t=>by
  simp only[Fr.get]
  by_cases hi:i=t
  ·rw[if_pos hi];exact h.1
  ·rw[if_neg hi];exact zE h.2 t
theorem AN{H H':AHeap}:∀{fr' fr:Fr},bg H H' fr' fr→∀ t,Fr.get fr' t=.junk∨wk2 H H' (Fr.get fr t) (Fr.get fr' t)
 |[],fr,_,t=>.inl rfl
 |(i,v)::l,fr,h,t=>by
  simp only[Fr.get]
  by_cases hi:i=t
  ·subst hi;rw[if_pos rfl];exact .inr h.1
  ·rw[if_neg hi];exact AN h.2 t
theorem Inv.enterW{fr fr':Fr}{H H':AHeap}{w:World}{γ:cQ}{a:Act}(h:Inv w0 γ0 H0 ds n w γ H (Fr.get fr) a)(he:enterW H0.nx fr H fr' H'):Inv w0 γ0 H0 ds n w γ H' (Fr.get fr') a:=by
 obtain⟨h2,h3,h4,h5,h1⟩:=he
 exact⟨h.state.drop h3 h4,h.ext.drop h3 h2,fun t=>by
  rcases AN h1 t with hj|hj
  ·rw[hj,Rel];trivial
  ·exact zX h.state h3 (h.sim t) hj (zE h5 t),h.size,h.defers⟩
theorem Inv.nilOwn{fr:Fr}{H:AHeap}{w:World}{γ:cQ}{a:Act}(h:Inv w0 γ0 H0 ds n w γ H (Fr.get fr) a){s j sz:Nat}{cs:Wz}(h1:Fr.get fr s=.agg cs)(h2:cs[j]?=some (.slice .nil 1 [])) :
 ∃ γ',Inv w0 γ0 H0 ds n w γ' (H.push (.buf sz 0)) (Fr.get ((s,.agg (cs.set j (.slice (.own H.nx) sz [])))::fr)) a:=by
 have hs:=h.state
 have he:=jC hs (w':=w) rfl rfl rfl (Nat.le_refl _) (fun _ _=>rfl) none (fun b h=>by cases h) (.buf sz 0)
 have hst:=io hs (w':=w) (fun b h=>by cases h) he (fun _ _=>rfl) (.inr (.inl ⟨_,_,rfl⟩))
 refine⟨_,hst,h.ext.trans he,fun t=>?_,h.size,h.defers⟩
 by_cases ht:s=t
 ·subst ht
  have hr:=h.sim s
  rw[h1,Rel]at hr
  obtain⟨C,hv,hsz,hc⟩:=hr
  simp only[Fr.get,if_true]
  rw[Rel]
  refine⟨C,hv,by simpa using hsz,fun k hk=>?_⟩
  have hk':k<cs.length:=by simpa using hk
  obtain⟨u,hu,hru⟩:=hc k hk'
  refine⟨u,hu,?_⟩
  by_cases hkj:k=j
  ·subst hkj
   have e:(cs.set k (.slice (.own H.nx) sz []))[k]=.slice (.own H.nx) sz []:=Xc
   rw[e]
   have e2:cs[k]=.slice .nil 1 []:=by rw[List.getElem?_eq_getElem hk']at h2;exact Option.some.inj h2
   rw[e2]at hru
   rcases rel_slice.1 hru with⟨⟨a,rfl⟩,_,_⟩|⟨blk,off,cap,C',ty,fr',_,_,_,_,_,hm,_⟩
   ·exact W25
   ·exact hm.elim
  ·have e:(cs.set j (.slice (.own H.nx) sz []))[k]=cs[k]:=by rw[List.getElem_set_ne (by omega)]
   rw[e];exact hru.ext he
 ·simp only[Fr.get,if_neg ht]
  exact(h.sim t).ext he
theorem sY(w:World)(γ:cQ)(H:AHeap):∀(x y:AV)(v:Value),wkD x y→Rel w γ H x v→Rel w γ H y v
 |.agg xs,y,v,h,hr=>by
  cases y with
  |agg ys =>
   rw[wkD]at h
   rw[Rel]at hr ⊢
   obtain⟨C,hv,hs,hc⟩:=hr
   refine⟨C,hv,by rw[hs,h.1],fun j hj=>?_⟩
   have hj':j<xs.length:=by rw[h.1];exact hj
   obtain⟨u,hu,hr⟩:=hc j hj'
   have hlt:=List.sizeOf_lt_of_mem (List.getElem_mem hj')
   exact⟨u,hu,sY w γ H _ _ u (h.2 j hj' hj) hr⟩
  |_ =>
   rw[wkD]at h
   ·cases h
   all_goals(intros;contradiction)
 |.slice m sz xs,y,v,h,hr=>by
  cases y with
  |slice m' sz' ys =>
   rw[wkD]at h
   rw[Rel]at hr
   rw[Rel]
   rcases h with⟨hm,rfl,hl,hx⟩|⟨rfl,rfl,rfl,rfl⟩
   ·rcases hr with⟨ha,h2,h3⟩|⟨blk,off,cap,C,ty,fr,hv,hle,hh,hs,hi,hmk,hc⟩
    ·refine .inl ⟨ha,?_,?_⟩
     ·subst h2;exact List.length_eq_zero_iff.1 hl.symm
     ·rcases hm with rfl|rfl
      ·trivial
      ·exact h3
    ·refine .inr ⟨blk,off,cap,C,ty,fr,by rw[hv,hl],by rw[← hl];exact hle,hh,hs,by rw[← hl];exact hi,?_,fun i hi1=>?_⟩
     ·rcases hm with rfl|rfl
      ·trivial
      ·rw[← hl];exact hmk
     ·have hi2:i<xs.length:=by rw[hl];exact hi1
      obtain⟨c1,c2⟩:=hc i hi2
      obtain⟨d1,d2⟩:=hx i hi2 hi1
      refine⟨by rw[← d1];exact c1,fun j hj=>?_⟩
      have hj2:j<xs[i].cells.length:=by rw[d1];exact hj
      obtain⟨u,hu,hru⟩:=c2 j hj2
      have h1:=AV.sizeOf_cells (List.getElem_mem hj2)
      have h2:=List.sizeOf_lt_of_mem (List.getElem_mem hi2)
      exact⟨u,hu,sY w γ H _ _ u (d2 j hj2 hj) hru⟩
   ·rcases hr with⟨ha,h2,h3⟩|⟨blk,off,cap,C,ty,fr,hv,hle,hh,hs,hi,hmk,hc⟩
    ·exact .inl ⟨ha,rfl,trivial⟩
    ·exact hmk.elim
  |_ =>
   rw[wkD]at h
   ·cases h
   all_goals(intros;contradiction)
 |.int _ _,y,v,h,hr|.bool _,y,v,h,hr|.str _,y,v,h,hr|.ptr _ _,y,v,h,hr|.cptr _,y,v,h,hr|.nilp,y,v,h,hr|.ms _ _ _ _,y,v,h,hr|.mapv _,y,v,h,hr|.nilm,y,v,h,hr|.func _ _ _,y,v,h,hr|.nilf,y,v,h,hr|.iface _ _,y,v,h,hr|.nili,y,v,h,hr|.tup _,y,v,h,hr|.junk,y,v,h,hr=>by
  rw[wkD]at h
  ·subst h;exact hr
  all_goals(intros;contradiction)
termination_by x=>SizeOf.sizeOf x
decreasing_by
 all_goals simp_wf
 all_goals omega
theorem Inv.weakSlot{fr:Fr}{H:AHeap}{w:World}{γ:cQ}{a:Act}(h:Inv w0 γ0 H0 ds n w γ H (Fr.get fr) a){s:Nat}{y:AV}(hy:wkD (Fr.get fr s) y):Inv w0 γ0 H0 ds n w γ H (Fr.get ((s,y)::fr)) a:=by
 refine⟨h.state,h.ext,fun t=>?_,h.size,h.defers⟩
 by_cases ht:s=t
 ·subst ht
  simp only[Fr.get,if_true]
  exact sY _ _ _ _ _ _ hy (h.sim s)
 ·simp only[Fr.get,if_neg ht]
  exact h.sim t
theorem Inv.weakObj{f:Nat→AV}{H:AHeap}{w:World}{γ:cQ}{a:Act}(h:Inv w0 γ0 H0 ds n w γ H f a){id:Nat}{cs cs':Wz}(hc:a8 H id=some cs)(hw:nB cs cs'):Inv w0 γ0 H0 ds n w γ (H.set id (.cells cs')) f a:=by
 have ho:H.get id=some (.cells cs):=by
  exact W22
 have hid:=AHeap.get_lt ho
 obtain⟨hl,hwd⟩:=wkDL_iff.1 hw
 have hset:∀{j x},(H.set id (.cells cs')).get j=some x→(j=id∧x=.cells cs')∨(j≠id∧H.get j=some x):=fun{j x} hg=>by
  exact W8
 have hne:∀{j},j≠id→(H.set id (.cells cs')).get j=H.get j:=fun hj=>AHeap.get_set_ne _ _ hj
 have he:Ext w γ H w γ (H.set id (.cells cs')):=by
  exact W0
 refine⟨⟨fun i j oi oj b hi hj h1 h2=>?_,fun j x hg=>?_⟩,h.ext.trans he,h.sim.ext he,h.size,h.defers⟩
 ·exact W1
 ·rcases hset hg with⟨rfl,rfl⟩|⟨_,h2⟩
  ·rcases h.state.obj _ _ ho with⟨h1,hz⟩|⟨blk,C,ty,fr,h1,h2,h3,h4,h5⟩
   ·refine .inl ⟨h1,fun x hx=>?_⟩
    obtain⟨k,hk,rfl⟩:=List.getElem_of_mem hx
    obtain⟨v,hv⟩:=hz _ (List.getElem_mem (show k<cs.length by rw[hl];exact hk))
    exact⟨v,fun w γ H=>sY _ _ _ _ _ _ (hwd k _ hk) (hv w γ H)⟩
   ·refine .inr ⟨blk,C,ty,fr,h1,h2,by rw[← hl];exact h3,fun k hk=>?_,by rw[← hl];exact h5⟩
    obtain⟨u,hu,hr⟩:=h4 k (by rw[hl];exact hk)
    exact⟨u,hu,sY _ _ _ _ _ _ (hwd k _ hk) (hr.ext he)⟩
  ·exact W36
theorem Inv.weakMs{f:Nat→AV}{H:AHeap}{w:World}{γ:cQ}{a:Act}(h:Inv w0 γ0 H0 ds n w γ H f a){id j mid off sz len:Nat}{cs ms:Wz}(hc:a8 H id=some cs)(hj:cs[j]?=some (.ms mid off sz len))(hne:id≠mid)
 (hm:a8 H mid=some ms) (hlt:(AV.slice .any sz (dh sz len (ms.drop off))).lt H.nx):Inv w0 γ0 H0 ds n w γ ((H.del mid).set id (.cells (cs.set j (.slice .any sz (dh sz len (ms.drop off)))))) f a:=by
 have hl:(H.del mid).Le H:=⟨Nat.le_refl _,fun i o ho=>by rw[qO]at ho;split at ho;cases ho;exact ho⟩
 have hcl:(H.del mid).Closed:=by
  intro k cs' hk i hi
  rw[qO]at hk
  split at hk
  ·cases hk
  ·exact h.state.closed k cs' hk i hi
 have h1:Inv w0 γ0 H0 ds n w γ (H.del mid) f a:=⟨h.state.drop hl hcl,h.ext.drop hl h.ext.nx,fun t=>Rel.drop hl _ _ (show(f t).lt H.nx from Rel.lt _ _ (h.sim t)) (h.sim t),h.size,h.defers⟩
 have ho:H.get id=some (.cells cs):=by
  exact W22
 have ho1:(H.del mid).get id=some (.cells cs):=by rw[qO,if_neg hne];exact ho
 have hid:=AHeap.get_lt ho1
 have hnone:(H.del mid).get mid=none:=by rw[qO,if_pos rfl]
 have hjl:j<cs.length:=by
  rcases Nat.lt_or_ge j cs.length with h|h
  ·exact h
  ·rw[List.getElem?_eq_none h]at hj;cases hj
 have hjv:cs[j]=.ms mid off sz len:=by rw[List.getElem?_eq_getElem hjl]at hj;exact Option.some.inj hj
 obtain⟨cs',hcs'⟩:∃ x,x=cs.set j (AV.slice .any sz (dh sz len (ms.drop off))):=⟨_,rfl⟩
 have hlen:cs'.length=cs.length:=by rw[hcs',List.length_set]
 have hrel:∀ k (hk:k<cs.length) (hk':k<cs'.length) u,Rel w γ H cs[k] u→Rel w γ (H.del mid) cs'[k] u:=fun k hk hk' u hr=>by
  subst hcs'
  rw[List.getElem_set]
  split
  ·rename_i e
   subst e
   rw[hjv]at hr
   exact uY h.state hl hr (by simp only[wk1,hm];exact⟨.inl trivial,trivial,trivial,hnone⟩) hlt
  ·exact Rel.drop hl _ _ (show AV.lt H.nx _ from Rel.lt _ _ hr) hr
 rw[← hcs']
 clear hcs'
 generalize hH1:H.del mid=H1 at *
 have hset:∀{j x},(H1.set id (.cells cs')).get j=some x→(j=id∧x=.cells cs')∨(j≠id∧H1.get j=some x):=fun{j x} hg=>by
  exact W8
 have hne2:∀{j},j≠id→(H1.set id (.cells cs')).get j=H1.get j:=fun hj=>AHeap.get_set_ne _ _ hj
 have he:Ext w γ H1 w γ (H1.set id (.cells cs')):=by
  refine⟨rfl,rfl,rfl,Nat.le_refl _,Nat.le_refl _,fun b C ty fr hb=>⟨C,hb,rfl,fun _ _ _ _=>rfl⟩,fun b e hb him j x hg hγ=>?_,fun _ _ _=>rfl,fun j hj hn=>⟨?_,rfl⟩,fun j x hg hb=>⟨rfl,fun sz n hg'=>?_⟩,
   fun j sz n hg sz' n' hg'=>?_,fun j sz n hg x hg'=>?_⟩
  ·rcases hset hg with⟨rfl,rfl⟩|⟨_,h2⟩
   ·obtain⟨sz,n,e,_⟩:=him _ _ ho1 hγ;cases e
   ·exact him j x h2 hγ
  ·rw[hne2 (fun e=>by subst e;rw[ho1]at hn;cases hn)];exact hn
  ·rcases hset hg' with⟨_,e⟩|⟨_,h2⟩
   ·cases e
   ·rw[hg]at h2;cases h2;exact hb _ _ rfl
  ·rcases hset hg' with⟨_,e⟩|⟨_,h2⟩
   ·cases e
   ·rw[hg]at h2;cases h2;exact⟨rfl,Nat.le_refl _,fun _=>rfl⟩
  ·rcases hset hg' with⟨rfl,e⟩|⟨_,h2⟩
   ·rw[ho1]at hg;cases hg
   ·rw[hg]at h2;cases h2;exact⟨_,_,rfl⟩
 refine⟨⟨fun i j oi oj b hi hj h2 h3=>?_,fun j x hg=>?_⟩,h1.ext.trans he,h1.sim.ext he,h.size,h.defers⟩
 ·have up:∀{i o},(H1.set id (.cells cs')).get i=some o→∃ o',H1.get i=some o':=fun{i o} hg=>by
   rcases hset hg with⟨rfl,rfl⟩|⟨_,h2⟩
   ·exact⟨_,ho1⟩
   ·exact⟨_,h2⟩
  obtain⟨o1,g1⟩:=up hi
  obtain⟨o2,g2⟩:=up hj
  exact h1.state.inj i j o1 o2 b g1 g2 h2 h3
 ·rcases hset hg with⟨rfl,rfl⟩|⟨_,h2⟩
  ·rcases h.state.obj _ _ ho with⟨_,hz⟩|⟨blk,C,ty,fr,h1,h2,h3,h4,h5⟩
   ·obtain⟨v,hv⟩:=hz _ (List.getElem_mem hjl)
    have:=hv w γ ⟨0,fun _=>none⟩
    rw[hjv,Rel]at this
    exact absurd this.1 (Nat.not_lt_zero _)
   ·refine .inr ⟨blk,C,ty,fr,h1,h2,by rw[hlen];exact h3,fun k hk=>?_,by rw[hlen];exact h5⟩
    obtain⟨u,hu,hr⟩:=h4 k (by rw[← hlen];exact hk)
    exact⟨u,hu,(hrel k (by rw[← hlen];exact hk) hk u hr).ext he⟩
  ·exact(h1.state.obj j x h2).mono he rfl fun _ _ _ hb=>hb
theorem Inv.room{f:Nat→AV}{H:AHeap}{w:World}{γ:cQ}{a:Act}(h:Inv w0 γ0 H0 ds n w γ H f a){id:Nat}{cs:Wz}(ho:H.get id=some (.part cs)) :
 ∃ k,Inv w0 γ0 H0 ds n w γ (H.set id (.cells (cs++List.replicate k .junk))) f a:=by
 obtain⟨blk,C,ty,fr,o1,o2,o3,o4,o5,o6⟩:=h.state.obj _ _ ho
 refine⟨C.size-cs.length,?_⟩
 have hlen:(cs++List.replicate (C.size-cs.length) AV.junk).length=C.size:=by rw[List.length_append,List.length_replicate];omega
 generalize hcs':cs++List.replicate (C.size-cs.length) AV.junk=cs' at *
 have hset:∀{j x},(H.set id (.cells cs')).get j=some x→(j=id∧x=.cells cs')∨(j≠id∧H.get j=some x):=fun{j x} hg=>by
  exact W8
 have hne:∀{j},j≠id→(H.set id (.cells cs')).get j=H.get j:=fun hj=>AHeap.get_set_ne _ _ hj
 have he:Ext w γ H w γ (H.set id (.cells cs')):=by
  exact W0
 refine⟨⟨fun i j oi oj b hi hj h1 h2=>?_,fun j x hg=>?_⟩,h.ext.trans he,h.sim.ext he,h.size,h.defers⟩
 ·exact W1
 ·rcases hset hg with⟨rfl,rfl⟩|⟨_,h2⟩
  ·refine .inr ⟨blk,C,ty,fr,o1,o2,hlen,fun k hk=>?_,by rw[hlen];exact o5⟩
   by_cases hk':k<cs.length
   ·obtain⟨u,hu,hr⟩:=o4 k hk'
    refine⟨u,hu,?_⟩
    have e:cs'[k]=cs[k]:=by subst hcs';exact List.getElem_append_left hk'
    rw[e];exact hr.ext he
   ·have hkC:0+k<C.size:=Xa
    refine⟨C[0+k],by simp[hkC],?_⟩
    have e:cs'[k]=.junk:=by
     subst hcs'
     rw[List.getElem_append_right Xa,List.getElem_replicate]
    rw[e,Rel];trivial
  ·exact W36
theorem Inv.objAs{f:Nat→AV}{H:AHeap}{w:World}{γ:cQ}{a:Act}(h:Inv w0 γ0 H0 ds n w γ H f a){id:Nat}{cs cs':Wz}(ho:H.get id=some (.cells cs)){blk:Nat}(hgid:γ id=some blk)
 (hl:cs.length=cs'.length) (hw:∀(k:Nat)(hk:k<cs.length)(hk':k<cs'.length) v,Rel w γ H cs[k] v→Rel w γ H cs'[k] v):Inv w0 γ0 H0 ds n w γ (H.set id (.cells cs')) f a:=by
 have hset:∀{j x},(H.set id (.cells cs')).get j=some x→(j=id∧x=.cells cs')∨(j≠id∧H.get j=some x):=fun{j x} hg=>by
  exact W8
 have hne:∀{j},j≠id→(H.set id (.cells cs')).get j=H.get j:=fun hj=>AHeap.get_set_ne _ _ hj
 have he:Ext w γ H w γ (H.set id (.cells cs')):=by
  exact W0
 refine⟨⟨fun i j oi oj b hi hj h1 h2=>?_,fun j x hg'=>?_⟩,h.ext.trans he,h.sim.ext he,h.size,h.defers⟩
 ·exact W1
 ·rcases hset hg' with⟨rfl,rfl⟩|⟨_,h2⟩
  ·rcases h.state.obj _ _ ho with⟨h1,hz⟩|⟨blk',C,ty,fr,h1,h2,h3,h4,h5⟩
   ·rw[hgid]at h1;cases h1
   ·refine .inr ⟨blk',C,ty,fr,h1,h2,by rw[← hl];exact h3,fun k hk=>?_,by rw[← hl];exact h5⟩
    have hk0:k<cs.length:=by rw[hl];exact hk
    obtain⟨u,hu,hr⟩:=h4 k hk0
    exact⟨u,hu,(hw k hk0 hk u hr).ext he⟩
  ·exact W36
theorem Inv.cellOwn{fr:Fr}{H:AHeap}{w:World}{γ:cQ}{a:Act}(h:Inv w0 γ0 H0 ds n w γ H (Fr.get fr) a){s id off j sz:Nat}{cs:Wz}(h0:Fr.get fr s=.ptr id off)(hc:a8 H id=some cs)(hj:cs[j]?=some (.slice .nil 1 [])) :
 ∃ γ',Inv w0 γ0 H0 ds n w γ' ((H.push (.buf sz 0)).set id (.cells (cs.set j (.slice (.own H.nx) sz [])))) (Fr.get fr) a:=by
 have hs:=h.state
 have he:=jC hs (w':=w) rfl rfl rfl (Nat.le_refl _) (fun _ _=>rfl) none (fun b h=>by cases h) (.buf sz 0)
 have hst:=io hs (w':=w) (fun b h=>by cases h) he (fun _ _=>rfl) (.inr (.inl ⟨_,_,rfl⟩))
 have hi:Inv w0 γ0 H0 ds n w (upd γ H.nx none) (H.push (.buf sz 0)) (Fr.get fr) a:=⟨hst,h.ext.trans he,fun t=>(h.sim t).ext he,h.size,h.defers⟩
 have ho:H.get id=some (.cells cs):=by
  exact W22
 have hlt:=AHeap.get_lt ho
 have hp:=h.sim s
 rw[h0,Rel]at hp
 obtain⟨_,_,blk,hg,_⟩:=hp
 refine⟨_,hi.objAs (by rw[AHeap.get_push_lt _ _ hlt];exact ho) (blk:=blk) (by rw[eR _ _ _ _ (by omega)];exact hg) Xc fun k hk hk' v hr=>?_⟩
 by_cases hkj:k=j
 ·subst hkj
  have e:(cs.set k (.slice (.own H.nx) sz []))[k]=.slice (.own H.nx) sz []:=Xc
  rw[e]
  have e2:cs[k]=.slice .nil 1 []:=by rw[List.getElem?_eq_getElem hk]at hj;exact Option.some.inj hj
  rw[e2]at hr
  rcases rel_slice.1 hr with⟨⟨a,rfl⟩,_,_⟩|⟨blk,off,cap,C',ty,fr',_,_,_,_,_,hm,_⟩
  ·exact W25
  ·exact hm.elim
 ·have e:(cs.set j (.slice (.own H.nx) sz []))[k]=cs[k]:=by rw[List.getElem_set_ne (by omega)]
  rw[e];exact hr
def BS{o:Oper}{fr:Fr}{H:AHeap}{K:Vz}(h:aN P o fr H K)(hd:mC n o=true){w:World}{γ:cQ}{a:Act}(hi:Inv w0 γ0 H0 ds n w γ H (Fr.get fr) a){K':Act→World→Prop}{Q:Exit→Act→World→Prop}
 (hK:∀ fr' H' w' γ' a',Inv w0 γ0 H0 ds n w' γ' H' (Fr.get fr') a'→K fr' H'→K' a' w'):o.wp P a w K' Q:=by
 have hf:=fun x=>hi.sim.eval x
 have hf':∀ x,Rel w γ H (ev fr x) (a.eval x):=fun x=>by rw[je];exact hf x
 -- what is done when a value comes out
 have out:∀{x:AV}{H':AHeap}{run:Result Value},Out P w γ H x H' run→K (fr.put o.dst x) H'→(execOp a.eval o).run P w=run.andThen (fun v w'=>.ok (.value v) w')→o.wp P a w K' Q:=by
  intro x H' run ⟨v,w',γ',hr,h1,h2,h3⟩ hk he
  exact W33
 obtain⟨dst,op,ty,pos,after,guard⟩:=o
 unfold aN at h
 dsimp only at h out
 split at h
 ·rename_i t m ps
  split at h
  ·rename_i r hr
   split at h
   ·rename_i mk sz xs hv
    refine out (pO hi.state (RelP.map hf' ps) hr hv) h ?_
    simp only[execOp,Sem.run_bind,Array.toArray_toList]
    rfl
   ·exact h.elim
  ·exact h.elim
 ·exact h.elim
def Bb{o:Oper}{fr:Fr}{H:AHeap}{K:Vz}(h:aO P o fr H K)(hd:mC n o=true){w:World}{γ:cQ}{a:Act}(hi:Inv w0 γ0 H0 ds n w γ H (Fr.get fr) a){K':Act→World→Prop}{Q:Exit→Act→World→Prop}
 (hK:∀ fr' H' w' γ' a',Inv w0 γ0 H0 ds n w' γ' H' (Fr.get fr') a'→K fr' H'→K' a' w'):o.wp P a w K' Q:=by
 have hf:=fun x=>hi.sim.eval x
 have hf':∀ x,Rel w γ H (ev fr x) (a.eval x):=fun x=>by rw[je];exact hf x
 have out:∀{x:AV}{H':AHeap}{run:Result Value},Out P w γ H x H' run→K (fr.put o.dst x) H'→(execOp a.eval o).run P w=run.andThen (fun v w'=>.ok (.value v) w')→o.wp P a w K' Q:=by
  intro x H' run ⟨v,w',γ',hr,h1,h2,h3⟩ hk he
  exact W33
 obtain⟨dst,op,ty,pos,after,guard⟩:=o
 unfold aO at h
 dsimp only at h out
 split at h
 ·rename_i t m ps
  split at h
  ·rename_i r hr
   split at h
   ·rename_i mk sz xs hv
    refine out (rE hi.state (RelP.map hf' ps) hr hv) h ?_
    simp only[execOp,Sem.run_bind,Array.toArray_toList]
    rfl
   ·exact h.elim
  ·exact h.elim
 ·exact h.elim
theorem sS(hΩ:TblOk P Ω){n0:Nat}(hn0:n0=H0.nx){ops:Array Oper}{K:Vz}{Kp:Fr→AV→AHeap→Prop}{Q:Exit→Act→World→Prop}
 (hK:∀ fr H w γ a,Inv w0 γ0 H0 ds n w γ H (Fr.get fr) a→K fr H→Q .normal a w)
 (hKp:∀ fr x v H w γ a,Inv w0 γ0 H0 ds n w γ H (Fr.get fr) a→Rel w γ H x v→Kp fr x H→Q (.panic [{v,recovered:=false}]) a w) :
 ∀(is:List Nat)(l:List Oper),(∀ o∈l,mC n o=true)→∀ fr H w γ a,Inv w0 γ0 H0 ds n w γ H (Fr.get fr) a→kh P Ω n0 ops is l K Kp fr H→wpList P ops Q l a w
 |[],l,hd,fr,H,w,γ,a,hi,h=>by
  have:=mB (ops:=ops) (K:=K) (Kp:=Kp) (Q:=Q) hΩ [] (fun fr H w γ a hi h=>hK fr H w γ a hi h) hKp l hd fr H w γ a hi h
  rwa[List.append_nil]at this
 |i::is,l,hd,fr,H,w,γ,a,hi,h=>by
  have ih:=sS (ops:=ops) (K:=K) (Kp:=Kp) (Q:=Q) hΩ hn0 hK hKp is
  unfold kh at h
  split at h
  ·have:=mB (ops:=ops) (Q:=Q) hΩ (l.drop (i/3)) (fun fr H w γ a hi h=>?_) hKp (l.take (i/3)) (fun o ho=>hd o (List.mem_of_mem_take ho)) fr H w γ a hi h
   ·rwa[List.take_append_drop]at this
   ·split at h
    ·rename_i o rest hdr
     obtain⟨hg,h⟩:=h
     have hmem:∀ x∈o::rest,mC n x=true:=fun x hx=>hd x (List.mem_of_mem_drop (by rw[hdr];exact hx))
     rw[hdr]
     unfold wpList
     rw[if_pos (by simp[Region.wanted,hg])]
     exact .inl (BS h (hmem o List.mem_cons_self) hi fun fr' H' w' γ' a' hi' hk=>ih rest (fun x hx=>hmem x (List.mem_cons_of_mem _ hx)) _ _ _ _ _ hi' hk)
    ·exact h.elim
  ·split at h
   ·have:=mB (ops:=ops) (Q:=Q) hΩ (l.drop (i/3)) (fun fr H w γ a hi h=>?_) hKp (l.take (i/3)) (fun o ho=>hd o (List.mem_of_mem_take ho)) fr H w γ a hi h
    ·rwa[List.take_append_drop]at this
    ·rcases h with⟨fr',H',he,h⟩|⟨s,j,sz,cs,h1,h2,h⟩|⟨s,y,h1,h⟩|⟨id,cs,cs',h1,h2,h⟩|⟨id,cs,h1,h⟩|⟨s,id,off,j,sz,cs,h1,h2,h3,h⟩|⟨id,j,mid,off,sz,len,cs,ms,h1,h2,h3,h4,h5,h⟩
     ·rw[hn0]at he
      exact ih _ (fun x hx=>hd x (List.mem_of_mem_drop hx)) _ _ _ _ _ (hi.enterW he) h
     ·obtain⟨γ',hi'⟩:=hi.nilOwn (sz:=sz) h1 h2
      exact ih _ (fun x hx=>hd x (List.mem_of_mem_drop hx)) _ _ _ _ _ hi' h
     ·exact ih _ (fun x hx=>hd x (List.mem_of_mem_drop hx)) _ _ _ _ _ (hi.weakSlot h1) h
     ·exact ih _ (fun x hx=>hd x (List.mem_of_mem_drop hx)) _ _ _ _ _ (hi.weakObj h1 h2) h
     ·obtain⟨k,hi'⟩:=hi.room h1
      exact ih _ (fun x hx=>hd x (List.mem_of_mem_drop hx)) _ _ _ _ _ hi' (h k)
     ·obtain⟨γ',hi'⟩:=hi.cellOwn (sz:=sz) h1 h2 h3
      exact ih _ (fun x hx=>hd x (List.mem_of_mem_drop hx)) _ _ _ _ _ hi' h
     ·exact ih _ (fun x hx=>hd x (List.mem_of_mem_drop hx)) _ _ _ _ _ (hi.weakMs h1 h2 h3 h4 h5) h
   ·have:=mB (ops:=ops) (Q:=Q) hΩ (l.drop (i/3)) (fun fr H w γ a hi h=>?_) hKp (l.take (i/3)) (fun o ho=>hd o (List.mem_of_mem_take ho)) fr H w γ a hi h
    ·rwa[List.take_append_drop]at this
    ·split at h
     ·rename_i o rest hdr
      obtain⟨hg,h⟩:=h
      have hmem:∀ x∈o::rest,mC n x=true:=fun x hx=>hd x (List.mem_of_mem_drop (by rw[hdr];exact hx))
      rw[hdr]
      unfold wpList
      rw[if_pos (by simp[Region.wanted,hg])]
      exact .inl (Bb h (hmem o List.mem_cons_self) hi fun fr' H' w' γ' a' hi' hk=>ih rest (fun x hx=>hmem x (List.mem_cons_of_mem _ hx)) _ _ _ _ _ hi' hk)
     ·exact h.elim
end
section
variable {P:Program} {w:World} {γ:cQ} {H:AHeap}
theorem rJ{α:Type}{f:α→Sem Value}{w:World}:∀{l:List α}{vs:List Value},vs.length=l.length→(∀(j:Nat) x v,l[j]?=some x→vs[j]?=some v→(f x).run P w=.ok v w) →
 (l.mapM f).run P w=.ok vs w
 |[],[],_,_=>Xc
 |x::l,v::vs,hl,h=>by
  rw[List.mapM_cons]
  have h0:=h 0 x v rfl rfl
  have ih:=rJ (l:=l) (vs:=vs) (by simpa using hl) (fun j x v hx hv=>h (j+1) x v (by simpa using hx) (by simpa using hv))
  simp[h0,ih]
 |[],_::_,hl,_=>by simp at hl
 |_::_,[],hl,_=>by simp at hl
theorem wV(hs:State w γ H){fr:Fr}{a:Act}(hf:SimF w γ H (Fr.get fr) a):∀{rs:List ResultVar}{c:Prop}{xs:Wz},n8 P fr H rs=some (c,xs)→c →
 ∃ vs:List Value,vs.length=rs.length∧xs.length=rs.length ∧
  (∀(j:Nat) r v,rs[j]?=some r→vs[j]?=some v→((match r with|.tmp t=>pure (a.tmps.getD t undef)|.cell b t=>do loadVar t (← asAddr (a.tmps.getD b undef)):Sem Value).run P w)=.ok v w) ∧
  ∀(j:Nat) x v,xs[j]?=some x→vs[j]?=some v→Rel w γ H x v
 |[],c,xs,h,hc=>by
  simp only[n8]at h;cases h
  exact⟨[],rfl,rfl,fun j r v hr=>by simp at hr,fun j x v hx=>by simp at hx⟩
 |r::rs,c,xs,h,hc=>by
  simp only[n8]at h
  split at h
  ·rename_i c1 x1 d1 xs1 h1 h2
   cases h
   obtain⟨v,hv,hr⟩:=Du hs hf h1 hc.1
   obtain⟨vs,g1,g2,g3,g4⟩:=wV hs hf h2 hc.2
   refine⟨v::vs,by simp[g1],by simp[g2],fun j r' v' hr' hv'=>?_,fun j x v' hx hv'=>?_⟩
   ·cases j with
    |zero=>simp only[List.getElem?_cons_zero,Option.some.injEq]at hr' hv';subst hr';subst hv';exact hv
    |succ j=>exact g3 j r' v' (by simpa using hr') (by simpa using hv')
   ·cases j with
    |zero=>simp only[List.getElem?_cons_zero,Option.some.injEq]at hx hv';subst hx;subst hv';exact hr
    |succ j=>exact g4 j x v' (by simpa using hx) (by simpa using hv')
  ·cases h
def mi(hs:State w γ H){fr:Fr}{a:Act}(hf:SimF w γ H (Fr.get fr) a){fn:Func}{c:Prop}{xs:Wz}(h:n8 P fr H fn.results.toList=some (c,xs))(hc:c) :
 ∃ v,(results fn a.tmps).run P w=.ok v w∧Rel w γ H (one xs) v:=by
 obtain⟨vs,g1,g2,g3,g4⟩:=wV hs hf h hc
 refine⟨if h:vs.toArray.size=1 then vs.toArray[0]else .tuple vs.toArray,?_,?_⟩
 ·unfold results
  rw[Sem.run_bind,Array.mapM_eq_mapM_toList]
  have:=rJ (P:=P) (w:=w) (f:=fun r=>(match r with|.tmp t=>pure (a.tmps.getD t undef)|.cell b t=>do loadVar t (← asAddr (a.tmps.getD b undef)):Sem Value)) g1 g3
  simp only[map_eq_pure_bind,Sem.run_bind]at this ⊢
  erw[this]
  simp
 ·match xs,vs,g1,g2,g4 with
  |[x],[v],_,_,g4=>simpa[one]using g4 0 x v rfl rfl
  |[],[],_,_,g4=>simp only[one];rw[Rel];exact⟨#[],Xc,Xc,fun j hj=>by simp at hj⟩
  |x::y::xs,v::u::vs,g1,g2,g4 =>
   have hlen:(v::u::vs).length=(x::y::xs).length:=by rw[g1,g2]
   have:(one (x::y::xs))=.tup (x::y::xs):=rfl
   rw[this,Rel]
   refine⟨(v::u::vs).toArray,Xc,by simp at hlen ⊢;omega,fun j hj=>?_⟩
   have hj':j<(v::u::vs).length:=by rw[hlen];exact hj
   exact⟨(v::u::vs)[j],by simp only[List.getElem?_toArray];exact List.getElem?_eq_getElem hj',g4 j _ _ (List.getElem?_eq_getElem hj) (List.getElem?_eq_getElem hj')⟩
  |[_],[],g1,g2,_=>simp at g1 g2;omega
  |[],[_],g1,g2,_=>simp at g1 g2;omega
  |[],_::_::_,g1,g2,_=>simp at g1 g2;omega
  |[_],_::_::_,g1,g2,_=>simp at g1 g2;omega
  |_::_::_,[],g1,g2,_=>simp at g1 g2;omega
  |_::_::_,[_],g1,g2,_=>simp at g1 g2;omega
end
def maskOk(ops:Array Oper)(ms:List (List Nat)):Bool :=
 go (iR ops.toList []) ms
where
 go:List Nat→List (List Nat)→Bool
 |_,[]=>true
 |[],m::ms=>m.isEmpty&&go [] ms
 |a::as,m::ms=>m.all (fun j=>a.testBit j)&&go as ms
theorem p9:∀{as:List Nat} {ms:List (List Nat)},maskOk.go as ms=true→∀ k j,j∈ms.getD k []→(as.getD k 0).testBit j=true
 |_,[],_,k,j,h=>by simp at h
 |[],m::ms,h,0,j,hj=>by
  unfold maskOk.go at h
  simp only[Bool.and_eq_true,List.isEmpty_iff]at h
  simp[h.1]at hj
 |[],m::ms,h,k+1,j,hj=>by
  unfold maskOk.go at h
  simp only[Bool.and_eq_true]at h
  have:=p9 (as:=[]) h.2 k j (by simpa using hj)
  simp at this
 |a::as,m::ms,h,0,j,hj=>by
  unfold maskOk.go at h
  simp only[Bool.and_eq_true,List.all_eq_true]at h
  simpa using h.1 j (by simpa using hj)
 |a::as,m::ms,h,k+1,j,hj=>by
  unfold maskOk.go at h
  simp only[Bool.and_eq_true]at h
  simpa using p9 h.2 k j (by simpa using hj)
def jk{ops:Array Oper}{ms:List (List Nat)}(h:maskOk ops ms=true):MaskOk ops 0 ms:=fun k _ j hj=>p9 h k j (by simpa using hj)
def jJ(P:Program)(Ω:Tbl)(T:Nat→List (List Nat))(n:Nat):Code→Bool
 |.region id ops true=>regionOk P Ω n ((T (id+800)).map (·.headD 0)) ops&&maskOk ops (T id)
 |.region _ ops false=>ops.toList.all (mC n)
 |.seq a b=>jJ P Ω T n a&&jJ P Ω T n b
 |.cond _ a b=>jJ P Ω T n a&&jJ P Ω T n b
 |.block _ c=>jJ P Ω T n c
 |.loop c=>jJ P Ω T n c
 |.scope c=>jJ P Ω T n c
 |_=>true
section
variable {P:Program} {Ω:Tbl} {w0:World} {γ0:cQ} {H0:AHeap} {ds:List Deferred} {n:Nat}
structure PQ(w0:World)(γ0:cQ)(H0:AHeap)(ds:List Deferred)(m:Nat)(K:Conts)(Q:Exit→Act→World→Prop):Prop where
 n0:K.n0=H0.nx
 n:∀ fr H w γ a,Inv w0 γ0 H0 ds m w γ H (Fr.get fr) a→K.n fr H→Q .normal a w
 r:∀ fr H w γ a,Inv w0 γ0 H0 ds m w γ H (Fr.get fr) a→K.r fr H→Q .ret a w
 x:∀ id fr H w γ a,Inv w0 γ0 H0 ds m w γ H (Fr.get fr) a→K.x id fr H→Q (.exit id) a w
 p:∀ fr x v H w γ a,Inv w0 γ0 H0 ds m w γ H (Fr.get fr) a→Rel w γ H x v→K.p fr x H→Q (.panic [{v,recovered:=false}]) a w
def oS {f : FuncId} {fn : Func} {c : Code} (hf : P.funcs[f]? = some fn) (hname : (fn.name == "runtime.NumGoroutine") = false) (hb : fn.body = some c) (args : Array Value) (w : World) :
 (callFunc f args).run P w=.ok (.enter f args) w:=by
 have h1 : fn.name ≠ "runtime.NumGoroutine" := by simpa using hname
 simp[callFunc,hf,h1,hb]
theorem Inv.draw{w:World}{γ:cQ}{H:AHeap}{f:Nat→AV}{a:Act}(h:Inv w0 γ0 H0 ds n w γ H f a):Inv w0 γ0 H0 ds n {w with drawn:=w.drawn+1} γ H f a:=by
 have he:Ext w γ H {w with drawn:=w.drawn+1} γ H:=by
  have:=Ext.refl w γ H
  exact⟨rfl,rfl,rfl,Nat.le_refl _,Nat.le_refl _,this.block,this.imm,fun _ _ _=>rfl,this.none,this.keep,this.bufs,this.bufk⟩
 refine⟨?_,h.ext.trans he,h.sim.ext he,h.size,h.defers⟩
 refine⟨h.state.inj,fun id o ho=>?_⟩
 have:=h.state.obj id o ho
 cases o with
 |cells cs =>
  rcases this with this|⟨blk,C,ty,fr,h1,h2,h3,h4,h5⟩
  ·exact .inl this
  exact .inr ⟨blk,C,ty,fr,h1,h2,h3,fun j hj=>let ⟨u,hu,hr⟩:=h4 j hj;⟨u,hu,hr.ext he⟩,h5⟩
 |buf sz n=>exact this
 |part cs =>
  obtain⟨blk,C,ty,fr,h1,h2,h3,h4,h5,h6⟩:=this
  exact⟨blk,C,ty,fr,h1,h2,h3,fun j hj=>let ⟨u,hu,hr⟩:=h4 j hj;⟨u,hu,hr.ext he⟩,h5,h6⟩
 |mapo es=>exact this
theorem Bm:∀{fr' fr:Fr},my fr' fr→∀ t,Fr.get fr' t=.junk∨Fr.get fr' t=Fr.get fr t
 |[],fr,_,t=>.inl rfl
 |(i,v)::l,fr,h,t=>by
  simp only[Fr.get]
  by_cases hi:i=t
  ·subst hi;rw[if_pos rfl];exact .inr h.1.symm
  ·rw[if_neg hi];exact Bm h.2 t
theorem Inv.enter{fr fr':Fr}{H H':AHeap}{w:World}{γ:cQ}{a:Act}(h:Inv w0 γ0 H0 ds n w γ H (Fr.get fr) a)(he:enter H0.nx fr H fr' H'):Inv w0 γ0 H0 ds n w γ H' (Fr.get fr') a:=by
 obtain⟨h1,h2⟩:=he
 have hsim:SimF w γ H (Fr.get fr') a:=fun t=>by
  rcases Bm h1 t with hj|hj
  ·rw[hj,Rel];trivial
  ·rw[hj];exact h.sim t
 rcases h2 with rfl|⟨h2,h3,h4,h5⟩
 ·exact⟨h.state,h.ext,hsim,h.size,h.defers⟩
 ·exact⟨h.state.drop h3 h4,h.ext.drop h3 h2,fun t=>Rel.drop h3 _ _ (zE h5 t) (hsim t),h.size,h.defers⟩
theorem Inv.enterB{W:Option Bool}{fr fr':Fr}{H H':AHeap}{w:World}{γ:cQ}{a:Act}(h:Inv w0 γ0 H0 ds n w γ H (Fr.get fr) a)(he:enterB W H0.nx fr H fr' H'):Inv w0 γ0 H0 ds n w γ H' (Fr.get fr') a:=by
 match W,he with
 |none,he=>obtain⟨rfl,rfl⟩:=he;exact h
 |some false,he=>exact h.enter he
 |some true,he=>exact h.enterW he
theorem jw(hm:P.follows .mixedOrders=true)(hΩ:TblOk P Ω):∀(c:Code)(K:Conts)(Q:Exit→Act→World→Prop),jJ P Ω K.T n c=true→PQ w0 γ0 H0 ds n K Q →
 ∀ fr H w γ a,Inv w0 γ0 H0 ds n w γ H (Fr.get fr) a→aw P Ω c K fr H→c.wp P Q a w
 |.skip,K,Q,_,hq,fr,H,w,γ,a,hi,h=>wp_skip (hq.n _ _ _ _ _ hi h)
 |.region id ops true,K,Q,hok,hq,fr,H,w,γ,a,hi,h=>by
  simp only[jJ,Bool.and_eq_true]at hok
  simp only[aw,wq]at h
  split at h
  ·exact j0 hm hΩ hok.1 hq.n hi.draw (jk hok.2) h
  ·rcases h with⟨fr',H',he,h⟩|⟨s,j,sz,cs,h1,h2,h⟩|⟨s,y,h1,h⟩|⟨id,cs,cs',h1,h2,h⟩|⟨id,cs,h1,h⟩|⟨s,id,off,j,sz,cs,h1,h2,h3,h⟩|⟨id,j,mid,off,sz,len,cs,ms,h1,h2,h3,h4,h5,h⟩
   ·rw[hq.n0]at he
    exact j0 hm hΩ hok.1 hq.n (hi.enterW he).draw (jk hok.2) h
   ·obtain⟨γ',hi'⟩:=hi.nilOwn (sz:=sz) h1 h2
    exact j0 hm hΩ hok.1 hq.n hi'.draw (jk hok.2) h
   ·exact j0 hm hΩ hok.1 hq.n (hi.weakSlot h1).draw (jk hok.2) h
   ·exact j0 hm hΩ hok.1 hq.n (hi.weakObj h1 h2).draw (jk hok.2) h
   ·obtain⟨k,hi'⟩:=hi.room h1
    exact j0 hm hΩ hok.1 hq.n hi'.draw (jk hok.2) (h k)
   ·obtain⟨γ',hi'⟩:=hi.cellOwn (sz:=sz) h1 h2 h3
    exact j0 hm hΩ hok.1 hq.n hi'.draw (jk hok.2) h
   ·exact j0 hm hΩ hok.1 hq.n (hi.weakMs h1 h2 h3 h4 h5).draw (jk hok.2) h
 |.region id ops false,K,Q,hok,hq,fr,H,w,γ,a,hi,h =>
  wp_region_list (sS hΩ hq.n0 hq.n hq.p _ ops.toList (fun o ho=>List.all_eq_true.1 hok o ho) _ _ _ _ _ hi h)
 |.seq x y,K,Q,hok,hq,fr,H,w,γ,a,hi,h=>by
  simp only[jJ,Bool.and_eq_true]at hok
  refine wp_seq (jw hm hΩ x {K with n:=aw P Ω y K} (Exit.then (y.wp P Q) Q) hok.1 ⟨hq.n0,?_,hq.r,hq.x,hq.p⟩ _ _ _ _ _ hi h)
  exact fun fr H w γ a hi h=>jw hm hΩ y K Q hok.2 hq _ _ _ _ _ hi h
 |.cond c x y,K,Q,hok,hq,fr,H,w,γ,a,hi,h=>by
  simp only[jJ,Bool.and_eq_true]at hok
  simp only[aw]at h
  split at h
  ·rename_i t ht
   have hc:=hi.sim.eval c
   rw[← je,ht,Rel]at hc
   exact wp_cond_split hc (fun e=>jw hm hΩ x K Q hok.1 hq _ _ _ _ _ hi (h.1 e)) (fun e=>jw hm hΩ y K Q hok.2 hq _ _ _ _ _ hi (h.2 e))
  ·exact h.elim
 |.block id c,K,Q,hok,hq,fr,H,w,γ,a,hi,h=>by
  refine wp_block (jw hm hΩ c {K with x:=fun i fr H=>if i=id then K.n fr H else K.x i fr H} (Exit.inBlock id Q) hok ⟨hq.n0,hq.n,hq.r,?_,hq.p⟩ _ _ _ _ _ hi h)
  intro i fr H w γ a hi h
  simp only[Exit.inBlock]
  dsimp only at h
  split at h
  ·rename_i e;rw[if_pos e];exact hq.n _ _ _ _ _ hi h
  ·rename_i e;rw[if_neg e];exact hq.x _ _ _ _ _ _ hi h
 |.loop c,K,Q,hok,hq,fr,H,w,γ,a,hi,h=>by
  obtain⟨W,A,F,G,I,μ,⟨x0,hI0,he0⟩,hbody⟩:=h
  rw[hq.n0]at he0
  refine wp_loop_ghost (fun k a' w'=>∃ x γ',I x∧μ x=k∧Inv w0 γ0 H0 ds n w' γ' (G x) (Fr.get (F x)) a') (μ x0) ⟨x0,γ,hI0,rfl,hi.enterB he0⟩ ?_
  rintro k a' w' ⟨x,γ',hI,rfl,hi'⟩
  refine jw hm hΩ c {K with n:=fun fr' H'=>∃ a',I a'∧μ a'<μ x∧AL.enterB W K.n0 fr' H' (F a') (G a')} (Exit.then (fun a' w'=>∃ n',n'<μ x∧∃ x γ',I x∧μ x=n'∧Inv w0 γ0 H0 ds n w' γ' (G x) (Fr.get (F x)) a') Q) hok ⟨hq.n0,?_,hq.r,hq.x,hq.p⟩ _ _ _ _ _ hi' (hbody x hI)
  rintro fr2 H2 w2 γ2 a2 hi2 ⟨x2,hI2,hlt,he2⟩
  rw[hq.n0]at he2
  exact⟨μ x2,hlt,x2,γ2,hI2,rfl,hi2.enterB he2⟩
 |.exit id,K,Q,_,hq,fr,H,w,γ,a,hi,h=>wp_exit (hq.x _ _ _ _ _ _ hi h)
 |.ret,K,Q,_,hq,fr,H,w,γ,a,hi,h=>wp_ret (hq.r _ _ _ _ _ hi h)
 |.scope c,K,Q,hok,hq,fr,H,w,γ,a,hi,h =>
  wp_scope_straight (jw hm hΩ c K (Exit.noGoto Q) hok ⟨hq.n0,hq.n,hq.r,hq.x,hq.p⟩ _ _ _ _ _ hi h)
 |.label l,K,Q,_,hq,fr,H,w,γ,a,hi,h=>wp_label (hq.n _ _ _ _ _ hi h)
 |.goto l,K,Q,_,hq,fr,H,w,γ,a,hi,h=>h.elim
 |.rangeFunc f ps x y,K,Q,_,hq,fr,H,w,γ,a,hi,h=>h.elim
 |.refuse s,K,Q,_,hq,fr,H,w,γ,a,hi,h=>h.elim
theorem tc:∀(k:Nat)(args:Wz)(t:Nat),Fr.get (s5 k args) t=if k≤t then(args[t-k]?).getD .junk else .junk
 |k,[],t=>by simp[s5,Fr.get]
 |k,x::args,t=>by
  simp only[s5,Fr.get]
  by_cases h:k=t
  ·subst h;simp
  ·rw[if_neg h,tc (k+1) args t]
   by_cases h2:k≤t
   ·rw[if_pos Xa,if_pos h2]
    have:t-k=(t-(k+1))+1:=Xa
    rw[this];simp
   ·rw[if_neg Xa,if_neg h2]
theorem ACalls.of_aw (hm : P.follows .mixedOrders = true) (hΩ : TblOk P Ω) {f : FuncId} {fn : Func} {c : Code} (hf : P.funcs[f]? = some fn) (hname : (fn.name == "runtime.NumGoroutine") = false)
 (hb:fn.body=some c) {rs:List ResultVar} (hrs:fn.results.toList=rs) {T:Nat→List (List Nat)} (hok:jJ P Ω T fn.ntmps c=true) {args:Wz} (ha:args.length≤fn.ntmps) {H H1:AHeap} {e:AEnd} (hnx:H.nx≤H1.nx)
 (h:H.Closed→(∀ x∈args,x.lt H.nx)→aw P Ω c (sQ P rs H.nx e H1 T) (s5 0 args) H):ACalls P f args H e H1:=by
 subst hrs
 intro w γ vs hs hr
 replace h:=h hs.closed fun x hx=>by
  exact W37
 rw[oS hf hname hb]
 refine calls_of_wp hf hb (jw (w0:=w) (γ0:=γ) (H0:=H) (ds:=[]) (n:=fn.ntmps) hm hΩ c _ _ hok ⟨rfl,?_,?_,?_,?_⟩ (s5 0 args) H w γ _ ⟨hs,Ext.refl _ _ _,?_,?_,rfl⟩ h)
 case refine_5 =>
  intro t
  rw[tc,if_pos (Nat.zero_le _),Nat.sub_zero]
  by_cases ht:t<args.length
  ·exact W14
  ·rw[List.getElem?_eq_none Xa,Option.getD_none,Rel];trivial
 case refine_6=>simp[hr.1];omega
 all_goals clear h
 case refine_4 =>
  intro fr x v H' w' γ' a' hi h4 h5
  have h1:=hi.state
  have h2:=hi.ext
  refine⟨hi.defers,?_⟩
  cases e with
  |ret y=>exact h5.elim
  |panic y =>
   obtain⟨g1,g2,g3,g4⟩:=h5
   exact⟨γ',h1.drop g2 g3,h2.drop g2 hnx,v,rfl,yZ h1 g2 h4 g1 g4⟩
 case refine_3=>intro id fr H' w' γ' a' _ h5;exact h5.elim
 all_goals
  intro fr H' w' γ' a' hi h5
  refine⟨hi.defers,?_⟩
  simp only[sQ,iF]at h5
  split at h5
  ·rename_i y c' xs hres
   obtain⟨hc,g1,g2,g3,g4⟩:=h5
   obtain⟨v,hv,hrel⟩:=mi hi.state hi.sim hres hc
   exact⟨v,hv,γ',hi.state.drop g2 g3,hi.ext.drop g2 hnx,by
    show Rel w' γ' H1 y v
    exact yZ hi.state g2 hrel g1 g4⟩
  ·exact h5.elim
theorem ACallsP.of_aw (hm : P.follows .mixedOrders = true) (hΩ : TblOk P Ω) {f : FuncId} {fn : Func} {c : Code} (hf : P.funcs[f]? = some fn) (hname : (fn.name == "runtime.NumGoroutine") = false)
 (hb:fn.body=some c) {rs:List ResultVar} (hrs:fn.results.toList=rs) {T:Nat→List (List Nat)} (hok:jJ P Ω T fn.ntmps c=true) {args:Wz} (ha:args.length≤fn.ntmps) {H:AHeap} {Q:By1}
 (h:H.Closed→(∀ x∈args,x.lt H.nx)→aw P Ω c (wI P rs H.nx Q T) (s5 0 args) H):ACallsP P f args H Q:=by
 subst hrs
 intro w γ vs hs hr
 replace h:=h hs.closed fun x hx=>by
  exact W37
 rw[oS hf hname hb]
 refine calls_of_wp hf hb (jw (w0:=w) (γ0:=γ) (H0:=H) (ds:=[]) (n:=fn.ntmps) hm hΩ c _ _ hok ⟨rfl,?_,?_,?_,?_⟩ (s5 0 args) H w γ _ ⟨hs,Ext.refl _ _ _,?_,?_,rfl⟩ h)
 case refine_5 =>
  intro t
  rw[tc,if_pos (Nat.zero_le _),Nat.sub_zero]
  by_cases ht:t<args.length
  ·exact W14
  ·rw[List.getElem?_eq_none Xa,Option.getD_none,Rel];trivial
 case refine_6=>simp[hr.1];omega
 all_goals clear h
 case refine_4=>intro fr x v H' w' γ' a' hi h4 h5;exact h5.elim
 case refine_3=>intro id fr H' w' γ' a' _ h5;exact h5.elim
 all_goals
  intro fr H' w' γ' a' hi h5
  refine⟨hi.defers,?_⟩
  simp only[wI,kc]at h5
  split at h5
  ·rename_i c' xs hres
   obtain⟨hc,x,H1,hq,hnx,g1,g2,g3,g4⟩:=h5
   obtain⟨v,hv,hrel⟩:=mi hi.state hi.sim hres hc
   exact⟨v,hv,γ',x,H1,hq,hi.state.drop g2 g3,hi.ext.drop g2 hnx,by
    show Rel w' γ' H1 x v
    exact yZ hi.state g2 hrel g1 g4⟩
  ·exact h5.elim
end
theorem ACalls.fW{P : Program}{Ω : Tbl}(hm : P.follows .mixedOrders=true)(hΩ : TblOk P Ω){f : FuncId}{fn : Func}{c : Code}(hf : P.funcs[f]? =some fn)(rs : List ResultVar){args : Wz}{H H1 : AHeap}{e : AEnd}(hnx : H.nx≤H1.nx)
 {T : Nat → List (List Nat)} (hname : (fn.name == "runtime.NumGoroutine") = false := by kernel_rfl) (hb : fn.body = some c := by rfl) (hrs : fn.results.toList = rs := by rfl) (hok : jJ P Ω T fn.ntmps c = true := by kernel_rfl)
 (ha : Nat.ble args.length fn.ntmps=true :=by rfl)
 (h : H.Closed→(∀ x∈args,x.lt H.nx)→aw P Ω c (KI P Ω (sQ P rs H.nx e H1 T) []) (s5 0 args) H) : ACalls P f args H e H1 :=
 ACalls.of_aw hm hΩ hf hname hb hrs hok (Nat.le_of_ble_eq_true ha) hnx h
theorem ACallsP.fS{P : Program}{Ω : Tbl}(hm : P.follows .mixedOrders=true)(hΩ : TblOk P Ω){f : FuncId}{fn : Func}{c : Code}(hf : P.funcs[f]? =some fn)(rs : List ResultVar){args : Wz}{H : AHeap}{Q : AV→AHeap→Prop}
 {T : Nat → List (List Nat)} (hname : (fn.name == "runtime.NumGoroutine") = false := by kernel_rfl) (hb : fn.body = some c := by rfl) (hrs : fn.results.toList = rs := by rfl) (hok : jJ P Ω T fn.ntmps c = true := by kernel_rfl)
 (ha : Nat.ble args.length fn.ntmps=true :=by rfl)
 (h : H.Closed→aw P Ω c (KI P Ω (wI P rs H.nx Q T) []) (s5 0 args) H) : ACallsP P f args H Q :=
 ACallsP.of_aw hm hΩ hf hname hb hrs hok (Nat.le_of_ble_eq_true ha) fun a _ => h a
end Go.AL
