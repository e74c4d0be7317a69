/- Lemmas of the proof; no condition. -/
import Derived.Test.YtpbnggedofiinaaGreatAlSound15
import Derived.Laws.Sem
import Derived.Scope
import Derived.Deep.LoopGhost
set_option linter.all false
set_option linter.unusedSectionVars false
namespace Go.AL
theorem Ext.drop {w w':World} {γ γ':br} {H0 H H':AHeap} (h:Ext w γ H0 w' γ' H) (hl:H'.Le H) (hn:H0.nx≤H'.nx):Ext w γ H0 w' γ' H' where
 os:=h.os
 tape:=h.tape
 output:=h.output
 size:=h.size
 nx:=hn
 block:=h.block
 imm:=fun b e hb hi=>(h.imm b e hb hi).drop hl
 un:=h.un
 none:=fun id hid hn=>by
  obtain ⟨h1,h2⟩:=h.none id hid hn
  refine ⟨?_,h2⟩
  cases hg:H'.get id with
  |none=>rfl
  |some o=>have:=hl.get _ _ hg;rw [h1] at this;cases this
 keep:=fun id o ho hb=>⟨(h.keep id o ho hb).1,(h.keep id o ho hb).2.drop hl⟩
 bufs:=fun id sz n ho sz' n' h'=>h.bufs id sz n ho sz' n' (hl.get _ _ h')
 bufk:=fun id sz n ho o h'=>h.bufk id sz n ho o (hl.get _ _ h')
section
variable {P:Program} {w:World} {γ:br} {H H1:AHeap}
theorem BC (hs:State w γ H) (hl:H1.Le H):∀ {xs ys:List AV},wkL H H1 xs ys→ys.length=xs.length∧∀ (j:Nat) (hj:j<ys.length),∃ hj':j<xs.length,wk1 H H1 xs[j] ys[j]
 |[],[],_=>⟨rfl,fun j hj=>absurd hj (by simp)⟩
 |x::xs,y::ys,h=>by
  obtain ⟨h1,h2⟩:=BC hs hl h.2
  refine ⟨by simp [h1],fun j hj=>?_⟩
  cases j with
  |zero=>exact ⟨by simp,h.1⟩
  |succ j=>obtain ⟨h3,h4⟩:=h2 j (by simpa using hj);exact ⟨by simpa using h3,h4⟩
 |[],_::_,h=>h.elim
 |_::_,[],h=>h.elim
theorem wx (hs:State w γ H) (hl:H1.Le H) {x y:AV} {v:Value} (h:Rel w γ H x v) (hw:wk2 H H1 x y) (hlt:y.lt H1.nx):Rel w γ H1 y v:=by
 unfold wk2 at hw
 split at hw
 ·rename_i xs ys
  obtain ⟨hlen,hj⟩:=BC hs hl hw
  rw [AV.lt] at hlt
  rw [Rel] at h ⊢
  obtain ⟨C,hv,hsz,hc⟩:=h
  refine ⟨C,hv,by omega,fun j hjl=>?_⟩
  obtain ⟨hj',hw'⟩:=hj j hjl
  obtain ⟨u,hu,hr⟩:=hc j hj'
  exact ⟨u,hu,sq hs hl hr hw' (hlt j hjl)⟩
 ·exact sq hs hl h hw hlt
theorem yR (hs:State w γ H) (hl:H1.Le H):∀ {xs ys:List AV},ak H H1 xs ys→ys.length=xs.length∧∀ (j:Nat) (hj:j<ys.length),∃ hj':j<xs.length,wk2 H H1 xs[j] ys[j]
 |[],[],_=>⟨rfl,fun j hj=>absurd hj (by simp)⟩
 |x::xs,y::ys,h=>by
  obtain ⟨h1,h2⟩:=yR hs hl h.2
  refine ⟨by simp [h1],fun j hj=>?_⟩
  cases j with
  |zero=>exact ⟨by simp,h.1⟩
  |succ j=>obtain ⟨h3,h4⟩:=h2 j (by simpa using hj);exact ⟨by simpa using h3,h4⟩
 |[],_::_,h=>h.elim
 |_::_,[],h=>h.elim
theorem wu (hs:State w γ H) (hl:H1.Le H) {x y:AV} {v:Value} (h:Rel w γ H x v) (hw:wk H H1 x y) (hlt:y.lt H1.nx):Rel w γ H1 y v:=by
 unfold wk at hw
 split at hw
 ·rename_i xs ys
  obtain ⟨hlen,hj⟩:=yR hs hl hw
  rw [AV.lt] at hlt
  rw [Rel] at h ⊢
  obtain ⟨C,hv,hsz,hc⟩:=h
  refine ⟨C,hv,by omega,fun j hjl=>?_⟩
  obtain ⟨hj',hw'⟩:=hj j hjl
  obtain ⟨u,hu,hr⟩:=hc j hj'
  exact ⟨u,hu,wx hs hl hr hw' (hlt j hjl)⟩
 ·exact wx hs hl h hw hlt
theorem AF (hs:State w γ H) {fr:Fr} {a:Act} (hf:SimF w γ H (Fr.get fr) a) {r:ResultVar} {c:Prop} {x:AV} (h:qC P fr H r=some (c,x)) (hc:c) :
 ∃ v,((match r with|.tmp t=>pure (a.tmps.getD t undef)|.cell b t=>do loadVar t (← asAddr (a.tmps.getD b undef)):Sem Value).run P w)=.ok v w∧Rel w γ H x v:=by
 cases r with
 |tmp t =>
  simp only [qC] at h
  cases h
  exact ⟨_,by simp,hf t⟩
 |cell b t =>
  simp only [qC] at h
  cases hl:zjg P t (Fr.get fr b) H with
  |none=>rw [hl] at h;cases h
  |some r =>
   rw [hl] at h;cases h
   have hb:=hf b
   obtain ⟨_,v,h1,h4⟩:=qv hs hb hl hc
   have hp:∃ ad,a.tmps.getD b undef=.pointer (some ad):=by
    unfold zjg at hl
    split at hl
    ·rename_i heq;rw [heq,Rel] at hb;obtain ⟨_,_,blk,_,hv⟩:=hb;exact ⟨_,hv⟩
    ·rename_i heq;rw [heq,Rel] at hb;obtain ⟨blk,off,C,ty,fr,hv,_⟩:=hb;exact ⟨_,hv⟩
    ·cases hl
   obtain ⟨ad,had⟩:=hp
   rw [had] at h1
   refine ⟨v,?_,h4⟩
   simp only [had]
   simpa [Instr.loadAt,Instr.sureAddr,asAddr] using h1
end
section
variable {P:Program} {w:World} {γ:br} {H:AHeap}
theorem zY (hs:State w γ H) {s d:TypeId} {id off sz len:Nat} {cs:List AV} {v:Value} {K:AV→AHeap→Prop} (hv:Rel w γ H (.ms id off sz len) v) (hcs:ai H id=some cs) (h:aY P s d sz len off H cs K) :
 ∃ x,Out P w γ H x H ((convert s d v).run P w)∧K x H:=by
 unfold aY at h
 split at h
 ·rename_i e hsd hdd
  obtain ⟨hue',rfl,hby,hK⟩:=h
  refine ⟨_,?_,hK⟩
  have hu1:=cU hsd
  have hu2:=iG hdd
  have hue:=rp hue'
  have hseen:=xj hs hv hcs
  generalize hxs:bK 1 len (cs.drop off)=xs at *
  refine Out.same hs (v:=.string ⟨(xs.map AL.byteOf).toArray⟩) ?_ (tY _)
  rcases hseen with ⟨⟨a,rfl⟩,rfl⟩|⟨blk,off',cap,C,ty,fr,rfl,hle,hb,hcap,hall,hr⟩
  ·cases a with
   |none=>simp [convert,aH hu1,aH hu2,aH hue,Conv.bytesToString];rfl
   |some a =>
    rw [run_convert_bytes_string w s d e _ 0 0 hu1 hue hu2]
    simp [Conv.bytesToString,loadCells,loadCellsFrom];rfl
  ·have hflat:flat xs=xs:=by
    clear hr hle hxs hK hcap hv
    induction xs with
    |nil=>rfl
    |cons x xs ih =>
     obtain ⟨n,rfl⟩:=hby x (by simp)
     show _++flat xs=_
     rw [ih (fun y hy=>hby y (by simp [hy])) (fun y hy=>hall y (by simp [hy]))]
     rfl
   rw [hflat] at hr
   let num:AV→Int:=fun x=>match x with|.int _ n=>n|_=>0
   have:=run_convert_bytes_arg (P:=P) w s e hu1 hue blk off' xs.length cap (xs.map num) (by simp) (fun i hi=>by
    obtain ⟨u,hu,hr⟩:=hr i hi
    obtain ⟨n,hn⟩:=hby xs[i] (List.getElem_mem hi)
    rw [hn] at hr
    rw [pZ hb,hu,dk hr]
    simp [List.getD,hi,hn,num]) d hu2
   rw [this]
   congr 2
   show ByteArray.mk _=_
   congr 2
   rw [List.map_map]
   apply List.map_congr_left
   intro x hx
   obtain ⟨n,rfl⟩:=hby x hx
   rfl
 ·exact h.elim
theorem AR (hs:State w γ H) {sz n:Nat} {ds:List AV} {run:Result Value} {w':World} {cap:Nat} {C:Array Value} {ty:TypeId} (hos:w'.os=w.os) (htape:w'.tape=w.tape) (hout:w'.output=w.output) (hsz:w'.heap.size=w.heap.size+1) (hold:∀ b,b<w.heap.size→w'.heap[b]?=w.heap[b]?)
 (hnew:w'.heap[w.heap.size]?=some (.cells C ty (0,0))) (hle:n≤cap) (hC:cap*sz≤C.size) (hl:ds.length≤C.size) (hr:AtR (Rel w γ H) ds C 0) (hrun:run=.ok (.slice (some ⟨w.heap.size,0,none⟩) n cap) w') :
 ∃ k,Out P w γ H (.ms H.nx 0 sz n) (H.push (.cells (ds++List.replicate k .junk))) run:=by
 have hlen:(ds++List.replicate (C.size - ds.length) AV.junk).length=C.size:=by
  rw [List.length_append,List.length_replicate];omega
 have he:=fh hs hos htape hout (by omega) hold (some w.heap.size) (fun b h=>by cases h;exact Nat.le_refl _) (.cells (ds++List.replicate (C.size - ds.length) .junk))
 have hth:∀ a b,fL (0,0) a b:=fun a b p p1 p2 h=>absurd h.2 (Nat.not_lt_zero p)
 refine ⟨C.size - ds.length,_,w',_,hrun,dM hs (fun b h=>by cases h;omega) he hold (.inl ⟨_,C,ty,(0,0),_,rfl,rfl,hnew,hlen,?_,hth _ _⟩),he,?_⟩
 ·intro j hj
  by_cases hjf:j<ds.length
  ·obtain ⟨u,hu,hru⟩:=hr j hjf
   refine ⟨u,hu,?_⟩
   rw [List.getElem_append_left hjf];exact hru
  ·have hjC:j<C.size:=by rw [← hlen];exact hj
   refine ⟨C[j],by simp [hjC],?_⟩
   rw [List.getElem_append_right (by omega),List.getElem_replicate,Rel];trivial
 ·rw [Rel]
  refine ⟨by rw [AHeap.nx_push];omega,fun sz n h=>(by rw [AHeap.get_push_new] at h;cases h),.inr ⟨w.heap.size,cap,C,ty,(0,0),bJ _ _ _,rfl,hle,hnew,by omega,hth _ _⟩⟩
theorem yC (hs:State w γ H) {t t2:TypeId} {id off sz len:Nat} {x:AV} {vs vx:Value} {K:AV→AHeap→Prop} (hsr:Rel w γ H (.ms id off sz len) vs) (hx:Rel w γ H x vx) (h:EQ P t t2 id off sz len x H K)
 (ts:Array TypeId) (h0:ts[0]?=some t) (h1:ts[1]?=some t2) (ty:TypeId):∃ y H',Out P w γ H y H' ((Builtin.append_ ts ty #[vs,vx]).run P w)∧K y H':=by
 unfold EQ at h
 split at h
 ·rename_i e hd
  split at h
  ·rename_i te hte
   split at h
   ·rename_i zs cs hadd hcs
    obtain ⟨⟨ht2,hpos,hzl,rfl⟩,⟨hne,hbytes,hmax,hone⟩,hin,hnew⟩:=h
    have hte0:=hte
    obtain ⟨ed,einf,ez,hed,heinf,hez,rfl⟩:=bO hte
    obtain ⟨d2,hu2,hd2⟩:∃ d2,P.underlying t2=some d2∧(d2=.string∨∃ e2,d2=.slice e2):=by
     unfold yI at ht2
     split at ht2
     ·rename_i a ha;exact ⟨_,cU ha,.inr ⟨_,rfl⟩⟩
     ·rename_i ha;exact ⟨_,iG ha,.inl rfl⟩
     ·cases ht2
    have hu:=cU hd
    obtain ⟨us,a1,a2,a3,a4,a5,a6,a7⟩:=i8 (P:=P) hs hte0 hx hadd hone
    dsimp only at a2 a3 a4 a5 hbytes hpos hzl hin hnew hsr ⊢
    have hezc:ez.cells.size=einf.size:=by
     obtain ⟨z1,_⟩:=dZ (w:=w) (γ:=γ) (H:=H) ez
     rw [z1];exact hzl
    have hpl:0<zs.length:=List.length_pos_iff.2 hne
    have hfl:(flat zs).length=us.size:=by rw [cX a2,a5]
    -- a new row
    have grown:∀ (base:Option Addr) (cap:Nat) (old:Array Value),cap<len+zs.length→vs=.slice base len cap→(Builtin.firstCells einf.size len (.slice base len cap)).run P w.drew=.ok old w.drew→old.size=len*einf.size →
     AtR (Rel w γ H) ((cs.drop off).take (len*einf.size)) old 0→((cs.drop off).take (len*einf.size)).length=len*einf.size→∃ y H',Out P w γ H y H' ((Builtin.append_ ts ty #[vs,vx]).run P w)∧K y H':=by
     rintro base cap old hlt rfl hold ho1 ho2 ho3
     have hrun:=iT (P:=P) (ty:=ty) h0 h1 hu hu2 hd2 heinf a1 a4 (base:=base) (sLen:=len) (sCap:=cap) hlt hbytes hmax hold hez
     have hge:=grownCap_ge w (len+zs.length) cap e
     have hmulg:=Nat.mul_le_mul_right einf.size hge
     have hcs:(old++us++Builtin.zeroCells ez.cells (grownCap w (len+zs.length) cap e - (len+zs.length))).size=grownCap w (len+zs.length) cap e*einf.size:=by
      simp only [Array.size_append,size_zeroCells,ho1,a5,hezc,← Nat.add_mul]
      congr 1;omega
     obtain ⟨k,ho⟩:=AR (P:=P) hs (sz:=einf.size) (n:=len+zs.length) (ds:=(cs.drop off).take (len*einf.size)++flat zs) (w':=w.drew.alloc _) rfl rfl rfl (by simp) (fun b hb=>dB w.drew _ hb) (cZ w.drew _) hge
      (Nat.le_of_eq hcs.symm) (by rw [hcs,List.length_append,ho3,hfl,a5,← Nat.add_mul];exact hmulg) (by
        rw [AtR.append]
        refine ⟨fun j hj=>?_,fun j hj=>?_⟩
        ·obtain ⟨u,hu,hr⟩:=ho2 j hj
         refine ⟨u,?_,hr⟩
         rw [Array.append_assoc,Array.getElem?_append_left (by omega)];exact hu
        ·obtain ⟨u,hu,hr⟩:=a6 j hj
         refine ⟨u,?_,hr⟩
         rw [Array.append_assoc,Array.getElem?_append_right (by omega),Array.getElem?_append_left (by omega),← hu]
         congr 1;omega) hrun
     exact ⟨_,_,ho,hnew k⟩
    obtain ⟨_,_,hdr⟩:=rel_ms.1 hsr
    rcases hdr with ⟨rfl,a,rfl⟩|⟨blk,cap,C,cty,fr,hg,rfl,hle,hb,hcap,hth⟩
    ·refine grown a 0 #[] (by omega) rfl ?_ (by simp) ?_ (by simp)
     ·cases a<;>simp [Builtin.firstCells,loadCells,loadCellsFrom]
     ·intro j hj;simp at hj
    ·obtain ⟨ho,C',cty',fr',_,hb',hcl,hcr,hth2⟩:=iI hs hcs hg
     rw [hb] at hb';cases hb'
     have hmc:=Nat.mul_le_mul_right einf.size hle
     by_cases hfit:len+zs.length≤cap
     ·have hfm:=Nat.mul_le_mul_right einf.size hfit
      have hfm2:=hfm
      rw [Nat.add_mul] at hfm2
      have hrun:=kA (P:=P) (ty:=ty) h0 h1 hu hu2 hd2 heinf a1 a3 (base:=some ⟨blk,off,none⟩) (sLen:=len) (sCap:=cap) hfit
      have hfit2:off+len*einf.size+(flat zs).length≤cs.length:=by omega
      have he:=ss hs hg hb (C':=db C (off+len*einf.size) us.toList) (ce _ _ _ (by simp;omega)) ho (o':=.cells (splice cs (off+len*einf.size) (flat zs))) (.inl ⟨_,_,rfl,rfl⟩)
      have hst:=nS hs hg hb (C':=db C (off+len*einf.size) us.toList) (ce _ _ _ (by simp;omega)) ho he (.inl ⟨_,rfl,by rw [dj _ _ _ hfit2,ce _ _ _ (by simp;omega)];exact hcl,
       hcr.splice (by simpa using a6) (by simp [hfl]) hfit2 (Nat.le_of_eq hcl),by rw [dj _ _ _ hfit2];exact hth2⟩)
      have hstore:=fB (P:=P) blk (off+len*einf.size) cty fr us.toList 0 C w hb (by simp;omega) a7 (fun p p1 p2=>hth2 p (by omega) (by simp at p2;omega))
      refine ⟨_,_,⟨.slice (some ⟨blk,off,none⟩) (len+zs.length) cap,_,γ,?_,hst,he,?_⟩,hin (by omega)⟩
      ·rw [hrun]
       simp only [fA]
       rw [hstore]
       simp [db]
      ·rw [Rel]
       refine ⟨by rw [AHeap.nx_set];exact AHeap.get_lt ho,fun sz n h=>(by rw [AHeap.get_set_same _ _ (AHeap.get_lt ho)] at h;cases h),.inr ⟨blk,cap,_,cty,fr,hg,rfl,hfit,kM _ _ _ _ _ _ hb,by rw [ce _ _ _ (by simp;omega)];exact hcap,hth⟩⟩
     ·have hloff:((cs.drop off).take (len*einf.size)).length=len*einf.size:=by rw [List.length_take,List.length_drop];omega
      refine grown (some ⟨blk,off,none⟩) cap (C.extract off (off+len*einf.size)) (by omega) rfl ?_ (by simp;omega) ?_ hloff
      ·simp only [Builtin.firstCells]
       exact gS (w:=w.drew) hb (by omega)
      ·refine AtR.extract (fun j hj=>?_) hloff
       have hj':j<len*einf.size:=by rw [hloff] at hj;exact hj
       obtain ⟨u,hu,hr⟩:=hcr (off+j) (by omega)
       refine ⟨u,by rw [← hu];congr 1;omega,?_⟩
       simpa using hr
   ·exact h.elim
  ·exact h.elim
 ·exact h.elim
theorem wm (hs:State w γ H) {t t2:TypeId} {sz:Nat} {ys:List AV} {k:IntKind} {n:Int} {vs vx:Value} {K:AV→AHeap→Prop} (hsr:Rel w γ H (.slice .nil sz ys) vs) (hx:Rel w γ H (.int k n) vx) (h:zL P t t2 k n H K)
 (ts:Array TypeId) (h0:ts[0]?=some t) (h1:ts[1]?=some t2) (ty:TypeId):∃ y H',Out P w γ H y H' ((Builtin.append_ ts ty #[vs,vx]).run P w)∧K y H':=by
 obtain ⟨a,rfl⟩:∃ a,vs=.slice a 0 0:=by
  rcases rel_slice.1 hsr with ⟨⟨a,rfl⟩,_,_⟩|⟨blk,off,cap,C,ty',fr,rfl,hle,hb,_,_,hm,_⟩
  ·exact ⟨a,rfl⟩
  ·exact hm.elim
 rw [dk hx]
 unfold zL at h
 split at h
 ·rename_i k2 e hd2 hd
  split at h
  ·rename_i te hte
   obtain ⟨ed,einf,ez,hed,heinf,hez,rfl⟩:=bO hte
   obtain ⟨⟨hpos,hzl⟩,⟨rfl,hp,hn,hb⟩,hK⟩:=h
   dsimp only at hpos hzl hb hK ⊢
   obtain ⟨n,rfl⟩:=Int.eq_ofNat_of_zero_le (show 0≤n by omega)
   simp only [Int.toNat_natCast] at hK
   have hold:(Builtin.firstCells einf.size 0 (.slice a 0 0)).run P w.drew=.ok #[] w.drew:=by
    cases a<;>simp [Builtin.firstCells,loadCells,loadCellsFrom]
   have hnb:n*einf.bytes≤140737488355328:=Nat.le_trans (Nat.mul_le_mul (show n≤1000000 by omega) hb) (by decide)
   have hrun:=qA (w:=w) (P:=P) (ty:=ty) h0 h1 (cU hd) (rp hd2) heinf (n:=n) (by omega) (by omega) hb hpos hnb (base:=a) hez hold
   obtain ⟨z1,z2⟩:=dZ (w:=w) (γ:=γ) (H:=H) ez
   have hezc:ez.cells.size=einf.size:=by rw [z1,hzl]
   have hzc:=oB (w:=w) (γ:=γ) (H:=H) n z1.symm z2
   have hge:=grownCap_ge w n 0 e
   have hsz:(#[]++Builtin.zeroCells ez.cells n++Builtin.zeroCells ez.cells (grownCap w n 0 e - n)).size=grownCap w n 0 e*einf.size:=by
    simp only [Array.size_append,size_zeroCells,hezc,List.size_toArray,List.length_nil,Nat.zero_add,← Nat.add_mul]
    congr 1;omega
   have hdl:(List.replicate n (ofValue ez).cells).flatten.length=n*einf.size:=by simp [hzl]
   obtain ⟨j,ho⟩:=AR (P:=P) hs (sz:=einf.size) (n:=n) (ds:=(List.replicate n (ofValue ez).cells).flatten) (w':=w.drew.alloc _) rfl rfl rfl (by simp) (fun b hb=>dB w.drew _ hb) (cZ w.drew _) hge
    (Nat.le_of_eq hsz.symm) (by rw [hsz,hdl];exact Nat.mul_le_mul_right _ hge) (by
      intro j hj
      obtain ⟨u,hu,hr⟩:=hzc j hj
      refine ⟨u,?_,hr⟩
      have hjs:0+j<(Builtin.zeroCells ez.cells n).size:=by
       rw [size_zeroCells,hezc];omega
      rw [Array.empty_append,Array.getElem?_append_left hjs];exact hu) hrun
   exact ⟨_,_,ho,hK j⟩
  ·exact h.elim
 ·exact h.elim
theorem He (hs:State w γ H) (sz:Nat):Out P w γ H (.ms H.nx 0 sz 0) (H.push (.cells [])) (.ok (.slice none 0 0) w):=by
 refine ⟨_,w,_,rfl,tn hs (fun x hx=>by cases hx),fh hs rfl rfl rfl (Nat.le_refl _) (fun _ _=>rfl) none (fun b h=>by cases h) _,?_⟩
 rw [Rel]
 exact ⟨by rw [AHeap.nx_push];omega,fun sz n h=>(by rw [AHeap.get_push_new] at h;cases h),.inl ⟨rfl,_,rfl⟩⟩
theorem A9 {sz:Nat} {ys:List AV} {v:Value} (h:Rel w γ H (.slice .nil sz ys) v):ys=[]∧∃ a,v=.slice a 0 0:=by
 rcases rel_slice.1 h with ⟨⟨a,rfl⟩,h,_⟩|⟨blk,off,cap,C,ty',fr,rfl,hle,hb,_,_,hm,_⟩
 ·exact ⟨h,a,rfl⟩
 ·exact hm.elim
theorem j6 (H:AHeap) (i j:Nat):(H.del i).get j=if j=i then none else H.get j:=by
 unfold AHeap.get AHeap.del
 by_cases h:j=i
 ·simp [h]
 ·simp [h]
theorem kJ {H:AHeap} {id sz n j:Nat} {o:AObj} (h:((H.del id).push (.buf sz n)).get j=some o):(j=H.nx∧o=.buf sz n)∨(j<H.nx∧j≠id∧H.get j=some o):=by
 rcases AHeap.get_push_inv _ _ h with ⟨h1,h2⟩|⟨h1,h2⟩
 ·exact .inl ⟨h1,h2⟩
 ·rw [j6] at h2
  split at h2
  ·cases h2
  ·rename_i hne;exact .inr ⟨h1,hne,h2⟩
section
variable (hs:State w γ H) {id:Nat} {cs:List AV} (ho:H.get id=some (.cells cs)) (sz n:Nat)
include hs ho
theorem si:Ext w γ H w (upd γ H.nx (γ id)) ((H.del id).push (.buf sz n)) where
 os:=rfl
 tape:=rfl
 output:=rfl
 size:=Nat.le_refl _
 nx:=by rw [AHeap.nx_push];show H.nx≤H.nx+1;omega
 block:=fun b C ty fr h=>⟨C,h,rfl,fun _ _ _ _=>rfl⟩
 imm:=fun b e hb he j o hj hg=>by
  rcases kJ hj with ⟨rfl,rfl⟩|⟨hlt,hne,hj⟩
  ·rw [bJ] at hg
   obtain ⟨sz',n',h,_⟩:=he id _ ho hg
   cases h
  ·rw [bL _ _ _ _ (by omega)] at hg
   exact he _ _ hj hg
 un:=fun _ _ _=>rfl
 none:=fun j hj hn=>by
  refine ⟨?_,bL _ _ _ _ (by omega)⟩
  have e:((H.del id).push (.buf sz n)).get j=(H.del id).get j:=AHeap.get_push_lt (H.del id) _ hj
  rw [e,j6,hn];split<;>rfl
 keep:=fun j o hj hb=>by
  have hlt:=AHeap.get_lt hj
  refine ⟨bL _ _ _ _ (by omega),fun sz' n' h=>?_⟩
  rcases kJ h with ⟨rfl,_⟩|⟨_,_,h⟩
  ·omega
  ·rw [hj] at h;exact hb _ _ (Option.some.inj h)
 bufs:=fun j sz0 n0 hj sz' n' h=>by
  have hlt:=AHeap.get_lt hj
  rcases kJ h with ⟨rfl,_⟩|⟨_,_,h⟩
  ·omega
  ·rw [hj] at h;cases h;exact ⟨rfl,Nat.le_refl _,fun _=>bL _ _ _ _ (by omega)⟩
 bufk:=fun j sz0 n0 hj o h=>by
  have hlt:=AHeap.get_lt hj
  rcases kJ h with ⟨rfl,_⟩|⟨_,_,h⟩
  ·omega
  ·rw [hj] at h;cases h;exact ⟨_,_,rfl⟩
theorem u0:State w (upd γ H.nx (γ id)) ((H.del id).push (.buf sz n)) where
 inj:=fun i j oi oj b hi hj gi gj=>by
  rcases kJ hi with ⟨rfl,_⟩|⟨hli,hni,hi⟩<;>rcases kJ hj with ⟨rfl,_⟩|⟨hlj,hnj,hj⟩
  ·rfl
  ·rw [bJ] at gi
   rw [bL _ _ _ _ (by omega)] at gj
   exact absurd (hs.inj _ _ _ _ b hj ho gj gi) hnj
  ·rw [bJ] at gj
   rw [bL _ _ _ _ (by omega)] at gi
   exact absurd (hs.inj _ _ _ _ b hi ho gi gj) hni
  ·rw [bL _ _ _ _ (by omega)] at gi gj
   exact hs.inj i j oi oj b hi hj gi gj
 obj:=fun j o hj=>by
  rcases kJ hj with ⟨rfl,rfl⟩|⟨hlt,hne,hj⟩
  ·intro b hb;rw [bJ] at hb;exact hs.lt ho hb
  ·exact (hs.obj j o hj).mono (si hs ho sz n) (bL _ _ _ _ (by omega)) fun _ _ _ h=>h
theorem BR {x:AV} {v:Value} (h:Rel w γ H x v):Rel w (upd γ H.nx (γ id)) ((H.del id).push (.buf sz n)) (aV id H.nx sz n cs x) v:=by
 have he:=si hs ho sz n
 cases x
 case ms i off s len =>
  simp only [aV]
  split
  ·rename_i hc
   obtain ⟨rfl,rfl,rfl,hln⟩:=hc
   have hid:=AHeap.get_lt ho
   have hnew:∀ sz' n',((H.del i).push (.buf s n)).get H.nx=some (.buf sz' n')→sz'=s∧n'=n:=fun sz' n' h=>by
    have e:H.nx=(H.del i).nx:=rfl
    rw [e,AHeap.get_push_new] at h;cases h;exact ⟨rfl,rfl⟩
   rw [Rel] at h
   obtain ⟨_,_,h⟩:=h
   rw [Rel]
   rcases h with ⟨rfl,h⟩|⟨blk,cap,C,ty,fr,hg,rfl,hle,hb,hcap,hth⟩
   ·refine .inl ⟨h,rfl,by rw [AHeap.nx_push];show H.nx<H.nx+1;omega,fun sz' n' h=>(hnew _ _ h).1⟩
   ·obtain ⟨_,C',ty',fr',_,hb',hsz,hr,hth2⟩:=iI hs (show ai H i=some cs by unfold ai;rw [ho]) hg
    rw [hb] at hb';cases hb'
    have hmulc:len*s≤n*s:=Nat.mul_le_mul_right _ hln
    refine .inr ⟨blk,0,cap,C,ty,fr,by rw [dK],by rw [dK];exact hle,hb,hcap,?_,?_,fun k hk=>?_⟩
    ·intro j o hj hgj
     rcases kJ hj with ⟨rfl,rfl⟩|⟨hlt,hne,hj⟩
     ·exact ⟨_,_,rfl,by rw [dK];omega⟩
     ·rw [bL _ _ _ _ (by omega)] at hgj
      exact absurd (hs.inj _ _ _ _ blk hj ho hgj hg) hne
    ·refine ⟨by rw [AHeap.nx_push];show H.nx<H.nx+1;omega,fun sz' n' h=>?_⟩
     obtain ⟨rfl,rfl⟩:=hnew _ _ h
     refine ⟨rfl,by rw [dK];exact hln,fun _=>⟨by rw [bJ];exact hg,rfl,fun p p1 p2=>hth2 p (by omega) (by omega)⟩⟩
    have hlen:k<len:=by rw [dK] at hk;exact hk
    have hmul:(k+1)*s≤cap*s:=Nat.mul_le_mul_right _ (by omega)
    rw [Nat.add_mul] at hmul
    have hcell:∀ j,j<s→∃ u,C[0+k*s+j]?=some u∧Rel w γ H (cs.getD (k*s+j) .junk) u:=fun j hj=>by
     have hlt2:0+k*s+j<C.size:=by omega
     refine ⟨C[0+k*s+j],by simp [hlt2],?_⟩
     have hin:k*s+j<cs.length:=by omega
     obtain ⟨u,hu,hru⟩:=hr (k*s+j) hin
     have:C[0+k*s+j]=u:=by
      have e1:0+(k*s+j)=0+k*s+j:=by omega
      rw [e1] at hu
      exact Option.some.inj ((by simp [hlt2]:some C[0+k*s+j]=C[0+k*s+j]?).trans hu)
     rw [this]
     have e2:cs.getD (k*s+j) .junk=cs[k*s+j]:=by simp [List.getD_eq_getElem?_getD,hin]
     rw [e2];exact hru
    have hget:=mB s len cs k hk
    by_cases h1:s=1
    ·subst h1
     rw [if_pos rfl] at hget
     rw [hget]
     refine ⟨by rw [fq];rfl,fun j hj=>?_⟩
     have hj0:j=0:=by rw [fq] at hj;simpa using hj
     subst hj0
     obtain ⟨u,hu,hru⟩:=hcell 0 (by omega)
     refine ⟨u,hu,?_⟩
     have e3:(kS (cs.getD k .junk)).cells[0]'hj=kS (cs.getD k .junk):=by simp only [fq,List.getElem_cons_zero]
     rw [e3]
     exact (qJ (by simpa using hru)).ext he
    ·rw [if_neg h1] at hget
     rw [hget]
     refine ⟨by simp [AV.cells],fun j hj=>?_⟩
     have hj':j<s:=by simpa [AV.cells] using hj
     obtain ⟨u,hu,hru⟩:=hcell j hj'
     refine ⟨u,hu,Rel.ext he _ _ ?_⟩
     simpa [AV.cells] using hru
  ·exact h.ext he
 all_goals exact h.ext he
end
theorem tO (id nid sz n:Nat) (cs:List AV):∀ (fr:Fr) (t:Nat),Fr.get (aU id nid sz n cs fr) t=aV id nid sz n cs (Fr.get fr t)
 |[],t=>rfl
 |(i,v)::l,t=>by
  simp only [aU,Fr.get]
  split
  ·rfl
  ·exact tO id nid sz n cs l t
end
section
variable {P:Program} {Ω:Tbl} {w0:World} {γ0:br} {H0:AHeap} {ds:List Deferred} {n:Nat}
theorem wQ {m:Nat}:∀ {fr:Fr},ltF m fr→∀ t,(Fr.get fr t).lt m
 |[],_,t=>by simp only [Fr.get];rw [AV.lt]<;>simp
 |(i,v)::l,h,t=>by
  simp only [Fr.get]
  by_cases hi:i=t
  ·rw [if_pos hi];exact h.1
  ·rw [if_neg hi];exact wQ h.2 t
theorem yP {H H':AHeap}:∀ {fr' fr:Fr},cf H H' fr' fr→∀ t,Fr.get fr' t=.junk∨wk2 H H' (Fr.get fr t) (Fr.get fr' t)
 |[],fr,_,t=>.inl rfl
 |(i,v)::l,fr,h,t=>by
  simp only [Fr.get]
  by_cases hi:i=t
  ·subst hi;rw [if_pos rfl];exact .inr h.1
  ·rw [if_neg hi];exact yP h.2 t
theorem Inv.enterW {fr fr':Fr} {H H':AHeap} {w:World} {γ:br} {a:Act} (h:Inv w0 γ0 H0 ds n w γ H (Fr.get fr) a) (he:enterW H0.nx fr H fr' H'):Inv w0 γ0 H0 ds n w γ H' (Fr.get fr') a:=by
 obtain ⟨h2,h3,h4,h5,h1⟩:=he
 exact ⟨h.state.drop h3 h4,h.ext.drop h3 h2,fun t=>by
  rcases yP h1 t with hj|hj
  ·rw [hj,Rel];trivial
  ·exact wx h.state h3 (h.sim t) hj (wQ h5 t),h.size,h.defers⟩
theorem Inv.nilOwn {fr:Fr} {H:AHeap} {w:World} {γ:br} {a:Act} (h:Inv w0 γ0 H0 ds n w γ H (Fr.get fr) a) {s j sz:Nat} {cs:List AV} (h1:Fr.get fr s=.agg cs) (h2:cs[j]?=some (.slice .nil 1 [])) :
 ∃ γ',Inv w0 γ0 H0 ds n w γ' (H.push (.buf sz 0)) (Fr.get ((s,.agg (cs.set j (.slice (.own H.nx) sz [])))::fr)) a:=by
 have hs:=h.state
 have he:=fh hs (w':=w) rfl rfl rfl (Nat.le_refl _) (fun _ _=>rfl) none (fun b h=>by cases h) (.buf sz 0)
 have hst:=dM hs (w':=w) (fun b h=>by cases h) he (fun _ _=>rfl) (.inr (.inl ⟨_,_,rfl⟩))
 refine ⟨_,hst,h.ext.trans he,fun t=>?_,h.size,h.defers⟩
 by_cases ht:s=t
 ·subst ht
  have hr:=h.sim s
  rw [h1,Rel] at hr
  obtain ⟨C,hv,hsz,hc⟩:=hr
  simp only [Fr.get,if_true]
  rw [Rel]
  refine ⟨C,hv,by simpa using hsz,fun k hk=>?_⟩
  have hk':k<cs.length:=by simpa using hk
  obtain ⟨u,hu,hru⟩:=hc k hk'
  refine ⟨u,hu,?_⟩
  by_cases hkj:k=j
  ·subst hkj
   have e:(cs.set k (.slice (.own H.nx) sz []))[k]=.slice (.own H.nx) sz []:=by simp
   rw [e]
   have e2:cs[k]=.slice .nil 1 []:=by rw [List.getElem?_eq_getElem hk'] at h2;exact Option.some.inj h2
   rw [e2] at hru
   rcases rel_slice.1 hru with ⟨⟨a,rfl⟩,_,_⟩|⟨blk,off,cap,C',ty,fr',_,_,_,_,_,hm,_⟩
   ·refine rel_slice.2 (.inl ⟨⟨a,rfl⟩,rfl,by rw [AHeap.nx_push];omega,fun sz' n h=>?_⟩)
    rw [AHeap.get_push_new] at h;cases h;rfl
   ·exact hm.elim
  ·have e:(cs.set j (.slice (.own H.nx) sz []))[k]=cs[k]:=by rw [List.getElem_set_ne (by omega)]
   rw [e];exact hru.ext he
 ·simp only [Fr.get,if_neg ht]
  exact (h.sim t).ext he
theorem qi (w:World) (γ:br) (H:AHeap):∀ (x y:AV) (v:Value),wkD x y→Rel w γ H x v→Rel w γ H y v
 |.agg xs,y,v,h,hr=>by
  cases y with
  |agg ys =>
   rw [wkD] at h
   rw [Rel] at hr ⊢
   obtain ⟨C,hv,hs,hc⟩:=hr
   refine ⟨C,hv,by rw [hs,h.1],fun j hj=>?_⟩
   have hj':j<xs.length:=by rw [h.1];exact hj
   obtain ⟨u,hu,hr⟩:=hc j hj'
   have hlt:=List.sizeOf_lt_of_mem (List.getElem_mem hj')
   exact ⟨u,hu,qi w γ H _ _ u (h.2 j hj' hj) hr⟩
  |_ =>
   rw [wkD] at h
   ·cases h
   all_goals (intros;contradiction)
 |.slice m sz xs,y,v,h,hr=>by
  cases y with
  |slice m' sz' ys =>
   rw [wkD] at h
   rw [Rel] at hr
   rw [Rel]
   rcases h with ⟨hm,rfl,hl,hx⟩|⟨rfl,rfl,rfl,rfl⟩
   ·rcases hr with ⟨ha,h2,h3⟩|⟨blk,off,cap,C,ty,fr,hv,hle,hh,hs,hi,hmk,hc⟩
    ·refine .inl ⟨ha,?_,?_⟩
     ·subst h2;exact List.length_eq_zero_iff.1 hl.symm
     ·rcases hm with rfl|rfl
      ·trivial
      ·exact h3
    ·refine .inr ⟨blk,off,cap,C,ty,fr,by rw [hv,hl],by rw [← hl];exact hle,hh,hs,by rw [← hl];exact hi,?_,fun i hi1=>?_⟩
     ·rcases hm with rfl|rfl
      ·trivial
      ·rw [← hl];exact hmk
     ·have hi2:i<xs.length:=by rw [hl];exact hi1
      obtain ⟨c1,c2⟩:=hc i hi2
      obtain ⟨d1,d2⟩:=hx i hi2 hi1
      refine ⟨by rw [← d1];exact c1,fun j hj=>?_⟩
      have hj2:j<xs[i].cells.length:=by rw [d1];exact hj
      obtain ⟨u,hu,hru⟩:=c2 j hj2
      have h1:=AV.sizeOf_cells (List.getElem_mem hj2)
      have h2:=List.sizeOf_lt_of_mem (List.getElem_mem hi2)
      exact ⟨u,hu,qi w γ H _ _ u (d2 j hj2 hj) hru⟩
   ·rcases hr with ⟨ha,h2,h3⟩|⟨blk,off,cap,C,ty,fr,hv,hle,hh,hs,hi,hmk,hc⟩
    ·exact .inl ⟨ha,rfl,trivial⟩
    ·exact hmk.elim
  |_ =>
   rw [wkD] at h
   ·cases h
   all_goals (intros;contradiction)
 |.int _ _,y,v,h,hr|.bool _,y,v,h,hr|.str _,y,v,h,hr|.ptr _ _,y,v,h,hr|.cptr _,y,v,h,hr|.nilp,y,v,h,hr|.ms _ _ _ _,y,v,h,hr|.mapv _,y,v,h,hr|.nilm,y,v,h,hr|.func _ _ _,y,v,h,hr|.nilf,y,v,h,hr|.iface _ _,y,v,h,hr|.nili,y,v,h,hr|.tup _,y,v,h,hr|.junk,y,v,h,hr=>by
  rw [wkD] at h
  ·subst h;exact hr
  all_goals (intros;contradiction)
termination_by x=>SizeOf.sizeOf x
decreasing_by
 all_goals simp_wf
 all_goals omega
theorem Inv.weakSlot {fr:Fr} {H:AHeap} {w:World} {γ:br} {a:Act} (h:Inv w0 γ0 H0 ds n w γ H (Fr.get fr) a) {s:Nat} {y:AV} (hy:wkD (Fr.get fr s) y):Inv w0 γ0 H0 ds n w γ H (Fr.get ((s,y)::fr)) a:=by
 refine ⟨h.state,h.ext,fun t=>?_,h.size,h.defers⟩
 by_cases ht:s=t
 ·subst ht
  simp only [Fr.get,if_true]
  exact qi _ _ _ _ _ _ hy (h.sim s)
 ·simp only [Fr.get,if_neg ht]
  exact h.sim t
theorem Inv.weakObj {f:Nat→AV} {H:AHeap} {w:World} {γ:br} {a:Act} (h:Inv w0 γ0 H0 ds n w γ H f a) {id:Nat} {cs cs':List AV} (hc:ai H id=some cs) (hw:mW cs cs'):Inv w0 γ0 H0 ds n w γ (H.set id (.cells cs')) f a:=by
 have ho:H.get id=some (.cells cs):=by
  unfold ai at hc
  split at hc
  ·rename_i c hg;cases hc;exact hg
  ·cases hc
 have hid:=AHeap.get_lt ho
 obtain ⟨hl,hwd⟩:=wkDL_iff.1 hw
 have hset:∀ {j x},(H.set id (.cells cs')).get j=some x→(j=id∧x=.cells cs')∨(j≠id∧H.get j=some x):=fun {j x} hg=>by
  rcases AHeap.get_set_inv _ _ hg with ⟨rfl,rfl,_⟩|h2
  ·exact .inl ⟨rfl,rfl⟩
  ·exact .inr h2
 have hne:∀ {j},j≠id→(H.set id (.cells cs')).get j=H.get j:=fun hj=>AHeap.get_set_ne _ _ hj
 have he:Ext w γ H w γ (H.set id (.cells cs')):=by
  refine ⟨rfl,rfl,rfl,Nat.le_refl _,Nat.le_refl _,fun b C ty fr hb=>⟨C,hb,rfl,fun _ _ _ _=>rfl⟩,fun b e hb him j x hg hγ=>?_,fun _ _ _=>rfl,fun j hj hn=>⟨?_,rfl⟩,fun j x hg hb=>⟨rfl,fun sz n hg'=>?_⟩,
   fun j sz n hg sz' n' hg'=>?_,fun j sz n hg x hg'=>?_⟩
  ·rcases hset hg with ⟨rfl,rfl⟩|⟨_,h2⟩
   ·obtain ⟨sz,n,e,_⟩:=him _ _ ho hγ;cases e
   ·exact him j x h2 hγ
  ·rw [hne (fun e=>by subst e;rw [ho] at hn;cases hn)];exact hn
  ·rcases hset hg' with ⟨_,e⟩|⟨_,h2⟩
   ·cases e
   ·rw [hg] at h2;cases h2;exact hb _ _ rfl
  ·rcases hset hg' with ⟨_,e⟩|⟨_,h2⟩
   ·cases e
   ·rw [hg] at h2;cases h2;exact ⟨rfl,Nat.le_refl _,fun _=>rfl⟩
  ·rcases hset hg' with ⟨rfl,e⟩|⟨_,h2⟩
   ·rw [ho] at hg;cases hg
   ·rw [hg] at h2;cases h2;exact ⟨_,_,rfl⟩
 refine ⟨⟨fun i j oi oj b hi hj h1 h2=>?_,fun j x hg=>?_⟩,h.ext.trans he,h.sim.ext he,h.size,h.defers⟩
 ·have up:∀ {i o},(H.set id (.cells cs')).get i=some o→∃ o',H.get i=some o':=fun {i o} hg=>by
   rcases hset hg with ⟨rfl,rfl⟩|⟨_,h2⟩
   ·exact ⟨_,ho⟩
   ·exact ⟨_,h2⟩
  obtain ⟨o1,g1⟩:=up hi
  obtain ⟨o2,g2⟩:=up hj
  exact h.state.inj i j o1 o2 b g1 g2 h1 h2
 ·rcases hset hg with ⟨rfl,rfl⟩|⟨_,h2⟩
  ·rcases h.state.obj _ _ ho with ⟨h1,hz⟩|⟨blk,C,ty,fr,h1,h2,h3,h4,h5⟩
   ·refine .inl ⟨h1,fun x hx=>?_⟩
    obtain ⟨k,hk,rfl⟩:=List.getElem_of_mem hx
    obtain ⟨v,hv⟩:=hz _ (List.getElem_mem (show k<cs.length by rw [hl];exact hk))
    exact ⟨v,fun w γ H=>qi _ _ _ _ _ _ (hwd k _ hk) (hv w γ H)⟩
   ·refine .inr ⟨blk,C,ty,fr,h1,h2,by rw [← hl];exact h3,fun k hk=>?_,by rw [← hl];exact h5⟩
    obtain ⟨u,hu,hr⟩:=h4 k (by rw [hl];exact hk)
    exact ⟨u,hu,qi _ _ _ _ _ _ (hwd k _ hk) (hr.ext he)⟩
  ·exact (h.state.obj j x h2).mono he rfl fun _ _ _ hb=>hb
theorem Inv.pub {fr:Fr} {H:AHeap} {w:World} {γ:br} {a:Act} (hi:Inv w0 γ0 H0 ds n w γ H (Fr.get fr) a) {id sz m:Nat} {K:Fr→AHeap→Prop} (hk:aS id sz m fr H K):∃ γ' fr' H',Inv w0 γ0 H0 ds n w γ' H' (Fr.get fr') a∧K fr' H':=by
 unfold aS at hk
 split at hk
 ·rename_i cs hcs
  have hcs':H.get id=some (.cells cs):=by
   unfold ai at hcs
   split at hcs<;>cases hcs
   assumption
  refine ⟨_,_,_,⟨u0 hi.state hcs' sz m,hi.ext.trans (si hi.state hcs' sz m),fun t=>?_,hi.size,hi.defers⟩,hk⟩
  rw [tO]
  exact BR hi.state hcs' sz m (hi.sim t)
 ·exact hk.elim
theorem Inv.weakMs {f:Nat→AV} {H:AHeap} {w:World} {γ:br} {a:Act} (h:Inv w0 γ0 H0 ds n w γ H f a) {id j mid off sz len:Nat} {cs ms:List AV} (hc:ai H id=some cs) (hj:cs[j]?=some (.ms mid off sz len)) (hne:id≠mid)
 (hm:ai H mid=some ms) (hlt:(AV.slice .any sz (bK sz len (ms.drop off))).lt H.nx):Inv w0 γ0 H0 ds n w γ ((H.del mid).set id (.cells (cs.set j (.slice .any sz (bK sz len (ms.drop off)))))) f a:=by
 have hl:(H.del mid).Le H:=⟨Nat.le_refl _,fun i o ho=>by rw [j6] at ho;split at ho;cases ho;exact ho⟩
 have hcl:(H.del mid).Closed:=by
  intro k cs' hk i hi
  rw [j6] at hk
  split at hk
  ·cases hk
  ·exact h.state.closed k cs' hk i hi
 have h1:Inv w0 γ0 H0 ds n w γ (H.del mid) f a:=⟨h.state.drop hl hcl,h.ext.drop hl h.ext.nx,fun t=>Rel.drop hl _ _ (show (f t).lt H.nx from Rel.lt _ _ (h.sim t)) (h.sim t),h.size,h.defers⟩
 have ho:H.get id=some (.cells cs):=by
  unfold ai at hc
  split at hc
  ·rename_i c hg;cases hc;exact hg
  ·cases hc
 have ho1:(H.del mid).get id=some (.cells cs):=by rw [j6,if_neg hne];exact ho
 have hid:=AHeap.get_lt ho1
 have hnone:(H.del mid).get mid=none:=by rw [j6,if_pos rfl]
 have hjl:j<cs.length:=by
  rcases Nat.lt_or_ge j cs.length with h|h
  ·exact h
  ·rw [List.getElem?_eq_none h] at hj;cases hj
 have hjv:cs[j]=.ms mid off sz len:=by rw [List.getElem?_eq_getElem hjl] at hj;exact Option.some.inj hj
 obtain ⟨cs',hcs'⟩:∃ x,x=cs.set j (AV.slice .any sz (bK sz len (ms.drop off))):=⟨_,rfl⟩
 have hlen:cs'.length=cs.length:=by rw [hcs',List.length_set]
 have hrel:∀ k (hk:k<cs.length) (hk':k<cs'.length) u,Rel w γ H cs[k] u→Rel w γ (H.del mid) cs'[k] u:=fun k hk hk' u hr=>by
  subst hcs'
  rw [List.getElem_set]
  split
  ·rename_i e
   subst e
   rw [hjv] at hr
   exact sq h.state hl hr (by simp only [wk1,hm];exact ⟨.inl trivial,trivial,trivial,hnone⟩) hlt
  ·exact Rel.drop hl _ _ (show AV.lt H.nx _ from Rel.lt _ _ hr) hr
 rw [← hcs']
 clear hcs'
 generalize hH1:H.del mid=H1 at *
 have hset:∀ {j x},(H1.set id (.cells cs')).get j=some x→(j=id∧x=.cells cs')∨(j≠id∧H1.get j=some x):=fun {j x} hg=>by
  rcases AHeap.get_set_inv _ _ hg with ⟨rfl,rfl,_⟩|h2
  ·exact .inl ⟨rfl,rfl⟩
  ·exact .inr h2
 have hne2:∀ {j},j≠id→(H1.set id (.cells cs')).get j=H1.get j:=fun hj=>AHeap.get_set_ne _ _ hj
 have he:Ext w γ H1 w γ (H1.set id (.cells cs')):=by
  refine ⟨rfl,rfl,rfl,Nat.le_refl _,Nat.le_refl _,fun b C ty fr hb=>⟨C,hb,rfl,fun _ _ _ _=>rfl⟩,fun b e hb him j x hg hγ=>?_,fun _ _ _=>rfl,fun j hj hn=>⟨?_,rfl⟩,fun j x hg hb=>⟨rfl,fun sz n hg'=>?_⟩,
   fun j sz n hg sz' n' hg'=>?_,fun j sz n hg x hg'=>?_⟩
  ·rcases hset hg with ⟨rfl,rfl⟩|⟨_,h2⟩
   ·obtain ⟨sz,n,e,_⟩:=him _ _ ho1 hγ;cases e
   ·exact him j x h2 hγ
  ·rw [hne2 (fun e=>by subst e;rw [ho1] at hn;cases hn)];exact hn
  ·rcases hset hg' with ⟨_,e⟩|⟨_,h2⟩
   ·cases e
   ·rw [hg] at h2;cases h2;exact hb _ _ rfl
  ·rcases hset hg' with ⟨_,e⟩|⟨_,h2⟩
   ·cases e
   ·rw [hg] at h2;cases h2;exact ⟨rfl,Nat.le_refl _,fun _=>rfl⟩
  ·rcases hset hg' with ⟨rfl,e⟩|⟨_,h2⟩
   ·rw [ho1] at hg;cases hg
   ·rw [hg] at h2;cases h2;exact ⟨_,_,rfl⟩
 refine ⟨⟨fun i j oi oj b hi hj h2 h3=>?_,fun j x hg=>?_⟩,h1.ext.trans he,h1.sim.ext he,h.size,h.defers⟩
 ·have up:∀ {i o},(H1.set id (.cells cs')).get i=some o→∃ o',H1.get i=some o':=fun {i o} hg=>by
   rcases hset hg with ⟨rfl,rfl⟩|⟨_,h2⟩
   ·exact ⟨_,ho1⟩
   ·exact ⟨_,h2⟩
  obtain ⟨o1,g1⟩:=up hi
  obtain ⟨o2,g2⟩:=up hj
  exact h1.state.inj i j o1 o2 b g1 g2 h2 h3
 ·rcases hset hg with ⟨rfl,rfl⟩|⟨_,h2⟩
  ·rcases h.state.obj _ _ ho with ⟨_,hz⟩|⟨blk,C,ty,fr,h1,h2,h3,h4,h5⟩
   ·obtain ⟨v,hv⟩:=hz _ (List.getElem_mem hjl)
    have:=hv w γ ⟨0,fun _=>none⟩
    rw [hjv,Rel] at this
    exact absurd this.1 (Nat.not_lt_zero _)
   ·refine .inr ⟨blk,C,ty,fr,h1,h2,by rw [hlen];exact h3,fun k hk=>?_,by rw [hlen];exact h5⟩
    obtain ⟨u,hu,hr⟩:=h4 k (by rw [← hlen];exact hk)
    exact ⟨u,hu,(hrel k (by rw [← hlen];exact hk) hk u hr).ext he⟩
  ·exact (h1.state.obj j x h2).mono he rfl fun _ _ _ hb=>hb
theorem Inv.room {f:Nat→AV} {H:AHeap} {w:World} {γ:br} {a:Act} (h:Inv w0 γ0 H0 ds n w γ H f a) {id:Nat} {cs:List AV} (ho:H.get id=some (.part cs)) :
 ∃ k,Inv w0 γ0 H0 ds n w γ (H.set id (.cells (cs++List.replicate k .junk))) f a:=by
 obtain ⟨blk,C,ty,fr,o1,o2,o3,o4,o5,o6⟩:=h.state.obj _ _ ho
 refine ⟨C.size - cs.length,?_⟩
 have hlen:(cs++List.replicate (C.size - cs.length) AV.junk).length=C.size:=by rw [List.length_append,List.length_replicate];omega
 generalize hcs':cs++List.replicate (C.size - cs.length) AV.junk=cs' at *
 have hset:∀ {j x},(H.set id (.cells cs')).get j=some x→(j=id∧x=.cells cs')∨(j≠id∧H.get j=some x):=fun {j x} hg=>by
  rcases AHeap.get_set_inv _ _ hg with ⟨rfl,rfl,_⟩|h2
  ·exact .inl ⟨rfl,rfl⟩
  ·exact .inr h2
 have hne:∀ {j},j≠id→(H.set id (.cells cs')).get j=H.get j:=fun hj=>AHeap.get_set_ne _ _ hj
 have he:Ext w γ H w γ (H.set id (.cells cs')):=by
  refine ⟨rfl,rfl,rfl,Nat.le_refl _,Nat.le_refl _,fun b C ty fr hb=>⟨C,hb,rfl,fun _ _ _ _=>rfl⟩,fun b e hb him j x hg hγ=>?_,fun _ _ _=>rfl,fun j hj hn=>⟨?_,rfl⟩,fun j x hg hb=>⟨rfl,fun sz n hg'=>?_⟩,
   fun j sz n hg sz' n' hg'=>?_,fun j sz n hg x hg'=>?_⟩
  ·rcases hset hg with ⟨rfl,rfl⟩|⟨_,h2⟩
   ·obtain ⟨sz,n,e,_⟩:=him _ _ ho hγ;cases e
   ·exact him j x h2 hγ
  ·rw [hne (fun e=>by subst e;rw [ho] at hn;cases hn)];exact hn
  ·rcases hset hg' with ⟨_,e⟩|⟨_,h2⟩
   ·cases e
   ·rw [hg] at h2;cases h2;exact hb _ _ rfl
  ·rcases hset hg' with ⟨_,e⟩|⟨_,h2⟩
   ·cases e
   ·rw [hg] at h2;cases h2;exact ⟨rfl,Nat.le_refl _,fun _=>rfl⟩
  ·rcases hset hg' with ⟨rfl,e⟩|⟨_,h2⟩
   ·rw [ho] at hg;cases hg
   ·rw [hg] at h2;cases h2;exact ⟨_,_,rfl⟩
 refine ⟨⟨fun i j oi oj b hi hj h1 h2=>?_,fun j x hg=>?_⟩,h.ext.trans he,h.sim.ext he,h.size,h.defers⟩
 ·have up:∀ {i o},(H.set id (.cells cs')).get i=some o→∃ o',H.get i=some o':=fun {i o} hg=>by
   rcases hset hg with ⟨rfl,rfl⟩|⟨_,h2⟩
   ·exact ⟨_,ho⟩
   ·exact ⟨_,h2⟩
  obtain ⟨o1,g1⟩:=up hi
  obtain ⟨o2,g2⟩:=up hj
  exact h.state.inj i j o1 o2 b g1 g2 h1 h2
 ·rcases hset hg with ⟨rfl,rfl⟩|⟨_,h2⟩
  ·refine .inr ⟨blk,C,ty,fr,o1,o2,hlen,fun k hk=>?_,by rw [hlen];exact o5⟩
   by_cases hk':k<cs.length
   ·obtain ⟨u,hu,hr⟩:=o4 k hk'
    refine ⟨u,hu,?_⟩
    have e:cs'[k]=cs[k]:=by subst hcs';exact List.getElem_append_left hk'
    rw [e];exact hr.ext he
   ·have hkC:0+k<C.size:=by omega
    refine ⟨C[0+k],by simp [hkC],?_⟩
    have e:cs'[k]=.junk:=by
     subst hcs'
     rw [List.getElem_append_right (by omega),List.getElem_replicate]
    rw [e,Rel];trivial
  ·exact (h.state.obj j x h2).mono he rfl fun _ _ _ hb=>hb
theorem Inv.objAs {f:Nat→AV} {H:AHeap} {w:World} {γ:br} {a:Act} (h:Inv w0 γ0 H0 ds n w γ H f a) {id:Nat} {cs cs':List AV} (ho:H.get id=some (.cells cs)) {blk:Nat} (hgid:γ id=some blk)
 (hl:cs.length=cs'.length) (hw:∀ (k:Nat) (hk:k<cs.length) (hk':k<cs'.length) v,Rel w γ H cs[k] v→Rel w γ H cs'[k] v):Inv w0 γ0 H0 ds n w γ (H.set id (.cells cs')) f a:=by
 have hset:∀ {j x},(H.set id (.cells cs')).get j=some x→(j=id∧x=.cells cs')∨(j≠id∧H.get j=some x):=fun {j x} hg=>by
  rcases AHeap.get_set_inv _ _ hg with ⟨rfl,rfl,_⟩|h2
  ·exact .inl ⟨rfl,rfl⟩
  ·exact .inr h2
 have hne:∀ {j},j≠id→(H.set id (.cells cs')).get j=H.get j:=fun hj=>AHeap.get_set_ne _ _ hj
 have he:Ext w γ H w γ (H.set id (.cells cs')):=by
  refine ⟨rfl,rfl,rfl,Nat.le_refl _,Nat.le_refl _,fun b C ty fr hb=>⟨C,hb,rfl,fun _ _ _ _=>rfl⟩,fun b e hb him j x hg hγ=>?_,fun _ _ _=>rfl,fun j hj hn=>⟨?_,rfl⟩,fun j x hg hb=>⟨rfl,fun sz n hg'=>?_⟩,
   fun j sz n hg sz' n' hg'=>?_,fun j sz n hg x hg'=>?_⟩
  ·rcases hset hg with ⟨rfl,rfl⟩|⟨_,h2⟩
   ·obtain ⟨sz,n,e,_⟩:=him _ _ ho hγ;cases e
   ·exact him j x h2 hγ
  ·rw [hne (fun e=>by subst e;rw [ho] at hn;cases hn)];exact hn
  ·rcases hset hg' with ⟨_,e⟩|⟨_,h2⟩
   ·cases e
   ·rw [hg] at h2;cases h2;exact hb _ _ rfl
  ·rcases hset hg' with ⟨_,e⟩|⟨_,h2⟩
   ·cases e
   ·rw [hg] at h2;cases h2;exact ⟨rfl,Nat.le_refl _,fun _=>rfl⟩
  ·rcases hset hg' with ⟨rfl,e⟩|⟨_,h2⟩
   ·rw [ho] at hg;cases hg
   ·rw [hg] at h2;cases h2;exact ⟨_,_,rfl⟩
 refine ⟨⟨fun i j oi oj b hi hj h1 h2=>?_,fun j x hg'=>?_⟩,h.ext.trans he,h.sim.ext he,h.size,h.defers⟩
 ·have up:∀ {i o},(H.set id (.cells cs')).get i=some o→∃ o',H.get i=some o':=fun {i o} hg=>by
   rcases hset hg with ⟨rfl,rfl⟩|⟨_,h2⟩
   ·exact ⟨_,ho⟩
   ·exact ⟨_,h2⟩
  obtain ⟨o1,g1⟩:=up hi
  obtain ⟨o2,g2⟩:=up hj
  exact h.state.inj i j o1 o2 b g1 g2 h1 h2
 ·rcases hset hg' with ⟨rfl,rfl⟩|⟨_,h2⟩
  ·rcases h.state.obj _ _ ho with ⟨h1,hz⟩|⟨blk',C,ty,fr,h1,h2,h3,h4,h5⟩
   ·rw [hgid] at h1;cases h1
   ·refine .inr ⟨blk',C,ty,fr,h1,h2,by rw [← hl];exact h3,fun k hk=>?_,by rw [← hl];exact h5⟩
    have hk0:k<cs.length:=by rw [hl];exact hk
    obtain ⟨u,hu,hr⟩:=h4 k hk0
    exact ⟨u,hu,(hw k hk0 hk u hr).ext he⟩
  ·exact (h.state.obj j x h2).mono he rfl fun _ _ _ hb=>hb
theorem Inv.cellOwn {fr:Fr} {H:AHeap} {w:World} {γ:br} {a:Act} (h:Inv w0 γ0 H0 ds n w γ H (Fr.get fr) a) {s id off j sz:Nat} {cs:List AV} (h0:Fr.get fr s=.ptr id off) (hc:ai H id=some cs) (hj:cs[j]?=some (.slice .nil 1 [])) :
 ∃ γ',Inv w0 γ0 H0 ds n w γ' ((H.push (.buf sz 0)).set id (.cells (cs.set j (.slice (.own H.nx) sz [])))) (Fr.get fr) a:=by
 have hs:=h.state
 have he:=fh hs (w':=w) rfl rfl rfl (Nat.le_refl _) (fun _ _=>rfl) none (fun b h=>by cases h) (.buf sz 0)
 have hst:=dM hs (w':=w) (fun b h=>by cases h) he (fun _ _=>rfl) (.inr (.inl ⟨_,_,rfl⟩))
 have hi:Inv w0 γ0 H0 ds n w (upd γ H.nx none) (H.push (.buf sz 0)) (Fr.get fr) a:=⟨hst,h.ext.trans he,fun t=>(h.sim t).ext he,h.size,h.defers⟩
 have ho:H.get id=some (.cells cs):=by
  unfold ai at hc
  split at hc
  ·rename_i c hg;cases hc;exact hg
  ·cases hc
 have hlt:=AHeap.get_lt ho
 have hp:=h.sim s
 rw [h0,Rel] at hp
 obtain ⟨_,_,blk,hg,_⟩:=hp
 refine ⟨_,hi.objAs (by rw [AHeap.get_push_lt _ _ hlt];exact ho) (blk:=blk) (by rw [bL _ _ _ _ (by omega)];exact hg) (by simp) fun k hk hk' v hr=>?_⟩
 by_cases hkj:k=j
 ·subst hkj
  have e:(cs.set k (.slice (.own H.nx) sz []))[k]=.slice (.own H.nx) sz []:=by simp
  rw [e]
  have e2:cs[k]=.slice .nil 1 []:=by rw [List.getElem?_eq_getElem hk] at hj;exact Option.some.inj hj
  rw [e2] at hr
  rcases rel_slice.1 hr with ⟨⟨a,rfl⟩,_,_⟩|⟨blk,off,cap,C',ty,fr',_,_,_,_,_,hm,_⟩
  ·refine rel_slice.2 (.inl ⟨⟨a,rfl⟩,rfl,by rw [AHeap.nx_push];omega,fun sz' n h=>?_⟩)
   rw [AHeap.get_push_new] at h;cases h;rfl
  ·exact hm.elim
 ·have e:(cs.set j (.slice (.own H.nx) sz []))[k]=cs[k]:=by rw [List.getElem_set_ne (by omega)]
  rw [e];exact hr
theorem Ft {w:World} {γ γ':br} {H H':AHeap} {xs:List AV} {C:Array Value} {off sz:Nat} (hf:∀ x∈xs,∀ y∈x.cells,y.flat1=true)
 (h:∀ i (hi:i<xs.length),xs[i].cells.length=sz∧∀ j (hj:j<xs[i].cells.length),∃ u,C[off+i*sz+j]?=some u∧Rel w γ H xs[i].cells[j] u) :
 ∀ i (hi:i<xs.length),xs[i].cells.length=sz∧∀ j (hj:j<xs[i].cells.length),∃ u,C[off+i*sz+j]?=some u∧Rel w γ' H' xs[i].cells[j] u:=fun i hi=>by
 obtain ⟨h1,h2⟩:=h i hi
 refine ⟨h1,fun j hj=>?_⟩
 obtain ⟨u,h3,h4⟩:=h2 j hj
 have hfl:=hf _ (List.getElem_mem hi) _ (List.getElem_mem hj)
 exact ⟨u,h3,(fO hfl u).2 ((fO hfl u).1 h4)⟩
theorem rb {sz:Nat}:∀ {xs:List AV},(∀ x∈xs,x.cells.length=sz)→(xs.flatMap AV.cells).length=xs.length*sz
 |[],_=>by simp
 |x::xs,h=>by
  rw [List.flatMap_cons,List.length_append,h x List.mem_cons_self,rb fun y hy=>h y (List.mem_cons_of_mem _ hy),List.length_cons,Nat.add_mul];omega
theorem EU {w:World} {γ:br} {H:AHeap} {C:Array Value} {sz:Nat}:∀ {xs:List AV} {off:Nat},(∀ i (hi:i<xs.length),xs[i].cells.length=sz∧∀ j (hj:j<xs[i].cells.length),∃ u,C[off+i*sz+j]?=some u∧Rel w γ H xs[i].cells[j] u) →
 AtR (Rel w γ H) (xs.flatMap AV.cells) C off
 |[],_,_=>fun j hj=>absurd hj (by simp)
 |x::xs,off,h=>by
  have h0:=h 0 (by simp)
  have ih:AtR (Rel w γ H) (xs.flatMap AV.cells) C (off+sz):=EU fun i hi=>by
   obtain ⟨h1,h2⟩:=h (i+1) (by simpa using hi)
   refine ⟨h1,fun j hj=>?_⟩
   obtain ⟨u,h3,h4⟩:=h2 j hj
   refine ⟨u,?_,h4⟩
   rw [← h3];congr 1;rw [Nat.add_mul];omega
  rw [List.flatMap_cons]
  intro j hj
  rcases Nat.lt_or_ge j x.cells.length with h1|h1
  ·rw [List.getElem_append_left h1]
   obtain ⟨u,h3,h4⟩:=h0.2 j h1
   refine ⟨u,?_,h4⟩
   rw [← h3];congr 1;omega
  ·rw [List.getElem_append_right h1]
   have hx:x.cells.length=sz:=h0.1
   obtain ⟨u,h3,h4⟩:=ih (j - x.cells.length) (by rw [List.length_append] at hj;omega)
   refine ⟨u,?_,h4⟩
   rw [← h3];congr 1;omega
def iW (γ:br) (n blk:Nat):br:=fun i=>if i=n then some blk else γ i
theorem vN {Hk:AHeap}:∀ {fr' fr:Fr},vF Hk fr' fr→∀ t,Fr.get fr' t=.junk∨(Fr.get fr t=Fr.get fr' t∧Gl Hk (Fr.get fr' t))
 |[],fr,_,t=>.inl rfl
 |(i,v)::l,fr,h,t=>by
  simp only [Fr.get]
  by_cases hi:i=t
  ·subst hi;rw [if_pos rfl];exact .inr h.1
  ·rw [if_neg hi];exact vN h.2 t
theorem Inv.thaw {fr:Fr} {H:AHeap} {w:World} {γ:br} {a:Act} (hi:Inv w0 γ0 H0 ds n w γ H (Fr.get fr) a) (h0:H0.nx=0) {s id sz:Nat} {xs:List AV} {fr':Fr} {Hk:AHeap} (h1:Fr.get fr s=.slice (.own id) sz xs) (h2:H.get id=some (.buf sz xs.length))
 (h3:xs≠[]) (h4:u5 xs) (h5:Hk.nx≤H.nx) (h6:∀ i o,Hk.get i=some o→i≠id∧xF H i o) (h7:vF Hk fr' fr) :
 ∃ γ',Inv w0 γ0 H0 ds n w γ' (Hk.push (.part (xs.flatMap AV.cells))) (Fr.get ((s,.ms Hk.nx 0 sz xs.length)::fr')) a:=by
 have hs:=h1 ▸ hi.sim s
 rcases rel_slice.1 hs with ⟨_,hx,_⟩|⟨blk,off,cap,C,ty,fr0,hv,hle,hh,hcap,himm,hm,hall,hr⟩
 ·exact absurd hx h3
 obtain ⟨hidl,hm⟩:=hm
 obtain ⟨_,_,hm⟩:=hm _ _ h2
 obtain ⟨hg,rfl,hth⟩:=hm rfl
 have hno:∀ i o,H0.get i=some o→False:=fun i o h=>by have:=AHeap.get_lt h;omega
 have hnew:w0.heap.size≤blk:=by
  rcases Nat.lt_or_ge blk w0.heap.size with h|h
  ·obtain ⟨sz',n',e,hl⟩:=hi.ext.imm blk (xs.length*sz+1) h (fun i o ho=>(hno i o ho).elim) id _ h2 hg
   cases e;omega
  ·exact h
 have hfl:=rb hall
 have hmul:xs.length*sz≤cap*sz:=Nat.mul_le_mul_right _ hle
 have hup:∀ {i o},Hk.get i=some o→∃ o',H.get i=some o':=fun {i o} h=>by
  rcases (h6 i o h).2 with ⟨_,_,_,h⟩|⟨_,h,_⟩
  ·exact ⟨_,h⟩
  ·exact ⟨_,h⟩
 have hold:∀ {i o},Hk.get i=some o→γ i=some blk→False:=fun {i o} h hgi=>by
  obtain ⟨o',h'⟩:=hup h
  exact (h6 i o h).1 (hi.state.inj i id o' _ blk h' h2 hgi hg)
 have hbuf:∀ {i sz n},Hk.get i=some (.buf sz n)→H.get i=some (.buf sz n):=fun {i sz n} h=>by
  rcases (h6 i _ h).2 with ⟨_,_,_,h⟩|⟨_,_,e⟩
  ·exact h
  ·cases e
 have himmk:∀ {b e:Nat},Imm γ H b e→∀ i o,Hk.get i=some o→γ i=some b→∃ sz n,o=.buf sz n∧e≤n*sz:=fun {b e} hb i o ho hgi=>by
  rcases (h6 i o ho).2 with ⟨_,_,rfl,h⟩|⟨_,h,_⟩
  ·exact hb i _ h hgi
  ·obtain ⟨_,_,e,_⟩:=hb i _ h hgi
   cases e
 have gnew:iW γ Hk.nx blk Hk.nx=some blk:=by unfold iW;rw [if_pos rfl]
 have gold:∀ {i},i<Hk.nx→iW γ Hk.nx blk i=γ i:=fun h=>by unfold iW;rw [if_neg (by omega)]
 have fl:∀ {x:AV} {v:Value} {γ':br} {H':AHeap},x.flat1=true→Rel w γ H x v→Rel w γ' H' x v:=fun hf h=>(fO hf _).2 ((fO hf _).1 h)
 refine ⟨iW γ Hk.nx blk,⟨fun i j oi oj b hi' hj gi gj=>?_,fun i o ho=>?_⟩,⟨hi.ext.os,hi.ext.tape,hi.ext.output,hi.ext.size,by omega,hi.ext.block,fun b e hb he i o ho hgi=>?_,hi.ext.un,fun i hlt=>by omega,fun i o ho=>(hno i o ho).elim,fun i sz n ho=>(hno _ _ ho).elim,fun i sz n ho=>(hno _ _ ho).elim⟩,fun t=>?_,hi.size,hi.defers⟩
 ·rcases AHeap.get_push_inv _ _ hi' with ⟨rfl,rfl⟩|⟨hli,hi'⟩<;>rcases AHeap.get_push_inv _ _ hj with ⟨rfl,rfl⟩|⟨hlj,hj⟩
  ·rfl
  ·rw [gnew] at gi;rw [gold hlj] at gj;cases gi;exact (hold hj gj).elim
  ·rw [gnew] at gj;rw [gold hli] at gi;cases gj;exact (hold hi' gi).elim
  ·rw [gold hli] at gi;rw [gold hlj] at gj
   obtain ⟨o1,k1⟩:=hup hi'
   obtain ⟨o2,k2⟩:=hup hj
   exact hi.state.inj i j o1 o2 b k1 k2 gi gj
 ·rcases AHeap.get_push_inv _ _ ho with ⟨rfl,rfl⟩|⟨hli,ho⟩
  ·refine ⟨blk,C,ty,fr0,gnew,hh,by rw [hfl];omega,fun j hj=>?_,hth,fun x hx=>?_⟩
   ·obtain ⟨u,hu,hru⟩:=hr j hj
    obtain ⟨x,hx,hxy⟩:=List.mem_flatMap.1 (List.getElem_mem hj)
    exact ⟨u,hu,fl (h4 x hx _ hxy) hru⟩
   ·obtain ⟨y,hy,hxy⟩:=List.mem_flatMap.1 hx
    have:=h4 y hy x hxy
    cases x<;>simp [AV.flat1] at this<;>rw [AV.lt]<;>simp
  ·rcases (h6 i o ho).2 with ⟨sz',n',rfl,h⟩|⟨cs0,h,rfl⟩
   ·intro b hb
    rw [gold hli] at hb
    exact hi.state.lt h hb
   ·rcases hi.state.obj _ _ h with ⟨k1,_⟩|⟨b,D,ty',fr',k1,k2,k3,k4,k5⟩
    ·exact .inl ⟨by rw [gold hli];exact k1,fun x hx=>by rw [List.eq_of_mem_replicate hx];exact ⟨undef,fun _ _ _=>by rw [Rel];trivial⟩⟩
    ·refine .inr ⟨b,D,ty',fr',by rw [gold hli];exact k1,k2,by rw [List.length_replicate];exact k3,fun j hj=>?_,by rw [List.length_replicate];exact k5⟩
     rw [List.length_replicate] at hj
     obtain ⟨u,hu,_⟩:=k4 j hj
     exact ⟨u,hu,by rw [List.getElem_replicate,Rel];trivial⟩
 ·rcases AHeap.get_push_inv _ _ ho with ⟨rfl,rfl⟩|⟨hli,ho⟩
  ·rw [gnew] at hgi;cases hgi;omega
  ·rw [gold hli] at hgi;exact himmk (hi.ext.imm b e hb he) i o ho hgi
 ·by_cases ht:s=t
  ·subst ht
   simp only [Fr.get,if_true]
   rw [Rel]
   exact ⟨by rw [AHeap.nx_push];omega,fun sz n h=>(by rw [AHeap.get_push_new] at h;cases h),.inr ⟨blk,cap,C,ty,fr0,gnew,hv,hle,hh,hcap,fun p p1 p2=>hth p (by omega) (by omega)⟩⟩
  ·simp only [Fr.get,if_neg ht]
   rcases vN h7 t with hj|⟨he,hk⟩
   ·rw [hj,Rel];trivial
   ·have hrt:=he ▸ hi.sim t
    generalize Fr.get fr' t=x at hk hrt
    rcases hk with hf|⟨id2,sz2,ys,rfl,hb2,hf2⟩|⟨i2,off2,cs2,rfl,hb2⟩
    ·exact fl hf hrt
    rotate_left
    ·have hl2:=AHeap.get_lt hb2
     rw [Rel] at hrt ⊢
     obtain ⟨_,_,b,k1,k2⟩:=hrt
     exact ⟨by rw [AHeap.nx_push];omega,fun sz n h=>(by rw [AHeap.get_push_lt _ _ hl2,hb2] at h;cases h),b,by rw [gold hl2];exact k1,k2⟩
    ·have hl2:=AHeap.get_lt hb2
     have hn2:=(h6 _ _ hb2).1
     have hbs:∀ sz' n,(Hk.push (.part (xs.flatMap AV.cells))).get id2=some (.buf sz' n)→H.get id2=some (.buf sz' n):=fun sz' n h=>by
      rw [AHeap.get_push_lt _ _ hl2] at h;exact hbuf h
     rcases rel_slice.1 hrt with ⟨hv2,hx2,_,hm2⟩|⟨blk2,off2,cap2,C2,ty2,fr2,hv2,hle2,hh2,hcap2,himm2,⟨_,hm2⟩,hall2,hr2⟩
     ·exact rel_slice.2 (.inl ⟨hv2,hx2,by rw [AHeap.nx_push];omega,fun sz' n h=>hm2 sz' n (hbs _ _ h)⟩)
     ·obtain ⟨_,_,hm3⟩:=hm2 _ _ (hbuf hb2)
      obtain ⟨hg2,_,_⟩:=hm3 rfl
      refine rel_slice.2 (.inr ⟨blk2,off2,cap2,C2,ty2,fr2,hv2,hle2,hh2,hcap2,fun i o ho hgi=>?_,⟨by rw [AHeap.nx_push];omega,fun sz' n h=>?_⟩,hall2,fun j hj=>?_⟩)
      ·rcases AHeap.get_push_inv _ _ ho with ⟨rfl,rfl⟩|⟨hli,ho⟩
       ·rw [gnew] at hgi;cases hgi
        exact (hn2 (hi.state.inj id2 id _ _ blk (hbuf hb2) h2 hg2 hg)).elim
       ·rw [gold hli] at hgi;exact himmk himm2 i o ho hgi
      ·obtain ⟨e1,e2,e3⟩:=hm2 _ _ (hbs _ _ h)
       exact ⟨e1,e2,fun e=>by rw [gold hl2];exact e3 e⟩
      ·obtain ⟨u,hu,hru⟩:=hr2 j hj
       obtain ⟨x,hx,hxy⟩:=List.mem_flatMap.1 (List.getElem_mem hj)
       exact ⟨u,hu,fl (hf2 x hx _ hxy) hru⟩
theorem y7 {o:Oper} {fr:Fr} {H:AHeap} {K:Fr→AHeap→Prop} (h:aA P o fr H K) (hd:jD n o=true) {w:World} {γ:br} {a:Act} (hi:Inv w0 γ0 H0 ds n w γ H (Fr.get fr) a) {K':Act→World→Prop} {Q:Exit→Act→World→Prop}
 (hK:∀ fr' H' w' γ' a',Inv w0 γ0 H0 ds n w' γ' H' (Fr.get fr') a'→K fr' H'→K' a' w'):o.wp P a w K' Q:=by
 have hf:=fun x=>hi.sim.eval x
 have hf':∀ x,Rel w γ H (ev fr x) (a.eval x):=fun x=>by rw [eB];exact hf x
 -- what is done when a value comes out
 have out:∀ {x:AV} {H':AHeap} {run:Result Value},Out P w γ H x H' run→K (fr.put o.dst x) H'→(execOp a.eval o).run P w=run.andThen (fun v w'=>.ok (.value v) w')→o.wp P a w K' Q:=by
  intro x H' run ⟨v,w',γ',hr,h1,h2,h3⟩ hk he
  unfold Oper.wp
  rw [he,hr]
  have hi':=hi.put hd h1 h2 h3
  rw [← eM] at hi'
  exact hK _ _ _ _ _ hi' hk
 have outMs:∀ {v:AV} {run:Result Value},(∀ id sz xs,v=.slice (.own id) sz xs→xs≠[]→tM w γ H sz xs run)→(aZ H v fun v H'=>K (fr.put o.dst v) H')→(execOp a.eval o).run P w=run.andThen (fun v w'=>.ok (.value v) w')→o.wp P a w K' Q:=by
  intro v run hfr htm he
  unfold aZ at htm
  split at htm
  ·obtain ⟨hne,hk⟩:=htm
   obtain ⟨k,v,w',γ',h1,h2,h3,h4⟩:=AE hi.state (hfr _ _ _ rfl hne)
   exact out ⟨v,w',γ',h1,h2,h3,h4⟩ (hk k) he
  ·exact htm.elim
 have outMs0:∀ {v:AV} {H1:AHeap} {run:Result Value},(∀ id sz xs,v=.slice (.own id) sz xs→xs≠[]→tM w γ H sz xs run)→Out P w γ H v H1 run→(aC H H1 v fun v H'=>K (fr.put o.dst v) H')→(execOp a.eval o).run P w=run.andThen (fun v w'=>.ok (.value v) w')→o.wp P a w K' Q:=by
  intro v H1 run hfr ho htm he
  unfold aC at htm
  split at htm
  ·rename_i i sz xs
   rcases Classical.em (xs=[]) with hx|hx
   ·exact out ho (htm.1 hx) he
   ·obtain ⟨k,v,w',γ',h1,h2,h3,h4⟩:=AE hi.state (hfr _ _ _ rfl hx)
    exact out ⟨v,w',γ',h1,h2,h3,h4⟩ (htm.2 hx k) he
  ·exact htm.elim
 have outMs1:∀ {v:AV} {H1:AHeap} {run:Result Value},(∀ id sz xs,v=.slice (.own id) sz xs→xs≠[]→tM w γ H sz xs run)→Out P w γ H v H1 run→(aB H H1 v fun v H'=>K (fr.put o.dst v) H')→(execOp a.eval o).run P w=run.andThen (fun v w'=>.ok (.value v) w')→o.wp P a w K' Q:=by
  intro v H1 run hfr ho htm he
  unfold aB at htm
  split at htm
  ·obtain ⟨hne,hk⟩:=htm
   obtain ⟨k,v,w',γ',h1,h2,h3,h4⟩:=AE hi.state (hfr _ _ _ rfl hne)
   exact out ⟨v,w',γ',h1,h2,h3,h4⟩ (hk k) he
  ·exact out ho htm he
  ·exact htm.elim
 obtain ⟨dst,op,ty,pos,after,guard⟩:=o
 unfold aA at h
 dsimp only at h out outMs outMs0 outMs1
 split at h
 ·rename_i t m ps
  split at h
  ·rename_i r hr
   split at h
   ·rename_i mk sz xs hv
    refine out (mN hi.state (RelP.map hf' ps) hr hv) h ?_
    simp only [execOp,Sem.run_bind,Array.toArray_toList]
    rfl
   ·exact h.elim
  ·exact h.elim
 ·rename_i s d x
  split at h
  ·rename_i id off sz len hx
   split at h
   ·rename_i cs hcs
    have hxr:=hf' x
    rw [hx] at hxr
    obtain ⟨y,h1,h2⟩:=zY (P:=P) hi.state hxr hcs h
    refine out h1 h2 ?_
    simp [execOp]
   ·exact h.elim
  ·split at h
   ·rename_i r hr
    have hxr:=hf' x
    refine outMs0 (run:=(convert s d (a.eval x)).run P w) (fun id sz xs hv hne=>?_) (nu hi.state hxr hr h.1) h.2 (by simp [execOp])
    cases hev:ev fr x
    case str b =>
     rw [hev] at hr hxr
     rw [io hxr]
     exact uM hr hv
    all_goals
     rw [hev] at hr
     unfold zjo at hr
     split at hr<;>first|(cases hr;cases hv;done)|(rename_i heq;cases heq;done)|(split at hr<;>cases hr;cases hv;done)|(cases hr;done)
   ·exact h.elim
 ·rename_i args argTypes
  split at h
  ·rename_i t t2 tl sz x hts hargs
   split at h
   ·rename_i r hr
    have e1:argTypes[0]?=some t:=by rw [← Array.getElem?_toList,hts];rfl
    have e1':argTypes[1]?=some t2:=by rw [← Array.getElem?_toList,hts];rfl
    obtain ⟨x0,x1,e2⟩:∃ x0 x1,args=#[x0,x1]:=by
     have:args.toList.length=2:=by have:=congrArg List.length hargs;simpa using this
     match args,this with
     |⟨[x0,x1]⟩,_=>exact ⟨x0,x1,rfl⟩
    subst e2
    simp only [List.map_cons,List.map_nil,List.cons.injEq,and_true] at hargs
    obtain ⟨e3,rfl⟩:=hargs
    have hs0:=hf' x0
    rw [e3] at hs0
    refine outMs1 (run:=(Builtin.append_ argTypes ty #[a.eval x0,a.eval x1]).run P w) (fun id sz' xs hv hne=>pG hi.state hs0 (hf' x1) hr h.1 hv hne argTypes e1 e1' ty) (oT hi.state hs0 (hf' x1) (wq hr) h.1 argTypes e1 e1' ty) h.2 ?_
    simp [execOp,resolve,invoke,builtin]
   ·exact h.elim
  ·exact h.elim
 ·rename_i t ad v
  split at h
  ·rename_i r id off hr hp
   obtain ⟨hdn,hc,sz,m,hk⟩:=h
   have ha:Rel w γ H (.ptr id off) (a.eval (.tmp ad)):=by rw [← hp];exact hf' (.tmp ad)
   have hv:=hf' v
   obtain ⟨w',h1,h2,h3⟩:=qj (P:=P) hi.state ha hv (by rw [← hp];exact hr) hc
   unfold aS at hk
   split at hk
   ·rename_i cs hcs
    have hcs':(r.H).get id=some (.cells cs):=by
     unfold ai at hcs
     split at hcs<;>cases hcs
     assumption
    unfold Oper.wp
    have hrun:(execOp a.eval ⟨dst,.store t (.tmp ad) v,ty,pos,after,guard⟩).run P w=.ok .skip w':=by simp [execOp,h1]
    rw [hrun]
    subst hdn
    refine hK _ _ w' _ (Act.put a none undef) ⟨u0 h2 hcs' sz m,(hi.ext.trans h3).trans (si h2 hcs' sz m),fun t=>?_,hi.size,hi.defers⟩ hk
    rw [tO]
    exact BR h2 hcs' sz m ((hi.sim t).ext h3)
   ·exact hk.elim
  ·exact h.elim
 ·exact h.elim
theorem xO {o:Oper} {fr:Fr} {H:AHeap} {K:Fr→AHeap→Prop} (h:az P o fr H K) (hd:jD n o=true) {w:World} {γ:br} {a:Act} (hi:Inv w0 γ0 H0 ds n w γ H (Fr.get fr) a) {K':Act→World→Prop} {Q:Exit→Act→World→Prop}
 (hK:∀ fr' H' w' γ' a',Inv w0 γ0 H0 ds n w' γ' H' (Fr.get fr') a'→K fr' H'→K' a' w'):o.wp P a w K' Q:=by
 have hf:=fun x=>hi.sim.eval x
 have hf':∀ x,Rel w γ H (ev fr x) (a.eval x):=fun x=>by rw [eB];exact hf x
 have out:∀ {x:AV} {H':AHeap} {run:Result Value},Out P w γ H x H' run→K (fr.put o.dst x) H'→(execOp a.eval o).run P w=run.andThen (fun v w'=>.ok (.value v) w')→o.wp P a w K' Q:=by
  intro x H' run ⟨v,w',γ',hr,h1,h2,h3⟩ hk he
  unfold Oper.wp
  rw [he,hr]
  have hi':=hi.put hd h1 h2 h3
  rw [← eM] at hi'
  exact hK _ _ _ _ _ hi' hk
 obtain ⟨dst,op,ty,pos,after,guard⟩:=o
 unfold az at h
 dsimp only at h out
 split at h
 ·rename_i t m ps
  split at h
  ·rename_i r hr
   split at h
   ·rename_i mk sz xs hv
    refine out (oQ hi.state (RelP.map hf' ps) hr hv) h ?_
    simp only [execOp,Sem.run_bind,Array.toArray_toList]
    rfl
   ·exact h.elim
  ·exact h.elim
 ·rename_i args argTypes
  have args2:∀ {x y:AV},args.toList.map (ev fr)=[x,y]→∃ x0 x1,args=#[x0,x1]∧ev fr x0=x∧ev fr x1=y:=fun {x y} hargs=>by
   obtain ⟨x0,x1,e2⟩:∃ x0 x1,args=#[x0,x1]:=by
    have:args.toList.length=2:=by have:=congrArg List.length hargs;simpa using this
    match args,this with
    |⟨[x0,x1]⟩,_=>exact ⟨x0,x1,rfl⟩
   subst e2
   simp only [List.map_cons,List.map_nil,List.cons.injEq,and_true] at hargs
   exact ⟨x0,x1,rfl,hargs.1,hargs.2⟩
  split at h
  ·rename_i t t2 tl id off sz len x hts hargs
   obtain ⟨x0,x1,rfl,e3,rfl⟩:=args2 hargs
   have hs0:=hf' x0
   rw [e3] at hs0
   obtain ⟨y,H',ho,hk⟩:=yC hi.state hs0 (hf' x1) h argTypes (by rw [← Array.getElem?_toList,hts];rfl) (by rw [← Array.getElem?_toList,hts];rfl) ty
   exact out ho hk (by simp [execOp,resolve,invoke,builtin])
  ·rename_i t t2 tl sz ys k n hts hargs
   obtain ⟨x0,x1,rfl,e3,e4⟩:=args2 hargs
   have hs0:=hf' x0
   have hs1:=hf' x1
   rw [e3] at hs0
   rw [e4] at hs1
   obtain ⟨y,H',ho,hk⟩:=wm hi.state hs0 hs1 h argTypes (by rw [← Array.getElem?_toList,hts];rfl) (by rw [← Array.getElem?_toList,hts];rfl) ty
   exact out ho hk (by simp [execOp,resolve,invoke,builtin])
  ·exact h.elim
 ·rename_i args argTypes
  split at h
  ·rename_i t tl sz ys hts hargs
   split at h
   ·rename_i e hdt
    obtain ⟨x0,e2⟩:∃ x0,args=#[x0]:=by
     have:args.toList.length=1:=by have:=congrArg List.length hargs;simpa using this
     match args,this with
     |⟨[x0]⟩,_=>exact ⟨x0,rfl⟩
    subst e2
    simp only [List.map_cons,List.map_nil,List.cons.injEq,and_true] at hargs
    have hs0:=hf' x0
    rw [hargs] at hs0
    obtain ⟨_,a',ha'⟩:=A9 hs0
    have e1:argTypes[0]?=some t:=by rw [← Array.getElem?_toList,hts];rfl
    refine out (run:=(Builtin.cap_ argTypes ty #[a.eval x0]).run P w) (Out.same hi.state (v:=.int .i64 0) ?_ (gg _ _)) h (by simp [execOp,resolve,invoke,builtin])
    rw [ha']
    simp [Builtin.cap_,e1,aH (cU hdt),goInt]
   ·exact h.elim
  ·exact h.elim
 ·rename_i t x hh
  split at h
  ·rename_i sz ys k n hx hn
   split at h
   ·rename_i e hdt
    obtain ⟨⟨hse,rfl⟩,hk⟩:=h
    have hs0:=hf' x
    have hs1:=hf' hh
    rw [hx] at hs0
    rw [hn] at hs1
    obtain ⟨rfl,a',ha'⟩:=A9 hs0
    obtain ⟨te,hte⟩:=Option.isSome_iff_exists.1 hse
    obtain ⟨ed,einf,ez,hed,heinf,hez,rfl⟩:=bO hte
    refine out (run:=(Instr.sliceAt t (a.eval x) none (some (a.eval hh)) none).run P w) (Out.same hi.state (v:=.slice a' 0 0) ?_ (by rw [← ha'];exact hs0)) hk (by simp [execOp])
    have hb:=gG (P:=P) (w:=w) (γ:=γ) (H:=H) (isS:=true) (len:=0) (cap:=0) (l:=0) (h:=0) (lo:=none) (hi:=some (.int k 0)) (vlo:=none) (vhi:=some (a.eval hh)) trivial hs1 rfl rfl (by omega) (by omega) (Nat.le_refl _)
    rw [ha']
    simp only [Instr.sliceAt,Instr.slice,Sem.run_bind,aH (cU hdt),Result.andThen_ok,hb,cu heinf]
    simp
   ·exact h.elim
  ·exact h.elim
 ·rename_i x
  split at h
  ·rename_i e hd
   obtain ⟨hx,hk⟩:=h
   have hx':=tW (y:=x) hx
   subst hx'
   exact out (He hi.state _) hk (by simp [execOp,show a.eval (.const (.slice none 0 0))=.slice none 0 0 from rfl])
  ·exact h.elim
 ·exact h.elim
theorem qg (hΩ:TblOk P Ω) {n0:Nat} (hn0:n0=H0.nx) {ops:Array Oper} {K:Fr→AHeap→Prop} {Kp:Fr→AV→AHeap→Prop} {Q:Exit→Act→World→Prop}
 (hK:∀ fr H w γ a,Inv w0 γ0 H0 ds n w γ H (Fr.get fr) a→K fr H→Q .normal a w)
 (hKp:∀ fr x v H w γ a,Inv w0 γ0 H0 ds n w γ H (Fr.get fr) a→Rel w γ H x v→Kp fr x H→Q (.panic [{ v,recovered:=false }]) a w) :
 ∀ (is:List Nat) (l:List Oper),(∀ o∈l,jD n o=true)→∀ fr H w γ a,Inv w0 γ0 H0 ds n w γ H (Fr.get fr) a→gX P Ω n0 ops is l K Kp fr H→wpList P ops Q l a w
 |[],l,hd,fr,H,w,γ,a,hi,h=>by
  have:=jF (ops:=ops) (K:=K) (Kp:=Kp) (Q:=Q) hΩ [] (fun fr H w γ a hi h=>hK fr H w γ a hi h) hKp l hd fr H w γ a hi h
  rwa [List.append_nil] at this
 |i::is,l,hd,fr,H,w,γ,a,hi,h=>by
  have ih:=qg (ops:=ops) (K:=K) (Kp:=Kp) (Q:=Q) hΩ hn0 hK hKp is
  unfold gX at h
  split at h
  ·have:=jF (ops:=ops) (Q:=Q) hΩ (l.drop (i/3)) (fun fr H w γ a hi h=>?_) hKp (l.take (i/3)) (fun o ho=>hd o (List.mem_of_mem_take ho)) fr H w γ a hi h
   ·rwa [List.take_append_drop] at this
   ·split at h
    ·rename_i o rest hdr
     obtain ⟨hg,h⟩:=h
     have hmem:∀ x∈o::rest,jD n x=true:=fun x hx=>hd x (List.mem_of_mem_drop (by rw [hdr];exact hx))
     rw [hdr]
     unfold wpList
     rw [if_pos (by simp [Region.wanted,hg])]
     exact .inl (y7 h (hmem o List.mem_cons_self) hi fun fr' H' w' γ' a' hi' hk=>ih rest (fun x hx=>hmem x (List.mem_cons_of_mem _ hx)) _ _ _ _ _ hi' hk)
    ·exact h.elim
  ·split at h
   ·have:=jF (ops:=ops) (Q:=Q) hΩ (l.drop (i/3)) (fun fr H w γ a hi h=>?_) hKp (l.take (i/3)) (fun o ho=>hd o (List.mem_of_mem_take ho)) fr H w γ a hi h
    ·rwa [List.take_append_drop] at this
    ·rcases h with ⟨fr',H',he,h⟩|⟨s,j,sz,cs,h1,h2,h⟩|⟨s,y,h1,h⟩|⟨id,cs,cs',h1,h2,h⟩|⟨id,cs,h1,h⟩|⟨s,id,off,j,sz,cs,h1,h2,h3,h⟩|⟨id,j,mid,off,sz,len,cs,ms,h1,h2,h3,h4,h5,h⟩|⟨id,sz,m,h⟩|⟨hz,s,id,sz,xs,fr',Hk,⟨h1,h2,h3,h4,h5,h6,h7⟩,h⟩
     ·rw [hn0] at he
      exact ih _ (fun x hx=>hd x (List.mem_of_mem_drop hx)) _ _ _ _ _ (hi.enterW he) h
     ·obtain ⟨γ',hi'⟩:=hi.nilOwn (sz:=sz) h1 h2
      exact ih _ (fun x hx=>hd x (List.mem_of_mem_drop hx)) _ _ _ _ _ hi' h
     ·exact ih _ (fun x hx=>hd x (List.mem_of_mem_drop hx)) _ _ _ _ _ (hi.weakSlot h1) h
     ·exact ih _ (fun x hx=>hd x (List.mem_of_mem_drop hx)) _ _ _ _ _ (hi.weakObj h1 h2) h
     ·obtain ⟨k,hi'⟩:=hi.room h1
      exact ih _ (fun x hx=>hd x (List.mem_of_mem_drop hx)) _ _ _ _ _ hi' (h k)
     ·obtain ⟨γ',hi'⟩:=hi.cellOwn (sz:=sz) h1 h2 h3
      exact ih _ (fun x hx=>hd x (List.mem_of_mem_drop hx)) _ _ _ _ _ hi' h
     ·exact ih _ (fun x hx=>hd x (List.mem_of_mem_drop hx)) _ _ _ _ _ (hi.weakMs h1 h2 h3 h4 h5) h
     ·obtain ⟨γ',fr',H',hi',h'⟩:=hi.pub h
      exact ih _ (fun x hx=>hd x (List.mem_of_mem_drop hx)) _ _ _ _ _ hi' h'
     ·obtain ⟨γ',hi'⟩:=hi.thaw (by omega) h1 h2 h3 h4 h5 h6 h7
      exact ih _ (fun x hx=>hd x (List.mem_of_mem_drop hx)) _ _ _ _ _ hi' h
   ·have:=jF (ops:=ops) (Q:=Q) hΩ (l.drop (i/3)) (fun fr H w γ a hi h=>?_) hKp (l.take (i/3)) (fun o ho=>hd o (List.mem_of_mem_take ho)) fr H w γ a hi h
    ·rwa [List.take_append_drop] at this
    ·split at h
     ·rename_i o rest hdr
      obtain ⟨hg,h⟩:=h
      have hmem:∀ x∈o::rest,jD n x=true:=fun x hx=>hd x (List.mem_of_mem_drop (by rw [hdr];exact hx))
      rw [hdr]
      unfold wpList
      rw [if_pos (by simp [Region.wanted,hg])]
      exact .inl (xO h (hmem o List.mem_cons_self) hi fun fr' H' w' γ' a' hi' hk=>ih rest (fun x hx=>hmem x (List.mem_cons_of_mem _ hx)) _ _ _ _ _ hi' hk)
     ·exact h.elim
end
section
variable {P:Program} {w:World} {γ:br} {H:AHeap}
theorem oC {α:Type} {f:α→Sem Value} {w:World}:∀ {l:List α} {vs:List Value},vs.length=l.length→(∀ (j:Nat) x v,l[j]?=some x→vs[j]?=some v→(f x).run P w=.ok v w) →
 (l.mapM f).run P w=.ok vs w
 |[],[],_,_=>by simp
 |x::l,v::vs,hl,h=>by
  rw [List.mapM_cons]
  have h0:=h 0 x v rfl rfl
  have ih:=oC (l:=l) (vs:=vs) (by simpa using hl) (fun j x v hx hv=>h (j+1) x v (by simpa using hx) (by simpa using hv))
  simp [h0,ih]
 |[],_::_,hl,_=>by simp at hl
 |_::_,[],hl,_=>by simp at hl
theorem tK (hs:State w γ H) {fr:Fr} {a:Act} (hf:SimF w γ H (Fr.get fr) a):∀ {rs:List ResultVar} {c:Prop} {xs:List AV},lS P fr H rs=some (c,xs)→c →
 ∃ vs:List Value,vs.length=rs.length∧xs.length=rs.length ∧
  (∀ (j:Nat) r v,rs[j]?=some r→vs[j]?=some v→((match r with|.tmp t=>pure (a.tmps.getD t undef)|.cell b t=>do loadVar t (← asAddr (a.tmps.getD b undef)):Sem Value).run P w)=.ok v w) ∧
  ∀ (j:Nat) x v,xs[j]?=some x→vs[j]?=some v→Rel w γ H x v
 |[],c,xs,h,hc=>by
  simp only [lS] at h;cases h
  exact ⟨[],rfl,rfl,fun j r v hr=>by simp at hr,fun j x v hx=>by simp at hx⟩
 |r::rs,c,xs,h,hc=>by
  simp only [lS] at h
  split at h
  ·rename_i c1 x1 d1 xs1 h1 h2
   cases h
   obtain ⟨v,hv,hr⟩:=AF hs hf h1 hc.1
   obtain ⟨vs,g1,g2,g3,g4⟩:=tK hs hf h2 hc.2
   refine ⟨v::vs,by simp [g1],by simp [g2],fun j r' v' hr' hv'=>?_,fun j x v' hx hv'=>?_⟩
   ·cases j with
    |zero=>simp only [List.getElem?_cons_zero,Option.some.injEq] at hr' hv';subst hr';subst hv';exact hv
    |succ j=>exact g3 j r' v' (by simpa using hr') (by simpa using hv')
   ·cases j with
    |zero=>simp only [List.getElem?_cons_zero,Option.some.injEq] at hx hv';subst hx;subst hv';exact hr
    |succ j=>exact g4 j x v' (by simpa using hx) (by simpa using hv')
  ·cases h
theorem ju (hs:State w γ H) {fr:Fr} {a:Act} (hf:SimF w γ H (Fr.get fr) a) {fn:Func} {c:Prop} {xs:List AV} (h:lS P fr H fn.results.toList=some (c,xs)) (hc:c) :
 ∃ v,(results fn a.tmps).run P w=.ok v w∧Rel w γ H (one xs) v:=by
 obtain ⟨vs,g1,g2,g3,g4⟩:=tK hs hf h hc
 refine ⟨if h:vs.toArray.size=1 then vs.toArray[0] else .tuple vs.toArray,?_,?_⟩
 ·unfold results
  rw [Sem.run_bind,Array.mapM_eq_mapM_toList]
  have:=oC (P:=P) (w:=w) (f:=fun r=>(match r with|.tmp t=>pure (a.tmps.getD t undef)|.cell b t=>do loadVar t (← asAddr (a.tmps.getD b undef)):Sem Value)) g1 g3
  simp only [map_eq_pure_bind,Sem.run_bind] at this ⊢
  erw [this]
  simp
 ·match xs,vs,g1,g2,g4 with
  |[x],[v],_,_,g4=>simpa [one] using g4 0 x v rfl rfl
  |[],[],_,_,g4=>simp only [one];rw [Rel];exact ⟨#[],by simp,by simp,fun j hj=>by simp at hj⟩
  |x::y::xs,v::u::vs,g1,g2,g4 =>
   have hlen:(v::u::vs).length=(x::y::xs).length:=by rw [g1,g2]
   have:(one (x::y::xs))=.tup (x::y::xs):=rfl
   rw [this,Rel]
   refine ⟨(v::u::vs).toArray,by simp,by simp at hlen ⊢;omega,fun j hj=>?_⟩
   have hj':j<(v::u::vs).length:=by rw [hlen];exact hj
   exact ⟨(v::u::vs)[j],by simp only [List.getElem?_toArray];exact List.getElem?_eq_getElem hj',g4 j _ _ (List.getElem?_eq_getElem hj) (List.getElem?_eq_getElem hj')⟩
  |[_],[],g1,g2,_=>simp at g1 g2;omega
  |[],[_],g1,g2,_=>simp at g1 g2;omega
  |[],_::_::_,g1,g2,_=>simp at g1 g2;omega
  |[_],_::_::_,g1,g2,_=>simp at g1 g2;omega
  |_::_::_,[],g1,g2,_=>simp at g1 g2;omega
  |_::_::_,[_],g1,g2,_=>simp at g1 g2;omega
end
def maskOk (ops:Array Oper) (ms:List (List Nat)):Bool :=
 go (fF ops.toList []) ms
where
 go:List Nat→List (List Nat)→Bool
 |_,[]=>true
 |[],m::ms=>m.isEmpty&&go [] ms
 |a::as,m::ms=>m.all (fun j=>a.testBit j)&&go as ms
theorem nq:∀ {as:List Nat} {ms:List (List Nat)},maskOk.go as ms=true→∀ k j,j∈ms.getD k []→(as.getD k 0).testBit j=true
 |_,[],_,k,j,h=>by simp at h
 |[],m::ms,h,0,j,hj=>by
  unfold maskOk.go at h
  simp only [Bool.and_eq_true,List.isEmpty_iff] at h
  simp [h.1] at hj
 |[],m::ms,h,k+1,j,hj=>by
  unfold maskOk.go at h
  simp only [Bool.and_eq_true] at h
  have:=nq (as:=[]) h.2 k j (by simpa using hj)
  simp at this
 |a::as,m::ms,h,0,j,hj=>by
  unfold maskOk.go at h
  simp only [Bool.and_eq_true,List.all_eq_true] at h
  simpa using h.1 j (by simpa using hj)
 |a::as,m::ms,h,k+1,j,hj=>by
  unfold maskOk.go at h
  simp only [Bool.and_eq_true] at h
  simpa using nq h.2 k j (by simpa using hj)
theorem eR {ops:Array Oper} {ms:List (List Nat)} (h:maskOk ops ms=true):MaskOk ops 0 ms:=fun k _ j hj=>nq h k j (by simpa using hj)
def gu (P:Program) (Ω:Tbl) (T:Nat→List (List Nat)) (n:Nat):Code→Bool
 |.region id ops true=>regionOk P Ω n ((T (id+800)).map (·.headD 0)) ops&&maskOk ops (T id)
 |.region _ ops false=>ops.toList.all (jD n)
 |.seq a b=>gu P Ω T n a&&gu P Ω T n b
 |.cond _ a b=>gu P Ω T n a&&gu P Ω T n b
 |.block _ c=>gu P Ω T n c
 |.loop c=>gu P Ω T n c
 |.scope c=>gu P Ω T n c
 |_=>true
section
variable {P:Program} {Ω:Tbl} {w0:World} {γ0:br} {H0:AHeap} {ds:List Deferred} {n:Nat}
structure PQ (w0:World) (γ0:br) (H0:AHeap) (ds:List Deferred) (m:Nat) (K:Conts) (Q:Exit→Act→World→Prop):Prop where
 n0:K.n0=H0.nx
 n:∀ fr H w γ a,Inv w0 γ0 H0 ds m w γ H (Fr.get fr) a→K.n fr H→Q .normal a w
 r:∀ fr H w γ a,Inv w0 γ0 H0 ds m w γ H (Fr.get fr) a→K.r fr H→Q .ret a w
 x:∀ id fr H w γ a,Inv w0 γ0 H0 ds m w γ H (Fr.get fr) a→K.x id fr H→Q (.exit id) a w
 p:∀ fr x v H w γ a,Inv w0 γ0 H0 ds m w γ H (Fr.get fr) a→Rel w γ H x v→K.p fr x H→Q (.panic [{ v,recovered:=false }]) a w
theorem lJ {f : FuncId} {fn : Func} {c : Code} (hf : P.funcs[f]? = some fn) (hname : (fn.name == "runtime.NumGoroutine") = false) (hb : fn.body = some c) (args : Array Value) (w : World) :
 (callFunc f args).run P w=.ok (.enter f args) w:=by
 have h1 : fn.name ≠ "runtime.NumGoroutine" := by simpa using hname
 simp [callFunc,hf,h1,hb]
theorem Inv.draw {w:World} {γ:br} {H:AHeap} {f:Nat→AV} {a:Act} (h:Inv w0 γ0 H0 ds n w γ H f a):Inv w0 γ0 H0 ds n { w with drawn:=w.drawn+1 } γ H f a:=by
 have he:Ext w γ H { w with drawn:=w.drawn+1 } γ H:=by
  have:=Ext.refl w γ H
  exact ⟨rfl,rfl,rfl,Nat.le_refl _,Nat.le_refl _,this.block,this.imm,fun _ _ _=>rfl,this.none,this.keep,this.bufs,this.bufk⟩
 refine ⟨?_,h.ext.trans he,h.sim.ext he,h.size,h.defers⟩
 refine ⟨h.state.inj,fun id o ho=>?_⟩
 have:=h.state.obj id o ho
 cases o with
 |cells cs =>
  rcases this with this|⟨blk,C,ty,fr,h1,h2,h3,h4,h5⟩
  ·exact .inl this
  exact .inr ⟨blk,C,ty,fr,h1,h2,h3,fun j hj=>let ⟨u,hu,hr⟩:=h4 j hj;⟨u,hu,hr.ext he⟩,h5⟩
 |buf sz n=>exact this
 |part cs =>
  obtain ⟨blk,C,ty,fr,h1,h2,h3,h4,h5,h6⟩:=this
  exact ⟨blk,C,ty,fr,h1,h2,h3,fun j hj=>let ⟨u,hu,hr⟩:=h4 j hj;⟨u,hu,hr.ext he⟩,h5,h6⟩
 |mapo es=>exact this
theorem yJ:∀ {fr' fr:Fr},pC fr' fr→∀ t,Fr.get fr' t=.junk∨Fr.get fr' t=Fr.get fr t
 |[],fr,_,t=>.inl rfl
 |(i,v)::l,fr,h,t=>by
  simp only [Fr.get]
  by_cases hi:i=t
  ·subst hi;rw [if_pos rfl];exact .inr h.1.symm
  ·rw [if_neg hi];exact yJ h.2 t
theorem Inv.enter {fr fr':Fr} {H H':AHeap} {w:World} {γ:br} {a:Act} (h:Inv w0 γ0 H0 ds n w γ H (Fr.get fr) a) (he:enter H0.nx fr H fr' H'):Inv w0 γ0 H0 ds n w γ H' (Fr.get fr') a:=by
 obtain ⟨h1,h2⟩:=he
 have hsim:SimF w γ H (Fr.get fr') a:=fun t=>by
  rcases yJ h1 t with hj|hj
  ·rw [hj,Rel];trivial
  ·rw [hj];exact h.sim t
 rcases h2 with rfl|⟨h2,h3,h4,h5⟩
 ·exact ⟨h.state,h.ext,hsim,h.size,h.defers⟩
 ·exact ⟨h.state.drop h3 h4,h.ext.drop h3 h2,fun t=>Rel.drop h3 _ _ (wQ h5 t) (hsim t),h.size,h.defers⟩
theorem Inv.enterB {W:Option Bool} {fr fr':Fr} {H H':AHeap} {w:World} {γ:br} {a:Act} (h:Inv w0 γ0 H0 ds n w γ H (Fr.get fr) a) (he:enterB W H0.nx fr H fr' H'):Inv w0 γ0 H0 ds n w γ H' (Fr.get fr') a:=by
 match W,he with
 |none,he=>obtain ⟨rfl,rfl⟩:=he;exact h
 |some false,he=>exact h.enter he
 |some true,he=>exact h.enterW he
theorem gm (hm:P.follows .mixedOrders=true) (hΩ:TblOk P Ω):∀ (c:Code) (K:Conts) (Q:Exit→Act→World→Prop),gu P Ω K.T n c=true→PQ w0 γ0 H0 ds n K Q →
 ∀ fr H w γ a,Inv w0 γ0 H0 ds n w γ H (Fr.get fr) a→aw P Ω c K fr H→c.wp P Q a w
 |.skip,K,Q,_,hq,fr,H,w,γ,a,hi,h=>wp_skip (hq.n _ _ _ _ _ hi h)
 |.region id ops true,K,Q,hok,hq,fr,H,w,γ,a,hi,h=>by
  simp only [gu,Bool.and_eq_true] at hok
  simp only [aw,uA] at h
  split at h
  ·exact fG hm hΩ hok.1 hq.n hi.draw (eR hok.2) h
  ·rcases h with ⟨fr',H',he,h⟩|⟨s,j,sz,cs,h1,h2,h⟩|⟨s,y,h1,h⟩|⟨id,cs,cs',h1,h2,h⟩|⟨id,cs,h1,h⟩|⟨s,id,off,j,sz,cs,h1,h2,h3,h⟩|⟨id,j,mid,off,sz,len,cs,ms,h1,h2,h3,h4,h5,h⟩|⟨id,sz,m,h⟩|⟨hz,s,id,sz,xs,fr',Hk,⟨h1,h2,h3,h4,h5,h6,h7⟩,h⟩
   ·rw [hq.n0] at he
    exact fG hm hΩ hok.1 hq.n (hi.enterW he).draw (eR hok.2) h
   ·obtain ⟨γ',hi'⟩:=hi.nilOwn (sz:=sz) h1 h2
    exact fG hm hΩ hok.1 hq.n hi'.draw (eR hok.2) h
   ·exact fG hm hΩ hok.1 hq.n (hi.weakSlot h1).draw (eR hok.2) h
   ·exact fG hm hΩ hok.1 hq.n (hi.weakObj h1 h2).draw (eR hok.2) h
   ·obtain ⟨k,hi'⟩:=hi.room h1
    exact fG hm hΩ hok.1 hq.n hi'.draw (eR hok.2) (h k)
   ·obtain ⟨γ',hi'⟩:=hi.cellOwn (sz:=sz) h1 h2 h3
    exact fG hm hΩ hok.1 hq.n hi'.draw (eR hok.2) h
   ·exact fG hm hΩ hok.1 hq.n (hi.weakMs h1 h2 h3 h4 h5).draw (eR hok.2) h
   ·obtain ⟨γ',fr',H',hi',h'⟩:=hi.pub h
    exact fG hm hΩ hok.1 hq.n hi'.draw (eR hok.2) h'
   ·obtain ⟨γ',hi'⟩:=hi.thaw (by have:=hq.n0;omega) h1 h2 h3 h4 h5 h6 h7
    exact fG hm hΩ hok.1 hq.n hi'.draw (eR hok.2) h
 |.region id ops false,K,Q,hok,hq,fr,H,w,γ,a,hi,h =>
  wp_region_list (qg hΩ hq.n0 hq.n hq.p _ ops.toList (fun o ho=>List.all_eq_true.1 hok o ho) _ _ _ _ _ hi h)
 |.seq x y,K,Q,hok,hq,fr,H,w,γ,a,hi,h=>by
  simp only [gu,Bool.and_eq_true] at hok
  refine wp_seq (gm hm hΩ x { K with n:=aw P Ω y K } (Exit.then (y.wp P Q) Q) hok.1 ⟨hq.n0,?_,hq.r,hq.x,hq.p⟩ _ _ _ _ _ hi h)
  exact fun fr H w γ a hi h=>gm hm hΩ y K Q hok.2 hq _ _ _ _ _ hi h
 |.cond c x y,K,Q,hok,hq,fr,H,w,γ,a,hi,h=>by
  simp only [gu,Bool.and_eq_true] at hok
  simp only [aw] at h
  split at h
  ·rename_i t ht
   have hc:=hi.sim.eval c
   rw [← eB,ht,Rel] at hc
   exact wp_cond_split hc (fun e=>gm hm hΩ x K Q hok.1 hq _ _ _ _ _ hi (h.1 e)) (fun e=>gm hm hΩ y K Q hok.2 hq _ _ _ _ _ hi (h.2 e))
  ·exact h.elim
 |.block id c,K,Q,hok,hq,fr,H,w,γ,a,hi,h=>by
  refine wp_block (gm hm hΩ c { K with x:=fun i fr H=>if i=id then K.n fr H else K.x i fr H } (Exit.inBlock id Q) hok ⟨hq.n0,hq.n,hq.r,?_,hq.p⟩ _ _ _ _ _ hi h)
  intro i fr H w γ a hi h
  simp only [Exit.inBlock]
  dsimp only at h
  split at h
  ·rename_i e;rw [if_pos e];exact hq.n _ _ _ _ _ hi h
  ·rename_i e;rw [if_neg e];exact hq.x _ _ _ _ _ _ hi h
 |.loop c,K,Q,hok,hq,fr,H,w,γ,a,hi,h=>by
  obtain ⟨W,A,F,G,I,μ,⟨x0,hI0,he0⟩,hbody⟩:=h
  rw [hq.n0] at he0
  refine wp_loop_ghost (fun k a' w'=>∃ x γ',I x∧μ x=k∧Inv w0 γ0 H0 ds n w' γ' (G x) (Fr.get (F x)) a') (μ x0) ⟨x0,γ,hI0,rfl,hi.enterB he0⟩ ?_
  rintro k a' w' ⟨x,γ',hI,rfl,hi'⟩
  refine gm hm hΩ c { K with n:=fun fr' H'=>∃ a',I a'∧μ a'<μ x∧AL.enterB W K.n0 fr' H' (F a') (G a') } (Exit.then (fun a' w'=>∃ n',n'<μ x∧∃ x γ',I x∧μ x=n'∧Inv w0 γ0 H0 ds n w' γ' (G x) (Fr.get (F x)) a') Q) hok ⟨hq.n0,?_,hq.r,hq.x,hq.p⟩ _ _ _ _ _ hi' (hbody x hI)
  rintro fr2 H2 w2 γ2 a2 hi2 ⟨x2,hI2,hlt,he2⟩
  rw [hq.n0] at he2
  exact ⟨μ x2,hlt,x2,γ2,hI2,rfl,hi2.enterB he2⟩
 |.exit id,K,Q,_,hq,fr,H,w,γ,a,hi,h=>wp_exit (hq.x _ _ _ _ _ _ hi h)
 |.ret,K,Q,_,hq,fr,H,w,γ,a,hi,h=>wp_ret (hq.r _ _ _ _ _ hi h)
 |.scope c,K,Q,hok,hq,fr,H,w,γ,a,hi,h =>
  wp_scope_straight (gm hm hΩ c K (Exit.noGoto Q) hok ⟨hq.n0,hq.n,hq.r,hq.x,hq.p⟩ _ _ _ _ _ hi h)
 |.label l,K,Q,_,hq,fr,H,w,γ,a,hi,h=>wp_label (hq.n _ _ _ _ _ hi h)
 |.goto l,K,Q,_,hq,fr,H,w,γ,a,hi,h=>h.elim
 |.rangeFunc f ps x y,K,Q,_,hq,fr,H,w,γ,a,hi,h=>h.elim
 |.refuse s,K,Q,_,hq,fr,H,w,γ,a,hi,h=>h.elim
theorem qr:∀ (k:Nat) (args:List AV) (t:Nat),Fr.get (qu k args) t=if k≤t then (args[t - k]?).getD .junk else .junk
 |k,[],t=>by simp [qu,Fr.get]
 |k,x::args,t=>by
  simp only [qu,Fr.get]
  by_cases h:k=t
  ·subst h;simp
  ·rw [if_neg h,qr (k+1) args t]
   by_cases h2:k≤t
   ·rw [if_pos (by omega),if_pos h2]
    have:t - k=(t - (k+1))+1:=by omega
    rw [this];simp
   ·rw [if_neg (by omega),if_neg h2]
theorem ACalls.of_aw (hm : P.follows .mixedOrders = true) (hΩ : TblOk P Ω) {f : FuncId} {fn : Func} {c : Code} (hf : P.funcs[f]? = some fn) (hname : (fn.name == "runtime.NumGoroutine") = false)
 (hb:fn.body=some c) {rs:List ResultVar} (hrs:fn.results.toList=rs) {T:Nat→List (List Nat)} (hok:gu P Ω T fn.ntmps c=true) {args:List AV} (ha:args.length≤fn.ntmps) {H H1:AHeap} {e:AEnd} (hnx:H.nx≤H1.nx)
 (h:H.Closed→(∀ x∈args,x.lt H.nx)→aw P Ω c (qt P rs H.nx e H1 T) (qu 0 args) H):ACalls P f args H e H1:=by
 subst hrs
 intro w γ vs hs hr
 replace h:=h hs.closed fun x hx=>by
  obtain ⟨j,hj,rfl⟩:=List.getElem_of_mem hx
  obtain ⟨u,_,hru⟩:=hr.2 j hj
  exact Rel.lt _ _ hru
 rw [lJ hf hname hb]
 refine calls_of_wp hf hb (gm (w0:=w) (γ0:=γ) (H0:=H) (ds:=[]) (n:=fn.ntmps) hm hΩ c _ _ hok ⟨rfl,?_,?_,?_,?_⟩ (qu 0 args) H w γ _ ⟨hs,Ext.refl _ _ _,?_,?_,rfl⟩ h)
 case refine_5 =>
  intro t
  rw [qr,if_pos (Nat.zero_le _),Nat.sub_zero]
  by_cases ht:t<args.length
  ·obtain ⟨u,hu,hru⟩:=hr.2 t ht
   have hlt:t<vs.size:=by rw [hr.1];exact ht
   rw [List.getElem?_eq_getElem ht,Option.getD_some,Array.getD_eq_getD_getElem?,Array.getElem?_append_left hlt,hu]
   exact hru
  ·rw [List.getElem?_eq_none (by omega),Option.getD_none,Rel];trivial
 case refine_6=>simp [hr.1];omega
 all_goals clear h
 case refine_4 =>
  intro fr x v H' w' γ' a' hi h4 h5
  have h1:=hi.state
  have h2:=hi.ext
  refine ⟨hi.defers,?_⟩
  cases e with
  |ret y=>exact h5.elim
  |panic y =>
   obtain ⟨g1,g2,g3,g4⟩:=h5
   exact ⟨γ',h1.drop g2 g3,h2.drop g2 hnx,v,rfl,wu h1 g2 h4 g1 g4⟩
 case refine_3=>intro id fr H' w' γ' a' _ h5;exact h5.elim
 all_goals
  intro fr H' w' γ' a' hi h5
  refine ⟨hi.defers,?_⟩
  simp only [qt,fN] at h5
  split at h5
  ·rename_i y c' xs hres
   obtain ⟨hc,g1,g2,g3,g4⟩:=h5
   obtain ⟨v,hv,hrel⟩:=ju hi.state hi.sim hres hc
   exact ⟨v,hv,γ',hi.state.drop g2 g3,hi.ext.drop g2 hnx,by
    show Rel w' γ' H1 y v
    exact wu hi.state g2 hrel g1 g4⟩
  ·exact h5.elim
theorem ACallsP.of_aw (hm : P.follows .mixedOrders = true) (hΩ : TblOk P Ω) {f : FuncId} {fn : Func} {c : Code} (hf : P.funcs[f]? = some fn) (hname : (fn.name == "runtime.NumGoroutine") = false)
 (hb:fn.body=some c) {rs:List ResultVar} (hrs:fn.results.toList=rs) {T:Nat→List (List Nat)} (hok:gu P Ω T fn.ntmps c=true) {args:List AV} (ha:args.length≤fn.ntmps) {H:AHeap} {Q:AV→AHeap→Prop}
 (h:H.Closed→(∀ x∈args,x.lt H.nx)→aw P Ω c (tJ P rs H.nx Q T) (qu 0 args) H):ACallsP P f args H Q:=by
 subst hrs
 intro w γ vs hs hr
 replace h:=h hs.closed fun x hx=>by
  obtain ⟨j,hj,rfl⟩:=List.getElem_of_mem hx
  obtain ⟨u,_,hru⟩:=hr.2 j hj
  exact Rel.lt _ _ hru
 rw [lJ hf hname hb]
 refine calls_of_wp hf hb (gm (w0:=w) (γ0:=γ) (H0:=H) (ds:=[]) (n:=fn.ntmps) hm hΩ c _ _ hok ⟨rfl,?_,?_,?_,?_⟩ (qu 0 args) H w γ _ ⟨hs,Ext.refl _ _ _,?_,?_,rfl⟩ h)
 case refine_5 =>
  intro t
  rw [qr,if_pos (Nat.zero_le _),Nat.sub_zero]
  by_cases ht:t<args.length
  ·obtain ⟨u,hu,hru⟩:=hr.2 t ht
   have hlt:t<vs.size:=by rw [hr.1];exact ht
   rw [List.getElem?_eq_getElem ht,Option.getD_some,Array.getD_eq_getD_getElem?,Array.getElem?_append_left hlt,hu]
   exact hru
  ·rw [List.getElem?_eq_none (by omega),Option.getD_none,Rel];trivial
 case refine_6=>simp [hr.1];omega
 all_goals clear h
 case refine_4=>intro fr x v H' w' γ' a' hi h4 h5;exact h5.elim
 case refine_3=>intro id fr H' w' γ' a' _ h5;exact h5.elim
 all_goals
  intro fr H' w' γ' a' hi h5
  refine ⟨hi.defers,?_⟩
  simp only [tJ,gN] at h5
  split at h5
  ·rename_i c' xs hres
   obtain ⟨hc,x,H1,hq,hnx,g1,g2,g3,g4⟩:=h5
   obtain ⟨v,hv,hrel⟩:=ju hi.state hi.sim hres hc
   exact ⟨v,hv,γ',x,H1,hq,hi.state.drop g2 g3,hi.ext.drop g2 hnx,by
    show Rel w' γ' H1 x v
    exact wu hi.state g2 hrel g1 g4⟩
  ·exact h5.elim
end
theorem ACalls.fW {P : Program} {Ω : Tbl} (hm : P.follows .mixedOrders = true) (hΩ : TblOk P Ω) {f : FuncId} {fn : Func} {c : Code} (hf : P.funcs[f]? = some fn) (rs : List ResultVar) {args : List AV} {H H1 : AHeap} {e : AEnd} (hnx : H.nx ≤ H1.nx)
 {T : Nat → List (List Nat)} (hname : (fn.name == "runtime.NumGoroutine") = false := by kernel_rfl) (hb : fn.body = some c := by rfl) (hrs : fn.results.toList = rs := by rfl) (hok : gu P Ω T fn.ntmps c = true := by kernel_rfl)
 (ha : Nat.ble args.length fn.ntmps = true := by rfl)
 (h : H.Closed → (∀ x ∈ args, x.lt H.nx) → aw P Ω c (KI P Ω (qt P rs H.nx e H1 T) []) (qu 0 args) H) : ACalls P f args H e H1 :=
 ACalls.of_aw hm hΩ hf hname hb hrs hok (Nat.le_of_ble_eq_true ha) hnx h
theorem ACallsP.fS {P : Program} {Ω : Tbl} (hm : P.follows .mixedOrders = true) (hΩ : TblOk P Ω) {f : FuncId} {fn : Func} {c : Code} (hf : P.funcs[f]? = some fn) (rs : List ResultVar) {args : List AV} {H : AHeap} {Q : AV → AHeap → Prop}
 {T : Nat → List (List Nat)} (hname : (fn.name == "runtime.NumGoroutine") = false := by kernel_rfl) (hb : fn.body = some c := by rfl) (hrs : fn.results.toList = rs := by rfl) (hok : gu P Ω T fn.ntmps c = true := by kernel_rfl)
 (ha : Nat.ble args.length fn.ntmps = true := by rfl)
 (h : H.Closed → aw P Ω c (KI P Ω (tJ P rs H.nx Q T) []) (qu 0 args) H) : ACallsP P f args H Q :=
 ACallsP.of_aw hm hΩ hf hname hb hrs hok (Nat.le_of_ble_eq_true ha) fun a _ => h a
end Go.AL
