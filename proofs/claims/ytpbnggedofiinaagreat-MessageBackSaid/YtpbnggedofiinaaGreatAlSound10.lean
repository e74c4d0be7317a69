/- Lemmas of the proof; no condition. -/
import Derived.Test.YtpbnggedofiinaaGreatAlSound6
import Derived.Laws.IdiomStrings
import Derived.Laws.BytesArg
import Derived.Test.YtpbnggedofiinaaGreatAlCode
import Derived.Deep.LoopGhost
import Derived.Orders
import Derived.Still
set_option linter.all false
set_option linter.unusedSectionVars false
open List renaming length_map → ybb, length_cons → yaz, getElem?_cons_succ → yan, map_cons → yae, getElem?_cons_zero → yam, nil_append → yak, length_nil → yba, take_of_length_le → ybc, append_nil → yaj, map_nil → yaf, drop_zero → yap
open Option renaming map_some → yag, elim_some → yai
namespace Go.AL
section
variable {P:Program} {w:World} {γ:br} {H:AHeap}
theorem cU {t e:TypeId} (h:(ti P t).map TI.desc=some (.slice e)):P.underlying t=some (.slice e):=by
 obtain ⟨d,i,hu,hi,hd⟩:=gz h
 cases d<;>simp [dD] at hd
 subst hd;exact hu
theorem iG {t:TypeId} (h:(ti P t).map TI.desc=some .string):P.underlying t=some .string:=by
 obtain ⟨d,i,hu,hi,hd⟩:=gz h
 cases d<;>simp [dD] at hd
 exact hu
theorem rp {t:TypeId} {k:IntKind} (h:(ti P t).map TI.desc=some (.int k)):P.underlying t=some (.int k):=by
 obtain ⟨d,i,hu,hi,hd⟩:=gz h
 cases d<;>simp [dD] at hd
 subst hd;exact hu
theorem nL (s:List UInt8):flat (s.map aL)=s.map aL:=by
 induction s with
 |nil=>rfl
 |cons b s ih=>show (aL b).cells++flat (s.map aL)=_;rw [ih];rfl
theorem rH (s:List UInt8) (z:Array Value):AtR (Rel w γ H) (s.map aL) ((s.toArray.map fun b=>Value.int .u8 b.toNat)++z) 0:=fun j hj=>by
 simp only [ybb] at hj
 refine ⟨.int .u8 s[j].toNat,?_,?_⟩
 ·rw [Nat.zero_add,Array.getElem?_append_left (by simpa using hj)]
  simp [hj]
 ·simp only [List.getElem_map,aL];exact gg _ _
theorem ql (hs:State w γ H) {w':World} {sz cap:Nat} {xs:List AV} {C:Array Value} {ty:TypeId} {fr:Nat × Nat} (hos:w'.os=w.os) (htape:w'.tape=w.tape) (hout:w'.output=w.output)
 (hsz:w'.heap.size=w.heap.size+1) (hold:∀ b,b<w.heap.size→w'.heap[b]?=w.heap[b]?) (hnew:w'.heap[w.heap.size]?=some (.cells C ty fr)) (hfr:C.size≤fr.1∨fr.2=0)
 (hle:xs.length≤cap) (hC:cap*sz≤C.size) (hall:∀ x∈xs,x.cells.length=sz) (hr:AtR (Rel w γ H) (flat xs) C 0) {run:Result Value}
 (hrun:run=.ok (.slice (some ⟨w.heap.size,0,none⟩) xs.length cap) w'):Out P w γ H (.slice (.own H.nx) sz xs) (H.push (.buf sz xs.length)) run:=by
 have he:=fh hs hos htape hout (by omega) hold (some w.heap.size) (fun b h=>by cases h;exact Nat.le_refl _) (.buf sz xs.length)
 refine ⟨_,w',_,hrun,dM hs (fun b h=>by cases h;omega) he hold (.inr (.inl ⟨_,_,rfl⟩)),he,?_⟩
 refine rel_slice.2 (.inr ⟨w.heap.size,0,cap,C,ty,fr,rfl,hle,hnew,by omega,?_,?_,hall,hr.mono fun x v h=>h.ext he⟩)
 ·intro id o ho hg
  rcases AHeap.get_push_inv _ _ ho with ⟨rfl,rfl⟩|⟨hlt,ho⟩
  ·exact ⟨_,_,rfl,by omega⟩
  ·rw [bL _ _ _ _ (by omega)] at hg
   have:=hs.lt ho hg;omega
 ·refine ⟨by rw [AHeap.nx_push];omega,fun sz' n h=>?_⟩
  rw [AHeap.get_push_new] at h;cases h
  refine ⟨rfl,Nat.le_refl _,fun _=>⟨bJ _ _ _,rfl,fun p p1 p2=>?_⟩⟩
  rcases hfr with h|h<;>omega
theorem nu (hs:State w γ H) {src dst:TypeId} {x:AV} {v:Value} {r:R} (hx:Rel w γ H x v) (h:zjo P src dst x H=some r) (hc:r.c) :
 Out P w γ H r.v r.H ((convert src dst v).run P w):=by
 unfold zjo at h
 split at h
 ·rename_i sd k k' n hsd hdd
  cases h
  rw [dk hx]
  obtain ⟨d1,i1,hu1,hi1,hd1⟩:=gz hsd
  obtain ⟨d2,i2,hu2,hi2,hd2⟩:=gz hdd
  cases d2<;>simp [dD] at hd2
  subst hd2
  exact Out.same hs (v:=.int _ (IntKind.wrap _ n)) (by simp [convert,aH hu1,aH hu2,Conv.intToInt]) (gg _ _)
 ·rename_i sd s hsd hdd
  cases h
  rw [io hx]
  obtain ⟨d1,i1,hu1,hi1,hd1⟩:=gz hsd
  obtain ⟨d2,i2,hu2,hi2,hd2⟩:=gz hdd
  cases d2<;>simp [dD] at hd2
  exact Out.same hs (by simp [convert,aH hu1,aH hu2]) (tY _)
 ·rename_i e s hsd hdd
  rw [io hx]
  have hu1:=iG hsd
  have hu2:=cU hdd
  split at h<;>cases h
  rename_i bt hte
  have hed:P.underlying e=some (.int .u8):=rp (by rw [hte];rfl)
  have hrun:=run_bytes_of_string (P:=P) w src dst e ⟨s.toArray⟩ hu1 hu2 hed
  rw [nM] at hrun
  have hn:s.length≤grownCap w s.length 0 e:=grownCap_ge _ _ _ _
  have hlen:(s.map aL).length=s.length:=by simp
  have hsz:(bytesRow ⟨s.toArray⟩ (grownCap w s.length 0 e)).size=grownCap w s.length 0 e:=by
   simp [bytesRow,ByteArray.size,-ByteArray.size_data];omega
  rw [← hlen] at hrun
  have:=ql (P:=P) hs (sz:=1) (xs:=s.map aL) (w':=w.drew.alloc _) rfl rfl rfl (by simp) (fun b hb=>dB w.drew _ hb) (cZ w.drew _) (.inl (Nat.le_refl _))
   (by rw [hlen];exact hn) (by rw [hlen,hsz];omega) (by simp [aL,AV.cells]) (by rw [nL];exact rH _ _) hrun
  rwa [hlen] at this
 ·rename_i e m sz xs hsd hdd
  have hu1:=cU hsd
  have hu2:=iG hdd
  split at h<;>cases h
  rename_i hte
  have hue:=rp hte
  have hby:∀ x∈xs,wI x:=hc
  refine Out.same hs (v:=.string ⟨(xs.map AL.byteOf).toArray⟩) ?_ (tY _)
  rcases rel_slice.1 hx with ⟨⟨a,rfl⟩,rfl,_⟩|⟨blk,off,cap,C,ty,fr,rfl,hle,hb,hcap,himm,hm,hall,hr⟩
  ·cases a with
   |none=>simp [convert,aH hu1,aH hu2,aH hue,Conv.bytesToString];rfl
   |some a =>
    rw [run_convert_bytes_string w src dst e _ 0 0 hu1 hue hu2]
    simp [Conv.bytesToString,loadCells,loadCellsFrom];rfl
  ·have hflat:flat xs=xs:=by
    clear hx hr hle hc hcap himm hm
    induction xs with
    |nil=>rfl
    |cons x xs ih =>
     obtain ⟨n,rfl⟩:=hby x (by simp)
     show _++flat xs=_
     rw [ih (fun y hy=>hby y (by simp [hy])) (fun y hy=>hall y (by simp [hy]))]
     rfl
   rw [hflat] at hr
   let num:AV→Int:=fun x=>match x with|.int _ n=>n|_=>0
   have:=run_convert_bytes_arg (P:=P) w src e hu1 hue blk off xs.length cap (xs.map num) (by simp) (fun i hi=>by
    obtain ⟨u,hu,hr⟩:=hr i hi
    obtain ⟨n,hn⟩:=hby xs[i] (List.getElem_mem hi)
    rw [hn] at hr
    rw [pZ hb,hu,dk hr]
    simp [List.getD,hi,hn,num]) dst hu2
   rw [this]
   congr 2
   show ByteArray.mk _=_
   congr 2
   rw [List.map_map]
   apply List.map_congr_left
   intro x hx
   obtain ⟨n,rfl⟩:=hby x hx
   rfl
 ·cases h
theorem zp {cs vs:List AV} {C:Array Value} {u:Value} (hC:C.size=cs.length) (hr:AtR (Rel w γ H) cs C 0) (hu1:u.cells.size=vs.length) (hu2:AtR (Rel w γ H) vs u.cells 0)
 {off:Nat} (hle:off+vs.length≤cs.length) :
 ∃ D:Array Value,(u.cells.zipIdx.foldl (fun cs (c,j)=>cs.setIfInBounds (off+j) c) C)=D∧D.size=(splice cs off vs).length∧AtR (Rel w γ H) (splice cs off vs) D 0:=by
 refine ⟨db C off u.cells.toList,?_,?_,?_⟩
 ·have key:∀ (l:List Value) (k:Nat) (D:Array Value),off+k+l.length≤D.size →
   (l.zipIdx k).foldl (fun cs (p:Value × Nat)=>cs.setIfInBounds (off+p.2) p.1) D=db D (off+k) l:=by
   intro l
   induction l with
   |nil=>intro k D _;simp [db]
   |cons c l ih =>
    intro k D hD
    simp only [yaz] at hD
    simp only [List.zipIdx_cons,List.foldl_cons]
    rw [ih (k+1) _ (by simp;omega)]
    apply Array.ext_getElem?
    intro j
    rw [eV _ _ _ (by simp;omega),eV _ _ _ (by simp;omega)]
    simp only [yaz]
    by_cases h1:j=off+k
    ·subst h1
     rw [if_neg (by omega),if_pos (by omega)]
     simp [show off+k<D.size by omega]
    ·by_cases h2:off+(k+1)≤j∧j<off+(k+1)+l.length
     ·rw [if_pos h2,if_pos (by omega)]
      rw [show j - (off+k)=(j - (off+(k+1)))+1 by omega,yan]
     ·rw [if_neg h2,if_neg (by omega),Array.getElem?_setIfInBounds_ne (by omega)]
  have:=key u.cells.toList 0 C (by simp;omega)
  rw [Nat.add_zero] at this
  rw [← this,← Array.foldl_toList,Array.toList_zipIdx]
 ·rw [ce _ _ _ (by simp;omega),dj _ _ _ hle,hC]
 ·exact hr.splice (by simpa using hu2) (by simpa using hu1) hle (by omega)
theorem oU {pa:Nat→Option (Nat × Nat)} {pc:Nat→Option (Nat × Nat)}:∀ (parts:List (Nat × AV)) (vs:List (Nat × Value)) (cs:List AV) (C:Array Value) (cs':List AV),
 (∀ j q,pa j=some q→(∃ p∈parts,p.1=j)→pc j=some q) →
 vs.length=parts.length→(∀ (j:Nat) p q,parts[j]?=some p→vs[j]?=some q→q.1=p.1∧Rel w γ H p.2 q.2)→C.size=cs.length→AtR (Rel w γ H) cs C 0 →
 zir pa cs parts=some cs'→∃ D:Array Value,Instr.fill pc C vs=some D∧D.size=cs'.length∧AtR (Rel w γ H) cs' D 0
 |[],vs,cs,C,cs',_,hl,_,hC,hr,h=>by
  cases vs with
  |nil=>simp only [zir,Option.some.injEq] at h;subst h;exact ⟨C,rfl,hC,hr⟩
  |cons _ _=>simp at hl
 |(i,x)::parts,vs,cs,C,cs',hp,hl,hv,hC,hr,h=>by
  cases vs with
  |nil=>simp at hl
  |cons q vs =>
   obtain ⟨i',v⟩:=q
   obtain ⟨e,hx⟩:=hv 0 _ _ rfl rfl
   dsimp only at e hx
   subst e
   simp only [zir] at h
   cases hpa:pa i' with
   |none=>simp [hpa] at h
   |some q =>
    obtain ⟨off,size⟩:=q
    simp only [hpa] at h
    split at h
    ·rename_i hcond
     obtain ⟨h1,h2,h3⟩:=hcond
     have hnj:x≠.junk∧∀ vs,x≠.tup vs:=by
      constructor
      ·rintro rfl;simp [AV.cells,bN,AV.one] at h3
      ·rintro vs rfl;simp [AV.cells,bN,AV.one] at h3
     obtain ⟨hu1,hu2⟩:=Rel.cells hx hnj.1 hnj.2
     obtain ⟨D,hD,hDs,hDr⟩:=zp hC hr hu1 hu2 (off:=off) (by omega)
     obtain ⟨E,hE,hEs,hEr⟩:=oU parts vs _ D cs' (fun j q hq ⟨p,hp1,hp2⟩=>hp j q hq ⟨p,by simp [hp1],hp2⟩) (by simpa using hl) (fun j p q hp hq=>hv (j+1) p q (by simpa using hp) (by simpa using hq)) hDs hDr h
     refine ⟨E,?_,hEs,hEr⟩
     have hpc:pc i'=some (off,size):=hp i' (off,size) hpa ⟨(i',x),by simp,rfl⟩
     have hcond:¬ ((decide (v.cells.size≠size)||decide (off+v.cells.size > C.size))=true):=by simp;omega
     rw [Instr.fill,hpc]
     dsimp only
     rw [if_neg hcond,hD]
     exact hE
    ·cases h
def RelP (w:World) (γ:br) (H:AHeap) (parts:List (Nat × AV)) (vs:List (Nat × Value)):Prop :=
 vs.length=parts.length∧∀ (j:Nat) p q,parts[j]?=some p→vs[j]?=some q→q.1=p.1∧Rel w γ H p.2 q.2
theorem yX {t:TypeId} {i:TI} (h:ti P t=some i):zjx P t=i.size:=by simp [zjx,h]
theorem zu (w : World) {fields : Array Field} (hk : zis P (fields.toList.map fun f => (f.offset, f.type, f.name == "_")) = true) :
 ∃ ps:Array (Nat × Nat),(fields.mapM fun f=>do pure (f.offset,← sizeOf f.type):Sem _).run P w=.ok ps w ∧
  ∀ (j:Nat) (f:Field),fields[j]?=some f→ps[j]?=some (f.offset,zjx P f.type):=by
 have key : ∀ (l : List Field) (acc : Array (Nat × Nat)), zis P (l.map fun f => (f.offset, f.type, f.name == "_")) = true →
  ∃ ps:Array (Nat × Nat),(l.foldlM (fun (bs:Array (Nat × Nat)) f=>bs.push <$> (do pure (f.offset,← sizeOf f.type))) acc:Sem _).run P w=.ok ps w ∧
  (∀ j,j<acc.size→ps[j]?=acc[j]?)∧∀ (j:Nat) (f:Field),l[j]?=some f→ps[acc.size+j]?=some (f.offset,zjx P f.type):=by
  intro l
  induction l with
  |nil=>intro acc _;exact ⟨acc,by simp,fun _ _=>rfl,fun j f h=>by simp at h⟩
  |cons f l ih =>
   intro acc h
   simp only [yae,zis,Bool.and_eq_true] at h
   obtain ⟨i,hi⟩:=Option.isSome_iff_exists.1 h.1
   obtain ⟨d,inf,z,hd,hinf,hz,rfl⟩:=bO hi
   obtain ⟨ps,h0,h1,h2⟩:=ih (acc.push (f.offset,inf.size)) h.2
   refine ⟨ps,?_,fun j hj=>by rw [h1 j (by simp;omega),Array.getElem?_push,if_neg (by omega)],fun j g hg=>?_⟩
   ·rw [List.foldlM_cons]
    simp only [Sem.run_bind,Sem.run_map,cu hinf,Result.andThen_ok,Sem.run_pure]
    exact h0
   ·cases j with
    |zero =>
     simp at hg;subst hg
     rw [Nat.add_zero,h1 _ (by simp),yX hi];simp
    |succ j =>
     have h4:=h2 j g (by simpa using hg)
     rw [← h4];congr 1;simp;omega
 obtain ⟨ps,h0,_,h2⟩:=key fields.toList #[] hk
 refine ⟨ps,?_,fun j f hf=>by have:=h2 j f (by simpa using hf);simpa using this⟩
 rw [Array.mapM_eq_foldlM,← Array.foldlM_toList]
 exact h0
theorem wl (hs:State w γ H) {t:TypeId} {parts:List (Nat × AV)} {vs:List (Nat × Value)} {r:R} (hp:RelP w γ H parts vs) (h:zjd P t parts H=some r) :
 Out P w γ H r.v r.H ((Instr.build t vs.toArray).run P w):=by
 unfold zjd at h
 split at h
 ·rename_i i hi
  obtain ⟨d,inf,z,hd,hinf,hz,rfl⟩:=bO hi
  obtain ⟨z1,z2⟩:=dZ (w:=w) (γ:=γ) (H:=H) z
  dsimp only at h
  split at h
  ·rename_i fs hfs
   obtain ⟨fields,rfl,rfl⟩:=me hfs
   split at h
   ·rename_i hk
    obtain ⟨ps,hps,hpl⟩:=zu (P:=P) w hk
    cases hf : zir (fun j => ((fields.toList.map fun f => (f.offset, f.type, f.name == "_"))[j]?).map fun f => (f.1, zjx P f.2.1)) (ofValue z).cells parts with
    |none=>rw [hf] at h;cases h
    |some cs =>
     simp only [hf,yag,Option.some.injEq] at h
     subst h
     obtain ⟨D,hD,hDs,hDr⟩:=oU (pc:=fun j=>ps[j]?) parts vs _ _ cs (fun j q hq _=>by
      cases hj : (fields.toList.map fun f => (f.offset, f.type, f.name == "_"))[j]? with
      |none=>simp [hj] at hq
      |some p =>
       obtain ⟨f,hf,rfl⟩:=rt hj
       simp only [hj,yag,Option.some.injEq] at hq
       rw [← hq]
       exact hpl j f hf) hp.1 hp.2 z1 z2 hf
     refine Out.same hs (v:=.agg D) ?_ (tF hDs hDr)
     simp only [Instr.build,Sem.run_bind,fI hinf hz,Result.andThen_ok,aH hd]
     rw [hps]
     simp only [Result.andThen_ok,hD]
     rfl
   ·cases h
  ·rename_i n e hfs
   cases d<;>simp [dD] at hfs
   obtain ⟨rfl,rfl⟩:=hfs
   rename_i n e
   split at h
   ·rename_i hk
    obtain ⟨ie,hie⟩:=Option.isSome_iff_exists.1 hk
    obtain ⟨de,infe,ze,hde,hinfe,hze,rfl⟩:=bO hie
    cases hf:zir (fun j=>some (j*zjx P e,zjx P e)) (ofValue z).cells parts with
    |none=>rw [hf] at h;cases h
    |some cs =>
     simp only [hf,yag,Option.some.injEq] at h
     subst h
     obtain ⟨D,hD,hDs,hDr⟩:=oU (pc:=fun j=>some (j*infe.size,infe.size)) parts vs _ _ cs (fun j q hq _=>by
      rw [← hq,yX hie]) hp.1 hp.2 z1 z2 hf
     refine Out.same hs (v:=.agg D) ?_ (tF hDs hDr)
     simp only [Instr.build,Sem.run_bind,fI hinf hz,Result.andThen_ok,aH hd,cu hinfe,hD]
     rfl
   ·cases h
  ·cases h
 ·cases h
theorem kU {sz:Nat}:∀ (parts:List (Nat × AV)) (k:Nat) (xs:List AV),zjf sz k parts=some xs →
 xs=parts.map (·.2)∧(∀ x∈xs,x.cells.length=sz∧bN x.cells=true)∧∀ (j:Nat) p,parts[j]?=some p→p.1=k+j
 |[],k,xs,h=>by simp only [zjf,Option.some.injEq] at h;subst h;simp
 |(i,v)::parts,k,xs,h=>by
  simp only [zjf] at h
  split at h
  ·rename_i hc
   obtain ⟨h1,h2,h3⟩:=hc
   cases hr:zjf sz (k+1) parts with
   |none=>simp [hr] at h
   |some ys =>
    simp only [hr,yag,Option.some.injEq] at h
    subst h
    obtain ⟨i1,i2,i3⟩:=kU parts (k+1) ys hr
    refine ⟨by simp [i1],fun x hx=>?_,fun j p hp=>?_⟩
    ·rcases List.mem_cons.1 hx with rfl|hx
     ·exact ⟨h2,h3⟩
     ·exact i2 x hx
    ·cases j with
     |zero=>simp at hp;subst hp;simpa using h1
     |succ j=>have:=i3 j p (by simpa using hp);omega
  ·cases h
theorem oo {sz:Nat}:∀ (parts:List (Nat × AV)) (vs:List (Nat × Value)) (k:Nat) (C:Array Value),
 vs.length=parts.length→(∀ (j:Nat) p q,parts[j]?=some p→vs[j]?=some q→q.1=p.1∧Rel w γ H p.2 q.2) →
 (∀ x∈parts.map (·.2),x.cells.length=sz∧bN x.cells=true)→(∀ (j:Nat) p,parts[j]?=some p→p.1=k+j)→C.size=(k+parts.length)*sz →
 ∃ D:Array Value,Instr.fill (fun i=>some (i*sz,sz)) C vs=some D∧D.size=C.size∧(∀ j,j<k*sz→D[j]?=C[j]?)∧AtR (Rel w γ H) (flat (parts.map (·.2))) D (k*sz)
 |[],vs,k,C,hl,hv,hx,hk,hC=>by
  cases vs with
  |nil=>exact ⟨C,rfl,rfl,fun _ _=>rfl,AtR.nil⟩
  |cons _ _=>simp at hl
 |(i,x)::parts,vs,k,C,hl,hv,hx,hk,hC=>by
  cases vs with
  |nil=>simp at hl
  |cons q vs =>
   obtain ⟨i',v⟩:=q
   obtain ⟨e,hr⟩:=hv 0 _ _ rfl rfl
   dsimp only at e hr
   subst e
   have hi:i'=k:=by have:=hk 0 _ rfl;simpa using this
   subst hi
   obtain ⟨h2,h3⟩:=hx x (by simp)
   have hnj:x≠.junk∧∀ vs,x≠.tup vs:=by
    constructor
    ·rintro rfl;simp [AV.cells,bN,AV.one] at h3
    ·rintro vs rfl;simp [AV.cells,bN,AV.one] at h3
   obtain ⟨hu1,hu2⟩:=Rel.cells hr hnj.1 hnj.2
   have hsz:i'*sz+sz≤C.size:=by
    rw [hC]
    have:(i'+1)*sz≤(i'+(parts.length+1))*sz:=Nat.mul_le_mul_right _ (by omega)
    rw [Nat.add_mul,Nat.one_mul] at this
    exact this
   have hD0:∃ D0:Array Value,v.cells.zipIdx.foldl (fun cs (c,j)=>cs.setIfInBounds (i'*sz+j) c) C=D0∧D0.size=C.size∧(∀ j,j<i'*sz→D0[j]?=C[j]?) ∧
    AtR (Rel w γ H) x.cells D0 (i'*sz):=by
    have junkR:AtR (fun (_:AV) (_:Value)=>True) (List.replicate C.size AV.junk) C 0:=fun j hj=>by
     simp at hj
     exact ⟨C[j],by simp [hj],trivial⟩
    refine ⟨db C (i'*sz) v.cells.toList,?_,ce _ _ _ (by simp;omega),fun j hj=>?_,fun j hj=>?_⟩
    ·have key:∀ (l:List Value) (k:Nat) (D:Array Value),i'*sz+k+l.length≤D.size →
      (l.zipIdx k).foldl (fun cs (p:Value × Nat)=>cs.setIfInBounds (i'*sz+p.2) p.1) D=db D (i'*sz+k) l:=by
      intro l
      induction l with
      |nil=>intro k D _;simp [db]
      |cons c l ih =>
       intro k D hD
       simp only [yaz] at hD
       simp only [List.zipIdx_cons,List.foldl_cons]
       rw [ih (k+1) _ (by simp;omega)]
       apply Array.ext_getElem?
       intro j
       rw [eV _ _ _ (by simp;omega),eV _ _ _ (by simp;omega)]
       simp only [yaz]
       by_cases h1:j=i'*sz+k
       ·subst h1
        rw [if_neg (by omega),if_pos (by omega)]
        simp [show i'*sz+k<D.size by omega]
       ·by_cases h2:i'*sz+(k+1)≤j∧j<i'*sz+(k+1)+l.length
        ·rw [if_pos h2,if_pos (by omega)]
         rw [show j - (i'*sz+k)=(j - (i'*sz+(k+1)))+1 by omega,yan]
        ·rw [if_neg h2,if_neg (by omega),Array.getElem?_setIfInBounds_ne (by omega)]
     have:=key v.cells.toList 0 C (by simp;omega)
     rw [Nat.add_zero] at this
     rw [← this,← Array.foldl_toList,Array.toList_zipIdx]
    ·rw [eV _ _ _ (by simp;omega),if_neg (by omega)]
    ·obtain ⟨u,hu,hr⟩:=hu2 j hj
     refine ⟨u,?_,hr⟩
     rw [eV _ _ _ (by simp;omega),if_pos (by simp;omega)]
     rw [Nat.zero_add] at hu
     simp only [Array.getElem?_toList]
     rw [← hu];congr 1;omega
   obtain ⟨D0,e0,s0,o0,r0⟩:=hD0
   obtain ⟨D,hD,hDs,hDo,hDr⟩:=oo parts vs (i'+1) D0 (by simpa using hl) (fun j p q hp hq=>hv (j+1) p q (by simpa using hp) (by simpa using hq))
    (fun y hy=>hx y (by simp at hy ⊢;exact .inr hy)) (fun j p hp=>by have:=hk (j+1) p (by simpa using hp);omega) (by rw [s0,hC,yaz];congr 1;omega)
   refine ⟨D,?_,hDs.trans s0,fun j hj=>(hDo j (by rw [Nat.add_mul];omega)).trans (o0 j hj),?_⟩
   ·have hcond:¬ ((decide (v.cells.size≠sz)||decide (i'*sz+v.cells.size > C.size))=true):=by simp;omega
    rw [Instr.fill]
    dsimp only
    rw [if_neg hcond,e0]
    exact hD
   ·show AtR _ (x.cells++flat (parts.map (·.2))) D _
    rw [AtR.append,h2]
    refine ⟨fun j hj=>?_,by rw [Nat.add_mul,Nat.one_mul] at hDr;exact hDr⟩
    obtain ⟨u,hu,hr⟩:=r0 j hj
    exact ⟨u,by rw [hDo _ (by rw [Nat.add_mul];omega)];exact hu,hr⟩
theorem pF (hs:State w γ H) {t:TypeId} {n:Nat} {parts:List (Nat × AV)} {vs:List (Nat × Value)} {r:R} (hp:RelP w γ H parts vs) (h:zje P t n parts H=some r) :
 Out P w γ H r.v r.H ((Instr.buildSlice t n vs.toArray).run P w):=by
 unfold zje at h
 split at h
 ·rename_i e hd
  have hu:=cU hd
  split at h
  ·rename_i te hte
   obtain ⟨ed,einf,ez,hed,heinf,hez,rfl⟩:=bO hte
   split at h
   ·rename_i hcond
    obtain ⟨hn,hlim⟩:=hcond
    dsimp only at h hlim
    cases hr:zjf einf.size 0 parts with
    |none=>simp [hr] at h
    |some xs =>
     simp only [hr,yag,Option.some.injEq] at h
     subst h
     obtain ⟨rfl,h2,h3⟩:=kU parts 0 xs hr
     obtain ⟨zero,hz1,hz2⟩:∃ zero:Array Value,(n*einf.size=0→zero=#[])∧(¬ n*einf.size=0→zero=ez.cells):=by
      by_cases h0:n*einf.size=0
      ·exact ⟨#[],fun _=>rfl,fun h=>absurd h0 h⟩
      ·exact ⟨ez.cells,fun h=>absurd h h0,fun _=>rfl⟩
     let C0:Array Value:=(Array.range (n*einf.size)).map (zero[· % zero.size]!)
     obtain ⟨D,hD,hDs,_,hDr⟩:=oo (sz:=einf.size) parts vs 0 C0 hp.1 hp.2 h2 h3 (by simp [C0,hn])
     have hDs':D.size=n*einf.size:=by rw [hDs];simp [C0]
     have:=ql (P:=P) hs (w':=w.alloc (.cells D e)) (sz:=einf.size) (cap:=n) (xs:=parts.map (·.2)) (C:=D) (ty:=e) (fr:=(0,0)) rfl rfl rfl (by simp) (fun b hb=>dB w _ hb) (cZ w _)
      (.inr rfl) (by simp;omega) (by rw [hDs'];exact Nat.le_refl _) (fun x hx=>(h2 x hx).1) (by simpa using hDr) (run:=(Instr.buildSlice t n vs.toArray).run P w) (by
        simp only [Instr.buildSlice,Sem.run_bind,aH hu,Result.andThen_ok,cu heinf]
        rw [if_neg (by omega)]
        simp only [C0] at hD
        by_cases h0:n*einf.size=0
        ·rw [if_pos h0,← hz1 h0]
         simp only [Sem.run_bind,Sem.run_pure,Result.andThen_ok]
         rw [hD]
         simp [newRow,hn]
        ·rw [if_neg h0]
         simp only [Sem.run_bind,fI heinf hez,Sem.run_pure,Result.andThen_ok]
         rw [← hz2 h0,hD]
         simp [newRow,hn])
     have hl:(parts.map (·.2)).length=n:=by simp [hn]
     rw [hl] at this
     exact this
   ·cases h
  ·cases h
 ·cases h
end
theorem uU {n:Int} (h1 : -9223372036854775808≤n) (h2:n≤9223372036854775807):IntKind.i64.wrap n=n:=by
 rw [IntKind.wrap_i64];omega
section
variable {P:Program} {w:World} {γ:br} {H:AHeap}
theorem wc {cs:List AV}:∀ (n j:Nat),j<n*cs.length→((List.replicate n cs).flatten)[j]?=cs[j % cs.length]?
 |0,j,h=>by simp at h
 |n+1,j,h=>by
  rw [List.replicate_succ,List.flatten_cons]
  rw [Nat.add_mul,Nat.one_mul] at h
  by_cases hj:j<cs.length
  ·rw [List.getElem?_append_left hj,Nat.mod_eq_of_lt hj]
  ·rw [List.getElem?_append_right (by omega),wc n _ (by omega)]
   congr 1
   rw [← Nat.mod_eq_sub_mod (by omega)]
theorem yu (hs:State w γ H) {t:TypeId} {l c:AV} {vl vc:Value} {r:R} (hl:Rel w γ H l vl) (hcv:Rel w γ H c vc) (h:ziv P t l c H=some r) (hc:r.c) :
 Out P w γ H r.v r.H ((Instr.makeSlice t vl vc).run P w):=by
 unfold ziv at h
 split at h
 ·rename_i e n m hd
  have hu:=cU hd
  rw [dk hl,dk hcv]
  split at h
  ·rename_i te hte
   obtain ⟨ed,einf,ez,hed,heinf,hez,rfl⟩:=bO hte
   split at h<;>cases h
   rename_i hz
   obtain ⟨rfl,h0,hb,hn⟩:=hc
   dsimp only at hz hb
   obtain ⟨n,rfl⟩:=Int.eq_ofNat_of_zero_le h0
   obtain ⟨z1,z2⟩:=dZ (w:=w) (γ:=γ) (H:=H) ez
   let C:Array Value:=madeCells ez.cells (n*einf.size)
   have hC:C.size=((List.replicate n (ofValue ez).cells).flatten).length:=by simp [C,madeCells,hz]
   have hr:AtR (Rel w γ H) (List.replicate n (ofValue ez).cells).flatten C 0:=by
    intro j hj
    have hj':j<n*einf.size:=by simpa [hz] using hj
    have hpos:0<einf.size:=by
     rcases Nat.eq_zero_or_pos einf.size with h|h
     ·rw [h] at hj';simp at hj'
     ·exact h
    have hm:j % einf.size<(ofValue ez).cells.length:=by rw [hz];exact Nat.mod_lt _ hpos
    obtain ⟨u,hu,hr⟩:=z2 (j % einf.size) hm
    have hget:=wc (cs:=(ofValue ez).cells) n j (by rw [hz];exact hj')
    rw [List.getElem?_eq_getElem hj,hz,List.getElem?_eq_getElem hm] at hget
    refine ⟨u,?_,by rw [Option.some.inj hget];exact hr⟩
    rw [Nat.zero_add] at hu ⊢
    have hzs:ez.cells.size=einf.size:=by rw [z1,hz]
    simp only [C,madeCells,Array.getElem?_map,hzs]
    rw [Array.getElem?_eq_getElem (by simpa using hj')]
    simp only [yag,Array.getElem_range]
    rw [getElem!_def,hu]
   obtain ⟨γ',s1,s2,s3⟩:=tP hs hC hr e
   have hrun:=run_make (P:=P) w t e einf ez hu heinf hez .i64 .i64 n n (by omega) (by omega) (by rw [Int.mul_comm];omega) (by omega)
   simp only [Int.toNat_natCast] at hrun
   refine ⟨_,_,γ',hrun,s1,s2,?_⟩
   refine rel_ms.2 ⟨by rw [AHeap.nx_push];omega,jc _ _,.inr ⟨w.heap.size,n,C,e,(0,0),s3,by simp,by simp,cZ w _,by simp [C,madeCells],?_⟩⟩
   intro p _ _ h;simp at h
  ·cases h
 ·cases h
theorem AtR.extract {R:AV→Value→Prop} {cs:List AV} {C:Array Value} {off n:Nat} (h:AtR R cs C off) (hn:cs.length=n):AtR R cs (C.extract off (off+n)) 0:=fun j hj=>by
 obtain ⟨u,hu,hr⟩:=h j hj
 have:=(Array.getElem?_eq_some_iff.1 hu).1
 exact ⟨u,by rw [Nat.zero_add,Array.getElem?_extract,if_pos (by omega)];exact hu,hr⟩
theorem dK (sz:Nat):∀ (n:Nat) (cs:List AV),(bK sz n cs).length=n
 |0,_=>rfl
 |n+1,cs=>by simp [bK,dK sz n]
theorem mB (sz:Nat):∀ (n:Nat) (cs:List AV) (i:Nat) (hi:i<(bK sz n cs).length),
 (bK sz n cs)[i]=if sz=1 then kS (cs.getD i .junk) else .agg ((List.range sz).map fun j=>cs.getD (i*sz+j) .junk)
 |0,cs,i,hi=>by simp [bK] at hi
 |n+1,cs,i,hi=>by
  simp only [bK]
  cases i with
  |zero=>simp
  |succ i =>
   simp only [List.getElem_cons_succ]
   rw [mB sz n]
   have e:∀ j,(cs.drop sz).getD j .junk=cs.getD (j+sz) .junk:=fun j=>by simp [List.getD_eq_getElem?_getD,Nat.add_comm]
   by_cases h1:sz=1
   ·subst h1;rw [if_pos rfl,if_pos rfl,e]
   ·rw [if_neg h1,if_neg h1]
    congr 1
    refine List.map_congr_left fun j _=>?_
    rw [e];congr 1;rw [Nat.add_mul];omega
theorem fq (v:AV):(kS v).cells=[kS v]:=by cases v<;>rfl
theorem qJ {x:AV} {v:Value} (h:Rel w γ H x v):Rel w γ H (kS x) v:=by
 cases x<;>first|exact h|(simp only [kS];rw [Rel];trivial)
def FG (w:World) (γ:br) (H:AHeap) (sz:Nat) (xs:List AV) (v:Value):Prop :=
 ((∃ a,v=.slice a 0 0)∧xs=[])∨∃ blk off cap C ty fr,v=.slice (some ⟨blk,off,none⟩) xs.length cap∧xs.length≤cap∧w.heap[blk]?=some (.cells C ty fr)∧off+cap*sz≤C.size ∧
   (∀ z∈xs,z.cells.length=sz)∧AtR (Rel w γ H) (flat xs) C off
theorem tr {m:Mark} {sz:Nat} {xs:List AV} {v:Value} (h:Rel w γ H (.slice m sz xs) v):FG w γ H sz xs v:=by
 rcases rel_slice.1 h with ⟨h1,h2,_⟩|⟨blk,off,cap,C,ty,fr,rfl,hle,hb,hcap,himm,hm,hall,hr⟩
 ·exact .inl ⟨h1,h2⟩
 ·exact .inr ⟨blk,off,cap,C,ty,fr,rfl,hle,hb,hcap,hall,hr⟩
theorem xj (hs:State w γ H) {id off sz len:Nat} {cs:List AV} {v:Value} (h:Rel w γ H (.ms id off sz len) v) (hc:ai H id=some cs):FG w γ H sz (bK sz len (cs.drop off)) v:=by
 obtain ⟨_,_,h3⟩:=rel_ms.1 h
 rcases h3 with ⟨rfl,h3⟩|⟨blk,cap,C,ty,fr,hg,rfl,hle,hb,hcap,_⟩
 ·exact .inl ⟨h3,rfl⟩
 ·obtain ⟨ho,C',ty',fr',_,hb',hsz,hr,_⟩:=iI hs hc hg
  rw [hb] at hb';cases hb'
  have hrows:=(qc (R:=Rel w γ H) (C:=C) (sz:=sz) (bK sz len (cs.drop off)) off).1 fun i hi=>by
   have hlen:i<len:=by rw [dK] at hi;exact hi
   have hmul:(i+1)*sz≤cap*sz:=Nat.mul_le_mul_right _ (by omega)
   rw [Nat.add_mul] at hmul
   have hcell:∀ j,j<sz→∃ u,C[off+i*sz+j]?=some u∧Rel w γ H ((cs.drop off).getD (i*sz+j) .junk) u:=fun j hj=>by
    have hlt2:off+i*sz+j<C.size:=by omega
    refine ⟨C[off+i*sz+j],by simp [hlt2],?_⟩
    have hin:off+(i*sz+j)<cs.length:=by omega
    obtain ⟨u,hu,hru⟩:=hr (off+(i*sz+j)) hin
    have:C[off+i*sz+j]=u:=by
     have e1:0+(off+(i*sz+j))=off+i*sz+j:=by omega
     rw [e1] at hu
     exact Option.some.inj ((by simp [hlt2]:some C[off+i*sz+j]=C[off+i*sz+j]?).trans hu)
    rw [this]
    have e2:(cs.drop off).getD (i*sz+j) .junk=cs[off+(i*sz+j)]:=by simp [List.getD_eq_getElem?_getD,hin]
    rw [e2];exact hru
   have hget:=mB sz len (cs.drop off) i hi
   by_cases h1:sz=1
   ·subst h1
    rw [if_pos rfl] at hget
    rw [hget]
    refine ⟨by rw [fq];rfl,fun j hj=>?_⟩
    have hj0:j=0:=by rw [fq] at hj;simpa using hj
    subst hj0
    obtain ⟨u,hu,hru⟩:=hcell 0 (by omega)
    refine ⟨u,hu,?_⟩
    have e3:(kS ((cs.drop off).getD i .junk)).cells[0]'hj=kS ((cs.drop off).getD i .junk):=by simp only [fq,List.getElem_cons_zero]
    rw [e3]
    exact qJ (by simpa using hru)
   ·rw [if_neg h1] at hget
    rw [hget]
    refine ⟨by simp [AV.cells],fun j hj=>?_⟩
    have hj':j<sz:=by simpa [AV.cells] using hj
    obtain ⟨u,hu,hru⟩:=hcell j hj'
    exact ⟨u,hu,by simpa [AV.cells] using hru⟩
  exact .inr ⟨blk,off,cap,C,ty,fr,by rw [dK],by rw [dK];exact hle,hb,hcap,hrows.1,hrows.2⟩
theorem ub {te:TI} {sz:Nat} {zs:List AV} {v:Value} (hsz:sz=te.size∨zs=[]) (h:FG w γ H sz zs v) (hone:∀ z∈zs,bN z.cells=true) :
 (Builtin.lenOf v).run P w=.ok zs.length w∧(∀ z∈zs,z.cells.length=te.size) ∧
 ∀ n,n≤zs.length→∃ us:Array Value,(Builtin.firstCells te.size n v).run P w=.ok us w∧us.size=n*te.size∧AtR (Rel w γ H) (flat (zs.take n)) us 0∧∀ u∈us.toList,u.oneCell'=true:=by
 rcases h with ⟨⟨a,rfl⟩,rfl⟩|⟨blk,off,cap,C,ty,fr,rfl,hle,hb,hcap,hall,hr⟩
 ·refine ⟨by simp [Builtin.lenOf],by simp,fun n hn=>⟨#[],?_,?_,by simpa [flat] using AtR.nil,by simp⟩⟩
  ·have h0:n=0:=by simpa using hn
   subst h0
   cases a<;>simp [Builtin.firstCells,loadCells,loadCellsFrom]
  ·have h0:n=0:=by simpa using hn
   simp [h0]
 ·have hall':∀ z∈zs,z.cells.length=te.size:=fun z hz=>by
   rcases hsz with rfl|rfl
   ·exact hall z hz
   ·cases hz
  refine ⟨by simp [Builtin.lenOf],hall',fun n hn=>?_⟩
  have e1:n*te.size≤zs.length*te.size:=Nat.mul_le_mul_right _ hn
  have e2:zs.length*te.size=zs.length*sz:=by
   rcases hsz with rfl|rfl
   ·rfl
   ·simp
  have e3:zs.length*sz≤cap*sz:=Nat.mul_le_mul_right _ hle
  have hlen:(flat (zs.take n)).length=n*te.size:=by
   rw [cX (sz:=te.size) (fun z hz=>hall' z (List.mem_of_mem_take hz)),List.length_take,Nat.min_eq_left hn]
  have hat0:AtR (Rel w γ H) (flat (zs.take n)) C off:=by rw [rF (sz:=te.size) _ _ hall'];exact hr.take _
  have hat:=hat0.extract hlen
  have hsize:(C.extract off (off+n*te.size)).size=n*te.size:=by simp;omega
  refine ⟨C.extract off (off+n*te.size),?_,hsize,hat,Bd hat ?_ ?_⟩
  ·simp only [Builtin.firstCells]
   exact gS hb (by omega)
  ·rw [hsize,hlen]
  ·simp only [bN,List.all_eq_true,flat,List.mem_flatMap]
   rintro c ⟨z,hz,hc⟩
   have:=hone z (List.mem_of_mem_take hz)
   simp only [bN,List.all_eq_true] at this
   exact this c hc
theorem vA (hs:State w γ H) {te:TI} {e:TypeId} (hte:ti P e=some te) {x:AV} {zs:List AV} {v:Value} (hx:Rel w γ H x v) (h:sR te x H=some zs) (hone:∀ z∈zs,bN z.cells=true)
 :
  (Builtin.lenOf v).run P w=.ok zs.length w∧(∀ z∈zs,z.cells.length=te.size) ∧
  ∀ n,n≤zs.length→∃ us:Array Value,(Builtin.firstCells te.size n v).run P w=.ok us w∧us.size=n*te.size∧AtR (Rel w γ H) (flat (zs.take n)) us 0∧∀ u∈us.toList,u.oneCell'=true:=by
  unfold sR at h
  split at h
  ·rename_i id off sz len
   split at h
   ·rename_i hsz
    split at h<;>cases h
    rename_i cs hc
    exact ub (.inl hsz) (xj hs hx hc) hone
   ·cases h
  ·rename_i m sz xs
   split at h<;>cases h
   rename_i hsz
   exact ub hsz (tr hx) hone
  ·rename_i s
   split at h<;>cases h
   rename_i h1
   rw [io hx]
   refine ⟨by simp [Builtin.lenOf,nM],by simp [aL,AV.cells,h1],fun n hn=>?_⟩
   simp only [ybb] at hn
   have e:(((ByteArray.mk s.toArray).extract 0 n).data.map fun b=>Value.int .u8 b.toNat)=(s.take n).toArray.map fun b=>Value.int .u8 b.toNat:=by
    simp
   refine ⟨(s.take n).toArray.map fun b=>Value.int .u8 b.toNat,?_,by simp [h1];omega,?_,?_⟩
   ·rw [← e];simp [Builtin.firstCells]
   ·have:=rH (w:=w) (γ:=γ) (H:=H) (s.take n) #[]
    rw [← List.map_take,nL]
    simpa using this
   ·intro u hu
    simp only [Array.toList_map,List.mem_map] at hu
    obtain ⟨b,_,rfl⟩:=hu
    rfl
  ·cases h
theorem y0 (hs:State w γ H) {id:Nat} {ob:AObj} (ho:H.get id=some ob):State w γ (H.set id ob)∧Ext w γ H w γ (H.set id ob):=by
  have hg:∀ i,(H.set id ob).get i=H.get i:=fun i=>by
    by_cases h:i=id
    · subst h;rw [AHeap.get_set_same _ _ (AHeap.get_lt ho),ho]
    · exact AHeap.get_set_ne _ _ h
  have he:Ext w γ H w γ (H.set id ob) :=
    { os:=rfl,tape:=rfl,output:=rfl,size:=Nat.le_refl _,nx:=Nat.le_refl _,block:=fun b C ty fr h=>⟨C,h,rfl,fun _ _ _ _=>rfl⟩,
      imm:=fun b e hb hi i o ho' hg'=>hi i o (by rw [← hg];exact ho') hg',
      un:=fun _ _ _=>rfl,
      none:=fun i _ h=>⟨by rw [hg];exact h,rfl⟩,
      keep:=fun i o h hb=>⟨rfl,fun sz n h'=>by rw [hg,h] at h';exact hb _ _ (Option.some.inj h')⟩,
      bufs:=fun i sz n h sz' n' h'=>by rw [hg,h] at h';cases h';exact ⟨rfl,Nat.le_refl _,fun _=>rfl⟩,
      bufk:=fun i sz n h o h'=>by rw [hg,h] at h';cases h';exact ⟨_,_,rfl⟩ }
  exact ⟨⟨fun i j oi oj b hi hj=>hs.inj i j oi oj b (by rw [← hg];exact hi) (by rw [← hg];exact hj),fun i o h=>by
    rw [hg] at h
    exact (hs.obj i o h).mono he rfl fun _ _ _ h=>h⟩,he⟩
theorem FC (hs:State w γ H) {id sz n:Nat} (ho:H.get id=some (.buf sz n)):State w γ (H.set id (.buf sz n))∧Ext w γ H w γ (H.set id (.buf sz n)):=y0 hs ho
theorem s6:∀ (cs:List AV) (off:Nat),splice cs off []=cs
 |[],_=>by cases ‹Nat›<;>rfl
 |c::cs,0=>rfl
 |c::cs,n+1=>by simp only [splice];rw [s6 cs n]
theorem yW (hs:State w γ H) {w':World} {id sz cap n:Nat} {xs:List AV} {C:Array Value} {ty:TypeId} (hos:w'.os=w.os) (htape:w'.tape=w.tape) (hout:w'.output=w.output)
 (hsz:w'.heap.size=w.heap.size+1) (hold:∀ b,b<w.heap.size→w'.heap[b]?=w.heap[b]?) (hnew:w'.heap[w.heap.size]?=some (.cells C ty (0,0)))
 (ho:H.get id=some (.buf sz n)) (hn:n<xs.length) (hle:xs.length≤cap) (hC:cap*sz≤C.size) (hall:∀ x∈xs,x.cells.length=sz) (hr:AtR (Rel w γ H) (flat xs) C 0) {run:Result Value}
 (hrun:run=.ok (.slice (some ⟨w.heap.size,0,none⟩) xs.length cap) w'):Out P w γ H (.slice (.own id) sz xs) (H.set id (.buf sz xs.length)) run:=by
 have he:=DT hs hos htape hout (by omega) hold (b':=w.heap.size) ho (Nat.le_refl _) hn
 refine ⟨_,w',_,hrun,AC hs hold ho (Nat.le_refl _) (by omega) he,he,?_⟩
 have hmul:xs.length*sz≤cap*sz:=Nat.mul_le_mul_right _ hle
 refine rel_slice.2 (.inr ⟨w.heap.size,0,cap,C,ty,(0,0),rfl,hle,hnew,by omega,?_,?_,hall,hr.mono fun x v h=>h.ext he⟩)
 ·intro id' o ho' hg
  rcases AHeap.get_set_inv _ _ ho' with ⟨rfl,rfl,_⟩|⟨hne,ho'⟩
  ·exact ⟨_,_,rfl,by omega⟩
  ·rw [bL _ _ _ _ hne] at hg
   have:=hs.lt ho' hg;omega
 ·refine ⟨by rw [AHeap.nx_set];exact AHeap.get_lt ho,fun sz' n' h=>?_⟩
  rw [AHeap.get_set_same _ _ (AHeap.get_lt ho)] at h;cases h
  refine ⟨rfl,Nat.le_refl _,fun _=>⟨bJ _ _ _,rfl,fun p p1 p2=>?_⟩⟩
  dsimp only;omega
theorem DG (hs:State w γ H) {id sz cap blk:Nat} {ys zs:List AV} {C us:Array Value} {ty:TypeId} {fr:Nat × Nat} (ho:H.get id=some (.buf sz ys.length)) (hg:γ id=some blk)
 (hb:w.heap[blk]?=some (.cells C ty fr)) (hcap:cap*sz≤C.size) (hle:(ys++zs).length≤cap) (hth:fL fr 0 C.size) (hys:∀ x∈ys,x.cells.length=sz) (hzs:∀ x∈zs,x.cells.length=sz)
 (hry:AtR (Rel w γ H) (flat ys) C 0) (hrz:AtR (Rel w γ H) (flat zs) us 0) (hus:us.size=zs.length*sz) {run:Result Value}
 (hrun:run=.ok (.slice (some ⟨blk,0,none⟩) (ys++zs).length cap) (w.setRow blk (db C (ys.length*sz) us.toList))) :
 Out P w γ H (.slice (.own id) sz (ys++zs)) (H.set id (.buf sz (ys++zs).length)) run:=by
 have hmul:(ys++zs).length*sz≤cap*sz:=Nat.mul_le_mul_right _ hle
 have hlen:(ys++zs).length*sz=ys.length*sz+zs.length*sz:=by rw [List.length_append,Nat.add_mul]
 have hfit:ys.length*sz+us.toList.length≤C.size:=by simp;omega
 have hfy:(flat ys).length=ys.length*sz:=cX hys
 have hfz:(flat zs).length=zs.length*sz:=cX hzs
 have he:=ss hs hg hb (C':=db C (ys.length*sz) us.toList) (ce _ _ _ hfit) ho (o':=.buf sz (ys++zs).length) (.inr ⟨_,_,_,rfl,rfl,by simp,fun i hi=>by
  rw [eV _ _ _ hfit,if_neg (by omega)]⟩)
 refine ⟨_,_,_,hrun,nS hs hg hb (ce _ _ _ hfit) ho he (.inr ⟨_,_,rfl⟩),he,?_⟩
 refine rel_slice.2 (.inr ⟨blk,0,cap,_,ty,fr,rfl,hle,kM _ _ _ _ _ _ hb,by rw [ce _ _ _ hfit];omega,?_,?_,?_,?_⟩)
 ·intro id' o ho' hg'
  rcases AHeap.get_set_inv _ _ ho' with ⟨rfl,rfl,_⟩|⟨hne,ho'⟩
  ·exact ⟨_,_,rfl,by omega⟩
  ·exact absurd (hs.inj id' id o _ blk ho' ho hg' hg) hne
 ·refine ⟨by rw [AHeap.nx_set];exact AHeap.get_lt ho,fun sz' n' h=>?_⟩
  rw [AHeap.get_set_same _ _ (AHeap.get_lt ho)] at h;cases h
  exact ⟨rfl,Nat.le_refl _,fun _=>⟨hg,rfl,fun p p1 p2=>hth p (by omega) (by rw [ce _ _ _ hfit] at p2;exact p2)⟩⟩
 ·intro x hx
  rcases List.mem_append.1 hx with h|h
  ·exact hys x h
  ·exact hzs x h
 ·have e:flat (ys++zs)=flat ys++flat zs:=by simp [flat]
  rw [e,AtR.append]
  refine ⟨fun j hj=>?_,fun j hj=>?_⟩
  ·obtain ⟨u,hu,hr⟩:=hry j hj
   exact ⟨u,by rw [eV _ _ _ hfit,if_neg (by omega)];exact hu,hr.ext he⟩
  ·obtain ⟨u,hu,hr⟩:=hrz j hj
   refine ⟨u,?_,hr.ext he⟩
   rw [eV _ _ _ hfit,if_pos (by simp;omega)]
   rw [Nat.zero_add] at hu
   rw [Array.getElem?_toList,← hu];congr 1;omega
section
variable {ts:Array TypeId} {t t2 e ty:TypeId} (h0:ts[0]?=some t) (h1:ts[1]?=some t2) (hu:P.underlying t=some (.slice e)) {d2:TypeDesc} (hu2:P.underlying t2=some d2)
 (hz:d2=.string∨∃ e2,d2=.slice e2)
 {einf:TypeInfo} (heinf:P.info? e=some einf) {vx:Value} {n:Nat} {us:Array Value} (hn:(Builtin.lenOf vx).run P w=.ok n w)
include h0 h1 hu hu2 hz heinf hn
theorem kA (hus:(Builtin.firstCells einf.size n vx).run P w=.ok us w) {base:Option Addr} {sLen sCap:Nat} (hle:sLen+n≤sCap) :
 (Builtin.append_ ts ty #[.slice base sLen sCap,vx]).run P w =
   match base with
   |some a=>((storeCells (a.add (sLen*einf.size)) us.toList).run P w).andThen fun _ w'=>.ok (.slice base (sLen+n) sCap) w'
   |none=>.ok (.slice base (sLen+n) sCap) w:=by
 rcases hz with rfl|⟨e2,rfl⟩
 all_goals
  unfold Builtin.append_
  simp only [h0,h1,List.getElem?_toArray,yam,yan,Sem.run_bind,aH hu,Result.andThen_ok,cu heinf,aH hu2,Sem.run_pure,Bool.false_eq_true,if_false,hn,
   Bool.not_false,if_true]
  rw [if_pos hle]
  simp only [Sem.run_bind,hus,Result.andThen_ok]
  cases base<;>simp
theorem iT (hus:(Builtin.firstCells einf.size n vx).run P w.drew=.ok us w.drew) {base:Option Addr} {sLen sCap:Nat} (hlt:sCap<sLen+n) (hb:(sLen+n)*einf.bytes≤140737488355328)
 (hm:sLen+n≤140737488355328) {old:Array Value} (hold:(Builtin.firstCells einf.size sLen (.slice base sLen sCap)).run P w.drew=.ok old w.drew) {ez:Value} (hez:einf.zero=some ez) :
 (Builtin.append_ ts ty #[.slice base sLen sCap,vx]).run P w =
   .ok (.slice (some ⟨w.heap.size,0,none⟩) (sLen+n) (grownCap w (sLen+n) sCap e)) (w.drew.alloc (.cells (old++us++Builtin.zeroCells ez.cells (grownCap w (sLen+n) sCap e - (sLen+n))) e)):=by
 have hg:=growslice_fits (old:=sCap) hlt hb
 have hg':¬ (Builtin.nextslicecap (sLen+n) sCap*einf.bytes > 2^48):=by
  have:(2:Nat)^48=281474976710656:=by decide
  omega
 have h63:¬ (((sLen+n:Nat):Int) > IntKind.i64.max∧((false:Bool)=true∨einf.bytes=0)):=by
  have:IntKind.i64.max=9223372036854775807:=by decide
  rw [this];omega
 have hnle:¬ sLen+n≤sCap:=by omega
 have hq:(Question.appendCap (sLen+n) sCap e).forced=false:=rfl
 rcases hz with rfl|⟨e2,rfl⟩
 all_goals
  unfold Builtin.append_
  simp only [h0,h1,List.getElem?_toArray,yam,yan,Sem.run_bind,aH hu,Result.andThen_ok,cu heinf,aH hu2,Sem.run_pure,Bool.false_eq_true,if_false,hn,
   Bool.not_false,if_true]
  rw [if_neg hnle]
  simp only [Sem.run_bind,ib heinf,Result.andThen_ok]
  rw [if_neg (by simpa using h63)]
  simp only [Sem.run_bind,ib heinf,Result.andThen_ok]
  rw [if_neg hg']
  simp only [Sem.run_bind,run_choose,hq,Bool.false_eq_true,if_false,Result.andThen_ok,World.drew_eq,ib heinf,run_askRoom,hold,hus,fI heinf hez]
  rfl
end
theorem vS {te:TI} {sz:Nat} {zs:List AV} {v:Value} (hsz:sz=te.size∨zs=[]) (h:FG w γ H sz zs v) {us:Array Value} (k1:(Builtin.firstCells te.size zs.length v).run P w=.ok us w) :
 (Builtin.firstCells te.size zs.length v).run P w.drew=.ok us w.drew:=by
 rcases h with ⟨⟨a,rfl⟩,rfl⟩|⟨blk,off,cap,C,ty,fr,rfl,hle,hb,hcap,_⟩
 ·cases a<;>(simp [Builtin.firstCells,loadCells,loadCellsFrom] at k1 ⊢;exact k1)
 ·simp only [Builtin.firstCells] at k1 ⊢
  have hfit:off+zs.length*te.size≤C.size:=by
   rcases hsz with rfl|rfl
   ·have:=Nat.mul_le_mul_right te.size hle;omega
   ·simp;omega
  rw [gS hb hfit] at k1
  rw [gS (w:=w.drew) hb hfit]
  simp only [Result.ok.injEq,and_true] at k1 ⊢
  exact k1
theorem i8 (hs:State w γ H) {te:TI} {e:TypeId} (hte:ti P e=some te) {x:AV} {zs:List AV} {v:Value} (hx:Rel w γ H x v) (h:sR te x H=some zs) (hone:∀ z∈zs,bN z.cells=true) :
 ∃ us:Array Value,(Builtin.lenOf v).run P w=.ok zs.length w∧(∀ z∈zs,z.cells.length=te.size)∧(Builtin.firstCells te.size zs.length v).run P w=.ok us w ∧
  (Builtin.firstCells te.size zs.length v).run P w.drew=.ok us w.drew∧us.size=zs.length*te.size∧AtR (Rel w γ H) (flat zs) us 0∧∀ u∈us.toList,u.oneCell'=true:=by
 obtain ⟨h1,h2,h3⟩:=vA (P:=P) hs hte hx h hone
 obtain ⟨us,k1,k2,k3,k4⟩:=h3 zs.length (Nat.le_refl _)
 rw [List.take_length] at k3
 refine ⟨us,h1,h2,k1,?_,k2,k3,k4⟩
 -- the same cells are read
 unfold sR at h
 split at h
 ·split at h
  ·rename_i hsz
   split at h<;>cases h
   rename_i cs hc
   exact vS (.inl hsz) (xj hs hx hc) k1
  ·cases h
 ·rename_i m sz xs
  split at h<;>cases h
  rename_i hsz
  exact vS hsz (tr hx) k1
 ·split at h<;>cases h
  rw [io hx] at k1 ⊢
  simp only [Builtin.firstCells,Sem.run_pure,Result.ok.injEq,and_true] at k1 ⊢
  exact k1
 ·cases h
theorem mY (hs:State w γ H) {t t2:TypeId} {s x:AV} {vs vx:Value} {r:R} (hsr:Rel w γ H s vs) (hx:Rel w γ H x vx) (h:zju P t t2 s x H=some r) (hc:r.c)
 (ts:Array TypeId) (h0:ts[0]?=some t) (h1:ts[1]?=some t2) (ty:TypeId):Out P w γ H r.v r.H ((Builtin.append_ ts ty #[vs,vx]).run P w):=by
 unfold zju at h
 split at h
 ·rename_i ht2
  obtain ⟨d2,hu2,hd2⟩:∃ d2,P.underlying t2=some d2∧(d2=.string∨∃ e2,d2=.slice e2):=by
   unfold yI at ht2
   split at ht2
   ·rename_i a ha;exact ⟨_,cU ha,.inr ⟨_,rfl⟩⟩
   ·rename_i ha;exact ⟨_,iG ha,.inl rfl⟩
   ·cases ht2
  split at h
  ·rename_i e hd
   have hu:=cU hd
   split at h
   ·rename_i te m sz ys hte
    have hte0:=hte
    obtain ⟨ed,einf,ez,hed,heinf,hez,rfl⟩:=bO hte
    split at h
    ·rename_i hcond
     obtain ⟨hpos,hzl,hszm⟩:=hcond
     dsimp only at hpos hzl hszm h
     split at h
     ·rename_i zs m' H' hadd hgrow
      cases h
      obtain ⟨hroom,hbytes,hmax,hone⟩:=hc
      rw [hadd] at hgrow
      simp only [yai] at hgrow
      obtain ⟨us,a1,a2,a3,a4,a5,a6,a7⟩:=i8 (P:=P) hs hte0 hx hadd hone
      dsimp only at a2 a3 a4 a5 hbytes
      have hezc:ez.cells.size=einf.size:=by
       obtain ⟨z1,_⟩:=dZ (w:=w) (γ:=γ) (H:=H) ez
       rw [z1,hzl]
      -- growth into a new row
      have hgrown:∀ (old:Array Value) (oldCap:Nat),(∀ y∈ys,y.cells.length=einf.size)→AtR (Rel w γ H) (flat ys) old 0→old.size=ys.length*einf.size →
       (∀ y∈ys++zs,y.cells.length=einf.size) ∧
       AtR (Rel w γ H) (flat (ys++zs)) (old++us++Builtin.zeroCells ez.cells (grownCap w (ys.length+zs.length) oldCap e - (ys.length+zs.length))) 0 ∧
       grownCap w (ys.length+zs.length) oldCap e*einf.size≤(old++us++Builtin.zeroCells ez.cells (grownCap w (ys.length+zs.length) oldCap e - (ys.length+zs.length))).size:=by
       intro old oldCap q1 q2 q3
       refine ⟨fun y hy=>?_,?_,?_⟩
       ·rcases List.mem_append.1 hy with h|h
        ·exact q1 y h
        ·exact a2 y h
       ·have e1:flat (ys++zs)=flat ys++flat zs:=by simp [flat]
        have l1:(flat ys).length=old.size:=by rw [cX q1,q3]
        have l2:(flat zs).length=us.size:=by rw [cX a2,a5]
        rw [e1,AtR.append]
        refine ⟨fun j hj=>?_,fun j hj=>?_⟩
        ·obtain ⟨u,hu,hr⟩:=q2 j hj
         refine ⟨u,?_,hr⟩
         rw [Array.append_assoc,Array.getElem?_append_left (by omega)];exact hu
        ·obtain ⟨u,hu,hr⟩:=a6 j hj
         refine ⟨u,?_,hr⟩
         rw [Array.append_assoc,Array.getElem?_append_right (by omega),Array.getElem?_append_left (by omega),← hu]
         congr 1;omega
       ·have hge:=grownCap_ge w (ys.length+zs.length) oldCap e
        simp only [Array.size_append,size_zeroCells,q3,a5,hezc,← Nat.add_mul]
        exact Nat.mul_le_mul_right _ (by omega)
      have hl:(ys++zs).length=ys.length+zs.length:=List.length_append
      -- a slice without a row
      have hnil:∀ a:Option Addr,ys=[]→vs=.slice a 0 0→((m=.nil∨(m=.full∧zs≠[]))∨∃ id,m=.own id∧H.get id=some (.buf einf.size 0)) →
       Out P w γ H (.slice m' einf.size (ys++zs)) H' ((Builtin.append_ ts ty #[vs,vx]).run P w):=by
       rintro a rfl rfl hm
       simp only [yak,yba,Nat.zero_add] at hgrown hl hbytes hmax hgrow ⊢
       by_cases hz:zs.length=0
       ·have hzn:zs=[]:=List.eq_nil_of_length_eq_zero hz
        subst hzn
        have hrun:=kA (P:=P) (ty:=ty) h0 h1 hu hu2 hd2 heinf a1 a3 (base:=a) (sLen:=0) (sCap:=0) (by simp)
        have hus:us=#[]:=by
         simp at a5;exact a5
        subst hus
        have hrun':(Builtin.append_ ts ty #[.slice a 0 0,vx]).run P w=.ok (.slice a 0 0) w:=by
         rw [hrun];cases a<;>simp [storeCells]
        rcases hm with (rfl|⟨_,hz0⟩)|⟨id,rfl,ho⟩
        rotate_left
        ·exact absurd rfl hz0
        rotate_left
        ·simp only [xq,Option.some.injEq,Prod.mk.injEq] at hgrow
         obtain ⟨rfl,rfl⟩:=hgrow
         have he:=fh hs (w':=w) rfl rfl rfl (Nat.le_refl _) (fun _ _=>rfl) none (fun b h=>by cases h) (.buf einf.size 0)
         refine ⟨_,w,_,hrun',dM hs (fun b h=>by cases h) he (fun _ _=>rfl) (.inr (.inl ⟨_,_,rfl⟩)),he,?_⟩
         refine rel_slice.2 (.inl ⟨⟨_,rfl⟩,rfl,by rw [AHeap.nx_push];omega,fun sz' n h=>?_⟩)
         rw [AHeap.get_push_new] at h;cases h;rfl
        ·simp only [xq,Option.some.injEq,Prod.mk.injEq] at hgrow
         obtain ⟨rfl,rfl⟩:=hgrow
         obtain ⟨s1,e1⟩:=FC hs ho
         refine ⟨_,w,γ,hrun',s1,e1,rel_slice.2 (.inl ⟨⟨_,rfl⟩,rfl,by rw [AHeap.nx_set];exact AHeap.get_lt ho,fun sz' n h=>?_⟩)⟩
         rw [yba,AHeap.get_set_same _ _ (AHeap.get_lt ho)] at h;cases h;rfl
       ·have hold:(Builtin.firstCells einf.size 0 (.slice a 0 0)).run P w.drew=.ok #[] w.drew:=by
         cases a<;>simp [Builtin.firstCells,loadCells,loadCellsFrom]
        have hrun:=iT (P:=P) (ty:=ty) h0 h1 hu hu2 hd2 heinf a1 a4 (base:=a) (sLen:=0) (sCap:=0) (by omega) (by simpa using hbytes) (by omega) hold hez
        simp only [Nat.zero_add] at hrun
        obtain ⟨g1,g2,g3⟩:=hgrown #[] 0 (by simp) (by simpa [flat] using AtR.nil) (by simp)
        rcases hm with (rfl|⟨rfl,_⟩)|⟨id,rfl,ho⟩
        rotate_right
        ·simp only [xq,Option.some.injEq,Prod.mk.injEq] at hgrow
         obtain ⟨rfl,rfl⟩:=hgrow
         exact yW hs (w':=w.drew.alloc _) rfl rfl rfl (by simp) (fun b hb=>dB w.drew _ hb) (cZ w.drew _) ho (by omega) (grownCap_ge _ _ _ _) g3 g1 g2 hrun
        all_goals
         simp only [xq,Option.some.injEq,Prod.mk.injEq] at hgrow
         obtain ⟨rfl,rfl⟩:=hgrow
         exact ql hs (w':=w.drew.alloc _) (fr:=(0,0)) rfl rfl rfl (by simp) (fun b hb=>dB w.drew _ hb) (cZ w.drew _) (.inr rfl) (grownCap_ge _ _ _ _) g3 g1 g2 hrun
      rcases rel_slice.1 hsr with ⟨⟨a,rfl⟩,rfl,hmn⟩|⟨blk,off,cap,C,cty,fr,rfl,hle,hb,hcap,himm,hm,hall,hr⟩
      ·refine hnil a rfl rfl ?_
       cases m with
       |nil=>exact .inl (.inl rfl)
       |own id=>exact .inr ⟨id,rfl,hroom⟩
       |full=>exact .inl (.inr ⟨rfl,hroom⟩)
       |any=>exact hroom.elim
      ·have hszv:sz=einf.size:=by
        rcases hszm with h|rfl
        ·exact h
        ·exact hm.elim
       subst hszv
       have holdr:(Builtin.firstCells einf.size ys.length (.slice (some ⟨blk,off,none⟩) ys.length cap)).run P w.drew=.ok (C.extract off (off+ys.length*einf.size)) w.drew:=by
        simp only [Builtin.firstCells]
        have:=Nat.mul_le_mul_right einf.size hle
        exact gS (w:=w.drew) hb (by omega)
       have hlen:(flat ys).length=ys.length*einf.size:=cX hall
       have hmle:=Nat.mul_le_mul_right einf.size hle
       obtain ⟨g1,g2,g3⟩:=hgrown (C.extract off (off+ys.length*einf.size)) cap hall (hr.extract hlen) (by simp;omega)
       cases m with
       |any=>exact hroom.elim
       |nil=>exact hm.elim
       |full =>
        have hcl:cap=ys.length:=hm
        have hzl:0<zs.length:=List.length_pos_iff.2 hroom
        simp only [xq,Option.some.injEq,Prod.mk.injEq] at hgrow
        obtain ⟨rfl,rfl⟩:=hgrow
        have hrun:=iT (P:=P) (ty:=ty) h0 h1 hu hu2 hd2 heinf a1 a4 (base:=some ⟨blk,off,none⟩) (sLen:=ys.length) (sCap:=cap) (by omega) hbytes hmax holdr hez
        rw [← hl] at hrun g2 g3 ⊢
        exact ql hs (w':=w.drew.alloc _) (fr:=(0,0)) rfl rfl rfl (by simp) (fun b hb=>dB w.drew _ hb) (cZ w.drew _) (.inr rfl) (grownCap_ge _ _ _ _) g3 g1 g2 hrun
       |own id =>
        simp only [xq,Option.some.injEq,Prod.mk.injEq] at hgrow
        obtain ⟨rfl,rfl⟩:=hgrow
        have ho:H.get id=some (.buf einf.size ys.length):=hroom
        obtain ⟨hid,hm⟩:=hm
        obtain ⟨_,_,hm⟩:=hm _ _ ho
        obtain ⟨hg,rfl,hth⟩:=hm rfl
        by_cases hfit:ys.length+zs.length≤cap
        ·have hrun:=kA (P:=P) (ty:=ty) h0 h1 hu hu2 hd2 heinf a1 a3 (base:=some ⟨blk,0,none⟩) (sLen:=ys.length) (sCap:=cap) hfit
         have hfm:=Nat.mul_le_mul_right einf.size hfit
         rw [Nat.add_mul] at hfm
         have hst:=fB (P:=P) blk (ys.length*einf.size) cty fr us.toList 0 C w hb (by simp;omega) a7 (fun p p1 p2=>hth p (by omega) (by simp at p2;omega))
         rw [← hl] at hrun hfit ⊢
         refine DG hs ho hg hb (by omega) hfit hth hall a2 hr a6 a5 ?_
         rw [hrun]
         simp only [fA,Nat.zero_add]
         rw [hst]
         simp [db]
        ·have hrun:=iT (P:=P) (ty:=ty) h0 h1 hu hu2 hd2 heinf a1 a4 (base:=some ⟨blk,0,none⟩) (sLen:=ys.length) (sCap:=cap) (by omega) hbytes hmax holdr hez
         rw [← hl] at hrun g2 g3 ⊢
         exact yW hs (w':=w.drew.alloc _) rfl rfl rfl (by simp) (fun b hb=>dB w.drew _ hb) (cZ w.drew _) ho (by omega) (grownCap_ge _ _ _ _) g3 g1 g2 hrun
     ·cases h
    ·cases h
   ·cases h
  ·cases h
 ·cases h
theorem xW (hs:State w γ H) {t:TypeId} {d x:AV} {vd vx:Value} {r:R} (hdr:Rel w γ H d vd) (hx:Rel w γ H x vx) (h:ziz P t d x H=some r) (hc:r.c)
 (ts:Array TypeId) (h0:ts[0]?=some t) (ty:TypeId):Out P w γ H r.v r.H ((Builtin.copy_ ts ty #[vd,vx]).run P w):=by
 unfold ziz at h
 split at h
 ·rename_i e hd
  have hu:=cU hd
  split at h
  ·rename_i te hte
   have hte0:=hte
   obtain ⟨ed,einf,ez,hed,heinf,hez,rfl⟩:=bO hte
   split at h
   ·rename_i id off sz len zs hadd
    split at h
    ·rename_i cs hcs
     split at h<;>cases h
     rename_i hsz
     obtain ⟨hfit,hone⟩:=hc
     dsimp only at hsz
     subst hsz
     obtain ⟨a1,a2,a3⟩:=vA (P:=P) hs hte0 hx hadd hone
     obtain ⟨us,b1,b2,b3,b4⟩:=a3 (min zs.length len) (Nat.min_le_left _ _)
     dsimp only at a2 b1 b2
     have hmin:zs.take (min zs.length len)=zs.take len:=by
      rcases Nat.le_total zs.length len with h|h
      ·rw [Nat.min_eq_left h,ybc h,ybc (Nat.le_refl _)]
      ·rw [Nat.min_eq_right h]
     rw [hmin] at b3
     cases hg:γ id with
     |none =>
      -- the object is still to come: nothing is copied
      have ho:H.get id=some (.cells cs):=by
       unfold ai at hcs
       split at hcs<;>cases hcs
       assumption
      obtain ⟨_,_,hdr⟩:=rel_ms.1 hdr
      rcases hdr with ⟨rfl,a,rfl⟩|⟨blk',cap,C',cty',fr',hg',_⟩
      ·have hus:us=#[]:=by simpa using b2
       subst hus
       have e4:splice cs off (flat (zs.take 0))=cs:=by simpa [flat] using s6 cs off
       obtain ⟨hst,he⟩:=y0 hs ho
       refine ⟨.int .i64 (min zs.length 0:Nat),w,γ,?_,by show State w γ (H.set id (.cells (splice cs off (flat (zs.take 0)))));rw [e4];exact hst,by show Ext w γ H w γ (H.set id (.cells (splice cs off (flat (zs.take 0)))));rw [e4];exact he,gg _ _⟩
       simp only [Builtin.copy_,h0,List.getElem?_toArray,yam,yan,Sem.run_bind,aH hu,Result.andThen_ok,a1,cu heinf]
       have e3:Nat.min zs.length 0=min zs.length 0:=rfl
       rw [e3,b1]
       cases a<;>simp [storeCells,goInt]
      ·rw [hg] at hg';cases hg'
     |some blk =>
     obtain ⟨ho,C,cty,fr,_,hb,hcl,hcr,hth⟩:=iI hs hcs hg
     have hfl:(flat (zs.take len)).length=us.size:=by
      rw [cX (sz:=einf.size) (fun z hz=>a2 z (List.mem_of_mem_take hz)),b2,← hmin,List.length_take,Nat.min_eq_left (Nat.min_le_left _ _)]
     have hle2:us.size≤len*einf.size:=by rw [b2];exact Nat.mul_le_mul_right _ (Nat.min_le_right _ _)
     have hfit2:off+(flat (zs.take len)).length≤cs.length:=by omega
     have he:=ss hs hg hb (C':=db C off us.toList) (ce _ _ _ (by simp;omega)) ho (o':=.cells (splice cs off (flat (zs.take len)))) (.inl ⟨_,_,rfl,rfl⟩)
     have hst:=nS hs hg hb (C':=db C off us.toList) (ce _ _ _ (by simp;omega)) ho he (.inl ⟨_,rfl,by rw [dj _ _ _ hfit2,ce _ _ _ (by simp;omega)];exact hcl,
      hcr.splice (by simpa using b3) (by simp [hfl]) hfit2 (Nat.le_of_eq hcl),by rw [dj _ _ _ hfit2];exact hth⟩)
     have hstore:=fB (P:=P) blk off cty fr us.toList 0 C w hb (by simp;omega) b4 (fun p p1 p2=>hth p (by omega) (by simp at p2;omega))
     obtain ⟨_,_,hdr⟩:=rel_ms.1 hdr
     rcases hdr with ⟨rfl,a,rfl⟩|⟨blk',cap,C',cty',fr',hg',rfl,hlc,hb',hcap',_⟩
     ·-- nothing is copied
      have hus:us=#[]:=by simpa using b2
      subst hus
      refine ⟨.int .i64 (min zs.length 0:Nat),_,γ,?_,hst,he,gg _ _⟩
      have e1:db C off ([]:List Value)=C:=by simp [db]
      have e2:w.setRow blk C=w:=setRow_self w blk C cty fr hb
      rw [e1,e2]
      simp only [Builtin.copy_,h0,List.getElem?_toArray,yam,yan,Sem.run_bind,aH hu,Result.andThen_ok,a1,cu heinf]
      have e3:Nat.min zs.length 0=min zs.length 0:=rfl
      rw [e3,b1]
      cases a<;>simp [storeCells,goInt]
     ·rw [hg] at hg';cases hg'
      refine ⟨.int .i64 (min zs.length len:Nat),_,γ,?_,hst,he,gg _ _⟩
      simp only [Builtin.copy_,h0,List.getElem?_toArray,yam,yan,Sem.run_bind,aH hu,Result.andThen_ok,a1,cu heinf]
      have e3:Nat.min zs.length len=min zs.length len:=rfl
      rw [e3,b1]
      simp only [Result.andThen_ok,Sem.run_bind,Sem.run_pure]
      rw [hstore]
      simp [db,goInt]
    ·cases h
   ·cases h
  ·cases h
 ·cases h
theorem uK (hs:State w γ H) {x:AV} {t a:TypeId} {ok:Bool} {v:Value} {r:R} (hx:Rel w γ H x v) (h:ld P x a ok H=some r) :
 Out P w γ H r.v r.H ((Instr.typeAssert v t a ok).run P w):=by
 unfold ld at h
 split at h
 ·rename_i i hi
  obtain ⟨d,inf,z,hd,hinf,hz,rfl⟩:=bO hi
  dsimp only at h
  have hni:(∀ ms,dD d≠.iface ms)→∀ ms,d≠.interface ms:=fun hh ms e=>by subst e;exact hh _ rfl
  have tup2:∀ {p q:AV} {v u:Value},Rel w γ H p v→Rel w γ H q u→Rel w γ H (.tup [p,q]) (.tuple #[v,u]):=fun {p q v u} hp hq=>by
   rw [Rel]
   refine ⟨_,rfl,rfl,fun j hj=>?_⟩
   match j,hj with
   |0,_=>exact ⟨v,rfl,hp⟩
   |1,_=>exact ⟨u,rfl,hq⟩
  split at h
  ·cases h
  ·rename_i t' y hif
   rw [Rel] at hx
   obtain ⟨u,rfl,hy⟩:=hx
   have hn:=hni fun ms e=>hif ms e
   split at h
   ·rename_i hta
    subst hta
    cases h
    cases ok
    ·refine Out.same hs (v:=u) ?_ (by simpa using hy)
     cases d<;>first|exact absurd rfl (hn _)|simp [Instr.typeAssert,aH hd]
    ·refine Out.same hs (v:=.tuple #[u,.bool true]) ?_ (tup2 hy (fX _))
     cases d<;>first|exact absurd rfl (hn _)|simp [Instr.typeAssert,aH hd]
   ·rename_i hta
    split at h<;>cases h
    rename_i hok
    subst hok
    refine Out.same hs (v:=.tuple #[z,.bool false]) ?_ (tup2 (fR _) (fX _))
    cases d<;>first|exact absurd rfl (hn _)|simp [Instr.typeAssert,aH hd,hta,fI hinf hz]
  ·rename_i hif
   have hn:=hni fun ms e=>hif ms e
   rw [Rel] at hx
   subst hx
   split at h<;>cases h
   rename_i hok
   subst hok
   refine Out.same hs (v:=.tuple #[z,.bool false]) ?_ (tup2 (fR _) (fX _))
   cases d<;>first|exact absurd rfl (hn _)|simp [Instr.typeAssert,aH hd,fI hinf hz]
  ·cases h
 ·cases h
theorem oB {cs:List AV} {z:Array Value} (n:Nat) (hl:cs.length=z.size) (hz:AtR (Rel w γ H) cs z 0):AtR (Rel w γ H) (List.replicate n cs).flatten (Builtin.zeroCells z n) 0:=by
 intro j hj
 have hj':j<n*z.size:=by simpa [hl] using hj
 have hpos:0<z.size:=by
  rcases Nat.eq_zero_or_pos z.size with h|h
  ·rw [h] at hj';simp at hj'
  ·exact h
 have hm:j % z.size<cs.length:=by rw [hl];exact Nat.mod_lt _ hpos
 obtain ⟨u,hu,hr⟩:=hz (j % z.size) hm
 have hget:=wc (cs:=cs) n j (by rw [hl];exact hj')
 rw [List.getElem?_eq_getElem hj,hl,List.getElem?_eq_getElem hm] at hget
 refine ⟨u,?_,by rw [Option.some.inj hget];exact hr⟩
 rw [Nat.zero_add] at hu ⊢
 simp only [Builtin.zeroCells,Array.getElem?_map]
 rw [Array.getElem?_eq_getElem (by simpa using hj')]
 simp only [yag,Array.getElem_range]
 rw [getElem!_def,hu]
theorem qA {ts:Array TypeId} {t t2 e ty:TypeId} (h0:ts[0]?=some t) (h1:ts[1]?=some t2) (hu:P.underlying t=some (.slice e)) {k2:IntKind} (hu2:P.underlying t2=some (.int k2))
 {einf:TypeInfo} (heinf:P.info? e=some einf) {n:Nat} (hp:0<n) (hn:n≤1000000) (hb:einf.bytes≤1000000) (hsz:0<einf.size) (hnb:n*einf.bytes≤140737488355328) {base:Option Addr} {ez:Value} (hez:einf.zero=some ez)
 (hold:(Builtin.firstCells einf.size 0 (.slice base 0 0)).run P w.drew=.ok #[] w.drew) :
 (Builtin.append_ ts ty #[.slice base 0 0,.int .i64 n]).run P w =
   .ok (.slice (some ⟨w.heap.size,0,none⟩) n (grownCap w n 0 e)) (w.drew.alloc (.cells (#[]++Builtin.zeroCells ez.cells n++Builtin.zeroCells ez.cells (grownCap w n 0 e - n)) e)):=by
 have hw:IntKind.i64.wrap (n:Int)=n:=uU (by omega) (by omega)
 have hg:=growslice_fits (old:=0) (show 0<0+n by omega) (bytes:=einf.bytes) (by simpa using hnb)
 have hg':¬ (Builtin.nextslicecap (0+n) 0*einf.bytes > 2^48):=by
  have:(2:Nat)^48=281474976710656:=by decide
  omega
 have h63:¬ (((0+n:Nat):Int) > IntKind.i64.max∧(True∨einf.bytes=0)):=by
  have:IntKind.i64.max=9223372036854775807:=by decide
  rw [this];omega
 have hneg:¬ ((n:Int)<0):=by omega
 have h48:¬ ((n:Int)*(einf.bytes:Int) > 2^48):=by
  have:((n*einf.bytes:Nat):Int)≤140737488355328:=by omega
  rw [Int.natCast_mul] at this
  have e:(2:Int)^48=281474976710656:=by decide
  rw [e];omega
 have hnle:¬ 0+n≤0:=by omega
 have hq:(Question.appendCap (0+n) 0 e).forced=false:=rfl
 have hns:¬ n*einf.size=0:=by
  intro h
  rcases Nat.mul_eq_zero.1 h with h|h<;>omega
 unfold Builtin.append_
 simp only [h0,h1,List.getElem?_toArray,yam,yan,Sem.run_bind,aH hu,Result.andThen_ok,cu heinf,aH hu2,Sem.run_pure,if_true,asInt,asIntOf,hw,if_neg hneg,ib heinf,if_neg h48,Int.toNat_natCast]
 rw [if_neg hnle]
 simp only [Sem.run_bind,ib heinf,Result.andThen_ok]
 rw [if_neg h63]
 simp only [Sem.run_bind,ib heinf,Result.andThen_ok]
 rw [if_neg hg']
 simp only [Sem.run_bind,run_choose,hq,Bool.false_eq_true,if_false,Bool.not_true,if_neg hns,Result.andThen_ok,World.drew_eq,ib heinf,run_askRoom,hold,fI heinf hez,Sem.run_pure]
 simp only [Nat.zero_add]
 rfl
theorem sI (hs:State w γ H) {t t2:TypeId} {sz:Nat} {k:IntKind} {n:Int} {vs vx:Value} {r:R} (hsr:Rel w γ H (.slice .full sz []) vs) (hx:Rel w γ H (.int k n) vx) (h:zjt P t t2 k n H=some r) (hc:r.c)
 (ts:Array TypeId) (h0:ts[0]?=some t) (h1:ts[1]?=some t2) (ty:TypeId):Out P w γ H r.v r.H ((Builtin.append_ ts ty #[vs,vx]).run P w):=by
 obtain ⟨a,rfl⟩:∃ a,vs=.slice a 0 0:=by
  rcases rel_slice.1 hsr with ⟨⟨a,rfl⟩,_,_⟩|⟨blk,off,cap,C,ty',fr,rfl,hle,hb,_,_,hm,_⟩
  ·exact ⟨a,rfl⟩
  ·have hm':cap=0:=hm
   subst hm';exact ⟨_,rfl⟩
 rw [dk hx]
 unfold zjt at h
 split at h
 ·rename_i k2 e hd2 hd
  split at h
  ·rename_i te hte
   obtain ⟨ed,einf,ez,hed,heinf,hez,rfl⟩:=bO hte
   split at h
   ·rename_i hcond
    cases h
    obtain ⟨rfl,hp,hn,hb⟩:=hc
    obtain ⟨hpos,hzl⟩:=hcond
    dsimp only at hpos hzl hb ⊢
    obtain ⟨n,rfl⟩:=Int.eq_ofNat_of_zero_le (show 0≤n by omega)
    simp only [Int.toNat_natCast]
    have hold:(Builtin.firstCells einf.size 0 (.slice a 0 0)).run P w.drew=.ok #[] w.drew:=by
     cases a<;>simp [Builtin.firstCells,loadCells,loadCellsFrom]
    have hnb:n*einf.bytes≤140737488355328:=Nat.le_trans (Nat.mul_le_mul (show n≤1000000 by omega) hb) (by decide)
    have hrun:=qA (w:=w) (P:=P) (ty:=ty) h0 h1 (cU hd) (rp hd2) heinf (n:=n) (by omega) (by omega) hb hpos hnb (base:=a) hez hold
    obtain ⟨z1,z2⟩:=dZ (w:=w) (γ:=γ) (H:=H) ez
    have hezc:ez.cells.size=einf.size:=by rw [z1,hzl]
    have hl:(List.replicate n (ofValue ez)).length=n:=by simp
    have hfl:flat (List.replicate n (ofValue ez))=(List.replicate n (ofValue ez).cells).flatten:=by
     unfold flat;rw [List.flatMap_def,List.map_replicate]
    have hzc:=oB (w:=w) (γ:=γ) (H:=H) n z1.symm z2
    have:=ql (P:=P) hs (w':=w.drew.alloc (.cells (#[]++Builtin.zeroCells ez.cells n++Builtin.zeroCells ez.cells (grownCap w n 0 e - n)) e)) (sz:=einf.size) (cap:=grownCap w n 0 e) (xs:=List.replicate n (ofValue ez)) (fr:=(0,0)) rfl rfl rfl (by simp) (fun b hb=>dB w.drew _ hb) (cZ w.drew _) (.inr rfl) (by rw [hl];exact grownCap_ge _ _ _ _)
     (by
      have hge:=grownCap_ge w n 0 e
      simp only [Array.size_append,size_zeroCells,hezc,List.size_toArray,yba,Nat.zero_add,← Nat.add_mul]
      exact Nat.mul_le_mul_right _ (by omega))
     (fun x hx=>by rw [List.eq_of_mem_replicate hx,hzl])
     (by
      rw [hfl]
      intro j hj
      obtain ⟨u,hu,hr⟩:=hzc j hj
      refine ⟨u,?_,hr⟩
      have hjs:0+j<(Builtin.zeroCells ez.cells n).size:=by
       rw [size_zeroCells,hezc];simp [hzl] at hj;omega
      rw [Array.empty_append,Array.getElem?_append_left hjs];exact hu) (run:=(Builtin.append_ ts ty #[.slice a 0 0,.int .i64 n]).run P w) (by rw [hl];exact hrun)
    rw [hl] at this
    exact this
   ·cases h
  ·cases h
 ·cases h
theorem wb {r:Nat} {E:Array MapEntry} {clock:Nat} (h:w.heap[r]?=some (.map E clock)):(getObj r).run P w=.ok (.map E clock) w:=by simp [getObj,Sem.run,h]
theorem sM {r:Nat} {E:Array MapEntry} {clock:Nat} (h:w.heap[r]?=some (.map E clock)) (o:Obj):(setObj r o).run P w=.ok () (ua w r o):=by simp [setObj,Sem.run,h,ua]
theorem oY {t k e:TypeId} (h:(ti P t).map TI.desc=some (.map k e)):P.underlying t=some (.map k e):=by
 obtain ⟨d,i,h1,h2,h3⟩:=gz h
 cases d<;>simp [dD] at h3
 rw [h3.1,h3.2] at h1;exact h1
theorem Cj:MapOk [] #[] 0 where
 flat:=fun p hp=>by cases hp
 one:=fun i j a b h _ _=>by simp at h
 back:=fun i a h=>by simp at h
 here:=fun k x h=>by cases h
 clk:=rfl
 born:=fun i a h=>by simp at h
 size:=rfl
 ord:=fun i a h=>by simp at h
theorem tq (hs:State w γ H) {t:TypeId} {n:Option AV} {vn:Option Value} {r:R} (hn:RelO w γ H n vn) (h:ziw P t n H=some r):Out P w γ H r.v r.H ((Instr.makeMap t vn).run P w):=by
 have hrun:(∃ k e,(ti P t).map TI.desc=some (.map k e))∧r=⟨True,.mapv H.nx,H.push (.mapo [])⟩∧(n=none∨∃ k i,n=some (.int k i)):=by
  unfold ziw at h
  split at h
  ·rename_i k e hd;cases h;exact ⟨⟨_,_,hd⟩,rfl,.inl rfl⟩
  ·rename_i k e q i hd;cases h;exact ⟨⟨_,_,hd⟩,rfl,.inr ⟨_,_,rfl⟩⟩
  ·cases h
 obtain ⟨⟨k,e,hd⟩,rfl,hnn⟩:=hrun
 have hr:(Instr.makeMap t vn).run P w=.ok (.map (some w.heap.size)) (w.alloc (.map #[] 0)):=by
  rcases hnn with rfl|⟨q,i,rfl⟩
  ·cases vn with
   |none=>simp [Instr.makeMap]
   |some v=>exact absurd hn (by simp [RelO])
  ·cases vn with
   |none=>exact absurd hn (by simp [RelO])
   |some v =>
    have hv:v=.int q i:=dk (show Rel w γ H (.int q i) v from hn)
    subst hv
    simp [Instr.makeMap,aH (oY hd),asInt,gQ]
 have he:=fh hs (w':=w.alloc (.map #[] 0)) rfl rfl rfl (by simp) (fun b hb=>dB w _ hb) (some w.heap.size) (fun b h=>by cases h;exact Nat.le_refl _) (.mapo [])
 refine ⟨_,_,_,hr,dM hs (fun b h=>by cases h;simp) he (fun b hb=>dB w _ hb) (.inr (.inr (.inr ⟨[],#[],0,w.heap.size,rfl,rfl,cZ w _,Cj⟩))),he,?_⟩
 have hnb:notBuf (H.push (.mapo [])) H.nx:=fun sz n h=>by rw [AHeap.get_push_new] at h;cases h
 rw [Rel]
 exact ⟨by rw [AHeap.nx_push];omega,hnb,_,bJ _ _ _,rfl⟩
theorem sH {kt:TypeId} {es:List (AV × AV)} {E:Array MapEntry} {clock:Nat} (hm:MapOk es E clock) (hK:Maps.Keyed P kt) (hes:∀ p∈es,kT P kt p.1) {k:AV} (hk:kT P kt k) (hf:k.flat=true) (w:World) :
 ((Instr.findKey kt (bZ k) E.toList).run P w=.ok none w∧kH es k=none∧∀ e∈E.toList,e.key≠bZ k) ∨
 ∃ j e x,(Instr.findKey kt (bZ k) E.toList).run P w=.ok (some (j,bZ x)) w∧E[j]?=some e∧e.key=bZ k∧kH es k=some x∧x.flat=true:=by
 obtain ⟨l,hl⟩:=hk
 have hall:∀ e∈E.toList,∃ l,keyOf P kt e.key=some l:=fun e he=>by
  obtain ⟨i,hi⟩:=List.getElem?_of_mem he
  obtain ⟨k',x',h1,h2,h3⟩:=hm.back i e (by rw [← Array.getElem?_toList];exact hi)
  rw [h1];exact hes _ (lG h3)
 rcases hK.find w hl E.toList hall with ⟨h1,h2⟩|⟨j,e,h1,h2,h3⟩
 ·refine .inl ⟨h1,?_,h2⟩
  cases hg:kH es k with
  |none=>rfl
  |some x =>
   obtain ⟨i,a,h4,h5⟩:=hm.here k x hg
   exact absurd h5 (h2 a (by rw [← Array.getElem?_toList] at h4;exact List.mem_of_getElem? h4))
 ·rw [Array.getElem?_toList] at h2
  obtain ⟨k',x',h4,h5,h6⟩:=hm.back j e h2
  obtain ⟨f1,f2⟩:=hm.flat _ (lG h6)
  have:k'=k:=rB f1 hf (by rw [← h4,h3])
  subst this
  exact .inr ⟨j,e,x',by rw [h1,h5],h2,h3,h6,f2⟩
theorem sk (hs:State w γ H) {id:Nat} {es:List (AV × AV)} (h:H.get id=some (.mapo es)):∃ blk E clock,γ id=some blk∧w.heap[blk]?=some (.map E clock)∧MapOk es E clock:=hs.obj id _ h
theorem uR (hs:State w γ H) {t:TypeId} {m k:AV} {vm vk:Value} {ok:Bool} {r:R} (hm:Rel w γ H m vm) (hk:Rel w γ H k vk) (h:zix P t m k ok H=some r) (hc:r.c) :
 Out P w γ H r.v r.H ((Instr.lookup t vm vk ok).run P w):=by
 unfold zix at h
 split at h
 ·rename_i kt et id hd
  split at h
  ·rename_i es ie hg hie
   cases h
   obtain ⟨hK,hes,hkg,hf⟩:=hc
   have hkv:=(i7 hf vk).1 hk
   subst hkv
   rw [Rel] at hm
   obtain ⟨_,_,blk,hgb,rfl⟩:=hm
   obtain ⟨blk',E,clock,g1,g2,g3⟩:=sk hs hg
   rw [hgb] at g1;cases g1
   obtain ⟨d,inf,z,hd',hinf,hz,rfl⟩:=bO hie
   obtain ⟨l,hl⟩:=hkg
   have hck:=hK.check w E.isEmpty hl
   have hgo:(getObj blk).run P w=.ok (.map E clock) w:=wb g2
   rcases sH g3 hK hes ⟨l,hl⟩ hf w with ⟨h1,h2,_⟩|⟨j,e,x,h1,_,_,h2,h3⟩
   ·refine Out.same hs (v:=if ok then .tuple #[z,.bool false] else z) ?_ ?_
    ·simp [Instr.lookup,aH (oY hd),hgo,hck,h1,fI hinf hz]
    ·simp only [uN,h2]
     cases ok
     ·exact fR z
     ·simp only [if_true];rw [Rel]
      refine ⟨_,rfl,rfl,fun j hj=>?_⟩
      match j,hj with
      |0,_=>exact ⟨z,rfl,fR z⟩
      |1,_=>exact ⟨_,rfl,fX _⟩
   ·refine Out.same hs (v:=if ok then .tuple #[bZ x,.bool true] else bZ x) ?_ ?_
    ·simp [Instr.lookup,aH (oY hd),hgo,hck,h1]
    ·simp only [uN,h2]
     cases ok
     ·exact (i7 h3 _).2 rfl
     ·simp only [if_true];rw [Rel]
      refine ⟨_,rfl,rfl,fun j hj=>?_⟩
      match j,hj with
      |0,_=>exact ⟨_,rfl,(i7 h3 _).2 rfl⟩
      |1,_=>exact ⟨_,rfl,fX _⟩
  ·cases h
 ·cases h
theorem tN {es:List (AV × AV)} {E:Array MapEntry} {clock:Nat} (hm:MapOk es E clock) {k x:AV} (hk:k.flat=true) (hx:x.flat=true) (hn:∀ e∈E.toList,e.key≠bZ k) (hg:kH es k=none) :
 MapOk ((k,x)::es) (E.push ⟨bZ k,bZ x,clock⟩) (clock+1) where
 flat:=fun p hp=>by
  rcases List.mem_cons.1 hp with rfl|hp
  ·exact ⟨hk,hx⟩
  ·exact hm.flat p hp
 one:=fun i j a b hi hj e=>by
  rw [Array.getElem?_push] at hi hj
  split at hi<;>split at hj
  ·omega
  ·cases hi
   exact absurd e.symm (hn b (by rw [← Array.getElem?_toList] at hj;exact List.mem_of_getElem? hj))
  ·cases hj
   exact absurd e (hn a (by rw [← Array.getElem?_toList] at hi;exact List.mem_of_getElem? hi))
  ·exact hm.one i j a b hi hj e
 back:=fun i a hi=>by
  rw [Array.getElem?_push] at hi
  split at hi
  ·cases hi
   exact ⟨k,x,rfl,rfl,by rw [kH,yY hk];rfl⟩
  ·obtain ⟨k',x',h1,h2,h3⟩:=hm.back i a hi
   refine ⟨k',x',h1,h2,?_⟩
   rw [kH]
   split
   ·rename_i he
    have:=qK he
    subst this
    exact absurd h1 (hn a (by rw [← Array.getElem?_toList] at hi;exact List.mem_of_getElem? hi))
   ·exact h3
 here:=fun k' x' h=>by
  rw [kH] at h
  split at h
  ·rename_i he
   cases h
   rw [← qK he]
   exact ⟨E.size,⟨bZ k,bZ x,clock⟩,by simp,rfl⟩
  ·obtain ⟨i,a,h1,h2⟩:=hm.here k' x' h
   refine ⟨i,a,?_,h2⟩
   have:i<E.size:=by
    rcases Nat.lt_or_ge i E.size with h|h
    ·exact h
    ·rw [Array.getElem?_eq_none h] at h1;cases h1
   rw [Array.getElem?_push,if_neg (by omega)];exact h1
 clk:=by rw [Array.size_push,hm.clk]
 born:=fun i a hi=>by
  rw [Array.getElem?_push] at hi
  split at hi
  ·rename_i h;cases hi;exact hm.clk.trans h.symm
  ·exact hm.born i a hi
 size:=by rw [gd,hg,if_neg (by simp),Array.size_push,List.length_append,hm.size];rfl
 ord:=fun i a hi=>by
  rw [gd,hg,if_neg (by simp)]
  rw [Array.getElem?_push] at hi
  split at hi
  ·rename_i h;cases hi;exact ⟨k,by rw [h,← hm.size];simp,rfl⟩
  ·obtain ⟨k',h1,h2⟩:=hm.ord i a hi
   refine ⟨k',?_,h2⟩
   rw [List.getElem?_append_left (by rcases Nat.lt_or_ge i (gd es).length with h|h;exact h;rw [List.getElem?_eq_none h] at h1;cases h1)]
   exact h1
theorem tU {es:List (AV × AV)} {E:Array MapEntry} {clock:Nat} (hm:MapOk es E clock) {k:AV} (hf:k.flat=true) {j:Nat} {e0:MapEntry} (hj:E[j]?=some e0) (he:e0.key=bZ k):(kH es k).isSome=true:=by
 obtain ⟨k',x',h4,h5,h6⟩:=hm.back j e0 hj
 obtain ⟨f1,f2⟩:=hm.flat _ (lG h6)
 have:k'=k:=rB f1 hf (by rw [← h4,he])
 subst this
 rw [h6];rfl
theorem qF {es:List (AV × AV)} {E:Array MapEntry} {clock:Nat} (hm:MapOk es E clock) {k x:AV} (hf:k.flat=true) (hx:x.flat=true) {j:Nat} {e0:MapEntry} (hj:E[j]?=some e0) (he:e0.key=bZ k) :
 MapOk ((k,x)::es) (E.modify j fun e=>{ e with key:=bZ k,val:=bZ x }) clock where
 flat:=fun p hp=>by
  rcases List.mem_cons.1 hp with rfl|hp
  ·exact ⟨hf,hx⟩
  ·exact hm.flat p hp
 one:=fun i i' a b hi hi' e=>by
  rw [Array.getElem?_modify] at hi hi'
  have key:∀ (i:Nat) (a:MapEntry),(if j=i then (E[i]?).map (fun e=>({ e with key:=bZ k,val:=bZ x }:MapEntry)) else E[i]?)=some a→∃ a',E[i]?=some a'∧a'.key=a.key:=fun i a hi=>by
   split at hi
   ·rename_i hji
    subst hji
    rw [hj] at hi
    cases hi
    exact ⟨e0,hj,he⟩
   ·exact ⟨a,hi,rfl⟩
  obtain ⟨a',h1,h2⟩:=key i a hi
  obtain ⟨b',h3,h4⟩:=key i' b hi'
  exact hm.one i i' a' b' h1 h3 (by rw [h2,h4,e])
 back:=fun i a hi=>by
  rw [Array.getElem?_modify] at hi
  split at hi
  ·rename_i hji
   subst hji
   rw [hj] at hi
   cases hi
   exact ⟨k,x,rfl,rfl,by rw [kH,yY hf];rfl⟩
  ·rename_i hji
   obtain ⟨k',x',h1,h2,h3⟩:=hm.back i a hi
   refine ⟨k',x',h1,h2,?_⟩
   rw [kH]
   split
   ·rename_i hq
    have:=qK hq
    subst this
    exact absurd (hm.one j i e0 a hj hi (by rw [he,h1])) hji
   ·exact h3
 here:=fun k' x' h=>by
  rw [kH] at h
  split at h
  ·rename_i hq
   cases h
   rw [← qK hq]
   exact ⟨j,{ e0 with key:=bZ k,val:=bZ x },by rw [Array.getElem?_modify,if_pos rfl,hj];rfl,rfl⟩
  ·rename_i hq
   obtain ⟨i,a,h1,h2⟩:=hm.here k' x' h
   by_cases hji:j=i
   ·subst hji
    rw [hj] at h1;cases h1
    exact ⟨j,{ e0 with key:=bZ k,val:=bZ x },by rw [Array.getElem?_modify,if_pos rfl,hj];rfl,by show bZ k=_;rw [← he,h2]⟩
   ·exact ⟨i,a,by rw [Array.getElem?_modify,if_neg hji];exact h1,h2⟩
 clk:=by rw [Array.size_modify];exact hm.clk
 born:=fun i a hi=>by
  rw [Array.getElem?_modify] at hi
  split at hi
  ·rename_i hji
   subst hji
   rw [hj] at hi
   cases hi
   exact hm.born j e0 hj
  ·exact hm.born i a hi
 size:=by rw [gd,if_pos (tU hm hf hj he),Array.size_modify];exact hm.size
 ord:=fun i a hi=>by
  rw [gd,if_pos (tU hm hf hj he)]
  rw [Array.getElem?_modify] at hi
  split at hi
  ·rename_i hji
   subst hji
   rw [hj] at hi
   cases hi
   obtain ⟨k',h1,h2⟩:=hm.ord j e0 hj
   exact ⟨k',h1,by show bZ k=_;rw [← he,h2]⟩
  ·exact hm.ord i a hi
theorem qW (hs:State w γ H) {t:TypeId} {m k x:AV} {vm vk vx:Value} {r:R} (hm:Rel w γ H m vm) (hk:Rel w γ H k vk) (hx:Rel w γ H x vx) (h:ziy P t m k x H=some r) (hc:r.c) :
 ∃ w',(Instr.mapUpdate t vm vk vx).run P w=.ok () w'∧State w' γ r.H∧Ext w γ H w' γ r.H∧r.v=.junk:=by
 unfold ziy at h
 split at h
 ·rename_i kt et id hd
  split at h
  ·rename_i es hg
   cases h
   obtain ⟨hK,hes,hkg,hf,hfx⟩:=hc
   have hkv:=(i7 hf vk).1 hk
   have hxv:=(i7 hfx vx).1 hx
   subst hkv
   subst hxv
   rw [Rel] at hm
   obtain ⟨_,_,blk,hgb,rfl⟩:=hm
   obtain ⟨blk',E,clock,g1,g2,g3⟩:=sk hs hg
   rw [hgb] at g1;cases g1
   obtain ⟨l,hl⟩:=hkg
   have hck:=hK.check w false hl
   have hgo:(getObj blk).run P w=.ok (.map E clock) w:=wb g2
   rcases sH g3 hK hes ⟨l,hl⟩ hf w with ⟨h1,h2,h3⟩|⟨j,e,x',h1,h4,h5,h2,h3⟩
   ·refine ⟨ua w blk (.map (E.push ⟨bZ k,bZ x,clock⟩) (clock+1)),?_,lH hs hgb g2 hg (tN g3 hf hfx h3 h2),n7 hs hgb g2 hg _,rfl⟩
    simp [Instr.mapUpdate,aH (oY hd),hgo,hck,h1,sM g2]
   ·refine ⟨ua w blk (.map (E.modify j fun e=>{ e with key:=bZ k,val:=bZ x }) clock),?_,lH hs hgb g2 hg (qF g3 hf hfx h4 h5),n7 hs hgb g2 hg _,rfl⟩
    have hst:=hK.stays w hl
    simp [Instr.mapUpdate,aH (oY hd),hgo,hck,h1,sM g2,h4,h5,hst]
  ·cases h
 ·cases h
theorem vC:∀ (es:List (AV × AV)) (k:AV),(kH es k).isSome=true→(gd es)[r7 es k]?=some k
 |[],_,h=>by cases h
 |p::es,k,h=>by
  rw [r7]
  cases hg:kH es k with
  |some y =>
   have ih:=vC es k (by rw [hg];rfl)
   rw [if_pos (by rfl),gd]
   split
   ·exact ih
   ·rw [List.getElem?_append_left (by rcases Nat.lt_or_ge (r7 es k) (gd es).length with h|h;exact h;rw [List.getElem?_eq_none h] at ih;cases ih)]
    exact ih
  |none =>
   rw [if_neg (by simp)]
   obtain ⟨k',x⟩:=p
   rw [kH] at h
   split at h
   ·rename_i hq
    have:=qK hq
    subst this
    rw [gd,hg,if_neg (by simp)]
    simp
   ·rw [hg] at h;cases h
theorem sc (hs:State w γ H) {t:TypeId} {m k:AV} {vm vk:Value} {r:R} (hm:Rel w γ H m vm) (hk:Rel w γ H k vk) (h:lK P t m k H=some r) (hc:r.c) :
 Out P w γ H r.v r.H ((Instr.mapEntry t vm vk).run P w):=by
 unfold lK at h
 split at h
 ·rename_i kt et id hd
  split at h
  ·rename_i es ie hg hie
   cases h
   obtain ⟨hK,hes,hkg,hf,hfz⟩:=hc
   have hkv:=(i7 hf vk).1 hk
   subst hkv
   rw [Rel] at hm
   obtain ⟨_,_,blk,hgb,rfl⟩:=hm
   obtain ⟨blk',E,clock,g1,g2,g3⟩:=sk hs hg
   rw [hgb] at g1;cases g1
   obtain ⟨d,inf,z,hd',hinf,hz,hzz⟩:=bO hie
   have hzv:z=bZ ie.zero:=(i7 hfz z).1 (show Rel w γ H ie.zero z by rw [hzz];exact fR z)
   obtain ⟨l,hl⟩:=hkg
   have hck:=hK.check w false hl
   have hgo:(getObj blk).run P w=.ok (.map E clock) w:=wb g2
   have mk2:∀ {w':World} {γ':br} {H':AHeap} {x:AV} {n:Nat},x.flat=true→Rel w' γ' H' (.tup [x,.int .i64 (n:Nat)]) (.tuple #[bZ x,goInt n]):=by
    intro w' γ' H' x n hx
    rw [Rel]
    refine ⟨_,rfl,rfl,fun j hj=>?_⟩
    match j,hj with
    |0,_=>exact ⟨_,rfl,(i7 hx _).2 rfl⟩
    |1,_=>exact ⟨_,rfl,by rw [show ([x,AV.int .i64 (n:Nat)]:List AV)[1]=AV.int .i64 (n:Nat) from rfl,Rel];rfl⟩
   rcases sH g3 hK hes ⟨l,hl⟩ hf w with ⟨h1,h2,h3⟩|⟨j,e,x',h1,h4,h5,h2,h3⟩
   ·refine ⟨.tuple #[z,goInt clock],ua w blk (.map (E.push ⟨bZ k,bZ ie.zero,clock⟩) (clock+1)),γ,?_,?_,n7 hs hgb g2 hg _,?_⟩
    ·simp [Instr.mapEntry,aH (oY hd),hgo,hck,h1,fI hinf hz,sM g2,hzv]
    ·simp only [uN,h2]
     exact lH hs hgb g2 hg (tN g3 hf hfz h3 h2)
    ·simp only [uN,h2,r7]
     rw [if_neg (by simp),hzv,g3.clk,← g3.size]
     exact mk2 hfz
   ·have hj:r7 es k=j:=by
     have h6:=vC es k (by rw [h2];rfl)
     have hlt:r7 es k<E.size:=by
      rw [← g3.size]
      rcases Nat.lt_or_ge (r7 es k) (gd es).length with h|h
      ·exact h
      ·rw [List.getElem?_eq_none h] at h6;cases h6
     obtain ⟨k',h7,h8⟩:=g3.ord (r7 es k) E[r7 es k] (Array.getElem?_eq_getElem hlt)
     rw [h6] at h7;cases h7
     exact g3.one _ _ _ _ (Array.getElem?_eq_getElem hlt) h4 (h8.trans h5.symm)
    have hv:e.val=bZ x':=by
     obtain ⟨k',x2,q1,q2,q3⟩:=g3.back j e h4
     obtain ⟨f1,f2⟩:=g3.flat _ (lG q3)
     have:k'=k:=rB f1 hf (by rw [← q1,h5])
     subst this
     rw [h2] at q3;cases q3
     exact q2
    have hE:(E.modify j fun e=>{ e with key:=bZ k })=E.modify j fun e=>{ e with key:=bZ k,val:=bZ x' }:=by
     apply Array.ext_getElem?
     intro i
     rw [Array.getElem?_modify,Array.getElem?_modify]
     split
     ·rename_i hji
      subst hji
      rw [h4]
      simp [hv]
     ·rfl
    have hst:=hK.stays w hl
    refine ⟨.tuple #[bZ x',goInt j],ua w blk (.map (E.modify j fun e=>{ e with key:=bZ k,val:=bZ x' }) clock),γ,?_,?_,n7 hs hgb g2 hg _,?_⟩
    ·have hb:=g3.born j e h4
     rw [← hE]
     simp [Instr.mapEntry,aH (oY hd),hgo,hck,h1,sM g2,h4,h5,hst,hb]
    ·simp only [uN,h2]
     exact lH hs hgb g2 hg (qF g3 hf h3 h4 h5)
    ·simp only [uN,h2,r7]
     rw [if_pos (show (some x').isSome=true from rfl),hj]
     exact mk2 h3
  ·cases h
 ·cases h
theorem pE (t:TypeId) (hs:State w γ H) {m s x:AV} {vm vs vx:Value} {r:R} (hm:Rel w γ H m vm) (hsr:Rel w γ H s vs) (hx:Rel w γ H x vx) (h:jI m s x H=some r) (hc:r.c) :
 ∃ w',(Instr.entryStore t vm vs vx).run P w=.ok () w'∧State w' γ r.H∧Ext w γ H w' γ r.H∧r.v=.junk:=by
 unfold jI at h
 split at h
 ·rename_i id n
  split at h
  ·rename_i es hg
   split at h
   ·rename_i k hk
    cases h
    obtain ⟨hn,hfx⟩:=hc
    have hxv:=(i7 hfx vx).1 hx
    subst hxv
    have hsv:vs=.int .i64 n:=dk hsr
    subst hsv
    rw [Rel] at hm
    obtain ⟨_,_,blk,hgb,rfl⟩:=hm
    obtain ⟨blk',E,clock,g1,g2,g3⟩:=sk hs hg
    rw [hgb] at g1;cases g1
    have hgo:(getObj blk).run P w=.ok (.map E clock) w:=wb g2
    have hlt:n.toNat<E.size:=by
     rw [← g3.size]
     rcases Nat.lt_or_ge n.toNat (gd es).length with h|h
     ·exact h
     ·rw [List.getElem?_eq_none h] at hk;cases hk
    have he:=Array.getElem?_eq_getElem hlt
    obtain ⟨k2,h7,h8⟩:=g3.ord n.toNat E[n.toNat] he
    rw [hk] at h7;cases h7
    obtain ⟨k3,x3,q1,q2,q3⟩:=g3.back n.toNat E[n.toNat] he
    obtain ⟨f1,f2⟩:=g3.flat _ (lG q3)
    have hkf:k.flat=true:=by
     have hmem:∀ {es:List (AV × AV)},(∀ p∈es,p.1.flat=true)→∀ k∈gd es,k.flat=true:=by
      intro es
      induction es with
      |nil=>intro _ k hk;cases hk
      |cons p es ih =>
       intro hp k hk
       rw [gd] at hk
       split at hk
       ·exact ih (fun p h=>hp p (List.mem_cons_of_mem _ h)) k hk
       ·rcases List.mem_append.1 hk with hk|hk
        ·exact ih (fun p h=>hp p (List.mem_cons_of_mem _ h)) k hk
        ·rw [List.mem_singleton.1 hk];exact hp p List.mem_cons_self
     exact hmem (fun p hp=>(g3.flat p hp).1) k (List.mem_of_getElem? hk)
    have hE:(E.modify n.toNat fun e=>{ e with val:=bZ x })=E.modify n.toNat fun e=>{ e with key:=bZ k,val:=bZ x }:=by
     apply Array.ext_getElem?
     intro i
     rw [Array.getElem?_modify,Array.getElem?_modify]
     split
     ·rename_i hji
      subst hji
      rw [he]
      simp [h8]
     ·rfl
    have hfi:E.findIdx? (fun e=>(e.born:Int)==n)=some n.toNat:=by
     rw [Array.findIdx?_eq_some_iff_getElem]
     refine ⟨hlt,?_,fun j hj=>?_⟩
     ·have:=g3.born _ _ he
      rw [this];simp;omega
     ·have:=g3.born j E[j] (Array.getElem?_eq_getElem (by omega))
      rw [this];simp;omega
    refine ⟨ua w blk (.map (E.modify n.toNat fun e=>{ e with key:=bZ k,val:=bZ x }) clock),?_,lH hs hgb g2 hg (qF g3 hkf hfx he h8),n7 hs hgb g2 hg _,rfl⟩
    rw [← hE]
    simp [Instr.entryStore,hgo,asInt,gQ,hfi,sM g2]
   ·cases h
  ·cases h
 ·cases h
theorem oT (hs:State w γ H) {t t2:TypeId} {s x:AV} {vs vx:Value} {r:R} (hsr:Rel w γ H s vs) (hx:Rel w γ H x vx) (h:zjr P t t2 s x H=some r) (hc:r.c)
 (ts:Array TypeId) (h0:ts[0]?=some t) (h1:ts[1]?=some t2) (ty:TypeId):Out P w γ H r.v r.H ((Builtin.append_ ts ty #[vs,vx]).run P w):=by
 unfold zjr at h
 split at h
 ·rename_i sz ys
  unfold zjs at h
  split at h
  ·split at h
   ·exact sI hs hsr hx h hc ts h0 h1 ty
   ·cases h
  unfold zjv at h
  split at h
  ·rename_i ht2
   split at h
   ·rename_i e hd
    split at h
    ·rename_i te hte
     split at h
     ·rename_i hcond
      split at h
      ·rename_i zs hadd
       cases h
       obtain ⟨hpos,hzl,hsz⟩:=hcond
       obtain ⟨hbytes,hmax,hone⟩:=hc
       by_cases hz:zs=[]
       ·subst hz
        have hu:=cU hd
        obtain ⟨ed,einf,ez,hed,heinf,hez,rfl⟩:=bO hte
        obtain ⟨d2,hu2,hd2⟩:∃ d2,P.underlying t2=some d2∧(d2=.string∨∃ e2,d2=.slice e2):=by
         unfold yI at ht2
         split at ht2
         ·rename_i a ha;exact ⟨_,cU ha,.inr ⟨_,rfl⟩⟩
         ·rename_i ha;exact ⟨_,iG ha,.inl rfl⟩
         ·cases ht2
        obtain ⟨us,a1,a2,a3,a4,a5,a6,a7⟩:=i8 (P:=P) hs hte hx hadd hone
        have hus:us=#[]:=by simp at a5;exact a5
        subst hus
        dsimp only at hsz
        subst hsz
        have he:=fh hs (w':=w) rfl rfl rfl (Nat.le_refl _) (fun _ _=>rfl) none (fun b h=>by cases h) (.buf einf.size (ys.length+0))
        have hst:=dM hs (fun b h=>by cases h) he (fun _ _=>rfl) (.inr (.inl ⟨_,_,rfl⟩))
        have hrun:(Builtin.append_ ts ty #[vs,vx]).run P w=.ok vs w:=by
         rcases rel_slice.1 hsr with ⟨⟨a,rfl⟩,rfl,_⟩|⟨blk,off,cap,C,ty',fr,rfl,hle,hb,_⟩
         ·have hrun:=kA (P:=P) (ty:=ty) h0 h1 hu hu2 hd2 heinf a1 a3 (base:=a) (sLen:=0) (sCap:=0) (by simp)
          rw [hrun];cases a<;>simp [storeCells]
         ·have hrun:=kA (P:=P) (ty:=ty) h0 h1 hu hu2 hd2 heinf a1 a3 (base:=some ⟨blk,off,none⟩) (sLen:=ys.length) (sCap:=cap) (by simpa using hle)
          rw [hrun];simp [storeCells]
        refine ⟨vs,w,_,hrun,hst,he,?_⟩
        simp only [List.isEmpty_nil,if_true,yaj]
        exact hsr.ext he
       ·have hne:zs.isEmpty=false:=by cases zs with
         |nil=>exact absurd rfl hz
         |cons=>rfl
        have:=mY (P:=P) hs (t:=t) (t2:=t2) (r:=⟨zs≠[]∧(ys.length+zs.length)*te.bytes≤140737488355328∧ys.length+zs.length≤140737488355328∧∀ z∈zs,bN z.cells=true,
         .slice (.own H.nx) te.size (ys++zs),H.push (.buf te.size (ys.length+zs.length))⟩) hsr hx (by
          unfold zju
          rw [if_pos ht2,hd]
          simp only [hte]
          rw [if_pos ⟨hpos,hzl,.inl hsz⟩,hadd]
          simp [xq,room]) ⟨hz,hbytes,hmax,hone⟩ ts h0 h1 ty
        simpa [hne] using this
      ·cases h
     ·cases h
    ·cases h
   ·cases h
  ·cases h
 ·exact mY hs hsr hx h hc ts h0 h1 ty
end
def Sim (w:World) (γ:br) (H:AHeap) (fr:Fr) (a:Act):Prop:=∀ t,Rel w γ H (Fr.get fr t) (a.tmps.getD t undef)
theorem Sim.ext {w w':World} {γ γ':br} {H H':AHeap} {fr:Fr} {a:Act} (h:Sim w γ H fr a) (he:Ext w γ H w' γ' H'):Sim w' γ' H' fr a:=fun t=>(h t).ext he
theorem Sim.eval {w:World} {γ:br} {H:AHeap} {fr:Fr} {a:Act} (h:Sim w γ H fr a) (x:Operand):Rel w γ H (ev fr x) (a.eval x):=by
 cases x with
 |tmp t=>exact h t
 |const v=>exact fR v
 |global g=>simp only [ev];rw [Rel];trivial
 |func f =>
  simp only [ev,Act.eval]
  rw [Rel]
  exact ⟨#[],#[],rfl,rfl,rfl,fun j hj=>absurd hj (by simp),fun j hj=>absurd hj (by simp)⟩
theorem Sim.put {w:World} {γ:br} {H:AHeap} {fr:Fr} {a:Act} (h:Sim w γ H fr a) {x:AV} {v:Value} (hx:Rel w γ H x v) (d:Option Tmp) (hd:∀ i,d=some i→i<a.tmps.size) :
 Sim w γ H (fr.put d x) (a.put d v):=by
 cases d with
 |none=>exact h
 |some i =>
  intro t
  have hi:=hd i rfl
  simp only [Fr.put,Fr.get,Act.put]
  by_cases he:i=t
  ·subst he
   rw [if_pos rfl]
   simp [Array.getD,hi,hx]
  ·rw [if_neg he]
   have:=h t
   simp only [Array.getD_eq_getD_getElem?] at this ⊢
   rw [Array.getElem?_setIfInBounds_ne he];exact this
theorem Sim.same {w:World} {γ:br} {H:AHeap} {fr:Fr} {a:Act} (h:Sim w γ H fr a) {x:AV} (d:Option Tmp) (hx:∀ i,d=some i→Rel w γ H x (a.tmps.getD i undef)):Sim w γ H (fr.put d x) a:=by
 cases d with
 |none=>exact h
 |some i =>
  intro t
  simp only [Fr.put,Fr.get]
  by_cases he:i=t
  ·subst he;rw [if_pos rfl];exact hx i rfl
  ·rw [if_neg he];exact h t
def HO (P:Program) (w:World) (γ:br) (H:AHeap) (x:AV) (H':AHeap) (run:Result Next):Prop :=
 ∃ v w' γ',(run=.ok (.value v) w'∨(run=.ok .skip w'∧v=undef))∧State w' γ' H'∧Ext w γ H w' γ' H'∧Rel w' γ' H' x v
section
variable {P:Program} {w:World} {γ:br} {H:AHeap}
theorem Out.next {x:AV} {H':AHeap} {s:Sem Value} (h:Out P w γ H x H' (s.run P w)):HO P w γ H x H' ((do pure (Next.value (← s)):Sem Next).run P w):=by
 obtain ⟨v,w',γ',h1,h2,h3,h4⟩:=h
 exact ⟨v,w',γ',.inl (by simp [h1]),h2,h3,h4⟩
theorem RelO.map {e:Operand→AV} {a:Act} (hf:∀ x,Rel w γ H (e x) (a.eval x)) (x:Option Operand):RelO w γ H (x.map e) (x.map a.eval):=by
 cases x with
 |none=>trivial
 |some x=>exact hf x
theorem RelP.map {e:Operand→AV} {a:Act} (hf:∀ x,Rel w γ H (e x) (a.eval x)) (ps:Array (Nat × Operand)) :
 RelP w γ H (ps.toList.map fun p=>(p.1,e p.2)) ((ps.map fun (i,x)=>(i,a.eval x)).toList):=by
 refine ⟨by simp,fun j p q hp hq=>?_⟩
 simp only [Array.toList_map,List.getElem?_map] at hp hq
 cases hj:ps.toList[j]? with
 |none=>rw [hj] at hp;cases hp
 |some y =>
  rw [hj] at hp hq
  simp only [yag,Option.some.injEq] at hp hq
  subst hp;subst hq
  exact ⟨rfl,hf _⟩
theorem yL {t:TypeId} {x y:AV} {r:R} (h:zji P t x y H=some r):r.v=.junk:=by
 unfold zji at h
 split at h
 ·split at h
  ·split at h<;>cases h;rfl
  ·cases h
 ·cases h
theorem nc (hs:State w γ H) {e:Operand→AV} {a:Act} (hf:∀ x,Rel w γ H (e x) (a.eval x)) {o:Oper} {r:R} (h:fT P o e H=some r) (hc:r.c) :
 HO P w γ H r.v r.H ((execOp a.eval o).run P w):=by
 obtain ⟨dst,op,ty,pos,after,guard⟩:=o
 unfold fT at h
 dsimp only at h
 cases op<;>first|(cases h;done)|skip
 case move x=>cases h;exact ⟨a.eval x,w,γ,.inl (by simp [execOp]),hs,Ext.refl _ _ _,hf x⟩
 case assign x =>
  obtain ⟨v,w',γ',h1,h2,h3,h4⟩:=uP (P:=P) hs (hf x) h
  cases h1
  exact ⟨a.eval x,w,γ',.inl (by simp [execOp]),h2,h3,h4⟩
 case pick c x y =>
  obtain ⟨v,h1,h2,h3⟩:=xK (P:=P) hs (hf c) (hf x) (hf y) h
  refine ⟨v,w,γ,.inl ?_,h2 ▸ hs,h2 ▸ Ext.refl _ _ _,h2 ▸ h3⟩
  simp only [execOp,Sem.run_bind] at h1 ⊢
  revert h1
  generalize (asBool (a.eval c)).run P w=rr
  cases rr<;>simp [Result.andThen]
 case alloc t=>exact (wO hs h).next
 case box t x=>exact (AG hs (hf x) h).next
 case build t ps=>exact (wl hs (RelP.map hf ps) h).next
 case buildSlice t n ps=>exact (pF hs (RelP.map hf ps) h).next
 case load t x=>exact (zh hs (hf x) h hc).next
 case store t x y =>
  obtain ⟨w',h1,h2,h3⟩:=qj hs (hf x) (hf y) h hc
  have hj:r.v=.junk:=yL h
  refine ⟨undef,w',γ,.inr ⟨by simp [execOp,h1],rfl⟩,h2,h3,?_⟩
  rw [hj,Rel];trivial
 case nilCheck x =>
  obtain ⟨h1,h2,h3⟩:=sf hs (hf x) h ⟨dst,.nilCheck x,ty,pos,after,guard⟩ a x rfl rfl
  exact ⟨_,w,γ,.inl h1,h2 ▸ hs,h2 ▸ Ext.refl _ _ _,by rw [h2,h3];exact hf x⟩
 case binOp op t x y u=>exact (zF hs x y h hc (hf x) (hf y)).next
 case unOp op t x=>exact (B5 hs (hf x) h).next
 case convert s d x=>exact (nu hs (hf x) h hc).next
 case makeInterface t x=>exact (wj hs (hf x) h).next
 case makeFunc f as bs =>
  cases h
  refine ⟨.func f (as.map a.eval) (bs.map a.eval),w,γ,.inl (by simp [execOp,Instr.makeFunc]),hs,Ext.refl _ _ _,?_⟩
  rw [Rel]
  refine ⟨_,_,rfl,by simp,by simp,fun j hj=>?_,fun j hj=>?_⟩
  ·simp at hj;exact ⟨a.eval as[j],by simp [hj],by simpa using hf _⟩
  ·simp at hj;exact ⟨a.eval bs[j],by simp [hj],by simpa using hf _⟩
 case makeMap t n=>exact (tq hs (RelO.map hf n) h).next
 case lookup t m k ok=>exact (uR hs (hf m) (hf k) h hc).next
 case mapUpdate t m k x =>
  obtain ⟨w',h1,h2,h3,h4⟩:=qW hs (hf m) (hf k) (hf x) h hc
  refine ⟨undef,w',γ,.inr ⟨by simp [execOp,h1],rfl⟩,h2,h3,?_⟩
  rw [h4,Rel];trivial
 case mapEntry t m k=>exact (sc hs (hf m) (hf k) h hc).next
 case entryStore t m s x =>
  obtain ⟨w',h1,h2,h3,h4⟩:=pE (P:=P) t hs (hf m) (hf s) (hf x) h hc
  refine ⟨undef,w',γ,.inr ⟨by simp [execOp,h1],rfl⟩,h2,h3,?_⟩
  rw [h4,Rel];trivial
 case makeSlice t l c=>exact (yu hs (hf l) (hf c) h hc).next
 case slice t x lo hi mx=>exact (xt hs (hf x) (RelO.map hf lo) (RelO.map hf hi) (RelO.map hf mx) h hc).next
 case fieldAddr t x n=>exact (rq hs (hf x) h hc).next
 case field t x n=>exact (wW hs (hf x) h hc).next
 case indexAddr t x i=>exact (rm hs (hf x) (hf i) h hc).next
 case index t x i=>exact (xx hs (hf x) (hf i) h hc).next
 case typeAssert x t u ok=>exact (uK hs (hf x) h).next
 case extract x n=>exact (sS hs (hf x) h hc).next
 case call c =>
  obtain ⟨callee,args,argTypes⟩:=c
  cases callee<;>first|(cases h;done)|skip
  rename_i b
  replace h:ziu P b argTypes.toList (args.toList.map e) H=some r:=h
  unfold ziu at h
  split at h
  ·rename_i t ts x hts hargs
   have e1:argTypes[0]?=some t:=by rw [← Array.getElem?_toList,hts];rfl
   obtain ⟨x0,e2⟩:∃ x0,args=#[x0]:=by
    have:args.toList.length=1:=by have:=congrArg List.length hargs;simpa using this
    match args,this with
    |⟨[x0]⟩,_=>exact ⟨x0,rfl⟩
   subst e2
   simp only [yae,yaf,List.cons.injEq,and_true] at hargs
   subst hargs
   have:=(zU hs (hf x0) h argTypes e1 ty).next
   simpa [execOp,resolve,invoke,builtin] using this
  ·rename_i t t2 ts s x hts hargs
   have e1:argTypes[0]?=some t:=by rw [← Array.getElem?_toList,hts];rfl
   have e1':argTypes[1]?=some t2:=by rw [← Array.getElem?_toList,hts];rfl
   obtain ⟨x0,x1,e2⟩:∃ x0 x1,args=#[x0,x1]:=by
    have:args.toList.length=2:=by have:=congrArg List.length hargs;simpa using this
    match args,this with
    |⟨[x0,x1]⟩,_=>exact ⟨x0,x1,rfl⟩
   subst e2
   simp only [yae,yaf,List.cons.injEq,and_true] at hargs
   obtain ⟨rfl,rfl⟩:=hargs
   have:=(oT hs (hf x0) (hf x1) h hc argTypes e1 e1' ty).next
   simpa [execOp,resolve,invoke,builtin] using this
  ·rename_i t t2 ts s x hts hargs
   have e1:argTypes[0]?=some t:=by rw [← Array.getElem?_toList,hts];rfl
   obtain ⟨x0,x1,e2⟩:∃ x0 x1,args=#[x0,x1]:=by
    have:args.toList.length=2:=by have:=congrArg List.length hargs;simpa using this
    match args,this with
    |⟨[x0,x1]⟩,_=>exact ⟨x0,x1,rfl⟩
   subst e2
   simp only [yae,yaf,List.cons.injEq,and_true] at hargs
   obtain ⟨rfl,rfl⟩:=hargs
   have:=(xW hs (hf x0) (hf x1) h hc argTypes e1 ty).next
   simpa [execOp,resolve,invoke,builtin] using this
  ·rename_i l
   have:=(oI (P:=P) hs (vs:=args.toList.map a.eval) (by simp) (fun j x v hx hv=>by
    simp only [List.getElem?_map] at hx hv
    cases hj:args.toList[j]? with
    |none=>rw [hj] at hx;cases hx
    |some y=>rw [hj] at hx hv;cases hx;cases hv;exact hf y) h argTypes ty).next
   have ee:(args.toList.map a.eval).toArray=args.map a.eval:=by apply Array.ext';rw [Array.toList_map]
   rw [ee] at this
   simpa [execOp,resolve,invoke,builtin] using this
  ·rename_i l
   have:=(oI (P:=P) hs (vs:=args.toList.map a.eval) (by simp) (fun j x v hx hv=>by
    simp only [List.getElem?_map] at hx hv
    cases hj:args.toList[j]? with
    |none=>rw [hj] at hx;cases hx
    |some y=>rw [hj] at hx hv;cases hx;cases hv;exact hf y) h argTypes ty).next
   have ee:(args.toList.map a.eval).toArray=args.map a.eval:=by apply Array.ext';rw [Array.toList_map]
   rw [ee] at this
   simpa [execOp,resolve,invoke,builtin] using this
  ·cases h
end
section
variable {P:Program} {w:World} {γ:br} {H:AHeap}
theorem Fa (hs:State w γ H) {sz:Nat} {xs:List AV} {run:Result Value} {w':World} {cap:Nat} {C:Array Value} {ty:TypeId} {fr:Nat × Nat} (hos:w'.os=w.os) (htape:w'.tape=w.tape) (hout:w'.output=w.output) (hsz:w'.heap.size=w.heap.size+1) (hold:∀ b,b<w.heap.size→w'.heap[b]?=w.heap[b]?)
 (hnew:w'.heap[w.heap.size]?=some (.cells C ty fr)) (hfr:C.size≤fr.1∨fr.2=0) (hle:xs.length≤cap) (hC:cap*sz≤C.size) (hall:∀ x∈xs,x.cells.length=sz) (hr:AtR (Rel w γ H) (flat xs) C 0)
 (hrun:run=.ok (.slice (some ⟨w.heap.size,0,none⟩) xs.length cap) w') (hex:C.size=xs.length*sz) :
 Out P w γ H (.ms H.nx 0 sz xs.length) (H.push (.cells (xs.flatMap AV.cells))) run:=by
 have hfl:(flat xs).length=xs.length*sz:=cX hall
 have hlen:(xs.flatMap AV.cells).length=C.size:=by
  show (flat xs).length=_
  omega
 have he:=fh hs hos htape hout (by omega) hold (some w.heap.size) (fun b h=>by cases h;exact Nat.le_refl _) (.cells (xs.flatMap AV.cells))
 have hth:fL fr 0 C.size:=fun p p1 p2=>by rcases hfr with h|h<;>omega
 refine ⟨_,w',_,hrun,dM hs (fun b h=>by cases h;omega) he hold (.inl ⟨_,C,ty,fr,_,rfl,rfl,hnew,hlen,?_,by rw [hlen];exact hth⟩),he,?_⟩
 ·intro j hj
  obtain ⟨u,hu,hru⟩:=hr j hj
  exact ⟨u,hu,hru⟩
 ·rw [Rel]
  refine ⟨by rw [AHeap.nx_push];omega,fun sz n h=>(by rw [AHeap.get_push_new] at h;cases h),.inr ⟨w.heap.size,cap,C,ty,fr,bJ _ _ _,rfl,hle,hnew,by omega,fun p p1 p2=>hth p (by omega) (by omega)⟩⟩
theorem oQ (hs:State w γ H) {t:TypeId} {n:Nat} {parts:List (Nat × AV)} {vs:List (Nat × Value)} {r:R} (hp:RelP w γ H parts vs) (h:zje P t n parts H=some r) {m:Mark} {sz:Nat} {xs:List AV} (hv:r.v=.slice m sz xs) :
 Out P w γ H (.ms H.nx 0 sz xs.length) (H.push (.cells (xs.flatMap AV.cells))) ((Instr.buildSlice t n vs.toArray).run P w):=by
 unfold zje at h
 split at h
 ·rename_i e hd
  have hu:=cU hd
  split at h
  ·rename_i te hte
   obtain ⟨ed,einf,ez,hed,heinf,hez,rfl⟩:=bO hte
   split at h
   ·rename_i hcond
    obtain ⟨hn,hlim⟩:=hcond
    dsimp only at h hlim
    cases hr:zjf einf.size 0 parts with
    |none=>simp [hr] at h
    |some xs' =>
     simp only [hr,yag,Option.some.injEq] at h
     subst h
     cases hv
     obtain ⟨rfl,h2,h3⟩:=kU parts 0 _ hr
     obtain ⟨zero,hz1,hz2⟩:∃ zero:Array Value,(n*einf.size=0→zero=#[])∧(¬ n*einf.size=0→zero=ez.cells):=by
      by_cases h0:n*einf.size=0
      ·exact ⟨#[],fun _=>rfl,fun h=>absurd h0 h⟩
      ·exact ⟨ez.cells,fun h=>absurd h h0,fun _=>rfl⟩
     let C0:Array Value:=(Array.range (n*einf.size)).map (zero[· % zero.size]!)
     obtain ⟨D,hD,hDs,_,hDr⟩:=oo (sz:=einf.size) parts vs 0 C0 hp.1 hp.2 h2 h3 (by simp [C0,hn])
     have hDs':D.size=n*einf.size:=by rw [hDs];simp [C0]
     have hrun:(Instr.buildSlice t n vs.toArray).run P w=.ok (.slice (some ⟨w.heap.size,0,none⟩) (parts.map (·.2)).length n) (w.alloc (.cells D e)):=by
      simp only [Instr.buildSlice,Sem.run_bind,aH hu,Result.andThen_ok,cu heinf]
      rw [if_neg (by omega)]
      simp only [C0] at hD
      by_cases h0:n*einf.size=0
      ·rw [if_pos h0,← hz1 h0]
       simp only [Sem.run_bind,Sem.run_pure,Result.andThen_ok]
       rw [hD]
       simp [newRow,hn]
      ·rw [if_neg h0]
       simp only [Sem.run_bind,fI heinf hez,Sem.run_pure,Result.andThen_ok]
       rw [← hz2 h0,hD]
       simp [newRow,hn]
     exact Fa (w':=w.alloc (.cells D e)) (cap:=n) (fr:=(0,0)) hs rfl rfl rfl (by simp) (fun b hb=>dB w _ hb) (cZ w _) (.inr rfl) (by simp [hn]) (by rw [hDs'];exact Nat.le_refl _) (fun x hx=>(h2 x hx).1)
      (by simpa using hDr) hrun (by rw [hDs'];simp [hn])
   ·cases h
  ·cases h
 ·cases h
end
section
variable {P:Program} {w:World} {γ:br} {H H1:AHeap}
theorem sq (hs:State w γ H) (hl:H1.Le H) {x y:AV} {v:Value} (h:Rel w γ H x v) (hw:wk1 H H1 x y) (hlt:y.lt H1.nx):Rel w γ H1 y v:=by
 unfold wk1 at hw
 split at hw
 ·rename_i m sz xs m' sz' ys
  refine Rel.drop hl _ _ hlt ?_
  rw [Rel] at h ⊢
  rcases hw with ⟨hm,rfl,rfl⟩|⟨rfl,rfl,rfl,rfl⟩
  ·rcases h with ⟨h1,h2,h3⟩|⟨blk,off,cap,C,ty,fr,h1,h2,h3,h4,h5,h6,h7⟩
   ·refine .inl ⟨h1,h2,?_⟩
    rcases hm with rfl|rfl
    ·trivial
    ·exact h3
   ·refine .inr ⟨blk,off,cap,C,ty,fr,h1,h2,h3,h4,h5,?_,h7⟩
    rcases hm with rfl|rfl
    ·trivial
    ·exact h6
  ·rcases h with ⟨h1,h2,h3⟩|⟨blk,off,cap,C,ty,fr,h1,h2,h3,h4,h5,h6,h7⟩
   ·exact .inl ⟨h1,rfl,trivial⟩
   ·exact h6.elim
 ·rename_i id off sz len m' sz' ys
  split at hw
  ·rename_i cs hc
   obtain ⟨hmk,rfl,rfl,hnone⟩:=hw
   rw [Rel] at h
   obtain ⟨_,_,h⟩:=h
   rw [Rel]
   rcases h with ⟨rfl,h⟩|⟨blk,cap,C,ty,fr,hg,rfl,hle,hb,hcap,_⟩
   ·refine .inl ⟨h,rfl,?_⟩
    rcases hmk with rfl|⟨rfl,_⟩<;>trivial
   ·obtain ⟨ho,C',ty',fr',_,hb',hsz,hr,_⟩:=iI hs hc hg
    rw [hb] at hb';cases hb'
    have himm:∀ e,Imm γ H1 blk e:=fun e id' o ho' hg'=>by
     have:=hs.inj id' id o _ blk (hl.get _ _ ho') ho hg' hg
     subst this
     rw [hnone] at ho';cases ho'
    refine .inr ⟨blk,off,cap,C,ty,fr,by rw [dK],by rw [dK];exact hle,hb,hcap,himm _,?_,fun i hi=>?_⟩
    ·rcases hmk with rfl|⟨rfl,hk1,hk2⟩
     ·trivial
     ·rw [dK]
      show cap=len
      have:cap*sz'≤len*sz':=by omega
      have:=Nat.le_of_mul_le_mul_right this hk1
      omega
    have hlen:i<len:=by rw [dK] at hi;exact hi
    have hmul:(i+1)*sz'≤cap*sz':=Nat.mul_le_mul_right _ (by omega)
    rw [Nat.add_mul] at hmul
    rw [AV.lt] at hlt
    have hlti:=hlt.2 i hi
    have hcell:∀ j,j<sz'→∃ u,C[off+i*sz'+j]?=some u∧Rel w γ H ((cs.drop off).getD (i*sz'+j) .junk) u:=fun j hj=>by
     have hlt2:off+i*sz'+j<C.size:=by omega
     refine ⟨C[off+i*sz'+j],by simp [hlt2],?_⟩
     by_cases hin:off+(i*sz'+j)<cs.length
     ·obtain ⟨u,hu,hru⟩:=hr (off+(i*sz'+j)) hin
      have:C[off+i*sz'+j]=u:=by
       have e1:0+(off+(i*sz'+j))=off+i*sz'+j:=by omega
       rw [e1] at hu
       exact Option.some.inj ((by simp [hlt2]:some C[off+i*sz'+j]=C[off+i*sz'+j]?).trans hu)
      rw [this]
      have e2:(cs.drop off).getD (i*sz'+j) .junk=cs[off+(i*sz'+j)]:=by simp [List.getD_eq_getElem?_getD,hin]
      rw [e2];exact hru
     ·have e2:(cs.drop off).getD (i*sz'+j) .junk=.junk:=by
       rw [List.getD_eq_getElem?_getD,List.getElem?_drop,List.getElem?_eq_none (by omega)];rfl
      rw [e2,Rel];trivial
    have hget:=mB sz' len (cs.drop off) i hi
    by_cases h1:sz'=1
    ·subst h1
     rw [if_pos rfl] at hget
     rw [hget] at hlti ⊢
     refine ⟨by rw [fq];rfl,fun j hj=>?_⟩
     have hj0:j=0:=by rw [fq] at hj;simpa using hj
     subst hj0
     obtain ⟨u,hu,hru⟩:=hcell 0 (by omega)
     refine ⟨u,hu,?_⟩
     have e3:(kS ((cs.drop off).getD i .junk)).cells[0]'hj=kS ((cs.drop off).getD i .junk):=by simp only [fq,List.getElem_cons_zero]
     rw [e3]
     exact Rel.drop hl _ _ hlti (qJ (by simpa using hru))
    ·rw [if_neg h1] at hget
     rw [hget] at hlti ⊢
     refine ⟨by simp [AV.cells],fun j hj=>?_⟩
     have hj':j<sz':=by simpa [AV.cells] using hj
     obtain ⟨u,hu,hru⟩:=hcell j hj'
     refine ⟨u,hu,Rel.drop hl _ _ (AV.lt_cells hlti j hj) ?_⟩
     simpa [AV.cells] using hru
  ·exact hw.elim
 ·subst hw;exact Rel.drop hl _ _ hlt h
end
def A0 (w':World) (γ':br) (H1:AHeap):AEnd→Ending→Prop
 |.ret x,.returned v=>Rel w' γ' H1 x v
 |.panic x,.panicked chain=>∃ v,chain=[{ v,recovered:=false }]∧Rel w' γ' H1 x v
 |_,_=>False
def RelA (w:World) (γ:br) (H:AHeap) (args:List AV) (vs:Array Value):Prop :=
 vs.size=args.length∧∀ (j:Nat) (hj:j<args.length),∃ u,vs[j]?=some u∧Rel w γ H args[j] u
def UponCall (P:Program) (R:Ending→World→Prop):Result Next→Prop
 |.ok (.enter f args) w'=>Calls P f args w' R
 |.ok (.value v) w'=>R (.returned v) w'
 |_=>False
def ACalls (P:Program) (f:FuncId) (args:List AV) (H:AHeap) (e:AEnd) (H1:AHeap):Prop :=
 ∀ w γ vs,State w γ H→RelA w γ H args vs→UponCall P (R:=fun en w'=>∃ γ',State w' γ' H1∧Ext w γ H w' γ' H1∧A0 w' γ' H1 e en) ((callFunc f vs).run P w)
def ACallsP (P:Program) (f:FuncId) (args:List AV) (H:AHeap) (Q:AV→AHeap→Prop):Prop :=
 ∀ w γ vs,State w γ H→RelA w γ H args vs→UponCall P (R:=fun en w'=>∃ γ' x H1,Q x H1∧State w' γ' H1∧Ext w γ H w' γ' H1∧A0 w' γ' H1 (.ret x) en) ((callFunc f vs).run P w)
def EntOk (P:Program) (f:FuncId) (e:Ent):Prop :=
 (e.eff=false→∀ args H K,e.p args H K→∃ x,K x∧ACalls P f args H (.ret x) H) ∧
 (e.eff=true→∀ args H K,e.e args H K→∃ x H1,K x H1∧ACalls P f args H x H1) ∧
 (∀ q,e.s=some q→∀ args H K,q args H K→ACallsP P f args H K)
def TblOk (P:Program) (Ω:Tbl):Prop:=∀ f e,mT Ω f=some e→EntOk P f e
def SimF (w:World) (γ:br) (H:AHeap) (f:Nat→AV) (a:Act):Prop:=∀ t,Rel w γ H (f t) (a.tmps.getD t undef)
theorem SimF.ext {w w':World} {γ γ':br} {H H':AHeap} {f:Nat→AV} {a:Act} (h:SimF w γ H f a) (he:Ext w γ H w' γ' H'):SimF w' γ' H' f a:=fun t=>(h t).ext he
theorem SimF.eval {w:World} {γ:br} {H:AHeap} {f:Nat→AV} {a:Act} (h:SimF w γ H f a) (x:Operand):Rel w γ H (evF f x) (a.eval x):=by
 cases x with
 |tmp t=>exact h t
 |const v=>exact fR v
 |global g=>simp only [evF];rw [Rel];trivial
 |func f =>
  simp only [evF,Act.eval]
  rw [Rel]
  exact ⟨#[],#[],rfl,rfl,rfl,fun j hj=>absurd hj (by simp),fun j hj=>absurd hj (by simp)⟩
inductive ST (P:Program) (o:Oper) (f:Nat→AV) (H:AHeap):AEnd→AHeap→Prop where
 |res (r:R) (h:fT P o (evF f) H=some r) (hc:r.c):ST P o f H (.ret r.v) r.H
 |call (c:Call) (g:Operand) (k:FuncId) (first cap:List AV) (e:AEnd) (H':AHeap) (h1:o.op=.call c) (h2:c.callee=.value g) (h3:evF f g=.func (.func k) first cap)
   (h:ACalls P k (first++c.args.toList.map (evF f)++cap) H e H'):ST P o f H e H'
 |inv (c:Call) (g:Operand) (name:String) (t:TypeId) (v:AV) (k:FuncId) (e:AEnd) (H':AHeap) (h1:o.op=.call c) (h2:c.callee=.invoke g name) (h3:evF f g=.iface t v) (hm:mth P t name=some k)
   (h:ACalls P k (v::c.args.toList.map (evF f)) H e H'):ST P o f H e H'
 |lit (t:TypeId) (n:Nat) (ps:Array (Nat × Operand)) (r:R) (m:Mark) (sz:Nat) (xs:List AV) (h1:o.op=.buildSlice t n ps) (h:fT P o (evF f) H=some r) (hv:r.v=.slice m sz xs) :
   ST P o f H (.ret (.ms H.nx 0 sz xs.length)) (H.push (.cells (xs.flatMap AV.cells)))
 |frz (t:TypeId) (n:Nat) (ps:Array (Nat × Operand)) (c:Prop) (m:Mark) (sz:Nat) (xs:List AV) (G:AHeap) (h1:o.op=.buildSlice t n ps) (h:fT P o (evF f) H=some ⟨c,.slice m sz xs,G⟩) (hc:c)
   (b:Bool):ST P o f H (.ret (.slice (EP b) sz xs)) H
 |frm (t:TypeId) (l c:Operand) (p:Prop) (sz n:Nat) (cs:List AV) (h1:o.op=.makeSlice t l c) (h:fT P o (evF f) H=some ⟨p,.ms H.nx 0 sz n,H.push (.cells cs)⟩) (hc:p) (hlt:∀ x∈bK sz n cs,x.lt 0) :
   ST P o f H (.ret (.slice .any sz (bK sz n cs))) H
 |app (args:Array Operand) (argTypes:Array TypeId) (t t2:TypeId) (tl:List TypeId) (sz:Nat) (x:AV) (r:R) (i sz':Nat) (xs:List AV) (h1:o.op=.call { callee:=.builtin .append,args,argTypes })
   (h2:argTypes.toList=t::t2::tl) (h3:args.toList.map (evF f)=[.slice .full sz [],x]) (h:zjv P t t2 sz [] x H=some r) (hc:r.c) (hv:r.v=.slice (.own i) sz' xs) (hne:xs≠[])
   (hlt:∀ y∈xs.flatMap AV.cells,y.lt 0):ST P o f H (.ret (.ms H.nx 0 sz' xs.length)) (H.push (.part (xs.flatMap AV.cells)))
 |panic (x:Operand) (t:TypeId) (v:AV) (h1:o.op=.panic x) (h2:evF f x=.iface t v):ST P o f H (.panic (.iface t v)) H
section
variable {P:Program} {w:World} {γ:br} {H:AHeap}
theorem RelA.of {l:List AV} {vs:List Value} (hl:vs.length=l.length) (h:∀ (j:Nat) x v,l[j]?=some x→vs[j]?=some v→Rel w γ H x v):RelA w γ H l vs.toArray:=by
 refine ⟨by simp [hl],fun j hj=>?_⟩
 have h1:j<vs.length:=by omega
 exact ⟨vs[j],by simp [h1],h j _ _ (by simp [hj]) (by simp [h1])⟩
theorem RelA.append {l m:List AV} {vs us:Array Value} (h:RelA w γ H l vs) (k:RelA w γ H m us):RelA w γ H (l++m) (vs++us):=by
 refine ⟨by simp [h.1,k.1],fun j hj=>?_⟩
 by_cases hlt:j<l.length
 ·obtain ⟨u,h1,h2⟩:=h.2 j hlt
  refine ⟨u,?_,by rw [List.getElem_append_left hlt];exact h2⟩
  rw [Array.getElem?_append_left (by rw [h.1];exact hlt)];exact h1
 ·have hge:l.length≤j:=by omega
  obtain ⟨u,h1,h2⟩:=k.2 (j - l.length) (by simp at hj;omega)
  refine ⟨u,?_,by rw [List.getElem_append_right hge];exact h2⟩
  rw [Array.getElem?_append_right (by rw [h.1];exact hge),h.1];exact h1
theorem RelA.map {e:Operand→AV} {a:Act} (hf:∀ x,Rel w γ H (e x) (a.eval x)) (args:Array Operand):RelA w γ H (args.toList.map e) (args.map a.eval):=by
 refine ⟨by simp,fun j hj=>?_⟩
 simp at hj
 exact ⟨a.eval args[j],by simp [hj],by simpa using hf _⟩
theorem vY {sz:Nat}:∀ {k:Nat} {l:List (Nat × AV)} {xs:List AV},zjf sz k l=some xs→∀ x∈xs,∃ p∈l,p.2=x
 |_,[],xs,h,x,hx=>by cases h;cases hx
 |k,(i,v)::l,xs,h,x,hx=>by
  unfold zjf at h
  split at h
  ·cases hr:zjf sz (k+1) l with
   |none=>rw [hr] at h;cases h
   |some ys =>
    rw [hr] at h;cases h
    rcases List.mem_cons.1 hx with rfl|hx
    ·exact ⟨_,List.mem_cons_self,rfl⟩
    ·obtain ⟨p,hp,e⟩:=vY hr x hx;exact ⟨p,List.mem_cons_of_mem _ hp,e⟩
  ·cases h
theorem mO {t:TypeId} {n:Nat} {l:List (Nat × AV)} {c:Prop} {m:Mark} {sz:Nat} {xs:List AV} {H G:AHeap} (h:zje P t n l H=some ⟨c,.slice m sz xs,G⟩) :
 H.Le G∧(∀ x∈xs,∃ p∈l,p.2=x)∧∀ H':AHeap,∃ m' G',zje P t n l H'=some ⟨c,.slice m' sz xs,G'⟩:=by
 unfold zje at h ⊢
 split at h
 ·rename_i e he
  split at h
  ·rename_i te hte
   split at h
   ·rename_i hc
    cases hr:zjf te.size 0 l with
    |none=>rw [hr] at h;cases h
    |some ys =>
     rw [hr] at h;cases h
     refine ⟨(AHeap.Le.refl H).push _,vY hr,fun H'=>⟨.own H'.nx,H'.push (.buf te.size n),?_⟩⟩
     rw [if_pos hc];rfl
   ·cases h
  ·cases h
 ·cases h
theorem Ext.drop0 {w w':World} {γ γ':br} {H0 H H':AHeap} (h:Ext w γ H0 w' γ' H) (hl:H'.Le H) (hn:H0.nx≤H'.nx):Ext w γ H0 w' γ' H' where
 os:=h.os
 tape:=h.tape
 output:=h.output
 size:=h.size
 nx:=hn
 block:=h.block
 imm:=fun b e hb hi=>(h.imm b e hb hi).drop hl
 un:=h.un
 none:=fun id hid hn=>by
  obtain ⟨h1,h2⟩:=h.none id hid hn
  refine ⟨?_,h2⟩
  cases hg:H'.get id with
  |none=>rfl
  |some o=>have:=hl.get _ _ hg;rw [h1] at this;cases this
 keep:=fun id o ho hb=>⟨(h.keep id o ho hb).1,(h.keep id o ho hb).2.drop hl⟩
 bufs:=fun id sz n ho sz' n' h'=>h.bufs id sz n ho sz' n' (hl.get _ _ h')
 bufk:=fun id sz n ho o h'=>h.bufk id sz n ho o (hl.get _ _ h')
theorem Rel.unmark {w:World} {γ:br} {G H:AHeap} (hl:H.Le G) {m:Mark} {sz:Nat} {xs:List AV} {v:Value} (h:Rel w γ G (.slice m sz xs) v) (hx:∀ x∈xs,x.lt H.nx):Rel w γ H (.slice .any sz xs) v:=by
 refine Rel.drop hl _ _ ?_ ?_
 ·rw [AV.lt];exact ⟨fun id h=>(by cases h),fun j hj=>hx _ (List.getElem_mem hj)⟩
 ·rw [Rel] at h ⊢
  rcases h with ⟨h1,h2,h3⟩|⟨blk,off,cap,C,ty,fr,h1,h2,h3,h4,h5,h6,h7⟩
  ·exact .inl ⟨h1,h2,trivial⟩
  ·exact .inr ⟨blk,off,cap,C,ty,fr,h1,h2,h3,h4,h5,trivial,h7⟩
def tM (w:World) (γ:br) (H:AHeap) (sz:Nat) (xs:List AV) (run:Result Value):Prop :=
 ∃ (w':World) (cap:Nat) (C:Array Value) (ty:TypeId) (fr:Nat × Nat),w'.os=w.os∧w'.tape=w.tape∧w'.output=w.output∧w'.heap.size=w.heap.size+1∧(∀ b,b<w.heap.size→w'.heap[b]?=w.heap[b]?) ∧
  w'.heap[w.heap.size]?=some (.cells C ty fr)∧(C.size≤fr.1∨fr.2=0)∧xs.length≤cap∧cap*sz≤C.size∧(∀ x∈xs,x.cells.length=sz)∧AtR (Rel w γ H) (flat xs) C 0 ∧
  run=.ok (.slice (some ⟨w.heap.size,0,none⟩) xs.length cap) w'
theorem AE (hs:State w γ H) {sz:Nat} {xs:List AV} {run:Result Value} (h:tM w γ H sz xs run) :
 ∃ k v w' γ',run=.ok v w'∧State w' γ' (H.push (.cells (xs.flatMap AV.cells++List.replicate k .junk)))∧Ext w γ H w' γ' (H.push (.cells (xs.flatMap AV.cells++List.replicate k .junk))) ∧
  Rel w' γ' (H.push (.cells (xs.flatMap AV.cells++List.replicate k .junk))) (.ms H.nx 0 sz xs.length) v:=by
 obtain ⟨w',cap,C,ty,fr,hos,htape,hout,hsz,hold,hnew,hfr,hle,hC,hall,hr,hrun⟩:=h
 have hfl:(flat xs).length=xs.length*sz:=cX hall
 have hm:xs.length*sz≤cap*sz:=Nat.mul_le_mul_right _ hle
 have hlen:(xs.flatMap AV.cells++List.replicate (C.size - xs.length*sz) AV.junk).length=C.size:=by
  rw [List.length_append,List.length_replicate]
  show (flat xs).length+_=_
  omega
 have he:=fh hs hos htape hout (by omega) hold (some w.heap.size) (fun b h=>by cases h;exact Nat.le_refl _) (.cells (xs.flatMap AV.cells++List.replicate (C.size - xs.length*sz) .junk))
 have hth:fL fr 0 C.size:=fun p p1 p2=>by rcases hfr with h|h<;>omega
 refine ⟨C.size - xs.length*sz,_,w',_,hrun,dM hs (fun b h=>by cases h;omega) he hold (.inl ⟨_,C,ty,fr,_,rfl,rfl,hnew,hlen,?_,by rw [hlen];exact hth⟩),he,?_⟩
 ·intro j hj
  by_cases hjf:j<(flat xs).length
  ·obtain ⟨u,hu,hru⟩:=hr j hjf
   refine ⟨u,hu,?_⟩
   have e:(xs.flatMap AV.cells++List.replicate (C.size - xs.length*sz) AV.junk)[j]=(flat xs)[j]:=List.getElem_append_left hjf
   rw [e];exact hru
  ·have hjC:j<C.size:=by rw [← hlen];exact hj
   refine ⟨C[j],by simp [hjC],?_⟩
   rw [List.getElem_append_right (by simpa [flat] using hjf),List.getElem_replicate,Rel];trivial
 ·rw [Rel]
  refine ⟨by rw [AHeap.nx_push];omega,fun sz n h=>(by rw [AHeap.get_push_new] at h;cases h),.inr ⟨w.heap.size,cap,C,ty,fr,bJ _ _ _,rfl,hle,hnew,by omega,fun p p1 p2=>hth p (by omega) (by omega)⟩⟩
theorem uM {src dst:TypeId} {s:List UInt8} {r:R} (h:zjo P src dst (.str s) H=some r) {m:Mark} {sz:Nat} {xs:List AV} (hv:r.v=.slice m sz xs) :
 tM w γ H sz xs ((convert src dst (.string ⟨s.toArray⟩)).run P w):=by
 unfold zjo at h
 split at h
 ·cases h;cases hv
 ·cases h;cases hv
 ·rename_i e s' hsd hdd heq
  cases heq
  have hu1:=iG hsd
  have hu2:=cU hdd
  split at h<;>cases h
  cases hv
  rename_i bt hte
  have hed:P.underlying e=some (.int .u8):=rp (by rw [hte];rfl)
  have hrun:=run_bytes_of_string (P:=P) w src dst e ⟨s.toArray⟩ hu1 hu2 hed
  rw [nM] at hrun
  have hn:s.length≤grownCap w s.length 0 e:=grownCap_ge _ _ _ _
  have hlen:(s.map aL).length=s.length:=by simp
  have hsz:(bytesRow ⟨s.toArray⟩ (grownCap w s.length 0 e)).size=grownCap w s.length 0 e:=by
   simp [bytesRow,ByteArray.size,-ByteArray.size_data];omega
  rw [← hlen] at hrun
  exact ⟨w.drew.alloc _,_,_,_,_,rfl,rfl,rfl,by simp,fun b hb=>dB w.drew _ hb,cZ w.drew _,.inl (Nat.le_refl _),
   by rw [hlen];exact hn,by rw [hlen,hsz];omega,by simp [aL,AV.cells],by rw [nL];exact rH _ _,hrun⟩
 ·rename_i heq;cases heq
 ·cases h
theorem pG (hs:State w γ H) {t t2:TypeId} {sz:Nat} {x:AV} {vs vx:Value} {r:R} (hsr:Rel w γ H (.slice .full sz []) vs) (hx:Rel w γ H x vx) (h:zjv P t t2 sz [] x H=some r) (hc:r.c)
 {id sz':Nat} {xs:List AV} (hv:r.v=.slice (.own id) sz' xs) (hne:xs≠[]) (ts:Array TypeId) (h0:ts[0]?=some t) (h1:ts[1]?=some t2) (ty:TypeId):tM w γ H sz' xs ((Builtin.append_ ts ty #[vs,vx]).run P w):=by
 obtain ⟨a,rfl⟩:∃ a,vs=.slice a 0 0:=by
  rcases rel_slice.1 hsr with ⟨⟨a,rfl⟩,_,_⟩|⟨blk,off,cap,C,ty',fr,rfl,hle,hb,_,_,hm,_⟩
  ·exact ⟨a,rfl⟩
  ·have hm':cap=0:=hm
   subst hm';exact ⟨_,rfl⟩
 unfold zjv at h
 split at h
 ·rename_i ht2
  split at h
  ·rename_i e hd
   split at h
   ·rename_i te hte
    split at h
    ·rename_i hcond
     split at h
     ·rename_i zs hadd
      cases h
      obtain ⟨hpos,hzl,hsz⟩:=hcond
      obtain ⟨hbytes,hmax,hone⟩:=hc
      dsimp only at hv
      simp only [yak] at hv
      injection hv with _ q2 q3
      subst q2 q3
      have hu:=cU hd
      obtain ⟨ed,einf,ez,hed,heinf,hez,rfl⟩:=bO hte
      obtain ⟨d2,hu2,hd2⟩:∃ d2,P.underlying t2=some d2∧(d2=.string∨∃ e2,d2=.slice e2):=by
       unfold yI at ht2
       split at ht2
       ·rename_i a ha;exact ⟨_,cU ha,.inr ⟨_,rfl⟩⟩
       ·rename_i ha;exact ⟨_,iG ha,.inl rfl⟩
       ·cases ht2
      obtain ⟨us,a1,a2,a3,a4,a5,a6,a7⟩:=i8 (P:=P) hs hte hx hadd hone
      dsimp only at a2 a3 a4 a5 hbytes hsz
      have hpl:0<zs.length:=List.length_pos_iff.2 hne
      have hold:(Builtin.firstCells einf.size 0 (.slice a 0 0)).run P w.drew=.ok #[] w.drew:=by
       cases a<;>simp [Builtin.firstCells,loadCells,loadCellsFrom]
      have hrun:=iT (P:=P) (ty:=ty) h0 h1 hu hu2 hd2 heinf a1 a4 (base:=a) (sLen:=0) (sCap:=0) (by omega) (by simpa using hbytes) (by simp at hmax;omega) hold hez
      simp only [Nat.zero_add] at hrun
      have hezc:ez.cells.size=einf.size:=by
       obtain ⟨z1,_⟩:=dZ (w:=w) (γ:=γ) (H:=H) ez
       rw [z1];exact hzl
      refine ⟨w.drew.alloc _,_,_,_,(0,0),rfl,rfl,rfl,by simp,fun b hb=>dB w.drew _ hb,cZ w.drew _,.inr rfl,grownCap_ge _ _ _ _,?_,a2,?_,hrun⟩
      ·have hge:=grownCap_ge w zs.length 0 e
       simp only [Array.size_append,size_zeroCells,a5,hezc,List.size_toArray,yba,Nat.zero_add,← Nat.add_mul]
       exact Nat.mul_le_mul_right _ (by omega)
      ·intro j hj
       have l2:(flat zs).length=us.size:=by rw [cX a2,a5]
       obtain ⟨u,hu,hr⟩:=a6 j hj
       refine ⟨u,?_,hr⟩
       rw [Array.append_assoc,Array.getElem?_append_right (by simp),Array.getElem?_append_left (by simp;omega),← hu]
       congr 1
     ·cases h
    ·cases h
   ·cases h
  ·cases h
 ·cases h
theorem mN (hs:State w γ H) {t:TypeId} {n:Nat} {parts:List (Nat × AV)} {vs:List (Nat × Value)} {r:R} (hp:RelP w γ H parts vs) (h:zje P t n parts H=some r) {m:Mark} {sz:Nat} {xs:List AV} (hv:r.v=.slice m sz xs) :
 Out P w γ H (.slice .full sz xs) H ((Instr.buildSlice t n vs.toArray).run P w):=by
 unfold zje at h
 split at h
 ·rename_i e hd
  have hu:=cU hd
  split at h
  ·rename_i te hte
   obtain ⟨ed,einf,ez,hed,heinf,hez,rfl⟩:=bO hte
   split at h
   ·rename_i hcond
    obtain ⟨hn,hlim⟩:=hcond
    dsimp only at h hlim
    cases hr:zjf einf.size 0 parts with
    |none=>simp [hr] at h
    |some xs' =>
     simp only [hr,yag,Option.some.injEq] at h
     subst h
     cases hv
     obtain ⟨rfl,h2,h3⟩:=kU parts 0 _ hr
     obtain ⟨zero,hz1,hz2⟩:∃ zero:Array Value,(n*einf.size=0→zero=#[])∧(¬ n*einf.size=0→zero=ez.cells):=by
      by_cases h0:n*einf.size=0
      ·exact ⟨#[],fun _=>rfl,fun h=>absurd h0 h⟩
      ·exact ⟨ez.cells,fun h=>absurd h h0,fun _=>rfl⟩
     let C0:Array Value:=(Array.range (n*einf.size)).map (zero[· % zero.size]!)
     obtain ⟨D,hD,hDs,_,hDr⟩:=oo (sz:=einf.size) parts vs 0 C0 hp.1 hp.2 h2 h3 (by simp [C0,hn])
     have hDs':D.size=n*einf.size:=by rw [hDs];simp [C0]
     have hrun:(Instr.buildSlice t n vs.toArray).run P w=.ok (.slice (some ⟨w.heap.size,0,none⟩) (parts.map (·.2)).length n) (w.alloc (.cells D e)):=by
      simp only [Instr.buildSlice,Sem.run_bind,aH hu,Result.andThen_ok,cu heinf]
      rw [if_neg (by omega)]
      simp only [C0] at hD
      by_cases h0:n*einf.size=0
      ·rw [if_pos h0,← hz1 h0]
       simp only [Sem.run_bind,Sem.run_pure,Result.andThen_ok]
       rw [hD]
       simp [newRow,hn]
      ·rw [if_neg h0]
       simp only [Sem.run_bind,fI heinf hez,Sem.run_pure,Result.andThen_ok]
       rw [← hz2 h0,hD]
       simp [newRow,hn]
     have he:=fh hs (w':=w.alloc (.cells D e)) rfl rfl rfl (by simp) (fun b hb=>dB w _ hb) none (fun b h=>by cases h) (.buf 1 0)
     have hst:=dM hs (w':=w.alloc (.cells D e)) (fun b h=>by cases h) he (fun b hb=>dB w _ hb) (.inr (.inl ⟨_,_,rfl⟩))
     have hle:H.Le (H.push (.buf 1 0)):=(AHeap.Le.refl H).push _
     refine ⟨_,_,_,hrun,hst.drop hle hs.closed,he.drop0 hle (Nat.le_refl _),?_⟩
     refine rel_slice.2 (.inr ⟨w.heap.size,0,n,D,e,(0,0),rfl,by simp [hn],cZ w _,by rw [hDs'];omega,?_,by show n=_;simp [hn],fun x hx=>(h2 x hx).1,?_⟩)
     ·intro id o ho hg
      rw [bL _ _ _ _ (by have:=AHeap.get_lt ho;omega)] at hg
      have:=hs.lt ho hg;omega
     ·refine AtR.mono (fun x v hr=>?_) (by simpa using hDr)
      have:=hr.ext he
      exact Rel.drop hle _ _ (Rel.lt _ _ hr) this
   ·cases h
  ·cases h
 ·cases h
theorem Ek (hs:State w γ H) {sz:Nat} {xs:List AV} {run:Result Value} (h:tM w γ H sz xs run) (h0:∀ x∈xs.flatMap AV.cells,x.lt 0) :
 Out P w γ H (.ms H.nx 0 sz xs.length) (H.push (.part (xs.flatMap AV.cells))) run:=by
 obtain ⟨w',cap,C,ty,fr,hos,htape,hout,hsz,hold,hnew,hfr,hle,hC,hall,hr,hrun⟩:=h
 have hfl:(flat xs).length=xs.length*sz:=cX hall
 have hm:xs.length*sz≤cap*sz:=Nat.mul_le_mul_right _ hle
 have he:=fh hs hos htape hout (by omega) hold (some w.heap.size) (fun b h=>by cases h;exact Nat.le_refl _) (.part (xs.flatMap AV.cells))
 have hth:fL fr 0 C.size:=fun p p1 p2=>by rcases hfr with h|h<;>omega
 refine ⟨_,w',_,hrun,dM hs (fun b h=>by cases h;omega) he hold (.inr (.inr (.inl ⟨_,C,ty,fr,_,rfl,rfl,hnew,?_,hr,hth,h0⟩))),he,?_⟩
 ·show (flat xs).length≤_
  omega
 ·rw [Rel]
  refine ⟨by rw [AHeap.nx_push];omega,fun sz n h=>(by rw [AHeap.get_push_new] at h;cases h),.inr ⟨w.heap.size,cap,C,ty,fr,bJ _ _ _,rfl,hle,hnew,by omega,fun p p1 p2=>hth p (by omega) (by omega)⟩⟩
theorem zo {t:TypeId} {name:String} {k:FuncId} (hm:mth P t name=some k) (n:Nat) (u:Value):(method (n+1) t u name).run P w=.ok (k,u) w:=by
 unfold mth at hm
 split at hm
 ·cases hm
 ·rename_i i hi
  split at hm
  ·cases hm
  ·rename_i m hf
   split at hm
   ·rename_i f d hp hfn hu
    have key:(∀ e,d≠.pointer e)→some f=some k→(method (n+1) t u name).run P w=.ok (k,u) w:=by
     intro hd hk
     cases hk
     have hr : (receiverAt t (.val u) false (if m.path.isEmpty then some ((name.splitOn ".").getLastD name) else none)).run P w = .ok u w := by
      unfold receiverAt
      rw [Sem.run_bind,aH hu]
      simp only [Result.andThen_ok]
      cases d<;>first|(simp [Place.get];done)|exact absurd rfl (hd _)
     unfold method
     rw [Sem.run_bind,ib hi]
     simp only [Result.andThen_ok]
     rw [hf]
     simp only [hp,follow,hfn,Sem.run_bind,Sem.run_pure,Result.andThen_ok,hr]
    split at hm
    ·cases hm
    ·rename_i hnp
     exact key (fun e he=>hnp e he) hm
   ·cases hm
theorem AX (hs:State w γ H) {o:Oper} {f:Nat→AV} {c:Call} {g:Operand} {name:String} {t:TypeId} {v:AV} {k:FuncId} (h1:o.op=.call c) (h2:c.callee=.invoke g name) (h3:evF f g=.iface t v) (hm:mth P t name=some k) {a:Act} (hf:SimF w γ H f a) :
 ∃ vs,RelA w γ H (v::c.args.toList.map (evF f)) vs∧(execOp a.eval o).run P w=(callFunc k vs).run P w:=by
 have hg:=hf.eval g
 rw [h3,Rel] at hg
 obtain ⟨u,hu,hru⟩:=hg
 refine ⟨#[u]++c.args.map a.eval,?_,?_⟩
 ·have h0:RelA w γ H [v] #[u]:=⟨rfl,fun j hj=>by
   have:j=0:=by simpa using hj
   subst this
   exact ⟨u,rfl,hru⟩⟩
  exact RelA.append h0 (RelA.map (fun x=>hf.eval x) c.args)
 ·obtain ⟨dst,op,ty,pos,after,guard⟩:=o
  obtain ⟨callee,args,argTypes⟩:=c
  dsimp only at h1 h2
  subst h1;subst h2
  have hd:0<Made.depth:=by decide
  have hM:∃ n,P.types.size+Made.depth=n+1:=⟨P.types.size+Made.depth - 1,by omega⟩
  obtain ⟨n,hn⟩:=hM
  have e0:(#[Value.iface t u]++args.map a.eval)[0]?=some (.iface t u):=by simp [Array.getElem?_append]
  have e1:(args.map a.eval).extract 0 args.size=args.map a.eval:=by simp
  simp [execOp,resolve,invoke,hu,callMethod]
  rw [e0]
  simp [hn,zo hm,e1]
theorem vR {k:FuncId} {args:List AV} {vs:Array Value} {e:AEnd} {H':AHeap} (h:ACalls P k args H e H') (hs:State w γ H) (hA:RelA w γ H args vs) {o:Oper} {a:Act} {K:Act→World→Prop} {Q:Exit→Act→World→Prop} (hrun:(execOp a.eval o).run P w=(callFunc k vs).run P w)
 (hK:∀ x v w' γ',e=.ret x→State w' γ' H'→Ext w γ H w' γ' H'→Rel w' γ' H' x v→K (a.put o.dst v) w')
 (hp:∀ x v w' γ',e=.panic x→State w' γ' H'→Ext w γ H w' γ' H'→Rel w' γ' H' x v→Q (.panic [{ v,recovered:=false }]) a w'):o.wp P a w K Q:=by
 have hcall:=h w γ _ hs hA
 unfold Oper.wp
 rw [hrun]
 generalize (callFunc k vs).run P w=rr at hcall ⊢
 unfold UponCall at hcall
 split at hcall
 ·rw [Oper.upon_enter]
  refine hcall.mono fun en w' hen=>?_
  obtain ⟨γ',g1,g2,g3⟩:=hen
  cases e with
  |ret x =>
   cases en with
   |returned v=>exact hK x v w' γ' rfl g1 g2 g3
   |panicked ch=>exact g3.elim
   |outgrown=>exact g3.elim
  |panic x =>
   cases en with
   |returned v=>exact g3.elim
   |panicked ch=>obtain ⟨v,rfl,g4⟩:=g3;exact hp x v w' γ' rfl g1 g2 g4
   |outgrown=>exact g3.elim
 ·rw [Oper.upon_value]
  obtain ⟨γ',g1,g2,g3⟩:=hcall
  cases e with
  |ret x=>exact hK x _ _ γ' rfl g1 g2 g3
  |panic x=>exact g3.elim
 ·exact hcall.elim
theorem ST.sound {o:Oper} {f:Nat→AV} {e:AEnd} {H':AHeap} (h:ST P o f H e H') (hs:State w γ H) {a:Act} (hf:SimF w γ H f a) {K:Act→World→Prop} {Q:Exit→Act→World→Prop}
 (hK:∀ x v w' γ',e=.ret x→State w' γ' H'→Ext w γ H w' γ' H'→Rel w' γ' H' x v→K (a.put o.dst v) w')
 (hp:∀ x v w' γ',e=.panic x→State w' γ' H'→Ext w γ H w' γ' H'→Rel w' γ' H' x v→Q (.panic [{ v,recovered:=false }]) a w'):o.wp P a w K Q:=by
 cases h with
 |res r h hc =>
  obtain ⟨v,w',γ',h1,h2,h3,h4⟩:=nc hs (fun x=>hf.eval x) h hc
  unfold Oper.wp
  rcases h1 with h1|⟨h1,rfl⟩
  ·rw [h1];exact hK _ v w' γ' rfl h2 h3 h4
  ·rw [h1];exact hK _ undef w' γ' rfl h2 h3 h4
 |call c g k first cap e H' h1 h2 h3 h =>
  have hg:=hf.eval g
  rw [h3,Rel] at hg
  obtain ⟨F,C,hv,s1,s2,hF,hC⟩:=hg
  have hA:RelA w γ H (first++c.args.toList.map (evF f)++cap) (F++c.args.map a.eval++C) :=
   RelA.append (RelA.append ⟨s1,hF⟩ (RelA.map (fun x=>hf.eval x) c.args)) ⟨s2,hC⟩
  have hrun:(execOp a.eval o).run P w=(callFunc k (F++c.args.map a.eval++C)).run P w:=by
   obtain ⟨dst,op,ty,pos,after,guard⟩:=o
   obtain ⟨callee,args,argTypes⟩:=c
   dsimp only at h1 h2
   subst h1;subst h2
   simp [execOp,resolve,invoke,hv,Deferred.ofValue]
  exact vR h hs hA hrun hK hp
 |inv c g name t v k e H' h1 h2 h3 hm h =>
  obtain ⟨vs,hA,hrun⟩:=AX hs h1 h2 h3 hm hf
  exact vR h hs hA hrun hK hp
 |app args argTypes t t2 tl sz x r i sz' xs h1 h2 h3 h hc hv hne hlt =>
  obtain ⟨dst,op,ty,pos,after,guard⟩:=o
  dsimp only at h1
  subst h1
  have e1:argTypes[0]?=some t:=by rw [← Array.getElem?_toList,h2];rfl
  have e1':argTypes[1]?=some t2:=by rw [← Array.getElem?_toList,h2];rfl
  obtain ⟨x0,x1,e2⟩:∃ x0 x1,args=#[x0,x1]:=by
   have:args.toList.length=2:=by have:=congrArg List.length h3;simpa using this
   match args,this with
   |⟨[x0,x1]⟩,_=>exact ⟨x0,x1,rfl⟩
  subst e2
  simp only [yae,yaf,List.cons.injEq,and_true] at h3
  obtain ⟨e3,rfl⟩:=h3
  have hs0:=hf.eval x0
  rw [e3] at hs0
  obtain ⟨v,w',γ',hr,g1,g2,g3⟩:=Ek (P:=P) hs (pG hs hs0 (hf.eval x1) h hc hv hne argTypes e1 e1' ty) hlt
  have he:(execOp a.eval ⟨dst,.call { callee:=.builtin .append,args:=#[x0,x1],argTypes:=argTypes },ty,pos,after,guard⟩).run P w=((Builtin.append_ argTypes ty #[a.eval x0,a.eval x1]).run P w).andThen (fun v w'=>.ok (.value v) w'):=by
   simp [execOp,resolve,invoke,builtin]
  unfold Oper.wp
  rw [he,hr]
  exact hK _ v w' γ' rfl g1 g2 g3
 |frz t n ps c m sz xs G h1 h hc b =>
  cases b
  case true =>
   obtain ⟨dst,op,ty,pos,after,guard⟩:=o
   dsimp only at h1
   subst h1
   obtain ⟨v,w',γ',hr,g1,g2,g3⟩:=mN hs (RelP.map (e:=evF f) (a:=a) (fun x=>hf.eval x) ps) h rfl
   have he:(execOp a.eval ⟨dst,.buildSlice t n ps,ty,pos,after,guard⟩).run P w=.ok (.value v) w':=by
    simp only [execOp,Sem.run_bind]
    rw [Array.toArray_toList] at hr
    rw [show (Sem.run P (Instr.buildSlice t n (ps.map fun x=>(x.1,a.eval x.2))) w)=.ok v w' from hr]
    rfl
   unfold Oper.wp
   rw [he]
   exact hK _ v w' γ' rfl g1 g2 g3
  obtain ⟨v,w',γ',g1,g2,g3,g4⟩:=nc hs (fun x=>hf.eval x) h hc
  have hb:zje P t n (ps.toList.map fun p=>(p.1,evF f p.2)) H=some ⟨c,.slice m sz xs,G⟩:=by
   have h':=h
   unfold fT at h'
   rw [h1] at h'
   exact h'
  obtain ⟨hle,hmem,_⟩:=mO hb
  have hlt:∀ x∈xs,x.lt H.nx:=fun x hx=>by
   obtain ⟨p,hp,rfl⟩:=hmem x hx
   obtain ⟨q,_,rfl⟩:=List.mem_map.1 hp
   exact Rel.lt _ _ (hf.eval q.2)
  have k2:=State.drop hle hs.closed g2
  have k3:=g3.drop0 hle (Nat.le_refl _)
  have k4:=Rel.unmark hle g4 hlt
  unfold Oper.wp
  rcases g1 with g1|⟨g1,rfl⟩
  ·rw [g1];exact hK _ v w' γ' rfl k2 k3 k4
  ·rw [g1];exact hK _ undef w' γ' rfl k2 k3 k4
 |frm t l c p sz n cs h1 h hc hlt =>
  obtain ⟨v,w',γ',g1,g2,g3,g4⟩:=nc hs (fun x=>hf.eval x) h hc
  have hle:H.Le (H.push (.cells cs)):=(AHeap.Le.refl H).push _
  have k2:=State.drop hle hs.closed g2
  have k3:=g3.drop0 hle (Nat.le_refl _)
  have hcs:ai (H.push (.cells cs)) H.nx=some cs:=by unfold ai;rw [AHeap.get_push_new]
  have hno:H.get H.nx=none:=by unfold AHeap.get;rw [if_neg (by omega)]
  have k4:Rel w' γ' H (.slice .any sz (bK sz n cs)) v:=by
   refine sq g2 hle g4 ?_ ?_
   ·simp only [wk1,hcs,yap]
    exact ⟨.inl trivial,trivial,trivial,hno⟩
   ·rw [AV.lt]
    exact ⟨fun id e=>(by cases e),fun j hj=>AV.lt_mono (Nat.zero_le _) _ (hlt _ (List.getElem_mem hj))⟩
  unfold Oper.wp
  rcases g1 with g1|⟨g1,rfl⟩
  ·rw [g1];exact hK _ v w' γ' rfl k2 k3 k4
  ·rw [g1];exact hK _ undef w' γ' rfl k2 k3 k4
 |lit t n ps r m sz xs h1 h hv =>
  obtain ⟨dst,op,ty,pos,after,guard⟩:=o
  dsimp only at h1
  subst h1
  obtain ⟨v,w',γ',hr,g1,g2,g3⟩:=oQ hs (RelP.map (e:=evF f) (a:=a) (fun x=>hf.eval x) ps) h hv
  have he:(execOp a.eval ⟨dst,.buildSlice t n ps,ty,pos,after,guard⟩).run P w=.ok (.value v) w':=by
   simp only [execOp,Sem.run_bind]
   rw [Array.toArray_toList] at hr
   rw [show (Sem.run P (Instr.buildSlice t n (ps.map fun x=>(x.1,a.eval x.2))) w)=.ok v w' from hr]
   rfl
  unfold Oper.wp
  rw [he]
  exact hK _ v w' γ' rfl g1 g2 g3
 |panic x t v h1 h2 =>
  have hx:=hf.eval x
  rw [h2] at hx
  have hx':=hx
  rw [Rel] at hx
  obtain ⟨u,hu,_⟩:=hx
  rw [hu] at hx'
  have hrun:(execOp a.eval o).run P w=.halt (.panic (.iface t u)) w:=by
   obtain ⟨dst,op,ty,pos,after,guard⟩:=o
   dsimp only at h1
   subst h1
   simp [execOp,hu,Instr.panic,goPanic]
  unfold Oper.wp
  rw [hrun,Oper.upon_panic]
  exact hp _ _ w γ rfl hs (Ext.refl _ _ _) hx'
theorem sG {k:FuncId} {args:List AV} {vs:Array Value} {Post:AV→AHeap→Prop} (h:ACallsP P k args H Post) (hs:State w γ H) (hA:RelA w γ H args vs) {o:Oper} {a:Act} {K:Act→World→Prop} {Q:Exit→Act→World→Prop} (hrun:(execOp a.eval o).run P w=(callFunc k vs).run P w)
 (hK:∀ x H1 v w' γ',Post x H1→State w' γ' H1→Ext w γ H w' γ' H1→Rel w' γ' H1 x v→K (a.put o.dst v) w'):o.wp P a w K Q:=by
 have hcall:=h w γ _ hs hA
 unfold Oper.wp
 rw [hrun]
 generalize (callFunc k vs).run P w=rr at hcall ⊢
 unfold UponCall at hcall
 split at hcall
 ·rw [Oper.upon_enter]
  refine hcall.mono fun en w' hen=>?_
  obtain ⟨γ',x,H1,hp,g1,g2,g3⟩:=hen
  cases en with
  |returned v=>exact hK x H1 v w' γ' hp g1 g2 g3
  |panicked ch=>exact g3.elim
  |outgrown=>exact g3.elim
 ·rw [Oper.upon_value]
  obtain ⟨γ',x,H1,hp,g1,g2,g3⟩:=hcall
  exact hK x H1 _ _ γ' hp g1 g2 g3
 ·exact hcall.elim
theorem rN {o:Oper} {f:Nat→AV} {c:Call} {g:Operand} {k:FuncId} {first cap:List AV} {Post:AV→AHeap→Prop} (h1:o.op=.call c) (h2:c.callee=.value g) (h3:evF f g=.func (.func k) first cap)
 (h:ACallsP P k (first++c.args.toList.map (evF f)++cap) H Post) (hs:State w γ H) {a:Act} (hf:SimF w γ H f a) {K:Act→World→Prop} {Q:Exit→Act→World→Prop}
 (hK:∀ x H1 v w' γ',Post x H1→State w' γ' H1→Ext w γ H w' γ' H1→Rel w' γ' H1 x v→K (a.put o.dst v) w'):o.wp P a w K Q:=by
 have hg:=hf.eval g
 rw [h3,Rel] at hg
 obtain ⟨F,C,hv,s1,s2,hF,hC⟩:=hg
 have hA:RelA w γ H (first++c.args.toList.map (evF f)++cap) (F++c.args.map a.eval++C) :=
  RelA.append (RelA.append ⟨s1,hF⟩ (RelA.map (fun x=>hf.eval x) c.args)) ⟨s2,hC⟩
 have hrun:(execOp a.eval o).run P w=(callFunc k (F++c.args.map a.eval++C)).run P w:=by
  obtain ⟨dst,op,ty,pos,after,guard⟩:=o
  obtain ⟨callee,args,argTypes⟩:=c
  dsimp only at h1 h2
  subst h1;subst h2
  simp [execOp,resolve,invoke,hv,Deferred.ofValue]
 exact sG h hs hA hrun hK
end
end Go.AL
