/- Lemmas of the proof; no condition. -/
import Derived.Test.YtjffcopmhkcejaaGreatAlSound6
import Derived.Laws.IdiomStrings
import Derived.Laws.BytesArg
import Derived.Test.YtjffcopmhkcejaaGreatAlCode
import Derived.Deep.LoopGhost
import Derived.Orders
import Derived.Still
set_option linter.all false
set_option linter.unusedSectionVars false
namespace Go.AL
section
variable {P:Program} {w:World} {γ:cQ} {H:AHeap}
def jd{t e:TypeId}(h:(ti P t).map TI.desc=some (.slice e)):P.underlying t=some (.slice e):=by
 exact W44
def oG{t:TypeId}(h:(ti P t).map TI.desc=some .string):P.underlying t=some .string:=by
 obtain⟨d,i,hu,hi,hd⟩:=jD h
 cases d<;>simp[gv]at hd
 exact hu
def KH{t:TypeId}{k:IntKind}(h:(ti P t).map TI.desc=some (.int k)):P.underlying t=some (.int k):=by
 exact W44
def uj(s:By):flat (s.map bC)=s.map bC:=by
 induction s with
 |nil=>rfl
 |cons b s ih=>show(bC b).cells++flat (s.map bC)=_;rw[ih];rfl
def yF(s:By)(z:Array Value):AtR (Rel w γ H) (s.map bC) ((s.toArray.map fun b=>Value.int .u8 b.toNat)++z) 0:=fun j hj=>by
 simp only[ybb]at hj
 refine⟨.int .u8 s[j].toNat,?_,?_⟩
 ·rw[Nat.zero_add,Array.getElem?_append_left (by simpa using hj)]
  simp[hj]
 ·simp only[List.getElem_map,bC];exact jH _ _
def uQ(hs:State w γ H){w':World}{sz cap:Nat}{xs:Wz}{C:Array Value}{ty:TypeId}{fr:Nat × Nat}(hos:w'.os=w.os)(htape:w'.tape=w.tape)(hout:w'.output=w.output)
 (hsz:w'.heap.size=w.heap.size+1) (hold:∀ b,b<w.heap.size→w'.heap[b]?=w.heap[b]?) (hnew:w'.heap[w.heap.size]?=some (.cells C ty fr)) (hfr:C.size≤fr.1∨fr.2=0)
 (hle:xs.length≤cap) (hC:cap*sz≤C.size) (hall:∀ x∈xs,x.cells.length=sz) (hr:AtR (Rel w γ H) (flat xs) C 0) {run:Result Value}
 (hrun:run=.ok (.slice (some ⟨w.heap.size,0,none⟩) xs.length cap) w'):Out P w γ H (.slice (.own H.nx) sz xs) (H.push (.buf sz xs.length)) run:=by
 have he:=jC hs hos htape hout Xa hold (some w.heap.size) (fun b h=>by cases h;exact Nat.le_refl _) (.buf sz xs.length)
 refine⟨_,w',_,hrun,io hs (fun b h=>by cases h;omega) he hold (.inr (.inl ⟨_,_,rfl⟩)),he,?_⟩
 refine rel_slice.2 (.inr ⟨w.heap.size,0,cap,C,ty,fr,rfl,hle,hnew,Xa,?_,?_,hall,hr.mono fun x v h=>h.ext he⟩)
 ·intro id o ho hg
  rcases AHeap.get_push_inv _ _ ho with⟨rfl,rfl⟩|⟨hlt,ho⟩
  ·exact⟨_,_,rfl,Xa⟩
  ·rw[eR _ _ _ _ (Xa)]at hg
   have:=hs.lt ho hg;omega
 ·refine⟨Xq,fun sz' n h=>?_⟩
  rw[AHeap.get_push_new]at h;cases h
  refine⟨rfl,Nat.le_refl _,fun _=>⟨eM _ _ _,rfl,fun p p1 p2=>?_⟩⟩
  rcases hfr with h|h<;>omega
def w7(hs:State w γ H){src dst:TypeId}{x:AV}{v:Value}{r:R}(hx:Rel w γ H x v)(h:zjo P src dst x H=some r)(hc:r.c) :
 Out P w γ H r.v r.H ((convert src dst v).run P w):=by
 unfold zjo at h
 split at h
 ·rename_i sd k k' n hsd hdd
  cases h
  rw[gY hx]
  obtain⟨d1,i1,hu1,hi1,hd1⟩:=jD hsd
  obtain⟨d2,i2,hu2,hi2,hd2⟩:=jD hdd
  cases d2<;>simp[gv]at hd2
  subst hd2
  exact Out.same hs (v:=.int _ (IntKind.wrap _ n)) (by simp[convert,bN hu1,bN hu2,Conv.intToInt]) (jH _ _)
 ·rename_i sd s hsd hdd
  cases h
  rw[mb hx]
  obtain⟨d1,i1,hu1,hi1,hd1⟩:=jD hsd
  obtain⟨d2,i2,hu2,hi2,hd2⟩:=jD hdd
  cases d2<;>simp[gv]at hd2
  exact Out.same hs (by simp[convert,bN hu1,bN hu2]) (CC _)
 ·rename_i e s hsd hdd
  rw[mb hx]
  have hu1:=oG hsd
  have hu2:=jd hdd
  split at h<;>cases h
  rename_i bt hte
  have hed:P.underlying e=some (.int .u8):=KH (by rw[hte];rfl)
  have hrun:=run_bytes_of_string (P:=P) w src dst e ⟨s.toArray⟩ hu1 hu2 hed
  rw[u9]at hrun
  have hn:s.length≤grownCap w s.length 0 e:=grownCap_ge _ _ _ _
  have hlen:(s.map bC).length=s.length:=Xc
  have hsz:(bytesRow ⟨s.toArray⟩ (grownCap w s.length 0 e)).size=grownCap w s.length 0 e:=by
   simp[bytesRow,ByteArray.size,-ByteArray.size_data];omega
  rw[← hlen]at hrun
  have:=uQ (P:=P) hs (sz:=1) (xs:=s.map bC) (w':=w.drew.alloc _) rfl rfl rfl Xc (fun b hb=>iu w.drew _ hb) (im w.drew _) (.inl (Nat.le_refl _))
   (by rw[hlen];exact hn) (by rw[hlen,hsz];omega) (by simp[bC,AV.cells]) (by rw[uj];exact yF _ _) hrun
  rwa[hlen]at this
 ·rename_i e m sz xs hsd hdd
  have hu1:=jd hsd
  have hu2:=oG hdd
  split at h<;>cases h
  rename_i hte
  have hue:=KH hte
  have hby:∀ x∈xs,BW x:=hc
  refine Out.same hs (v:=.string ⟨(xs.map AL.byteOf).toArray⟩) ?_ (CC _)
  rcases rel_slice.1 hx with⟨⟨a,rfl⟩,rfl,_⟩|⟨blk,off,cap,C,ty,fr,rfl,hle,hb,hcap,himm,hm,hall,hr⟩
  ·cases a with
   |none=>simp[convert,bN hu1,bN hu2,bN hue,Conv.bytesToString];rfl
   |some a =>
    rw[run_convert_bytes_string w src dst e _ 0 0 hu1 hue hu2]
    simp[Conv.bytesToString,loadCells,loadCellsFrom];rfl
  ·have hflat:flat xs=xs:=by
    clear hx hr hle hc hcap himm hm
    induction xs with
    |nil=>rfl
    |cons x xs ih =>
     obtain⟨n,rfl⟩:=hby x (by simp)
     show _++flat xs=_
     rw[ih (fun y hy=>hby y (by simp[hy])) (fun y hy=>hall y (by simp[hy]))]
     rfl
   rw[hflat]at hr
   let num:AV→Int:=fun x=>match x with|.int _ n=>n|_=>0
   have:=run_convert_bytes_arg (P:=P) w src e hu1 hue blk off xs.length cap (xs.map num) Xc (fun i hi=>by
    obtain⟨u,hu,hr⟩:=hr i hi
    obtain⟨n,hn⟩:=hby xs[i] (List.getElem_mem hi)
    rw[hn]at hr
    rw[wW hb,hu,gY hr]
    simp[List.getD,hi,hn,num]) dst hu2
   rw[this]
   congr 2
   show ByteArray.mk _=_
   congr 2
   rw[List.map_map]
   apply List.map_congr_left
   intro x hx
   obtain⟨n,rfl⟩:=hby x hx
   rfl
 ·cases h
def Ds{cs vs:Wz}{C:Array Value}{u:Value}(hC:C.size=cs.length)(hr:AtR (Rel w γ H) cs C 0)(hu1:u.cells.size=vs.length)(hu2:AtR (Rel w γ H) vs u.cells 0)
 {off:Nat} (hle:off+vs.length≤cs.length) :
 ∃ D:Array Value,(u.cells.zipIdx.foldl (fun cs (c,j)=>cs.setIfInBounds (off+j) c) C)=D∧D.size=(splice cs off vs).length∧AtR (Rel w γ H) (splice cs off vs) D 0:=by
 refine⟨gD C off u.cells.toList,?_,?_,?_⟩
 ·have key:∀(l:List Value)(k:Nat)(D:Array Value),off+k+l.length≤D.size →
   (l.zipIdx k).foldl (fun cs (p:Value × Nat)=>cs.setIfInBounds (off+p.2) p.1) D=gD D (off+k) l:=by
   intro l
   induction l with
   |nil=>intro k D _;simp[gD]
   |cons c l ih =>
    intro k D hD
    simp only[yaz]at hD
    simp only[List.zipIdx_cons,List.foldl_cons]
    rw[ih (k+1) _ (Xf)]
    apply Array.ext_getElem?
    intro j
    rw[ic _ _ _ Xf,ic _ _ _ (Xf)]
    simp only[yaz]
    by_cases h1:j=off+k
    ·subst h1
     rw[if_neg Xa,if_pos (Xa)]
     simp[show off+k<D.size by omega]
    ·by_cases h2:off+(k+1)≤j∧j<off+(k+1)+l.length
     ·rw[if_pos h2,if_pos (Xa)]
      rw[show j-(off+k)=(j-(off+(k+1)))+1 by omega,yan]
     ·exact W45
  have:=key u.cells.toList 0 C Xf
  exact W43
 ·rw[fR _ _ _ Xf,ia _ _ _ hle,hC]
 ·exact hr.splice (by simpa using hu2) (by simpa using hu1) hle Xa
theorem rQ{pa:Nat→Option (Nat × Nat)}{pc:Nat→Option (Nat × Nat)}:∀(parts:List (Nat × AV)) (vs:List (Nat × Value)) (cs:Wz) (C:Array Value) (cs':Wz),
 (∀ j q,pa j=some q→(∃ p∈parts,p.1=j)→pc j=some q) →
 vs.length=parts.length→(∀(j:Nat) p q,parts[j]?=some p→vs[j]?=some q→q.1=p.1∧Rel w γ H p.2 q.2)→C.size=cs.length→AtR (Rel w γ H) cs C 0 →
 zir pa cs parts=some cs'→∃ D:Array Value,Instr.fill pc C vs=some D∧D.size=cs'.length∧AtR (Rel w γ H) cs' D 0
 |[],vs,cs,C,cs',_,hl,_,hC,hr,h=>by
  cases vs with
  |nil=>simp only[zir,Option.some.injEq]at h;subst h;exact⟨C,rfl,hC,hr⟩
  |cons _ _=>simp at hl
 |(i,x)::parts,vs,cs,C,cs',hp,hl,hv,hC,hr,h=>by
  cases vs with
  |nil=>simp at hl
  |cons q vs =>
   obtain⟨i',v⟩:=q
   obtain⟨e,hx⟩:=hv 0 _ _ rfl rfl
   dsimp only at e hx
   subst e
   simp only[zir]at h
   cases hpa:pa i' with
   |none=>simp[hpa]at h
   |some q =>
    obtain⟨off,size⟩:=q
    simp only[hpa]at h
    split at h
    ·rename_i hcond
     obtain⟨h1,h2,h3⟩:=hcond
     have hnj:x≠.junk∧∀ vs,x≠.tup vs:=by
      exact W31
     obtain⟨hu1,hu2⟩:=Rel.cells hx hnj.1 hnj.2
     obtain⟨D,hD,hDs,hDr⟩:=Ds hC hr hu1 hu2 (off:=off) Xa
     obtain⟨E,hE,hEs,hEr⟩:=rQ parts vs _ D cs' (fun j q hq ⟨p,hp1,hp2⟩=>hp j q hq ⟨p,by simp[hp1],hp2⟩) (by simpa using hl) (fun j p q hp hq=>hv (j+1) p q (by simpa using hp) (by simpa using hq)) hDs hDr h
     refine⟨E,?_,hEs,hEr⟩
     have hpc:pc i'=some (off,size):=hp i' (off,size) hpa ⟨(i',x),Xc,rfl⟩
     have hcond:¬ ((decide (v.cells.size≠size)||decide (off+v.cells.size>C.size))=true):=Xf
     rw[Instr.fill,hpc]
     dsimp only
     rw[if_neg hcond,hD]
     exact hE
    ·cases h
def RelP(w:World)(γ:cQ)(H:AHeap)(parts:List (Nat × AV))(vs:List (Nat × Value)):Prop :=
 vs.length=parts.length∧∀(j:Nat) p q,parts[j]?=some p→vs[j]?=some q→q.1=p.1∧Rel w γ H p.2 q.2
def Ba{t:TypeId}{i:TI}(h:ti P t=some i):zjv P t=i.size:=by simp[zjv,h]
def CX (w : World) {fields : Array Field} (hk : zis P (fields.toList.map fun f => (f.offset, f.type, f.name == "_")) = true) :
 ∃ ps:Array (Nat × Nat),(fields.mapM fun f=>do pure (f.offset,← sizeOf f.type):Sem _).run P w=.ok ps w ∧
  ∀(j:Nat)(f:Field),fields[j]?=some f→ps[j]?=some (f.offset,zjv P f.type):=by
 have key : ∀ (l : List Field) (acc : Array (Nat × Nat)), zis P (l.map fun f => (f.offset, f.type, f.name == "_")) = true →
  ∃ ps:Array (Nat × Nat),(l.foldlM (fun(bs:Array (Nat × Nat)) f=>bs.push <$> (do pure (f.offset,← sizeOf f.type))) acc:Sem _).run P w=.ok ps w ∧
  (∀ j,j<acc.size→ps[j]?=acc[j]?)∧∀(j:Nat)(f:Field),l[j]?=some f→ps[acc.size+j]?=some (f.offset,zjv P f.type):=by
  intro l
  induction l with
  |nil=>intro acc _;exact⟨acc,Xc,fun _ _=>rfl,fun j f h=>by simp at h⟩
  |cons f l ih =>
   intro acc h
   simp only[yae,zis,Bool.and_eq_true]at h
   obtain⟨i,hi⟩:=Option.isSome_iff_exists.1 h.1
   obtain⟨d,inf,z,hd,hinf,hz,rfl⟩:=em hi
   obtain⟨ps,h0,h1,h2⟩:=ih (acc.push (f.offset,inf.size)) h.2
   refine⟨ps,?_,fun j hj=>by rw[h1 j (by simp;omega),Array.getElem?_push,if_neg (by omega)],fun j g hg=>?_⟩
   ·rw[List.foldlM_cons]
    simp only[Sem.run_bind,Sem.run_map,ff hinf,Result.andThen_ok,Sem.run_pure]
    exact h0
   ·cases j with
    |zero =>
     simp at hg;subst hg
     rw[Nat.add_zero,h1 _ Xc,Ba hi];simp
    |succ j =>
     have h4:=h2 j g (by simpa using hg)
     rw[← h4];congr 1;simp;omega
 obtain⟨ps,h0,_,h2⟩:=key fields.toList #[] hk
 refine⟨ps,?_,fun j f hf=>by have:=h2 j f (by simpa using hf);simpa using this⟩
 rw[Array.mapM_eq_foldlM,← Array.foldlM_toList]
 exact h0
def zn(hs:State w γ H){t:TypeId}{parts:List (Nat × AV)}{vs:List (Nat × Value)}{r:R}(hp:RelP w γ H parts vs)(h:zjd P t parts H=some r) :
 Out P w γ H r.v r.H ((Instr.build t vs.toArray).run P w):=by
 unfold zjd at h
 split at h
 ·rename_i i hi
  obtain⟨d,inf,z,hd,hinf,hz,rfl⟩:=em hi
  obtain⟨z1,z2⟩:=jG (w:=w) (γ:=γ) (H:=H) z
  dsimp only at h
  split at h
  ·rename_i fs hfs
   obtain⟨fields,rfl,rfl⟩:=pj hfs
   split at h
   ·rename_i hk
    obtain⟨ps,hps,hpl⟩:=CX (P:=P) w hk
    cases hf : zir (fun j => ((fields.toList.map fun f => (f.offset, f.type, f.name == "_"))[j]?).map fun f => (f.1, zjv P f.2.1)) (ofValue z).cells parts with
    |none=>rw[hf]at h;cases h
    |some cs =>
     simp only[hf,yag,Option.some.injEq]at h
     subst h
     obtain⟨D,hD,hDs,hDr⟩:=rQ (pc:=fun j=>ps[j]?) parts vs _ _ cs (fun j q hq _=>by
      cases hj : (fields.toList.map fun f => (f.offset, f.type, f.name == "_"))[j]? with
      |none=>simp[hj]at hq
      |some p =>
       obtain⟨f,hf,rfl⟩:=tv hj
       simp only[hj,yag,Option.some.injEq]at hq
       rw[← hq]
       exact hpl j f hf) hp.1 hp.2 z1 z2 hf
     refine Out.same hs (v:=.agg D) ?_ (vg hDs hDr)
     simp only[Instr.build,Sem.run_bind,jA hinf hz,Result.andThen_ok,bN hd]
     rw[hps]
     simp only[Result.andThen_ok,hD]
     rfl
   ·cases h
  ·rename_i n e hfs
   cases d<;>simp[gv]at hfs
   obtain⟨rfl,rfl⟩:=hfs
   rename_i n e
   split at h
   ·rename_i hk
    obtain⟨ie,hie⟩:=Option.isSome_iff_exists.1 hk
    obtain⟨de,infe,ze,hde,hinfe,hze,rfl⟩:=em hie
    cases hf:zir (fun j=>some (j*zjv P e,zjv P e)) (ofValue z).cells parts with
    |none=>rw[hf]at h;cases h
    |some cs =>
     simp only[hf,yag,Option.some.injEq]at h
     subst h
     obtain⟨D,hD,hDs,hDr⟩:=rQ (pc:=fun j=>some (j*infe.size,infe.size)) parts vs _ _ cs (fun j q hq _=>by
      rw[← hq,Ba hie]) hp.1 hp.2 z1 z2 hf
     refine Out.same hs (v:=.agg D) ?_ (vg hDs hDr)
     simp only[Instr.build,Sem.run_bind,jA hinf hz,Result.andThen_ok,bN hd,ff hinfe,hD]
     rfl
   ·cases h
  ·cases h
 ·cases h
theorem nO{sz:Nat}:∀(parts:List (Nat × AV)) (k:Nat) (xs:Wz),zjf sz k parts=some xs →
 xs=parts.map (·.2)∧(∀ x∈xs,x.cells.length=sz∧dp x.cells=true)∧∀(j:Nat) p,parts[j]?=some p→p.1=k+j
 |[],k,xs,h=>by simp only[zjf,Option.some.injEq]at h;subst h;simp
 |(i,v)::parts,k,xs,h=>by
  simp only[zjf]at h
  split at h
  ·rename_i hc
   obtain⟨h1,h2,h3⟩:=hc
   cases hr:zjf sz (k+1) parts with
   |none=>simp[hr]at h
   |some ys =>
    simp only[hr,yag,Option.some.injEq]at h
    subst h
    obtain⟨i1,i2,i3⟩:=nO parts (k+1) ys hr
    refine⟨by simp[i1],fun x hx=>?_,fun j p hp=>?_⟩
    ·rcases List.mem_cons.1 hx with rfl|hx
     ·exact⟨h2,h3⟩
     ·exact i2 x hx
    ·cases j with
     |zero=>simp at hp;subst hp;simpa using h1
     |succ j=>have:=i3 j p (by simpa using hp);omega
  ·cases h
theorem rm{sz:Nat}:∀(parts:List (Nat × AV)) (vs:List (Nat × Value)) (k:Nat) (C:Array Value),
 vs.length=parts.length→(∀(j:Nat) p q,parts[j]?=some p→vs[j]?=some q→q.1=p.1∧Rel w γ H p.2 q.2) →
 (∀ x∈parts.map (·.2),x.cells.length=sz∧dp x.cells=true)→(∀(j:Nat) p,parts[j]?=some p→p.1=k+j)→C.size=(k+parts.length)*sz →
 ∃ D:Array Value,Instr.fill (fun i=>some (i*sz,sz)) C vs=some D∧D.size=C.size∧(∀ j,j<k*sz→D[j]?=C[j]?)∧AtR (Rel w γ H) (flat (parts.map (·.2))) D (k*sz)
 |[],vs,k,C,hl,hv,hx,hk,hC=>by
  cases vs with
  |nil=>exact⟨C,rfl,rfl,fun _ _=>rfl,AtR.nil⟩
  |cons _ _=>simp at hl
 |(i,x)::parts,vs,k,C,hl,hv,hx,hk,hC=>by
  cases vs with
  |nil=>simp at hl
  |cons q vs =>
   obtain⟨i',v⟩:=q
   obtain⟨e,hr⟩:=hv 0 _ _ rfl rfl
   dsimp only at e hr
   subst e
   have hi:i'=k:=by have:=hk 0 _ rfl;simpa using this
   subst hi
   obtain⟨h2,h3⟩:=hx x Xc
   have hnj:x≠.junk∧∀ vs,x≠.tup vs:=by
    exact W31
   obtain⟨hu1,hu2⟩:=Rel.cells hr hnj.1 hnj.2
   have hsz:i'*sz+sz≤C.size:=by
    rw[hC]
    have:(i'+1)*sz≤(i'+(parts.length+1))*sz:=Nat.mul_le_mul_right _ Xa
    rw[Nat.add_mul,Nat.one_mul]at this
    exact this
   have hD0:∃ D0:Array Value,v.cells.zipIdx.foldl (fun cs (c,j)=>cs.setIfInBounds (i'*sz+j) c) C=D0∧D0.size=C.size∧(∀ j,j<i'*sz→D0[j]?=C[j]?) ∧
    AtR (Rel w γ H) x.cells D0 (i'*sz):=by
    have junkR:AtR (fun(_:AV)(_:Value)=>True) (List.replicate C.size AV.junk) C 0:=fun j hj=>by
     simp at hj
     exact⟨C[j],by simp[hj],trivial⟩
    refine⟨gD C (i'*sz) v.cells.toList,?_,fR _ _ _ Xf,fun j hj=>?_,fun j hj=>?_⟩
    ·have key:∀(l:List Value)(k:Nat)(D:Array Value),i'*sz+k+l.length≤D.size →
      (l.zipIdx k).foldl (fun cs (p:Value × Nat)=>cs.setIfInBounds (i'*sz+p.2) p.1) D=gD D (i'*sz+k) l:=by
      intro l
      induction l with
      |nil=>intro k D _;simp[gD]
      |cons c l ih =>
       intro k D hD
       simp only[yaz]at hD
       simp only[List.zipIdx_cons,List.foldl_cons]
       rw[ih (k+1) _ (Xf)]
       apply Array.ext_getElem?
       intro j
       rw[ic _ _ _ Xf,ic _ _ _ (Xf)]
       simp only[yaz]
       by_cases h1:j=i'*sz+k
       ·subst h1
        rw[if_neg Xa,if_pos (Xa)]
        simp[show i'*sz+k<D.size by omega]
       ·by_cases h2:i'*sz+(k+1)≤j∧j<i'*sz+(k+1)+l.length
        ·rw[if_pos h2,if_pos (Xa)]
         rw[show j-(i'*sz+k)=(j-(i'*sz+(k+1)))+1 by omega,yan]
        ·exact W45
     have:=key v.cells.toList 0 C Xf
     exact W43
    ·rw[ic _ _ _ Xf,if_neg (Xa)]
    ·obtain⟨u,hu,hr⟩:=hu2 j hj
     refine⟨u,?_,hr⟩
     rw[ic _ _ _ Xf,if_pos (Xf)]
     rw[Nat.zero_add]at hu
     simp only[Array.getElem?_toList]
     rw[← hu];congr 1;omega
   obtain⟨D0,e0,s0,o0,r0⟩:=hD0
   obtain⟨D,hD,hDs,hDo,hDr⟩:=rm parts vs (i'+1) D0 (by simpa using hl) (fun j p q hp hq=>hv (j+1) p q (by simpa using hp) (by simpa using hq))
    (fun y hy=>hx y (by simp at hy ⊢;exact .inr hy)) (fun j p hp=>by have:=hk (j+1) p (by simpa using hp);omega) (by rw[s0,hC,yaz];congr 1;omega)
   refine⟨D,?_,hDs.trans s0,fun j hj=>(hDo j (by rw[Nat.add_mul];omega)).trans (o0 j hj),?_⟩
   ·have hcond:¬ ((decide (v.cells.size≠sz)||decide (i'*sz+v.cells.size>C.size))=true):=Xf
    rw[Instr.fill]
    dsimp only
    rw[if_neg hcond,e0]
    exact hD
   ·show AtR _ (x.cells++flat (parts.map (·.2))) D _
    rw[AtR.append,h2]
    refine⟨fun j hj=>?_,by rw[Nat.add_mul,Nat.one_mul]at hDr;exact hDr⟩
    obtain⟨u,hu,hr⟩:=r0 j hj
    exact⟨u,by rw[hDo _ (by rw[Nat.add_mul];omega)];exact hu,hr⟩
def sN(hs:State w γ H){t:TypeId}{n:Nat}{parts:List (Nat × AV)}{vs:List (Nat × Value)}{r:R}(hp:RelP w γ H parts vs)(h:zje P t n parts H=some r) :
 Out P w γ H r.v r.H ((Instr.buildSlice t n vs.toArray).run P w):=by
 unfold zje at h
 split at h
 ·rename_i e hd
  have hu:=jd hd
  split at h
  ·rename_i te hte
   obtain⟨ed,einf,ez,hed,heinf,hez,rfl⟩:=em hte
   split at h
   ·rename_i hcond
    obtain⟨hn,hlim⟩:=hcond
    dsimp only at h hlim
    cases hr:zjf einf.size 0 parts with
    |none=>simp[hr]at h
    |some xs =>
     simp only[hr,yag,Option.some.injEq]at h
     subst h
     obtain⟨rfl,h2,h3⟩:=nO parts 0 xs hr
     obtain⟨zero,hz1,hz2⟩:∃ zero:Array Value,(n*einf.size=0→zero=#[])∧(¬ n*einf.size=0→zero=ez.cells):=by
      exact W11
     let C0:Array Value:=(Array.range (n*einf.size)).map (zero[· % zero.size]!)
     obtain⟨D,hD,hDs,_,hDr⟩:=rm (sz:=einf.size) parts vs 0 C0 hp.1 hp.2 h2 h3 (by simp[C0,hn])
     have hDs':D.size=n*einf.size:=by rw[hDs];simp[C0]
     have:=uQ (P:=P) hs (w':=w.alloc (.cells D e)) (sz:=einf.size) (cap:=n) (xs:=parts.map (·.2)) (C:=D) (ty:=e) (fr:=(0,0)) rfl rfl rfl Xc (fun b hb=>iu w _ hb) (im w _)
      (.inr rfl) Xf (by rw[hDs'];exact Nat.le_refl _) (fun x hx=>(h2 x hx).1) (by simpa using hDr) (run:=(Instr.buildSlice t n vs.toArray).run P w) (by
        simp only[Instr.buildSlice,Sem.run_bind,bN hu,Result.andThen_ok,ff heinf]
        rw[if_neg (Xa)]
        simp only[C0]at hD
        by_cases h0:n*einf.size=0
        ·rw[if_pos h0,← hz1 h0]
         simp only[Sem.run_bind,Sem.run_pure,Result.andThen_ok]
         rw[hD]
         simp[newRow,hn]
        ·rw[if_neg h0]
         simp only[Sem.run_bind,jA heinf hez,Sem.run_pure,Result.andThen_ok]
         rw[← hz2 h0,hD]
         simp[newRow,hn])
     have hl:(parts.map (·.2)).length=n:=by simp[hn]
     rw[hl]at this
     exact this
   ·cases h
  ·cases h
 ·cases h
end
def Ff{n:Int}(h1 : -9223372036854775808≤n)(h2:n≤9223372036854775807):IntKind.i64.wrap n=n:=by
 rw[IntKind.wrap_i64];omega
section
variable {P:Program} {w:World} {γ:cQ} {H:AHeap}
theorem ET{cs:Wz}:∀(n j:Nat),j<n*cs.length→((List.replicate n cs).flatten)[j]?=cs[j%cs.length]?
 |0,j,h=>by simp at h
 |n+1,j,h=>by
  rw[List.replicate_succ,List.flatten_cons]
  rw[Nat.add_mul,Nat.one_mul]at h
  by_cases hj:j<cs.length
  ·rw[List.getElem?_append_left hj,Nat.mod_eq_of_lt hj]
  ·rw[List.getElem?_append_right Xa,ET n _ (Xa)]
   congr 1
   rw[← Nat.mod_eq_sub_mod (Xa)]
def Ad(hs:State w γ H){t:TypeId}{l c:AV}{vl vc:Value}{r:R}(hl:Rel w γ H l vl)(hcv:Rel w γ H c vc)(h:ziv P t l c H=some r)(hc:r.c) :
 Out P w γ H r.v r.H ((Instr.makeSlice t vl vc).run P w):=by
 unfold ziv at h
 split at h
 ·rename_i e n m hd
  have hu:=jd hd
  rw[gY hl,gY hcv]
  split at h
  ·rename_i te hte
   obtain⟨ed,einf,ez,hed,heinf,hez,rfl⟩:=em hte
   split at h<;>cases h
   rename_i hz
   obtain⟨rfl,h0,hb,hn⟩:=hc
   dsimp only at hz hb
   obtain⟨n,rfl⟩:=Int.eq_ofNat_of_zero_le h0
   obtain⟨z1,z2⟩:=jG (w:=w) (γ:=γ) (H:=H) ez
   let C:Array Value:=madeCells ez.cells (n*einf.size)
   have hC:C.size=((List.replicate n (ofValue ez).cells).flatten).length:=by simp[C,madeCells,hz]
   have hr:AtR (Rel w γ H) (List.replicate n (ofValue ez).cells).flatten C 0:=by
    intro j hj
    have hj':j<n*einf.size:=by simpa[hz]using hj
    have hpos:0<einf.size:=by
     rcases Nat.eq_zero_or_pos einf.size with h|h
     ·rw[h]at hj';simp at hj'
     ·exact h
    have hm:j%einf.size<(ofValue ez).cells.length:=by rw[hz];exact Nat.mod_lt _ hpos
    obtain⟨u,hu,hr⟩:=z2 (j%einf.size) hm
    have hget:=ET (cs:=(ofValue ez).cells) n j (by rw[hz];exact hj')
    rw[List.getElem?_eq_getElem hj,hz,List.getElem?_eq_getElem hm]at hget
    refine⟨u,?_,by rw[Option.some.inj hget];exact hr⟩
    rw[Nat.zero_add]at hu ⊢
    have hzs:ez.cells.size=einf.size:=by rw[z1,hz]
    simp only[C,madeCells,Array.getElem?_map,hzs]
    rw[Array.getElem?_eq_getElem (by simpa using hj')]
    simp only[yag,Array.getElem_range]
    rw[getElem!_def,hu]
   obtain⟨γ',s1,s2,s3⟩:=vV hs hC hr e
   have hrun:=run_make (P:=P) w t e einf ez hu heinf hez .i64 .i64 n n Xa Xa (by rw[Int.mul_comm];omega) Xa
   simp only[Int.toNat_natCast]at hrun
   refine⟨_,_,γ',hrun,s1,s2,?_⟩
   refine rel_ms.2 ⟨Xq,li _ _,.inr ⟨w.heap.size,n,C,e,(0,0),s3,Xc,Xc,im w _,by simp[C,madeCells],?_⟩⟩
   intro p _ _ h;simp at h
  ·cases h
 ·cases h
theorem AtR.extract{R:AV→Value→Prop}{cs:Wz}{C:Array Value}{off n:Nat}(h:AtR R cs C off)(hn:cs.length=n):AtR R cs (C.extract off (off+n)) 0:=fun j hj=>by
 obtain⟨u,hu,hr⟩:=h j hj
 have:=(Array.getElem?_eq_some_iff.1 hu).1
 exact⟨u,by rw[Nat.zero_add,Array.getElem?_extract,if_pos (by omega)];exact hu,hr⟩
theorem jU(sz:Nat):∀(n:Nat)(cs:Wz),(dh sz n cs).length=n
 |0,_=>rfl
 |n+1,cs=>by simp[dh,jU sz n]
theorem r6(sz:Nat):∀(n:Nat)(cs:Wz)(i:Nat) (hi:i<(dh sz n cs).length),
 (dh sz n cs)[i]=if sz=1 then pK (cs.getD i .junk)else .agg ((List.range sz).map fun j=>cs.getD (i*sz+j) .junk)
 |0,cs,i,hi=>by simp[dh]at hi
 |n+1,cs,i,hi=>by
  simp only[dh]
  cases i with
  |zero=>simp
  |succ i =>
   simp only[List.getElem_cons_succ]
   rw[r6 sz n]
   have e:∀ j,(cs.drop sz).getD j .junk=cs.getD (j+sz) .junk:=fun j=>by simp[List.getD_eq_getElem?_getD,Nat.add_comm]
   by_cases h1:sz=1
   ·subst h1;rw[if_pos rfl,if_pos rfl,e]
   ·rw[if_neg h1,if_neg h1]
    congr 1
    refine List.map_congr_left fun j _=>?_
    rw[e];congr 1;rw[Nat.add_mul];omega
theorem kO(v:AV):(pK v).cells=[pK v]:=by cases v<;>rfl
def yG{x:AV}{v:Value}(h:Rel w γ H x v):Rel w γ H (pK x) v:=by
 cases x<;>first|exact h|(simp only[pK];rw[Rel];trivial)
def Ok(w:World)(γ:cQ)(H:AHeap)(sz:Nat)(xs:Wz)(v:Value):Prop :=
 ((∃ a,v=.slice a 0 0)∧xs=[])∨∃ blk off cap C ty fr,v=.slice (some ⟨blk,off,none⟩) xs.length cap∧xs.length≤cap∧w.heap[blk]?=some (.cells C ty fr)∧off+cap*sz≤C.size ∧
   (∀ z∈xs,z.cells.length=sz)∧AtR (Rel w γ H) (flat xs) C off
def wt{m:Mark}{sz:Nat}{xs:Wz}{v:Value}(h:Rel w γ H (.slice m sz xs) v):Ok w γ H sz xs v:=by
 rcases rel_slice.1 h with⟨h1,h2,_⟩|⟨blk,off,cap,C,ty,fr,rfl,hle,hb,hcap,himm,hm,hall,hr⟩
 ·exact .inl ⟨h1,h2⟩
 ·exact .inr ⟨blk,off,cap,C,ty,fr,rfl,hle,hb,hcap,hall,hr⟩
def ES(hs:State w γ H){id off sz len:Nat}{cs:Wz}{v:Value}(h:Rel w γ H (.ms id off sz len) v)(hc:a8 H id=some cs):Ok w γ H sz (dh sz len (cs.drop off)) v:=by
 obtain⟨_,_,h3⟩:=rel_ms.1 h
 rcases h3 with⟨rfl,h3⟩|⟨blk,cap,C,ty,fr,hg,rfl,hle,hb,hcap,_⟩
 ·exact .inl ⟨h3,rfl⟩
 ·obtain⟨ho,C',ty',fr',_,hb',hsz,hr,_⟩:=mX hs hc hg
  rw[hb]at hb';cases hb'
  have hrows:=(sM (R:=Rel w γ H) (C:=C) (sz:=sz) (dh sz len (cs.drop off)) off).1 fun i hi=>by
   have hlen:i<len:=by rw[jU]at hi;exact hi
   have hmul:(i+1)*sz≤cap*sz:=Nat.mul_le_mul_right _ Xa
   rw[Nat.add_mul]at hmul
   have hcell:∀ j,j<sz→∃ u,C[off+i*sz+j]?=some u∧Rel w γ H ((cs.drop off).getD (i*sz+j) .junk) u:=fun j hj=>by
    have hlt2:off+i*sz+j<C.size:=Xa
    refine⟨C[off+i*sz+j],by simp[hlt2],?_⟩
    have hin:off+(i*sz+j)<cs.length:=Xa
    obtain⟨u,hu,hru⟩:=hr (off+(i*sz+j)) hin
    have:C[off+i*sz+j]=u:=by
     have e1:0+(off+(i*sz+j))=off+i*sz+j:=Xa
     rw[e1]at hu
     exact Option.some.inj ((by simp[hlt2]:some C[off+i*sz+j]=C[off+i*sz+j]?).trans hu)
    rw[this]
    have e2:(cs.drop off).getD (i*sz+j) .junk=cs[off+(i*sz+j)]:=by simp[List.getD_eq_getElem?_getD,hin]
    rw[e2];exact hru
   have hget:=r6 sz len (cs.drop off) i hi
   by_cases h1:sz=1
   ·subst h1
    rw[if_pos rfl]at hget
    rw[hget]
    refine⟨by rw[kO];rfl,fun j hj=>?_⟩
    have hj0:j=0:=by rw[kO]at hj;simpa using hj
    subst hj0
    obtain⟨u,hu,hru⟩:=hcell 0 Xa
    refine⟨u,hu,?_⟩
    have e3:(pK ((cs.drop off).getD i .junk)).cells[0]'hj=pK ((cs.drop off).getD i .junk):=by simp only[kO,List.getElem_cons_zero]
    rw[e3]
    exact yG (by simpa using hru)
   ·rw[if_neg h1]at hget
    rw[hget]
    refine⟨by simp[AV.cells],fun j hj=>?_⟩
    have hj':j<sz:=by simpa[AV.cells]using hj
    obtain⟨u,hu,hru⟩:=hcell j hj'
    exact⟨u,hu,by simpa[AV.cells]using hru⟩
  exact .inr ⟨blk,off,cap,C,ty,fr,by rw[jU],by rw[jU];exact hle,hb,hcap,hrows.1,hrows.2⟩
def vA{te:TI}{sz:Nat}{zs:Wz}{v:Value}(hsz:sz=te.size∨zs=[])(h:Ok w γ H sz zs v)(hone:∀ z∈zs,dp z.cells=true) :
 (Builtin.lenOf v).run P w=.ok zs.length w∧(∀ z∈zs,z.cells.length=te.size) ∧
 ∀ n,n≤zs.length→∃ us:Array Value,(Builtin.firstCells te.size n v).run P w=.ok us w∧us.size=n*te.size∧AtR (Rel w γ H) (flat (zs.take n)) us 0∧∀ u∈us.toList,u.oneCell'=true:=by
 rcases h with⟨⟨a,rfl⟩,rfl⟩|⟨blk,off,cap,C,ty,fr,rfl,hle,hb,hcap,hall,hr⟩
 ·refine⟨by simp[Builtin.lenOf],Xc,fun n hn=>⟨#[],?_,?_,by simpa[flat]using AtR.nil,Xc⟩⟩
  ·have h0:n=0:=by simpa using hn
   subst h0
   exact W30
  ·have h0:n=0:=by simpa using hn
   simp[h0]
 ·have hall':∀ z∈zs,z.cells.length=te.size:=fun z hz=>by
   rcases hsz with rfl|rfl
   ·exact hall z hz
   ·cases hz
  refine⟨by simp[Builtin.lenOf],hall',fun n hn=>?_⟩
  have e1:n*te.size≤zs.length*te.size:=Nat.mul_le_mul_right _ hn
  have e2:zs.length*te.size=zs.length*sz:=by
   rcases hsz with rfl|rfl
   ·rfl
   ·simp
  have e3:zs.length*sz≤cap*sz:=Nat.mul_le_mul_right _ hle
  have hlen:(flat (zs.take n)).length=n*te.size:=by
   rw[gJ (sz:=te.size) (fun z hz=>hall' z (List.mem_of_mem_take hz)),List.length_take,Nat.min_eq_left hn]
  have hat0:AtR (Rel w γ H) (flat (zs.take n)) C off:=by rw[tm (sz:=te.size) _ _ hall'];exact hr.take _
  have hat:=hat0.extract hlen
  have hsize:(C.extract off (off+n*te.size)).size=n*te.size:=Xf
  refine⟨C.extract off (off+n*te.size),?_,hsize,hat,EB hat ?_ ?_⟩
  ·simp only[Builtin.firstCells]
   exact lE hb Xa
  ·rw[hsize,hlen]
  ·simp only[dp,List.all_eq_true,flat,List.mem_flatMap]
   rintro c ⟨z,hz,hc⟩
   have:=hone z (List.mem_of_mem_take hz)
   simp only[dp,List.all_eq_true]at this
   exact this c hc
def yl(hs:State w γ H){te:TI}{e:TypeId}(hte:ti P e=some te){x:AV}{zs:Wz}{v:Value}(hx:Rel w γ H x v)(h:zc te x H=some zs)(hone:∀ z∈zs,dp z.cells=true)
 :
  (Builtin.lenOf v).run P w=.ok zs.length w∧(∀ z∈zs,z.cells.length=te.size) ∧
  ∀ n,n≤zs.length→∃ us:Array Value,(Builtin.firstCells te.size n v).run P w=.ok us w∧us.size=n*te.size∧AtR (Rel w γ H) (flat (zs.take n)) us 0∧∀ u∈us.toList,u.oneCell'=true:=by
  unfold zc at h
  split at h
  ·rename_i id off sz len
   split at h
   ·rename_i hsz
    split at h<;>cases h
    rename_i cs hc
    exact vA (.inl hsz) (ES hs hx hc) hone
   ·cases h
  ·rename_i m sz xs
   split at h<;>cases h
   rename_i hsz
   exact vA hsz (wt hx) hone
  ·rename_i s
   split at h<;>cases h
   rename_i h1
   rw[mb hx]
   refine⟨by simp[Builtin.lenOf,u9],by simp[bC,AV.cells,h1],fun n hn=>?_⟩
   simp only[ybb]at hn
   have e:(((ByteArray.mk s.toArray).extract 0 n).data.map fun b=>Value.int .u8 b.toNat)=(s.take n).toArray.map fun b=>Value.int .u8 b.toNat:=by
    simp
   refine⟨(s.take n).toArray.map fun b=>Value.int .u8 b.toNat,?_,by simp[h1];omega,?_,?_⟩
   ·rw[← e];simp[Builtin.firstCells]
   ·have:=yF (w:=w) (γ:=γ) (H:=H) (s.take n) #[]
    rw[← List.map_take,uj]
    simpa using this
   ·intro u hu
    simp only[Array.toList_map,List.mem_map]at hu
    obtain⟨b,_,rfl⟩:=hu
    rfl
  ·cases h
def A3(hs:State w γ H){id:Nat}{ob:AObj}(ho:H.get id=some ob):State w γ (H.set id ob)∧Ext w γ H w γ (H.set id ob):=by
  have hg:∀ i,(H.set id ob).get i=H.get i:=fun i=>by
    by_cases h:i=id
    · subst h;rw[AHeap.get_set_same _ _ (AHeap.get_lt ho),ho]
    · exact AHeap.get_set_ne _ _ h
  have he:Ext w γ H w γ (H.set id ob) :=
    {os:=rfl,tape:=rfl,output:=rfl,size:=Nat.le_refl _,nx:=Nat.le_refl _,block:=fun b C ty fr h=>⟨C,h,rfl,fun _ _ _ _=>rfl⟩,
      imm:=fun b e hb hi i o ho' hg'=>hi i o (by rw[← hg];exact ho') hg',
      un:=fun _ _ _=>rfl,
      none:=fun i _ h=>⟨by rw[hg];exact h,rfl⟩,
      keep:=fun i o h hb=>⟨rfl,fun sz n h'=>by rw[hg,h]at h';exact hb _ _ (Option.some.inj h')⟩,
      bufs:=fun i sz n h sz' n' h'=>by rw[hg,h]at h';cases h';exact⟨rfl,Nat.le_refl _,fun _=>rfl⟩,
      bufk:=fun i sz n h o h'=>by rw[hg,h]at h';cases h';exact⟨_,_,rfl⟩}
  exact⟨⟨fun i j oi oj b hi hj=>hs.inj i j oi oj b (by rw[← hg];exact hi) (by rw[← hg];exact hj),fun i o h=>by
    rw[hg]at h
    exact(hs.obj i o h).mono he rfl fun _ _ _ h=>h⟩,he⟩
def QK(hs:State w γ H){id sz n:Nat}(ho:H.get id=some (.buf sz n)):State w γ (H.set id (.buf sz n))∧Ext w γ H w γ (H.set id (.buf sz n)):=A3 hs ho
theorem rO:∀(cs:Wz)(off:Nat),splice cs off []=cs
 |[],_=>by cases ‹Nat›<;>rfl
 |c::cs,0=>rfl
 |c::cs,n+1=>by simp only[splice];rw[rO cs n]
def BP(hs:State w γ H){w':World}{id sz cap n:Nat}{xs:Wz}{C:Array Value}{ty:TypeId}(hos:w'.os=w.os)(htape:w'.tape=w.tape)(hout:w'.output=w.output)
 (hsz:w'.heap.size=w.heap.size+1) (hold:∀ b,b<w.heap.size→w'.heap[b]?=w.heap[b]?) (hnew:w'.heap[w.heap.size]?=some (.cells C ty (0,0)))
 (ho:H.get id=some (.buf sz n)) (hn:n<xs.length) (hle:xs.length≤cap) (hC:cap*sz≤C.size) (hall:∀ x∈xs,x.cells.length=sz) (hr:AtR (Rel w γ H) (flat xs) C 0) {run:Result Value}
 (hrun:run=.ok (.slice (some ⟨w.heap.size,0,none⟩) xs.length cap) w'):Out P w γ H (.slice (.own id) sz xs) (H.set id (.buf sz xs.length)) run:=by
 have he:=LY hs hos htape hout Xa hold (b':=w.heap.size) ho (Nat.le_refl _) hn
 refine⟨_,w',_,hrun,Cq hs hold ho (Nat.le_refl _) Xa he,he,?_⟩
 have hmul:xs.length*sz≤cap*sz:=Nat.mul_le_mul_right _ hle
 refine rel_slice.2 (.inr ⟨w.heap.size,0,cap,C,ty,(0,0),rfl,hle,hnew,Xa,?_,?_,hall,hr.mono fun x v h=>h.ext he⟩)
 ·intro id' o ho' hg
  rcases AHeap.get_set_inv _ _ ho' with⟨rfl,rfl,_⟩|⟨hne,ho'⟩
  ·exact⟨_,_,rfl,Xa⟩
  ·rw[eR _ _ _ _ hne]at hg
   have:=hs.lt ho' hg;omega
 ·refine⟨by rw[AHeap.nx_set];exact AHeap.get_lt ho,fun sz' n' h=>?_⟩
  rw[AHeap.get_set_same _ _ (AHeap.get_lt ho)]at h;cases h
  refine⟨rfl,Nat.le_refl _,fun _=>⟨eM _ _ _,rfl,fun p p1 p2=>?_⟩⟩
  dsimp only;omega
def LO(hs:State w γ H){id sz cap blk:Nat}{ys zs:Wz}{C us:Array Value}{ty:TypeId}{fr:Nat × Nat}(ho:H.get id=some (.buf sz ys.length))(hg:γ id=some blk)
 (hb:w.heap[blk]?=some (.cells C ty fr)) (hcap:cap*sz≤C.size) (hle:(ys++zs).length≤cap) (hth:lA fr 0 C.size) (hys:∀ x∈ys,x.cells.length=sz) (hzs:∀ x∈zs,x.cells.length=sz)
 (hry:AtR (Rel w γ H) (flat ys) C 0) (hrz:AtR (Rel w γ H) (flat zs) us 0) (hus:us.size=zs.length*sz) {run:Result Value}
 (hrun:run=.ok (.slice (some ⟨blk,0,none⟩) (ys++zs).length cap) (w.setRow blk (gD C (ys.length*sz) us.toList))) :
 Out P w γ H (.slice (.own id) sz (ys++zs)) (H.set id (.buf sz (ys++zs).length)) run:=by
 have hmul:(ys++zs).length*sz≤cap*sz:=Nat.mul_le_mul_right _ hle
 have hlen:(ys++zs).length*sz=ys.length*sz+zs.length*sz:=by rw[List.length_append,Nat.add_mul]
 have hfit:ys.length*sz+us.toList.length≤C.size:=Xf
 have hfy:(flat ys).length=ys.length*sz:=gJ hys
 have hfz:(flat zs).length=zs.length*sz:=gJ hzs
 have he:=zl hs hg hb (C':=gD C (ys.length*sz) us.toList) (fR _ _ _ hfit) ho (o':=.buf sz (ys++zs).length) (.inr ⟨_,_,_,rfl,rfl,Xc,fun i hi=>by
  rw[ic _ _ _ hfit,if_neg (Xa)]⟩)
 refine⟨_,_,_,hrun,tK hs hg hb (fR _ _ _ hfit) ho he (.inr ⟨_,_,rfl⟩),he,?_⟩
 refine rel_slice.2 (.inr ⟨blk,0,cap,_,ty,fr,rfl,hle,qH _ _ _ _ _ _ hb,by rw[fR _ _ _ hfit];omega,?_,?_,?_,?_⟩)
 ·intro id' o ho' hg'
  rcases AHeap.get_set_inv _ _ ho' with⟨rfl,rfl,_⟩|⟨hne,ho'⟩
  ·exact⟨_,_,rfl,Xa⟩
  ·exact absurd (hs.inj id' id o _ blk ho' ho hg' hg) hne
 ·refine⟨by rw[AHeap.nx_set];exact AHeap.get_lt ho,fun sz' n' h=>?_⟩
  rw[AHeap.get_set_same _ _ (AHeap.get_lt ho)]at h;cases h
  exact⟨rfl,Nat.le_refl _,fun _=>⟨hg,rfl,fun p p1 p2=>hth p Xa (by rw[fR _ _ _ hfit]at p2;exact p2)⟩⟩
 ·intro x hx
  rcases List.mem_append.1 hx with h|h
  ·exact hys x h
  ·exact hzs x h
 ·have e:flat (ys++zs)=flat ys++flat zs:=by simp[flat]
  rw[e,AtR.append]
  refine⟨fun j hj=>?_,fun j hj=>?_⟩
  ·obtain⟨u,hu,hr⟩:=hry j hj
   exact⟨u,by rw[ic _ _ _ hfit,if_neg (by omega)];exact hu,hr.ext he⟩
  ·obtain⟨u,hu,hr⟩:=hrz j hj
   refine⟨u,?_,hr.ext he⟩
   rw[ic _ _ _ hfit,if_pos (Xf)]
   rw[Nat.zero_add]at hu
   rw[Array.getElem?_toList,← hu];congr 1;omega
section
variable {ts:Array TypeId} {t t2 e ty:TypeId} (h0:ts[0]?=some t) (h1:ts[1]?=some t2) (hu:P.underlying t=some (.slice e)) {d2:TypeDesc} (hu2:P.underlying t2=some d2)
 (hz:d2=.string∨∃ e2,d2=.slice e2)
 {einf:TypeInfo} (heinf:P.info? e=some einf) {vx:Value} {n:Nat} {us:Array Value} (hn:(Builtin.lenOf vx).run P w=.ok n w)
include h0 h1 hu hu2 hz heinf hn
theorem pg(hus:(Builtin.firstCells einf.size n vx).run P w=.ok us w){base:Option Addr}{sLen sCap:Nat}(hle:sLen+n≤sCap) :
 (Builtin.append_ ts ty #[.slice base sLen sCap,vx]).run P w =
   match base with
   |some a=>((storeCells (a.add (sLen*einf.size)) us.toList).run P w).andThen fun _ w'=>.ok (.slice base (sLen+n) sCap) w'
   |none=>.ok (.slice base (sLen+n) sCap) w:=by
 rcases hz with rfl|⟨e2,rfl⟩
 all_goals
  unfold Builtin.append_
  simp only[h0,h1,List.getElem?_toArray,yam,yan,Sem.run_bind,bN hu,Result.andThen_ok,ff heinf,bN hu2,Sem.run_pure,Bool.false_eq_true,if_false,hn,
   Bool.not_false,if_true]
  rw[if_pos hle]
  simp only[Sem.run_bind,hus,Result.andThen_ok]
  cases base<;>simp
theorem mT(hus:(Builtin.firstCells einf.size n vx).run P w.drew=.ok us w.drew){base:Option Addr}{sLen sCap:Nat}(hlt:sCap<sLen+n)(hb:(sLen+n)*einf.bytes≤140737488355328)
 (hm:sLen+n≤140737488355328) {old:Array Value} (hold:(Builtin.firstCells einf.size sLen (.slice base sLen sCap)).run P w.drew=.ok old w.drew) {ez:Value} (hez:einf.zero=some ez) :
 (Builtin.append_ ts ty #[.slice base sLen sCap,vx]).run P w =
   .ok (.slice (some ⟨w.heap.size,0,none⟩) (sLen+n) (grownCap w (sLen+n) sCap e)) (w.drew.alloc (.cells (old++us++Builtin.zeroCells ez.cells (grownCap w (sLen+n) sCap e-(sLen+n))) e)):=by
 have hg:=growslice_fits (old:=sCap) hlt hb
 have hg':¬ (Builtin.nextslicecap (sLen+n) sCap*einf.bytes>2^48):=by
  have:(2:Nat)^48=281474976710656:=Xb
  omega
 have h63:¬ (((sLen+n:Nat):Int)>IntKind.i64.max∧((false:Bool)=true∨einf.bytes=0)):=by
  have:IntKind.i64.max=9223372036854775807:=Xb
  rw[this];omega
 have hnle:¬ sLen+n≤sCap:=Xa
 have hq:(Question.appendCap (sLen+n) sCap e).forced=false:=rfl
 rcases hz with rfl|⟨e2,rfl⟩
 all_goals
  unfold Builtin.append_
  simp only[h0,h1,List.getElem?_toArray,yam,yan,Sem.run_bind,bN hu,Result.andThen_ok,ff heinf,bN hu2,Sem.run_pure,Bool.false_eq_true,if_false,hn,
   Bool.not_false,if_true]
  rw[if_neg hnle]
  simp only[Sem.run_bind,p6 heinf,Result.andThen_ok]
  rw[if_neg (by simpa using h63)]
  simp only[Sem.run_bind,p6 heinf,Result.andThen_ok]
  rw[if_neg hg']
  simp only[Sem.run_bind,run_choose,hq,Bool.false_eq_true,if_false,Result.andThen_ok,World.drew_eq,p6 heinf,run_askRoom,hold,hus,jA heinf hez]
  rfl
end
theorem yE{te:TI}{sz:Nat}{zs:Wz}{v:Value}(hsz:sz=te.size∨zs=[])(h:Ok w γ H sz zs v){us:Array Value}(k1:(Builtin.firstCells te.size zs.length v).run P w=.ok us w) :
 (Builtin.firstCells te.size zs.length v).run P w.drew=.ok us w.drew:=by
 rcases h with⟨⟨a,rfl⟩,rfl⟩|⟨blk,off,cap,C,ty,fr,rfl,hle,hb,hcap,_⟩
 ·cases a<;>(simp[Builtin.firstCells,loadCells,loadCellsFrom]at k1 ⊢;exact k1)
 ·simp only[Builtin.firstCells]at k1 ⊢
  have hfit:off+zs.length*te.size≤C.size:=by
   rcases hsz with rfl|rfl
   ·have:=Nat.mul_le_mul_right te.size hle;omega
   ·simp;omega
  rw[lE hb hfit]at k1
  rw[lE (w:=w.drew) hb hfit]
  simp only[Result.ok.injEq,and_true]at k1 ⊢
  exact k1
theorem ny(hs:State w γ H){te:TI}{e:TypeId}(hte:ti P e=some te){x:AV}{zs:Wz}{v:Value}(hx:Rel w γ H x v)(h:zc te x H=some zs)(hone:∀ z∈zs,dp z.cells=true) :
 ∃ us:Array Value,(Builtin.lenOf v).run P w=.ok zs.length w∧(∀ z∈zs,z.cells.length=te.size)∧(Builtin.firstCells te.size zs.length v).run P w=.ok us w ∧
  (Builtin.firstCells te.size zs.length v).run P w.drew=.ok us w.drew∧us.size=zs.length*te.size∧AtR (Rel w γ H) (flat zs) us 0∧∀ u∈us.toList,u.oneCell'=true:=by
 obtain⟨h1,h2,h3⟩:=yl (P:=P) hs hte hx h hone
 obtain⟨us,k1,k2,k3,k4⟩:=h3 zs.length (Nat.le_refl _)
 rw[List.take_length]at k3
 refine⟨us,h1,h2,k1,?_,k2,k3,k4⟩
 -- the same cells are read
 unfold zc at h
 split at h
 ·split at h
  ·rename_i hsz
   split at h<;>cases h
   rename_i cs hc
   exact yE (.inl hsz) (ES hs hx hc) k1
  ·cases h
 ·rename_i m sz xs
  split at h<;>cases h
  rename_i hsz
  exact yE hsz (wt hx) k1
 ·split at h<;>cases h
  rw[mb hx]at k1 ⊢
  simp only[Builtin.firstCells,Sem.run_pure,Result.ok.injEq,and_true]at k1 ⊢
  exact k1
 ·cases h
theorem qB(hs:State w γ H){t t2:TypeId}{s x:AV}{vs vx:Value}{r:R}(hsr:Rel w γ H s vs)(hx:Rel w γ H x vx)(h:zjs P t t2 s x H=some r)(hc:r.c)
 (ts:Array TypeId) (h0:ts[0]?=some t) (h1:ts[1]?=some t2) (ty:TypeId):Out P w γ H r.v r.H ((Builtin.append_ ts ty #[vs,vx]).run P w):=by
 unfold zjs at h
 split at h
 ·rename_i ht2
  obtain⟨d2,hu2,hd2⟩:∃ d2,P.underlying t2=some d2∧(d2=.string∨∃ e2,d2=.slice e2):=by
   exact W9
  split at h
  ·rename_i e hd
   have hu:=jd hd
   split at h
   ·rename_i te m sz ys hte
    have hte0:=hte
    obtain⟨ed,einf,ez,hed,heinf,hez,rfl⟩:=em hte
    split at h
    ·rename_i hcond
     obtain⟨hpos,hzl,hszm⟩:=hcond
     dsimp only at hpos hzl hszm h
     split at h
     ·rename_i zs m' H' hadd hgrow
      cases h
      obtain⟨hroom,hbytes,hmax,hone⟩:=hc
      rw[hadd]at hgrow
      simp only[yai]at hgrow
      obtain⟨us,a1,a2,a3,a4,a5,a6,a7⟩:=ny (P:=P) hs hte0 hx hadd hone
      dsimp only at a2 a3 a4 a5 hbytes
      have hezc:ez.cells.size=einf.size:=by
       obtain⟨z1,_⟩:=jG (w:=w) (γ:=γ) (H:=H) ez
       rw[z1,hzl]
      -- growth into a new row
      have hgrown:∀(old:Array Value)(oldCap:Nat),(∀ y∈ys,y.cells.length=einf.size)→AtR (Rel w γ H) (flat ys) old 0→old.size=ys.length*einf.size →
       (∀ y∈ys++zs,y.cells.length=einf.size) ∧
       AtR (Rel w γ H) (flat (ys++zs)) (old++us++Builtin.zeroCells ez.cells (grownCap w (ys.length+zs.length) oldCap e-(ys.length+zs.length))) 0 ∧
       grownCap w (ys.length+zs.length) oldCap e*einf.size≤(old++us++Builtin.zeroCells ez.cells (grownCap w (ys.length+zs.length) oldCap e-(ys.length+zs.length))).size:=by
       intro old oldCap q1 q2 q3
       refine⟨fun y hy=>?_,?_,?_⟩
       ·rcases List.mem_append.1 hy with h|h
        ·exact q1 y h
        ·exact a2 y h
       ·have e1:flat (ys++zs)=flat ys++flat zs:=by simp[flat]
        have l1:(flat ys).length=old.size:=by rw[gJ q1,q3]
        have l2:(flat zs).length=us.size:=by rw[gJ a2,a5]
        rw[e1,AtR.append]
        refine⟨fun j hj=>?_,fun j hj=>?_⟩
        ·obtain⟨u,hu,hr⟩:=q2 j hj
         refine⟨u,?_,hr⟩
         rw[Array.append_assoc,Array.getElem?_append_left (Xa)];exact hu
        ·obtain⟨u,hu,hr⟩:=a6 j hj
         refine⟨u,?_,hr⟩
         rw[Array.append_assoc,Array.getElem?_append_right Xa,Array.getElem?_append_left Xa,← hu]
         congr 1;omega
       ·have hge:=grownCap_ge w (ys.length+zs.length) oldCap e
        simp only[Array.size_append,size_zeroCells,q3,a5,hezc,← Nat.add_mul]
        exact Nat.mul_le_mul_right _ Xa
      have hl:(ys++zs).length=ys.length+zs.length:=List.length_append
      -- a slice without a row
      have hnil:∀ a:Option Addr,ys=[]→vs=.slice a 0 0→((m=.nil∨(m=.full∧zs≠[]))∨∃ id,m=.own id∧H.get id=some (.buf einf.size 0)) →
       Out P w γ H (.slice m' einf.size (ys++zs)) H' ((Builtin.append_ ts ty #[vs,vx]).run P w):=by
       rintro a rfl rfl hm
       simp only[yak,yba,Nat.zero_add]at hgrown hl hbytes hmax hgrow ⊢
       by_cases hz:zs.length=0
       ·have hzn:zs=[]:=List.eq_nil_of_length_eq_zero hz
        subst hzn
        have hrun:=pg (P:=P) (ty:=ty) h0 h1 hu hu2 hd2 heinf a1 a3 (base:=a) (sLen:=0) (sCap:=0) Xc
        have hus:us=#[]:=by
         simp at a5;exact a5
        subst hus
        have hrun':(Builtin.append_ ts ty #[.slice a 0 0,vx]).run P w=.ok (.slice a 0 0) w:=by
         rw[hrun];cases a<;>simp[storeCells]
        rcases hm with(rfl|⟨_,hz0⟩)|⟨id,rfl,ho⟩
        rotate_left
        ·exact absurd rfl hz0
        rotate_left
        ·simp only[yU,Option.some.injEq,Prod.mk.injEq]at hgrow
         obtain⟨rfl,rfl⟩:=hgrow
         have he:=jC hs (w':=w) rfl rfl rfl (Nat.le_refl _) (fun _ _=>rfl) none (fun b h=>by cases h) (.buf einf.size 0)
         refine⟨_,w,_,hrun',io hs (fun b h=>by cases h) he (fun _ _=>rfl) (.inr (.inl ⟨_,_,rfl⟩)),he,?_⟩
         refine rel_slice.2 (.inl ⟨⟨_,rfl⟩,rfl,Xq,fun sz' n h=>?_⟩)
         rw[AHeap.get_push_new]at h;cases h;rfl
        ·simp only[yU,Option.some.injEq,Prod.mk.injEq]at hgrow
         obtain⟨rfl,rfl⟩:=hgrow
         obtain⟨s1,e1⟩:=QK hs ho
         refine⟨_,w,γ,hrun',s1,e1,rel_slice.2 (.inl ⟨⟨_,rfl⟩,rfl,by rw[AHeap.nx_set];exact AHeap.get_lt ho,fun sz' n h=>?_⟩)⟩
         rw[yba,AHeap.get_set_same _ _ (AHeap.get_lt ho)]at h;cases h;rfl
       ·have hold:(Builtin.firstCells einf.size 0 (.slice a 0 0)).run P w.drew=.ok #[] w.drew:=by
         exact W30
        have hrun:=mT (P:=P) (ty:=ty) h0 h1 hu hu2 hd2 heinf a1 a4 (base:=a) (sLen:=0) (sCap:=0) Xa (by simpa using hbytes) Xa hold hez
        simp only[Nat.zero_add]at hrun
        obtain⟨g1,g2,g3⟩:=hgrown #[] 0 Xc (by simpa[flat]using AtR.nil) Xc
        rcases hm with(rfl|⟨rfl,_⟩)|⟨id,rfl,ho⟩
        rotate_right
        ·simp only[yU,Option.some.injEq,Prod.mk.injEq]at hgrow
         obtain⟨rfl,rfl⟩:=hgrow
         exact W20
        all_goals
         simp only[yU,Option.some.injEq,Prod.mk.injEq]at hgrow
         obtain⟨rfl,rfl⟩:=hgrow
         exact uQ hs (w':=w.drew.alloc _) (fr:=(0,0)) rfl rfl rfl Xc (fun b hb=>iu w.drew _ hb) (im w.drew _) (.inr rfl) (grownCap_ge _ _ _ _) g3 g1 g2 hrun
      rcases rel_slice.1 hsr with⟨⟨a,rfl⟩,rfl,hmn⟩|⟨blk,off,cap,C,cty,fr,rfl,hle,hb,hcap,himm,hm,hall,hr⟩
      ·refine hnil a rfl rfl ?_
       cases m with
       |nil=>exact .inl (.inl rfl)
       |own id=>exact .inr ⟨id,rfl,hroom⟩
       |full=>exact .inl (.inr ⟨rfl,hroom⟩)
       |any=>exact hroom.elim
      ·have hszv:sz=einf.size:=by
        rcases hszm with h|rfl
        ·exact h
        ·exact hm.elim
       subst hszv
       have holdr:(Builtin.firstCells einf.size ys.length (.slice (some ⟨blk,off,none⟩) ys.length cap)).run P w.drew=.ok (C.extract off (off+ys.length*einf.size)) w.drew:=by
        simp only[Builtin.firstCells]
        have:=Nat.mul_le_mul_right einf.size hle
        exact lE (w:=w.drew) hb Xa
       have hlen:(flat ys).length=ys.length*einf.size:=gJ hall
       have hmle:=Nat.mul_le_mul_right einf.size hle
       obtain⟨g1,g2,g3⟩:=hgrown (C.extract off (off+ys.length*einf.size)) cap hall (hr.extract hlen) Xf
       cases m with
       |any=>exact hroom.elim
       |nil=>exact hm.elim
       |full =>
        have hcl:cap=ys.length:=hm
        have hzl:0<zs.length:=List.length_pos_iff.2 hroom
        simp only[yU,Option.some.injEq,Prod.mk.injEq]at hgrow
        obtain⟨rfl,rfl⟩:=hgrow
        have hrun:=mT (P:=P) (ty:=ty) h0 h1 hu hu2 hd2 heinf a1 a4 (base:=some ⟨blk,off,none⟩) (sLen:=ys.length) (sCap:=cap) Xa hbytes hmax holdr hez
        rw[← hl]at hrun g2 g3 ⊢
        exact uQ hs (w':=w.drew.alloc _) (fr:=(0,0)) rfl rfl rfl Xc (fun b hb=>iu w.drew _ hb) (im w.drew _) (.inr rfl) (grownCap_ge _ _ _ _) g3 g1 g2 hrun
       |own id =>
        simp only[yU,Option.some.injEq,Prod.mk.injEq]at hgrow
        obtain⟨rfl,rfl⟩:=hgrow
        have ho:H.get id=some (.buf einf.size ys.length):=hroom
        obtain⟨hid,hm⟩:=hm
        obtain⟨_,_,hm⟩:=hm _ _ ho
        obtain⟨hg,rfl,hth⟩:=hm rfl
        by_cases hfit:ys.length+zs.length≤cap
        ·have hrun:=pg (P:=P) (ty:=ty) h0 h1 hu hu2 hd2 heinf a1 a3 (base:=some ⟨blk,0,none⟩) (sLen:=ys.length) (sCap:=cap) hfit
         have hfm:=Nat.mul_le_mul_right einf.size hfit
         rw[Nat.add_mul]at hfm
         have hst:=jN (P:=P) blk (ys.length*einf.size) cty fr us.toList 0 C w hb Xf a7 (fun p p1 p2=>hth p Xa (by simp at p2;omega))
         rw[← hl]at hrun hfit ⊢
         refine LO hs ho hg hb Xa hfit hth hall a2 hr a6 a5 ?_
         rw[hrun]
         simp only[jz,Nat.zero_add]
         rw[hst]
         simp[gD]
        ·have hrun:=mT (P:=P) (ty:=ty) h0 h1 hu hu2 hd2 heinf a1 a4 (base:=some ⟨blk,0,none⟩) (sLen:=ys.length) (sCap:=cap) Xa hbytes hmax holdr hez
         rw[← hl]at hrun g2 g3 ⊢
         exact W20
     ·cases h
    ·cases h
   ·cases h
  ·cases h
 ·cases h
theorem AF(hs:State w γ H){t:TypeId}{d x:AV}{vd vx:Value}{r:R}(hdr:Rel w γ H d vd)(hx:Rel w γ H x vx)(h:ziz P t d x H=some r)(hc:r.c)
 (ts:Array TypeId) (h0:ts[0]?=some t) (ty:TypeId):Out P w γ H r.v r.H ((Builtin.copy_ ts ty #[vd,vx]).run P w):=by
 unfold ziz at h
 split at h
 ·rename_i e hd
  have hu:=jd hd
  split at h
  ·rename_i te hte
   have hte0:=hte
   obtain⟨ed,einf,ez,hed,heinf,hez,rfl⟩:=em hte
   split at h
   ·rename_i id off sz len zs hadd
    split at h
    ·rename_i cs hcs
     split at h<;>cases h
     rename_i hsz
     obtain⟨hfit,hone⟩:=hc
     dsimp only at hsz
     subst hsz
     obtain⟨a1,a2,a3⟩:=yl (P:=P) hs hte0 hx hadd hone
     obtain⟨us,b1,b2,b3,b4⟩:=a3 (min zs.length len) (Nat.min_le_left _ _)
     dsimp only at a2 b1 b2
     have hmin:zs.take (min zs.length len)=zs.take len:=by
      rcases Nat.le_total zs.length len with h|h
      ·rw[Nat.min_eq_left h,ybc h,ybc (Nat.le_refl _)]
      ·rw[Nat.min_eq_right h]
     rw[hmin]at b3
     cases hg:γ id with
     |none =>
      -- the object is still to come: nothing is copied
      have ho:H.get id=some (.cells cs):=by
       unfold a8 at hcs
       split at hcs<;>cases hcs
       assumption
      obtain⟨_,_,hdr⟩:=rel_ms.1 hdr
      rcases hdr with⟨rfl,a,rfl⟩|⟨blk',cap,C',cty',fr',hg',_⟩
      ·have hus:us=#[]:=by simpa using b2
       subst hus
       have e4:splice cs off (flat (zs.take 0))=cs:=by simpa[flat]using rO cs off
       obtain⟨hst,he⟩:=A3 hs ho
       refine⟨.int .i64 (min zs.length 0:Nat),w,γ,?_,by show State w γ (H.set id (.cells (splice cs off (flat (zs.take 0)))));rw[e4];exact hst,by show Ext w γ H w γ (H.set id (.cells (splice cs off (flat (zs.take 0)))));rw[e4];exact he,jH _ _⟩
       exact W13
      ·rw[hg]at hg';cases hg'
     |some blk =>
     obtain⟨ho,C,cty,fr,_,hb,hcl,hcr,hth⟩:=mX hs hcs hg
     have hfl:(flat (zs.take len)).length=us.size:=by
      rw[gJ (sz:=einf.size) (fun z hz=>a2 z (List.mem_of_mem_take hz)),b2,← hmin,List.length_take,Nat.min_eq_left (Nat.min_le_left _ _)]
     have hle2:us.size≤len*einf.size:=by rw[b2];exact Nat.mul_le_mul_right _ (Nat.min_le_right _ _)
     have hfit2:off+(flat (zs.take len)).length≤cs.length:=Xa
     have he:=zl hs hg hb (C':=gD C off us.toList) (fR _ _ _ Xf) ho (o':=.cells (splice cs off (flat (zs.take len)))) (.inl ⟨_,_,rfl,rfl⟩)
     have hst:=tK hs hg hb (C':=gD C off us.toList) (fR _ _ _ Xf) ho he (.inl ⟨_,rfl,by rw[ia _ _ _ hfit2,fR _ _ _ (by simp;omega)];exact hcl,
      hcr.splice (by simpa using b3) (by simp[hfl]) hfit2 (Nat.le_of_eq hcl),by rw[ia _ _ _ hfit2];exact hth⟩)
     have hstore:=jN (P:=P) blk off cty fr us.toList 0 C w hb Xf b4 (fun p p1 p2=>hth p Xa (by simp at p2;omega))
     obtain⟨_,_,hdr⟩:=rel_ms.1 hdr
     rcases hdr with⟨rfl,a,rfl⟩|⟨blk',cap,C',cty',fr',hg',rfl,hlc,hb',hcap',_⟩
     ·-- nothing is copied
      have hus:us=#[]:=by simpa using b2
      subst hus
      refine⟨.int .i64 (min zs.length 0:Nat),_,γ,?_,hst,he,jH _ _⟩
      have e1:gD C off ([]:List Value)=C:=by simp[gD]
      have e2:w.setRow blk C=w:=setRow_self w blk C cty fr hb
      rw[e1,e2]
      exact W13
     ·rw[hg]at hg';cases hg'
      refine⟨.int .i64 (min zs.length len:Nat),_,γ,?_,hst,he,jH _ _⟩
      simp only[Builtin.copy_,h0,List.getElem?_toArray,yam,yan,Sem.run_bind,bN hu,Result.andThen_ok,a1,ff heinf]
      have e3:Nat.min zs.length len=min zs.length len:=rfl
      rw[e3,b1]
      simp only[Result.andThen_ok,Sem.run_bind,Sem.run_pure]
      rw[hstore]
      simp[gD,goInt]
    ·cases h
   ·cases h
  ·cases h
 ·cases h
theorem xB(hs:State w γ H){x:AV}{t a:TypeId}{ok:Bool}{v:Value}{r:R}(hx:Rel w γ H x v)(h:nX P x a ok H=some r) :
 Out P w γ H r.v r.H ((Instr.typeAssert v t a ok).run P w):=by
 unfold nX at h
 split at h
 ·rename_i i hi
  obtain⟨d,inf,z,hd,hinf,hz,rfl⟩:=em hi
  dsimp only at h
  have hni:(∀ ms,gv d≠.iface ms)→∀ ms,d≠.interface ms:=fun hh ms e=>by subst e;exact hh _ rfl
  have tup2:∀{p q:AV}{v u:Value},Rel w γ H p v→Rel w γ H q u→Rel w γ H (.tup [p,q]) (.tuple #[v,u]):=fun{p q v u} hp hq=>by
   rw[Rel]
   refine⟨_,rfl,rfl,fun j hj=>?_⟩
   match j,hj with
   |0,_=>exact⟨v,rfl,hp⟩
   |1,_=>exact⟨u,rfl,hq⟩
  split at h
  ·cases h
  ·rename_i t' y hif
   rw[Rel]at hx
   obtain⟨u,rfl,hy⟩:=hx
   have hn:=hni fun ms e=>hif ms e
   split at h
   ·rename_i hta
    subst hta
    cases h
    cases ok
    ·refine Out.same hs (v:=u) ?_ (by simpa using hy)
     cases d<;>first|exact absurd rfl (hn _)|simp[Instr.typeAssert,bN hd]
    ·refine Out.same hs (v:=.tuple #[u,.bool true]) ?_ (tup2 hy (jp _))
     cases d<;>first|exact absurd rfl (hn _)|simp[Instr.typeAssert,bN hd]
   ·rename_i hta
    split at h<;>cases h
    rename_i hok
    subst hok
    refine Out.same hs (v:=.tuple #[z,.bool false]) ?_ (tup2 (jm _) (jp _))
    cases d<;>first|exact absurd rfl (hn _)|simp[Instr.typeAssert,bN hd,hta,jA hinf hz]
  ·rename_i hif
   have hn:=hni fun ms e=>hif ms e
   rw[Rel]at hx
   subst hx
   split at h<;>cases h
   rename_i hok
   subst hok
   refine Out.same hs (v:=.tuple #[z,.bool false]) ?_ (tup2 (jm _) (jp _))
   cases d<;>first|exact absurd rfl (hn _)|simp[Instr.typeAssert,bN hd,jA hinf hz]
  ·cases h
 ·cases h
theorem zj{r:Nat}{E:Array MapEntry}{clock:Nat}(h:w.heap[r]?=some (.map E clock)):(getObj r).run P w=.ok (.map E clock) w:=by simp[getObj,Sem.run,h]
theorem vy{r:Nat}{E:Array MapEntry}{clock:Nat}(h:w.heap[r]?=some (.map E clock))(o:Obj):(setObj r o).run P w=.ok () (vY w r o):=by simp[setObj,Sem.run,h,vY]
theorem r8{t k e:TypeId}(h:(ti P t).map TI.desc=some (.map k e)):P.underlying t=some (.map k e):=by
 obtain⟨d,i,h1,h2,h3⟩:=jD h
 cases d<;>simp[gv]at h3
 rw[h3.1,h3.2]at h1;exact h1
theorem Fq:MapOk [] #[] 0 where
 flat:=fun p hp=>by cases hp
 one:=fun i j a b h _ _=>by simp at h
 back:=fun i a h=>by simp at h
 here:=fun k x h=>by cases h
 clk:=rfl
 born:=fun i a h=>by simp at h
 size:=rfl
 ord:=fun i a h=>by simp at h
theorem ve(hs:State w γ H){t:TypeId}{n:Option AV}{vn:Option Value}{r:R}(hn:RelO w γ H n vn)(h:ziw P t n H=some r):Out P w γ H r.v r.H ((Instr.makeMap t vn).run P w):=by
 have hrun:(∃ k e,(ti P t).map TI.desc=some (.map k e))∧r=⟨True,.mapv H.nx,H.push (.mapo [])⟩∧(n=none∨∃ k i,n=some (.int k i)):=by
  unfold ziw at h
  split at h
  ·rename_i k e hd;cases h;exact⟨⟨_,_,hd⟩,rfl,.inl rfl⟩
  ·rename_i k e q i hd;cases h;exact⟨⟨_,_,hd⟩,rfl,.inr ⟨_,_,rfl⟩⟩
  ·cases h
 obtain⟨⟨k,e,hd⟩,rfl,hnn⟩:=hrun
 have hr:(Instr.makeMap t vn).run P w=.ok (.map (some w.heap.size)) (w.alloc (.map #[] 0)):=by
  rcases hnn with rfl|⟨q,i,rfl⟩
  ·cases vn with
   |none=>simp[Instr.makeMap]
   |some v=>exact absurd hn (by simp[RelO])
  ·cases vn with
   |none=>exact absurd hn (by simp[RelO])
   |some v =>
    have hv:v=.int q i:=gY (show Rel w γ H (.int q i) v from hn)
    subst hv
    simp[Instr.makeMap,bN (r8 hd),asInt,j7]
 have he:=jC hs (w':=w.alloc (.map #[] 0)) rfl rfl rfl Xc (fun b hb=>iu w _ hb) (some w.heap.size) (fun b h=>by cases h;exact Nat.le_refl _) (.mapo [])
 refine⟨_,_,_,hr,io hs (fun b h=>by cases h;simp) he (fun b hb=>iu w _ hb) (.inr (.inr (.inr ⟨[],#[],0,w.heap.size,rfl,rfl,im w _,Fq⟩))),he,?_⟩
 have hnb:notBuf (H.push (.mapo [])) H.nx:=fun sz n h=>by rw[AHeap.get_push_new]at h;cases h
 rw[Rel]
 exact⟨Xq,hnb,_,eM _ _ _,rfl⟩
theorem wH{kt:TypeId}{es:List (AV × AV)}{E:Array MapEntry}{clock:Nat}(hm:MapOk es E clock)(hK:Maps.Keyed P kt)(hes:∀ p∈es,iZ P kt p.1){k:AV}(hk:iZ P kt k)(hf:k.flat=true)(w:World) :
 ((Instr.findKey kt (dY k) E.toList).run P w=.ok none w∧ki es k=none∧∀ e∈E.toList,e.key≠dY k) ∨
 ∃ j e x,(Instr.findKey kt (dY k) E.toList).run P w=.ok (some (j,dY x)) w∧E[j]?=some e∧e.key=dY k∧ki es k=some x∧x.flat=true:=by
 obtain⟨l,hl⟩:=hk
 have hall:∀ e∈E.toList,∃ l,keyOf P kt e.key=some l:=fun e he=>by
  obtain⟨i,hi⟩:=List.getElem?_of_mem he
  obtain⟨k',x',h1,h2,h3⟩:=hm.back i e (by rw[← Array.getElem?_toList];exact hi)
  rw[h1];exact hes _ (oY h3)
 rcases hK.find w hl E.toList hall with⟨h1,h2⟩|⟨j,e,h1,h2,h3⟩
 ·refine .inl ⟨h1,?_,h2⟩
  cases hg:ki es k with
  |none=>rfl
  |some x =>
   obtain⟨i,a,h4,h5⟩:=hm.here k x hg
   exact absurd h5 (h2 a (by rw[← Array.getElem?_toList]at h4;exact List.mem_of_getElem? h4))
 ·rw[Array.getElem?_toList]at h2
  obtain⟨k',x',h4,h5,h6⟩:=hm.back j e h2
  obtain⟨f1,f2⟩:=hm.flat _ (oY h6)
  have:k'=k:=tH f1 hf (by rw[← h4,h3])
  subst this
  exact .inr ⟨j,e,x',by rw[h1,h5],h2,h3,h6,f2⟩
theorem uZ(hs:State w γ H){id:Nat}{es:List (AV × AV)}(h:H.get id=some (.mapo es)):∃ blk E clock,γ id=some blk∧w.heap[blk]?=some (.map E clock)∧MapOk es E clock:=hs.obj id _ h
theorem xD(hs:State w γ H){t:TypeId}{m k:AV}{vm vk:Value}{ok:Bool}{r:R}(hm:Rel w γ H m vm)(hk:Rel w γ H k vk)(h:zix P t m k ok H=some r)(hc:r.c) :
 Out P w γ H r.v r.H ((Instr.lookup t vm vk ok).run P w):=by
 unfold zix at h
 split at h
 ·rename_i kt et id hd
  split at h
  ·rename_i es ie hg hie
   cases h
   obtain⟨hK,hes,hkg,hf⟩:=hc
   have hkv:=(ll hf vk).1 hk
   subst hkv
   rw[Rel]at hm
   obtain⟨_,_,blk,hgb,rfl⟩:=hm
   obtain⟨blk',E,clock,g1,g2,g3⟩:=uZ hs hg
   rw[hgb]at g1;cases g1
   obtain⟨d,inf,z,hd',hinf,hz,rfl⟩:=em hie
   obtain⟨l,hl⟩:=hkg
   have hck:=hK.check w E.isEmpty hl
   have hgo:(getObj blk).run P w=.ok (.map E clock) w:=zj g2
   rcases wH g3 hK hes ⟨l,hl⟩ hf w with⟨h1,h2,_⟩|⟨j,e,x,h1,_,_,h2,h3⟩
   ·refine Out.same hs (v:=if ok then .tuple #[z,.bool false]else z) ?_ ?_
    ·simp[Instr.lookup,bN (r8 hd),hgo,hck,h1,jA hinf hz]
    ·simp only[sH,h2]
     cases ok
     ·exact jm z
     ·simp only[if_true];rw[Rel]
      refine⟨_,rfl,rfl,fun j hj=>?_⟩
      match j,hj with
      |0,_=>exact⟨z,rfl,jm z⟩
      |1,_=>exact⟨_,rfl,jp _⟩
   ·refine Out.same hs (v:=if ok then .tuple #[dY x,.bool true]else dY x) ?_ ?_
    ·simp[Instr.lookup,bN (r8 hd),hgo,hck,h1]
    ·simp only[sH,h2]
     cases ok
     ·exact(ll h3 _).2 rfl
     ·simp only[if_true];rw[Rel]
      refine⟨_,rfl,rfl,fun j hj=>?_⟩
      match j,hj with
      |0,_=>exact⟨_,rfl,(ll h3 _).2 rfl⟩
      |1,_=>exact⟨_,rfl,jp _⟩
  ·cases h
 ·cases h
theorem v9{es:List (AV × AV)}{E:Array MapEntry}{clock:Nat}(hm:MapOk es E clock){k x:AV}(hk:k.flat=true)(hx:x.flat=true)(hn:∀ e∈E.toList,e.key≠dY k)(hg:ki es k=none) :
 MapOk ((k,x)::es) (E.push ⟨dY k,dY x,clock⟩) (clock+1) where
 flat:=fun p hp=>by
  rcases List.mem_cons.1 hp with rfl|hp
  ·exact⟨hk,hx⟩
  ·exact hm.flat p hp
 one:=fun i j a b hi hj e=>by
  rw[Array.getElem?_push]at hi hj
  split at hi<;>split at hj
  ·omega
  ·cases hi
   exact absurd e.symm (hn b (by rw[← Array.getElem?_toList]at hj;exact List.mem_of_getElem? hj))
  ·cases hj
   exact absurd e (hn a (by rw[← Array.getElem?_toList]at hi;exact List.mem_of_getElem? hi))
  ·exact hm.one i j a b hi hj e
 back:=fun i a hi=>by
  rw[Array.getElem?_push]at hi
  split at hi
  ·cases hi
   exact⟨k,x,rfl,rfl,by rw[ki,vZ hk];rfl⟩
  ·obtain⟨k',x',h1,h2,h3⟩:=hm.back i a hi
   refine⟨k',x',h1,h2,?_⟩
   rw[ki]
   split
   ·rename_i he
    have:=tO he
    subst this
    exact absurd h1 (hn a (by rw[← Array.getElem?_toList]at hi;exact List.mem_of_getElem? hi))
   ·exact h3
 here:=fun k' x' h=>by
  rw[ki]at h
  split at h
  ·rename_i he
   cases h
   rw[← tO he]
   exact⟨E.size,⟨dY k,dY x,clock⟩,Xc,rfl⟩
  ·obtain⟨i,a,h1,h2⟩:=hm.here k' x' h
   refine⟨i,a,?_,h2⟩
   have:i<E.size:=by
    rcases Nat.lt_or_ge i E.size with h|h
    ·exact h
    ·rw[Array.getElem?_eq_none h]at h1;cases h1
   rw[Array.getElem?_push,if_neg (Xa)];exact h1
 clk:=by rw[Array.size_push,hm.clk]
 born:=fun i a hi=>by
  rw[Array.getElem?_push]at hi
  split at hi
  ·rename_i h;cases hi;exact hm.clk.trans h.symm
  ·exact hm.born i a hi
 size:=by rw[iQ,hg,if_neg (by simp),Array.size_push,List.length_append,hm.size];rfl
 ord:=fun i a hi=>by
  rw[iQ,hg,if_neg (Xc)]
  rw[Array.getElem?_push]at hi
  split at hi
  ·rename_i h;cases hi;exact⟨k,by rw[h,← hm.size];simp,rfl⟩
  ·obtain⟨k',h1,h2⟩:=hm.ord i a hi
   refine⟨k',?_,h2⟩
   rw[List.getElem?_append_left (by rcases Nat.lt_or_ge i (iQ es).length with h|h;exact h;rw[List.getElem?_eq_none h]at h1;cases h1)]
   exact h1
theorem vt{es:List (AV × AV)}{E:Array MapEntry}{clock:Nat}(hm:MapOk es E clock){k:AV}(hf:k.flat=true){j:Nat}{e0:MapEntry}(hj:E[j]?=some e0)(he:e0.key=dY k):(ki es k).isSome=true:=by
 obtain⟨k',x',h4,h5,h6⟩:=hm.back j e0 hj
 obtain⟨f1,f2⟩:=hm.flat _ (oY h6)
 have:k'=k:=tH f1 hf (by rw[← h4,he])
 subst this
 rw[h6];rfl
theorem tY{es:List (AV × AV)}{E:Array MapEntry}{clock:Nat}(hm:MapOk es E clock){k x:AV}(hf:k.flat=true)(hx:x.flat=true){j:Nat}{e0:MapEntry}(hj:E[j]?=some e0)(he:e0.key=dY k) :
 MapOk ((k,x)::es) (E.modify j fun e=>{e with key:=dY k,val:=dY x}) clock where
 flat:=fun p hp=>by
  rcases List.mem_cons.1 hp with rfl|hp
  ·exact⟨hf,hx⟩
  ·exact hm.flat p hp
 one:=fun i i' a b hi hi' e=>by
  rw[Array.getElem?_modify]at hi hi'
  have key:∀(i:Nat)(a:MapEntry),(if j=i then(E[i]?).map (fun e=>({e with key:=dY k,val:=dY x}:MapEntry))else E[i]?)=some a→∃ a',E[i]?=some a'∧a'.key=a.key:=fun i a hi=>by
   split at hi
   ·rename_i hji
    subst hji
    rw[hj]at hi
    cases hi
    exact⟨e0,hj,he⟩
   ·exact⟨a,hi,rfl⟩
  obtain⟨a',h1,h2⟩:=key i a hi
  obtain⟨b',h3,h4⟩:=key i' b hi'
  exact hm.one i i' a' b' h1 h3 (by rw[h2,h4,e])
 back:=fun i a hi=>by
  rw[Array.getElem?_modify]at hi
  split at hi
  ·rename_i hji
   subst hji
   rw[hj]at hi
   cases hi
   exact⟨k,x,rfl,rfl,by rw[ki,vZ hf];rfl⟩
  ·rename_i hji
   obtain⟨k',x',h1,h2,h3⟩:=hm.back i a hi
   refine⟨k',x',h1,h2,?_⟩
   rw[ki]
   split
   ·rename_i hq
    have:=tO hq
    subst this
    exact absurd (hm.one j i e0 a hj hi (by rw[he,h1])) hji
   ·exact h3
 here:=fun k' x' h=>by
  rw[ki]at h
  split at h
  ·rename_i hq
   cases h
   rw[← tO hq]
   exact⟨j,{e0 with key:=dY k,val:=dY x},by rw[Array.getElem?_modify,if_pos rfl,hj];rfl,rfl⟩
  ·rename_i hq
   obtain⟨i,a,h1,h2⟩:=hm.here k' x' h
   by_cases hji:j=i
   ·subst hji
    rw[hj]at h1;cases h1
    exact⟨j,{e0 with key:=dY k,val:=dY x},by rw[Array.getElem?_modify,if_pos rfl,hj];rfl,by show dY k=_;rw[← he,h2]⟩
   ·exact⟨i,a,by rw[Array.getElem?_modify,if_neg hji];exact h1,h2⟩
 clk:=by rw[Array.size_modify];exact hm.clk
 born:=fun i a hi=>by
  rw[Array.getElem?_modify]at hi
  split at hi
  ·rename_i hji
   subst hji
   rw[hj]at hi
   cases hi
   exact hm.born j e0 hj
  ·exact hm.born i a hi
 size:=by rw[iQ,if_pos (vt hm hf hj he),Array.size_modify];exact hm.size
 ord:=fun i a hi=>by
  rw[iQ,if_pos (vt hm hf hj he)]
  rw[Array.getElem?_modify]at hi
  split at hi
  ·rename_i hji
   subst hji
   rw[hj]at hi
   cases hi
   obtain⟨k',h1,h2⟩:=hm.ord j e0 hj
   exact⟨k',h1,by show dY k=_;rw[← he,h2]⟩
  ·exact hm.ord i a hi
theorem tT(hs:State w γ H){t:TypeId}{m k x:AV}{vm vk vx:Value}{r:R}(hm:Rel w γ H m vm)(hk:Rel w γ H k vk)(hx:Rel w γ H x vx)(h:ziy P t m k x H=some r)(hc:r.c) :
 ∃ w',(Instr.mapUpdate t vm vk vx).run P w=.ok () w'∧State w' γ r.H∧Ext w γ H w' γ r.H∧r.v=.junk:=by
 unfold ziy at h
 split at h
 ·rename_i kt et id hd
  split at h
  ·rename_i es hg
   cases h
   obtain⟨hK,hes,hkg,hf,hfx⟩:=hc
   have hkv:=(ll hf vk).1 hk
   have hxv:=(ll hfx vx).1 hx
   subst hkv
   subst hxv
   rw[Rel]at hm
   obtain⟨_,_,blk,hgb,rfl⟩:=hm
   obtain⟨blk',E,clock,g1,g2,g3⟩:=uZ hs hg
   rw[hgb]at g1;cases g1
   obtain⟨l,hl⟩:=hkg
   have hck:=hK.check w false hl
   have hgo:(getObj blk).run P w=.ok (.map E clock) w:=zj g2
   rcases wH g3 hK hes ⟨l,hl⟩ hf w with⟨h1,h2,h3⟩|⟨j,e,x',h1,h4,h5,h2,h3⟩
   ·refine⟨vY w blk (.map (E.push ⟨dY k,dY x,clock⟩) (clock+1)),?_,oH hs hgb g2 hg (v9 g3 hf hfx h3 h2),qX hs hgb g2 hg _,rfl⟩
    simp[Instr.mapUpdate,bN (r8 hd),hgo,hck,h1,vy g2]
   ·refine⟨vY w blk (.map (E.modify j fun e=>{e with key:=dY k,val:=dY x}) clock),?_,oH hs hgb g2 hg (tY g3 hf hfx h4 h5),qX hs hgb g2 hg _,rfl⟩
    have hst:=hK.stays w hl
    simp[Instr.mapUpdate,bN (r8 hd),hgo,hck,h1,vy g2,h4,h5,hst]
  ·cases h
 ·cases h
theorem tE:∀(es:List (AV × AV)) (k:AV),(ki es k).isSome=true→(iQ es)[r7 es k]?=some k
 |[],_,h=>by cases h
 |p::es,k,h=>by
  rw[r7]
  cases hg:ki es k with
  |some y =>
   have ih:=tE es k (by rw[hg];rfl)
   rw[if_pos (by rfl),iQ]
   split
   ·exact ih
   ·rw[List.getElem?_append_left (by rcases Nat.lt_or_ge (r7 es k) (iQ es).length with h|h;exact h;rw[List.getElem?_eq_none h]at ih;cases ih)]
    exact ih
  |none =>
   rw[if_neg (Xc)]
   obtain⟨k',x⟩:=p
   rw[ki]at h
   split at h
   ·rename_i hq
    have:=tO hq
    subst this
    rw[iQ,hg,if_neg (Xc)]
    simp
   ·rw[hg]at h;cases h
theorem FU{k x:AV}{es:List (AV × AV)}(hf:k.flat=true):ki ((k,x)::es) k=some x:=by
 rw[ki,vZ hf];rfl
theorem uI(hs:State w γ H){t:TypeId}{m k:AV}{vm vk:Value}{r:R}(hm:Rel w γ H m vm)(hk:Rel w γ H k vk)(h:mY P t m k H=some r)(hc:r.c) :
 Out P w γ H r.v r.H ((Instr.mapEntry t vm vk).run P w):=by
 unfold mY at h
 split at h
 ·rename_i kt et id hd
  split at h
  ·rename_i es ie hg hie
   cases h
   obtain⟨hK,hes,hkg,hf,hfz⟩:=hc
   have hkv:=(ll hf vk).1 hk
   subst hkv
   rw[Rel]at hm
   obtain⟨_,_,blk,hgb,rfl⟩:=hm
   obtain⟨blk',E,clock,g1,g2,g3⟩:=uZ hs hg
   rw[hgb]at g1;cases g1
   obtain⟨d,inf,z,hd',hinf,hz,hzz⟩:=em hie
   have hzv:z=dY ie.zero:=(ll hfz z).1 (show Rel w γ H ie.zero z by rw[hzz];exact jm z)
   obtain⟨l,hl⟩:=hkg
   have hck:=hK.check w false hl
   have hgo:(getObj blk).run P w=.ok (.map E clock) w:=zj g2
   have mk2:∀{w':World}{γ':cQ}{H':AHeap}{x:AV}{n:Nat},x.flat=true→Rel w' γ' H' (.tup [x,.int .i64 (n:Nat)]) (.tuple #[dY x,goInt n]):=by
    intro w' γ' H' x n hx
    rw[Rel]
    refine⟨_,rfl,rfl,fun j hj=>?_⟩
    match j,hj with
    |0,_=>exact⟨_,rfl,(ll hx _).2 rfl⟩
    |1,_=>exact⟨_,rfl,by rw[show([x,AV.int .i64 (n:Nat)]:Wz)[1]=AV.int .i64 (n:Nat) from rfl,Rel];rfl⟩
   rcases wH g3 hK hes ⟨l,hl⟩ hf w with⟨h1,h2,h3⟩|⟨j,e,x',h1,h4,h5,h2,h3⟩
   ·refine⟨.tuple #[z,goInt clock],vY w blk (.map (E.push ⟨dY k,dY ie.zero,clock⟩) (clock+1)),γ,?_,?_,qX hs hgb g2 hg _,?_⟩
    ·simp[Instr.mapEntry,bN (r8 hd),hgo,hck,h1,jA hinf hz,vy g2,hzv]
    ·simp only[sH,h2]
     exact oH hs hgb g2 hg (v9 g3 hf hfz h3 h2)
    ·simp only[sH,h2,r7]
     rw[if_neg Xc,hzv,g3.clk,← g3.size]
     exact mk2 hfz
   ·have hj:r7 es k=j:=by
     have h6:=tE es k (by rw[h2];rfl)
     have hlt:r7 es k<E.size:=by
      rw[← g3.size]
      rcases Nat.lt_or_ge (r7 es k) (iQ es).length with h|h
      ·exact h
      ·rw[List.getElem?_eq_none h]at h6;cases h6
     obtain⟨k',h7,h8⟩:=g3.ord (r7 es k) E[r7 es k] (Array.getElem?_eq_getElem hlt)
     rw[h6]at h7;cases h7
     exact g3.one _ _ _ _ (Array.getElem?_eq_getElem hlt) h4 (h8.trans h5.symm)
    have hv:e.val=dY x':=by
     obtain⟨k',x2,q1,q2,q3⟩:=g3.back j e h4
     obtain⟨f1,f2⟩:=g3.flat _ (oY q3)
     have:k'=k:=tH f1 hf (by rw[← q1,h5])
     subst this
     rw[h2]at q3;cases q3
     exact q2
    have hE:(E.modify j fun e=>{e with key:=dY k})=E.modify j fun e=>{e with key:=dY k,val:=dY x' }:=by
     apply Array.ext_getElem?
     intro i
     rw[Array.getElem?_modify,Array.getElem?_modify]
     split
     ·rename_i hji
      subst hji
      rw[h4]
      simp[hv]
     ·rfl
    have hst:=hK.stays w hl
    refine⟨.tuple #[dY x',goInt j],vY w blk (.map (E.modify j fun e=>{e with key:=dY k,val:=dY x' }) clock),γ,?_,?_,qX hs hgb g2 hg _,?_⟩
    ·have hb:=g3.born j e h4
     rw[← hE]
     simp[Instr.mapEntry,bN (r8 hd),hgo,hck,h1,vy g2,h4,h5,hst,hb]
    ·simp only[sH,h2]
     exact oH hs hgb g2 hg (tY g3 hf h3 h4 h5)
    ·simp only[sH,h2,r7]
     rw[if_pos (show(some x').isSome=true from rfl),hj]
     exact mk2 h3
  ·cases h
 ·cases h
theorem s7(t:TypeId)(hs:State w γ H){m s x:AV}{vm vs vx:Value}{r:R}(hm:Rel w γ H m vm)(hsr:Rel w γ H s vs)(hx:Rel w γ H x vx)(h:kP m s x H=some r)(hc:r.c) :
 ∃ w',(Instr.entryStore t vm vs vx).run P w=.ok () w'∧State w' γ r.H∧Ext w γ H w' γ r.H∧r.v=.junk:=by
 unfold kP at h
 split at h
 ·rename_i id n
  split at h
  ·rename_i es hg
   split at h
   ·rename_i k hk
    cases h
    obtain⟨hn,hfx⟩:=hc
    have hxv:=(ll hfx vx).1 hx
    subst hxv
    have hsv:vs=.int .i64 n:=gY hsr
    subst hsv
    rw[Rel]at hm
    obtain⟨_,_,blk,hgb,rfl⟩:=hm
    obtain⟨blk',E,clock,g1,g2,g3⟩:=uZ hs hg
    rw[hgb]at g1;cases g1
    have hgo:(getObj blk).run P w=.ok (.map E clock) w:=zj g2
    have hlt:n.toNat<E.size:=by
     rw[← g3.size]
     rcases Nat.lt_or_ge n.toNat (iQ es).length with h|h
     ·exact h
     ·rw[List.getElem?_eq_none h]at hk;cases hk
    have he:=Array.getElem?_eq_getElem hlt
    obtain⟨k2,h7,h8⟩:=g3.ord n.toNat E[n.toNat] he
    rw[hk]at h7;cases h7
    obtain⟨k3,x3,q1,q2,q3⟩:=g3.back n.toNat E[n.toNat] he
    obtain⟨f1,f2⟩:=g3.flat _ (oY q3)
    have hkf:k.flat=true:=by
     have hmem:∀{es:List (AV × AV)},(∀ p∈es,p.1.flat=true)→∀ k∈iQ es,k.flat=true:=by
      intro es
      induction es with
      |nil=>intro _ k hk;cases hk
      |cons p es ih =>
       intro hp k hk
       rw[iQ]at hk
       split at hk
       ·exact ih (fun p h=>hp p (List.mem_cons_of_mem _ h)) k hk
       ·rcases List.mem_append.1 hk with hk|hk
        ·exact ih (fun p h=>hp p (List.mem_cons_of_mem _ h)) k hk
        ·rw[List.mem_singleton.1 hk];exact hp p List.mem_cons_self
     exact hmem (fun p hp=>(g3.flat p hp).1) k (List.mem_of_getElem? hk)
    have hE:(E.modify n.toNat fun e=>{e with val:=dY x})=E.modify n.toNat fun e=>{e with key:=dY k,val:=dY x}:=by
     apply Array.ext_getElem?
     intro i
     rw[Array.getElem?_modify,Array.getElem?_modify]
     split
     ·rename_i hji
      subst hji
      rw[he]
      simp[h8]
     ·rfl
    have hfi:E.findIdx? (fun e=>(e.born:Int)==n)=some n.toNat:=by
     rw[Array.findIdx?_eq_some_iff_getElem]
     refine⟨hlt,?_,fun j hj=>?_⟩
     ·have:=g3.born _ _ he
      rw[this];simp;omega
     ·have:=g3.born j E[j] (Array.getElem?_eq_getElem Xa)
      rw[this];simp;omega
    refine⟨vY w blk (.map (E.modify n.toNat fun e=>{e with key:=dY k,val:=dY x}) clock),?_,oH hs hgb g2 hg (tY g3 hkf hfx he h8),qX hs hgb g2 hg _,rfl⟩
    rw[← hE]
    simp[Instr.entryStore,hgo,asInt,j7,hfi,vy g2]
   ·cases h
  ·cases h
 ·cases h
theorem xp(hs:State w γ H){t t2:TypeId}{s x:AV}{vs vx:Value}{r:R}(hsr:Rel w γ H s vs)(hx:Rel w γ H x vx)(h:zjr P t t2 s x H=some r)(hc:r.c)
 (ts:Array TypeId) (h0:ts[0]?=some t) (h1:ts[1]?=some t2) (ty:TypeId):Out P w γ H r.v r.H ((Builtin.append_ ts ty #[vs,vx]).run P w):=by
 unfold zjr at h
 split at h
 ·rename_i sz ys
  unfold zjt at h
  split at h
  ·rename_i ht2
   split at h
   ·rename_i e hd
    split at h
    ·rename_i te hte
     split at h
     ·rename_i hcond
      split at h
      ·rename_i zs hadd
       cases h
       obtain⟨hpos,hzl,hsz⟩:=hcond
       obtain⟨hbytes,hmax,hone⟩:=hc
       by_cases hz:zs=[]
       ·subst hz
        have hu:=jd hd
        obtain⟨ed,einf,ez,hed,heinf,hez,rfl⟩:=em hte
        obtain⟨d2,hu2,hd2⟩:∃ d2,P.underlying t2=some d2∧(d2=.string∨∃ e2,d2=.slice e2):=by
         exact W9
        obtain⟨us,a1,a2,a3,a4,a5,a6,a7⟩:=ny (P:=P) hs hte hx hadd hone
        have hus:us=#[]:=by simp at a5;exact a5
        subst hus
        dsimp only at hsz
        subst hsz
        have he:=jC hs (w':=w) rfl rfl rfl (Nat.le_refl _) (fun _ _=>rfl) none (fun b h=>by cases h) (.buf einf.size (ys.length+0))
        have hst:=io hs (fun b h=>by cases h) he (fun _ _=>rfl) (.inr (.inl ⟨_,_,rfl⟩))
        have hrun:(Builtin.append_ ts ty #[vs,vx]).run P w=.ok vs w:=by
         rcases rel_slice.1 hsr with⟨⟨a,rfl⟩,rfl,_⟩|⟨blk,off,cap,C,ty',fr,rfl,hle,hb,_⟩
         ·have hrun:=pg (P:=P) (ty:=ty) h0 h1 hu hu2 hd2 heinf a1 a3 (base:=a) (sLen:=0) (sCap:=0) Xc
          rw[hrun];cases a<;>simp[storeCells]
         ·have hrun:=pg (P:=P) (ty:=ty) h0 h1 hu hu2 hd2 heinf a1 a3 (base:=some ⟨blk,off,none⟩) (sLen:=ys.length) (sCap:=cap) (by simpa using hle)
          rw[hrun];simp[storeCells]
        refine⟨vs,w,_,hrun,hst,he,?_⟩
        simp only[List.isEmpty_nil,if_true,yaj]
        exact hsr.ext he
       ·have hne:zs.isEmpty=false:=by cases zs with
         |nil=>exact absurd rfl hz
         |cons=>rfl
        have:=qB (P:=P) hs (t:=t) (t2:=t2) (r:=⟨zs≠[]∧(ys.length+zs.length)*te.bytes≤140737488355328∧ys.length+zs.length≤140737488355328∧∀ z∈zs,dp z.cells=true,
         .slice (.own H.nx) te.size (ys++zs),H.push (.buf te.size (ys.length+zs.length))⟩) hsr hx (by
          unfold zjs
          rw[if_pos ht2,hd]
          simp only[hte]
          rw[if_pos ⟨hpos,hzl,.inl hsz⟩,hadd]
          simp[yU,room]) ⟨hz,hbytes,hmax,hone⟩ ts h0 h1 ty
        simpa[hne]using this
      ·cases h
     ·cases h
    ·cases h
   ·cases h
  ·cases h
 ·exact qB hs hsr hx h hc ts h0 h1 ty
end
def Sim(w:World)(γ:cQ)(H:AHeap)(fr:Fr)(a:Act):Prop:=∀ t,Rel w γ H (Fr.get fr t) (a.tmps.getD t undef)
theorem Sim.ext{w w':World}{γ γ':cQ}{H H':AHeap}{fr:Fr}{a:Act}(h:Sim w γ H fr a)(he:Ext w γ H w' γ' H'):Sim w' γ' H' fr a:=fun t=>(h t).ext he
theorem Sim.eval{w:World}{γ:cQ}{H:AHeap}{fr:Fr}{a:Act}(h:Sim w γ H fr a)(x:Operand):Rel w γ H (ev fr x) (a.eval x):=by
 cases x with
 |tmp t=>exact h t
 |const v=>exact jm v
 |global g=>simp only[ev];rw[Rel];trivial
 |func f =>
  simp only[ev,Act.eval]
  exact W35
theorem Sim.put{w:World}{γ:cQ}{H:AHeap}{fr:Fr}{a:Act}(h:Sim w γ H fr a){x:AV}{v:Value}(hx:Rel w γ H x v)(d:Option Tmp)(hd:∀ i,d=some i→i<a.tmps.size) :
 Sim w γ H (fr.put d x) (a.put d v):=by
 cases d with
 |none=>exact h
 |some i =>
  intro t
  have hi:=hd i rfl
  simp only[Fr.put,Fr.get,Act.put]
  by_cases he:i=t
  ·subst he
   rw[if_pos rfl]
   simp[Array.getD,hi,hx]
  ·rw[if_neg he]
   have:=h t
   simp only[Array.getD_eq_getD_getElem?]at this ⊢
   rw[Array.getElem?_setIfInBounds_ne he];exact this
theorem Sim.same{w:World}{γ:cQ}{H:AHeap}{fr:Fr}{a:Act}(h:Sim w γ H fr a){x:AV}(d:Option Tmp)(hx:∀ i,d=some i→Rel w γ H x (a.tmps.getD i undef)):Sim w γ H (fr.put d x) a:=by
 cases d with
 |none=>exact h
 |some i =>
  intro t
  simp only[Fr.put,Fr.get]
  by_cases he:i=t
  ·subst he;rw[if_pos rfl];exact hx i rfl
  ·rw[if_neg he];exact h t
def TH(P:Program)(w:World)(γ:cQ)(H:AHeap)(x:AV)(H':AHeap)(run:Result Next):Prop :=
 ∃ v w' γ',(run=.ok (.value v) w'∨(run=.ok .skip w'∧v=undef))∧State w' γ' H'∧Ext w γ H w' γ' H'∧Rel w' γ' H' x v
section
variable {P:Program} {w:World} {γ:cQ} {H:AHeap}
theorem Out.next{x:AV}{H':AHeap}{s:Sem Value}(h:Out P w γ H x H' (s.run P w)):TH P w γ H x H' ((do pure (Next.value (← s)):Sem Next).run P w):=by
 obtain⟨v,w',γ',h1,h2,h3,h4⟩:=h
 exact⟨v,w',γ',.inl (by simp[h1]),h2,h3,h4⟩
theorem RelO.map{e:Operand→AV}{a:Act}(hf:∀ x,Rel w γ H (e x) (a.eval x))(x:Option Operand):RelO w γ H (x.map e) (x.map a.eval):=by
 cases x with
 |none=>trivial
 |some x=>exact hf x
theorem RelP.map{e:Operand→AV}{a:Act}(hf:∀ x,Rel w γ H (e x) (a.eval x))(ps:Array (Nat × Operand)) :
 RelP w γ H (ps.toList.map fun p=>(p.1,e p.2)) ((ps.map fun(i,x)=>(i,a.eval x)).toList):=by
 refine⟨Xc,fun j p q hp hq=>?_⟩
 simp only[Array.toList_map,List.getElem?_map]at hp hq
 cases hj:ps.toList[j]? with
 |none=>rw[hj]at hp;cases hp
 |some y =>
  rw[hj]at hp hq
  simp only[yag,Option.some.injEq]at hp hq
  subst hp;subst hq
  exact⟨rfl,hf _⟩
def BI{t:TypeId}{x y:AV}{r:R}(h:zji P t x y H=some r):r.v=.junk:=by
 unfold zji at h
 split at h
 ·exact W41
 ·cases h
def qw(hs:State w γ H){e:Operand→AV}{a:Act}(hf:∀ x,Rel w γ H (e x) (a.eval x)){o:Oper}{r:R}(h:jn P o e H=some r)(hc:r.c) :
 TH P w γ H r.v r.H ((execOp a.eval o).run P w):=by
 obtain⟨dst,op,ty,pos,after,guard⟩:=o
 unfold jn at h
 dsimp only at h
 cases op<;>first|(cases h;done)|skip
 case move x=>cases h;exact⟨a.eval x,w,γ,.inl (by simp[execOp]),hs,Ext.refl _ _ _,hf x⟩
 case assign x =>
  obtain⟨v,w',γ',h1,h2,h3,h4⟩:=xA (P:=P) hs (hf x) h
  cases h1
  exact⟨a.eval x,w,γ',.inl (by simp[execOp]),h2,h3,h4⟩
 case pick c x y =>
  obtain⟨v,h1,h2,h3⟩:=Az (P:=P) hs (hf c) (hf x) (hf y) h
  refine⟨v,w,γ,.inl ?_,h2▸hs,h2▸Ext.refl _ _ _,h2▸h3⟩
  simp only[execOp,Sem.run_bind]at h1 ⊢
  revert h1
  generalize (asBool (a.eval c)).run P w=rr
  cases rr<;>simp[Result.andThen]
 case alloc t=>exact(zg hs h).next
 case box t x=>exact(Cn hs (hf x) h).next
 case build t ps=>exact(zn hs (RelP.map hf ps) h).next
 case buildSlice t n ps=>exact(sN hs (RelP.map hf ps) h).next
 case load t x=>exact(Ap hs (hf x) h hc).next
 case store t x y =>
  obtain⟨w',h1,h2,h3⟩:=yY hs (hf x) (hf y) h hc
  have hj:r.v=.junk:=BI h
  refine⟨undef,w',γ,.inr ⟨by simp[execOp,h1],rfl⟩,h2,h3,?_⟩
  rw[hj,Rel];trivial
 case nilCheck x =>
  obtain⟨h1,h2,h3⟩:=uK hs (hf x) h ⟨dst,.nilCheck x,ty,pos,after,guard⟩ a x rfl rfl
  exact⟨_,w,γ,.inl h1,h2▸hs,h2▸Ext.refl _ _ _,by rw[h2,h3];exact hf x⟩
 case binOp op t x y u=>exact(Dd hs x y h hc (hf x) (hf y)).next
 case unOp op t x=>exact(GD hs (hf x) h).next
 case convert s d x=>exact(w7 hs (hf x) h hc).next
 case makeInterface t x=>exact(zR hs (hf x) h).next
 case makeFunc f as bs =>
  cases h
  refine⟨.func f (as.map a.eval) (bs.map a.eval),w,γ,.inl (by simp[execOp,Instr.makeFunc]),hs,Ext.refl _ _ _,?_⟩
  rw[Rel]
  refine⟨_,_,rfl,Xc,Xc,fun j hj=>?_,fun j hj=>?_⟩
  ·simp at hj;exact⟨a.eval as[j],by simp[hj],by simpa using hf _⟩
  ·simp at hj;exact⟨a.eval bs[j],by simp[hj],by simpa using hf _⟩
 case makeMap t n=>exact(ve hs (RelO.map hf n) h).next
 case lookup t m k ok=>exact(xD hs (hf m) (hf k) h hc).next
 case mapUpdate t m k x =>
  obtain⟨w',h1,h2,h3,h4⟩:=tT hs (hf m) (hf k) (hf x) h hc
  refine⟨undef,w',γ,.inr ⟨by simp[execOp,h1],rfl⟩,h2,h3,?_⟩
  rw[h4,Rel];trivial
 case mapEntry t m k=>exact(uI hs (hf m) (hf k) h hc).next
 case entryStore t m s x =>
  obtain⟨w',h1,h2,h3,h4⟩:=s7 (P:=P) t hs (hf m) (hf s) (hf x) h hc
  refine⟨undef,w',γ,.inr ⟨by simp[execOp,h1],rfl⟩,h2,h3,?_⟩
  rw[h4,Rel];trivial
 case makeSlice t l c=>exact(Ad hs (hf l) (hf c) h hc).next
 case slice t x lo hi mx=>exact(zz hs (hf x) (RelO.map hf lo) (RelO.map hf hi) (RelO.map hf mx) h hc).next
 case fieldAddr t x n=>exact(tx hs (hf x) h hc).next
 case field t x n=>exact(zV hs (hf x) h hc).next
 case indexAddr t x i=>exact(tI hs (hf x) (hf i) h hc).next
 case index t x i=>exact(zT hs (hf x) (hf i) h hc).next
 case typeAssert x t u ok=>exact(xB hs (hf x) h).next
 case extract x n=>exact(vI hs (hf x) h hc).next
 case call c =>
  obtain⟨callee,args,argTypes⟩:=c
  cases callee<;>first|(cases h;done)|skip
  rename_i b
  replace h:ziu P b argTypes.toList (args.toList.map e) H=some r:=h
  unfold ziu at h
  split at h
  ·rename_i t ts x hts hargs
   have e1:argTypes[0]?=some t:=by rw[← Array.getElem?_toList,hts];rfl
   obtain⟨x0,e2⟩:∃ x0,args=#[x0]:=by
    have:args.toList.length=1:=by have:=congrArg List.length hargs;simpa using this
    match args,this with
    |⟨[x0]⟩,_=>exact⟨x0,rfl⟩
   subst e2
   simp only[yae,yaf,List.cons.injEq,and_true]at hargs
   subst hargs
   have:=(Dk hs (hf x0) h argTypes e1 ty).next
   simpa[execOp,resolve,invoke,builtin]using this
  ·rename_i t t2 ts s x hts hargs
   have e1:argTypes[0]?=some t:=by rw[← Array.getElem?_toList,hts];rfl
   have e1':argTypes[1]?=some t2:=by rw[← Array.getElem?_toList,hts];rfl
   obtain⟨x0,x1,e2⟩:∃ x0 x1,args=#[x0,x1]:=by
    exact W21
   subst e2
   simp only[yae,yaf,List.cons.injEq,and_true]at hargs
   obtain⟨rfl,rfl⟩:=hargs
   have:=(xp hs (hf x0) (hf x1) h hc argTypes e1 e1' ty).next
   simpa[execOp,resolve,invoke,builtin]using this
  ·rename_i t t2 ts s x hts hargs
   have e1:argTypes[0]?=some t:=by rw[← Array.getElem?_toList,hts];rfl
   obtain⟨x0,x1,e2⟩:∃ x0 x1,args=#[x0,x1]:=by
    exact W21
   subst e2
   simp only[yae,yaf,List.cons.injEq,and_true]at hargs
   obtain⟨rfl,rfl⟩:=hargs
   have:=(AF hs (hf x0) (hf x1) h hc argTypes e1 ty).next
   simpa[execOp,resolve,invoke,builtin]using this
  ·exact W2
  ·exact W2
  ·cases h
end
section
variable {P:Program} {w:World} {γ:cQ} {H:AHeap}
def NL(hs:State w γ H){sz:Nat}{xs:Wz}{run:Result Value}{w':World}{cap:Nat}{C:Array Value}{ty:TypeId}{fr:Nat × Nat}(hos:w'.os=w.os)(htape:w'.tape=w.tape)(hout:w'.output=w.output)(hsz:w'.heap.size=w.heap.size+1)(hold:∀ b,b<w.heap.size→w'.heap[b]?=w.heap[b]?)
 (hnew:w'.heap[w.heap.size]?=some (.cells C ty fr)) (hfr:C.size≤fr.1∨fr.2=0) (hle:xs.length≤cap) (hC:cap*sz≤C.size) (hall:∀ x∈xs,x.cells.length=sz) (hr:AtR (Rel w γ H) (flat xs) C 0)
 (hrun:run=.ok (.slice (some ⟨w.heap.size,0,none⟩) xs.length cap) w') (hex:C.size=xs.length*sz) :
 Out P w γ H (.ms H.nx 0 sz xs.length) (H.push (.cells (xs.flatMap AV.cells))) run:=by
 have hfl:(flat xs).length=xs.length*sz:=gJ hall
 have hlen:(xs.flatMap AV.cells).length=C.size:=by
  show(flat xs).length=_
  omega
 have he:=jC hs hos htape hout Xa hold (some w.heap.size) (fun b h=>by cases h;exact Nat.le_refl _) (.cells (xs.flatMap AV.cells))
 have hth:lA fr 0 C.size:=fun p p1 p2=>by rcases hfr with h|h<;>omega
 refine⟨_,w',_,hrun,io hs (fun b h=>by cases h;omega) he hold (.inl ⟨_,C,ty,fr,_,rfl,rfl,hnew,hlen,?_,by rw[hlen];exact hth⟩),he,?_⟩
 ·intro j hj
  obtain⟨u,hu,hru⟩:=hr j hj
  exact⟨u,hu,hru⟩
 ·exact W12
def rE(hs:State w γ H){t:TypeId}{n:Nat}{parts:List (Nat × AV)}{vs:List (Nat × Value)}{r:R}(hp:RelP w γ H parts vs)(h:zje P t n parts H=some r){m:Mark}{sz:Nat}{xs:Wz}(hv:r.v=.slice m sz xs) :
 Out P w γ H (.ms H.nx 0 sz xs.length) (H.push (.cells (xs.flatMap AV.cells))) ((Instr.buildSlice t n vs.toArray).run P w):=by
 unfold zje at h
 split at h
 ·rename_i e hd
  have hu:=jd hd
  split at h
  ·rename_i te hte
   obtain⟨ed,einf,ez,hed,heinf,hez,rfl⟩:=em hte
   split at h
   ·rename_i hcond
    obtain⟨hn,hlim⟩:=hcond
    dsimp only at h hlim
    cases hr:zjf einf.size 0 parts with
    |none=>simp[hr]at h
    |some xs' =>
     simp only[hr,yag,Option.some.injEq]at h
     subst h
     cases hv
     obtain⟨rfl,h2,h3⟩:=nO parts 0 _ hr
     obtain⟨zero,hz1,hz2⟩:∃ zero:Array Value,(n*einf.size=0→zero=#[])∧(¬ n*einf.size=0→zero=ez.cells):=by
      exact W11
     let C0:Array Value:=(Array.range (n*einf.size)).map (zero[· % zero.size]!)
     obtain⟨D,hD,hDs,_,hDr⟩:=rm (sz:=einf.size) parts vs 0 C0 hp.1 hp.2 h2 h3 (by simp[C0,hn])
     have hDs':D.size=n*einf.size:=by rw[hDs];simp[C0]
     have hrun:(Instr.buildSlice t n vs.toArray).run P w=.ok (.slice (some ⟨w.heap.size,0,none⟩) (parts.map (·.2)).length n) (w.alloc (.cells D e)):=by
      exact W3
     exact NL (w':=w.alloc (.cells D e)) (cap:=n) (fr:=(0,0)) hs rfl rfl rfl Xc (fun b hb=>iu w _ hb) (im w _) (.inr rfl) (by simp[hn]) (by rw[hDs'];exact Nat.le_refl _) (fun x hx=>(h2 x hx).1)
      (by simpa using hDr) hrun (by rw[hDs'];simp[hn])
   ·cases h
  ·cases h
 ·cases h
end
section
variable {P:Program} {w:World} {γ:cQ} {H H1:AHeap}
def uY(hs:State w γ H)(hl:H1.Le H){x y:AV}{v:Value}(h:Rel w γ H x v)(hw:wk1 H H1 x y)(hlt:y.lt H1.nx):Rel w γ H1 y v:=by
 unfold wk1 at hw
 split at hw
 ·rename_i m sz xs m' sz' ys
  refine Rel.drop hl _ _ hlt ?_
  rw[Rel]at h ⊢
  rcases hw with⟨hm,rfl,rfl⟩|⟨rfl,rfl,rfl,rfl⟩
  ·rcases h with⟨h1,h2,h3⟩|⟨blk,off,cap,C,ty,fr,h1,h2,h3,h4,h5,h6,h7⟩
   ·refine .inl ⟨h1,h2,?_⟩
    rcases hm with rfl|rfl
    ·trivial
    ·exact h3
   ·refine .inr ⟨blk,off,cap,C,ty,fr,h1,h2,h3,h4,h5,?_,h7⟩
    rcases hm with rfl|rfl
    ·trivial
    ·exact h6
  ·rcases h with⟨h1,h2,h3⟩|⟨blk,off,cap,C,ty,fr,h1,h2,h3,h4,h5,h6,h7⟩
   ·exact .inl ⟨h1,rfl,trivial⟩
   ·exact h6.elim
 ·rename_i id off sz len m' sz' ys
  split at hw
  ·rename_i cs hc
   obtain⟨hmk,rfl,rfl,hnone⟩:=hw
   rw[Rel]at h
   obtain⟨_,_,h⟩:=h
   rw[Rel]
   rcases h with⟨rfl,h⟩|⟨blk,cap,C,ty,fr,hg,rfl,hle,hb,hcap,_⟩
   ·refine .inl ⟨h,rfl,?_⟩
    rcases hmk with rfl|⟨rfl,_⟩<;>trivial
   ·obtain⟨ho,C',ty',fr',_,hb',hsz,hr,_⟩:=mX hs hc hg
    rw[hb]at hb';cases hb'
    have himm:∀ e,Imm γ H1 blk e:=fun e id' o ho' hg'=>by
     have:=hs.inj id' id o _ blk (hl.get _ _ ho') ho hg' hg
     subst this
     rw[hnone]at ho';cases ho'
    refine .inr ⟨blk,off,cap,C,ty,fr,by rw[jU],by rw[jU];exact hle,hb,hcap,himm _,?_,fun i hi=>?_⟩
    ·rcases hmk with rfl|⟨rfl,hk1,hk2⟩
     ·trivial
     ·rw[jU]
      show cap=len
      have:cap*sz'≤len*sz':=Xa
      have:=Nat.le_of_mul_le_mul_right this hk1
      omega
    have hlen:i<len:=by rw[jU]at hi;exact hi
    have hmul:(i+1)*sz'≤cap*sz':=Nat.mul_le_mul_right _ Xa
    rw[Nat.add_mul]at hmul
    rw[AV.lt]at hlt
    have hlti:=hlt.2 i hi
    have hcell:∀ j,j<sz'→∃ u,C[off+i*sz'+j]?=some u∧Rel w γ H ((cs.drop off).getD (i*sz'+j) .junk) u:=fun j hj=>by
     have hlt2:off+i*sz'+j<C.size:=Xa
     refine⟨C[off+i*sz'+j],by simp[hlt2],?_⟩
     by_cases hin:off+(i*sz'+j)<cs.length
     ·obtain⟨u,hu,hru⟩:=hr (off+(i*sz'+j)) hin
      have:C[off+i*sz'+j]=u:=by
       have e1:0+(off+(i*sz'+j))=off+i*sz'+j:=Xa
       rw[e1]at hu
       exact Option.some.inj ((by simp[hlt2]:some C[off+i*sz'+j]=C[off+i*sz'+j]?).trans hu)
      rw[this]
      have e2:(cs.drop off).getD (i*sz'+j) .junk=cs[off+(i*sz'+j)]:=by simp[List.getD_eq_getElem?_getD,hin]
      rw[e2];exact hru
     ·have e2:(cs.drop off).getD (i*sz'+j) .junk=.junk:=by
       rw[List.getD_eq_getElem?_getD,List.getElem?_drop,List.getElem?_eq_none (Xa)];rfl
      rw[e2,Rel];trivial
    have hget:=r6 sz' len (cs.drop off) i hi
    by_cases h1:sz'=1
    ·subst h1
     rw[if_pos rfl]at hget
     rw[hget]at hlti ⊢
     refine⟨by rw[kO];rfl,fun j hj=>?_⟩
     have hj0:j=0:=by rw[kO]at hj;simpa using hj
     subst hj0
     obtain⟨u,hu,hru⟩:=hcell 0 Xa
     refine⟨u,hu,?_⟩
     have e3:(pK ((cs.drop off).getD i .junk)).cells[0]'hj=pK ((cs.drop off).getD i .junk):=by simp only[kO,List.getElem_cons_zero]
     rw[e3]
     exact Rel.drop hl _ _ hlti (yG (by simpa using hru))
    ·rw[if_neg h1]at hget
     rw[hget]at hlti ⊢
     refine⟨by simp[AV.cells],fun j hj=>?_⟩
     have hj':j<sz':=by simpa[AV.cells]using hj
     obtain⟨u,hu,hru⟩:=hcell j hj'
     refine⟨u,hu,Rel.drop hl _ _ (AV.lt_cells hlti j hj) ?_⟩
     simpa[AV.cells]using hru
  ·exact hw.elim
 ·subst hw;exact Rel.drop hl _ _ hlt h
end
def DS(w':World)(γ':cQ)(H1:AHeap):AEnd→Ending→Prop
 |.ret x,.returned v=>Rel w' γ' H1 x v
 |.panic x,.panicked chain=>∃ v,chain=[{v,recovered:=false}]∧Rel w' γ' H1 x v
 |_,_=>False
def RelA(w:World)(γ:cQ)(H:AHeap)(args:Wz)(vs:Array Value):Prop :=
 vs.size=args.length∧∀(j:Nat)(hj:j<args.length),∃ u,vs[j]?=some u∧Rel w γ H args[j] u
def sR(P:Program)(R:Ending→World→Prop):Result Next→Prop
 |.ok (.enter f args) w'=>Calls P f args w' R
 |.ok (.value v) w'=>R (.returned v) w'
 |_=>False
def ACalls(P:Program)(f:FuncId)(args:Wz)(H:AHeap)(e:AEnd)(H1:AHeap):Prop :=
 ∀ w γ vs,State w γ H→RelA w γ H args vs→sR P (R:=fun en w'=>∃ γ',State w' γ' H1∧Ext w γ H w' γ' H1∧DS w' γ' H1 e en) ((callFunc f vs).run P w)
def ACallsP(P:Program)(f:FuncId)(args:Wz)(H:AHeap)(Q:By1):Prop :=
 ∀ w γ vs,State w γ H→RelA w γ H args vs→sR P (R:=fun en w'=>∃ γ' x H1,Q x H1∧State w' γ' H1∧Ext w γ H w' γ' H1∧DS w' γ' H1 (.ret x) en) ((callFunc f vs).run P w)
def EntOk(P:Program)(f:FuncId)(e:Ent):Prop :=
 (e.eff=false→∀ args H K,e.p args H K→∃ x,K x∧ACalls P f args H (.ret x) H) ∧
 (e.eff=true→∀ args H K,e.e args H K→∃ x H1,K x H1∧ACalls P f args H x H1) ∧
 (∀ q,e.s=some q→∀ args H K,q args H K→ACallsP P f args H K)
def TblOk(P:Program)(Ω:Tbl):Prop:=∀ f e,qD Ω f=some e→EntOk P f e
def SimF(w:World)(γ:cQ)(H:AHeap)(f:Nat→AV)(a:Act):Prop:=∀ t,Rel w γ H (f t) (a.tmps.getD t undef)
theorem SimF.ext{w w':World}{γ γ':cQ}{H H':AHeap}{f:Nat→AV}{a:Act}(h:SimF w γ H f a)(he:Ext w γ H w' γ' H'):SimF w' γ' H' f a:=fun t=>(h t).ext he
theorem SimF.eval{w:World}{γ:cQ}{H:AHeap}{f:Nat→AV}{a:Act}(h:SimF w γ H f a)(x:Operand):Rel w γ H (evF f x) (a.eval x):=by
 cases x with
 |tmp t=>exact h t
 |const v=>exact jm v
 |global g=>simp only[evF];rw[Rel];trivial
 |func f =>
  simp only[evF,Act.eval]
  exact W35
inductive ST(P:Program)(o:Oper)(f:Nat→AV)(H:AHeap):AEnd→AHeap→Prop where
 |res (r:R) (h:jn P o (evF f) H=some r) (hc:r.c):ST P o f H (.ret r.v) r.H
 |call (c:Call) (g:Operand) (k:FuncId) (first cap:Wz) (e:AEnd) (H':AHeap) (h1:o.op=.call c) (h2:c.callee=.value g) (h3:evF f g=.func (.func k) first cap)
   (h:ACalls P k (first++c.args.toList.map (evF f)++cap) H e H'):ST P o f H e H'
 |lit (t:TypeId) (n:Nat) (ps:Array (Nat × Operand)) (r:R) (m:Mark) (sz:Nat) (xs:Wz) (h1:o.op=.buildSlice t n ps) (h:jn P o (evF f) H=some r) (hv:r.v=.slice m sz xs) :
   ST P o f H (.ret (.ms H.nx 0 sz xs.length)) (H.push (.cells (xs.flatMap AV.cells)))
 |frz (t:TypeId) (n:Nat) (ps:Array (Nat × Operand)) (c:Prop) (m:Mark) (sz:Nat) (xs:Wz) (G:AHeap) (h1:o.op=.buildSlice t n ps) (h:jn P o (evF f) H=some ⟨c,.slice m sz xs,G⟩) (hc:c)
   (b:Bool):ST P o f H (.ret (.slice (I5 b) sz xs)) H
 |frm (t:TypeId) (l c:Operand) (p:Prop) (sz n:Nat) (cs:Wz) (h1:o.op=.makeSlice t l c) (h:jn P o (evF f) H=some ⟨p,.ms H.nx 0 sz n,H.push (.cells cs)⟩) (hc:p) (hlt:∀ x∈dh sz n cs,x.lt 0) :
   ST P o f H (.ret (.slice .any sz (dh sz n cs))) H
 |app (args:Array Operand) (argTypes:Array TypeId) (t t2:TypeId) (tl:List TypeId) (sz:Nat) (x:AV) (r:R) (i sz':Nat) (xs:Wz) (h1:o.op=.call {callee:=.builtin .append,args,argTypes})
   (h2:argTypes.toList=t::t2::tl) (h3:args.toList.map (evF f)=[.slice .full sz [],x]) (h:zjt P t t2 sz [] x H=some r) (hc:r.c) (hv:r.v=.slice (.own i) sz' xs) (hne:xs≠[])
   (hlt:∀ y∈xs.flatMap AV.cells,y.lt 0):ST P o f H (.ret (.ms H.nx 0 sz' xs.length)) (H.push (.part (xs.flatMap AV.cells)))
 |panic (x:Operand) (t:TypeId) (v:AV) (h1:o.op=.panic x) (h2:evF f x=.iface t v):ST P o f H (.panic (.iface t v)) H
section
variable {P:Program} {w:World} {γ:cQ} {H:AHeap}
theorem RelA.of{l:Wz}{vs:List Value}(hl:vs.length=l.length)(h:∀(j:Nat) x v,l[j]?=some x→vs[j]?=some v→Rel w γ H x v):RelA w γ H l vs.toArray:=by
 refine⟨by simp[hl],fun j hj=>?_⟩
 have h1:j<vs.length:=Xa
 exact⟨vs[j],by simp[h1],h j _ _ (by simp[hj]) (by simp[h1])⟩
theorem RelA.append{l m:Wz}{vs us:Array Value}(h:RelA w γ H l vs)(k:RelA w γ H m us):RelA w γ H (l++m) (vs++us):=by
 refine⟨by simp[h.1,k.1],fun j hj=>?_⟩
 by_cases hlt:j<l.length
 ·obtain⟨u,h1,h2⟩:=h.2 j hlt
  refine⟨u,?_,by rw[List.getElem_append_left hlt];exact h2⟩
  rw[Array.getElem?_append_left (by rw[h.1];exact hlt)];exact h1
 ·have hge:l.length≤j:=Xa
  obtain⟨u,h1,h2⟩:=k.2 (j-l.length) (by simp at hj;omega)
  refine⟨u,?_,by rw[List.getElem_append_right hge];exact h2⟩
  rw[Array.getElem?_append_right (by rw[h.1];exact hge),h.1];exact h1
theorem RelA.map{e:Operand→AV}{a:Act}(hf:∀ x,Rel w γ H (e x) (a.eval x))(args:Array Operand):RelA w γ H (args.toList.map e) (args.map a.eval):=by
 refine⟨Xc,fun j hj=>?_⟩
 simp at hj
 exact⟨a.eval args[j],by simp[hj],by simpa using hf _⟩
theorem yw{sz:Nat}:∀{k:Nat} {l:List (Nat × AV)} {xs:Wz},zjf sz k l=some xs→∀ x∈xs,∃ p∈l,p.2=x
 |_,[],xs,h,x,hx=>by cases h;cases hx
 |k,(i,v)::l,xs,h,x,hx=>by
  unfold zjf at h
  split at h
  ·cases hr:zjf sz (k+1) l with
   |none=>rw[hr]at h;cases h
   |some ys =>
    rw[hr]at h;cases h
    rcases List.mem_cons.1 hx with rfl|hx
    ·exact⟨_,List.mem_cons_self,rfl⟩
    ·obtain⟨p,hp,e⟩:=yw hr x hx;exact⟨p,List.mem_cons_of_mem _ hp,e⟩
  ·cases h
def pQ{t:TypeId}{n:Nat}{l:List (Nat × AV)}{c:Prop}{m:Mark}{sz:Nat}{xs:Wz}{H G:AHeap}(h:zje P t n l H=some ⟨c,.slice m sz xs,G⟩) :
 H.Le G∧(∀ x∈xs,∃ p∈l,p.2=x)∧∀ H':AHeap,∃ m' G',zje P t n l H'=some ⟨c,.slice m' sz xs,G'⟩:=by
 unfold zje at h ⊢
 split at h
 ·rename_i e he
  split at h
  ·rename_i te hte
   split at h
   ·rename_i hc
    cases hr:zjf te.size 0 l with
    |none=>rw[hr]at h;cases h
    |some ys =>
     rw[hr]at h;cases h
     refine⟨(AHeap.Le.refl H).push _,yw hr,fun H'=>⟨.own H'.nx,H'.push (.buf te.size n),?_⟩⟩
     rw[if_pos hc];rfl
   ·cases h
  ·cases h
 ·cases h
theorem Ext.drop0{w w':World}{γ γ':cQ}{H0 H H':AHeap}(h:Ext w γ H0 w' γ' H)(hl:H'.Le H)(hn:H0.nx≤H'.nx):Ext w γ H0 w' γ' H' where
 os:=h.os
 tape:=h.tape
 output:=h.output
 size:=h.size
 nx:=hn
 block:=h.block
 imm:=fun b e hb hi=>(h.imm b e hb hi).drop hl
 un:=h.un
 none:=fun id hid hn=>by
  exact W19
 keep:=fun id o ho hb=>⟨(h.keep id o ho hb).1,(h.keep id o ho hb).2.drop hl⟩
 bufs:=fun id sz n ho sz' n' h'=>h.bufs id sz n ho sz' n' (hl.get _ _ h')
 bufk:=fun id sz n ho o h'=>h.bufk id sz n ho o (hl.get _ _ h')
theorem Rel.unmark{w:World}{γ:cQ}{G H:AHeap}(hl:H.Le G){m:Mark}{sz:Nat}{xs:Wz}{v:Value}(h:Rel w γ G (.slice m sz xs) v)(hx:∀ x∈xs,x.lt H.nx):Rel w γ H (.slice .any sz xs) v:=by
 refine Rel.drop hl _ _ ?_ ?_
 ·rw[AV.lt];exact⟨fun id h=>(by cases h),fun j hj=>hx _ (List.getElem_mem hj)⟩
 ·rw[Rel]at h ⊢
  rcases h with⟨h1,h2,h3⟩|⟨blk,off,cap,C,ty,fr,h1,h2,h3,h4,h5,h6,h7⟩
  ·exact .inl ⟨h1,h2,trivial⟩
  ·exact .inr ⟨blk,off,cap,C,ty,fr,h1,h2,h3,h4,h5,trivial,h7⟩
def RH(w:World)(γ:cQ)(H:AHeap)(sz:Nat)(xs:Wz)(run:Result Value):Prop :=
 ∃ (w':World) (cap:Nat) (C:Array Value) (ty:TypeId) (fr:Nat × Nat),w'.os=w.os∧w'.tape=w.tape∧w'.output=w.output∧w'.heap.size=w.heap.size+1∧(∀ b,b<w.heap.size→w'.heap[b]?=w.heap[b]?) ∧
  w'.heap[w.heap.size]?=some (.cells C ty fr)∧(C.size≤fr.1∨fr.2=0)∧xs.length≤cap∧cap*sz≤C.size∧(∀ x∈xs,x.cells.length=sz)∧AtR (Rel w γ H) (flat xs) C 0 ∧
  run=.ok (.slice (some ⟨w.heap.size,0,none⟩) xs.length cap) w'
def yR(hs:State w γ H){t t2:TypeId}{sz:Nat}{x:AV}{vs vx:Value}{r:R}(hsr:Rel w γ H (.slice .full sz []) vs)(hx:Rel w γ H x vx)(h:zjt P t t2 sz [] x H=some r)(hc:r.c)
 {id sz':Nat} {xs:Wz} (hv:r.v=.slice (.own id) sz' xs) (hne:xs≠[]) (ts:Array TypeId) (h0:ts[0]?=some t) (h1:ts[1]?=some t2) (ty:TypeId):RH w γ H sz' xs ((Builtin.append_ ts ty #[vs,vx]).run P w):=by
 obtain⟨a,rfl⟩:∃ a,vs=.slice a 0 0:=by
  rcases rel_slice.1 hsr with⟨⟨a,rfl⟩,_,_⟩|⟨blk,off,cap,C,ty',fr,rfl,hle,hb,_,_,hm,_⟩
  ·exact⟨a,rfl⟩
  ·have hm':cap=0:=hm
   subst hm';exact⟨_,rfl⟩
 unfold zjt at h
 split at h
 ·rename_i ht2
  split at h
  ·rename_i e hd
   split at h
   ·rename_i te hte
    split at h
    ·rename_i hcond
     split at h
     ·rename_i zs hadd
      cases h
      obtain⟨hpos,hzl,hsz⟩:=hcond
      obtain⟨hbytes,hmax,hone⟩:=hc
      dsimp only at hv
      simp only[yak]at hv
      injection hv with _ q2 q3
      subst q2 q3
      have hu:=jd hd
      obtain⟨ed,einf,ez,hed,heinf,hez,rfl⟩:=em hte
      obtain⟨d2,hu2,hd2⟩:∃ d2,P.underlying t2=some d2∧(d2=.string∨∃ e2,d2=.slice e2):=by
       exact W9
      obtain⟨us,a1,a2,a3,a4,a5,a6,a7⟩:=ny (P:=P) hs hte hx hadd hone
      dsimp only at a2 a3 a4 a5 hbytes hsz
      have hpl:0<zs.length:=List.length_pos_iff.2 hne
      have hold:(Builtin.firstCells einf.size 0 (.slice a 0 0)).run P w.drew=.ok #[] w.drew:=by
       exact W30
      have hrun:=mT (P:=P) (ty:=ty) h0 h1 hu hu2 hd2 heinf a1 a4 (base:=a) (sLen:=0) (sCap:=0) Xa (by simpa using hbytes) (by simp at hmax;omega) hold hez
      simp only[Nat.zero_add]at hrun
      have hezc:ez.cells.size=einf.size:=by
       obtain⟨z1,_⟩:=jG (w:=w) (γ:=γ) (H:=H) ez
       rw[z1];exact hzl
      refine⟨w.drew.alloc _,_,_,_,(0,0),rfl,rfl,rfl,Xc,fun b hb=>iu w.drew _ hb,im w.drew _,.inr rfl,grownCap_ge _ _ _ _,?_,a2,?_,hrun⟩
      ·have hge:=grownCap_ge w zs.length 0 e
       simp only[Array.size_append,size_zeroCells,a5,hezc,List.size_toArray,yba,Nat.zero_add,← Nat.add_mul]
       exact Nat.mul_le_mul_right _ Xa
      ·intro j hj
       have l2:(flat zs).length=us.size:=by rw[gJ a2,a5]
       obtain⟨u,hu,hr⟩:=a6 j hj
       refine⟨u,?_,hr⟩
       rw[Array.append_assoc,Array.getElem?_append_right Xc,Array.getElem?_append_left Xf,← hu]
       congr 1
     ·cases h
    ·cases h
   ·cases h
  ·cases h
 ·cases h
def pO(hs:State w γ H){t:TypeId}{n:Nat}{parts:List (Nat × AV)}{vs:List (Nat × Value)}{r:R}(hp:RelP w γ H parts vs)(h:zje P t n parts H=some r){m:Mark}{sz:Nat}{xs:Wz}(hv:r.v=.slice m sz xs) :
 Out P w γ H (.slice .full sz xs) H ((Instr.buildSlice t n vs.toArray).run P w):=by
 unfold zje at h
 split at h
 ·rename_i e hd
  have hu:=jd hd
  split at h
  ·rename_i te hte
   obtain⟨ed,einf,ez,hed,heinf,hez,rfl⟩:=em hte
   split at h
   ·rename_i hcond
    obtain⟨hn,hlim⟩:=hcond
    dsimp only at h hlim
    cases hr:zjf einf.size 0 parts with
    |none=>simp[hr]at h
    |some xs' =>
     simp only[hr,yag,Option.some.injEq]at h
     subst h
     cases hv
     obtain⟨rfl,h2,h3⟩:=nO parts 0 _ hr
     obtain⟨zero,hz1,hz2⟩:∃ zero:Array Value,(n*einf.size=0→zero=#[])∧(¬ n*einf.size=0→zero=ez.cells):=by
      exact W11
     let C0:Array Value:=(Array.range (n*einf.size)).map (zero[· % zero.size]!)
     obtain⟨D,hD,hDs,_,hDr⟩:=rm (sz:=einf.size) parts vs 0 C0 hp.1 hp.2 h2 h3 (by simp[C0,hn])
     have hDs':D.size=n*einf.size:=by rw[hDs];simp[C0]
     have hrun:(Instr.buildSlice t n vs.toArray).run P w=.ok (.slice (some ⟨w.heap.size,0,none⟩) (parts.map (·.2)).length n) (w.alloc (.cells D e)):=by
      exact W3
     have he:=jC hs (w':=w.alloc (.cells D e)) rfl rfl rfl Xc (fun b hb=>iu w _ hb) none (fun b h=>by cases h) (.buf 1 0)
     have hst:=io hs (w':=w.alloc (.cells D e)) (fun b h=>by cases h) he (fun b hb=>iu w _ hb) (.inr (.inl ⟨_,_,rfl⟩))
     have hle:H.Le (H.push (.buf 1 0)):=(AHeap.Le.refl H).push _
     refine⟨_,_,_,hrun,hst.drop hle hs.closed,he.drop0 hle (Nat.le_refl _),?_⟩
     refine rel_slice.2 (.inr ⟨w.heap.size,0,n,D,e,(0,0),rfl,by simp[hn],im w _,by rw[hDs'];omega,?_,by show n=_;simp[hn],fun x hx=>(h2 x hx).1,?_⟩)
     ·intro id o ho hg
      rw[eR _ _ _ _ (by have:=AHeap.get_lt ho;omega)]at hg
      have:=hs.lt ho hg;omega
     ·refine AtR.mono (fun x v hr=>?_) (by simpa using hDr)
      have:=hr.ext he
      exact Rel.drop hle _ _ (Rel.lt _ _ hr) this
   ·cases h
  ·cases h
 ·cases h
def JS(hs:State w γ H){sz:Nat}{xs:Wz}{run:Result Value}(h:RH w γ H sz xs run)(h0:∀ x∈xs.flatMap AV.cells,x.lt 0) :
 Out P w γ H (.ms H.nx 0 sz xs.length) (H.push (.part (xs.flatMap AV.cells))) run:=by
 obtain⟨w',cap,C,ty,fr,hos,htape,hout,hsz,hold,hnew,hfr,hle,hC,hall,hr,hrun⟩:=h
 have hfl:(flat xs).length=xs.length*sz:=gJ hall
 have hm:xs.length*sz≤cap*sz:=Nat.mul_le_mul_right _ hle
 have he:=jC hs hos htape hout Xa hold (some w.heap.size) (fun b h=>by cases h;exact Nat.le_refl _) (.part (xs.flatMap AV.cells))
 have hth:lA fr 0 C.size:=fun p p1 p2=>by rcases hfr with h|h<;>omega
 refine⟨_,w',_,hrun,io hs (fun b h=>by cases h;omega) he hold (.inr (.inr (.inl ⟨_,C,ty,fr,_,rfl,rfl,hnew,?_,hr,hth,h0⟩))),he,?_⟩
 ·show(flat xs).length≤_
  omega
 ·exact W12
def Fc{k:FuncId}{args:Wz}{vs:Array Value}{e:AEnd}{H':AHeap}(h:ACalls P k args H e H')(hs:State w γ H)(hA:RelA w γ H args vs){o:Oper}{a:Act}{K:Act→World→Prop}{Q:Exit→Act→World→Prop}(hrun:(execOp a.eval o).run P w=(callFunc k vs).run P w)
 (hK:∀ x v w' γ',e=.ret x→State w' γ' H'→Ext w γ H w' γ' H'→Rel w' γ' H' x v→K (a.put o.dst v) w')
 (hp:∀ x v w' γ',e=.panic x→State w' γ' H'→Ext w γ H w' γ' H'→Rel w' γ' H' x v→Q (.panic [{v,recovered:=false}]) a w'):o.wp P a w K Q:=by
 have hcall:=h w γ _ hs hA
 unfold Oper.wp
 rw[hrun]
 generalize (callFunc k vs).run P w=rr at hcall ⊢
 unfold sR at hcall
 split at hcall
 ·rw[Oper.upon_enter]
  refine hcall.mono fun en w' hen=>?_
  obtain⟨γ',g1,g2,g3⟩:=hen
  cases e with
  |ret x =>
   cases en with
   |returned v=>exact hK x v w' γ' rfl g1 g2 g3
   |panicked ch=>exact g3.elim
   |outgrown=>exact g3.elim
  |panic x =>
   cases en with
   |returned v=>exact g3.elim
   |panicked ch=>obtain⟨v,rfl,g4⟩:=g3;exact hp x v w' γ' rfl g1 g2 g4
   |outgrown=>exact g3.elim
 ·rw[Oper.upon_value]
  obtain⟨γ',g1,g2,g3⟩:=hcall
  cases e with
  |ret x=>exact hK x _ _ γ' rfl g1 g2 g3
  |panic x=>exact g3.elim
 ·exact hcall.elim
theorem ST.sound{o:Oper}{f:Nat→AV}{e:AEnd}{H':AHeap}(h:ST P o f H e H')(hs:State w γ H){a:Act}(hf:SimF w γ H f a){K:Act→World→Prop}{Q:Exit→Act→World→Prop}
 (hK:∀ x v w' γ',e=.ret x→State w' γ' H'→Ext w γ H w' γ' H'→Rel w' γ' H' x v→K (a.put o.dst v) w')
 (hp:∀ x v w' γ',e=.panic x→State w' γ' H'→Ext w γ H w' γ' H'→Rel w' γ' H' x v→Q (.panic [{v,recovered:=false}]) a w'):o.wp P a w K Q:=by
 cases h with
 |res r h hc =>
  obtain⟨v,w',γ',h1,h2,h3,h4⟩:=qw hs (fun x=>hf.eval x) h hc
  unfold Oper.wp
  rcases h1 with h1|⟨h1,rfl⟩
  ·rw[h1];exact hK _ v w' γ' rfl h2 h3 h4
  ·rw[h1];exact hK _ undef w' γ' rfl h2 h3 h4
 |call c g k first cap e H' h1 h2 h3 h =>
  have hg:=hf.eval g
  rw[h3,Rel]at hg
  obtain⟨F,C,hv,s1,s2,hF,hC⟩:=hg
  have hA:RelA w γ H (first++c.args.toList.map (evF f)++cap) (F++c.args.map a.eval++C) :=
   RelA.append (RelA.append ⟨s1,hF⟩ (RelA.map (fun x=>hf.eval x) c.args)) ⟨s2,hC⟩
  have hrun:(execOp a.eval o).run P w=(callFunc k (F++c.args.map a.eval++C)).run P w:=by
   exact W16
  exact Fc h hs hA hrun hK hp
 |app args argTypes t t2 tl sz x r i sz' xs h1 h2 h3 h hc hv hne hlt =>
  obtain⟨dst,op,ty,pos,after,guard⟩:=o
  dsimp only at h1
  subst h1
  have e1:argTypes[0]?=some t:=by rw[← Array.getElem?_toList,h2];rfl
  have e1':argTypes[1]?=some t2:=by rw[← Array.getElem?_toList,h2];rfl
  obtain⟨x0,x1,e2⟩:∃ x0 x1,args=#[x0,x1]:=by
   have:args.toList.length=2:=by have:=congrArg List.length h3;simpa using this
   match args,this with
   |⟨[x0,x1]⟩,_=>exact⟨x0,x1,rfl⟩
  subst e2
  simp only[yae,yaf,List.cons.injEq,and_true]at h3
  obtain⟨e3,rfl⟩:=h3
  have hs0:=hf.eval x0
  rw[e3]at hs0
  obtain⟨v,w',γ',hr,g1,g2,g3⟩:=JS (P:=P) hs (yR hs hs0 (hf.eval x1) h hc hv hne argTypes e1 e1' ty) hlt
  have he:(execOp a.eval ⟨dst,.call {callee:=.builtin .append,args:=#[x0,x1],argTypes:=argTypes},ty,pos,after,guard⟩).run P w=((Builtin.append_ argTypes ty #[a.eval x0,a.eval x1]).run P w).andThen (fun v w'=>.ok (.value v) w'):=by
   simp[execOp,resolve,invoke,builtin]
  unfold Oper.wp
  rw[he,hr]
  exact hK _ v w' γ' rfl g1 g2 g3
 |frz t n ps c m sz xs G h1 h hc b =>
  cases b
  case true =>
   obtain⟨dst,op,ty,pos,after,guard⟩:=o
   dsimp only at h1
   subst h1
   obtain⟨v,w',γ',hr,g1,g2,g3⟩:=pO hs (RelP.map (e:=evF f) (a:=a) (fun x=>hf.eval x) ps) h rfl
   have he:(execOp a.eval ⟨dst,.buildSlice t n ps,ty,pos,after,guard⟩).run P w=.ok (.value v) w':=by
    exact W17
   unfold Oper.wp
   rw[he]
   exact hK _ v w' γ' rfl g1 g2 g3
  obtain⟨v,w',γ',g1,g2,g3,g4⟩:=qw hs (fun x=>hf.eval x) h hc
  have hb:zje P t n (ps.toList.map fun p=>(p.1,evF f p.2)) H=some ⟨c,.slice m sz xs,G⟩:=by
   have h':=h
   unfold jn at h'
   rw[h1]at h'
   exact h'
  obtain⟨hle,hmem,_⟩:=pQ hb
  have hlt:∀ x∈xs,x.lt H.nx:=fun x hx=>by
   obtain⟨p,hp,rfl⟩:=hmem x hx
   obtain⟨q,_,rfl⟩:=List.mem_map.1 hp
   exact Rel.lt _ _ (hf.eval q.2)
  have k2:=State.drop hle hs.closed g2
  have k3:=g3.drop0 hle (Nat.le_refl _)
  have k4:=Rel.unmark hle g4 hlt
  exact W23
 |frm t l c p sz n cs h1 h hc hlt =>
  obtain⟨v,w',γ',g1,g2,g3,g4⟩:=qw hs (fun x=>hf.eval x) h hc
  have hle:H.Le (H.push (.cells cs)):=(AHeap.Le.refl H).push _
  have k2:=State.drop hle hs.closed g2
  have k3:=g3.drop0 hle (Nat.le_refl _)
  have hcs:a8 (H.push (.cells cs)) H.nx=some cs:=by unfold a8;rw[AHeap.get_push_new]
  have hno:H.get H.nx=none:=by unfold AHeap.get;rw[if_neg (by omega)]
  have k4:Rel w' γ' H (.slice .any sz (dh sz n cs)) v:=by
   refine uY g2 hle g4 ?_ ?_
   ·simp only[wk1,hcs,yap]
    exact⟨.inl trivial,trivial,trivial,hno⟩
   ·rw[AV.lt]
    exact⟨fun id e=>(by cases e),fun j hj=>AV.lt_mono (Nat.zero_le _) _ (hlt _ (List.getElem_mem hj))⟩
  exact W23
 |lit t n ps r m sz xs h1 h hv =>
  obtain⟨dst,op,ty,pos,after,guard⟩:=o
  dsimp only at h1
  subst h1
  obtain⟨v,w',γ',hr,g1,g2,g3⟩:=rE hs (RelP.map (e:=evF f) (a:=a) (fun x=>hf.eval x) ps) h hv
  have he:(execOp a.eval ⟨dst,.buildSlice t n ps,ty,pos,after,guard⟩).run P w=.ok (.value v) w':=by
   exact W17
  unfold Oper.wp
  rw[he]
  exact hK _ v w' γ' rfl g1 g2 g3
 |panic x t v h1 h2 =>
  have hx:=hf.eval x
  rw[h2]at hx
  have hx':=hx
  rw[Rel]at hx
  obtain⟨u,hu,_⟩:=hx
  rw[hu]at hx'
  have hrun:(execOp a.eval o).run P w=.halt (.panic (.iface t u)) w:=by
   obtain⟨dst,op,ty,pos,after,guard⟩:=o
   dsimp only at h1
   subst h1
   simp[execOp,hu,Instr.panic,goPanic]
  unfold Oper.wp
  rw[hrun,Oper.upon_panic]
  exact hp _ _ w γ rfl hs (Ext.refl _ _ _) hx'
def C3{k:FuncId}{args:Wz}{vs:Array Value}{Post:By1}(h:ACallsP P k args H Post)(hs:State w γ H)(hA:RelA w γ H args vs){o:Oper}{a:Act}{K:Act→World→Prop}{Q:Exit→Act→World→Prop}(hrun:(execOp a.eval o).run P w=(callFunc k vs).run P w)
 (hK:∀ x H1 v w' γ',Post x H1→State w' γ' H1→Ext w γ H w' γ' H1→Rel w' γ' H1 x v→K (a.put o.dst v) w'):o.wp P a w K Q:=by
 have hcall:=h w γ _ hs hA
 unfold Oper.wp
 rw[hrun]
 generalize (callFunc k vs).run P w=rr at hcall ⊢
 unfold sR at hcall
 split at hcall
 ·rw[Oper.upon_enter]
  refine hcall.mono fun en w' hen=>?_
  obtain⟨γ',x,H1,hp,g1,g2,g3⟩:=hen
  cases en with
  |returned v=>exact hK x H1 v w' γ' hp g1 g2 g3
  |panicked ch=>exact g3.elim
  |outgrown=>exact g3.elim
 ·rw[Oper.upon_value]
  obtain⟨γ',x,H1,hp,g1,g2,g3⟩:=hcall
  exact hK x H1 _ _ γ' hp g1 g2 g3
 ·exact hcall.elim
def uq{o:Oper}{f:Nat→AV}{c:Call}{g:Operand}{k:FuncId}{first cap:Wz}{Post:By1}(h1:o.op=.call c)(h2:c.callee=.value g)(h3:evF f g=.func (.func k) first cap)
 (h:ACallsP P k (first++c.args.toList.map (evF f)++cap) H Post) (hs:State w γ H) {a:Act} (hf:SimF w γ H f a) {K:Act→World→Prop} {Q:Exit→Act→World→Prop}
 (hK:∀ x H1 v w' γ',Post x H1→State w' γ' H1→Ext w γ H w' γ' H1→Rel w' γ' H1 x v→K (a.put o.dst v) w'):o.wp P a w K Q:=by
 have hg:=hf.eval g
 rw[h3,Rel]at hg
 obtain⟨F,C,hv,s1,s2,hF,hC⟩:=hg
 have hA:RelA w γ H (first++c.args.toList.map (evF f)++cap) (F++c.args.map a.eval++C) :=
  RelA.append (RelA.append ⟨s1,hF⟩ (RelA.map (fun x=>hf.eval x) c.args)) ⟨s2,hC⟩
 have hrun:(execOp a.eval o).run P w=(callFunc k (F++c.args.map a.eval++C)).run P w:=by
  exact W16
 exact C3 h hs hA hrun hK
end
end Go.AL
