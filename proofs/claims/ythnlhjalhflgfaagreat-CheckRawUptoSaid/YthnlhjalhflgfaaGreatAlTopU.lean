/- Lemmas of the proof; no condition. -/
import Derived.Test.YthnlhjalhflgfaaGreatAlTop
import Derived.Deep.CondSized
set_option linter.all false
set_option linter.unusedSectionVars false
namespace Go.AL
open Go.RowKit Go.ChangeShapes Go.WideShapes
def AV.cnt (R:Nat):AV→Prop
 |.str s=>s.length≤R
 |.slice _ _ xs=>xs.length≤R∧∀ (j:Nat) (hj:j<xs.length),AV.cnt R xs[j]
 |.agg cs=>∀ (j:Nat) (hj:j<cs.length),AV.cnt R cs[j]
 |_=>True
termination_by x=>SizeOf.sizeOf x
decreasing_by
 all_goals simp_wf
 all_goals (have:=List.sizeOf_lt_of_mem (List.getElem_mem hj);omega)
theorem AV.cnt_of_cells {R:Nat} {x:AV} (h:∀ (j:Nat) (hj:j<x.cells.length),(x.cells[j]).cnt R):x.cnt R:=by
 cases x
 case agg cs=>rw [AV.cnt];exact h
 all_goals exact h 0 (by simp [AV.cells])
def RC (w:World) (R:Nat) (a:AV) (v:Value):Prop:=Rel w g0 H0 a v∧a.cnt R
section
variable {H:Type} {enc:TypeId × Value→H} {P:Program} {w:World}
structure BulkOk (B:DataW H→Nat):Prop where
 str:∀ s:List UInt8,s.length≤B (.lit (.string s))
 len:∀ es sp:List (DataW H),es.length≤B (.slice es sp)
 elem:∀ (es sp:List (DataW H)) (x:DataW H),x∈es→B x≤B (.slice es sp)
 agg:∀ (es:List (DataW H)) (x:DataW H),x∈es→B x≤B (.agg es)
theorem mS (B:DataW H→Nat) (hB:BulkOk B) (R:Nat) (b0:Nat) (held:Bool):∀ (d:Nat) (t:TypeId),plainT P d t=true→∀ (n:Nat) (cs:List Value) (x:DataW H × List MemPlace),
 DataW.trod enc P w b0 (fun _=>true) held n t cs=some x→(∀ m∈x.1.weights P t,m≤reachBytes)→B x.1≤R →
 ∃ avs:List AV,avs.length=cs.length∧AtR (RC w R) avs cs.toArray 0∧tyC P d t avs∧cP avs=true
 |0,t,hp,_,_,_,_,_,_=>by simp [plainT] at hp
 |d+1,t,hp,n,cs,x,h,hw,hb=>by
  obtain ⟨i,u,hi,hu⟩:=pV hp
  obtain ⟨hdesc,hsize⟩:=qV hi hu
  have one_at:∀ (a:AV) (v:Value),RC w R a v→AtR (RC w R) [a] [v].toArray 0:=fun a v hr j hj=>by
   have:j=0:=by simp at hj;omega
   subst this;exact ⟨v,rfl,hr⟩
  unfold plainT at hp
  rw [hi,hu] at hp
  unfold tyC
  rw [hi]
  cases u with
  |int k =>
   obtain ⟨m,rfl,hx,hwf⟩:=DataW.trod_int hu h
   have hwf:k.min≤m∧m≤k.max:=by simpa [Lit.wf] using hwf
   refine ⟨[.int k m],rfl,one_at _ _ ⟨by rw [Rel],by rw [AV.cnt]<;>simp⟩,?_,rfl⟩
   simp only [hdesc,fJ]
   exact ⟨m,rfl,hwf⟩
  |bool =>
   obtain ⟨b,rfl,hx⟩:=DataW.trod_bool hu h
   refine ⟨[.bool b],rfl,one_at _ _ ⟨by rw [Rel],by rw [AV.cnt]<;>simp⟩,?_,rfl⟩
   simp only [hdesc,fJ]
   exact ⟨b,rfl⟩
  |string =>
   obtain ⟨s,rfl,rfl,hs⟩:=DataW.trod_string hu h
   refine ⟨[.str s.data.toList],rfl,one_at _ _ ⟨by rw [Rel],by rw [AV.cnt];exact Nat.le_trans (hB.str _) hb⟩,?_,rfl⟩
   simp only [hdesc,fJ]
   refine ⟨_,rfl,?_⟩
   have:=hw s.data.toList.length (by simp [DataW.weights])
   exact this
  |struct fs =>
   dsimp only at hp
   obtain ⟨xs,m,_,rfl,hl,hxl,hf⟩:=DataW.trod_struct hu h
   have key:=xj P d (RC w R) cs (P.cellsOf t) fs.toList 0 hp hl fun f hfm=>by
    obtain ⟨j,hj⟩:=List.getElem?_of_mem hfm
    rw [Array.getElem?_toList] at hj
    have hpf:plainT P d f.type=true:=by
     clear hf h hw hxl hdesc
     have:∀ (l:List Field) (o:Nat),plainT.tile (plainT P d) (fun t=>P.cellsOf t) (P.cellsOf t) o l=true→∀ g∈l,plainT P d g.type=true:=by
      intro l
      induction l with
      |nil=>intro o _ g hg;cases hg
      |cons a l ih =>
       intro o ho g hg
       simp only [plainT.tile,Bool.and_eq_true] at ho
       rcases List.mem_cons.1 hg with rfl|hg
       ·exact ho.1.2
       ·exact ih _ ho.2 g hg
     exact this _ _ hp f hfm
    have hjl:j<fs.size:=by
     rcases Nat.lt_or_ge j fs.size with h'|h'
     ·exact h'
     ·rw [Array.getElem?_eq_none h'] at hj;cases hj
    have hxj:xs[j]?=some (xs[j]'(by omega)):=by simp
    refine mS B hB R b0 held d f.type hpf m _ _ ((hf j f hj).trans hxj) (fun q hq=>hw q ?_) (Nat.le_trans (hB.agg _ _ (List.mem_map.2 ⟨_,List.getElem_mem _,rfl⟩)) hb)
    simp only [DataW.weights,hu]
    refine tD (j:=j) (t:=f.type) (d:=(xs[j]'(by omega)).1) ?_ ?_ q hq
    ·simp [hj]
    ·simp [hxl,hjl]
   obtain ⟨avs,h1,h2,h3,h4⟩:=key
   refine ⟨avs,by omega,h2,?_,h4⟩
   simp only [hdesc,fJ]
   exact h3
  |array k e =>
   simp only [Bool.and_eq_true,beq_iff_eq] at hp
   obtain ⟨hpe,hsz⟩:=hp
   obtain ⟨xs,m,_,rfl,hl,hxl,hf⟩:∃ (xs:List (DataW H × List MemPlace)) (m:Nat),n=m+1∧x=(.agg (xs.map (·.1)),xs.flatMap (·.2))∧cs.length=P.cellsOf t∧xs.length=k ∧
    ∀ i,i<k→DataW.trod enc P w b0 (fun _=>true) held m e ((cs.drop (i*P.cellsOf e)).take (P.cellsOf e))=xs[i]?:=by
    cases n with
    |zero=>simp [DataW.trod] at h
    |succ m =>
     unfold DataW.trod at h
     rw [hu] at h
     split at h<;>simp_all
     obtain ⟨hl,ys,hys,rfl⟩:=h
     have hylen:=mapM_some_length hys
     refine ⟨ys,rfl,by simpa using hylen,fun i hi=>?_⟩
     have:=mapM_some_get hys i i (by simp [hi])
     exact this
   have key:=Gf P d e hpe (RC w R) cs k (by rw [hl,hsz]) k 0 (by omega) fun i hik=>by
    have hxj:xs[i]?=some (xs[i]'(by omega)):=by simp
    refine mS B hB R b0 held d e hpe m _ _ ((hf i hik).trans hxj) (fun q hq=>hw q ?_) (Nat.le_trans (hB.agg _ _ (List.mem_map.2 ⟨_,List.getElem_mem _,rfl⟩)) hb)
    simp only [DataW.weights,hu]
    exact my (d:=(xs[i]'(by omega)).1) (List.mem_map.2 ⟨_,List.getElem_mem _,rfl⟩) q hq
   obtain ⟨avs,h1,h2,h3,h4⟩:=key
   refine ⟨avs,by omega,by simpa using h2,?_,h4⟩
   simp only [hdesc,fJ]
   exact h3
  |slice e =>
   simp only [Bool.and_eq_true,decide_eq_true_eq] at hp
   obtain ⟨⟨hpos,hpe⟩,hagg⟩:=hp
   have hse:=pK hpe
   rcases DataW.trod_slice hu h with ⟨rfl,rfl⟩|⟨a,len,cap,elems,rest,m,_,rfl,rfl,_,hle,_,hel,hf,hsp,_⟩
   ·refine ⟨[.slice .any (zjx P e) []],rfl,one_at _ _ ⟨by rw [Rel];exact .inl ⟨⟨_,rfl⟩,rfl,trivial⟩,by rw [AV.cnt];exact ⟨Nat.zero_le _,fun j hj=>absurd hj (by simp)⟩⟩,?_,rfl⟩
    simp only [hdesc,fJ]
    exact ⟨[],rfl,by simp,fun x hx=>(by cases hx)⟩
   ·obtain ⟨hrl,hrest⟩:=hsp rfl
    have hwt:=hw ((elems.length+rest.length)*P.bytesOf e) (by simp [DataW.weights,hu])
    -- each element as a row of cells
    have helem:∀ i,i<len→∃ (ecs:List Value) (z:DataW H × List MemPlace),w.cells? b0 (a.add (i*P.cellsOf e)) (P.cellsOf e)=some ecs∧DataW.trod enc P w b0 (fun _=>true) held m e ecs=some z∧z∈elems:=by
     intro i hi
     have:=hf i hi
     have hei:elems[i]?=some (elems[i]'(by omega)):=by simp
     rw [hei] at this
     obtain ⟨ecs,h1,h2⟩:=Option.bind_eq_some_iff.1 this
     exact ⟨ecs,_,h1,h2,by simp⟩
    have hAll:∀ k,k<cap→∃ ecs:List Value,w.cells? b0 (a.add (k*P.cellsOf e)) (P.cellsOf e)=some ecs:=by
     intro k hk
     by_cases hkl:k<len
     ·obtain ⟨ecs,_,h1,_⟩:=helem k hkl;exact ⟨ecs,h1⟩
     ·have:=hrest (k - len) (by omega)
      have hei:rest[k - len]?=some (rest[k - len]'(by omega)):=by simp
      rw [hei] at this
      obtain ⟨ecs,h1,_⟩:=Option.bind_eq_some_iff.1 this
      exact ⟨ecs,by rw [← h1];congr 3;omega⟩
    by_cases hc0:cap=0
    ·have hl0:len=0:=by omega
     subst hl0;subst hc0
     refine ⟨[.slice .any (zjx P e) []],rfl,one_at _ _ ⟨by rw [Rel];exact .inl ⟨⟨_,rfl⟩,rfl,trivial⟩,by rw [AV.cnt];exact ⟨Nat.zero_le _,fun j hj=>absurd hj (by simp)⟩⟩,?_,rfl⟩
     simp only [hdesc,fJ]
     exact ⟨[],rfl,by simp,fun x hx=>(by cases hx)⟩
    ·-- the block
     have hcell:∀ k j,k<cap→j<P.cellsOf e→∃ v,w.cell? ((a.add (k*P.cellsOf e)).add j)=some v:=by
      intro k j hk hj
      obtain ⟨ecs,he⟩:=hAll k hk
      obtain ⟨_,hl',hg⟩:=World.cells?_some he
      exact ⟨ecs[j]'(by omega),by rw [hg j hj];simp [hl',hj]⟩
     obtain ⟨v0,hv0⟩:=hcell 0 0 (by omega) hpos
     have hadd0:(a.add (0*P.cellsOf e)).add 0=a:=by simp [Addr.add]
     rw [hadd0] at hv0
     obtain ⟨C,ty,fr,hblk,hspot,_⟩:=qC hv0
     obtain ⟨ab,ao,as⟩:=a
     dsimp only at hspot hblk
     subst hspot
     have hadd:∀ k j,((⟨ab,ao,none⟩:Addr).add k).add j=⟨ab,ao+k+j,none⟩:=by
      intro k j
      unfold Addr.add
      by_cases h1:k=0<;>by_cases h2:j=0<;>simp [h1,h2]
     have hcell':∀ o v,w.cell? ⟨ab,o,none⟩=some v→C[o]?=some v:=by
      intro o v hv
      obtain ⟨C',_,_,hb',_,hg'⟩:=qC hv
      rw [hblk] at hb'
      cases hb'
      exact hg'
     have hrow:∀ i,i<len→∃ avs:List AV,avs.length=P.cellsOf e∧(∀ (j:Nat) (hj:j<avs.length),∃ u,C[ao+i*P.cellsOf e+j]?=some u∧RC w R avs[j] u)∧tyC P d e avs∧cP avs=true:=by
      intro i hi
      obtain ⟨ecs,z,h1,h2,h3⟩:=helem i hi
      obtain ⟨avs,k1,k2,k3,k4⟩:=mS B hB R b0 held d e hpe m ecs z h2 (fun q hq=>hw q (by
       simp only [DataW.weights,hu,List.mem_cons,List.mem_append]
       exact .inr (.inl (my (d:=z.1) (List.mem_map.2 ⟨z,h3,rfl⟩) q hq)))) (Nat.le_trans (hB.elem _ _ _ (List.mem_map.2 ⟨z,h3,rfl⟩)) hb)
      obtain ⟨_,hl',hg⟩:=World.cells?_some h1
      refine ⟨avs,by omega,fun j hj=>?_,k3,k4⟩
      obtain ⟨u,hu1,hu2⟩:=k2 j hj
      refine ⟨u,?_,hu2⟩
      rw [List.getElem?_toArray,Nat.zero_add] at hu1
      have:=hg j (by omega)
      rw [hu1,hadd] at this
      exact hcell' _ _ this
     -- the elements as values
     have hval:∀ i,i<len→∃ y:AV,(y.cells.length=P.cellsOf e∧∀ (j:Nat) (hj:j<y.cells.length),∃ u,C[ao+i*P.cellsOf e+j]?=some u∧RC w R y.cells[j] u)∧tyC.elem P (tyC P d e) e y:=by
      intro i hi
      obtain ⟨avs,k1,k2,k3,k4⟩:=hrow i hi
      obtain ⟨ie,ue,hie,hue⟩:=pV hpe
      obtain ⟨hde,_⟩:=qV hie hue
      rw [hue] at hagg
      simp only [Option.elim_some,Bool.or_eq_true,beq_iff_eq] at hagg
      unfold tyC.elem
      rw [hie]
      simp only [Option.elim_some,hde]
      by_cases hag:(fJ ue).agg=true
      ·simp only [if_pos hag]
       exact ⟨.agg avs,⟨k1,k2⟩,avs,rfl,k3⟩
      ·simp only [if_neg hag]
       have hone:P.cellsOf e=1:=hagg.resolve_left hag
       rw [hone] at k1
       match avs,k1 with
       |[y],_ =>
        have hy1:y.one=true:=by simpa [cP] using k4
        have hyc:y.cells=[y]:=by cases y<;>first|rfl|(simp [AV.one] at hy1)
        refine ⟨y,?_,hy1,k3⟩
        rw [hyc]
        exact ⟨by rw [hone];rfl,k2⟩
     obtain ⟨ys,hyl,hys⟩:∃ ys:List AV,ys.length=len∧∀ i (hi:i<ys.length),((ys[i]).cells.length=P.cellsOf e∧∀ (j:Nat) (hj:j<(ys[i]).cells.length),∃ u,C[ao+i*P.cellsOf e+j]?=some u∧RC w R (ys[i]).cells[j] u)∧tyC.elem P (tyC P d e) e ys[i]:=by
      have pick:∀ i:Fin len,∃ y:AV,(y.cells.length=P.cellsOf e∧∀ (j:Nat) (hj:j<y.cells.length),∃ u,C[ao+i.1*P.cellsOf e+j]?=some u∧RC w R y.cells[j] u)∧tyC.elem P (tyC P d e) e y:=fun i=>hval i.1 i.2
      refine ⟨List.ofFn fun i=>Classical.choose (pick i),by simp,fun i hi=>?_⟩
      have hi':i<len:=by simpa using hi
      have:=Classical.choose_spec (pick ⟨i,hi'⟩)
      simpa using this
     have hcnt:AV.cnt R (.slice .any (zjx P e) ys):=by
      rw [AV.cnt]
      refine ⟨?_,fun i hi=>?_⟩
      ·have h1:=hB.len (elems.map (·.1)) (rest.map (·.1))
       rw [List.length_map] at h1
       have:ys.length=elems.length:=by omega
       rw [this]
       exact Nat.le_trans h1 hb
      ·exact AV.cnt_of_cells fun j hj=>let ⟨u,_,h2⟩:=(hys i hi).1.2 j hj;h2.2
     refine ⟨[.slice .any (zjx P e) ys],rfl,one_at _ _ ⟨?_,hcnt⟩,?_,rfl⟩
     ·rw [Rel]
      refine .inr ⟨ab,ao,cap,C,ty,fr,by rw [hyl],by omega,hblk,?_,S8 _ _,trivial,fun i hi=>?_⟩
      ·rw [hse]
       obtain ⟨v,hv⟩:=hcell (cap - 1) (P.cellsOf e - 1) (by omega) (by omega)
       rw [hadd] at hv
       have:=hcell' _ _ hv
       have hlt:ao+(cap - 1)*P.cellsOf e+(P.cellsOf e - 1)<C.size:=by
        rcases Nat.lt_or_ge (ao+(cap - 1)*P.cellsOf e+(P.cellsOf e - 1)) C.size with h'|h'
        ·exact h'
        ·rw [Array.getElem?_eq_none h'] at this;cases this
       have e1:cap*P.cellsOf e=(cap - 1)*P.cellsOf e+P.cellsOf e:=by
        rw [← Nat.succ_mul];congr 1;omega
       omega
      ·rw [hse];exact ⟨(hys i hi).1.1,fun j hj=>let ⟨u,h1,h2⟩:=(hys i hi).1.2 j hj;⟨u,h1,h2.1⟩⟩
     ·simp only [hdesc,fJ]
      refine ⟨ys,rfl,?_,fun x hx=>?_⟩
      ·have h1:ys.length*P.bytesOf e≤(elems.length+rest.length)*P.bytesOf e:=Nat.mul_le_mul_right _ (by omega)
       exact Nat.le_trans h1 hwt
      ·obtain ⟨i,hi,rfl⟩:=List.getElem_of_mem hx
       exact (hys i hi).2
  |_=>simp at hp
theorem As (B:DataW H→Nat) (hB:BulkOk B) (R:Nat) {b0 base:Nat} {d:Nat} {t:TypeId} (hp:plainT P d t=true) {v:Value} {x:DataW H} {ps:List MemPlace} (hv:Value.okWide P w .any base t v)
 (h:DataW.Trod enc P w b0 (fun _=>true) true t v x ps) (hw:∀ m∈x.weights P t,m≤reachBytes) (hb:B x≤R):∃ a,RC w R a v∧tyV P d t a:=by
 obtain ⟨n,h⟩:=h
 obtain ⟨avs,h1,h2,h3,h4⟩:=mS B hB R b0 true d t hp n _ _ h hw hb
 obtain ⟨i,u,hi,hu⟩:=pV hp
 obtain ⟨hdesc,hsize⟩:=qV hi hu
 unfold tyV tyC.elem
 rw [hi]
 simp only [Option.elim_some,hdesc]
 have hscalar:(fJ u).agg=false→Cell.okWide P w .any base t v→∃ a,RC w R a v∧a.one=true∧tyC P d t [a]:=by
  intro hag hc
  have hvc:v.cells=#[v]:=by
   cases v<;>first|rfl|skip
   unfold Cell.okWide Cell.ok at hc
   rw [hu] at hc
   cases u<;>simp at hc
  rw [hvc] at h1 h2
  match avs,h1 with
  |[y],_ =>
   obtain ⟨z,hz,hr⟩:=h2 0 (by simp)
   simp at hz
   subst hz
   exact ⟨y,hr,by simpa [cP] using h4,h3⟩
 unfold Value.okWide at hv
 rw [hu] at hv
 cases u with
 |struct fs =>
  obtain ⟨cs,rfl,_,_⟩:=hv
  refine ⟨.agg avs,⟨?_,?_⟩,by rw [if_pos (by rfl)];exact ⟨avs,rfl,h3⟩⟩
  ·rw [Rel]
   exact ⟨cs,rfl,by simpa [Value.cells] using h1.symm,fun j hj=>let ⟨u,e1,e2⟩:=h2 j hj;⟨u,by simpa [Value.cells] using e1,e2.1⟩⟩
  ·rw [AV.cnt]
   exact fun j hj=>let ⟨u,_,e2⟩:=h2 j hj;e2.2
 |array k e =>
  obtain ⟨cs,rfl,_,_⟩:=hv
  refine ⟨.agg avs,⟨?_,?_⟩,by rw [if_pos (by rfl)];exact ⟨avs,rfl,h3⟩⟩
  ·rw [Rel]
   exact ⟨cs,rfl,by simpa [Value.cells] using h1.symm,fun j hj=>let ⟨u,e1,e2⟩:=h2 j hj;⟨u,by simpa [Value.cells] using e1,e2.1⟩⟩
  ·rw [AV.cnt]
   exact fun j hj=>let ⟨u,_,e2⟩:=h2 j hj;e2.2
 |_ =>
  obtain ⟨a,h5,h6⟩:=hscalar rfl hv
  exact ⟨a,h5,by rw [if_neg (by simp [fJ,TD.agg])];exact h6⟩
theorem uS (B:DataW H→Nat) (hB:BulkOk B) (R:Nat) {b0 base:Nat} {d:Nat}:∀ {ts:List TypeId} {vs:List Value} {ds:List (DataW H)} {ps:List MemPlace},(ts.all fun t=>plainT P d t)=true →
 (∀ (j:Nat) t v,ts[j]?=some t→vs[j]?=some v→Value.okWide P w .any base t v)→DataW.TrodAll enc P w b0 (fun _=>true) true ts vs ds ps →
 (∀ m∈DataW.weightsEach P ts ds,m≤reachBytes)→(∀ x∈ds,B x≤R)→∃ avs:List AV,avs.length=vs.length∧(∀ (j:Nat) (hj:j<avs.length),∃ u,vs[j]?=some u∧RC w R avs[j] u)∧tyA P d ts avs
 |[],[],[],_,_,_,_,_,_=>⟨[],rfl,fun j hj=>absurd hj (by simp),trivial⟩
 |t::ts,v::vs,x::ds,ps,hp,hv,h,hw,hb=>by
  simp only [List.all_cons,Bool.and_eq_true] at hp
  obtain ⟨p,q,h1,h2,_⟩:=h
  obtain ⟨a,ha,ht⟩:=As B hB R hp.1 (hv 0 t v rfl rfl) h1 (fun m hm=>hw m (by simp only [DataW.weightsEach,List.mem_append];exact .inl hm)) (hb x List.mem_cons_self)
  obtain ⟨as,k1,k2,k3⟩:=uS B hB R hp.2 (fun j t' v' h1 h2=>hv (j+1) t' v' (by simpa using h1) (by simpa using h2)) h2 (fun m hm=>hw m (by simp only [DataW.weightsEach,List.mem_append];exact .inr hm)) fun y hy=>hb y (List.mem_cons_of_mem _ hy)
  refine ⟨a::as,by simp [k1],fun j hj=>?_,ht,k3⟩
  cases j with
  |zero=>exact ⟨v,rfl,ha⟩
  |succ j=>obtain ⟨u,h3,h4⟩:=k2 j (by simpa using hj);exact ⟨u,by simpa using h3,by simpa using h4⟩
 |[],[],_::_,_,_,_,h,_,_=>by simp [DataW.TrodAll] at h
 |[],_::_,_,_,_,_,h,_,_=>by simp [DataW.TrodAll] at h
 |_::_,[],_,_,_,_,h,_,_=>by simp [DataW.TrodAll] at h
 |_::_,_::_,[],_,_,_,h,_,_=>by simp [DataW.TrodAll] at h
end
section
variable {H:Type} {enc:TypeId × Value→H}
theorem vX {a:Assume} {C:Checked} {os:Os} {f:FuncId} {fn:Func} {c:Code} {s:OpenSpec} {k:(H:Type)→List (DataW H)→Bool} (hk:s.cond=some k) {F:Stop.Interp} (B:DataW H→Nat) (hB:BulkOk B) (R:Nat) (hR:∀ ds:List (DataW H),k H ds=true→∀ x∈ds,B x≤R) {conds:List PathCond} {apart fresh handsOn again:Bool} {d:Nat} {tb:TypeId}
 (own : ownKnob C.prog.godebug = none) (started : os.Started) (noInit : C.prog.inits.idxOf? f = none) (hfn : C.prog.funcs[f]? = some fn) (hname : (fn.name == "runtime.NumGoroutine") = false) (hbody : fn.body = some c)
 (hlaid:laidOutB C.prog=true) (hread:(fn.params.toList.all fun t=>C.prog.readableRec t&&decide (t<C.prog.types.size))=true) (hplain:(fn.params.toList.all fun t=>plainT C.prog d t)=true)
 (hres:fn.resultTypes=#[tb]) (htb:C.prog.underlying tb=some .bool) (hvars:s.vars=[]) (hvars2:(s.at F).vars=[])
 (hs:∀ ds:List (DataW H),ds.length=fn.params.size→((s.at F).fn H ds).results=[.lit (.bool true)]∧((s.at F).fn H ds).args=ds∧((s.at F).fn H ds).vars=[])
 (witness:∃ (w:World) (tape:Tape) (i:Input),w.os=os∧(w.forCall tape i).Shaped C.prog∧i.vars=[]∧Input.okWide C.prog (w.forCall tape i) .any w.heap.size f i ∧
   s.pre6 enc C.prog fn conds apart (w.forCall tape i).memory i.args∧a.holds C.prog (lone (Frame.enter C.prog f i.args .normal) [] (w.forCall tape i)))
 (hA:∀ avs:List AV,tyA C.prog d fn.params.toList avs→(∀ (j:Nat) (hj:j<avs.length),(avs[j]).cnt R)→ACalls C.prog f avs H0 (.ret (.bool true)) H0) :
 ReturnsInHanded a C os f .any (s.pre6 enc C.prog fn conds apart) ((s.at F).post enc C.prog fn apart fresh handsOn again):=by
 refine returnsInHanded_of_cond_sized hk own started noInit hfn witness ?_
 intro W base args ds gs before hval hW hcnd hkk hsz _
 have hW':=hW
 obtain ⟨p,q,hT,hV,rfl,hfz,hnd⟩:=hW
 rw [hvars] at hV
 obtain ⟨rfl,rfl⟩:=trodVars_none hV
 rw [List.append_nil] at hsz hW' hkk
 have hlen:=zo hT
 have hpt:s.bare.plain.varTypes C.prog=[]:=by unfold ChangeSpec.plain DataSpec.varTypes OpenSpec.bare;dsimp only;rw [hvars];rfl
 rw [hpt,List.append_nil,List.all_eq_true] at hsz
 obtain ⟨avs,k1,k2,k3⟩:=uS B hB R (P:=C.prog) (w:=W) (base:=base) hplain (fun j t v h1 h2=>hval j t v (by simpa using h1) (by simpa using h2)) hT (fun m hm=>by simpa using hsz m hm) (hR ds hkk)
 have hcall:=hA avs k3 (fun j hj=>let ⟨u,_,h2⟩:=k2 j hj;h2.2) W g0 args (Q6 W) ⟨by rw [k1];simp,fun j hj=>let ⟨u,h1,h2⟩:=k2 j hj;⟨u,by simpa using h1,h2.1⟩⟩
 rw [nJ hfn hname hbody] at hcall
 refine Calls.mono (P:=C.prog) hcall fun e W' he=>?_
 obtain ⟨g',_,hext,hend⟩:=he
 have hbelow:=hext.below
 cases e with
 |returned v =>
  have hv:v=.bool true:=by
   have:Rel W' g' H0 (.bool true) v:=hend
   rw [Rel] at this;exact this
  subst hv
  refine ⟨_,rfl,?_⟩
  obtain ⟨r1,r2,r3⟩:=hs ds (by simpa using hlen)
  have happ:ds++([]:List (DataW H))=ds:=List.append_nil ds
  refine Bm (pa:=p) (pv:=[]) hW' (fun b sp hd=>?_) (fun sp hsp=>?_) (fun sp hsp=>?_) (by simp) hbelow ?_
  ·rw [happ,r1,hres]
   exact trodAll_mk1 (shut_bool htb true)
  ·rw [happ,r2]
   have hlt:∀ x∈p,x.block<W.heap.size:=fun x hx=>hW'.lt x hx
   exact qu hlaid (fun x hx=>hbelow.same hx) hread hlt hsp hT
  ·rw [happ,r3,hvars2];rfl
  ·intro j t r h1 h2
   rw [hres] at h1 h2
   cases j with
   |zero =>
    simp [Value.resultList] at h1 h2
    subst h1;subst h2
    unfold Value.okWide
    rw [htb]
    unfold Cell.okWide
    rw [htb]
    unfold Cell.ok
    rw [htb]
    trivial
   |succ j=>simp at h1
 |panicked ch=>exact hend.elim
 |outgrown=>exact hend.elim
end
end Go.AL
