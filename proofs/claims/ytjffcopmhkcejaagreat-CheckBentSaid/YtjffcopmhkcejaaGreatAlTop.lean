/- Lemmas of the proof; no condition. -/
import Derived.Test.YtjffcopmhkcejaaGreatAlByte
import Derived.ProofKit
import Derived.Below
import Derived.Carry
import Derived.SizedLaws
set_option linter.all false
set_option linter.unusedSectionVars false
namespace Go.AL
open Go.RowKit Go.ChangeShapes Go.WideShapes
def H0:AHeap:=⟨0,fun _=>none⟩
def g0:cQ:=fun _=>none
def zm(i:Nat):H0.get i=none:=by simp[H0,AHeap.get]
def S5(w:World):State w g0 H0:=⟨fun i j oi oj b h=>(by rw[zm]at h;cases h),fun i o h=>(by rw[zm]at h;cases h)⟩
def Uy(b e:Nat):Imm g0 H0 b e:=fun id o h=>(by rw[zm]at h;cases h)
def tyC(P:Program):Nat→TypeId→Wz→Prop
 |0,_,_=>True
 |d+1,t,cs =>
  match ti P t with
  |none=>True
  |some i=>match i.desc with
   |.int k=>∃ n,cs=[.int k n]∧k.min≤n∧n≤k.max
   |.bool=>∃ b,cs=[.bool b]
   |.string=>∃ s,cs=[.str s]∧s.length≤140737488351232
   |.slice e=>∃ xs,cs=[.slice .any (zjv P e) xs]∧xs.length*P.bytesOf e≤140737488351232∧∀ x∈xs,elem P (tyC P d e) e x
   |_=>True
where
 elem (P:Program) (p:Wz→Prop) (e:TypeId) (x:AV):Prop:=if(ti P e).elim false (fun i=>i.desc.agg)=true then ∃ cs,x=.agg cs∧p cs else x.one=true∧p [x]
def lX(P:Program):Nat→TypeId→Bool
 |0,_=>false
 |d+1,t =>
  match ti P t,P.underlying t with
  |some i,some u=>match u with
   |.int _|.bool|.string=>true
   |.slice e=>0<P.cellsOf e&&lX P d e&&((P.underlying e).elim false fun u=>(gv u).agg||P.cellsOf e==1)
   |_=>false
  |_,_=>false
def su{P:Program}{t:TypeId}{i:TI}{u:TypeDesc}(h:ti P t=some i)(hu:P.underlying t=some u):i.desc=gv u∧i.size=P.cellsOf t:=by
 unfold ti at h
 rw[hu]at h
 cases hi:P.info? t with
 |none=>rw[hi]at h;cases h
 |some j =>
  rw[hi]at h
  dsimp only at h
  split at h
  ·cases h;exact⟨rfl,by simp[Program.cellsOf,hi]⟩
  ·cases h
def qR{P:Program}{d:Nat}{t:TypeId}(h:lX P d t=true):∃ i u,ti P t=some i∧P.underlying t=some u:=by
 cases d with
 |zero=>simp[lX]at h
 |succ d =>
  unfold lX at h
  split at h
  ·exact⟨_,_,by assumption,by assumption⟩
  ·cases h
def BK{P:Program}{d:Nat}{t:TypeId}(h:lX P d t=true):zjv P t=P.cellsOf t:=by
 obtain⟨i,u,h1,h2⟩:=qR h
 unfold zjv
 rw[h1]
 exact(su h1 h2).2
section
variable {H:Type} {enc:TypeId × Value→H} {P:Program} {w:World}
theorem qq{P:Program}{e:TypeId}:∀{ds:List (DataW H)} {d:DataW H},d∈ds→∀ n∈d.weights P e,n∈DataW.weightsAll P e ds
 |d0::ds,d,hd,n,hn=>by
  simp only[DataW.weightsAll,List.mem_append]
  rcases List.mem_cons.1 hd with rfl|h
  ·exact .inl hn
  ·exact .inr (qq h n hn)
def rL{w:World}{a:Addr}{v:Value}(h:w.cell? a=some v):∃ C ty fr,w.heap[a.block]?=some (.cells C ty fr)∧a.spot=none∧C[a.off]?=some v:=by
 unfold World.cell? at h
 split at h
 ·rename_i c ty fr hb
  split at h
  ·cases h
  ·rename_i hs
   exact⟨c,ty,fr,hb,by simpa using hs,h⟩
 ·cases h
theorem wO(b0:Nat)(held:Bool):∀(d:Nat)(t:TypeId),lX P d t=true→∀(n:Nat)(cs:List Value)(x:DataW H × List MemPlace),
 DataW.trod enc P w b0 (fun _=>true) held n t cs=some x→(∀ m∈x.1.weights P t,m≤reachBytes) →
 ∃ avs:Wz,avs.length=cs.length∧AtR (Rel w g0 H0) avs cs.toArray 0∧tyC P d t avs∧dp avs=true
 |0,t,hp,_,_,_,_,_=>by simp[lX]at hp
 |d+1,t,hp,n,cs,x,h,hw=>by
  obtain⟨i,u,hi,hu⟩:=qR hp
  obtain⟨hdesc,hsize⟩:=su hi hu
  have one_at:∀(a:AV)(v:Value),Rel w g0 H0 a v→AtR (Rel w g0 H0) [a] [v].toArray 0:=fun a v hr j hj=>by
   have:j=0:=by simp at hj;omega
   subst this;exact⟨v,rfl,hr⟩
  unfold lX at hp
  rw[hi,hu]at hp
  unfold tyC
  rw[hi]
  cases u with
  |int k =>
   obtain⟨m,rfl,hx,hwf⟩:=DataW.trod_int hu h
   have hwf:k.min≤m∧m≤k.max:=by simpa[Lit.wf]using hwf
   refine⟨[.int k m],rfl,one_at _ _ (by rw[Rel]),?_,rfl⟩
   simp only[hdesc,gv]
   exact⟨m,rfl,hwf⟩
  |bool =>
   obtain⟨b,rfl,hx⟩:=DataW.trod_bool hu h
   refine⟨[.bool b],rfl,one_at _ _ (by rw[Rel]),?_,rfl⟩
   simp only[hdesc,gv]
   exact⟨b,rfl⟩
  |string =>
   obtain⟨s,rfl,rfl,hs⟩:=DataW.trod_string hu h
   refine⟨[.str s.data.toList],rfl,one_at _ _ (by rw[Rel]),?_,rfl⟩
   simp only[hdesc,gv]
   refine⟨_,rfl,?_⟩
   have:=hw s.data.toList.length (by simp[DataW.weights])
   exact this
  |slice e =>
   simp only[Bool.and_eq_true,decide_eq_true_eq]at hp
   obtain⟨⟨hpos,hpe⟩,hagg⟩:=hp
   have hse:=BK hpe
   rcases DataW.trod_slice hu h with⟨rfl,rfl⟩|⟨a,len,cap,elems,rest,m,_,rfl,rfl,_,hle,_,hel,hf,hsp,_⟩
   ·refine⟨[.slice .any (zjv P e) []],rfl,one_at _ _ (by rw[Rel];exact .inl ⟨⟨_,rfl⟩,rfl,trivial⟩),?_,rfl⟩
    simp only[hdesc,gv]
    exact⟨[],rfl,Xc,fun x hx=>(by cases hx)⟩
   ·obtain⟨hrl,hrest⟩:=hsp rfl
    have hwt:=hw ((elems.length+rest.length)*P.bytesOf e) (by simp[DataW.weights,hu])
    -- each element as a row of cells
    have helem:∀ i,i<len→∃ (ecs:List Value) (z:DataW H × List MemPlace),w.cells? b0 (a.add (i*P.cellsOf e)) (P.cellsOf e)=some ecs∧DataW.trod enc P w b0 (fun _=>true) held m e ecs=some z∧z∈elems:=by
     intro i hi
     have:=hf i hi
     have hei:elems[i]?=some (elems[i]'(Xa)):=Xc
     rw[hei]at this
     obtain⟨ecs,h1,h2⟩:=Option.bind_eq_some_iff.1 this
     exact⟨ecs,_,h1,h2,Xc⟩
    have hAll:∀ k,k<cap→∃ ecs:List Value,w.cells? b0 (a.add (k*P.cellsOf e)) (P.cellsOf e)=some ecs:=by
     intro k hk
     by_cases hkl:k<len
     ·obtain⟨ecs,_,h1,_⟩:=helem k hkl;exact⟨ecs,h1⟩
     ·have:=hrest (k-len) Xa
      have hei:rest[k-len]?=some (rest[k-len]'(Xa)):=Xc
      rw[hei]at this
      obtain⟨ecs,h1,_⟩:=Option.bind_eq_some_iff.1 this
      exact⟨ecs,by rw[← h1];congr 3;omega⟩
    by_cases hc0:cap=0
    ·have hl0:len=0:=Xa
     subst hl0;subst hc0
     refine⟨[.slice .any (zjv P e) []],rfl,one_at _ _ (by rw[Rel];exact .inl ⟨⟨_,rfl⟩,rfl,trivial⟩),?_,rfl⟩
     simp only[hdesc,gv]
     exact⟨[],rfl,Xc,fun x hx=>(by cases hx)⟩
    ·-- the block
     have hcell:∀ k j,k<cap→j<P.cellsOf e→∃ v,w.cell? ((a.add (k*P.cellsOf e)).add j)=some v:=by
      intro k j hk hj
      obtain⟨ecs,he⟩:=hAll k hk
      obtain⟨_,hl',hg⟩:=World.cells?_some he
      exact⟨ecs[j]'(Xa),by rw[hg j hj];simp[hl',hj]⟩
     obtain⟨v0,hv0⟩:=hcell 0 0 Xa hpos
     have hadd0:(a.add (0*P.cellsOf e)).add 0=a:=by simp[Addr.add]
     rw[hadd0]at hv0
     obtain⟨C,ty,fr,hblk,hspot,_⟩:=rL hv0
     obtain⟨ab,ao,as⟩:=a
     dsimp only at hspot hblk
     subst hspot
     have hadd:∀ k j,((⟨ab,ao,none⟩:Addr).add k).add j=⟨ab,ao+k+j,none⟩:=by
      intro k j
      unfold Addr.add
      by_cases h1:k=0<;>by_cases h2:j=0<;>simp[h1,h2]
     have hcell':∀ o v,w.cell? ⟨ab,o,none⟩=some v→C[o]?=some v:=by
      intro o v hv
      obtain⟨C',_,_,hb',_,hg'⟩:=rL hv
      rw[hblk]at hb'
      cases hb'
      exact hg'
     have hrow:∀ i,i<len→∃ avs:Wz,avs.length=P.cellsOf e∧(∀(j:Nat)(hj:j<avs.length),∃ u,C[ao+i*P.cellsOf e+j]?=some u∧Rel w g0 H0 avs[j] u)∧tyC P d e avs∧dp avs=true:=by
      intro i hi
      obtain⟨ecs,z,h1,h2,h3⟩:=helem i hi
      obtain⟨avs,k1,k2,k3,k4⟩:=wO b0 held d e hpe m ecs z h2 fun q hq=>hw q (by
       simp only[DataW.weights,hu,List.mem_cons,List.mem_append]
       exact .inr (.inl (qq (d:=z.1) (List.mem_map.2 ⟨z,h3,rfl⟩) q hq)))
      obtain⟨_,hl',hg⟩:=World.cells?_some h1
      refine⟨avs,Xa,fun j hj=>?_,k3,k4⟩
      obtain⟨u,hu1,hu2⟩:=k2 j hj
      refine⟨u,?_,hu2⟩
      rw[List.getElem?_toArray,Nat.zero_add]at hu1
      have:=hg j Xa
      rw[hu1,hadd]at this
      exact hcell' _ _ this
     -- the elements as values
     have hval:∀ i,i<len→∃ y:AV,(y.cells.length=P.cellsOf e∧∀(j:Nat)(hj:j<y.cells.length),∃ u,C[ao+i*P.cellsOf e+j]?=some u∧Rel w g0 H0 y.cells[j] u)∧tyC.elem P (tyC P d e) e y:=by
      intro i hi
      obtain⟨avs,k1,k2,k3,k4⟩:=hrow i hi
      obtain⟨ie,ue,hie,hue⟩:=qR hpe
      obtain⟨hde,_⟩:=su hie hue
      rw[hue]at hagg
      simp only[Option.elim_some,Bool.or_eq_true,beq_iff_eq]at hagg
      unfold tyC.elem
      rw[hie]
      simp only[Option.elim_some,hde]
      by_cases hag:(gv ue).agg=true
      ·simp only[if_pos hag]
       exact⟨.agg avs,⟨k1,k2⟩,avs,rfl,k3⟩
      ·simp only[if_neg hag]
       have hone:P.cellsOf e=1:=hagg.resolve_left hag
       rw[hone]at k1
       match avs,k1 with
       |[y],_ =>
        have hy1:y.one=true:=by simpa[dp]using k4
        have hyc:y.cells=[y]:=by cases y<;>first|rfl|(simp[AV.one]at hy1)
        refine⟨y,?_,hy1,k3⟩
        rw[hyc]
        exact⟨by rw[hone];rfl,k2⟩
     obtain⟨ys,hyl,hys⟩:∃ ys:Wz,ys.length=len∧∀ i (hi:i<ys.length),((ys[i]).cells.length=P.cellsOf e∧∀(j:Nat) (hj:j<(ys[i]).cells.length),∃ u,C[ao+i*P.cellsOf e+j]?=some u∧Rel w g0 H0 (ys[i]).cells[j] u)∧tyC.elem P (tyC P d e) e ys[i]:=by
      have pick:∀ i:Fin len,∃ y:AV,(y.cells.length=P.cellsOf e∧∀(j:Nat)(hj:j<y.cells.length),∃ u,C[ao+i.1*P.cellsOf e+j]?=some u∧Rel w g0 H0 y.cells[j] u)∧tyC.elem P (tyC P d e) e y:=fun i=>hval i.1 i.2
      refine⟨List.ofFn fun i=>Classical.choose (pick i),Xc,fun i hi=>?_⟩
      have hi':i<len:=by simpa using hi
      have:=Classical.choose_spec (pick ⟨i,hi'⟩)
      simpa using this
     refine⟨[.slice .any (zjv P e) ys],rfl,one_at _ _ ?_,?_,rfl⟩
     ·rw[Rel]
      refine .inr ⟨ab,ao,cap,C,ty,fr,by rw[hyl],Xa,hblk,?_,Uy _ _,trivial,fun i hi=>?_⟩
      ·rw[hse]
       obtain⟨v,hv⟩:=hcell (cap-1) (P.cellsOf e-1) Xa Xa
       rw[hadd]at hv
       have:=hcell' _ _ hv
       have hlt:ao+(cap-1)*P.cellsOf e+(P.cellsOf e-1)<C.size:=by
        rcases Nat.lt_or_ge (ao+(cap-1)*P.cellsOf e+(P.cellsOf e-1)) C.size with h'|h'
        ·exact h'
        ·rw[Array.getElem?_eq_none h']at this;cases this
       have e1:cap*P.cellsOf e=(cap-1)*P.cellsOf e+P.cellsOf e:=by
        rw[← Nat.succ_mul];congr 1;omega
       omega
      ·rw[hse];exact(hys i hi).1
     ·simp only[hdesc,gv]
      refine⟨ys,rfl,?_,fun x hx=>?_⟩
      ·have h1:ys.length*P.bytesOf e≤(elems.length+rest.length)*P.bytesOf e:=Nat.mul_le_mul_right _ Xa
       exact Nat.le_trans h1 hwt
      ·obtain⟨i,hi,rfl⟩:=List.getElem_of_mem hx
       exact(hys i hi).2
  |_=>simp at hp
def tyV(P:Program)(d:Nat)(t:TypeId)(x:AV):Prop:=tyC.elem P (tyC P d t) t x
def tyA(P:Program)(d:Nat):List TypeId→Wz→Prop
 |[],[]=>True
 |t::ts,x::xs=>tyV P d t x∧tyA P d ts xs
 |_,_=>False
def Db{b0 base:Nat}{d:Nat}{t:TypeId}(hp:lX P d t=true){v:Value}{x:DataW H}{ps:List MemPlace}(hv:Value.okWide P w .any base t v)
 (h:DataW.Trod enc P w b0 (fun _=>true) true t v x ps) (hw:∀ m∈x.weights P t,m≤reachBytes):∃ a,Rel w g0 H0 a v∧tyV P d t a:=by
 obtain⟨n,h⟩:=h
 obtain⟨avs,h1,h2,h3,h4⟩:=wO b0 true d t hp n _ _ h hw
 obtain⟨i,u,hi,hu⟩:=qR hp
 obtain⟨hdesc,hsize⟩:=su hi hu
 unfold tyV tyC.elem
 rw[hi]
 simp only[Option.elim_some,hdesc]
 have hscalar:(gv u).agg=false→Cell.okWide P w .any base t v→∃ a,Rel w g0 H0 a v∧a.one=true∧tyC P d t [a]:=by
  intro hag hc
  have hvc:v.cells=#[v]:=by
   cases v<;>first|rfl|skip
   unfold Cell.okWide Cell.ok at hc
   rw[hu]at hc
   cases u<;>simp at hc
  rw[hvc]at h1 h2
  match avs,h1 with
  |[y],_ =>
   obtain⟨z,hz,hr⟩:=h2 0 Xc
   simp at hz
   subst hz
   exact⟨y,hr,by simpa[dp]using h4,h3⟩
 unfold Value.okWide at hv
 rw[hu]at hv
 cases u with
 |struct fs=>cases d<;>simp[lX,hi,hu]at hp
 |array k e=>cases d<;>simp[lX,hi,hu]at hp
 |_ =>
  obtain⟨a,h5,h6⟩:=hscalar rfl hv
  exact⟨a,h5,by rw[if_neg (by simp[gv,TD.agg])];exact h6⟩
theorem yh{b0 base:Nat}{d:Nat}:∀{ts:List TypeId}{vs:List Value} {ds:List (DataW H)} {ps:List MemPlace},(ts.all fun t=>lX P d t)=true →
 (∀(j:Nat) t v,ts[j]?=some t→vs[j]?=some v→Value.okWide P w .any base t v)→DataW.TrodAll enc P w b0 (fun _=>true) true ts vs ds ps →
 (∀ m∈DataW.weightsEach P ts ds,m≤reachBytes)→∃ avs:Wz,avs.length=vs.length∧(∀(j:Nat)(hj:j<avs.length),∃ u,vs[j]?=some u∧Rel w g0 H0 avs[j] u)∧tyA P d ts avs
 |[],[],[],_,_,_,_,_=>⟨[],rfl,fun j hj=>absurd hj Xc,trivial⟩
 |t::ts,v::vs,x::ds,ps,hp,hv,h,hw=>by
  simp only[List.all_cons,Bool.and_eq_true]at hp
  obtain⟨p,q,h1,h2,_⟩:=h
  obtain⟨a,ha,ht⟩:=Db hp.1 (hv 0 t v rfl rfl) h1 fun m hm=>hw m (by simp only[DataW.weightsEach,List.mem_append];exact .inl hm)
  obtain⟨as,k1,k2,k3⟩:=yh hp.2 (fun j t' v' h1 h2=>hv (j+1) t' v' (by simpa using h1) (by simpa using h2)) h2 fun m hm=>hw m (by simp only[DataW.weightsEach,List.mem_append];exact .inr hm)
  refine⟨a::as,by simp[k1],fun j hj=>?_,ht,k3⟩
  cases j with
  |zero=>exact⟨v,rfl,ha⟩
  |succ j=>obtain⟨u,h3,h4⟩:=k2 j (by simpa using hj);exact⟨u,by simpa using h3,by simpa using h4⟩
 |[],[],_::_,_,_,_,h,_=>by simp[DataW.TrodAll]at h
 |[],_::_,_,_,_,_,h,_=>by simp[DataW.TrodAll]at h
 |_::_,[],_,_,_,_,h,_=>by simp[DataW.TrodAll]at h
 |_::_,_::_,[],_,_,_,h,_=>by simp[DataW.TrodAll]at h
end
theorem Ext.below{w w':World}{g':cQ}{H':AHeap}(h:Ext w g0 H0 w' g' H'):Below w.heap.size w w' :=
 ⟨h.os,h.tape,h.output,h.size,fun b hb=>h.un b hb fun id o ho=>(by rw[zm]at ho;cases ho)⟩
section
variable {H:Type} {enc:TypeId × Value→H}
def B0{P:Program}{f:Func}{s:ChangeSpec}{apart fresh handsOn again:Bool}{W W':World}{args:Array Value}{v:Value}{ds gs:List (DataW H)}{before pa pv:List MemPlace}
 (hW:DataW.Whole enc P f.params.toList s.vars apart W args.toList ds gs before)
 (hres:∀(b:Nat)(sp:Nat→Bool)(hd:Bool),DataW.TrodAll enc P W' b sp hd f.resultTypes.toList (v.resultList f.resultTypes.size) (s.fn H (ds++gs)).results [])
 (hargs:∀ sp:Nat→Bool,(∀ p∈before,sp p.block=true)→DataW.TrodAll enc P W' 0 sp true f.params.toList args.toList (s.fn H (ds++gs)).args pa)
 (hvars:∀ sp:Nat→Bool,(∀ p∈before,sp p.block=true)→DataW.TrodVars enc P W' sp s.vars (s.fn H (ds++gs)).vars pv)
 (hps:before=pa++pv) (hb:Below W.heap.size W W')
 (hok:∀(j:Nat)(t:TypeId)(r:Value),f.resultTypes[j]?=some t→(v.resultList f.resultTypes.size)[j]?=some r→Value.okWide P W' .any 0 t r) :
 s.post enc P f apart fresh handsOn again W args v W':=by
 have hlt:∀ p∈before,p.block<W.heap.size:=fun p hp=>hW.lt p hp
 have hold:∀ p∈before,(fun b=>decide (b<W.heap.size)) p.block=true:=fun p hp=>by simpa using hlt p hp
 refine⟨ds,gs,before,[],pa,pv,hW,hres _ _ _,hargs _ hold,hvars _ hold,World.keptBut_mono (fun p hp=>⟨hp,?_⟩) (hb.frame (·∈before)),fun _=>?_⟩
 ·rw[hps,List.mem_append]at hp
  exact Or.inr hp
 ·obtain⟨_,_,_,_,_,hz,hn⟩:=hW
  refine⟨hok,_,_,([]++pa)++pv,⟨[]++pa,pv,trodAll_append (hargs _ (fun _ _=>rfl)) (hres _ _ _),hvars _ (fun _ _=>rfl),rfl,?_,?_⟩,?_⟩
  ·intro b off hp
   have hin:MemPlace.cell b off∈before:=by rw[hps];simpa using hp
   rw[hb.frozen (hlt _ hin)]
   exact hz b off hin
  ·intro ha
   have:=hn ha
   rw[hps]at this
   simpa using this
  ·intro p hp _
   rw[hps]
   simpa using hp
theorem rI{P:Program}(hl:laidOutB P=true){W W':World}(hsame:∀ p:MemPlace,p.block<W.heap.size→W.sameAt W' p){sp:Nat→Bool} :
 ∀{ts:List TypeId}{vs:List Value} {ds:List (DataW H)} {ps:List MemPlace},(ts.all fun t=>P.readableRec t&&decide (t<P.types.size))=true→(∀ p∈ps,p.block<W.heap.size)→(∀ p∈ps,sp p.block=true) →
  DataW.TrodAll enc P W 0 (fun _=>true) true ts vs ds ps→DataW.TrodAll enc P W' 0 sp true ts vs ds ps
 |[],[],[],_,_,_,_,h=>h
 |t::ts,v::vs,x::ds,ps,hp,hlt,hs,h=>by
  simp only[List.all_cons,Bool.and_eq_true,decide_eq_true_eq]at hp
  obtain⟨p,q,h1,h2,rfl⟩:=h
  refine⟨p,q,WideElems.Trod_stays hl hp.1.1 hp.1.2 h1 (fun x hx=>hsame x (hlt x (by simp[hx]))) (fun x hx=>hs x (by simp[hx])),
   rI hl hsame hp.2 (fun x hx=>hlt x (by simp[hx])) (fun x hx=>hs x (by simp[hx])) h2,rfl⟩
 |[],[],_::_,_,_,_,_,h=>by simp[DataW.TrodAll]at h
 |[],_::_,_,_,_,_,_,h=>by simp[DataW.TrodAll]at h
 |_::_,[],_,_,_,_,_,h=>by simp[DataW.TrodAll]at h
 |_::_,_::_,[],_,_,_,_,h=>by simp[DataW.TrodAll]at h
theorem AX{P:Program}{W:World}{base:Nat}{sp:Nat→Bool}{held:Bool}:∀{ts:List TypeId}{vs:List Value} {ds:List (DataW H)} {ps:List MemPlace},DataW.TrodAll enc P W base sp held ts vs ds ps→ds.length=ts.length
 |[],[],[],_,h=>rfl
 |t::ts,v::vs,x::ds,ps,h=>by
  obtain⟨p,q,_,h2,_⟩:=h
  simp[AX h2]
 |[],[],_::_,_,h=>by simp[DataW.TrodAll]at h
 |[],_::_,_,_,h=>by simp[DataW.TrodAll]at h
 |_::_,[],_,_,h=>by simp[DataW.TrodAll]at h
 |_::_,_::_,[],_,h=>by simp[DataW.TrodAll]at h
def xf{a:Assume}{C:Checked}{os:Os}{f:FuncId}{fn:Func}{c:Code}{s:ChangeSpec}{conds:List PathCond}{apart fresh handsOn again:Bool}{d:Nat}{tb:TypeId}
 (own : ownKnob C.prog.godebug = none) (started : os.Started) (noInit : C.prog.inits.idxOf? f = none) (hfn : C.prog.funcs[f]? = some fn) (hname : (fn.name == "runtime.NumGoroutine") = false) (hbody : fn.body = some c)
 (hlaid:laidOutB C.prog=true) (hread:(fn.params.toList.all fun t=>C.prog.readableRec t&&decide (t<C.prog.types.size))=true) (hplain:(fn.params.toList.all fun t=>lX C.prog d t)=true)
 (hres:fn.resultTypes=#[tb]) (htb:C.prog.underlying tb=some .bool) (hvars:s.vars=[])
 (hs:∀ ds:List (DataW H),ds.length=fn.params.size→(s.fn H ds).results=[.lit (.bool true)]∧(s.fn H ds).args=ds∧(s.fn H ds).vars=[])
 (witness:∃ (w:World) (tape:Tape) (i:Input),w.os=os∧(w.forCall tape i).Shaped C.prog∧i.vars=[]∧Input.okWide C.prog (w.forCall tape i) .any w.heap.size f i ∧
   s.pre6 enc C.prog fn conds apart (w.forCall tape i).memory i.args∧a.holds C.prog (lone (Frame.enter C.prog f i.args .normal) [] (w.forCall tape i)))
 (hA:∀ avs:Wz,tyA C.prog d fn.params.toList avs→ACalls C.prog f avs H0 (.ret (.bool true)) H0) :
 ReturnsInHanded a C os f .any (s.pre6 enc C.prog fn conds apart) (s.post enc C.prog fn apart fresh handsOn again):=by
 refine returnsInHanded_of_change_sized own started noInit hfn witness ?_
 intro W base args ds gs before hval hW hcnd hsz _
 have hW':=hW
 obtain⟨p,q,hT,hV,rfl,hfz,hnd⟩:=hW
 rw[hvars]at hV
 obtain⟨rfl,rfl⟩:=trodVars_none hV
 rw[List.append_nil]at hsz hW'
 have hlen:=AX hT
 have hpt:s.plain.varTypes C.prog=[]:=by unfold ChangeSpec.plain DataSpec.varTypes;rw[hvars];rfl
 rw[hpt,List.append_nil,List.all_eq_true]at hsz
 obtain⟨avs,k1,k2,k3⟩:=yh (P:=C.prog) (w:=W) (base:=base) hplain (fun j t v h1 h2=>hval j t v (by simpa using h1) (by simpa using h2)) hT fun m hm=>by simpa using hsz m hm
 have hcall:=hA avs k3 W g0 args (S5 W) ⟨by rw[k1];simp,fun j hj=>by simpa using k2 j hj⟩
 rw[oS hfn hname hbody]at hcall
 refine Calls.mono (P:=C.prog) hcall fun e W' he=>?_
 obtain⟨g',_,hext,hend⟩:=he
 have hbelow:=hext.below
 cases e with
 |returned v =>
  have hv:v=.bool true:=by
   have:Rel W' g' H0 (.bool true) v:=hend
   rw[Rel]at this;exact this
  subst hv
  refine⟨_,rfl,?_⟩
  obtain⟨r1,r2,r3⟩:=hs ds (by simpa using hlen)
  have happ:ds++([]:List (DataW H))=ds:=List.append_nil ds
  refine B0 (pa:=p) (pv:=[]) hW' (fun b sp hd=>?_) (fun sp hsp=>?_) (fun sp hsp=>?_) Xc hbelow ?_
  ·rw[happ,r1,hres]
   exact trodAll_mk1 (shut_bool htb true)
  ·rw[happ,r2]
   have hlt:∀ x∈p,x.block<W.heap.size:=fun x hx=>hW'.lt x hx
   exact rI hlaid (fun x hx=>hbelow.same hx) hread hlt hsp hT
  ·rw[happ,r3,hvars];rfl
  ·intro j t r h1 h2
   rw[hres]at h1 h2
   cases j with
   |zero =>
    simp[Value.resultList]at h1 h2
    subst h1;subst h2
    unfold Value.okWide
    rw[htb]
    unfold Cell.okWide
    rw[htb]
    unfold Cell.ok
    rw[htb]
    trivial
   |succ j=>simp at h1
 |panicked ch=>exact hend.elim
 |outgrown=>exact hend.elim
end
def Sb{l:Wz}(h:∀ x∈l,∃ n,x=.int .u8 n∧0≤n∧n≤255):isB l:=by
 show l=bys (unb l)
 unfold bys unb
 rw[List.map_map]
 conv=>lhs;rw[← List.map_id l]
 refine List.map_congr_left fun x hx=>?_
 obtain⟨n,rfl,h0,h1⟩:=h x hx
 simp only[id,Function.comp,byteOf,bC]
 congr 1
 rw[UInt8.toNat_ofNat_of_lt' (by simp[UInt8.size];omega)]
 omega
section
variable {P:Program} {d:Nat} {t e:TypeId} {cs:Wz} {x:AV} {b n:Nat} {z:AV}
def Kg{k:IntKind}(h:ti P t=some ⟨.int k,n,b,z⟩):tyC P (d+1) t cs=∃ m,cs=[.int k m]∧k.min≤m∧m≤k.max:=by unfold tyC;rw[h]
def Gf(h:ti P t=some ⟨.string,n,b,z⟩):tyC P (d+1) t cs=∃ s,cs=[.str s]∧s.length≤140737488351232:=by unfold tyC;rw[h]
def AR(h:ti P t=some ⟨.slice e,n,b,z⟩):tyC P (d+1) t cs=∃ xs,cs=[.slice .any (zjv P e) xs]∧xs.length*P.bytesOf e≤140737488351232∧∀ x∈xs,tyV P d e x:=by unfold tyC;rw[h];rfl
def wN{i:TI}(h:ti P t=some i)(ha:i.desc.agg=false):tyV P d t x=(x.one=true∧tyC P d t [x]):=by unfold tyV tyC.elem;rw[h];simp[ha]
end
def AW{P:Program}{t:TypeId}{i:TI}(h:ti P t=some i):zjv P t=i.size:=by unfold zjv;rw[h];rfl
end Go.AL
