/- Lemmas of the proof; no condition. -/
import Derived.Test.YtpbnggedofiinaaGreatAlByte
import Derived.ProofKit
import Derived.Below
import Derived.Carry
import Derived.SizedLaws
set_option linter.all false
set_option linter.unusedSectionVars false
namespace Go.AL
open Go.RowKit Go.ChangeShapes Go.WideShapes
def H0:AHeap:=⟨0,fun _=>none⟩
def g0:br:=fun _=>none
theorem wR (i:Nat):H0.get i=none:=by simp [H0,AHeap.get]
theorem GC (w:World):State w g0 H0:=⟨fun i j oi oj b h=>(by rw [wR] at h;cases h),fun i o h=>(by rw [wR] at h;cases h)⟩
theorem Ix (b e:Nat):Imm g0 H0 b e:=fun id o h=>(by rw [wR] at h;cases h)
def tyC (P:Program):Nat→TypeId→List AV→Prop
 |0,_,_=>True
 |d+1,t,cs =>
  match ti P t with
  |none=>True
  |some i=>match i.desc with
   |.int k=>∃ n,cs=[.int k n]∧k.min≤n∧n≤k.max
   |.bool=>∃ b,cs=[.bool b]
   |.string=>∃ s,cs=[.str s]∧s.length≤140737488351232
   |.slice e=>∃ xs,cs=[.slice .any (zjx P e) xs]∧xs.length*P.bytesOf e≤140737488351232∧∀ x∈xs,elem P (tyC P d e) e x
   |.struct fs=>fields (fun t=>zjx P t) (fun t=>tyC P d t) fs cs
   |.array n e=>row (zjx P e) (tyC P d e) n cs
   |_=>True
where
 elem (P:Program) (p:List AV→Prop) (e:TypeId) (x:AV):Prop:=if (ti P e).elim false (fun i=>i.desc.agg)=true then ∃ cs,x=.agg cs∧p cs else x.one=true∧p [x]
 fields (sz:TypeId→Nat) (p:TypeId→List AV→Prop):List (Nat × TypeId × Bool)→List AV→Prop
  |[],cs=>cs=[]
  |(_,t,_)::fs,cs=>∃ a b,cs=a++b∧a.length=sz t∧p t a∧fields sz p fs b
 row (sz:Nat) (p:List AV→Prop):Nat→List AV→Prop
  |0,cs=>cs=[]
  |n+1,cs=>∃ a b,cs=a++b∧a.length=sz∧p a∧row sz p n b
def plainT (P:Program):Nat→TypeId→Bool
 |0,_=>false
 |d+1,t =>
  match ti P t,P.underlying t with
  |some i,some u=>match u with
   |.int _|.bool|.string=>true
   |.slice e=>0<P.cellsOf e&&plainT P d e&&((P.underlying e).elim false fun u=>(dD u).agg||P.cellsOf e==1)
   |.struct fs=>tile (plainT P d) (fun t=>P.cellsOf t) (P.cellsOf t) 0 fs.toList
   |.array n e=>plainT P d e&&(n*P.cellsOf e==P.cellsOf t)
   |_=>false
  |_,_=>false
where
 tile (p:TypeId→Bool) (sz:TypeId→Nat) (all:Nat):Nat→List Field→Bool
  |o,[]=>o==all
  |o,f::fs=>f.offset==o&&p f.type&&tile p sz all (o+sz f.type) fs
theorem pW {P:Program} {t:TypeId} {i:TI} {u:TypeDesc} (h:ti P t=some i) (hu:P.underlying t=some u):i.desc=dD u∧i.size=P.cellsOf t:=by
 unfold ti at h
 rw [hu] at h
 cases hi:P.info? t with
 |none=>rw [hi] at h;cases h
 |some j =>
  rw [hi] at h
  dsimp only at h
  split at h
  ·cases h;exact ⟨rfl,by simp [Program.cellsOf,hi]⟩
  ·cases h
theorem nW {P:Program} {d:Nat} {t:TypeId} (h:plainT P d t=true):∃ i u,ti P t=some i∧P.underlying t=some u:=by
 cases d with
 |zero=>simp [plainT] at h
 |succ d =>
  unfold plainT at h
  split at h
  ·exact ⟨_,_,by assumption,by assumption⟩
  ·cases h
theorem nG {P:Program} {d:Nat} {t:TypeId} (h:plainT P d t=true):zjx P t=P.cellsOf t:=by
 obtain ⟨i,u,h1,h2⟩:=nW h
 unfold zjx
 rw [h1]
 exact (pW h1 h2).2
section
variable {H:Type} {enc:TypeId × Value→H} {P:Program} {w:World}
theorem AtR.append' {R:AV→Value→Prop} {xs ys:List AV} {C:Array Value} {o:Nat} (h:AtR R xs C o) (k:AtR R ys C (o+xs.length)):AtR R (xs++ys) C o:=by
 intro j hj
 by_cases hlt:j<xs.length
 ·obtain ⟨u,h1,h2⟩:=h j hlt
  exact ⟨u,h1,by rw [List.getElem_append_left hlt];exact h2⟩
 ·obtain ⟨u,h1,h2⟩:=k (j - xs.length) (by simp at hj;omega)
  exact ⟨u,by rw [← h1];congr 1;omega,by rw [List.getElem_append_right (by omega)];exact h2⟩
theorem AtR.of_part {R:AV→Value→Prop} {xs:List AV} {cs:List Value} {o n:Nat} (h:AtR R xs ((cs.drop o).take n).toArray 0):AtR R xs cs.toArray o:=by
 intro j hj
 obtain ⟨u,h1,h2⟩:=h j hj
 refine ⟨u,?_,h2⟩
 simp only [List.getElem?_toArray,List.getElem?_take,List.getElem?_drop,Nat.zero_add] at h1 ⊢
 split at h1
 ·exact h1
 ·cases h1
theorem oL {a b:List AV} (h:bN a=true) (k:bN b=true):bN (a++b)=true:=by
 unfold bN at *;rw [List.all_append,h,k];rfl
theorem vI (P:Program) (d:Nat) (R:AV→Value→Prop) (cs:List Value) (tot:Nat) :
 ∀ (fs:List Field) (o:Nat),plainT.tile (plainT P d) (fun t=>P.cellsOf t) tot o fs=true→cs.length=tot →
  (∀ f∈fs,∃ avs:List AV,avs.length=((cs.drop f.offset).take (P.cellsOf f.type)).length∧AtR R avs ((cs.drop f.offset).take (P.cellsOf f.type)).toArray 0∧tyC P d f.type avs∧bN avs=true) →
  ∃ avs : List AV, o + avs.length = tot ∧ AtR R avs cs.toArray o ∧ tyC.fields (fun t => zjx P t) (fun t => tyC P d t) (fs.map fun f => (f.offset, f.type, f.name == "_")) avs ∧ bN avs = true
 |[],o,ht,hl,_=>by
  simp only [plainT.tile,beq_iff_eq] at ht
  exact ⟨[],by simpa using ht,fun j hj=>absurd hj (by simp),rfl,rfl⟩
 |f::fs,o,ht,hl,hf=>by
  simp only [plainT.tile,Bool.and_eq_true,beq_iff_eq] at ht
  obtain ⟨⟨ho,hp⟩,ht⟩:=ht
  obtain ⟨a,h1,h2,h3,h4⟩:=hf f (by simp)
  obtain ⟨b,k1,k2,k3,k4⟩:=vI P d R cs tot fs _ ht hl fun g hg=>hf g (by simp [hg])
  have hal:a.length=P.cellsOf f.type:=by rw [h1,List.length_take,List.length_drop,ho];omega
  rw [ho] at h2
  refine ⟨a++b,by simp;omega,(AtR.of_part h2).append' (by rw [hal];exact k2),⟨a,b,rfl,?_,h3,k3⟩,oL h4 k4⟩
  show a.length=zjx P f.type
  rw [nG hp];exact hal
theorem Eh (P:Program) (d:Nat) (e:TypeId) (he:plainT P d e=true) (R:AV→Value→Prop) (cs:List Value) (tot:Nat) (hl:cs.length=tot*P.cellsOf e) :
 ∀ (n k:Nat),n+k=tot →
  (∀ i,i<tot→∃ avs:List AV,avs.length=((cs.drop (i*P.cellsOf e)).take (P.cellsOf e)).length∧AtR R avs ((cs.drop (i*P.cellsOf e)).take (P.cellsOf e)).toArray 0∧tyC P d e avs∧bN avs=true) →
  ∃ avs:List AV,k*P.cellsOf e+avs.length=tot*P.cellsOf e∧AtR R avs cs.toArray (k*P.cellsOf e)∧tyC.row (zjx P e) (tyC P d e) n avs∧bN avs=true
 |0,k,hk,_=>⟨[],by simp at hk ⊢;rw [hk],fun j hj=>absurd hj (by simp),rfl,rfl⟩
 |n+1,k,hk,hf=>by
  obtain ⟨a,h1,h2,h3,h4⟩:=hf k (by omega)
  obtain ⟨b,k1,k2,k3,k4⟩:=Eh P d e he R cs tot hl n (k+1) (by omega) hf
  have hle:(k+1)*P.cellsOf e≤tot*P.cellsOf e:=Nat.mul_le_mul_right _ (by omega)
  rw [Nat.add_mul,Nat.one_mul] at hle k1 k2
  have hal:a.length=P.cellsOf e:=by rw [h1,List.length_take,List.length_drop];omega
  refine ⟨a++b,by simp;omega,(AtR.of_part h2).append' (by rw [hal];exact k2),⟨a,b,rfl,?_,h3,k3⟩,oL h4 k4⟩
  rw [nG he];exact hal
theorem sa {P:Program}:∀ {ts:List TypeId} {ds:List (DataW H)} {j:Nat} {t:TypeId} {d:DataW H},ts[j]?=some t→ds[j]?=some d→∀ n∈d.weights P t,n∈DataW.weightsEach P ts ds :=
 fun ht hd n hn=>DataW.weights_mem_each ht hd n hn
theorem kE {P:Program} {e:TypeId}:∀ {ds:List (DataW H)} {d:DataW H},d∈ds→∀ n∈d.weights P e,n∈DataW.weightsAll P e ds
 |d0::ds,d,hd,n,hn=>by
  simp only [DataW.weightsAll,List.mem_append]
  rcases List.mem_cons.1 hd with rfl|h
  ·exact .inl hn
  ·exact .inr (kE h n hn)
theorem oA {w:World} {a:Addr} {v:Value} (h:w.cell? a=some v):∃ C ty fr,w.heap[a.block]?=some (.cells C ty fr)∧a.spot=none∧C[a.off]?=some v:=by
 unfold World.cell? at h
 split at h
 ·rename_i c ty fr hb
  split at h
  ·cases h
  ·rename_i hs
   exact ⟨c,ty,fr,hb,by simpa using hs,h⟩
 ·cases h
theorem mA (b0:Nat) (held:Bool):∀ (d:Nat) (t:TypeId),plainT P d t=true→∀ (n:Nat) (cs:List Value) (x:DataW H × List MemPlace),
 DataW.trod enc P w b0 (fun _=>true) held n t cs=some x→(∀ m∈x.1.weights P t,m≤reachBytes) →
 ∃ avs:List AV,avs.length=cs.length∧AtR (Rel w g0 H0) avs cs.toArray 0∧tyC P d t avs∧bN avs=true
 |0,t,hp,_,_,_,_,_=>by simp [plainT] at hp
 |d+1,t,hp,n,cs,x,h,hw=>by
  obtain ⟨i,u,hi,hu⟩:=nW hp
  obtain ⟨hdesc,hsize⟩:=pW hi hu
  have one_at:∀ (a:AV) (v:Value),Rel w g0 H0 a v→AtR (Rel w g0 H0) [a] [v].toArray 0:=fun a v hr j hj=>by
   have:j=0:=by simp at hj;omega
   subst this;exact ⟨v,rfl,hr⟩
  unfold plainT at hp
  rw [hi,hu] at hp
  unfold tyC
  rw [hi]
  cases u with
  |int k =>
   obtain ⟨m,rfl,hx,hwf⟩:=DataW.trod_int hu h
   have hwf:k.min≤m∧m≤k.max:=by simpa [Lit.wf] using hwf
   refine ⟨[.int k m],rfl,one_at _ _ (by rw [Rel]),?_,rfl⟩
   simp only [hdesc,dD]
   exact ⟨m,rfl,hwf⟩
  |bool =>
   obtain ⟨b,rfl,hx⟩:=DataW.trod_bool hu h
   refine ⟨[.bool b],rfl,one_at _ _ (by rw [Rel]),?_,rfl⟩
   simp only [hdesc,dD]
   exact ⟨b,rfl⟩
  |string =>
   obtain ⟨s,rfl,rfl,hs⟩:=DataW.trod_string hu h
   refine ⟨[.str s.data.toList],rfl,one_at _ _ (by rw [Rel]),?_,rfl⟩
   simp only [hdesc,dD]
   refine ⟨_,rfl,?_⟩
   have:=hw s.data.toList.length (by simp [DataW.weights])
   exact this
  |struct fs =>
   dsimp only at hp
   obtain ⟨xs,m,_,rfl,hl,hxl,hf⟩:=DataW.trod_struct hu h
   have key:=vI P d (Rel w g0 H0) cs (P.cellsOf t) fs.toList 0 hp hl fun f hfm=>by
    obtain ⟨j,hj⟩:=List.getElem?_of_mem hfm
    rw [Array.getElem?_toList] at hj
    have hpf:plainT P d f.type=true:=by
     clear hf h hw hxl hdesc
     have:∀ (l:List Field) (o:Nat),plainT.tile (plainT P d) (fun t=>P.cellsOf t) (P.cellsOf t) o l=true→∀ g∈l,plainT P d g.type=true:=by
      intro l
      induction l with
      |nil=>intro o _ g hg;cases hg
      |cons a l ih =>
       intro o ho g hg
       simp only [plainT.tile,Bool.and_eq_true] at ho
       rcases List.mem_cons.1 hg with rfl|hg
       ·exact ho.1.2
       ·exact ih _ ho.2 g hg
     exact this _ _ hp f hfm
    have hjl:j<fs.size:=by
     rcases Nat.lt_or_ge j fs.size with h'|h'
     ·exact h'
     ·rw [Array.getElem?_eq_none h'] at hj;cases hj
    have hxj:xs[j]?=some (xs[j]'(by omega)):=by simp
    refine mA b0 held d f.type hpf m _ _ ((hf j f hj).trans hxj) fun q hq=>hw q ?_
    simp only [DataW.weights,hu]
    refine sa (j:=j) (t:=f.type) (d:=(xs[j]'(by omega)).1) ?_ ?_ q hq
    ·simp [hj]
    ·simp [hxl,hjl]
   obtain ⟨avs,h1,h2,h3,h4⟩:=key
   refine ⟨avs,by omega,h2,?_,h4⟩
   simp only [hdesc,dD]
   exact h3
  |array k e =>
   simp only [Bool.and_eq_true,beq_iff_eq] at hp
   obtain ⟨hpe,hsz⟩:=hp
   obtain ⟨xs,m,_,rfl,hl,hxl,hf⟩:∃ (xs:List (DataW H × List MemPlace)) (m:Nat),n=m+1∧x=(.agg (xs.map (·.1)),xs.flatMap (·.2))∧cs.length=P.cellsOf t∧xs.length=k ∧
    ∀ i,i<k→DataW.trod enc P w b0 (fun _=>true) held m e ((cs.drop (i*P.cellsOf e)).take (P.cellsOf e))=xs[i]?:=by
    cases n with
    |zero=>simp [DataW.trod] at h
    |succ m =>
     unfold DataW.trod at h
     rw [hu] at h
     split at h<;>simp_all
     obtain ⟨hl,ys,hys,rfl⟩:=h
     have hylen:=mapM_some_length hys
     refine ⟨ys,rfl,by simpa using hylen,fun i hi=>?_⟩
     have:=mapM_some_get hys i i (by simp [hi])
     exact this
   have key:=Eh P d e hpe (Rel w g0 H0) cs k (by rw [hl,hsz]) k 0 (by omega) fun i hik=>by
    have hxj:xs[i]?=some (xs[i]'(by omega)):=by simp
    refine mA b0 held d e hpe m _ _ ((hf i hik).trans hxj) fun q hq=>hw q ?_
    simp only [DataW.weights,hu]
    exact kE (d:=(xs[i]'(by omega)).1) (List.mem_map.2 ⟨_,List.getElem_mem _,rfl⟩) q hq
   obtain ⟨avs,h1,h2,h3,h4⟩:=key
   refine ⟨avs,by omega,by simpa using h2,?_,h4⟩
   simp only [hdesc,dD]
   exact h3
  |slice e =>
   simp only [Bool.and_eq_true,decide_eq_true_eq] at hp
   obtain ⟨⟨hpos,hpe⟩,hagg⟩:=hp
   have hse:=nG hpe
   rcases DataW.trod_slice hu h with ⟨rfl,rfl⟩|⟨a,len,cap,elems,rest,m,_,rfl,rfl,_,hle,_,hel,hf,hsp,_⟩
   ·refine ⟨[.slice .any (zjx P e) []],rfl,one_at _ _ (by rw [Rel];exact .inl ⟨⟨_,rfl⟩,rfl,trivial⟩),?_,rfl⟩
    simp only [hdesc,dD]
    exact ⟨[],rfl,by simp,fun x hx=>(by cases hx)⟩
   ·obtain ⟨hrl,hrest⟩:=hsp rfl
    have hwt:=hw ((elems.length+rest.length)*P.bytesOf e) (by simp [DataW.weights,hu])
    -- each element as a row of cells
    have helem:∀ i,i<len→∃ (ecs:List Value) (z:DataW H × List MemPlace),w.cells? b0 (a.add (i*P.cellsOf e)) (P.cellsOf e)=some ecs∧DataW.trod enc P w b0 (fun _=>true) held m e ecs=some z∧z∈elems:=by
     intro i hi
     have:=hf i hi
     have hei:elems[i]?=some (elems[i]'(by omega)):=by simp
     rw [hei] at this
     obtain ⟨ecs,h1,h2⟩:=Option.bind_eq_some_iff.1 this
     exact ⟨ecs,_,h1,h2,by simp⟩
    have hAll:∀ k,k<cap→∃ ecs:List Value,w.cells? b0 (a.add (k*P.cellsOf e)) (P.cellsOf e)=some ecs:=by
     intro k hk
     by_cases hkl:k<len
     ·obtain ⟨ecs,_,h1,_⟩:=helem k hkl;exact ⟨ecs,h1⟩
     ·have:=hrest (k - len) (by omega)
      have hei:rest[k - len]?=some (rest[k - len]'(by omega)):=by simp
      rw [hei] at this
      obtain ⟨ecs,h1,_⟩:=Option.bind_eq_some_iff.1 this
      exact ⟨ecs,by rw [← h1];congr 3;omega⟩
    by_cases hc0:cap=0
    ·have hl0:len=0:=by omega
     subst hl0;subst hc0
     refine ⟨[.slice .any (zjx P e) []],rfl,one_at _ _ (by rw [Rel];exact .inl ⟨⟨_,rfl⟩,rfl,trivial⟩),?_,rfl⟩
     simp only [hdesc,dD]
     exact ⟨[],rfl,by simp,fun x hx=>(by cases hx)⟩
    ·-- the block
     have hcell:∀ k j,k<cap→j<P.cellsOf e→∃ v,w.cell? ((a.add (k*P.cellsOf e)).add j)=some v:=by
      intro k j hk hj
      obtain ⟨ecs,he⟩:=hAll k hk
      obtain ⟨_,hl',hg⟩:=World.cells?_some he
      exact ⟨ecs[j]'(by omega),by rw [hg j hj];simp [hl',hj]⟩
     obtain ⟨v0,hv0⟩:=hcell 0 0 (by omega) hpos
     have hadd0:(a.add (0*P.cellsOf e)).add 0=a:=by simp [Addr.add]
     rw [hadd0] at hv0
     obtain ⟨C,ty,fr,hblk,hspot,_⟩:=oA hv0
     obtain ⟨ab,ao,as⟩:=a
     dsimp only at hspot hblk
     subst hspot
     have hadd:∀ k j,((⟨ab,ao,none⟩:Addr).add k).add j=⟨ab,ao+k+j,none⟩:=by
      intro k j
      unfold Addr.add
      by_cases h1:k=0<;>by_cases h2:j=0<;>simp [h1,h2]
     have hcell':∀ o v,w.cell? ⟨ab,o,none⟩=some v→C[o]?=some v:=by
      intro o v hv
      obtain ⟨C',_,_,hb',_,hg'⟩:=oA hv
      rw [hblk] at hb'
      cases hb'
      exact hg'
     have hrow:∀ i,i<len→∃ avs:List AV,avs.length=P.cellsOf e∧(∀ (j:Nat) (hj:j<avs.length),∃ u,C[ao+i*P.cellsOf e+j]?=some u∧Rel w g0 H0 avs[j] u)∧tyC P d e avs∧bN avs=true:=by
      intro i hi
      obtain ⟨ecs,z,h1,h2,h3⟩:=helem i hi
      obtain ⟨avs,k1,k2,k3,k4⟩:=mA b0 held d e hpe m ecs z h2 fun q hq=>hw q (by
       simp only [DataW.weights,hu,List.mem_cons,List.mem_append]
       exact .inr (.inl (kE (d:=z.1) (List.mem_map.2 ⟨z,h3,rfl⟩) q hq)))
      obtain ⟨_,hl',hg⟩:=World.cells?_some h1
      refine ⟨avs,by omega,fun j hj=>?_,k3,k4⟩
      obtain ⟨u,hu1,hu2⟩:=k2 j hj
      refine ⟨u,?_,hu2⟩
      rw [List.getElem?_toArray,Nat.zero_add] at hu1
      have:=hg j (by omega)
      rw [hu1,hadd] at this
      exact hcell' _ _ this
     -- the elements as values
     have hval:∀ i,i<len→∃ y:AV,(y.cells.length=P.cellsOf e∧∀ (j:Nat) (hj:j<y.cells.length),∃ u,C[ao+i*P.cellsOf e+j]?=some u∧Rel w g0 H0 y.cells[j] u)∧tyC.elem P (tyC P d e) e y:=by
      intro i hi
      obtain ⟨avs,k1,k2,k3,k4⟩:=hrow i hi
      obtain ⟨ie,ue,hie,hue⟩:=nW hpe
      obtain ⟨hde,_⟩:=pW hie hue
      rw [hue] at hagg
      simp only [Option.elim_some,Bool.or_eq_true,beq_iff_eq] at hagg
      unfold tyC.elem
      rw [hie]
      simp only [Option.elim_some,hde]
      by_cases hag:(dD ue).agg=true
      ·simp only [if_pos hag]
       exact ⟨.agg avs,⟨k1,k2⟩,avs,rfl,k3⟩
      ·simp only [if_neg hag]
       have hone:P.cellsOf e=1:=hagg.resolve_left hag
       rw [hone] at k1
       match avs,k1 with
       |[y],_ =>
        have hy1:y.one=true:=by simpa [bN] using k4
        have hyc:y.cells=[y]:=by cases y<;>first|rfl|(simp [AV.one] at hy1)
        refine ⟨y,?_,hy1,k3⟩
        rw [hyc]
        exact ⟨by rw [hone];rfl,k2⟩
     obtain ⟨ys,hyl,hys⟩:∃ ys:List AV,ys.length=len∧∀ i (hi:i<ys.length),((ys[i]).cells.length=P.cellsOf e∧∀ (j:Nat) (hj:j<(ys[i]).cells.length),∃ u,C[ao+i*P.cellsOf e+j]?=some u∧Rel w g0 H0 (ys[i]).cells[j] u)∧tyC.elem P (tyC P d e) e ys[i]:=by
      have pick:∀ i:Fin len,∃ y:AV,(y.cells.length=P.cellsOf e∧∀ (j:Nat) (hj:j<y.cells.length),∃ u,C[ao+i.1*P.cellsOf e+j]?=some u∧Rel w g0 H0 y.cells[j] u)∧tyC.elem P (tyC P d e) e y:=fun i=>hval i.1 i.2
      refine ⟨List.ofFn fun i=>Classical.choose (pick i),by simp,fun i hi=>?_⟩
      have hi':i<len:=by simpa using hi
      have:=Classical.choose_spec (pick ⟨i,hi'⟩)
      simpa using this
     refine ⟨[.slice .any (zjx P e) ys],rfl,one_at _ _ ?_,?_,rfl⟩
     ·rw [Rel]
      refine .inr ⟨ab,ao,cap,C,ty,fr,by rw [hyl],by omega,hblk,?_,Ix _ _,trivial,fun i hi=>?_⟩
      ·rw [hse]
       obtain ⟨v,hv⟩:=hcell (cap - 1) (P.cellsOf e - 1) (by omega) (by omega)
       rw [hadd] at hv
       have:=hcell' _ _ hv
       have hlt:ao+(cap - 1)*P.cellsOf e+(P.cellsOf e - 1)<C.size:=by
        rcases Nat.lt_or_ge (ao+(cap - 1)*P.cellsOf e+(P.cellsOf e - 1)) C.size with h'|h'
        ·exact h'
        ·rw [Array.getElem?_eq_none h'] at this;cases this
       have e1:cap*P.cellsOf e=(cap - 1)*P.cellsOf e+P.cellsOf e:=by
        rw [← Nat.succ_mul];congr 1;omega
       omega
      ·rw [hse];exact (hys i hi).1
     ·simp only [hdesc,dD]
      refine ⟨ys,rfl,?_,fun x hx=>?_⟩
      ·have h1:ys.length*P.bytesOf e≤(elems.length+rest.length)*P.bytesOf e:=Nat.mul_le_mul_right _ (by omega)
       exact Nat.le_trans h1 hwt
      ·obtain ⟨i,hi,rfl⟩:=List.getElem_of_mem hx
       exact (hys i hi).2
  |_=>simp at hp
def tyV (P:Program) (d:Nat) (t:TypeId) (x:AV):Prop:=tyC.elem P (tyC P d t) t x
def tyA (P:Program) (d:Nat):List TypeId→List AV→Prop
 |[],[]=>True
 |t::ts,x::xs=>tyV P d t x∧tyA P d ts xs
 |_,_=>False
theorem zX {b0 base:Nat} {d:Nat} {t:TypeId} (hp:plainT P d t=true) {v:Value} {x:DataW H} {ps:List MemPlace} (hv:Value.okWide P w .any base t v)
 (h:DataW.Trod enc P w b0 (fun _=>true) true t v x ps) (hw:∀ m∈x.weights P t,m≤reachBytes):∃ a,Rel w g0 H0 a v∧tyV P d t a:=by
 obtain ⟨n,h⟩:=h
 obtain ⟨avs,h1,h2,h3,h4⟩:=mA b0 true d t hp n _ _ h hw
 obtain ⟨i,u,hi,hu⟩:=nW hp
 obtain ⟨hdesc,hsize⟩:=pW hi hu
 unfold tyV tyC.elem
 rw [hi]
 simp only [Option.elim_some,hdesc]
 have hscalar:(dD u).agg=false→Cell.okWide P w .any base t v→∃ a,Rel w g0 H0 a v∧a.one=true∧tyC P d t [a]:=by
  intro hag hc
  have hvc:v.cells=#[v]:=by
   cases v<;>first|rfl|skip
   unfold Cell.okWide Cell.ok at hc
   rw [hu] at hc
   cases u<;>simp at hc
  rw [hvc] at h1 h2
  match avs,h1 with
  |[y],_ =>
   obtain ⟨z,hz,hr⟩:=h2 0 (by simp)
   simp at hz
   subst hz
   exact ⟨y,hr,by simpa [bN] using h4,h3⟩
 unfold Value.okWide at hv
 rw [hu] at hv
 cases u with
 |struct fs =>
  obtain ⟨cs,rfl,_,_⟩:=hv
  refine ⟨.agg avs,?_,by rw [if_pos (by rfl)];exact ⟨avs,rfl,h3⟩⟩
  rw [Rel]
  exact ⟨cs,rfl,by simpa [Value.cells] using h1.symm,fun j hj=>by simpa [Value.cells] using h2 j hj⟩
 |array k e =>
  obtain ⟨cs,rfl,_,_⟩:=hv
  refine ⟨.agg avs,?_,by rw [if_pos (by rfl)];exact ⟨avs,rfl,h3⟩⟩
  rw [Rel]
  exact ⟨cs,rfl,by simpa [Value.cells] using h1.symm,fun j hj=>by simpa [Value.cells] using h2 j hj⟩
 |_ =>
  obtain ⟨a,h5,h6⟩:=hscalar rfl hv
  exact ⟨a,h5,by rw [if_neg (by simp [dD,TD.agg])];exact h6⟩
theorem vg {b0 base:Nat} {d:Nat}:∀ {ts:List TypeId} {vs:List Value} {ds:List (DataW H)} {ps:List MemPlace},(ts.all fun t=>plainT P d t)=true →
 (∀ (j:Nat) t v,ts[j]?=some t→vs[j]?=some v→Value.okWide P w .any base t v)→DataW.TrodAll enc P w b0 (fun _=>true) true ts vs ds ps →
 (∀ m∈DataW.weightsEach P ts ds,m≤reachBytes)→∃ avs:List AV,avs.length=vs.length∧(∀ (j:Nat) (hj:j<avs.length),∃ u,vs[j]?=some u∧Rel w g0 H0 avs[j] u)∧tyA P d ts avs
 |[],[],[],_,_,_,_,_=>⟨[],rfl,fun j hj=>absurd hj (by simp),trivial⟩
 |t::ts,v::vs,x::ds,ps,hp,hv,h,hw=>by
  simp only [List.all_cons,Bool.and_eq_true] at hp
  obtain ⟨p,q,h1,h2,_⟩:=h
  obtain ⟨a,ha,ht⟩:=zX hp.1 (hv 0 t v rfl rfl) h1 fun m hm=>hw m (by simp only [DataW.weightsEach,List.mem_append];exact .inl hm)
  obtain ⟨as,k1,k2,k3⟩:=vg hp.2 (fun j t' v' h1 h2=>hv (j+1) t' v' (by simpa using h1) (by simpa using h2)) h2 fun m hm=>hw m (by simp only [DataW.weightsEach,List.mem_append];exact .inr hm)
  refine ⟨a::as,by simp [k1],fun j hj=>?_,ht,k3⟩
  cases j with
  |zero=>exact ⟨v,rfl,ha⟩
  |succ j=>obtain ⟨u,h3,h4⟩:=k2 j (by simpa using hj);exact ⟨u,by simpa using h3,by simpa using h4⟩
 |[],[],_::_,_,_,_,h,_=>by simp [DataW.TrodAll] at h
 |[],_::_,_,_,_,_,h,_=>by simp [DataW.TrodAll] at h
 |_::_,[],_,_,_,_,h,_=>by simp [DataW.TrodAll] at h
 |_::_,_::_,[],_,_,_,h,_=>by simp [DataW.TrodAll] at h
end
theorem Ext.below {w w':World} {g':br} {H':AHeap} (h:Ext w g0 H0 w' g' H'):Below w.heap.size w w' :=
 ⟨h.os,h.tape,h.output,h.size,fun b hb=>h.un b hb fun id o ho=>(by rw [wR] at ho;cases ho)⟩
section
variable {H:Type} {enc:TypeId × Value→H}
theorem As {P:Program} {f:Func} {s:ChangeSpec} {apart fresh handsOn again:Bool} {W W':World} {args:Array Value} {v:Value} {ds gs:List (DataW H)} {before pa pv:List MemPlace}
 (hW:DataW.Whole enc P f.params.toList s.vars apart W args.toList ds gs before)
 (hres:∀ (b:Nat) (sp:Nat→Bool) (hd:Bool),DataW.TrodAll enc P W' b sp hd f.resultTypes.toList (v.resultList f.resultTypes.size) (s.fn H (ds++gs)).results [])
 (hargs:∀ sp:Nat→Bool,(∀ p∈before,sp p.block=true)→DataW.TrodAll enc P W' 0 sp true f.params.toList args.toList (s.fn H (ds++gs)).args pa)
 (hvars:∀ sp:Nat→Bool,(∀ p∈before,sp p.block=true)→DataW.TrodVars enc P W' sp s.vars (s.fn H (ds++gs)).vars pv)
 (hps:before=pa++pv) (hb:Below W.heap.size W W')
 (hok:∀ (j:Nat) (t:TypeId) (r:Value),f.resultTypes[j]?=some t→(v.resultList f.resultTypes.size)[j]?=some r→Value.okWide P W' .any 0 t r) :
 s.post enc P f apart fresh handsOn again W args v W':=by
 have hlt:∀ p∈before,p.block<W.heap.size:=fun p hp=>hW.lt p hp
 have hold:∀ p∈before,(fun b=>decide (b<W.heap.size)) p.block=true:=fun p hp=>by simpa using hlt p hp
 refine ⟨ds,gs,before,[],pa,pv,hW,hres _ _ _,hargs _ hold,hvars _ hold,World.keptBut_mono (fun p hp=>⟨hp,?_⟩) (hb.frame (·∈before)),fun _=>?_⟩
 ·rw [hps,List.mem_append] at hp
  exact Or.inr hp
 ·obtain ⟨_,_,_,_,_,hz,hn⟩:=hW
  refine ⟨hok,_,_,([]++pa)++pv,⟨[]++pa,pv,trodAll_append (hargs _ (fun _ _=>rfl)) (hres _ _ _),hvars _ (fun _ _=>rfl),rfl,?_,?_⟩,?_⟩
  ·intro b off hp
   have hin:MemPlace.cell b off∈before:=by rw [hps];simpa using hp
   rw [hb.frozen (hlt _ hin)]
   exact hz b off hin
  ·intro ha
   have:=hn ha
   rw [hps] at this
   simpa using this
  ·intro p hp _
   rw [hps]
   simpa using hp
theorem oP {P:Program} (hl:laidOutB P=true) {W W':World} (hsame:∀ p:MemPlace,p.block<W.heap.size→W.sameAt W' p) {sp:Nat→Bool} :
 ∀ {ts:List TypeId} {vs:List Value} {ds:List (DataW H)} {ps:List MemPlace},(ts.all fun t=>P.readableRec t&&decide (t<P.types.size))=true→(∀ p∈ps,p.block<W.heap.size)→(∀ p∈ps,sp p.block=true) →
  DataW.TrodAll enc P W 0 (fun _=>true) true ts vs ds ps→DataW.TrodAll enc P W' 0 sp true ts vs ds ps
 |[],[],[],_,_,_,_,h=>h
 |t::ts,v::vs,x::ds,ps,hp,hlt,hs,h=>by
  simp only [List.all_cons,Bool.and_eq_true,decide_eq_true_eq] at hp
  obtain ⟨p,q,h1,h2,rfl⟩:=h
  refine ⟨p,q,WideElems.Trod_stays hl hp.1.1 hp.1.2 h1 (fun x hx=>hsame x (hlt x (by simp [hx]))) (fun x hx=>hs x (by simp [hx])),
   oP hl hsame hp.2 (fun x hx=>hlt x (by simp [hx])) (fun x hx=>hs x (by simp [hx])) h2,rfl⟩
 |[],[],_::_,_,_,_,_,h=>by simp [DataW.TrodAll] at h
 |[],_::_,_,_,_,_,_,h=>by simp [DataW.TrodAll] at h
 |_::_,[],_,_,_,_,_,h=>by simp [DataW.TrodAll] at h
 |_::_,_::_,[],_,_,_,_,h=>by simp [DataW.TrodAll] at h
theorem xE {P:Program} {W:World} {base:Nat} {sp:Nat→Bool} {held:Bool}:∀ {ts:List TypeId} {vs:List Value} {ds:List (DataW H)} {ps:List MemPlace},DataW.TrodAll enc P W base sp held ts vs ds ps→ds.length=ts.length
 |[],[],[],_,h=>rfl
 |t::ts,v::vs,x::ds,ps,h=>by
  obtain ⟨p,q,_,h2,_⟩:=h
  simp [xE h2]
 |[],[],_::_,_,h=>by simp [DataW.TrodAll] at h
 |[],_::_,_,_,h=>by simp [DataW.TrodAll] at h
 |_::_,[],_,_,h=>by simp [DataW.TrodAll] at h
 |_::_,_::_,[],_,h=>by simp [DataW.TrodAll] at h
theorem uE {a:Assume} {C:Checked} {os:Os} {f:FuncId} {fn:Func} {c:Code} {s:ChangeSpec} {conds:List PathCond} {apart fresh handsOn again:Bool} {d:Nat} {tb:TypeId}
 (own : ownKnob C.prog.godebug = none) (started : os.Started) (noInit : C.prog.inits.idxOf? f = none) (hfn : C.prog.funcs[f]? = some fn) (hname : (fn.name == "runtime.NumGoroutine") = false) (hbody : fn.body = some c)
 (hlaid:laidOutB C.prog=true) (hread:(fn.params.toList.all fun t=>C.prog.readableRec t&&decide (t<C.prog.types.size))=true) (hplain:(fn.params.toList.all fun t=>plainT C.prog d t)=true)
 (hres:fn.resultTypes=#[tb]) (htb:C.prog.underlying tb=some .bool) (hvars:s.vars=[])
 (hs:∀ ds:List (DataW H),ds.length=fn.params.size→(s.fn H ds).results=[.lit (.bool true)]∧(s.fn H ds).args=ds∧(s.fn H ds).vars=[])
 (witness:∃ (w:World) (tape:Tape) (i:Input),w.os=os∧(w.forCall tape i).Shaped C.prog∧i.vars=[]∧Input.okWide C.prog (w.forCall tape i) .any w.heap.size f i ∧
   s.pre6 enc C.prog fn conds apart (w.forCall tape i).memory i.args∧a.holds C.prog (lone (Frame.enter C.prog f i.args .normal) [] (w.forCall tape i)))
 (hA:∀ avs:List AV,tyA C.prog d fn.params.toList avs→ACalls C.prog f avs H0 (.ret (.bool true)) H0) :
 ReturnsInHanded a C os f .any (s.pre6 enc C.prog fn conds apart) (s.post enc C.prog fn apart fresh handsOn again):=by
 refine returnsInHanded_of_change_sized own started noInit hfn witness ?_
 intro W base args ds gs before hval hW hcnd hsz _
 have hW':=hW
 obtain ⟨p,q,hT,hV,rfl,hfz,hnd⟩:=hW
 rw [hvars] at hV
 obtain ⟨rfl,rfl⟩:=trodVars_none hV
 rw [List.append_nil] at hsz hW'
 have hlen:=xE hT
 have hpt:s.plain.varTypes C.prog=[]:=by unfold ChangeSpec.plain DataSpec.varTypes;rw [hvars];rfl
 rw [hpt,List.append_nil,List.all_eq_true] at hsz
 obtain ⟨avs,k1,k2,k3⟩:=vg (P:=C.prog) (w:=W) (base:=base) hplain (fun j t v h1 h2=>hval j t v (by simpa using h1) (by simpa using h2)) hT fun m hm=>by simpa using hsz m hm
 have hcall:=hA avs k3 W g0 args (GC W) ⟨by rw [k1];simp,fun j hj=>by simpa using k2 j hj⟩
 rw [lJ hfn hname hbody] at hcall
 refine Calls.mono (P:=C.prog) hcall fun e W' he=>?_
 obtain ⟨g',_,hext,hend⟩:=he
 have hbelow:=hext.below
 cases e with
 |returned v =>
  have hv:v=.bool true:=by
   have:Rel W' g' H0 (.bool true) v:=hend
   rw [Rel] at this;exact this
  subst hv
  refine ⟨_,rfl,?_⟩
  obtain ⟨r1,r2,r3⟩:=hs ds (by simpa using hlen)
  have happ:ds++([]:List (DataW H))=ds:=List.append_nil ds
  refine As (pa:=p) (pv:=[]) hW' (fun b sp hd=>?_) (fun sp hsp=>?_) (fun sp hsp=>?_) (by simp) hbelow ?_
  ·rw [happ,r1,hres]
   exact trodAll_mk1 (shut_bool htb true)
  ·rw [happ,r2]
   have hlt:∀ x∈p,x.block<W.heap.size:=fun x hx=>hW'.lt x hx
   exact oP hlaid (fun x hx=>hbelow.same hx) hread hlt hsp hT
  ·rw [happ,r3,hvars];rfl
  ·intro j t r h1 h2
   rw [hres] at h1 h2
   cases j with
   |zero =>
    simp [Value.resultList] at h1 h2
    subst h1;subst h2
    unfold Value.okWide
    rw [htb]
    unfold Cell.okWide
    rw [htb]
    unfold Cell.ok
    rw [htb]
    trivial
   |succ j=>simp at h1
 |panicked ch=>exact hend.elim
 |outgrown=>exact hend.elim
end
theorem GY {l:List AV} (h:∀ x∈l,∃ n,x=.int .u8 n∧0≤n∧n≤255):isB l:=by
 show l=bys (unb l)
 unfold bys unb
 rw [List.map_map]
 conv=>lhs;rw [← List.map_id l]
 refine List.map_congr_left fun x hx=>?_
 obtain ⟨n,rfl,h0,h1⟩:=h x hx
 simp only [id,Function.comp,byteOf,aL]
 congr 1
 rw [UInt8.toNat_ofNat_of_lt' (by simp [UInt8.size];omega)]
 omega
section
variable {P:Program} {d:Nat} {t e:TypeId} {cs:List AV} {x:AV} {b n:Nat} {z:AV}
theorem Ak {k:IntKind} (h:ti P t=some ⟨.int k,n,b,z⟩):tyC P (d+1) t cs=∃ m,cs=[.int k m]∧k.min≤m∧m≤k.max:=by unfold tyC;rw [h]
theorem EO (h:ti P t=some ⟨.slice e,n,b,z⟩):tyC P (d+1) t cs=∃ xs,cs=[.slice .any (zjx P e) xs]∧xs.length*P.bytesOf e≤140737488351232∧∀ x∈xs,tyV P d e x:=by unfold tyC;rw [h];rfl
theorem wo {i:TI} (h:ti P t=some i) (ha:i.desc.agg=false):tyV P d t x=(x.one=true∧tyC P d t [x]):=by unfold tyV tyC.elem;rw [h];simp [ha]
end
theorem Eo {P:Program} {t:TypeId} {i:TI} (h:ti P t=some i):zjx P t=i.size:=by unfold zjx;rw [h];rfl
end Go.AL
