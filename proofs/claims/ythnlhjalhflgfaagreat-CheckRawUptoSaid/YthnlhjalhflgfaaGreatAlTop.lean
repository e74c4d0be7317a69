/- Lemmas of the proof; no condition. -/
import Derived.Test.YthnlhjalhflgfaaGreatAlByte
import Derived.ProofKit
import Derived.Below
import Derived.Carry
import Derived.SizedLaws
set_option linter.all false
set_option linter.unusedSectionVars false
namespace Go.AL
open Go.RowKit Go.ChangeShapes Go.WideShapes
def H0:AHeap:=⟨0,fun _=>none⟩
def g0:cM:=fun _=>none
theorem yZ (i:Nat):H0.get i=none:=by simp [H0,AHeap.get]
theorem Q6 (w:World):State w g0 H0:=⟨fun i j oi oj b h=>(by rw [yZ] at h;cases h),fun i o h=>(by rw [yZ] at h;cases h)⟩
theorem S8 (b e:Nat):Imm g0 H0 b e:=fun id o h=>(by rw [yZ] at h;cases h)
def tyC (P:Program):Nat→TypeId→List AV→Prop
 |0,_,_=>True
 |d+1,t,cs =>
  match ti P t with
  |none=>True
  |some i=>match i.desc with
   |.int k=>∃ n,cs=[.int k n]∧k.min≤n∧n≤k.max
   |.bool=>∃ b,cs=[.bool b]
   |.string=>∃ s,cs=[.str s]∧s.length≤140737488351232
   |.slice e=>∃ xs,cs=[.slice .any (zjx P e) xs]∧xs.length*P.bytesOf e≤140737488351232∧∀ x∈xs,elem P (tyC P d e) e x
   |.struct fs=>fields (fun t=>zjx P t) (fun t=>tyC P d t) fs cs
   |.array n e=>row (zjx P e) (tyC P d e) n cs
   |_=>True
where
 elem (P:Program) (p:List AV→Prop) (e:TypeId) (x:AV):Prop:=if (ti P e).elim false (fun i=>i.desc.agg)=true then ∃ cs,x=.agg cs∧p cs else x.one=true∧p [x]
 fields (sz:TypeId→Nat) (p:TypeId→List AV→Prop):List (Nat × TypeId × Bool)→List AV→Prop
  |[],cs=>cs=[]
  |(_,t,_)::fs,cs=>∃ a b,cs=a++b∧a.length=sz t∧p t a∧fields sz p fs b
 row (sz:Nat) (p:List AV→Prop):Nat→List AV→Prop
  |0,cs=>cs=[]
  |n+1,cs=>∃ a b,cs=a++b∧a.length=sz∧p a∧row sz p n b
def plainT (P:Program):Nat→TypeId→Bool
 |0,_=>false
 |d+1,t =>
  match ti P t,P.underlying t with
  |some i,some u=>match u with
   |.int _|.bool|.string=>true
   |.slice e=>0<P.cellsOf e&&plainT P d e&&((P.underlying e).elim false fun u=>(fJ u).agg||P.cellsOf e==1)
   |.struct fs=>tile (plainT P d) (fun t=>P.cellsOf t) (P.cellsOf t) 0 fs.toList
   |.array n e=>plainT P d e&&(n*P.cellsOf e==P.cellsOf t)
   |_=>false
  |_,_=>false
where
 tile (p:TypeId→Bool) (sz:TypeId→Nat) (all:Nat):Nat→List Field→Bool
  |o,[]=>o==all
  |o,f::fs=>f.offset==o&&p f.type&&tile p sz all (o+sz f.type) fs
theorem qV {P:Program} {t:TypeId} {i:TI} {u:TypeDesc} (h:ti P t=some i) (hu:P.underlying t=some u):i.desc=fJ u∧i.size=P.cellsOf t:=by
 unfold ti at h
 rw [hu] at h
 cases hi:P.info? t with
 |none=>rw [hi] at h;cases h
 |some j =>
  rw [hi] at h
  dsimp only at h
  split at h
  ·cases h;exact ⟨rfl,by simp [Program.cellsOf,hi]⟩
  ·cases h
theorem pV {P:Program} {d:Nat} {t:TypeId} (h:plainT P d t=true):∃ i u,ti P t=some i∧P.underlying t=some u:=by
 cases d with
 |zero=>simp [plainT] at h
 |succ d =>
  unfold plainT at h
  split at h
  ·exact ⟨_,_,by assumption,by assumption⟩
  ·cases h
theorem pK {P:Program} {d:Nat} {t:TypeId} (h:plainT P d t=true):zjx P t=P.cellsOf t:=by
 obtain ⟨i,u,h1,h2⟩:=pV h
 unfold zjx
 rw [h1]
 exact (qV h1 h2).2
section
variable {H:Type} {enc:TypeId × Value→H} {P:Program} {w:World}
theorem AtR.append' {R:AV→Value→Prop} {xs ys:List AV} {C:Array Value} {o:Nat} (h:AtR R xs C o) (k:AtR R ys C (o+xs.length)):AtR R (xs++ys) C o:=by
 intro j hj
 by_cases hlt:j<xs.length
 ·obtain ⟨u,h1,h2⟩:=h j hlt
  exact ⟨u,h1,by rw [List.getElem_append_left hlt];exact h2⟩
 ·obtain ⟨u,h1,h2⟩:=k (j - xs.length) (by simp at hj;omega)
  exact ⟨u,by rw [← h1];congr 1;omega,by rw [List.getElem_append_right (by omega)];exact h2⟩
theorem AtR.of_part {R:AV→Value→Prop} {xs:List AV} {cs:List Value} {o n:Nat} (h:AtR R xs ((cs.drop o).take n).toArray 0):AtR R xs cs.toArray o:=by
 intro j hj
 obtain ⟨u,h1,h2⟩:=h j hj
 refine ⟨u,?_,h2⟩
 simp only [List.getElem?_toArray,List.getElem?_take,List.getElem?_drop,Nat.zero_add] at h1 ⊢
 split at h1
 ·exact h1
 ·cases h1
theorem qz {a b:List AV} (h:cP a=true) (k:cP b=true):cP (a++b)=true:=by
 unfold cP at *;rw [List.all_append,h,k];rfl
theorem xj (P:Program) (d:Nat) (R:AV→Value→Prop) (cs:List Value) (tot:Nat) :
 ∀ (fs:List Field) (o:Nat),plainT.tile (plainT P d) (fun t=>P.cellsOf t) tot o fs=true→cs.length=tot →
  (∀ f∈fs,∃ avs:List AV,avs.length=((cs.drop f.offset).take (P.cellsOf f.type)).length∧AtR R avs ((cs.drop f.offset).take (P.cellsOf f.type)).toArray 0∧tyC P d f.type avs∧cP avs=true) →
  ∃ avs : List AV, o + avs.length = tot ∧ AtR R avs cs.toArray o ∧ tyC.fields (fun t => zjx P t) (fun t => tyC P d t) (fs.map fun f => (f.offset, f.type, f.name == "_")) avs ∧ cP avs = true
 |[],o,ht,hl,_=>by
  simp only [plainT.tile,beq_iff_eq] at ht
  exact ⟨[],by simpa using ht,fun j hj=>absurd hj (by simp),rfl,rfl⟩
 |f::fs,o,ht,hl,hf=>by
  simp only [plainT.tile,Bool.and_eq_true,beq_iff_eq] at ht
  obtain ⟨⟨ho,hp⟩,ht⟩:=ht
  obtain ⟨a,h1,h2,h3,h4⟩:=hf f (by simp)
  obtain ⟨b,k1,k2,k3,k4⟩:=xj P d R cs tot fs _ ht hl fun g hg=>hf g (by simp [hg])
  have hal:a.length=P.cellsOf f.type:=by rw [h1,List.length_take,List.length_drop,ho];omega
  rw [ho] at h2
  refine ⟨a++b,by simp;omega,(AtR.of_part h2).append' (by rw [hal];exact k2),⟨a,b,rfl,?_,h3,k3⟩,qz h4 k4⟩
  show a.length=zjx P f.type
  rw [pK hp];exact hal
theorem Gf (P:Program) (d:Nat) (e:TypeId) (he:plainT P d e=true) (R:AV→Value→Prop) (cs:List Value) (tot:Nat) (hl:cs.length=tot*P.cellsOf e) :
 ∀ (n k:Nat),n+k=tot →
  (∀ i,i<tot→∃ avs:List AV,avs.length=((cs.drop (i*P.cellsOf e)).take (P.cellsOf e)).length∧AtR R avs ((cs.drop (i*P.cellsOf e)).take (P.cellsOf e)).toArray 0∧tyC P d e avs∧cP avs=true) →
  ∃ avs:List AV,k*P.cellsOf e+avs.length=tot*P.cellsOf e∧AtR R avs cs.toArray (k*P.cellsOf e)∧tyC.row (zjx P e) (tyC P d e) n avs∧cP avs=true
 |0,k,hk,_=>⟨[],by simp at hk ⊢;rw [hk],fun j hj=>absurd hj (by simp),rfl,rfl⟩
 |n+1,k,hk,hf=>by
  obtain ⟨a,h1,h2,h3,h4⟩:=hf k (by omega)
  obtain ⟨b,k1,k2,k3,k4⟩:=Gf P d e he R cs tot hl n (k+1) (by omega) hf
  have hle:(k+1)*P.cellsOf e≤tot*P.cellsOf e:=Nat.mul_le_mul_right _ (by omega)
  rw [Nat.add_mul,Nat.one_mul] at hle k1 k2
  have hal:a.length=P.cellsOf e:=by rw [h1,List.length_take,List.length_drop];omega
  refine ⟨a++b,by simp;omega,(AtR.of_part h2).append' (by rw [hal];exact k2),⟨a,b,rfl,?_,h3,k3⟩,qz h4 k4⟩
  rw [pK he];exact hal
theorem tD {P:Program}:∀ {ts:List TypeId} {ds:List (DataW H)} {j:Nat} {t:TypeId} {d:DataW H},ts[j]?=some t→ds[j]?=some d→∀ n∈d.weights P t,n∈DataW.weightsEach P ts ds :=
 fun ht hd n hn=>DataW.weights_mem_each ht hd n hn
theorem my {P:Program} {e:TypeId}:∀ {ds:List (DataW H)} {d:DataW H},d∈ds→∀ n∈d.weights P e,n∈DataW.weightsAll P e ds
 |d0::ds,d,hd,n,hn=>by
  simp only [DataW.weightsAll,List.mem_append]
  rcases List.mem_cons.1 hd with rfl|h
  ·exact .inl hn
  ·exact .inr (my h n hn)
theorem qC {w:World} {a:Addr} {v:Value} (h:w.cell? a=some v):∃ C ty fr,w.heap[a.block]?=some (.cells C ty fr)∧a.spot=none∧C[a.off]?=some v:=by
 unfold World.cell? at h
 split at h
 ·rename_i c ty fr hb
  split at h
  ·cases h
  ·rename_i hs
   exact ⟨c,ty,fr,hb,by simpa using hs,h⟩
 ·cases h
def tyV (P:Program) (d:Nat) (t:TypeId) (x:AV):Prop:=tyC.elem P (tyC P d t) t x
def tyA (P:Program) (d:Nat):List TypeId→List AV→Prop
 |[],[]=>True
 |t::ts,x::xs=>tyV P d t x∧tyA P d ts xs
 |_,_=>False
end
theorem Ext.below {w w':World} {g':cM} {H':AHeap} (h:Ext w g0 H0 w' g' H'):Below w.heap.size w w' :=
 ⟨h.os,h.tape,h.output,h.size,fun b hb=>h.un b hb fun id o ho=>(by rw [yZ] at ho;cases ho)⟩
section
variable {H:Type} {enc:TypeId × Value→H}
theorem Bm {P:Program} {f:Func} {s:ChangeSpec} {apart fresh handsOn again:Bool} {W W':World} {args:Array Value} {v:Value} {ds gs:List (DataW H)} {before pa pv:List MemPlace}
 (hW:DataW.Whole enc P f.params.toList s.vars apart W args.toList ds gs before)
 (hres:∀ (b:Nat) (sp:Nat→Bool) (hd:Bool),DataW.TrodAll enc P W' b sp hd f.resultTypes.toList (v.resultList f.resultTypes.size) (s.fn H (ds++gs)).results [])
 (hargs:∀ sp:Nat→Bool,(∀ p∈before,sp p.block=true)→DataW.TrodAll enc P W' 0 sp true f.params.toList args.toList (s.fn H (ds++gs)).args pa)
 (hvars:∀ sp:Nat→Bool,(∀ p∈before,sp p.block=true)→DataW.TrodVars enc P W' sp s.vars (s.fn H (ds++gs)).vars pv)
 (hps:before=pa++pv) (hb:Below W.heap.size W W')
 (hok:∀ (j:Nat) (t:TypeId) (r:Value),f.resultTypes[j]?=some t→(v.resultList f.resultTypes.size)[j]?=some r→Value.okWide P W' .any 0 t r) :
 s.post enc P f apart fresh handsOn again W args v W':=by
 have hlt:∀ p∈before,p.block<W.heap.size:=fun p hp=>hW.lt p hp
 have hold:∀ p∈before,(fun b=>decide (b<W.heap.size)) p.block=true:=fun p hp=>by simpa using hlt p hp
 refine ⟨ds,gs,before,[],pa,pv,hW,hres _ _ _,hargs _ hold,hvars _ hold,World.keptBut_mono (fun p hp=>⟨hp,?_⟩) (hb.frame (·∈before)),fun _=>?_⟩
 ·rw [hps,List.mem_append] at hp
  exact Or.inr hp
 ·obtain ⟨_,_,_,_,_,hz,hn⟩:=hW
  refine ⟨hok,_,_,([]++pa)++pv,⟨[]++pa,pv,trodAll_append (hargs _ (fun _ _=>rfl)) (hres _ _ _),hvars _ (fun _ _=>rfl),rfl,?_,?_⟩,?_⟩
  ·intro b off hp
   have hin:MemPlace.cell b off∈before:=by rw [hps];simpa using hp
   rw [hb.frozen (hlt _ hin)]
   exact hz b off hin
  ·intro ha
   have:=hn ha
   rw [hps] at this
   simpa using this
  ·intro p hp _
   rw [hps]
   simpa using hp
theorem qu {P:Program} (hl:laidOutB P=true) {W W':World} (hsame:∀ p:MemPlace,p.block<W.heap.size→W.sameAt W' p) {sp:Nat→Bool} :
 ∀ {ts:List TypeId} {vs:List Value} {ds:List (DataW H)} {ps:List MemPlace},(ts.all fun t=>P.readableRec t&&decide (t<P.types.size))=true→(∀ p∈ps,p.block<W.heap.size)→(∀ p∈ps,sp p.block=true) →
  DataW.TrodAll enc P W 0 (fun _=>true) true ts vs ds ps→DataW.TrodAll enc P W' 0 sp true ts vs ds ps
 |[],[],[],_,_,_,_,h=>h
 |t::ts,v::vs,x::ds,ps,hp,hlt,hs,h=>by
  simp only [List.all_cons,Bool.and_eq_true,decide_eq_true_eq] at hp
  obtain ⟨p,q,h1,h2,rfl⟩:=h
  refine ⟨p,q,WideElems.Trod_stays hl hp.1.1 hp.1.2 h1 (fun x hx=>hsame x (hlt x (by simp [hx]))) (fun x hx=>hs x (by simp [hx])),
   qu hl hsame hp.2 (fun x hx=>hlt x (by simp [hx])) (fun x hx=>hs x (by simp [hx])) h2,rfl⟩
 |[],[],_::_,_,_,_,_,h=>by simp [DataW.TrodAll] at h
 |[],_::_,_,_,_,_,_,h=>by simp [DataW.TrodAll] at h
 |_::_,[],_,_,_,_,_,h=>by simp [DataW.TrodAll] at h
 |_::_,_::_,[],_,_,_,_,h=>by simp [DataW.TrodAll] at h
theorem zo {P:Program} {W:World} {base:Nat} {sp:Nat→Bool} {held:Bool}:∀ {ts:List TypeId} {vs:List Value} {ds:List (DataW H)} {ps:List MemPlace},DataW.TrodAll enc P W base sp held ts vs ds ps→ds.length=ts.length
 |[],[],[],_,h=>rfl
 |t::ts,v::vs,x::ds,ps,h=>by
  obtain ⟨p,q,_,h2,_⟩:=h
  simp [zo h2]
 |[],[],_::_,_,h=>by simp [DataW.TrodAll] at h
 |[],_::_,_,_,h=>by simp [DataW.TrodAll] at h
 |_::_,[],_,_,h=>by simp [DataW.TrodAll] at h
 |_::_,_::_,[],_,h=>by simp [DataW.TrodAll] at h
end
section
variable {P:Program} {d:Nat} {t e:TypeId} {cs:List AV} {x:AV} {b n:Nat} {z:AV}
theorem fw {k:IntKind} (h:ti P t=some ⟨.int k,n,b,z⟩):tyC P (d+1) t cs=∃ m,cs=[.int k m]∧k.min≤m∧m≤k.max:=by unfold tyC;rw [h]
theorem tP (h:ti P t=some ⟨.bool,n,b,z⟩):tyC P (d+1) t cs=∃ m,cs=[.bool m]:=by unfold tyC;rw [h]
theorem jF (h:ti P t=some ⟨.string,n,b,z⟩):tyC P (d+1) t cs=∃ s,cs=[.str s]∧s.length≤140737488351232:=by unfold tyC;rw [h]
theorem gP (h:ti P t=some ⟨.slice e,n,b,z⟩):tyC P (d+1) t cs=∃ xs,cs=[.slice .any (zjx P e) xs]∧xs.length*P.bytesOf e≤140737488351232∧∀ x∈xs,tyV P d e x:=by unfold tyC;rw [h];rfl
theorem fS {fs:List (Nat × TypeId × Bool)} (h:ti P t=some ⟨.struct fs,n,b,z⟩):tyC P (d+1) t cs=tyC.fields (fun t=>zjx P t) (fun t=>tyC P d t) fs cs:=by unfold tyC;rw [h]
theorem kf {i:TI} (h:ti P t=some i) (ha:i.desc.agg=true):tyV P d t x=∃ cs,x=.agg cs∧tyC P d t cs:=by unfold tyV tyC.elem;rw [h];simp [ha]
theorem Ka {i:TI} (h:ti P t=some i) (ha:i.desc.agg=false):tyV P d t x=(x.one=true∧tyC P d t [x]):=by unfold tyV tyC.elem;rw [h];simp [ha]
end
theorem gO {P:Program} {t:TypeId} {i:TI} (h:ti P t=some i):zjx P t=i.size:=by unfold zjx;rw [h];rfl
end Go.AL
