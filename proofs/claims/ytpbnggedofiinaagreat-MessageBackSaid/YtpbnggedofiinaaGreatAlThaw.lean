/- Lemmas of the proof; no condition. -/
import Derived.Test.YtpbnggedofiinaaGreatAlBun
set_option linter.all false
set_option linter.unusedSectionVars false
namespace Go.AL
def AHeap.none:AHeap:=⟨0,fun _=>.none⟩
theorem AHeap.none_get {i:Nat}:AHeap.none.get i=.none:=by
 unfold AHeap.get AHeap.none
 simp
theorem AHeap.none_le (H:AHeap):AHeap.none.Le H:=⟨Nat.zero_le _,fun i o h=>by rw [AHeap.none_get] at h;cases h⟩
theorem AHeap.none_closed:AHeap.none.Closed:=fun i cs h=>by rw [AHeap.none_get] at h;cases h
theorem UponCall.mono {P:Program} {R R':Ending→World→Prop} (h:∀ en w,R en w→R' en w):∀ {r:Result Next},UponCall P R r→UponCall P R' r
 |.ok (.enter f args) w',hc=>Calls.mono hc h
 |.ok (.value v) w',hc=>h _ _ hc
def tOk (H1:AHeap):AV→Prop
 |.slice (.own id) sz xs=>H1.get id=some (.buf sz xs.length)∧∀ x∈xs,∀ y∈x.cells,y.flat1=true
 |v=>v.flat1=true
def GX:AV→AV
 |.slice _ sz xs=>.slice .any sz xs
 |v=>v
section
variable {w w':World} {γ γ1:br} {H H1:AHeap} (hs:State w γ H) (he:Ext w γ .none w' γ1 H1) (h1:State w' γ1 H1)
include he
theorem yN {id sz n blk:Nat} (ho:H1.get id=some (.buf sz n)) (hg:γ1 id=some blk):w.heap.size≤blk:=by
 rcases Nat.lt_or_ge blk w.heap.size with h|h
 ·have hi:Imm γ .none blk (n*sz+1):=fun i o ho'=>by rw [AHeap.none_get] at ho';cases ho'
  obtain ⟨sz',n',e,hle⟩:=he.imm blk _ h hi id _ ho hg
  cases e
  omega
 ·exact h
theorem ur {b:Nat} (hb:b<w.heap.size):w'.heap[b]?=w.heap[b]?:=he.un b hb fun i o h=>by rw [AHeap.none_get] at h;cases h
include hs
theorem xJ {blk:Nat} {cs:List AV} (hb:w.heap.size≤blk):Ext w γ H w' (iW γ H.nx blk) (H.push (.part cs)) where
 os:=he.os
 tape:=he.tape
 output:=he.output
 size:=he.size
 nx:=Nat.le_succ _
 block:=fun b C ty fr hC=>⟨C,by rw [ur he (bE hC)];exact hC,rfl,fun _ _ _ _=>rfl⟩
 imm:=fun b e hlt hi i o ho hg=>by
  rcases AHeap.get_push_inv _ _ ho with ⟨rfl,rfl⟩|⟨hl,ho⟩
  ·unfold iW at hg;rw [if_pos rfl] at hg;cases hg;omega
  ·unfold iW at hg;rw [if_neg (by omega)] at hg;exact hi i o ho hg
 un:=fun b hb' _=>ur he hb'
 none:=fun i hi hn=>⟨by rw [gPq _ _ hi];exact hn,by unfold iW;rw [if_neg (by omega)]⟩
 keep:=fun i o ho hnb=>by
  have hi:=glq ho
  refine ⟨by unfold iW;rw [if_neg (by omega)],fun sz n h=>?_⟩
  rw [gPq _ _ hi,ho] at h
  exact hnb sz n (Option.some.inj h)
 bufs:=fun i sz n ho sz' n' h=>by
  have hi:=glq ho
  rw [gPq _ _ hi,ho] at h
  cases h
  exact ⟨rfl,nrq _,fun _=>by unfold iW;rw [if_neg (by omega)]⟩
 bufk:=fun i sz n ho o h=>by
  rw [gPq _ _ (glq ho),ho] at h
  cases h
  exact ⟨_,_,rfl⟩
theorem Ap {blk:Nat} {cs:List AV} {C:Array Value} {ty:TypeId} {fr:Nat × Nat} (hb:w.heap.size≤blk) (hC:w'.heap[blk]?=some (.cells C ty fr)) (hl:cs.length≤C.size)
 (hf:∀ x∈cs,x.flat1=true) (hr:AtR (Rel w' γ1 H1) cs C 0) (ht:fL fr 0 C.size):State w' (iW γ H.nx blk) (H.push (.part cs)) where
 inj:=fun i j oi oj b hi hj gi gj=>by
  unfold iW at gi gj
  rcases AHeap.get_push_inv _ _ hi with ⟨rfl,rfl⟩|⟨hli,hi⟩<;>rcases AHeap.get_push_inv _ _ hj with ⟨rfl,rfl⟩|⟨hlj,hj⟩
  ·rfl
  ·rw [if_pos rfl] at gi;rw [if_neg (by omega)] at gj;cases gi;have:=hs.lt hj gj;omega
  ·rw [if_pos rfl] at gj;rw [if_neg (by omega)] at gi;cases gj;have:=hs.lt hi gi;omega
  ·rw [if_neg (by omega)] at gi gj;exact hs.inj i j oi oj b hi hj gi gj
 obj:=fun i o ho=>by
  rcases AHeap.get_push_inv _ _ ho with ⟨rfl,rfl⟩|⟨hli,ho⟩
  ·refine ⟨blk,C,ty,fr,by unfold iW;rw [if_pos rfl],hC,hl,fun j hj=>?_,ht,fun x hx=>?_⟩
   ·obtain ⟨u,h3,h4⟩:=hr j hj
    have hfl:=hf _ (gMq hj)
    exact ⟨u,h3,(fO hfl u).2 ((fO hfl u).1 h4)⟩
   ·have:=hf x hx
    cases x<;>simp [AV.flat1] at this<;>rw [AV.lt]<;>simp
  ·exact (hs.obj i o ho).mono (xJ hs he hb) (by unfold iW;rw [if_neg (by omega)]) fun b x hg hx=>by
    rw [ur he (bE hx)];exact hx
end
theorem Cp {w w':World} {γ γ1:br} {H H1:AHeap} (he:Ext w γ .none w' γ1 H1) (h1:State w' γ1 H1) {blk id0 sz0 n0:Nat} {cs:List AV} (ho:H1.get id0=some (.buf sz0 n0)) (hg:γ1 id0=some blk)
 (hsl:∀ i o b,H.get i=some o→γ i=some b→b<w.heap.size) {x:AV} {v:Value} (hx:tOk H1 x) (hne:∀ id sz xs,x=.slice (.own id) sz xs→id≠id0) (hr:Rel w' γ1 H1 x v):Rel w' (iW γ H.nx blk) (H.push (.part cs)) (GX x) v:=by
 unfold tOk at hx
 split at hx
 ·rename_i id sz xs
  obtain ⟨hb,hf⟩:=hx
  rw [Rel] at hr
  show Rel _ _ _ (.slice .any sz xs) v
  rw [Rel]
  rcases hr with ⟨hv,hx,_⟩|⟨b,off,cap,C,ty,fr,hv,hle,hh,hs',hi,hm,hc⟩
  ·exact .inl ⟨hv,hx,trivial⟩
  ·refine .inr ⟨b,off,cap,C,ty,fr,hv,hle,hh,hs',?_,trivial,Ft hf hc⟩
   obtain ⟨_,hm⟩:=hm
   obtain ⟨_,_,h3⟩:=hm _ _ hb
   obtain ⟨h4,_,_⟩:=h3 rfl
   have hnew:=yN he hb h4
   intro i o ho' hg'
   unfold iW at hg'
   rcases AHeap.get_push_inv _ _ ho' with ⟨rfl,rfl⟩|⟨hl,ho'⟩
   ·rw [if_pos rfl] at hg'
    cases hg'
    exact absurd (h1.inj id id0 _ _ _ hb ho h4 hg) (hne id sz xs rfl)
   ·rw [if_neg (by omega)] at hg'
    have:=hsl i o b ho' hg'
    omega
 ·rename_i hns
  have e:GX x=x:=by cases x<;>simp [AV.flat1] at hx<;>rfl
  rw [e]
  exact (fO hx v).2 ((fO hx v).1 hr)
def yz (b:Bool) (cs:List AV):AV:=if b then .tup cs else .agg cs
theorem rel_pack {w:World} {γ:br} {H:AHeap} {b:Bool} {cs:List AV} {v:Value}:Rel w γ H (yz b cs) v↔∃ C:Array Value,v=(if b then Value.tuple C else .agg C)∧C.size=cs.length∧∀ j (hj:j<cs.length),∃ u,C[j]?=some u∧Rel w γ H cs[j] u:=by
 cases b
 ·show Rel w γ H (.agg cs) v↔_
  rw [Rel];simp
 ·show Rel w γ H (.tup cs) v↔_
  rw [Rel];simp
theorem ACalls.thaw {P:Program} {f:FuncId} {args cs:List AV} {b:Bool} {H1:AHeap} {j id sz:Nat} {xs:List AV} (hc:ACalls P f args .none (.ret (yz b cs)) H1) (ha:∀ a∈args,a.lt 0)
 (hcs:∀ c∈cs,tOk H1 c) (hj:cs[j]?=some (.slice (.own id) sz xs)) (hd:∀ i sz' ys,i≠j→cs[i]?≠some (.slice (.own id) sz' ys)) (hne:xs≠[]) (H:AHeap) :
 ACalls P f args H (.ret (yz b ((cs.map GX).set j (.ms H.nx 0 sz xs.length)))) (H.push (.part (xs.flatMap AV.cells))):=by
 intro w γ vs hs hr
 have hs0:State w γ .none:=hs.drop (AHeap.none_le H) AHeap.none_closed
 have hr0:RelA w γ .none args vs:=⟨hr.1,fun i hi=>by
  obtain ⟨u,h1,h2⟩:=hr.2 i hi
  exact ⟨u,h1,Rel.drop (AHeap.none_le H) _ _ (ha _ (gMq hi)) h2⟩⟩
 refine UponCall.mono (fun en w' h=>?_) (hc w γ vs hs0 hr0)
 obtain ⟨γ1,h1,he,hend⟩:=h
 cases en with
 |returned v =>
  have hend:Rel w' γ1 H1 (yz b cs) v:=hend
  obtain ⟨C,rfl,hsz,hcells⟩:=rel_pack.1 hend
  obtain ⟨hjl,hje⟩:=List.getElem?_eq_some_iff.1 hj
  obtain ⟨u,hu,hru⟩:=hcells j hjl
  rw [hje] at hru
  have htk:=hcs _ (gMq hjl)
  rw [hje] at htk
  obtain ⟨hb,hf⟩:=htk
  rw [Rel] at hru
  rcases hru with ⟨_,hx,_⟩|⟨blk,off,cap,R,ty,fr,hv,hle,hh,hcap,hi,hm,hrow⟩
  ·exact absurd hx hne
  obtain ⟨_,hm⟩:=hm
  obtain ⟨_,_,h3⟩:=hm _ _ hb
  obtain ⟨h4,rfl,h5⟩:=h3 rfl
  have hnew:=yN he hb h4
  have hlc:∀ x∈xs,x.cells.length=sz:=fun x hx=>by
   obtain ⟨i,hi,rfl⟩:=List.getElem_of_mem hx
   exact (hrow i hi).1
  have hfl:=rb hlc
  have hmul:xs.length*sz≤cap*sz:=Nat.mul_le_mul_right _ hle
  refine ⟨iW γ H.nx blk,Ap hs he hnew hh (by rw [hfl];omega) ?_ (EU hrow) h5,xJ hs he hnew,?_⟩
  ·intro x hx
   obtain ⟨y,hy,hxy⟩:=List.mem_flatMap.1 hx
   exact hf y hy x hxy
  ·show Rel _ _ _ (yz b _) _
   refine rel_pack.2 ⟨C,rfl,by simp [hsz],fun i hi=>?_⟩
   have hil:i<cs.length:=by simpa using hi
   obtain ⟨u',hu',hru'⟩:=hcells i hil
   refine ⟨u',hu',?_⟩
   rw [List.getElem_set]
   split
   ·rename_i hij
    subst hij
    rw [hu] at hu'
    cases hu'
    rw [Rel]
    refine ⟨by rw [AHeap.nx_push];omega,fun sz' n' h=>?_,.inr ⟨blk,cap,R,ty,fr,by unfold iW;rw [if_pos rfl],hv,hle,hh,by omega,fun p p1 p2=>h5 p (by omega) (by omega)⟩⟩
    rw [AHeap.get_push_new] at h
    cases h
   ·rename_i hij
    rw [List.getElem_map]
    refine Cp he h1 hb h4 (fun i o b h=>hs.lt h) (hcs _ (gMq hil)) (fun id' sz' ys e=>?_) hru'
    rintro rfl
    exact hd i sz' ys (fun e=>hij e.symm) (by rw [gQq hil,e])
 |_=>exact hend.elim
end Go.AL
