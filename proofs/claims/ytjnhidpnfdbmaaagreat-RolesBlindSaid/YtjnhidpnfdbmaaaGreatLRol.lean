/- Lemmas of the proof; no condition. -/
import Derived.Test.YtjnhidpnfdbmaaaGreatS11g
import Derived.Test.YtjnhidpnfdbmaaaGreatR21d
import Derived.Test.YtjnhidpnfdbmaaaGreatAlThaw
import Derived.Test.YtjnhidpnfdbmaaaGreatS12j
import Derived.Test.YtjnhidpnfdbmaaaGreatS12g
set_option linter.all false
set_option maxRecDepth 10000
set_option maxHeartbeats 32000000
open List renaming length_cons → yaz, take_zero → yar, nil_append → yak, length_nil → yba, take_of_length_le → ybc, drop_append → ybd, take_append → ybe, drop_eq_nil_of_le → ybf, map_nil → yaf, take_succ_cons → yaq, drop_succ_cons → yao, drop_zero → yap, length_map → ybb, cons_append → yal
open Go Go.AL Go.Proofs
namespace Go.AL
theorem Am:ti Tryz.prog 23=some ⟨.slice 47,1,24,.slice .nil 1 []⟩:=by kernel_rfl
theorem FX:ti Tryz.prog 24=some ⟨.slice 29,1,24,.slice .nil 1 []⟩:=by kernel_rfl
attribute [go_sem] Am FX
theorem tI (l:List SMatch):(l.map aI).flatMap AV.cells=l.flatMap bq:=by
 rw [List.flatMap_map];rfl
theorem jB:∀ (l:List SMatch),(l.flatMap bq).length=l.length*8
 |[]=>rfl
 |m::l=>by
  rw [List.flatMap_cons,lAq,jB l,yaz]
  show 8+_=_
  omega
theorem uh (l:List SMatch) (k:Nat):bA 8 l.length (l.flatMap bq++List.replicate k .junk)=l.map aI:=by
 induction l with
 |nil=>rfl
 |cons m l ih =>
  rw [List.flatMap_cons,List.append_assoc]
  show AV.agg _::bA 8 l.length (List.drop 8 (bq m++(l.flatMap bq++List.replicate k .junk)))=_
  rw [show List.drop 8 (bq m++(l.flatMap bq++List.replicate k .junk))=l.flatMap bq++List.replicate k .junk from rfl,ih]
  rfl
theorem HG {H' H1:AHeap} {id sz n:Nat} {cs L:List AV} (h1:aA H' id=some cs) (h2:bA sz n cs=L) (h3:H1.get id=none):wk1 H' H1 (.ms id 0 sz n) (.slice .any sz L):=by
 simp only [wk1,h1];exact ⟨.inl trivial,trivial,h2.symm,h3⟩
theorem z8 {H:AHeap} {i:Nat} (h:H.nx≤i):H.get i=none:=by unfold AHeap.get;rw [if_neg (by omega)]
theorem BF {m:Nat} {x y:List AV} (h:ltL m x) (k:ltL m y):ltL m (x++y):=by
 induction x with
 |nil=>exact k
 |cons a x ih=>exact ⟨h.1,ih h.2⟩
theorem tg {α:Type} {sz:Nat} {f:α→List AV} (hf:∀ x,(f x).length=sz) (y:α) (J:List AV):∀ (l:List α) (k:Nat),k<l.length→splice (l.flatMap f++J) (k*sz) (f y)=(l.set k y).flatMap f++J
 |[],k,h=>absurd h (by simp)
 |x::l,0,_=>by
  rw [Nat.zero_mul,fh _ _ _ (by simp [hf]),List.set_cons_zero,List.flatMap_cons,List.flatMap_cons,List.append_assoc (f x),yar,yak,nzq,hf y,← hf x,List.drop_left,List.append_assoc]
 |x::l,k+1,h=>by
  have hk:k<l.length:=by simpa using h
  have ih:=tg hf y J l k hk
  have hl:k*sz+sz≤(l.flatMap f).length:=by
   have:(l.flatMap f).length=l.length*sz:=by
    clear ih h hk
    induction l with
    |nil=>simp
    |cons a l ih=>rw [List.flatMap_cons,lAq,hf,ih,yaz,Nat.add_mul];omega
   rw [this,← Nat.succ_mul]
   exact Nat.mul_le_mul_right _ hk
  rw [fh _ _ _ (by rw [lAq,hf];omega),hf y] at ih
  rw [List.flatMap_cons,List.append_assoc,fh _ _ _ (by rw [lAq,lAq,hf,hf,Nat.add_mul];omega),List.set_cons_succ,List.flatMap_cons,hf y]
  have e1:(k+1)*sz=(f x).length+k*sz:=by rw [hf,Nat.add_mul];omega
  have e2:(f x).length+k*sz+sz=(f x).length+(k*sz+sz):=by omega
  rw [e1,List.take_length_add_append,e2,List.drop_length_add_append,List.append_assoc (f x) _ J,← ih]
  simp only [List.append_assoc]
def iB (ks:List Bool) (ms:List SMatch) (k:Nat):List SMatch:=ms.mapIdx fun i m=>if i<k∧n9 ks i=false then cA else m
theorem ui {ks:List Bool} {ms:List SMatch} {k:Nat}:(iB ks ms k).length=ms.length:=by simp [iB]
theorem Dl {ks:List Bool} {ms:List SMatch}:iB ks ms 0=ms:=by
 apply List.ext_getElem
 ·simp [iB]
 ·intro i h1 h2;simp [iB]
theorem ET {ks:List Bool} {ms:List SMatch} {k:Nat} (h:n9 ks k=true):iB ks ms (k+1)=iB ks ms k:=by
 apply List.ext_getElem
 ·simp [iB]
 ·intro i h1 h2
  simp only [iB,List.getElem_mapIdx]
  by_cases e:i=k
  ·subst e;simp [h]
  ·have:(i<k+1)=(i<k):=propext ⟨fun _=>by omega,fun _=>by omega⟩
   simp only [this]
theorem CP {ks:List Bool} {ms:List SMatch} {k:Nat} (h:n9 ks k=false):(iB ks ms k).set k cA=iB ks ms (k+1):=by
 apply List.ext_getElem
 ·simp [iB]
 ·intro i h1 h2
  rw [List.getElem_set]
  simp only [iB,List.getElem_mapIdx]
  by_cases e:k=i
  ·subst e;simp [h]
  ·rw [if_neg e]
   have:(i<k+1)=(i<k):=propext ⟨fun _=>by omega,fun _=>by omega⟩
   simp only [this]
def gd (S:Sch) (role:Int) (e:SEntry):SEntry:=⟨e.table,iB ((grF S role e.table).getD eT).keys e.ms e.ms.length,e.prio,if tn S role e.act=true then e.act else 0,if tn S role e.act=true then e.args else []⟩
theorem iZ {n:Nat} (ms:List SMatch):ltL n (ms.map aI):=ltL_iff.2 fun j hj=>by
 simp only [List.getElem_map]
 exact dO _
theorem kD {n:Nat} (ms:List Nat):ltL n (ms.map vv):=ltL_iff.2 fun j hj=>by
 simp only [List.getElem_map]
 simp [vv,znr,znu,znv,znf]
def kT:List AV→AHeap→(AEnd→AHeap→Prop)→Prop
 |[.slice _ 8 l],H,K=>∃ ms:List SMatch,(l=ms.map aI∧ms.length≤1000000000)∧K (.ret (.slice (.own (H.nx+1)) 8 l)) ((H.push (.buf 8 0)).push (.buf 8 ms.length))
 |_,_,_=>False
theorem A1:EntOk Tryz.prog 98 (Ent.effect kT):=by
 refine EntOk.effect fun args H K h=>?_
 unfold kT at h
 split at h
 rotate_left
 ·exact h.elim
 rename_i m l
 obtain ⟨ms,⟨rfl,hl⟩,hK⟩:=h
 refine ⟨_,_,hK,?_⟩
 clear hK
 refine ACalls.fW au tNq Tryz.func98 [.tmp 2] (by simp only [zle];omega) (T:=aq []) (h:=fun hcl hlt=>?_)
 clear hlt
 have hone:∀ z∈List.map aI ms,bf z.cells=true:=fun z hz=>by
  obtain ⟨x,_,rfl⟩:=List.mem_map.1 hz;rfl
 have hcl2:∀ k,((H.push (.buf 8 0)).push (.buf 8 k)).Closed:=fun k=>ag (ag hcl)
 simp only [go_sem]
 intro b hb
 cases b
 ·simp only [go_sem]
  refine ⟨⟨by omega,by omega,hone⟩,?_⟩
  simp (disch:=first|exact Zd|omega) [↓zmo,beq,ybc,ybd,ybe,ae,wk,wk2,wk1,wkM,wkL,ah,ybf,hcl2]
  first|done|exact ⟨hcl2 _,by rw [aF];exact ⟨fun k e=>(by cases e;omega),iZ ms⟩⟩|exact (by rw [aF];exact ⟨fun k e=>(by cases e;omega),iZ ms⟩)
 ·have:ms=[]:=by
   rcases Classical.em (List.map aI ms=[]) with h|h
   ·simpa using h
   ·exact absurd (hb h) (by decide)
  subst this
  simp only [go_sem,yaf,yba]
  simp (disch:=first|exact Zd|omega) [↓zmo,beq,ybc,ybd,ybe,ae,wk,wk2,wk1,wkM,wkL,ah,ybf,hcl2]
  first|done|exact ⟨hcl2 _,by simp [aF,znv]⟩
def kK:List AV→AHeap→(AEnd→AHeap→Prop)→Prop
 |[.slice _ 2 l],H,K=>∃ ms:List Nat,(l=ms.map vv∧ms.length≤1000000000)∧K (.ret (.slice (.own (H.nx+1)) 2 l)) ((H.push (.buf 2 0)).push (.buf 2 ms.length))
 |_,_,_=>False
theorem A4:EntOk Tryz.prog 99 (Ent.effect kK):=by
 refine EntOk.effect fun args H K h=>?_
 unfold kK at h
 split at h
 rotate_left
 ·exact h.elim
 rename_i m l
 obtain ⟨ms,⟨rfl,hl⟩,hK⟩:=h
 refine ⟨_,_,hK,?_⟩
 clear hK
 refine ACalls.fW au tNq Tryz.func99 [.tmp 2] (by simp only [zle];omega) (T:=aq []) (h:=fun hcl hlt=>?_)
 clear hlt
 have hone:∀ z∈List.map vv ms,bf z.cells=true:=fun z hz=>by
  obtain ⟨x,_,rfl⟩:=List.mem_map.1 hz;rfl
 have hcl2:∀ k,((H.push (.buf 2 0)).push (.buf 2 k)).Closed:=fun k=>ag (ag hcl)
 simp only [go_sem]
 intro b hb
 cases b
 ·simp only [go_sem]
  refine ⟨⟨by omega,by omega,hone⟩,?_⟩
  simp (disch:=first|exact Zd|omega) [↓zmo,beq,ybc,ybd,ybe,ae,wk,wk2,wk1,wkM,wkL,ah,ybf,hcl2]
  first|done|exact ⟨hcl2 _,by rw [aF];exact ⟨fun k e=>(by cases e;omega),kD ms⟩⟩|exact (by rw [aF];exact ⟨fun k e=>(by cases e;omega),kD ms⟩)
 ·have:ms=[]:=by
   rcases Classical.em (List.map vv ms=[]) with h|h
   ·simpa using h
   ·exact absurd (hb h) (by decide)
  subst this
  simp only [go_sem,yaf,yba]
  simp (disch:=first|exact Zd|omega) [↓zmo,beq,ybc,ybd,ybe,ae,wk,wk2,wk1,wkM,wkL,ah,ybf,hcl2]
  first|done|exact ⟨hcl2 _,by simp [aF,znv]⟩
def ClN (n:Nat) (H:AHeap):Prop:=∀ i cs,H.get i=some (.cells cs)→∀ (j:Nat) (hj:j<cs.length),(cs[j]).lt n
theorem ClN.of {n:Nat} {H:AHeap} (h:H.Closed) (hn:H.nx≤n):ClN n H:=fun i cs hi j hj=>AV.lt_mono hn _ (h i cs hi j hj)
theorem ClN.cells {n:Nat} {H:AHeap} {cs:List AV} (h:ClN n H) (hc:ltL n cs):ClN n (H.push (.cells cs)):=fun i cs' hi j hj=>by
 rcases AHeap.get_push_inv _ _ hi with ⟨_,e⟩|⟨_,hi⟩
 ·cases e;exact ltL_iff.1 hc j hj
 ·exact h i cs' hi j hj
theorem ClN.buf {n:Nat} {H:AHeap} {sz k:Nat} (h:ClN n H):ClN n (H.push (.buf sz k)):=fun i cs' hi j hj=>by
 rcases AHeap.get_push_inv _ _ hi with ⟨_,e⟩|⟨_,hi⟩
 ·cases e
 ·exact h i cs' hi j hj
def zt:List AV→AHeap→(AEnd→AHeap→Prop)→Prop
 |[.agg l],H,K=>∃ e:SEntry,(l=aK e∧e.ms.length≤1000000000∧e.args.length≤1000000000) ∧
   K (.ret (.agg [.int .i64 e.table,.slice (.own (H.nx+1+1+1)) 8 (e.ms.map aI),.int .i64 e.prio,.int .i64 e.act,.slice (.own (H.nx+1+1+1+1+1)) 2 (e.args.map vv)]))
    ((((((H.push (.cells [.int .i64 e.table,.slice (.own (H.nx+1+1+1)) 8 (e.ms.map aI),.int .i64 e.prio,.int .i64 e.act,.slice (.own (H.nx+1+1+1+1+1)) 2 (e.args.map vv)])).push (.cells [.int .i64 e.table,.slice (.own (H.nx+1+1+1)) 8 (e.ms.map aI),.int .i64 e.prio,.int .i64 e.act,.slice (.own (H.nx+1+1+1+1+1)) 2 (e.args.map vv)])).push (.buf 8 0)).push (.buf 8 e.ms.length)).push (.buf 2 0)).push (.buf 2 e.args.length))
 |_,_,_=>False
theorem BD {i n:Nat} {ms:List SMatch} (h:i<n):AV.lt n (.slice (.own i) 8 (ms.map aI)):=by
 rw [aF];exact ⟨fun k e=>(by cases e;exact h),iZ ms⟩
theorem Cr {i n:Nat} {ms:List Nat} (h:i<n):AV.lt n (.slice (.own i) 2 (ms.map vv)):=by
 rw [aF];exact ⟨fun k e=>(by cases e;exact h),kD ms⟩
theorem ok_oEntry:EntOk Tryz.prog 57 (Ent.effect zt):=by
 refine EntOk.effect fun args H K h=>?_
 unfold zt at h
 split at h
 rotate_left
 ·exact h.elim
 rename_i l
 obtain ⟨e,⟨rfl,hl1,hl2⟩,hK⟩:=h
 refine ⟨_,_,hK,?_⟩
 clear hK
 unfold aK
 refine ACalls.fW au (tCq A1 (tCq A4 tNq)) Tryz.func57 [.cell 2 26] (by simp only [zle];omega) (T:=aq [(1,[[],[],[1],[],[],[1,2,4],[],[1,2,4,5],[],[1,2,4,5]])]) (h:=fun hcl hlt=>?_)
 clear hlt
 simp only [go_sem,kT,kK]
 refine ⟨e.ms,⟨rfl,hl1⟩,?_⟩
 try simp only [aZ,aH,bhq,Nat.reduceMod,Nat.reduceDiv,aC,aB,aE,aS,aD,aR,aO,aP,aQ,yaq,yar,yao,yap,go_sem,kT,kK]
 refine ⟨e.args,⟨rfl,hl2⟩,?_⟩
 try simp only [aZ,aH,bhq,Nat.reduceMod,Nat.reduceDiv,aC,aB,aE,aS,aD,aR,aO,aP,aQ,yaq,yar,yao,yap,go_sem,kT,kK]
 try simp (disch:=first|exact Zd|omega) [↓zmo,beq,ybc,ybd,ybe,ae,wk,wk2,wk1,wkM,wkL,ah,ybf,hcl]
 refine ⟨ClN.buf (ClN.buf (ClN.buf (ClN.buf (ClN.cells (ClN.cells (ClN.of hcl (by simp only [zle];omega)) ?_) ?_)))),BD (by omega),Cr (by omega)⟩ <;>
  simp only [znu,znv,znf,zle,BD (show H.nx+1+1+1<H.nx+1+1+1+1+1+1 by omega),Cr (show H.nx+1+1+1+1+1<H.nx+1+1+1+1+1+1 by omega),and_self]
theorem Hm {e:SEntry} (h1:e.ms.length≤1000000000) (h2:e.args.length≤1000000000) (hne:e.ms≠[]) (H:AHeap) :
 ACalls Tryz.prog 57 [.agg (aK e)] H (.ret (.agg [.int .i64 e.table,.ms H.nx 0 8 e.ms.length,.int .i64 e.prio,.int .i64 e.act,.slice .any 2 (e.args.map vv)])) (H.push (.part ((e.ms.map aI).flatMap AV.cells))):=by
 obtain ⟨x,H1,hx,hc⟩:=ok_oEntry.2.1 rfl [.agg (aK e)] .none (fun x H1=>x=_∧H1=_) ⟨e,⟨rfl,h1,h2⟩,rfl,rfl⟩
 obtain ⟨rfl,rfl⟩:=hx
 have:=ACalls.thaw (b:=false) (j:=1) hc (fun a ha=>by
  rw [List.mem_singleton.1 ha]
  exact li e) (fun c hc=>?_) rfl (fun i sz' ys hi=>?_) (by simpa using hne) H
 ·simpa [vM,Jd] using this
 ·simp only [List.mem_cons,List.not_mem_nil,or_false] at hc
  rcases hc with rfl|rfl|rfl|rfl|rfl
  ·rfl
  ·refine ⟨by simp only [ybb];exact hgt,fun x hx y hy=>?_⟩
   obtain ⟨m,_,rfl⟩:=List.mem_map.1 hx
   have hy':y∈bq m:=hy
   simp only [bq,vc,yal,yak,List.mem_cons,List.not_mem_nil,or_false] at hy'
   rcases hy' with rfl|rfl|rfl|rfl|rfl|rfl|rfl|rfl<;>rfl
  ·rfl
  ·rfl
  ·refine ⟨by simp only [ybb];exact hgt,fun x hx y hy=>?_⟩
   obtain ⟨m,_,rfl⟩:=List.mem_map.1 hx
   have hy':y∈[AV.int .u64 ((m/2^64:Nat):Int),AV.int .u64 ((m % 2^64:Nat):Int)]:=hy
   simp only [List.mem_cons,List.not_mem_nil,or_false] at hy'
   rcases hy' with rfl|rfl<;>rfl
 ·match i,hi with
  |0,_=>simp
  |1,h=>exact absurd rfl h
  |2,_=>simp
  |3,_=>simp
  |4,_=>simp [AHeap.none]
  |i+5,_=>simp
def zW:List AV→AHeap→(AEnd→AHeap→Prop)→Prop
 |[.agg l],H,K=>∃ e:SEntry,(l=aK e∧e.ms.length≤1000000000∧e.args.length≤1000000000∧e.ms≠[]) ∧
   K (.ret (.agg [.int .i64 e.table,.ms H.nx 0 8 e.ms.length,.int .i64 e.prio,.int .i64 e.act,.slice .any 2 (e.args.map vv)])) (H.push (.part ((e.ms.map aI).flatMap AV.cells)))
 |_,_,_=>False
theorem In:EntOk Tryz.prog 57 (Ent.effect zW):=by
 refine EntOk.effect fun args H K h=>?_
 unfold zW at h
 split at h
 rotate_left
 ·exact h.elim
 rename_i l
 obtain ⟨e,⟨rfl,h1,h2,h3⟩,hK⟩:=h
 exact ⟨_,_,hK,Hm h1 h2 h3 H⟩
def fP:List AV→AHeap→(AV→Prop)→Prop
 |[.agg l,.int .i64 role,.agg le],_,K=>∃ (S:Sch) (e:SEntry),(l=aW S∧le=aK e∧SRol S∧e.ms.length≤1000000∧e.args.length≤1000000∧e.ms≠[])∧K (dZ (gd S role e))
 |_,_,_=>False
theorem tE (m:SMatch):(bq m).length=8:=rfl
theorem Eh:bq cA=[.bool false,.int .u64 0,.int .u64 0,.int .u64 0,.int .u64 0,.int .i64 0,.int .u64 0,.int .u64 0]:=by
 simp [bq,cA,vc]
theorem uk:EntOk Tryz.prog 18 (Ent.pure fP):=by
 refine Ype fun _ H K h=>?_
 unfold fP at h
 split at h
 rotate_left
 ·exact h.elim
 rename_i l role le
 obtain ⟨S,e,⟨rfl,rfl,hS,hml,hal,hne⟩,hK⟩:=h
 refine ⟨_,hK,?_⟩
 clear hK
 obtain ⟨R,hR⟩:∃ R,gd S role e=R:=⟨_,rfl⟩
 rw [hR]
 unfold gd at hR
 unfold dZ
 refine ACalls.fW au (tCq jW (tCq In (tCq rF (tCq yC tNq)))) Tryz.func18 [.cell 6 26] (nrq _) (T:=aq [(3,[[1]])]) (h:=fun hcl hlt=>?_)
 clear hlt
 simp only [go_sem,bhq,Nat.reduceMod,Nat.reduceDiv,aC,aB,aE,aS,aD,aR,aO,aP,aQ,yaq,yar,yao,yap,aW,aK,iC]
 try (repeat with_reducible refine Yq ?_)
 refine ⟨S,⟨rfl,hS⟩,?_⟩
 generalize (grF S role e.table).getD eT=g at *
 generalize (grF S role e.table).isSome=is at *
 simp only [aZ,aH,bhq,Nat.reduceMod,Nat.reduceDiv,aC,aB,aE,aS,aD,aR,aO,aP,aQ,yaq,yar,yao,yap,go_sem,aW,aK,bb,zW]
 try (repeat with_reducible refine Yq ?_)
 refine ⟨e,⟨rfl,by omega,by omega,hne⟩,?_⟩
 refine Dt (H.nx+1+1+1+1) (cs:=(e.ms.map aI).flatMap AV.cells) (by simp [zlh,bv,zle,zlf]) fun kr=>?_
 obtain ⟨J,hJ⟩:∃ J,J=List.replicate kr AV.junk:=⟨_,rfl⟩
 have hJl:∀ n,ltL n J:=fun n=>by
  rw [hJ]
  exact ltL_iff.2 fun j hj=>by rw [List.getElem_replicate,AV.lt]<;>simp
 have hrow:∀ l:List SMatch,l.length=e.ms.length→bA 8 e.ms.length (l.flatMap bq++J)=l.map aI:=fun l hl=>by
  rw [← hl,hJ];exact uh l kr
 rw [tI,← hJ]
 obtain ⟨HL,hHL⟩:∃ HL:List SMatch→AHeap,HL=fun l=>(((((H.push (.cells (aW S))).push (.cells (aK e))).push (.cells [.int .i64 0,.slice .nil 1 [],.int .i64 0,.int .i64 0,.slice .nil 1 []])).push (.cells [.int .i64 g.table,.bool g.read,.bool g.write,.slice .any 1 (boL g.keys)])).push (.cells (l.flatMap bq++J))).push (.cells [.int .i64 e.table,.ms (H.nx+1+1+1+1) 0 8 e.ms.length,.int .i64 e.prio,.int .i64 e.act,.slice .any 2 (e.args.map vv)]):=⟨_,rfl⟩
 have hclL:∀ l,(HL l).Closed:=fun l=>by
  rw [hHL]
  refine aa (aa (aa (aa (aa (aa hcl (wH S)) (zM e)) ?_) (HT g)) ?_) ?_
  ·simp [znu,znv,znf,aF]
  ·exact BF (kH (f:=aI) dO) (hJl _)
  ·simp [znu,znv,znf,znp,xn,zle]
 have h0:=hHL
 simp only [aZ,aH,bhq,Nat.reduceMod,Nat.reduceDiv,aC,aB,aE,aS,aD,aR,aO,aP,aQ,yaq,yar,yao,yap,go_sem]
 refine az (A:=Nat) (fun k=>[(1,.int .i64 role),(3,.ptr H.nx 0),(5,.ptr (H.nx+1) 0),(6,.ptr (H.nx+1+1) 0),(7,.ptr (H.nx+1+1+1) 0),(9,.ptr (H.nx+1+1+1+1+1) 0),(23,.int .i64 (e.ms.length:Int)),(24,.int .i64 (k:Int))]) (fun k=>HL (iB g.keys e.ms k))
  (fun k=>k≤e.ms.length) (fun k=>e.ms.length - k) 0 (Nat.zero_le _) ?_ fun k hk=>?_
 ·refine ⟨by rw [hHL];simp only [zkq,zkv,zle];omega,?_,hclL _,?_,?_⟩
  ·rw [Dl,hHL];exact lRq _
  ·rw [hHL]
   simp [ltF,zle,znn,znf]
   try omega
  ·simp [aJ,wk2,wk1,wkM,Fr.get]
 have e5:=Yk5 k
 have hlen:((iB g.keys e.ms k).flatMap bq++J).length=e.ms.length*8+J.length:=by rw [lAq,jB,ui]
 rw [hHL]
 simp only [go_sem,aW,aK]
 refine ai (fun hc=>?_) (fun hc=>?_)
 ·have hk':k<e.ms.length:=by simp at hc;omega
  have hclN:=hclL (iB g.keys e.ms (k+1))
  rw [hHL] at hclN
  simp only [aZ,aH,bhq,Nat.reduceMod,Nat.reduceDiv,aC,aB,aE,aS,aD,aR,aO,aP,aQ,yaq,yar,yao,yap,go_sem,lm]
  try (repeat with_reducible refine Yq ?_)
  refine ⟨g,k,⟨rfl,rfl⟩,?_⟩
  cases hv:n9 g.keys k
  ·have hsp:=tg (f:=bq) tE cA J (iB g.keys e.ms k) k (by rw [ui];exact hk')
   rw [CP hv,Eh] at hsp
   have hln:k*8+8≤((iB g.keys e.ms k).flatMap bq++J).length:=by rw [hlen];omega
   simp only [aZ,aH,bhq,Nat.reduceMod,Nat.reduceDiv,aC,aB,aE,aS,aD,aR,aO,aP,aQ,yaq,yar,yao,yap,go_sem,Bool.not_false,iNq,nzq,hsp,e5,hln]
   try (repeat with_reducible refine Yq ?_)
   refine ⟨k+1,by omega,by omega,?_⟩
   refine ⟨by (try simp only [zkq,zkv,zle]);omega,?_,hclN,?_,?_⟩
   ·repeat first|exact .refl _|refine .push ?_ _
   ·simp [ltF,zle,znn,znf]
    try omega
   ·simp [aJ,wk2,wk1,wkM,Fr.get]
  ·simp only [aZ,aH,bhq,Nat.reduceMod,Nat.reduceDiv,aC,aB,aE,aS,aD,aR,aO,aP,aQ,yaq,yar,yao,yap,go_sem,Bool.not_true,e5]
   try (repeat with_reducible refine Yq ?_)
   refine ⟨k+1,by omega,by omega,?_⟩
   refine ⟨by (try simp only [zkq,zkv,zle]);omega,?_,hclN,?_,?_⟩
   ·rw [ET hv];repeat first|exact .refl _|refine .push ?_ _
   ·simp [ltF,zle,znn,znf]
    try omega
   ·simp [aJ,wk2,wk1,wkM,Fr.get]
 have hk':k=e.ms.length:=by simp at hc;omega
 subst hk'
 have hrw:=hrow (iB g.keys e.ms e.ms.length) ui
 simp only [aZ,aH,bhq,Nat.reduceMod,Nat.reduceDiv,aC,aB,aE,aS,aD,aR,aO,aP,aQ,yaq,yar,yao,yap,go_sem,ss]
 try (repeat with_reducible refine Yq ?_)
 refine ⟨S,⟨rfl,hS⟩,?_⟩
 cases hb:tn S role e.act
 ·rw [hb,if_neg (by decide),if_neg (by decide)] at hR
  subst hR
  simp only [aZ,aH,bhq,Nat.reduceMod,Nat.reduceDiv,aC,aB,aE,aS,aD,aR,aO,aP,aQ,yaq,yar,yao,yap,go_sem,Bool.not_false,yaf]
  try (repeat with_reducible refine Yq ?_)
  refine ⟨⟨rfl,HG ?_ hrw (z8 (by omega)),rfl,rfl,by simp [wk1,wkM],trivial⟩,by repeat first|exact .refl _|refine .push ?_ _,hcl,by simp [znr,znu,znv,znf,aF,iZ,kD]⟩
  simp only [go_sem]
 ·rw [hb,if_pos rfl,if_pos rfl] at hR
  subst hR
  simp only [aZ,aH,bhq,Nat.reduceMod,Nat.reduceDiv,aC,aB,aE,aS,aD,aR,aO,aP,aQ,yaq,yar,yao,yap,go_sem,Bool.not_true]
  try (repeat with_reducible refine Yq ?_)
  refine ⟨⟨rfl,HG ?_ hrw (z8 (by omega)),rfl,rfl,by simp [wk1,wkM],trivial⟩,by repeat first|exact .refl _|refine .push ?_ _,hcl,by simp [znr,znu,znv,znf,aF,iZ,kD]⟩
  simp only [go_sem]
theorem I6 {S:Sch} {n:Int} (h:1≤cO S n):Lf S n:=by
 unfold Lf
 rcases wj (q:=fun f:SField=>f.id==n) (l:=S.fields) with ⟨b1,b2⟩|⟨i,x,b1,_⟩
 ·unfold cO at h
  rw [um,b2] at h
  exact absurd h (by decide)
 ·rw [b1];exact Int.natCast_nonneg _
theorem DB {b:List UInt8} {n:Int} (h:n∈([1,2,3,4,5,6]:List Int)):∃ a,G3 (bw b 0).1 n=some a:=by
 have e:(bw b 0).1.actions=cB b (bh b (cp 0 2)).2:=rfl
 unfold G3
 rw [e]
 simp only [List.mem_cons,List.not_mem_nil,or_false] at h
 rcases h with rfl|rfl|rfl|rfl|rfl|rfl<;>exact ⟨_,rfl⟩
theorem sall_gen {b:List UInt8}:SAll (bw b 0).1:=by
 have hG:=Bz b 0
 have hA:=GO (b:=b)
 refine ⟨⟨hA.sl,fun t ht=>by have:=hG.kl t ht;omega,fun t ht k hk=>?_⟩,⟨hA.sl,fun a ha=>by have:=(hA.ak a ha).1;omega,fun t ht=>⟨by have:=(hG.a1 t ht).2;omega,fun n hn=>?_⟩⟩,hA⟩
 ·have:=hG.kb t ht k hk
  exact ⟨I6 this.1,by omega⟩
 ·refine DB ?_
  have h:t∈bD b (cp (bh b (cp 0 2)).2 4):=ht
  simp only [bD,List.mem_cons,List.not_mem_nil,or_false] at h
  rcases h with rfl|rfl|rfl|rfl
  ·have:n∈([1,2,4]:List Int):=hn
   exact Z31
  ·have:n∈([1,2,3,4]:List Int):=hn
   exact Z31
  ·have:n∈([1,2,3,5,6]:List Int):=hn
   exact Z31
  ·have:n∈([1,3,5]:List Int):=hn
   exact Z31
theorem Cm {S:Sch} (hG:GenS S) {m:Int} {e:SEntry} (h:GE S (dT S m) e):EAll e:=by
 have hkl:=hG.kl _ (kh (S:=S) (n:=m) hG.t1)
 have ho:=h.ok hkl hG.pl
 have ha:=Io hG h
 exact ⟨ho,⟨ha.ar,ho.al⟩,ha⟩
def Kh (S:Sch) (i:Nat) (gs:List SGrant):Sch:={ S with roles:=S.roles.modify i fun r=>{ r with grants:=gs } }
def bgS:Sch:=Kh (bw [] 0).1 2 [⟨1,true,false,[true]⟩]
def bgE:SEntry:=⟨1,[⟨true,0,0,0,0⟩],0,2,[]⟩
theorem Lp:x7 bgS 7 1=true:=by decide +kernel
theorem Ll:x7 bgS 7 2=false:=by decide +kernel
theorem K3:(gd bgS 7 bgE).act=0:=by decide +kernel
theorem LK:(gd bgS 7 bgE).ms.length=1∧((gd bgS 7 bgE).ms.map SMatch.present)=[true]:=by decide +kernel
theorem Lh:xY bgS 7 1 bgE=21:=by decide +kernel
theorem KJ:xY bgS 1 1 bgE=0:=by decide +kernel
def GrTs (ts:List STable) (g:SGrant):Prop:=∃ t∈ts,g.table=t.id∧g.keys.length=t.keys.length
theorem GrTs.cons {ts:List STable} {t:STable} {g:SGrant} (h:GrTs ts g):GrTs (t::ts) g:=by
 obtain ⟨x,h1,h2⟩:=h
 exact ⟨x,List.mem_cons_of_mem _ h1,h2⟩
theorem oJ {b:List UInt8}:∀ (ts:List STable) (v:Nat),(∀ g∈(co b ts v).1.1,GrTs ts g)∧(∀ g∈(co b ts v).1.2.1,GrTs ts g)∧(∀ g∈(co b ts v).1.2.2,GrTs ts g) ∧
 (co b ts v).1.1.length≤ts.length∧(co b ts v).1.2.1.length≤ts.length∧(co b ts v).1.2.2.length≤ts.length
 |[],v=>by simp [co]
 |t::ts,v=>by
  have key:∀ w,_:=fun w=>oJ (b:=b) ts w
  have hp:(iW b v t.keys.length).length=t.keys.length:=by simp [iW]
  unfold co
  dsimp only
  generalize hX:(if 0<cv b (v+t.keys.length) 4 then ([(⟨t.id,decide (0<ci b (v+t.keys.length+1) 4),decide (cv b (v+t.keys.length+2) 2=1),iW b v t.keys.length⟩:SGrant)],v+t.keys.length+3) else ([],v+t.keys.length+1))=X
  obtain ⟨X1,w1⟩:=X
  dsimp only
  generalize hY:(if cv b w1 2=1 then ([(⟨t.id,decide (cv b (w1+1) 2=1),decide (cv b (w1+2) 2=1),List.replicate t.keys.length true⟩:SGrant)],w1+3) else ([],w1+1))=Y
  obtain ⟨Y1,w2⟩:=Y
  dsimp only
  obtain ⟨k1,k2,k3,k4,k5,k6⟩:=key w2
  have hX1:(∀ g∈X1,GrTs (t::ts) g)∧X1.length≤1:=by
   split at hX<;>cases hX
   ·refine ⟨fun g hg=>?_,by simp⟩
    rw [List.mem_singleton.1 hg]
    exact ⟨t,List.mem_cons_self,rfl,hp⟩
   ·simp
  have hY1:(∀ g∈Y1,GrTs (t::ts) g)∧Y1.length≤1:=by
   split at hY<;>cases hY
   ·refine ⟨fun g hg=>?_,by simp⟩
    rw [List.mem_singleton.1 hg]
    exact ⟨t,List.mem_cons_self,rfl,by simp⟩
   ·simp
  refine ⟨fun g hg=>?_,fun g hg=>?_,fun g hg=>?_,by simpa using k4,by rw [lAq,yaz];omega,by rw [lAq,yaz];omega⟩
  ·rcases List.mem_cons.1 hg with rfl|hg
   ·exact ⟨t,List.mem_cons_self,rfl,by simp⟩
   ·exact (k1 g hg).cons
  ·rcases List.mem_append.1 hg with hg|hg
   ·exact hX1.1 g hg
   ·exact (k2 g hg).cons
  ·rcases List.mem_append.1 hg with hg|hg
   ·exact hY1.1 g hg
   ·exact (k3 g hg).cons
structure RolOk (S:Sch):Prop where
 l3:S.roles.length≤3
 gl:∀ r∈S.roles,r.grants.length≤4∧r.actions.length≤6
 gt:∀ r∈S.roles,∀ g∈r.grants,GrTs S.tables g
 tu:∀ t∈S.tables,jT S t.id=some t
 tk:∀ t∈S.tables,1≤t.keys.length∧t.keys.length≤3
theorem vG {b:List UInt8} {v:Nat}:RolOk (bw b v).1 where
 l3:=by simp [bw,eZ]
 gl:=fun r hr=>by
  have h:r∈(eZ b (cp (bh b (cp v 2)).2 16) (bD b (cp (bh b (cp v 2)).2 4))).1:=hr
  obtain ⟨_,_,_,k4,k5,k6⟩:=oJ (b:=b) (bD b (cp (bh b (cp v 2)).2 4)) (cp (bh b (cp v 2)).2 16+4)
  have h4:(bD b (cp (bh b (cp v 2)).2 4)).length=4:=rfl
  rw [h4] at k4 k5 k6
  simp only [eZ,List.mem_cons,List.not_mem_nil,or_false] at h
  rcases h with rfl|rfl|rfl
  ·exact ⟨k4,by simp⟩
  ·exact ⟨k5,by simp⟩
  ·exact ⟨k6,by simp⟩
 gt:=fun r hr=>by
  have h:r∈(eZ b (cp (bh b (cp v 2)).2 16) (bD b (cp (bh b (cp v 2)).2 4))).1:=hr
  obtain ⟨k1,k2,k3,_⟩:=oJ (b:=b) (bD b (cp (bh b (cp v 2)).2 4)) (cp (bh b (cp v 2)).2 16+4)
  simp only [eZ,List.mem_cons,List.not_mem_nil,or_false] at h
  rcases h with rfl|rfl|rfl
  ·exact k1
  ·exact k2
  ·exact k3
 tu:=fun t ht=>by
  have h:t∈bD b (cp (bh b (cp v 2)).2 4):=ht
  simp only [bD,List.mem_cons,List.not_mem_nil,or_false] at h
  rcases h with rfl|rfl|rfl|rfl<;>rfl
 tk:=fun t ht=>by
  have h:t∈bD b (cp (bh b (cp v 2)).2 4):=ht
  refine ⟨?_,(gV t h).1⟩
  simp only [bD,List.mem_cons,List.not_mem_nil,or_false] at h
  rcases h with rfl|rfl|rfl|rfl<;>simp [ib,jp,dn,dt]
theorem RolOk.gk {S:Sch} (h:RolOk S) {role t:Int} {g:SGrant} {tb:STable} (hg:grF S role t=some g) (ht:jT S t=some tb):g.keys.length=tb.keys.length:=by
 obtain ⟨r,_,h1,h2,h3⟩:=Fl hg
 obtain ⟨x,hx,e1,e2⟩:=h.gt r h1 g h2
 have:=h.tu x hx
 rw [← e1,h3,ht] at this
 cases this
 exact e2
theorem RolOk.rl {S:Sch} (h:RolOk S) (hl:SLen S):SRol S where
 sl:=hl
 gl:=fun r hr=>by
  have h1:=h.gl r hr
  refine ⟨by omega,by omega,fun g hg=>?_⟩
  obtain ⟨x,hx,_,e2⟩:=h.gt r hr g hg
  have:=(h.tk x hx).2
  omega
theorem AD {S:Sch} (h:SAll S) {rs:List SRole} (hl:rs.length≤1000000):SAll { S with roles:=rs }:=by
 have h0:SLen { S with roles:=rs }:=⟨h.ck.sl.fl,h.ck.sl.hl,h.ck.sl.sl,h.ck.sl.al,h.ck.sl.tl,hl⟩
 exact ⟨⟨h0,h.ck.kl,h.ck.kf⟩,⟨h0,h.ac.pl,h.ac.tl⟩,⟨h0,h.ad.tk,h.ad.ak⟩⟩
theorem E7 {S:Sch} {role:Int} {e:SEntry} (h:COk e):COk (gd S role e):=by
 refine ⟨⟨by have:=h.ok.ml;simpa [gd,iB] using this,?_,fun m hm=>?_⟩,fun x hx=>?_⟩
 ·have:=h.ok.al
  simp only [gd]
  split
  ·exact this
  ·simp
 ·simp only [gd,iB,List.mem_mapIdx] at hm
  obtain ⟨i,hi,rfl⟩:=hm
  split
  ·exact ⟨by decide,by decide,by decide⟩
  ·exact h.ok.mo _ (gMq hi)
 ·simp only [gd] at hx
  split at hx
  ·exact h.ar x hx
  ·cases hx
end Go.AL
