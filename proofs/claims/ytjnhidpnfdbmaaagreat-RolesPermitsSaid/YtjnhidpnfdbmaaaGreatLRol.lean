/- Lemmas of the proof; no condition. -/
import Derived.Test.YtjnhidpnfdbmaaaGreatS11g
import Derived.Test.YtjnhidpnfdbmaaaGreatR21d
import Derived.Test.YtjnhidpnfdbmaaaGreatAlThaw
import Derived.Test.YtjnhidpnfdbmaaaGreatS12j
import Derived.Test.YtjnhidpnfdbmaaaGreatS12g
set_option linter.all false
set_option maxRecDepth 10000
set_option maxHeartbeats 32000000
open Go Go.AL Go.Proofs
namespace Go.AL
theorem EI:tSl Tryz.prog 23 47:=kSl
theorem J0:tSl Tryz.prog 24 29:=kSl
attribute [go_sem] EI J0
theorem rP(l:List SMatch):(l.map aP).flatMap AV.cells=l.flatMap bQ:=by
 rw[List.flatMap_map];rfl
theorem mg:∀(l:List SMatch),(l.flatMap bQ).length=l.length*8
 |[]=>rfl
 |m::l=>by
  rw[List.flatMap_cons,lAq,mg l,yaz]
  show 8+_=_
  omega
theorem xY(l:List SMatch)(k:Nat):cg 8 l.length (l.flatMap bQ++List.replicate k .junk)=l.map aP:=by
 induction l with
 |nil=>rfl
 |cons m l ih =>
  rw[List.flatMap_cons,List.append_assoc]
  show AV.agg _::cg 8 l.length (List.drop 8 (bQ m++(l.flatMap bQ++List.replicate k .junk)))=_
  rw[show List.drop 8 (bQ m++(l.flatMap bQ++List.replicate k .junk))=l.flatMap bQ++List.replicate k .junk from rfl,ih]
  rfl
theorem M4{H' H1:AHeap}{id sz n:Nat}{cs L:List AV}(h1:aK H' id=some cs)(h2:cg sz n cs=L)(h3:H1.get id=none):wk1 H' H1 (.ms id 0 sz n) (.slice .any sz L):=by
 simp only[wk1,h1];exact⟨.inl trivial,trivial,h2.symm,h3⟩
theorem Fh{H:AHeap}{i:Nat}(h:H.nx≤i):H.get i=none:=by unfold AHeap.get;rw[if_neg (by omega)]
theorem Gt{m:Nat}{x y:List AV}(h:ltL m x)(k:ltL m y):ltL m (x++y):=by
 induction x with
 |nil=>exact k
 |cons a x ih=>exact⟨h.1,ih h.2⟩
theorem Dp{α:Type}{sz:Nat}{f:α→List AV}(hf:∀ x,(f x).length=sz)(y:α)(J:List AV):∀(l:List α)(k:Nat),k<l.length→splice (l.flatMap f++J) (k*sz) (f y)=(l.set k y).flatMap f++J
 |[],k,h=>absurd h Xb
 |x::l,0,_=>by
  rw[Nat.zero_mul,hZ _ _ _ (by simp[hf]),List.set_cons_zero,List.flatMap_cons,List.flatMap_cons,List.append_assoc (f x),yar,yak,nzq,hf y,← hf x,List.drop_left,List.append_assoc]
 |x::l,k+1,h=>by
  have hk:k<l.length:=by simpa using h
  have ih:=Dp hf y J l k hk
  have hl:k*sz+sz≤(l.flatMap f).length:=by
   have:(l.flatMap f).length=l.length*sz:=by
    clear ih h hk
    induction l with
    |nil=>simp
    |cons a l ih=>rw[List.flatMap_cons,lAq,hf,ih,yaz,Nat.add_mul];omega
   rw[this,← Nat.succ_mul]
   exact Nat.mul_le_mul_right _ hk
  rw[hZ _ _ _ (by rw[lAq,hf];omega),hf y]at ih
  rw[List.flatMap_cons,List.append_assoc,hZ _ _ _ (by rw[lAq,lAq,hf,hf,Nat.add_mul];omega),List.set_cons_succ,List.flatMap_cons,hf y]
  have e1:(k+1)*sz=(f x).length+k*sz:=by rw[hf,Nat.add_mul];omega
  have e2:(f x).length+k*sz+sz=(f x).length+(k*sz+sz):=Xa
  rw[e1,List.take_length_add_append,e2,List.drop_length_add_append,List.append_assoc (f x) _ J,← ih]
  simp only[List.append_assoc]
def nv(ks:List Bool)(ms:List SMatch)(k:Nat):List SMatch:=ms.mapIdx fun i m=>if i<k∧xO ks i=false then cC else m
theorem yP{ks:List Bool}{ms:List SMatch}{k:Nat}:(nv ks ms k).length=ms.length:=by simp[nv]
theorem JS{ks:List Bool}{ms:List SMatch}:nv ks ms 0=ms:=by
 apply List.ext_getElem
 ·simp[nv]
 ·intro i h1 h2;simp[nv]
theorem KN{ks:List Bool}{ms:List SMatch}{k:Nat}(h:xO ks k=true):nv ks ms (k+1)=nv ks ms k:=by
 apply List.ext_getElem
 ·simp[nv]
 ·intro i h1 h2
  simp only[nv,List.getElem_mapIdx]
  by_cases e:i=k
  ·subst e;simp[h]
  ·have:(i<k+1)=(i<k):=propext ⟨fun _=>Xa,fun _=>Xa⟩
   simp only[this]
theorem HD{ks:List Bool}{ms:List SMatch}{k:Nat}(h:xO ks k=false):(nv ks ms k).set k cC=nv ks ms (k+1):=by
 apply List.ext_getElem
 ·simp[nv]
 ·intro i h1 h2
  rw[List.getElem_set]
  simp only[nv,List.getElem_mapIdx]
  by_cases e:k=i
  ·subst e;simp[h]
  ·rw[if_neg e]
   have:(i<k+1)=(i<k):=propext ⟨fun _=>Xa,fun _=>Xa⟩
   simp only[this]
def x8(S:Sch)(role:Int)(e:SEntry):SEntry:=⟨e.table,nv ((grF S role e.table).getD ip).keys e.ms e.ms.length,e.prio,if sJ S role e.act=true then e.act else 0,if sJ S role e.act=true then e.args else []⟩
theorem lj{n:Nat}(ms:List SMatch):ltL n (ms.map aP):=ltL_iff.2 fun j hj=>by
 simp only[List.getElem_map]
 exact cN _
theorem gU{n:Nat}(ms:List Nat):ltL n (ms.map vv):=ltL_iff.2 fun j hj=>by
 simp only[List.getElem_map]
 simp[vv,znr,znu,znv,znf]
def nS:ECt
 |[.slice _ 8 l],H,K=>∃ ms:List SMatch,(l=ms.map aP∧ms.length≤1000000000)∧K (.ret (.slice (.own (H.nx+1)) 8 l)) ((H.push (.buf 8 0)).push (.buf 8 ms.length))
 |_,_,_=>False
theorem Eh:EEe 98 nS:=by
 refine Yef fun _ H K h=>?_
 unfold nS at h
 split at h<;>try exact h.elim
 rename_i m l
 obtain⟨ms,⟨rfl,hl⟩,hK⟩:=h
 refine⟨_,_,hK,?_⟩
 clear hK
 refine Yfw az tNq Tryz.func98 [.tmp 2] Xg (T:=ay []) (h:=fun hcl=>?_)
 have hone:∀ z∈List.map aP ms,bG z.cells=true:=fun z hz=>by
  exact V135
 have hcl2:∀ k,((H.push (.buf 8 0)).push (.buf 8 k)).Closed:=fun k=>ag (ag hcl)
 refine T9 ?_
 intro b hb
 cases b
 ·refine T9 ?_
  refine⟨⟨Xa,Xa,hone⟩,?_⟩
  simp (disch:=first|exact Zd|omega) [↓zmo,beq,ybc,ybd,ybe,af,wk,wk2,wk1,wkM,wkL,aj,ybf,hcl2]
  first|done|exact⟨hcl2 _,by rw[aN];exact⟨fun k e=>(by cases e;omega),lj ms⟩⟩|exact(by rw[aN];exact⟨fun k e=>(by cases e;omega),lj ms⟩)
 ·have:ms=[]:=by
   rcases Classical.em (List.map aP ms=[])with h|h
   ·simpa using h
   ·exact absurd (hb h) Xc
  exact V91
def nE:ECt
 |[.slice _ 2 l],H,K=>∃ ms:List Nat,(l=ms.map vv∧ms.length≤1000000000)∧K (.ret (.slice (.own (H.nx+1)) 2 l)) ((H.push (.buf 2 0)).push (.buf 2 ms.length))
 |_,_,_=>False
theorem Fx:EEe 99 nE:=by
 refine Yef fun _ H K h=>?_
 unfold nE at h
 split at h<;>try exact h.elim
 rename_i m l
 obtain⟨ms,⟨rfl,hl⟩,hK⟩:=h
 refine⟨_,_,hK,?_⟩
 clear hK
 refine Yfw az tNq Tryz.func99 [.tmp 2] Xg (T:=ay []) (h:=fun hcl=>?_)
 have hone:∀ z∈List.map vv ms,bG z.cells=true:=fun z hz=>by
  exact V135
 have hcl2:∀ k,((H.push (.buf 2 0)).push (.buf 2 k)).Closed:=fun k=>ag (ag hcl)
 refine T9 ?_
 intro b hb
 cases b
 ·refine T9 ?_
  refine⟨⟨Xa,Xa,hone⟩,?_⟩
  simp (disch:=first|exact Zd|omega) [↓zmo,beq,ybc,ybd,ybe,af,wk,wk2,wk1,wkM,wkL,aj,ybf,hcl2]
  first|done|exact⟨hcl2 _,by rw[aN];exact⟨fun k e=>(by cases e;omega),gU ms⟩⟩|exact(by rw[aN];exact⟨fun k e=>(by cases e;omega),gU ms⟩)
 ·have:ms=[]:=by
   rcases Classical.em (List.map vv ms=[])with h|h
   ·simpa using h
   ·exact absurd (hb h) Xc
  exact V91
def ClN(n:Nat)(H:AHeap):Prop:=∀ i cs,H.get i=some (.cells cs)→∀(j:Nat)(hj:j<cs.length),(cs[j]).lt n
theorem ClN.of{n:Nat}{H:AHeap}(h:H.Closed)(hn:H.nx≤n):ClN n H:=fun i cs hi j hj=>AV.lt_mono hn _ (h i cs hi j hj)
theorem ClN.cells{n:Nat}{H:AHeap}{cs:List AV}(h:ClN n H)(hc:ltL n cs):ClN n (H.push (.cells cs)):=fun i cs' hi j hj=>by
 rcases AHeap.get_push_inv _ _ hi with⟨_,e⟩|⟨_,hi⟩
 ·cases e;exact ltL_iff.1 hc j hj
 ·exact h i cs' hi j hj
theorem ClN.buf{n:Nat}{H:AHeap}{sz k:Nat}(h:ClN n H):ClN n (H.push (.buf sz k)):=fun i cs' hi j hj=>by
 rcases AHeap.get_push_inv _ _ hi with⟨_,e⟩|⟨_,hi⟩
 ·cases e
 ·exact h i cs' hi j hj
def C5:ECt
 |[.agg l],H,K=>∃ e:SEntry,(l=a9 e∧e.ms.length≤1000000000∧e.args.length≤1000000000) ∧
   K (.ret (.agg [.int .i64 e.table,.slice (.own (H.nx+1+1+1)) 8 (e.ms.map aP),.int .i64 e.prio,.int .i64 e.act,.slice (.own (H.nx+1+1+1+1+1)) 2 (e.args.map vv)]))
    ((((((H.push (.cells [.int .i64 e.table,.slice (.own (H.nx+1+1+1)) 8 (e.ms.map aP),.int .i64 e.prio,.int .i64 e.act,.slice (.own (H.nx+1+1+1+1+1)) 2 (e.args.map vv)])).push (.cells [.int .i64 e.table,.slice (.own (H.nx+1+1+1)) 8 (e.ms.map aP),.int .i64 e.prio,.int .i64 e.act,.slice (.own (H.nx+1+1+1+1+1)) 2 (e.args.map vv)])).push (.buf 8 0)).push (.buf 8 e.ms.length)).push (.buf 2 0)).push (.buf 2 e.args.length))
 |_,_,_=>False
theorem GZ{i n:Nat}{ms:List SMatch}(h:i<n):AV.lt n (.slice (.own i) 8 (ms.map aP)):=by
 rw[aN];exact⟨fun k e=>(by cases e;exact h),lj ms⟩
theorem F8{i n:Nat}{ms:List Nat}(h:i<n):AV.lt n (.slice (.own i) 2 (ms.map vv)):=by
 rw[aN];exact⟨fun k e=>(by cases e;exact h),gU ms⟩
theorem ok_oEntry:EEe 57 C5:=by
 refine Yef fun _ H K h=>?_
 unfold C5 at h
 split at h<;>try exact h.elim
 rename_i l
 obtain⟨e,⟨rfl,hl1,hl2⟩,hK⟩:=h
 refine⟨_,_,hK,?_⟩
 clear hK
 unfold a9
 refine Yfw az (tCq Eh (tCq Fx tNq)) Tryz.func57 [.cell 2 26] Xg (T:=ay [(1,[[],[],[1],[],[],[1,2,4],[],[1,2,4,5],[],[1,2,4,5]])]) (h:=fun hcl=>?_)
 simp only[go_sem,nS,nE]
 refine⟨e.ms,⟨rfl,hl1⟩,?_⟩
 refine T39 ?_
 refine⟨e.args,⟨rfl,hl2⟩,?_⟩
 refine T39 ?_
 try simp (disch:=first|exact Zd|omega) [↓zmo,beq,ybc,ybd,ybe,af,wk,wk2,wk1,wkM,wkL,aj,ybf,hcl]
 refine⟨ClN.buf (ClN.buf (ClN.buf (ClN.buf (ClN.cells (ClN.cells (ClN.of hcl Xg) ?_) ?_)))),GZ Xa,F8 Xa⟩ <;>
  simp only[znu,znv,znf,zle,GZ (show H.nx+1+1+1<H.nx+1+1+1+1+1+1 by omega),F8 (show H.nx+1+1+1+1+1<H.nx+1+1+1+1+1+1 by omega),and_self]
theorem KA{e:SEntry}(h1:e.ms.length≤1000000000)(h2:e.args.length≤1000000000)(hne:e.ms≠[])(H:AHeap) :
 ACalls Tryz.prog 57 [.agg (a9 e)] H (.ret (.agg [.int .i64 e.table,.ms H.nx 0 8 e.ms.length,.int .i64 e.prio,.int .i64 e.act,.slice .any 2 (e.args.map vv)])) (H.push (.part ((e.ms.map aP).flatMap AV.cells))):=by
 obtain⟨x,H1,hx,hc⟩:=ok_oEntry.2.1 rfl [.agg (a9 e)] .none (fun x H1=>x=_∧H1=_) ⟨e,⟨rfl,h1,h2⟩,rfl,rfl⟩
 obtain⟨rfl,rfl⟩:=hx
 have:=ACalls.thaw (b:=false) (j:=1) hc (fun a ha=>by
  rw[List.mem_singleton.1 ha]
  exact qq e) (fun c hc=>?_) rfl (fun i sz' ys hi=>?_) (by simpa using hne) H
 ·simpa[AD,N6]using this
 ·simp only[List.mem_cons,List.not_mem_nil,or_false]at hc
  rcases hc with rfl|rfl|rfl|rfl|rfl
  ·rfl
  ·refine⟨by simp only[ybb];exact hgt,fun x hx y hy=>?_⟩
   obtain⟨m,_,rfl⟩:=List.mem_map.1 hx
   have hy':y∈bQ m:=hy
   simp only[bQ,vc,yal,yak,List.mem_cons,List.not_mem_nil,or_false]at hy'
   rcases hy' with rfl|rfl|rfl|rfl|rfl|rfl|rfl|rfl<;>rfl
  ·rfl
  ·rfl
  ·refine⟨by simp only[ybb];exact hgt,fun x hx y hy=>?_⟩
   obtain⟨m,_,rfl⟩:=List.mem_map.1 hx
   have hy':y∈[AV.int .u64 ((m/2^64:Nat):Int),AV.int .u64 ((m%2^64:Nat):Int)]:=hy
   simp only[List.mem_cons,List.not_mem_nil,or_false]at hy'
   rcases hy' with rfl|rfl<;>rfl
 ·match i,hi with
  |0,_=>simp
  |1,h=>exact absurd rfl h
  |2,_=>simp
  |3,_=>simp
  |4,_=>simp[AHeap.none]
  |i+5,_=>simp
def FN:ECt
 |[.agg l],H,K=>∃ e:SEntry,(l=a9 e∧e.ms.length≤1000000000∧e.args.length≤1000000000∧e.ms≠[]) ∧
   K (.ret (.agg [.int .i64 e.table,.ms H.nx 0 8 e.ms.length,.int .i64 e.prio,.int .i64 e.act,.slice .any 2 (e.args.map vv)])) (H.push (.part ((e.ms.map aP).flatMap AV.cells)))
 |_,_,_=>False
theorem Oc:EEe 57 FN:=by
 refine Yef fun _ H K h=>?_
 unfold FN at h
 split at h<;>try exact h.elim
 rename_i l
 obtain⟨e,⟨rfl,h1,h2,h3⟩,hK⟩:=h
 exact⟨_,_,hK,KA h1 h2 h3 H⟩
def uF:PCt
 |[.agg l,.int .i64 role,.agg le],_,K=>∃ (S:Sch) (e:SEntry),(l=bb S∧le=a9 e∧SRol S∧e.ms.length≤1000000∧e.args.length≤1000000∧e.ms≠[])∧K (gJ (x8 S role e))
 |_,_,_=>False
theorem FM(m:SMatch):(bQ m).length=8:=rfl
theorem Is:bQ cC=[.bool false,.int .u64 0,.int .u64 0,.int .u64 0,.int .u64 0,.int .i64 0,.int .u64 0,.int .u64 0]:=by
 simp[bQ,cC,vc]
theorem FB:EPp 18 uF:=by
 refine Ype fun _ H K h=>?_
 unfold uF at h
 split at h<;>try exact h.elim
 rename_i l role le
 obtain⟨S,e,⟨rfl,rfl,hS,hml,hal,hne⟩,hK⟩:=h
 refine⟨_,hK,?_⟩
 clear hK
 obtain⟨R,hR⟩:∃ R,x8 S role e=R:=⟨_,rfl⟩
 rw[hR]
 unfold x8 at hR
 unfold gJ
 refine Yfw az (tCq mP (tCq Oc (tCq vG (tCq Ec tNq)))) Tryz.func18 [.cell 6 26] (nrq _) (T:=ay [(3,[[1]])]) (h:=fun hcl=>?_)
 simp only[go_sem,bhq,yaq,yar,yao,yap,bb,a9,km]
 refine T1 ?_
 refine⟨S,⟨rfl,hS⟩,?_⟩
 generalize (grF S role e.table).getD ip=g at *
 generalize (grF S role e.table).isSome=is at *
 simp only[bn,aF,bhq,go_sem,bb,a9,bO,FN]
 refine T1 ?_
 refine⟨e,⟨rfl,Xa,Xa,hne⟩,?_⟩
 refine HC (H.nx+1+1+1+1) (cs:=(e.ms.map aP).flatMap AV.cells) (by simp[zlh,aC,zle,zlf]) fun kr=>?_
 obtain⟨J,hJ⟩:∃ J,J=List.replicate kr AV.junk:=⟨_,rfl⟩
 have hJl:∀ n,ltL n J:=fun n=>by
  rw[hJ]
  exact ltL_iff.2 fun j hj=>by rw[List.getElem_replicate,AV.lt]<;>simp
 have hrow:∀ l:List SMatch,l.length=e.ms.length→cg 8 e.ms.length (l.flatMap bQ++J)=l.map aP:=fun l hl=>by
  rw[← hl,hJ];exact xY l kr
 rw[rP,← hJ]
 obtain⟨HL,hHL⟩:∃ HL:List SMatch→AHeap,HL=fun l=>(((((H.push (.cells (bb S))).push (.cells (a9 e))).push (.cells [.int .i64 0,.slice .nil 1 [],.int .i64 0,.int .i64 0,.slice .nil 1 []])).push (.cells [.int .i64 g.table,.bool g.read,.bool g.write,.slice .any 1 (boL g.keys)])).push (.cells (l.flatMap bQ++J))).push (.cells [.int .i64 e.table,.ms (H.nx+1+1+1+1) 0 8 e.ms.length,.int .i64 e.prio,.int .i64 e.act,.slice .any 2 (e.args.map vv)]):=⟨_,rfl⟩
 have hclL:∀ l,(HL l).Closed:=fun l=>by
  rw[hHL]
  refine aa (aa (aa (aa (aa (aa hcl (ne S)) (qt e)) ?_) (Fa g)) ?_) ?_
  ·simp[znu,znv,znf,aN]
  ·exact Gt (nA (f:=aP) cN) (hJl _)
  ·simp[znu,znv,znf,znp,nt,zle]
 have h0:=hHL
 refine T11 ?_
 refine aA (A:=Nat) (fun k=>[(1,.int .i64 role),(3,.ptr H.nx 0),(5,.ptr (H.nx+1) 0),(6,.ptr (H.nx+1+1) 0),(7,.ptr (H.nx+1+1+1) 0),(9,.ptr (H.nx+1+1+1+1+1) 0),(23,.int .i64 (e.ms.length:Int)),(24,.int .i64 (k:Int))]) (fun k=>HL (nv g.keys e.ms k))
  (fun k=>k≤e.ms.length) (fun k=>e.ms.length-k) 0 (Nat.zero_le _) ?_ fun k hk=>?_
 ·refine⟨by rw[hHL];simp only[zkq,zkv,zle];omega,?_,hclL _,?_,?_⟩
  ·rw[JS,hHL];exact lRq _
  ·rw[hHL]
   exact V106
  ·exact V8
 have e5:=Yk5 k
 have hlen:((nv g.keys e.ms k).flatMap bQ++J).length=e.ms.length*8+J.length:=by rw[lAq,mg,yP]
 rw[hHL]
 simp only[go_sem,bb,a9]
 refine aq (fun hc=>?_) (fun hc=>?_)
 ·have hk':k<e.ms.length:=sHc
  have hclN:=hclL (nv g.keys e.ms (k+1))
  rw[hHL]at hclN
  simp only[bn,aF,bhq,go_sem,oR]
  refine T1 ?_
  refine⟨g,k,⟨rfl,rfl⟩,?_⟩
  cases hv:xO g.keys k
  ·have hsp:=Dp (f:=bQ) FM cC J (nv g.keys e.ms k) k (by rw[yP];exact hk')
   rw[HD hv,Is]at hsp
   have hln:k*8+8≤((nv g.keys e.ms k).flatMap bQ++J).length:=by rw[hlen];omega
   simp only[bn,aF,bhq,go_sem,Bool.not_false,iNq,nzq,hsp,e5,hln]
   refine T1 ?_
   refine⟨k+1,Xa,Xa,?_⟩
   refine⟨Xj,?_,hclN,?_,?_⟩
   ·repeat first|exact .refl _|refine .push ?_ _
   ·exact V106
   ·exact V8
  ·refine T22 ?_
   refine T1 ?_
   refine⟨k+1,Xa,Xa,?_⟩
   refine⟨Xj,?_,hclN,?_,?_⟩
   ·rw[KN hv];repeat first|exact .refl _|refine .push ?_ _
   ·exact V106
   ·exact V8
 have hk':k=e.ms.length:=sHc
 subst hk'
 have hrw:=hrow (nv g.keys e.ms e.ms.length) yP
 simp only[bn,aF,bhq,go_sem,wK]
 refine T1 ?_
 refine⟨S,⟨rfl,hS⟩,?_⟩
 cases hb:sJ S role e.act
 ·rw[hb,if_neg Xc,if_neg (Xc)]at hR
  subst hR
  simp only[bn,aF,bhq,go_sem,Bool.not_false,yaf]
  exact V78
 ·rw[hb,if_pos rfl,if_pos rfl]at hR
  subst hR
  refine T38 ?_
  exact V78
theorem Oe{S:Sch}{n:Int}(h:1≤cV S n):Ed S n:=by
 unfold Ed
 rcases rh (q:=fun f:SField=>f.id==n) (l:=S.fields)with⟨b1,b2⟩|⟨i,x,b1,_⟩
 ·unfold cV at h
  rw[pF,b2]at h
  exact absurd h Xc
 ·rw[b1];exact Int.natCast_nonneg _
theorem Jw{b:List UInt8}{n:Int}(h:n∈([1,2,3,4,5,6]:List Int)):∃ a,CW (bY b 0).1 n=some a:=by
 have e:(bY b 0).1.actions=di b (bM b (cp 0 2)).2:=rfl
 unfold CW
 rw[e]
 simp only[List.mem_cons,List.not_mem_nil,or_false]at h
 rcases h with rfl|rfl|rfl|rfl|rfl|rfl<;>exact⟨_,rfl⟩
theorem sall_gen{b:List UInt8}:SAll (bY b 0).1:=by
 have hG:=Gw b 0
 have hA:=M7 (b:=b)
 refine⟨⟨hA.sl,fun t ht=>by have:=hG.kl t ht;omega,fun t ht k hk=>?_⟩,⟨hA.sl,fun a ha=>by have:=(hA.ak a ha).1;omega,fun t ht=>⟨by have:=(hG.a1 t ht).2;omega,fun n hn=>?_⟩⟩,hA⟩
 ·have:=hG.kb t ht k hk
  exact⟨Oe this.1,Xa⟩
 ·refine Jw ?_
  have h:t∈cm b (cp (bM b (cp 0 2)).2 4):=ht
  simp only[cm,List.mem_cons,List.not_mem_nil,or_false]at h
  rcases h with rfl|rfl|rfl|rfl
  ·have:n∈([1,2,4]:List Int):=hn
   exact Z63
  ·have:n∈([1,2,3,4]:List Int):=hn
   exact Z63
  ·have:n∈([1,2,3,5,6]:List Int):=hn
   exact Z63
  ·have:n∈([1,3,5]:List Int):=hn
   exact Z63
theorem OX{S:Sch}(hG:GenS S){m:Int}{e:SEntry}(h:GE S (fH S m) e):EAll e:=by
 have hkl:=hG.kl _ (ln (S:=S) (n:=m) hG.t1)
 have ho:=h.ok hkl hG.pl
 have ha:=Pv hG h
 exact⟨ho,⟨ha.ar,ho.al⟩,ha⟩
def PS(S:Sch)(i:Nat)(gs:List SGrant):Sch:={S with roles:=S.roles.modify i fun r=>{r with grants:=gs} }
def bgS:Sch:=PS (bY [] 0).1 2 [⟨1,true,false,[true]⟩]
def bgE:SEntry:=⟨1,[⟨true,0,0,0,0⟩],0,2,[]⟩
theorem QY:CT bgS 7 1=true:=by decide +kernel
theorem Qw:CT bgS 7 2=false:=by decide +kernel
theorem Q9:(x8 bgS 7 bgE).act=0:=by decide +kernel
theorem Qk:(x8 bgS 7 bgE).ms.length=1∧((x8 bgS 7 bgE).ms.map SMatch.present)=[true]:=by decide +kernel
theorem QM:k9 bgS 7 1 bgE=21:=by decide +kernel
theorem QL:k9 bgS 1 1 bgE=0:=by decide +kernel
def GrTs(ts:List STable)(g:SGrant):Prop:=∃ t∈ts,g.table=t.id∧g.keys.length=t.keys.length
theorem GrTs.cons{ts:List STable}{t:STable}{g:SGrant}(h:GrTs ts g):GrTs (t::ts) g:=by
 obtain⟨x,h1,h2⟩:=h
 exact⟨x,List.mem_cons_of_mem _ h1,h2⟩
theorem si{b:List UInt8}:∀(ts:List STable)(v:Nat),(∀ g∈(cW b ts v).1.1,GrTs ts g)∧(∀ g∈(cW b ts v).1.2.1,GrTs ts g)∧(∀ g∈(cW b ts v).1.2.2,GrTs ts g) ∧
 (cW b ts v).1.1.length≤ts.length∧(cW b ts v).1.2.1.length≤ts.length∧(cW b ts v).1.2.2.length≤ts.length
 |[],v=>by simp[cW]
 |t::ts,v=>by
  have key:∀ w,_:=fun w=>si (b:=b) ts w
  have hp:(ls b v t.keys.length).length=t.keys.length:=by simp[ls]
  unfold cW
  dsimp only
  generalize hX:(if 0<cv b (v+t.keys.length) 4 then([(⟨t.id,decide (0<ci b (v+t.keys.length+1) 4),decide (cv b (v+t.keys.length+2) 2=1),ls b v t.keys.length⟩:SGrant)],v+t.keys.length+3)else([],v+t.keys.length+1))=X
  obtain⟨X1,w1⟩:=X
  dsimp only
  generalize hY:(if cv b w1 2=1 then([(⟨t.id,decide (cv b (w1+1) 2=1),decide (cv b (w1+2) 2=1),List.replicate t.keys.length true⟩:SGrant)],w1+3)else([],w1+1))=Y
  obtain⟨Y1,w2⟩:=Y
  dsimp only
  obtain⟨k1,k2,k3,k4,k5,k6⟩:=key w2
  have hX1:(∀ g∈X1,GrTs (t::ts) g)∧X1.length≤1:=by
   split at hX<;>cases hX
   ·refine⟨fun g hg=>?_,Xb⟩
    rw[List.mem_singleton.1 hg]
    exact⟨t,List.mem_cons_self,rfl,hp⟩
   ·simp
  have hY1:(∀ g∈Y1,GrTs (t::ts) g)∧Y1.length≤1:=by
   split at hY<;>cases hY
   ·refine⟨fun g hg=>?_,Xb⟩
    rw[List.mem_singleton.1 hg]
    exact⟨t,List.mem_cons_self,rfl,Xb⟩
   ·simp
  refine⟨fun g hg=>?_,fun g hg=>?_,fun g hg=>?_,by simpa using k4,by rw[lAq,yaz];omega,by rw[lAq,yaz];omega⟩
  ·rcases List.mem_cons.1 hg with rfl|hg
   ·exact⟨t,List.mem_cons_self,rfl,Xb⟩
   ·exact(k1 g hg).cons
  ·rcases List.mem_append.1 hg with hg|hg
   ·exact hX1.1 g hg
   ·exact(k2 g hg).cons
  ·rcases List.mem_append.1 hg with hg|hg
   ·exact hY1.1 g hg
   ·exact(k3 g hg).cons
structure RolOk(S:Sch):Prop where
 l3:S.roles.length≤3
 gl:∀ r∈S.roles,r.grants.length≤4∧r.actions.length≤6
 gt:∀ r∈S.roles,∀ g∈r.grants,GrTs S.tables g
 tu:∀ t∈S.tables,iW S t.id=some t
 tk:∀ t∈S.tables,1≤t.keys.length∧t.keys.length≤3
theorem rolOk_gen{b:List UInt8}{v:Nat}:RolOk (bY b v).1 where
 l3:=by simp[bY,gQ]
 gl:=fun r hr=>by
  have h:r∈(gQ b (cp (bM b (cp v 2)).2 16) (cm b (cp (bM b (cp v 2)).2 4))).1:=hr
  obtain⟨_,_,_,k4,k5,k6⟩:=si (b:=b) (cm b (cp (bM b (cp v 2)).2 4)) (cp (bM b (cp v 2)).2 16+4)
  have h4:(cm b (cp (bM b (cp v 2)).2 4)).length=4:=rfl
  rw[h4]at k4 k5 k6
  simp only[gQ,List.mem_cons,List.not_mem_nil,or_false]at h
  rcases h with rfl|rfl|rfl
  ·exact⟨k4,Xb⟩
  ·exact⟨k5,Xb⟩
  ·exact⟨k6,Xb⟩
 gt:=fun r hr=>by
  have h:r∈(gQ b (cp (bM b (cp v 2)).2 16) (cm b (cp (bM b (cp v 2)).2 4))).1:=hr
  obtain⟨k1,k2,k3,_⟩:=si (b:=b) (cm b (cp (bM b (cp v 2)).2 4)) (cp (bM b (cp v 2)).2 16+4)
  simp only[gQ,List.mem_cons,List.not_mem_nil,or_false]at h
  rcases h with rfl|rfl|rfl
  ·exact k1
  ·exact k2
  ·exact k3
 tu:=fun t ht=>by
  have h:t∈cm b (cp (bM b (cp v 2)).2 4):=ht
  simp only[cm,List.mem_cons,List.not_mem_nil,or_false]at h
  rcases h with rfl|rfl|rfl|rfl<;>rfl
 tk:=fun t ht=>by
  have h:t∈cm b (cp (bM b (cp v 2)).2 4):=ht
  refine⟨?_,(jY t h).1⟩
  simp only[cm,List.mem_cons,List.not_mem_nil,or_false]at h
  rcases h with rfl|rfl|rfl|rfl<;>simp[jJ,lL,fh,fk]
theorem RolOk.gk{S:Sch}(h:RolOk S){role t:Int}{g:SGrant}{tb:STable}(hg:grF S role t=some g)(ht:iW S t=some tb):g.keys.length=tb.keys.length:=by
 obtain⟨r,_,h1,h2,h3⟩:=LU hg
 obtain⟨x,hx,e1,e2⟩:=h.gt r h1 g h2
 have:=h.tu x hx
 rw[← e1,h3,ht]at this
 cases this
 exact e2
theorem RolOk.rl{S:Sch}(h:RolOk S)(hl:SLen S):SRol S where
 sl:=hl
 gl:=fun r hr=>by
  have h1:=h.gl r hr
  refine⟨Xa,Xa,fun g hg=>?_⟩
  obtain⟨x,hx,_,e2⟩:=h.gt r hr g hg
  have:=(h.tk x hx).2
  omega
theorem NC{b:List UInt8}:SGk (bY b 0).1 where
 p:=⟨sall_gen,rolOk_gen.rl sall_gen.ck.sl⟩
 gk:=fun role t g tb h1 h2=>by rw[rolOk_gen.gk h1 h2];exact nrq _
theorem EB{S:Sch}(h:SAll S){rs:List SRole}(hl:rs.length≤1000000):SAll {S with roles:=rs}:=by
 have h0:SLen {S with roles:=rs}:=⟨h.ck.sl.fl,h.ck.sl.hl,h.ck.sl.sl,h.ck.sl.al,h.ck.sl.tl,hl⟩
 exact⟨⟨h0,h.ck.kl,h.ck.kf⟩,⟨h0,h.ac.pl,h.ac.tl⟩,⟨h0,h.ad.tk,h.ad.ak⟩⟩
theorem Xu{p:Prop}(h:p:=by simp[znu,znv,znf,bk cN,aN,gU]):p:=h
end Go.AL
