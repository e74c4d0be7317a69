/- Lemmas of the proof; no condition. -/
import Derived.Test.YtokjjhidigoodaaGreatS11g
set_option linter.all false
set_option maxRecDepth 10000
open List renaming length_cons → yaz, cons_append → yal, nil_append → yak, length_nil → yba, take_succ_cons → yaq, take_zero → yar, drop_succ_cons → yao, drop_zero → yap, append_nil → yaj, length_map → ybb, map_nil → yaf, map_cons → yae
open Go Go.AL Go.Proofs
namespace Go.AL
theorem CT:ti Tryz.prog 23=some ⟨.slice 114,1,24,.slice .nil 1 []⟩:=by kernel_rfl
theorem Jo:ti Tryz.prog 24=some ⟨.slice 48,1,24,.slice .nil 1 []⟩:=by kernel_rfl
attribute [go_sem] CT Jo
def Gh (w n:Int) (v:Nat) (m:SMatch):SMatch :=
 if w=5 then { m with present:=!m.present } else if w=6 then { m with value:=v } else if w=7 then { m with mask:=v } else if w=8 then { m with pfx:=n }
 else if w=9 then { m with high:=v } else if w=10 then cu else if w=11 then ⟨true,0,0,0,eT (jA .i64 n 31)⟩ else { m with value:=low v (jA .i64 n 31) }
theorem lD:∀ (X Y:List AV) (f:Nat) (v:List AV),splice (X++Y) (X.length+f) v=X++splice Y f v
 |[],Y,f,v=>by simp
 |x::X,Y,f,v=>by
  have:=lD X Y f v
  rw [yaz,show X.length+1+f=X.length+f+1 by omega]
  show x::splice (X++Y) (X.length+f) v=_
  rw [this];rfl
theorem Eh (l:List SMatch):(l.map aQ).flatMap AV.cells=l.flatMap bE:=by
 rw [List.flatMap_map];rfl
theorem oE:∀ (l:List SMatch),(l.flatMap bE).length=l.length*8
 |[]=>rfl
 |m::l=>by
  rw [List.flatMap_cons,lAq,oE l,yaz]
  show 8+_=_
  omega
theorem xp (l:List SMatch):∀ x∈(l.map aQ).flatMap AV.cells,AV.lt 0 x:=fun x hx=>by
 obtain ⟨y,hy,hx⟩:=List.mem_flatMap.1 hx
 obtain ⟨m,_,rfl⟩:=List.mem_map.1 hy
 obtain ⟨j,hj,rfl⟩:=List.getElem_of_mem hx
 exact AV.lt_cells (iF m) j hj
theorem C4 (l:List SMatch) (k:Nat):ce 8 l.length (l.flatMap bE++List.replicate k .junk)=l.map aQ:=by
 induction l with
 |nil=>rfl
 |cons m l ih =>
  rw [List.flatMap_cons,List.append_assoc]
  show AV.agg _::ce 8 l.length (List.drop 8 (bE m++(l.flatMap bE++List.replicate k .junk)))=_
  rw [show List.drop 8 (bE m++(l.flatMap bE++List.replicate k .junk))=l.flatMap bE++List.replicate k .junk from rfl,ih]
  rfl
theorem Jh (a:Int):0≤jA .i64 a 31∧jA .i64 a 31≤31:=by
 have h:(BitVec.ofInt 64 a &&& BitVec.ofInt 64 31).toNat≤31:=by
  rw [BitVec.toNat_and]
  exact Nat.and_le_right
 change 0≤IntKind.i64.wrap ((BitVec.ofInt 64 a &&& BitVec.ofInt 64 31).toNat:Int)∧IntKind.i64.wrap ((BitVec.ofInt 64 a &&& BitVec.ofInt 64 31).toNat:Int)≤31
 generalize (BitVec.ofInt 64 a &&& BitVec.ofInt 64 31).toNat=z at *
 rw [wrap_i64]<;>omega
theorem Im {H' H1:AHeap} {id sz n:Nat} {cs L:List AV} (h1:aR H' id=some cs) (h2:ce sz n cs=L) (h3:H1.get id=none):wk1 H' H1 (.ms id 0 sz n) (.slice .any sz L):=by
 simp only [wk1,h1];exact ⟨.inl trivial,trivial,h2.symm,h3⟩
theorem CV {H:AHeap} {i:Nat} (h:H.nx≤i):H.get i=none:=by unfold AHeap.get;rw [if_neg (by omega)]
theorem oS (X Y:List AV) (v:List AV):splice (X++Y) X.length v=X++splice Y 0 v:=lD X Y 0 v
theorem A2 (X Y:List AV) (f:Nat) (d:AV):(X++Y).getD (X.length+f) d=Y.getD f d:=by
 rw [gEq,gEq,List.getElem?_append_right (by omega)]
 congr 2;omega
theorem HF (X Y:List AV) (d:AV):(X++Y).getD X.length d=Y.getD 0 d:=A2 X Y 0 d
theorem zr {a:Int} (h1 : -9223372036854775808≤a) (h2:a≤9223372036854775807) : -9223372036854775808≤a.tdiv 16∧a.tdiv 16≤9223372036854775807:=by
 rcases Int.le_total 0 a with h|h
 ·rw [Int.tdiv_eq_ediv_of_nonneg h];omega
 ·obtain ⟨n,rfl⟩:∃ n,a = -n:=⟨-a,by omega⟩
  rw [Int.neg_tdiv,Int.tdiv_eq_ediv_of_nonneg (by omega)];omega
theorem sZ {a:Int} (h1 : -9223372036854775808≤a) (h2:a≤9223372036854775807):IntKind.i64.wrap (a.tdiv 16)=a.tdiv 16:=by
 rcases Int.le_total 0 a with h|h
 ·rw [Int.tdiv_eq_ediv_of_nonneg h,wrap_i64]<;>omega
 ·obtain ⟨n,rfl⟩:∃ n,a = -n:=⟨-a,by omega⟩
  rw [Int.neg_tdiv,Int.tdiv_eq_ediv_of_nonneg (by omega),wrap_i64]<;>omega
def wE (w n:Int) (v:Nat) (e:SEntry):SEntry :=
 if w=0 then { e with table:=n } else if w=1 then { e with prio:=n } else if w=2 then { e with act:=n } else if w=3 then { e with args:=e.args++[v] }
 else if w=4 then { e with ms:=e.ms++[⟨jA .i64 n 1==1,v,0,0,0⟩] } else e
theorem DX (l:List Nat):∀ x∈(l.map vv).flatMap AV.cells,AV.lt 0 x:=fun x hx=>by
 obtain ⟨y,hy,hx⟩:=List.mem_flatMap.1 hx
 obtain ⟨m,_,rfl⟩:=List.mem_map.1 hy
 obtain ⟨j,hj,rfl⟩:=List.getElem_of_mem hx
 exact AV.lt_cells (by simp [vv,znn,znq,znr,znb]) j hj
theorem zg {m:Nat}:∀ l:List Nat,ltL m (l.flatMap vc)
 |[]=>trivial
 |x::l=>by
  rw [List.flatMap_cons]
  simp only [vc,yal,yak,znq,znb,true_and]
  exact zg l
theorem El {m:Nat} {x y:List AV} (h:ltL m x) (k:ltL m y):ltL m (x++y):=by
 induction x with
 |nil=>exact k
 |cons a x ih=>exact ⟨h.1,ih h.2⟩
theorem Bz {m:Nat}:∀ k,ltL m (List.replicate k AV.junk)
 |0=>trivial
 |k+1=>⟨by rw [AV.lt]<;>simp,Bz k⟩
theorem Mf (l:List Nat):(l.map vv).flatMap AV.cells=l.flatMap vc:=by
 rw [List.flatMap_map];rfl
theorem AN (J:List AV):∀ (l:List Nat),ce 2 l.length (l.flatMap vc++J)=l.map vv
 |[]=>rfl
 |x::l=>by
  rw [List.flatMap_cons,List.append_assoc]
  show AV.agg _::ce 2 l.length (List.drop 2 (vc x++(l.flatMap vc++J)))=_
  rw [show List.drop 2 (vc x++(l.flatMap vc++J))=l.flatMap vc++J from rfl,AN J l]
  rfl
theorem oH:∀ (l:List Nat),(l.flatMap vc).length=l.length*2
 |[]=>rfl
 |m::l=>by
  rw [List.flatMap_cons,lAq,oH l,yaz]
  show 2+_=_
  omega
structure BQ (b:Int) (e e':SEntry):Prop where
 ml:e'.ms.length≤e.ms.length+1
 al:e'.args.length≤e.args.length+1
 pf:∀ m∈e'.ms,m.pfx=b∨m.pfx=0∨∃ m0∈e.ms,m.pfx=m0.pfx
 pr:e'.prio=b∨e'.prio=e.prio
def uJ:List AV→AHeap→(AV→Prop)→Prop
 |[.agg le,.int .i64 a,.int .i64 b,.agg [.int .u64 hi,.int .u64 lo]],_,K=>∃ e:SEntry,(le=bG e∧BOk e ∧ -9223372036854775808≤a∧a≤9223372036854775807∧isV hi lo)∧∀ e':SEntry,COk e'→BQ b e e'→K (cJ e')
 |_,_,_=>False
set_option maxHeartbeats 8000000 in
theorem Ky:EntOk Tryz.prog 19 (Ent.pure uJ):=by
 refine Ype fun _ H K h=>?_
 unfold uJ at h
 split at h
 rotate_left
 ·exact h.elim
 rename_i le a b hi lo
 obtain ⟨e,⟨rfl,he,ha1,ha2,hab⟩,hK⟩:=h
 obtain ⟨v,hv,rfl,rfl,-⟩:=pF hab
 have iv:=e9 hv
 clear hab
 obtain ⟨w,hw⟩:∃ w,a % 14=w:=⟨_,rfl⟩
 by_cases h1:e.ms≠[]∧(5≤w∧w≤11∨w=13)
 ·obtain ⟨hne,hw1⟩:=h1
  have hb:=he.m
  have hb2:=he.a
  have hpos:0<e.ms.length:=List.length_pos_iff.2 hne
  obtain ⟨i,hi⟩:∃ i:Nat,a.tdiv 16 % (e.ms.length:Int)=(i:Int):=⟨(a.tdiv 16 % (e.ms.length:Int)).toNat,by have:=Int.emod_nonneg (a.tdiv 16) (show ((e.ms.length:Nat):Int)≠0 by omega);omega⟩
  have hil:i<e.ms.length:=by have:=Int.emod_lt_of_pos (a.tdiv 16) (show (0:Int)<((e.ms.length:Nat):Int) by omega);omega
  obtain ⟨A,m,B,hABl,hAB⟩:∃ A m B,A.length=i∧e.ms=A++m::B:=⟨e.ms.take i,e.ms[i],e.ms.drop (i+1),by simp;omega,by rw [← dcq hil,List.take_append_drop]⟩
  have hmo:=he.c.ok.mo
  have hml:=he.c.ok.ml
  have hal:=he.c.ok.al
  obtain ⟨e',he'⟩:∃ e':SEntry,e'={ e with ms:=A++Gh w b v m::B }:=⟨_,rfl⟩
  have hupd:MOk (Gh w b v m):=by
   have hm:=hmo m (by rw [hAB];simp)
   have h1:=sH (w:=jA .i64 b 31) hv
   have h2:=ka (jA .i64 b 31)
   unfold Gh
   (repeat' split)<;>(refine ⟨?_,?_,?_⟩<;>first|exact hv|exact hm.v|exact hm.k|exact hm.h|exact h1|exact h2|exact Nat.two_pow_pos 128|(unfold cu;decide))
  have hce:COk e':=by
   subst he'
   refine ⟨⟨by rw [hAB] at hml;simpa using hml,hal,fun x hx=>?_⟩,he.c.ar⟩
   dsimp only at hx
   rw [List.mem_append,List.mem_cons] at hx
   rcases hx with hx|rfl|hx
   ·exact hmo x (by rw [hAB];simp [hx])
   ·exact hupd
   ·exact hmo x (by rw [hAB];simp [hx])
  have hbq:BQ b e e':=by
   subst he'
   refine ⟨by rw [hAB];simp,Nat.le_succ _,fun x hx=>?_,.inr rfl⟩
   dsimp only at hx
   rw [List.mem_append,List.mem_cons] at hx
   rcases hx with hx|rfl|hx
   ·exact .inr (.inr ⟨x,by rw [hAB];simp [hx],rfl⟩)
   ·unfold Gh
    repeat' split
    all_goals first|exact .inl rfl|exact .inr (.inl rfl)|exact .inr (.inr ⟨m,by rw [hAB];simp,rfl⟩)
   ·exact .inr (.inr ⟨x,by rw [hAB];simp [hx],rfl⟩)
  refine ⟨_,hK e' hce hbq,?_⟩
  clear hK
  refine ACalls.fW ax (tCq u4 (tCq dW (tCq pR tNq))) Tryz.func19 [.cell 8 26] (nrq _) (T:=av [(1,[[],[],[],[2],[],[],[],[2,6],[],[2,6],[],[2,6]]),(5,[[],[],[],[],[],[],[],[5]]),(801,[[100000],[100004]]),(1201,[[300000,300004,200003]]),(4,[[1]])]) (h:=fun hcl hlt=>?_)
  clear hlt
  have hie:(List.map aQ e.ms).isEmpty=false:=by
   cases hm:e.ms with
   |nil=>exact absurd hm hne
   |cons x y=>rfl
  have hone:∀ z∈List.map aQ e.ms,bM z.cells=true:=fun z hz=>by
   exact Y94
  have hone2:∀ z∈List.map vv e.args,bM z.cells=true:=fun z hz=>by
   exact Y94
  simp only [bp,aM,bhq,Nat.reduceMod,Nat.reduceDiv,aD,aE,aF,bf,aG,bc,aZ,bb,a9,yaq,yar,yao,yap,go_sem,bG,hie]
  refine ⟨⟨by omega,by omega,hone⟩,by simpa using hne,xp e.ms,⟨by omega,by omega,hone2⟩,?_⟩
  refine xM (H.nx+1+1+1) (cs:=(e.ms.map aQ).flatMap AV.cells) (by simp [zld,aB,zla,zlb]) fun k=>?_
  have d1:decide ((e.ms.length:Int) > 0)=true:=by simpa using hpos
  have htd:=sZ ha1 ha2
  have hil':(i:Int)<(e.ms.length:Int):=by omega
  obtain ⟨C0,hC0⟩:∃ C0,C0=A.flatMap bE:=⟨_,rfl⟩
  obtain ⟨Z,hZ⟩:∃ Z,Z=B.flatMap bE++List.replicate k .junk:=⟨_,rfl⟩
  have hC:i*8=C0.length:=by rw [hC0,oE,hABl]
  have hfl:List.flatMap AV.cells (List.map aQ e.ms)++List.replicate k .junk=C0++(bE m++Z):=by
   rw [Eh,hAB,List.flatMap_append,List.flatMap_cons,hC0,hZ];simp [List.append_assoc]
  have hlen:e.ms.length=(A++m::B).length:=by rw [hAB]
  have hrow:∀ m':SMatch,ce 8 e.ms.length (C0++(bE m'++Z))=(A++m'::B).map aQ:=fun m'=>by
   have:=C4 (A++m'::B) k
   rw [List.flatMap_append,List.flatMap_cons,List.append_assoc,List.append_assoc] at this
   rw [hlen,hC0,hZ,← this]
   simp
  have hrw:=hrow (Gh w b v m)
  clear hrow
  have hlC:C0.length+8≤(C0++(bE m++Z)).length:=by simp only [lAq,bE,vc,yaz,yba];omega
  clear hC0 hZ
  have iw:a % 14=w→w=5∨w=6∨w=7∨w=8∨w=9∨w=10∨w=11∨w=13:=fun _=>by omega
  have iw:=iw hw
  clear hw1
  rw [he']
  clear he' hce hupd
  have il:=e9 (sH (w:=jA .i64 b 31) hv)
  have ivz:qF ((v/2^64:Nat):Int) ((v % 2^64:Nat):Int)=True:=iv
  have h31 : -9223372036854775808≤jA .i64 b 31∧jA .i64 b 31<9223372036854775808:=by
   have:=Jh b;omega
  have htb:=zr ha1 ha2
  rcases iw with rfl|rfl|rfl|rfl|rfl|rfl|rfl|rfl
  all_goals
   simp only [Gh,Int.reduceEq,cu,if_true,if_false,bE,vc,yal,yak,Nat.zero_div,Nat.zero_mod,Int.natCast_zero] at hrw
   simp only [bp,aM,bhq,Nat.reduceMod,Nat.reduceDiv,aD,aE,aF,bf,aG,bc,aZ,bb,a9,yaq,yar,yao,yap,go_sem,bG,hie,d1,gI,cH,gl,htd,hi,hw,Int.reduceBEq,hfl,iNq,hC,lD,oS,A2,HF,bE,vc,vv,yal,yak,hrw,ivz,bD]
   (repeat with_reducible refine And.intro (by first|decide|omega|(simp only [lAq,yaz];omega)|(simp [zim,zgm,zgn,zgo,zgp];done)) ?_)
   refine ⟨⟨rfl,Im ?_ hrw (CV (by omega)),rfl,rfl,.inl ⟨.inl rfl,rfl,rfl⟩,trivial⟩,by repeat first|exact .refl _|refine .push ?_ _,hcl,gE _⟩
   simp only [go_sem,lz]
 by_cases h2:e.args≠[]∧w=12
 ·obtain ⟨hane,rfl⟩:=h2
  have hb:=he.m
  have hb2:=he.a
  have hpos:0<e.args.length:=List.length_pos_iff.2 hane
  have hmo:=he.c.ok.mo
  have hml:=he.c.ok.ml
  have hal:=he.c.ok.al
  have hone:∀ z∈List.map aQ e.ms,bM z.cells=true:=fun z hz=>by
   exact Y94
  have hone2:∀ z∈List.map vv e.args,bM z.cells=true:=fun z hz=>by
   exact Y94
  obtain ⟨e',he'⟩:∃ e':SEntry,e'={ e with args:=List.replicate e.args.length v }:=⟨_,rfl⟩
  have hce:COk e':=by
   subst he'
   exact ⟨⟨hml,by simpa using hal,hmo⟩,fun x hx=>by rw [List.eq_of_mem_replicate hx];exact hv⟩
  have hbq:BQ b e e':=by
   subst he'
   exact Y167
  refine ⟨_,hK e' hce hbq,?_⟩
  clear hK
  have htd:=sZ ha1 ha2
  have htb:=zr ha1 ha2
  have hidx:e.ms≠[]→(0:Int)≤a.tdiv 16 % (e.ms.length:Int)∧a.tdiv 16 % (e.ms.length:Int)<(e.ms.length:Int):=fun h=>by
   have:0<e.ms.length:=List.length_pos_iff.2 h
   exact Y121
  have hia:(List.map vv e.args).isEmpty=false:=by
   cases hm:e.args with
   |nil=>exact absurd hm hane
   |cons x y=>rfl
  refine ACalls.fW ax (tCq u4 (tCq dW (tCq pR tNq))) Tryz.func19 [.cell 8 26] (nrq _) (T:=av [(1,[[],[],[],[2],[],[],[],[2,6],[],[2,6],[],[2,6]]),(5,[[],[],[],[],[],[],[],[5]]),(801,[[100000],[100004]]),(1201,[[300000,300004,200007]]),(4,[[1]])]) (h:=fun hcl hlt=>?_)
  clear hlt
  rw [he']
  clear he' hce
  obtain ⟨M,hM⟩:∃ M,(if (List.map aQ e.ms).isEmpty=true then Mark.full else Mark.own (H.nx+1+1+1))=M:=⟨_,rfl⟩
  have hMl:∀ id,M=.own id→id<H.nx+1+1+1+1:=fun id h=>by
   rw [← hM] at h;split at h<;>cases h;omega
  simp only [bp,aM,bhq,Nat.reduceMod,Nat.reduceDiv,aD,aE,aF,bf,aG,bc,aZ,bb,a9,yaq,yar,yao,yap,go_sem,bG,hia,hM]
  refine ⟨⟨by omega,by omega,hone⟩,⟨by omega,by omega,hone2⟩,by simpa using hane,DX e.args,?_⟩
  refine xM (H.nx+1+1+1+1) (cs:=(e.args.map vv).flatMap AV.cells) (by simp [zld,aB,zla,zlb]) fun k=>?_
  have hJl:∀ m,ltL m (List.replicate k AV.junk):=fun m=>Bz k
  generalize List.replicate k AV.junk=J at *
  rw [Mf]
  obtain ⟨HL,hHL⟩:∃ HL:List AV→AHeap,HL=fun cs=>(((((H.push (AObj.cells [AV.int IntKind.i64 e.table,AV.slice M 8 (List.map aQ e.ms),AV.int IntKind.i64 e.prio,AV.int IntKind.i64 e.act,AV.ms (H.nx+1+1+1+1) 0 2 e.args.length])).push (AObj.cells [AV.int IntKind.u64 ((v/2^64:Nat):Int),AV.int IntKind.u64 ((v % 2^64:Nat):Int)])).push (AObj.cells [AV.int IntKind.i64 0,AV.slice Mark.nil 1 [],AV.int IntKind.i64 0,AV.int IntKind.i64 0,AV.slice Mark.nil 1 []])).push (AObj.buf 8 e.ms.length)).push (AObj.cells cs)).push (AObj.cells [AV.bool false,AV.int IntKind.u64 0,AV.int IntKind.u64 0,AV.int IntKind.u64 0,AV.int IntKind.u64 0,AV.int IntKind.i64 0,AV.int IntKind.u64 0,AV.int IntKind.u64 0]):=⟨_,rfl⟩
  have hclL:∀ k,k≤e.args.length→(HL ((List.replicate k v).flatMap vc++((e.args.drop k).flatMap vc++J))).Closed:=fun k hk=>by
   rw [hHL]
   have h0:=ae (cs:=[AV.bool false,AV.int IntKind.u64 0,AV.int IntKind.u64 0,AV.int IntKind.u64 0,AV.int IntKind.u64 0,AV.int IntKind.i64 0,AV.int IntKind.u64 0,AV.int IntKind.u64 0]) (ae (cs:=(List.replicate k v).flatMap vc++((e.args.drop k).flatMap vc++J)) (ag (a:=8) (b:=e.ms.length) (ae (cs:=[AV.int IntKind.i64 0,AV.slice Mark.nil 1 [],AV.int IntKind.i64 0,AV.int IntKind.i64 0,AV.slice Mark.nil 1 []]) (ae (cs:=[AV.int IntKind.u64 ((v/2^64:Nat):Int),AV.int IntKind.u64 ((v % 2^64:Nat):Int)]) (ae (cs:=[]) hcl trivial) (by simp [znq,znr,znb])) (by simp [znq,znr,znb,aS]))) (El (zg _) (El (zg _) (hJl _)))) (by simp [znq,znr,znb,znc])
   have h1:=ai (i:=H.nx) (cs:=[AV.int IntKind.i64 e.table,AV.slice M 8 (List.map aQ e.ms),AV.int IntKind.i64 e.prio,AV.int IntKind.i64 e.act,AV.ms (H.nx+1+1+1+1) 0 2 e.args.length]) h0 (by
    simp only [znq,znr,znb,znl,and_true,true_and,zla]
    refine ⟨?_,by omega⟩
    rw [aS]
    refine ⟨fun id h=>by have:=hMl id h;omega,ltL_iff.2 fun j hj=>?_⟩
    obtain ⟨x,_,e⟩:=List.mem_map.1 (gMq hj)
    rw [← e];exact iF x)
   simp only [go_sem] at h1
   exact h1
  rcases Classical.em (e.ms=[]) with hm0|hm0
  ·have d1:decide ((e.ms.length:Int) > 0)=false:=by rw [hm0];rfl
   simp only [bp,aM,bhq,Nat.reduceMod,Nat.reduceDiv,aD,aE,aF,bf,aG,bc,aZ,bb,a9,yaq,yar,yao,yap,go_sem,bG,hia,d1,gI,hw,Int.reduceBEq]
   refine ⟨by omega,?_⟩
   exact Y6
  ·have hi:=hidx hm0
   have hm1:0<e.ms.length:=List.length_pos_iff.2 hm0
   have d1:decide ((e.ms.length:Int) > 0)=true:=dtq (by omega)
   simp only [bp,aM,bhq,Nat.reduceMod,Nat.reduceDiv,aD,aE,aF,bf,aG,bc,aZ,bb,a9,yaq,yar,yao,yap,go_sem,bG,hia,d1,gI,hw,htd,Int.reduceBEq]
   (repeat with_reducible refine And.intro (by first|decide|omega|(simp only [ybb];omega)) ?_)
   exact Y6
 have hb:=he.m
 have hb2:=he.a
 have hmo:=he.c.ok.mo
 have hml:=he.c.ok.ml
 have hal:=he.c.ok.al
 have hone:∀ z∈List.map aQ e.ms,bM z.cells=true:=fun z hz=>by
  exact Y94
 have hone2:∀ z∈List.map vv e.args,bM z.cells=true:=fun z hz=>by
  exact Y94
 obtain ⟨e',he'⟩:∃ e':SEntry,e'=wE w b v e:=⟨_,rfl⟩
 have hce:COk e':=by
  subst he'
  unfold wE
  repeat' split
  ·exact ⟨⟨hml,hal,hmo⟩,he.c.ar⟩
  ·exact ⟨⟨hml,hal,hmo⟩,he.c.ar⟩
  ·exact ⟨⟨hml,hal,hmo⟩,he.c.ar⟩
  ·refine ⟨⟨hml,by simp;omega,hmo⟩,fun x hx=>?_⟩
   rw [List.mem_append,List.mem_singleton] at hx
   rcases hx with hx|rfl
   ·exact he.c.ar x hx
   ·exact hv
  ·refine ⟨⟨by simp;omega,hal,fun x hx=>?_⟩,he.c.ar⟩
   rw [List.mem_append,List.mem_singleton] at hx
   rcases hx with hx|rfl
   ·exact hmo x hx
   ·exact ⟨hv,Nat.two_pow_pos 128,Nat.two_pow_pos 128⟩
  ·exact he.c
 have hbq:BQ b e e':=by
  subst he'
  unfold wE
  repeat' split
  ·exact Y103
  ·exact ⟨Nat.le_succ _,Nat.le_succ _,fun x hx=>.inr (.inr ⟨x,hx,rfl⟩),.inl rfl⟩
  ·exact Y103
  ·exact Y167
  ·refine ⟨by simp,Nat.le_succ _,fun x hx=>?_,.inr rfl⟩
   rw [List.mem_append,List.mem_singleton] at hx
   rcases hx with hx|rfl
   ·exact .inr (.inr ⟨x,hx,rfl⟩)
   ·exact .inr (.inl rfl)
  ·exact Y103
 refine ⟨_,hK e' hce hbq,?_⟩
 clear hK
 have htd:=sZ ha1 ha2
 have htb:=zr ha1 ha2
 have il:=e9 (sH (w:=jA .i64 b 31) hv)
 have ivz:qF ((v/2^64:Nat):Int) ((v % 2^64:Nat):Int)=True:=iv
 have h31 : -9223372036854775808≤jA .i64 b 31∧jA .i64 b 31<9223372036854775808:=by
  have:=Jh b;omega
 have iw:w=0∨w=1∨w=2∨w=3∨w=4∨w=5∨w=6∨w=7∨w=8∨w=9∨w=10∨w=11∨w=12∨w=13:=by omega
 have hmi:List.map aQ e.ms=[]∨∃ x y,e.ms=x::y:=by cases e.ms with|nil=>exact .inl rfl|cons x y=>exact .inr ⟨x,y,rfl⟩
 refine ACalls.fW ax (tCq u4 (tCq dW (tCq pR tNq))) Tryz.func19 [.cell 8 26] (nrq _) (T:=av [(1,[[],[],[],[2],[],[],[],[2,6],[],[2,6],[],[2,6]]),(5,[[],[],[],[],[],[],[],[5]]),(801,[[100000],[100004]]),(1201,[[300000,300004]])]) (h:=fun hcl hlt=>?_)
 clear hlt
 rw [he']
 clear he' hce
 simp only [bp,aM,bhq,Nat.reduceMod,Nat.reduceDiv,aD,aE,aF,bf,aG,bc,aZ,bb,a9,yaq,yar,yao,yap,go_sem,bG]
 refine ⟨⟨by omega,by omega,hone⟩,⟨by omega,by omega,hone2⟩,?_⟩
 have hidx:e.ms≠[]→(0:Int)≤a.tdiv 16 % (e.ms.length:Int)∧a.tdiv 16 % (e.ms.length:Int)<(e.ms.length:Int):=fun h=>by
  have:0<e.ms.length:=List.length_pos_iff.2 h
  exact Y121
 have hms:e.ms=[]∨(List.map aQ e.ms).isEmpty=false:=by cases e.ms with|nil=>exact .inl rfl|cons x y=>exact .inr rfl
 have has:e.args=[]∨(List.map vv e.args).isEmpty=false:=by cases e.args with|nil=>exact .inl rfl|cons x y=>exact .inr rfl
 have hz1:∀ z∈[AV.agg [AV.int .u64 ((v/2^64:Nat):Int),AV.int .u64 ((v % 2^64:Nat):Int)]],bM z.cells=true:=fun z hz=>by rw [List.mem_singleton.1 hz];rfl
 have hz2:∀ z∈[AV.agg [AV.bool (jA .i64 b 1==1),AV.int .u64 ((v/2^64:Nat):Int),AV.int .u64 ((v % 2^64:Nat):Int),AV.int .u64 0,AV.int .u64 0,AV.int .i64 0,AV.int .u64 0,AV.int .u64 0]],bM z.cells=true:=fun z hz=>by rw [List.mem_singleton.1 hz];rfl
 have hs3:=And.intro (show (e.args.length+1)*16≤140737488355328 by omega) (And.intro (show e.args.length≤140737488355327 by omega) hz1)
 have hs4:=And.intro (show (e.ms.length+1)*64≤140737488355328 by omega) (And.intro (show e.ms.length≤140737488355327 by omega) hz2)
 rcases hms with hm0|hie
 ·have d1:decide ((e.ms.length:Int) > 0)=false:=by rw [hm0];rfl
  simp only [bp,aM,bhq,Nat.reduceMod,Nat.reduceDiv,aD,aE,aF,bf,aG,bc,aZ,bb,a9,yaq,yar,yao,yap,go_sem,bG,d1,gI,hw]
  refine ⟨⟨by omega,by omega,by omega,by omega⟩,?_⟩
  have hie:(List.map aQ e.ms).isEmpty=true:=by rw [hm0];rfl
  rcases has with ha0|hia
  ·have hia:(List.map vv e.args).isEmpty=true:=by rw [ha0];rfl
   rcases iw with rfl|rfl|rfl|rfl|rfl|rfl|rfl|rfl|rfl|rfl|rfl|rfl|rfl|rfl
   all_goals
    simp only [wE,Int.reduceEq,if_true,if_false]
    simp only [bp,aM,bhq,Nat.reduceMod,Nat.reduceDiv,aD,aE,aF,bf,aG,bc,aZ,bb,a9,yaq,yar,yao,yap,go_sem,bG,cH,gl,htd,Int.reduceBEq,iNq,vc,vv,yal,yak,ivz,bD,hie,hia,List.isEmpty_nil,List.isEmpty_cons,yaf]
    try refine xP ?_
    try simp only [bp,aM,bhq,Nat.reduceMod,Nat.reduceDiv,aD,aE,aF,bf,aG,bc,aZ,bb,a9,yaq,yar,yao,yap,go_sem,ha0,yba,Int.natCast_zero,Int.lt_irrefl,decide_false]
    (repeat with_reducible refine And.intro (by first|assumption|decide|omega) ?_)
    refine ⟨⟨rfl,.inl ⟨.inl rfl,rfl,?_⟩,rfl,rfl,.inl ⟨.inl rfl,rfl,?_⟩,trivial⟩,by repeat first|exact .refl _|refine .push ?_ _,hcl,gE _⟩<;>first|rfl|(rw [ha0];rfl)|(simp only [List.map_append,yae,yaf,aQ,bE,vv,vc,yal,yak,Nat.zero_div,Nat.zero_mod,Int.natCast_zero];done)|(simp only [ha0,List.map_append,yae,yaf,aQ,bE,vv,vc,yal,yak,Nat.zero_div,Nat.zero_mod,Int.natCast_zero];done)
  ·have h12:w≠12:=fun h=>h2 ⟨fun h=>by rw [h] at hia;simp at hia,h⟩
   have iw:w=0∨w=1∨w=2∨w=3∨w=4∨w=5∨w=6∨w=7∨w=8∨w=9∨w=10∨w=11∨w=13:=by omega
   rcases iw with rfl|rfl|rfl|rfl|rfl|rfl|rfl|rfl|rfl|rfl|rfl|rfl|rfl
   all_goals
    simp only [wE,Int.reduceEq,if_true,if_false]
    simp only [bp,aM,bhq,Nat.reduceMod,Nat.reduceDiv,aD,aE,aF,bf,aG,bc,aZ,bb,a9,yaq,yar,yao,yap,go_sem,bG,cH,gl,htd,Int.reduceBEq,iNq,vc,vv,yal,yak,ivz,bD,hie,hia,List.isEmpty_nil,List.isEmpty_cons,yaf]
    (repeat with_reducible refine And.intro (by first|assumption|decide|omega) ?_)
    refine ⟨⟨rfl,.inl ⟨.inl rfl,rfl,?_⟩,rfl,rfl,.inl ⟨.inl rfl,rfl,?_⟩,trivial⟩,by repeat first|exact .refl _|refine .push ?_ _,hcl,gE _⟩<;>first|rfl|(rw [ha0];rfl)|(simp only [List.map_append,yae,yaf,aQ,bE,vv,vc,yal,yak,Nat.zero_div,Nat.zero_mod,Int.natCast_zero];done)|(simp only [ha0,List.map_append,yae,yaf,aQ,bE,vv,vc,yal,yak,Nat.zero_div,Nat.zero_mod,Int.natCast_zero];done)
 ·have hne:e.ms≠[]:=fun h=>by rw [h] at hie;simp at hie
  have hx1:¬ (5≤w∧w≤11∨w=13):=fun h=>h1 ⟨hne,h⟩
  have hi:=hidx hne
  have d1:decide ((e.ms.length:Int) > 0)=true:=dtq (by omega)
  simp only [bp,aM,bhq,Nat.reduceMod,Nat.reduceDiv,aD,aE,aF,bf,aG,bc,aZ,bb,a9,yaq,yar,yao,yap,go_sem,bG,d1,gI,hw,htd]
  (repeat with_reducible refine And.intro (by first|decide|omega|exact ⟨by omega,by omega,by omega,by omega⟩|(simp only [ybb];omega)) ?_)
  rcases has with ha0|hia
  ·have hia:(List.map vv e.args).isEmpty=true:=by rw [ha0];rfl
   have iw:w=0∨w=1∨w=2∨w=3∨w=4∨w=12:=by omega
   rcases iw with rfl|rfl|rfl|rfl|rfl|rfl
   all_goals
    simp only [wE,Int.reduceEq,if_true,if_false]
    simp only [bp,aM,bhq,Nat.reduceMod,Nat.reduceDiv,aD,aE,aF,bf,aG,bc,aZ,bb,a9,yaq,yar,yao,yap,go_sem,bG,cH,gl,htd,Int.reduceBEq,iNq,vc,vv,yal,yak,ivz,bD,hie,hia,List.isEmpty_nil,List.isEmpty_cons,yaf]
    try refine xP ?_
    try simp only [bp,aM,bhq,Nat.reduceMod,Nat.reduceDiv,aD,aE,aF,bf,aG,bc,aZ,bb,a9,yaq,yar,yao,yap,go_sem,ha0,yba,Int.natCast_zero,Int.lt_irrefl,decide_false]
    (repeat with_reducible refine And.intro (by first|assumption|decide|omega) ?_)
    refine ⟨⟨rfl,.inl ⟨.inl rfl,rfl,?_⟩,rfl,rfl,.inl ⟨.inl rfl,rfl,?_⟩,trivial⟩,by repeat first|exact .refl _|refine .push ?_ _,hcl,gE _⟩<;>first|rfl|(rw [ha0];rfl)|(simp only [List.map_append,yae,yaf,aQ,bE,vv,vc,yal,yak,Nat.zero_div,Nat.zero_mod,Int.natCast_zero];done)|(simp only [ha0,List.map_append,yae,yaf,aQ,bE,vv,vc,yal,yak,Nat.zero_div,Nat.zero_mod,Int.natCast_zero];done)
  ·have h12:w≠12:=fun h=>h2 ⟨fun h=>by rw [h] at hia;simp at hia,h⟩
   have iw:w=0∨w=1∨w=2∨w=3∨w=4:=by omega
   rcases iw with rfl|rfl|rfl|rfl|rfl
   all_goals
    simp only [wE,Int.reduceEq,if_true,if_false]
    simp only [bp,aM,bhq,Nat.reduceMod,Nat.reduceDiv,aD,aE,aF,bf,aG,bc,aZ,bb,a9,yaq,yar,yao,yap,go_sem,bG,cH,gl,htd,Int.reduceBEq,iNq,vc,vv,yal,yak,ivz,bD,hie,hia,List.isEmpty_nil,List.isEmpty_cons,yaf]
    (repeat with_reducible refine And.intro (by first|assumption|decide|omega) ?_)
    refine ⟨⟨rfl,.inl ⟨.inl rfl,rfl,?_⟩,rfl,rfl,.inl ⟨.inl rfl,rfl,?_⟩,trivial⟩,by repeat first|exact .refl _|refine .push ?_ _,hcl,gE _⟩<;>first|rfl|(rw [ha0];rfl)|(simp only [List.map_append,yae,yaf,aQ,bE,vv,vc,yal,yak,Nat.zero_div,Nat.zero_mod,Int.natCast_zero];done)|(simp only [ha0,List.map_append,yae,yaf,aQ,bE,vv,vc,yal,yak,Nat.zero_div,Nat.zero_mod,Int.natCast_zero];done)
end Go.AL
