/- Contracts and plain laws, a part of the proof; no condition of its own. -/
import Derived.Test.YtiiiljghmilepaaS08p
open List renaming length_map → ybb, length_cons → yaz, length_nil → yba, take_succ_cons → yaq, take_zero → yar, drop_succ_cons → yao, drop_zero → yap, take_of_length_le → ybc, drop_append → ybd, take_append → ybe, drop_eq_nil_of_le → ybf, nil_append → yak
open Go Go.AL Go.Proofs
namespace Go.AL
set_option linter.all false
set_option maxRecDepth 10000
def im:List AV→AHeap→(AV→Prop)→Prop
 |[.slice _ 1 l,.int .i64 n,.int .i64 k],_,K=>(isB l ∧ -9223372036854775808≤n∧n<9223372036854775808 ∧ -9223372036854775808≤k∧k<9223372036854775808)∧K (.bool true)
 |_,_,_=>False
/-- the variables in another order, the first k written -/
def df (vs:List VN) (t k:Nat):List VN:=(List.range k).map (fun i=>vs.getD ((i+t) % vs.length) ([],[]))++vs.drop k
theorem lx {vs:List VN} {t k:Nat} (h:k≤vs.length):(df vs t k).length=vs.length:=by
 unfold df
 simp only [List.length_append,ybb,List.length_range,List.length_drop];omega
theorem oo {vs:List VN} {t:Nat}:df vs t 0=vs:=by simp [df]
theorem pu {vs:List VN} {t k:Nat} (h:k<vs.length):∃ A,A.length=k∧df vs t k=A++vs[k]::vs.drop (k+1)∧df vs t (k+1)=A++vs.getD ((k+t) % vs.length) ([],[])::vs.drop (k+1):=by
 refine ⟨(List.range k).map (fun i=>vs.getD ((i+t) % vs.length) ([],[])),by simp,?_,?_⟩
 ·unfold df;rw [List.drop_eq_getElem_cons h]
 ·unfold df;rw [List.range_succ];simp
theorem turnV_mem {vs:List VN} {t:Nat} {x:VN}:x∈df vs t vs.length↔x∈vs:=by
 have e:df vs t vs.length=(List.range vs.length).map (fun i=>vs.getD ((i+t) % vs.length) ([],[])):=by unfold df;simp
 rw [e]
 constructor
 ·intro h
  obtain ⟨i,hi,rfl⟩:=List.mem_map.1 h
  have hi':=List.mem_range.1 hi
  have hm:(i+t) % vs.length<vs.length:=Nat.mod_lt _ (by omega)
  rw [List.getD_eq_getElem?_getD,List.getElem?_eq_getElem hm]
  exact List.getElem_mem hm
 ·intro h
  obtain ⟨j,hj,rfl⟩:=List.getElem_of_mem h
  have hp:0<vs.length:=by omega
  refine List.mem_map.2 ⟨(j+(vs.length - t % vs.length)) % vs.length,List.mem_range.2 (Nat.mod_lt _ hp),?_⟩
  have hm:((j+(vs.length - t % vs.length)) % vs.length+t) % vs.length=j:=by
   have h1:=Nat.mod_lt t hp
   have h2:(j+(vs.length - t % vs.length)+t) % vs.length=j:=by
    have h3:j+(vs.length - t % vs.length)+t=j+vs.length*(1+t/vs.length):=by
     have:=Nat.div_add_mod t vs.length
     rw [Nat.mul_add,Nat.mul_one]
     omega
    rw [h3,Nat.add_mul_mod_self_left,Nat.mod_eq_of_lt hj]
   rw [Nat.mod_add_mod];exact h2
  rw [hm,List.getD_eq_getElem?_getD,List.getElem?_eq_getElem hj];rfl
theorem oU {vs:List VN} {t:Nat} (x:VN):aK (df vs t vs.length) x=aK vs x:=by
 rw [Bool.eq_iff_iff]
 unfold aK
 rw [List.contains_iff_mem,List.contains_iff_mem]
 exact turnV_mem
def fO (v:VN):List AV:=[.str v.1,.str v.2]
theorem tp (l:List VN):(aW l).flatMap AV.cells=l.flatMap fO:=by
 unfold aW;rw [List.flatMap_map];rfl
theorem fD:∀ (l:List VN),(l.flatMap fO).length=l.length*2
 |[]=>rfl
 |m::l=>by
  rw [List.flatMap_cons,List.length_append,fD l,yaz]
  show 2+_=_
  omega
theorem sP (J:List AV) (l:List VN):ba 2 l.length (l.flatMap fO++J)=aW l:=by
 induction l with
 |nil=>rfl
 |cons m l ih =>
  rw [List.flatMap_cons,List.append_assoc]
  show AV.agg _::ba 2 l.length (List.drop 2 (fO m++(l.flatMap fO++J)))=_
  rw [show List.drop 2 (fO m++(l.flatMap fO++J))=l.flatMap fO++J from rfl,ih]
  rfl
theorem jT:∀ (X Y:List AV) (v:List AV),splice (X++Y) X.length v=X++splice Y 0 v
 |[],Y,v=>by simp
 |x::X,Y,v=>by
  have:=jT X Y v
  show x::splice (X++Y) X.length v=_
  rw [this];rfl
theorem mX {vs:List VN} {t k:Nat} (h:k<vs.length) (J:List AV):splice ((df vs t k).flatMap fO++J) (k*2) [.str (vs.getD ((k+t) % vs.length) ([],[])).1,.str (vs.getD ((k+t) % vs.length) ([],[])).2]=(df vs t (k+1)).flatMap fO++J:=by
 obtain ⟨A,hA,e1,e2⟩:=pu (t:=t) h
 have hk2:k*2=(A.flatMap fO).length:=by rw [fD,hA]
 rw [e1,e2,hk2,List.flatMap_append,List.flatMap_append,List.flatMap_cons,List.flatMap_cons,List.append_assoc,List.append_assoc,jT]
 simp [fO,splice,gZ]
theorem nG (z n:Nat):(z:Int).tmod (n:Int)=((z % n:Nat):Int):=by
 rw [Int.tmod_eq_emod_of_nonneg (Int.natCast_nonneg z)];rfl
theorem uA (z n:Nat):((z:Int).tmod (n:Int)+(n:Int)).tmod (n:Int)=((z % n:Nat):Int):=by
 rw [nG,← Int.natCast_add,nG,Nat.add_mod_right,Nat.mod_mod]
def xV:VN:=([120],[])
theorem jN {vs:List VN} {v x:VN} (h:aK vs x=true):aK (vs++[v]) x=true:=by
 unfold aK at *
 rw [List.contains_iff_mem] at *
 exact List.mem_append_left _ h
set_option maxHeartbeats 8000000 in
theorem ok_TypesOrder:EntOk Try.prog 5 (Ent.pure im):=by
 refine EntOk.pure fun args H K h=>?_
 unfold im at h
 split at h
 rotate_left
 ·exact h.elim
 rename_i m l n kk
 obtain ⟨⟨hB,hn1,hn2,hk1,hk2⟩,hK⟩:=h
 obtain ⟨b,rfl⟩:=ub hB
 clear hB
 refine ⟨_,hK,?_⟩
 clear hK
 have h_CSent:=ks (A:=True) 4
 obtain ⟨B1,hB1⟩:∃ B1,b.take (min (b.length:Int) 60).toNat=B1:=⟨_,rfl⟩
 have hL1:B1.length≤60:=by rw [← hB1,List.length_take];omega
 have hb2:bS 4≤1000000:=by decide
 refine ACalls.fW aI (TblOk.cons ua (TblOk.cons h_CSent (TblOk.cons rV (TblOk.cons u3 (TblOk.cons jm (TblOk.cons oE TblOk.nil)))))) Try.func5 [.tmp 6] (Nat.le_refl _) (T:=az [(4,[[0,3]]),(10,[[1]])]) (h:=fun hcl hlt=>?_)
 clear hlt
 simp only [go_sem,o9]
 refine ⟨b,⟨rfl,by omega⟩,?_⟩
 rw [hB1]
 simp only [eZ,eU,bhq,Nat.reduceMod,Nat.reduceDiv,cU,cS,db,fF,dd,fe,eu,eV,eT,yaq,yar,yao,yap,go_sem,bf]
 refine ⟨B1,0,⟨rfl,⟨by omega,by omega⟩,by omega,rfl,by omega⟩,fun q a' hq _ _=>?_⟩
 have hql:q.length≤140737488355328:=by omega
 simp only [eZ,eU,aF,bhq,Nat.reduceMod,Nat.reduceDiv,cU,cS,db,fF,dd,fe,eu,eV,eT,yaq,yar,yao,yap,go_sem,mN]
 intro vs hv1 hv2
 have hov:=sL hv1 hv2
 simp only [eZ,eU,aF,bhq,Nat.reduceMod,Nat.reduceDiv,cU,cS,db,fF,dd,fe,eu,eV,eT,yaq,yar,yao,yap,go_sem,bE,pK]
 have hone:∀ z∈aW vs,aJ z.cells=true:=oS
 refine ⟨⟨by omega,by omega,by omega,by omega⟩,⟨by omega,by omega,hone⟩,?_⟩
 obtain ⟨t,ht,htl⟩:∃ t:Nat,(kk.tmod (max (vs.length:Int) 1)+max (vs.length:Int) 1).tmod (max (vs.length:Int) 1)=(t:Int)∧t≤6:=by
  obtain ⟨h1,h2⟩:=@mod_lt kk (max (vs.length:Int) 1) (by omega)
  exact ⟨((kk.tmod (max (vs.length:Int) 1)+max (vs.length:Int) 1).tmod (max (vs.length:Int) 1)).toNat,by omega,by omega⟩
 rw [ht]
 have hce:=@lZ (aK vs) q
 have hce2:=@lZ (aK (vs++[xV])) q
 have hmono:(comp (aK vs) q).2=0→(comp (aK (vs++[xV])) q).2=0:=lF fun x h=>jN h
 have hov2:oV (vs++[xV]):=⟨by rw [List.length_append];simp only [yaz,yba];omega,fun v hv=>by
  rcases List.mem_append.1 hv with h|h
  ·exact hov.2 v h
  ·rw [List.mem_singleton.1 h];decide⟩
 by_cases hv0:vs=[]
 ·subst hv0
  have hie:(aW ([]:List VN)).isEmpty=true:=rfl
  rw [hie]
  have hn0:aW ([]:List VN)=[]:=rfl
  simp only [if_true,hn0]
  have hc0:((H.push (cod B1 a')).push (.buf 2 0)).Closed:=ai (af hcl ⟨ld fun x hx=>by obtain ⟨c,_,rfl⟩:=List.mem_map.1 hx;simp only [aX,zmz],by simp only [zmz],trivial⟩)
  refine aV (A:=Nat) (fun j=>[(2,.int .i64 (t:Int)),(7,.str q),(8,.slice .any 2 []),(9,.slice .full 2 []),(31,.int .i64 ((0:Nat):Int)),(32,.int .i64 ((0:Nat):Int))])
   (fun j=>(H.push (cod B1 a')).push (.buf 2 0)) (fun j=>j=0) (fun j=>j) 0 rfl ?_ fun j hj=>?_
  ·(simp only [bkq,enterW,bF,ltF,ne_eq,Nat.reduceEqDiff,reduceCtorEq,hc0,bw,znp];try simp (disch:=first|assumption|omega|(simp;done)|(simp;omega)|(simp only [bt,and_true];first|done|omega|(simp;done))) [↓zmi,beq,ybc,ybd,ybe,ah,wk,wk2,wk1,wkM,wkL,ap,ybf,byq,biq,au,hcl,hc0,bw,znp];try (repeat' (first|assumption|omega|exact True.intro|refine And.intro ?_ ?_|refine ai ?_|refine ac ?_|refine af ?_ ?_|refine aj ?_ ?_|refine al ?_|exact AHeap.Le.refl _|refine AHeap.Le.push ?_ _|refine AHeap.Le.del ?_ ?_|(simp only [bt,and_true,true_and,hc0,bw,znp];first|done|omega|(simp;done)))))
  simp only [go_sem]
  refine am (fun hc=>by simp at hc) (fun hc=>?_)
  simp only [eZ,eU,aF,bhq,Nat.reduceMod,Nat.reduceDiv,cU,cS,db,fF,dd,fe,eu,eV,eT,yaq,yar,yao,yap,go_sem]
  refine qy 8 (.slice .any 2 []) (by simp [Fr.get,wkD,wkM]) ?_
  simp only [eZ,eU,aF,bhq,Nat.reduceMod,Nat.reduceDiv,cU,cS,db,fF,dd,fe,eu,eV,eT,yaq,yar,yao,yap,go_sem,cd]
  refine ⟨[],⟨rfl,hov,hql⟩,?_⟩
  simp only [eZ,eU,aF,bhq,Nat.reduceMod,Nat.reduceDiv,cU,cS,db,fF,dd,fe,eu,eV,eT,yaq,yar,yao,yap,go_sem,cQ,cd]
  refine ⟨[],⟨rfl,hov,hql⟩,fun z hz=>by rw [List.mem_singleton.1 hz];rfl,[xV],⟨rfl,hov2,hql⟩,?_⟩
  rw [yak] at hmono hce2
  generalize comp (aK []) q=c1 at *
  generalize comp (aK [xV]) q=c2 at *
  by_cases hz:c1.2=0
  ·have d1:((c1.2:Int) != 0)=false:=by rw [hz];rfl
   have d2:((c2.2:Int)==0)=true:=by rw [hmono hz];rfl
   simp only [eZ,eU,aF,bhq,Nat.reduceMod,Nat.reduceDiv,cU,cS,db,fF,dd,fe,eu,eV,eT,yaq,yar,yao,yap,go_sem,cQ,beq_self_eq_true,d1,d2,ei]
   simp (disch:=first|assumption|omega|(simp;done)|(simp;omega)|(simp only [bt,and_true];first|done|omega|(simp;done))) [↓zmi,beq,ybc,ybd,ybe,ah,wk,wk2,wk1,wkM,wkL,ap,ybf,hcl]
  ·have d1:((c1.2:Int) != 0)=true:=bne_iff_ne.2 (by omega)
   simp only [eZ,eU,aF,bhq,Nat.reduceMod,Nat.reduceDiv,cU,cS,db,fF,dd,fe,eu,eV,eT,yaq,yar,yao,yap,go_sem,cQ,beq_self_eq_true,d1,ei]
   simp (disch:=first|assumption|omega|(simp;done)|(simp;omega)|(simp only [bt,and_true];first|done|omega|(simp;done))) [↓zmi,beq,ybc,ybd,ybe,ah,wk,wk2,wk1,wkM,wkL,ap,ybf,hcl]
 have hie:(aW vs).isEmpty=false:=by
  cases vs with
  |nil=>exact absurd rfl hv0
  |cons x y=>rfl
 have hpos:0<vs.length:=List.length_pos_iff.2 hv0
 rw [hie]
 simp only [Bool.false_eq_true,if_false]
 refine ⟨fun e=>(by rw [e] at hie;cases hie),fun kr=>?_⟩
 rw [bE]
 have hC0:(aW vs).flatMap AV.cells=(df vs t 0).flatMap fO:=by rw [oo,tp]
 rw [hC0]
 have hHc:∀ W:List VN,((H.push (cod B1 a')).push (.cells (W.flatMap fO++List.replicate kr .junk))).Closed:=fun W=>af (af hcl ⟨ld fun x hx=>by obtain ⟨c,_,rfl⟩:=List.mem_map.1 hx;simp only [aX,zmz],by simp only [zmz],trivial⟩) (ltL_iff.2 fun j hj=>by
  have hm:=List.getElem_mem hj
  rcases List.mem_append.1 hm with h|h
  ·obtain ⟨v,_,hv⟩:=List.mem_flatMap.1 h
   simp only [fO,List.mem_cons,List.not_mem_nil,or_false] at hv
   rcases hv with h|h<;>rw [h]<;>simp only [znb]
  ·rw [List.eq_of_mem_replicate h];simp only [zng])
 refine aV (A:=Nat) (fun j=>[(2,.int .i64 (t:Int)),(7,.str q),(8,.slice .any 2 (aW vs)),(9,.ms (H.nx+1) 0 2 vs.length),(31,.int .i64 (vs.length:Int)),(32,.int .i64 (j:Int))])
  (fun j=>(H.push (cod B1 a')).push (.cells ((df vs t j).flatMap fO++List.replicate kr .junk))) (fun j=>j≤vs.length) (fun j=>vs.length - j) 0 (by omega) ?_ fun j hj=>?_
 ·have hc0:=hHc (df vs t 0)
  (simp only [bkq,enterW,bF,ltF,ne_eq,Nat.reduceEqDiff,reduceCtorEq,hc0,aM];try simp (disch:=first|assumption|omega|(simp;done)|(simp;omega)|(simp only [bt,and_true];first|done|omega|(simp;done))) [↓zmi,beq,ybc,ybd,ybe,ah,wk,wk2,wk1,wkM,wkL,ap,ybf,byq,biq,au,hcl,hc0,aM];try (repeat' (first|assumption|omega|exact True.intro|refine And.intro ?_ ?_|refine ai ?_|refine ac ?_|refine af ?_ ?_|refine aj ?_ ?_|refine al ?_|exact AHeap.Le.refl _|refine AHeap.Le.push ?_ _|refine AHeap.Le.del ?_ ?_|(simp only [bt,and_true,true_and,hc0,aM];first|done|omega|(simp;done)))))
 simp only [go_sem]
 refine am (fun hc=>?_) (fun hc=>?_)
 ·have hj1:j<vs.length:=by simp at hc;omega
  have e5:IntKind.i64.wrap ((j:Int)+1)=((j+1:Nat):Int):=by rw [wrap_i64]<;>omega
  have e6:IntKind.i64.wrap ((j:Int)+(t:Int))=((j+t:Nat):Int):=by rw [wrap_i64]<;>omega
  have hm:(j+t) % vs.length<vs.length:=Nat.mod_lt _ hpos
  simp only [eZ,eU,aF,bhq,Nat.reduceMod,Nat.reduceDiv,cU,cS,db,fF,dd,fe,eu,eV,eT,yaq,yar,yao,yap,go_sem,bE,Int.toNat_natCast,pK,e5,e6,uA,ia hm]
  have hgd:vs.getD ((j+t) % vs.length) ([],[])=vs[(j+t) % vs.length]:=by simp [List.getD_eq_getElem?_getD,hm]
  have hspl:=mX (t:=t) hj1 (List.replicate kr .junk)
  rw [hgd] at hspl
  rw [hspl]
  have hll:((df vs t j).flatMap fO++List.replicate kr AV.junk).length=vs.length*2+kr:=by rw [List.length_append,fD,lx (by omega),List.length_replicate]
  refine ⟨⟨by omega,by omega,by omega,by omega⟩,⟨by omega,by omega⟩,by omega,by omega,j+1,by omega,by omega,?_⟩
  have hc0:=hHc (df vs t (j+1))
  (simp only [bkq,enterW,bF,ltF,ne_eq,Nat.reduceEqDiff,reduceCtorEq,hc0,aM];try simp (disch:=first|assumption|omega|(simp;done)|(simp;omega)|(simp only [bt,and_true];first|done|omega|(simp;done))) [↓zmi,beq,ybc,ybd,ybe,ah,wk,wk2,wk1,wkM,wkL,ap,ybf,byq,biq,au,hcl,hc0,aM];try (repeat' (first|assumption|omega|exact True.intro|refine And.intro ?_ ?_|refine ai ?_|refine ac ?_|refine af ?_ ?_|refine aj ?_ ?_|refine al ?_|exact AHeap.Le.refl _|refine AHeap.Le.push ?_ _|refine AHeap.Le.del ?_ ?_|(simp only [bt,and_true,true_and,hc0,aM];first|done|omega|(simp;done)))))
 ·have hj1:j=vs.length:=by simp at hc;omega
  subst hj1
  obtain ⟨W,hW⟩:∃ W,df vs t vs.length=W:=⟨_,rfl⟩
  have hWl:W.length=vs.length:=by rw [← hW];exact lx (Nat.le_refl _)
  have hWk:∀ x,aK W x=aK vs x:=fun x=>by rw [← hW];exact oU x
  have hWm:∀ v,v∈W→v∈vs:=fun v h=>by rw [← hW] at h;exact turnV_mem.1 h
  have hovW:oV W:=⟨by omega,fun v hv=>hov.2 v (hWm v hv)⟩
  have hovX:oV (W++[xV]):=⟨by rw [List.length_append];simp only [yaz,yba];omega,fun v hv=>by
   rcases List.mem_append.1 hv with h|h
   ·exact hovW.2 v h
   ·rw [List.mem_singleton.1 h];decide⟩
  have hcW:comp (aK W) q=comp (aK vs) q:=oA hWk
  have hmW:(comp (aK vs) q).2=0→(comp (aK (W++[xV])) q).2=0:=lF fun x h=>jN (by rw [hWk];exact h)
  have hceW:=@lZ (aK (W++[xV])) q
  have hrow:ba 2 vs.length (W.flatMap fO++List.replicate kr AV.junk)=aW W:=by rw [← hWl];exact sP _ W
  rw [hW]
  simp only [eZ,eU,aF,bhq,Nat.reduceMod,Nat.reduceDiv,cU,cS,db,fF,dd,fe,eu,eV,eT,yaq,yar,yao,yap,go_sem]
  refine tA (H.nx+1) 2 vs.length ?_
  have hle1:(vs.length≤vs.length)=True:=eq_true (Nat.le_refl _)
  have hsx:aW W++[.agg [.str [120],.str []]]=aW (W++[xV]):=eD (v:=xV)
  simp only [eZ,eU,aF,bhq,Nat.reduceMod,Nat.reduceDiv,cU,cS,db,fF,dd,fe,eu,eV,eT,yaq,yar,yao,yap,go_sem,hrow,hle1,if_true,cd]
  refine ⟨vs,⟨rfl,hov,hql⟩,?_⟩
  simp only [eZ,eU,aF,bhq,Nat.reduceMod,Nat.reduceDiv,cU,cS,db,fF,dd,fe,eu,eV,eT,yaq,yar,yao,yap,go_sem,cQ,cd]
  refine ⟨W,⟨rfl,hovW,hql⟩,?_⟩
  rw [hcW]
  simp only [eZ,eU,aF,bhq,Nat.reduceMod,Nat.reduceDiv,cU,cS,db,fF,dd,fe,eu,eV,eT,yaq,yar,yao,yap,go_sem,cQ,bE,hWl,hsx,cd]
  refine ⟨⟨by omega,by omega,fun z hz=>by rw [List.mem_singleton.1 hz];rfl⟩,W++[xV],⟨rfl,hovX,hql⟩,?_⟩
  generalize comp (aK vs) q=c1 at *
  generalize comp (aK (W++[xV])) q=c2 at *
  by_cases hz:c1.2=0
  ·have d1:((c1.2:Int) != 0)=false:=by rw [hz];rfl
   have d2:((c2.2:Int)==0)=true:=by rw [hmW hz];rfl
   simp only [eZ,eU,aF,bhq,Nat.reduceMod,Nat.reduceDiv,cU,cS,db,fF,dd,fe,eu,eV,eT,yaq,yar,yao,yap,go_sem,cQ,beq_self_eq_true,d1,d2,ei]
   simp (disch:=first|assumption|omega|(simp;done)|(simp;omega)|(simp only [bt,and_true];first|done|omega|(simp;done))) [↓zmi,beq,ybc,ybd,ybe,ah,wk,wk2,wk1,wkM,wkL,ap,ybf,hcl]
   exact (((((AHeap.Le.refl H).push _).push _).del (by omega)).push _).push _
  ·have d1:((c1.2:Int) != 0)=true:=bne_iff_ne.2 (by omega)
   simp only [eZ,eU,aF,bhq,Nat.reduceMod,Nat.reduceDiv,cU,cS,db,fF,dd,fe,eu,eV,eT,yaq,yar,yao,yap,go_sem,cQ,beq_self_eq_true,d1,ei]
   simp (disch:=first|assumption|omega|(simp;done)|(simp;omega)|(simp only [bt,and_true];first|done|omega|(simp;done))) [↓zmi,beq,ybc,ybd,ybe,ah,wk,wk2,wk1,wkM,wkL,ap,ybf,hcl]
   exact (((((AHeap.Le.refl H).push _).push _).del (by omega)).push _).push _
end Go.AL
