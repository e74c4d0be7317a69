/- Contracts and plain laws, a part of the proof; no condition of its own. -/
import Derived.Test.YtokjjhidigoodaaS09u
open List renaming length_cons → yaz, length_nil → yba, take_succ_cons → yaq, take_zero → yar, drop_succ_cons → yao, drop_zero → yap, length_map → ybb, take_of_length_le → ybc, drop_append → ybd, take_append → ybe, drop_eq_nil_of_le → ybf
open Go Go.AL Go.Proofs
namespace Go.AL
set_option linter.all false
set_option maxRecDepth 10000
theorem oE {b:List UInt8} {K:List UInt8→Nat→Prop} (hb:b.length≤1000000):onC (some (.cells [.slice .any 1 (bys b),.int .i64 0])) K=K b 0:=by
 have:=bk (v:=0) (K:=K) hb
 unfold dl at this
 simpa using this
theorem xP {b:List UInt8}:SLen (cM b 0).1:=⟨by simp only [cM];decide,by simp only [cM];decide,by
 show (bu b (cp 0 2)).1.length≤1000000
 unfold bu
 split<;>split<;>simp,by
 simp only [cM,cl];simp,by
 simp only [cM,ce];simp,by
 simp only [cM,gk];simp⟩
structure EBnd (e:SEntry):Prop where
 ml:e.ms.length≤4611686018427387904
 pf:∀ m∈e.ms,m.pfx<9223372036854775808
 pr:e.prio<9223372036854775808
def mZ:List AV→AHeap→(AV→Prop)→Prop
 |[.agg [_,_,.slice _ 3 x,_,_,_,_,_],.agg le,.agg [_,_,.slice _ 2 y,_,_],.slice _ 1 l,.int .i64 n],_,K =>
   ((∃ keys:List SKey,x=keys.map cg)∧(∃ e,le=gJ e∧EBnd e)∧(∃ ps:List SParam,y=ps.map bq)∧isB l ∧ -9223372036854775808≤n∧n≤9223372036854775807)∧K (.bool true)
 |_,_,_=>False
set_option maxHeartbeats 8000000 in
theorem ok_EvalBinds:EntOk Try.prog 5 (Ent.pure mZ):=by
 refine EntOk.pure fun args H K h=>?_
 unfold mZ at h
 split at h
 rotate_left
 ·exact h.elim
 rename_i a1 a2 m x a3 a4 a5 a6 a7 le c1 c2 m2 y c3 c4 m3 l n
 obtain ⟨⟨⟨keys,rfl⟩,⟨e,rfl,he⟩,⟨ps,rfl⟩,hB,hn1,hn2⟩,hK⟩:=h
 obtain ⟨b,rfl⟩:=v9 hB
 clear hB
 refine ⟨_,hK,?_⟩
 clear hK
 obtain ⟨B1,hB1⟩:∃ B1,b.take (min (b.length:Int) 120).toNat=B1:=⟨_,rfl⟩
 have hL1:B1.length≤1000000:=by rw [← hB1,List.length_take];omega
 have hST:(cM B1 0).1.tables=ce B1 (cp (bu B1 (cp 0 2)).2 4):=rfl
 have hSA:(cM B1 0).1.actions=cl B1 (bu B1 (cp 0 2)).2:=rfl
 have hto:=yA B1 (cp (bu B1 (cp 0 2)).2 4)
 have hao:=yt B1 (bu B1 (cp 0 2)).2
 have htl:(cM B1 0).1.tables.length=4:=by rw [hST];rfl
 have hal:(cM B1 0).1.actions.length=6:=by rw [hSA];rfl
 rw [← hST] at hto
 rw [← hSA] at hao
 clear hST hSA
 have hSl:SLen (cM B1 0).1:=xP
 generalize hS:cM B1 0=SS at *
 obtain ⟨S,w1⟩:=SS
 dsimp only at hto hao htl hal hSl
 have hSch:mh=eG fun b v=>(mW (cM b v).1,(cM b v).2):=rfl
 refine ACalls.fW aD (TblOk.cons Bf (TblOk.cons uH (TblOk.cons Cf (TblOk.cons sR (TblOk.cons AA (TblOk.cons Ay (TblOk.cons xu (TblOk.cons yv (TblOk.cons uq TblOk.nil))))))))) Try.func5 [.tmp 10] (Nat.le_refl _) (T:=az [(4,[[],[],[],[],[],[],[4],[],[6],[],[1,4,6,8]]),(5,[[],[],[],[],[],[],[4],[],[6],[],[1,4,6,8]]),(6,[[],[],[],[0,1,2],[],[],[],[0,1,2,3,4,5,6],[0,1,2,3,4,5,6,7],[],[3,7,8],[3,7,8],[3,7,8],[0,1,2,3,4,5,6,7,8,10,11,12],[3,7,8],[3,7,8],[3,7,8],[0,1,2,3,4,5,6,7,8,10,11,12,13,14,15,16],[0,1,2,3,4,5,6,7,8,10,11,12,13,14,15,16,17],[],[],[3,7,8,13,17,18],[],[3,7,8,13,17,18],[0,1,2,3,4,5,6,7,8,10,11,12,13,14,15,16,17,18,21,23],[3,7,8,13,17,18],[],[3,7,8,13,17,18],[0,1,2,3,4,5,6,7,8,10,11,12,13,14,15,16,17,18,21,23,24,25,27],[0,1,2,3,4,5,6,7,8,10,11,12,13,14,15,16,17,18,21,23,24,25,27,28],[],[],[3,7,8,13,17,18,24,28,29],[],[3,7,8,13,17,18,24,28,29],[0,1,2,3,4,5,6,7,8,10,11,12,13,14,15,16,17,18,21,23,24,25,27,28,29,32,34],[3,7,8,13,17,18,24,28,29],[],[3,7,8,13,17,18,24,28,29],[0,1,2,3,4,5,6,7,8,10,11,12,13,14,15,16,17,18,21,23,24,25,27,28,29,32,34,35,36,38],[0,1,2,3,4,5,6,7,8,10,11,12,13,14,15,16,17,18,21,23,24,25,27,28,29,32,34,35,36,38,39],[],[],[0,1,2,3,4,5,6,7,8,10,11,12,13,14,15,16,17,18,21,23,24,25,27,28,29,32,34,35,36,38,39,40]])]) (h:=fun hcl hlt=>?_)
 have hx1:=AV.lt_mono (Nat.le_succ H.nx) _ (hlt (.agg [a1,a2,.slice m 3 (keys.map cg),a3,a4,a5,a6,a7]) (by simp))
 have hx2:=fun n' (hn:H.nx≤n')=>AV.lt_mono hn _ (hlt (.agg (gJ e)) (by simp))
 have hx3:=fun n' (hn:H.nx≤n')=>AV.lt_mono hn _ (hlt (.agg [c1,c2,.slice m2 2 (ps.map bq),c3,c4]) (by simp))
 simp only [znn] at hx1 hx2 hx3
 clear hlt
 by_cases hk20:20<keys.length
 ·have dk:decide ((20:Int)<(keys.length:Int))=true:=decide_eq_true (by omega)
  simp only [cb,bM,gL,bhq,Nat.reduceMod,Nat.reduceDiv,aM,aL,aO,bE,aN,bD,bz,bB,bA,yaq,yar,yao,yap,go_sem,gJ,oL]
  refine ⟨b,⟨rfl,by omega⟩,?_⟩
  rw [hB1]
  simp only [cb,bM,gL,bhq,Nat.reduceMod,Nat.reduceDiv,aM,aL,aO,bE,aN,bD,bz,bB,bA,yaq,yar,yao,yap,go_sem,gJ,hSch,eG,cod,oE hL1,hS,mW,bO,ybb,dk,iM]
  simp (disch:=first|assumption|omega|(simp;done)|(simp;omega)|(simp only [bt,and_true];first|done|omega|(simp;done))) [↓zmk,beq,ybc,ybd,ybe,ag,wk,wk2,wk1,wkM,wkL,am,ybf,hcl]
 by_cases hp20:20<ps.length
 ·have dk:decide ((20:Int)<(keys.length:Int))=false:=decide_eq_false (by omega)
  have dp:decide ((20:Int)<(ps.length:Int))=true:=decide_eq_true (by omega)
  simp only [cb,bM,gL,bhq,Nat.reduceMod,Nat.reduceDiv,aM,aL,aO,bE,aN,bD,bz,bB,bA,yaq,yar,yao,yap,go_sem,gJ,oL]
  refine ⟨b,⟨rfl,by omega⟩,?_⟩
  rw [hB1]
  simp only [cb,bM,gL,bhq,Nat.reduceMod,Nat.reduceDiv,aM,aL,aO,bE,aN,bD,bz,bB,bA,yaq,yar,yao,yap,go_sem,gJ,hSch,eG,cod,oE hL1,hS,mW,bO,ybb,dk,dp,iM]
  simp (disch:=first|assumption|omega|(simp;done)|(simp;omega)|(simp only [bt,and_true];first|done|omega|(simp;done))) [↓zmk,beq,ybc,ybd,ybe,ag,wk,wk2,wk1,wkM,wkL,am,ybf,hcl]
 have dk:decide ((20:Int)<(keys.length:Int))=false:=decide_eq_false (by omega)
 have dp:decide ((20:Int)<(ps.length:Int))=false:=decide_eq_false (by omega)
 simp only [cb,bM,gL,bhq,Nat.reduceMod,Nat.reduceDiv,aM,aL,aO,bE,aN,bD,bz,bB,bA,yaq,yar,yao,yap,go_sem,gJ,oL]
 refine ⟨b,⟨rfl,by omega⟩,?_⟩
 rw [hB1]
 simp only [cb,bM,gL,bhq,Nat.reduceMod,Nat.reduceDiv,aM,aL,aO,bE,aN,bD,bz,bB,bA,yaq,yar,yao,yap,go_sem,gJ,hSch,eG,cod,oE hL1,hS,mW,bO,ybb,dk,dp]
 obtain ⟨i,hi,hil⟩:∃ i:Nat,n % (S.tables.length:Int)=(i:Int)∧i<S.tables.length:=by
  have e4:n % (S.tables.length:Int)=n % 4:=by rw [htl];rfl
  exact ⟨(n % 4).toNat,by omega,by omega⟩
 obtain ⟨j,hj,hjl⟩:∃ j:Nat,n % (S.actions.length:Int)=(j:Int)∧j<S.actions.length:=by
  have e4:n % (S.actions.length:Int)=n % 6:=by rw [hal];rfl
  exact ⟨(n % 6).toNat,by omega,by omega⟩
 have hgt:=cJ (f:=bI) (l:=S.tables) (k:=i) (x:=S.tables[i]) (List.getElem?_eq_getElem hil)
 have hga:=cJ (f:=bW) (l:=S.actions) (k:=j) (x:=S.actions[j]) (List.getElem?_eq_getElem hjl)
 have hT:=hto S.tables[i] (List.getElem_mem hil)
 have hA:=hao S.actions[j] (List.getElem_mem hjl)
 generalize S.tables[i]=X at *
 generalize S.actions[j]=Y at *
 simp only [oI,hi]
 refine ⟨⟨hn1,hn2,by omega,by omega⟩,?_⟩
 simp only [cb,bM,gL,bhq,Nat.reduceMod,Nat.reduceDiv,aM,aL,aO,bE,aN,bD,bz,bB,bA,yaq,yar,yao,yap,go_sem,oI,hi,hgt,Int.toNat_natCast,bI,ybb]
 refine ⟨by omega,.inr (by first|exact ⟨hn1,hn2,by omega,by omega⟩|exact ⟨⟨hn1,hn2,by omega,by omega⟩,rfl⟩),?_⟩
 simp only [cb,bM,gL,bhq,Nat.reduceMod,Nat.reduceDiv,aM,aL,aO,bE,aN,bD,bz,bB,bA,yaq,yar,yao,yap,go_sem,oI,hj,hga,Int.toNat_natCast,bW,ybb]
 refine ⟨⟨hn1,hn2,by omega,by omega⟩,by omega,.inr ⟨hn1,hn2,by omega,by omega⟩,?_⟩
 have hbl1:(ju S.fields keys e.ms e.prio).length≤100000:=by
  have:=@d8 S.fields keys e.ms keys.length
  unfold ju;rw [List.length_append];simp only [yaz,yba];omega
 have hbl2:(ju S.fields X.keys e.ms e.prio).length≤100000:=by
  have:=@d8 S.fields X.keys e.ms X.keys.length
  have:=hT.1
  unfold ju;rw [List.length_append];simp only [yaz,yba];omega
 have hbl3:(gf ps e.args ps.length).length≤100000:=by rw [iK];omega
 have hbl4:(gf Y.params e.args Y.params.length).length≤100000:=by rw [iK];have:=hA.1;omega
 have hT1:=hT.1
 have hA1:=hA.1
 simp only [nH]
 refine ⟨S.fields,keys,e.ms,⟨.inl ⟨_,rfl⟩,hSl.fl,rfl,by omega,.inl ⟨_,rfl⟩,he.ml,he.pf,he.pr⟩,?_⟩
 try simp only [cb,bM,gL,bhq,Nat.reduceMod,Nat.reduceDiv,aM,aL,aO,bE,aN,bD,bz,bB,bA,yaq,yar,yao,yap,go_sem,nX]
 refine ⟨S,keys,e.ms,⟨rfl,hSl,rfl,by omega,.inl ⟨_,rfl⟩,he.ml,he.pf,he.pr⟩,?_⟩
 try simp only [cb,bM,gL,bhq,Nat.reduceMod,Nat.reduceDiv,aM,aL,aO,bE,aN,bD,bz,bB,bA,yaq,yar,yao,yap,go_sem,j6]
 refine ⟨_,⟨rfl,rfl,hbl1⟩,?_⟩
 try simp only [cb,bM,gL,bhq,Nat.reduceMod,Nat.reduceDiv,aM,aL,aO,bE,aN,bD,bz,bB,bA,yaq,yar,yao,yap,go_sem,nH]
 refine ⟨S.fields,X.keys,e.ms,⟨.inl ⟨_,rfl⟩,hSl.fl,rfl,by omega,.inl ⟨_,rfl⟩,he.ml,he.pf,he.pr⟩,?_⟩
 try simp only [cb,bM,gL,bhq,Nat.reduceMod,Nat.reduceDiv,aM,aL,aO,bE,aN,bD,bz,bB,bA,yaq,yar,yao,yap,go_sem,nX]
 refine ⟨S,X.keys,e.ms,⟨rfl,hSl,rfl,by omega,.inl ⟨_,rfl⟩,he.ml,he.pf,he.pr⟩,?_⟩
 try simp only [cb,bM,gL,bhq,Nat.reduceMod,Nat.reduceDiv,aM,aL,aO,bE,aN,bD,bz,bB,bA,yaq,yar,yao,yap,go_sem,j6]
 refine ⟨_,⟨rfl,rfl,hbl2⟩,?_⟩
 try simp only [cb,bM,gL,bhq,Nat.reduceMod,Nat.reduceDiv,aM,aL,aO,bE,aN,bD,bz,bB,bA,yaq,yar,yao,yap,go_sem,lB]
 refine ⟨ps,e.args,⟨rfl,by omega,.inl ⟨_,rfl⟩⟩,?_⟩
 try simp only [cb,bM,gL,bhq,Nat.reduceMod,Nat.reduceDiv,aM,aL,aO,bE,aN,bD,bz,bB,bA,yaq,yar,yao,yap,go_sem,lF]
 refine ⟨ps,e.args,⟨rfl,by omega,.inl ⟨_,rfl⟩⟩,?_⟩
 try simp only [cb,bM,gL,bhq,Nat.reduceMod,Nat.reduceDiv,aM,aL,aO,bE,aN,bD,bz,bB,bA,yaq,yar,yao,yap,go_sem,j6]
 refine ⟨_,⟨rfl,rfl,hbl3⟩,?_⟩
 try simp only [cb,bM,gL,bhq,Nat.reduceMod,Nat.reduceDiv,aM,aL,aO,bE,aN,bD,bz,bB,bA,yaq,yar,yao,yap,go_sem,lB]
 refine ⟨Y.params,e.args,⟨rfl,by omega,.inl ⟨_,rfl⟩⟩,?_⟩
 try simp only [cb,bM,gL,bhq,Nat.reduceMod,Nat.reduceDiv,aM,aL,aO,bE,aN,bD,bz,bB,bA,yaq,yar,yao,yap,go_sem,lF]
 refine ⟨Y.params,e.args,⟨rfl,by omega,.inl ⟨_,rfl⟩⟩,?_⟩
 try simp only [cb,bM,gL,bhq,Nat.reduceMod,Nat.reduceDiv,aM,aL,aO,bE,aN,bD,bz,bB,bA,yaq,yar,yao,yap,go_sem,j6]
 refine ⟨_,⟨rfl,rfl,hbl4⟩,?_⟩
 simp only [cb,bM,gL,bhq,Nat.reduceMod,Nat.reduceDiv,aM,aL,aO,bE,aN,bD,bz,bB,bA,yaq,yar,yao,yap,go_sem,iM]
 simp (disch:=first|assumption|omega|(simp;done)|(simp;omega)|(simp only [bt,and_true];first|done|omega|(simp;done))) [↓zmk,beq,ybc,ybd,ybe,ag,wk,wk2,wk1,wkM,wkL,am,ybf,hcl]
end Go.AL
