/- Lemmas of the proof; no condition. -/
import Derived.Test.YtokjjhidigoodaaGreatS12j
import Derived.Test.YtokjjhidigoodaaGreatS12m
import Derived.Test.YtokjjhidigoodaaGreatS12g
set_option linter.all false
set_option maxRecDepth 10000
open List renaming length_cons → yaz, length_nil → yba, take_succ_cons → yaq, take_zero → yar, drop_succ_cons → yao, drop_zero → yap, length_map → ybb, take_of_length_le → ybc, drop_append → ybd, take_append → ybe, drop_eq_nil_of_le → ybf
open Go Go.AL Go.Proofs
namespace Go.AL
theorem MI {S:Sch} {n:Int} (h:1≤cR S n):CR S n:=by
 unfold CR
 rcases pP (q:=fun f:SField=>f.id==n) (l:=S.fields) with ⟨b1,b2⟩|⟨i,x,b1,_⟩
 ·unfold cR at h
  rw [ox,b2] at h
  exact absurd h (by decide)
 ·rw [b1];exact Int.natCast_nonneg _
theorem F9 {b:List UInt8} {n:Int} (h:n∈([1,2,3,4,5,6]:List Int)):∃ a,B0 (dn b 0).1 n=some a:=by
 have e:(dn b 0).1.actions=c6 b (cr b (cp 0 2)).2:=rfl
 unfold B0
 rw [e]
 simp only [List.mem_cons,List.not_mem_nil,or_false] at h
 rcases h with rfl|rfl|rfl|rfl|rfl|rfl<;>exact ⟨_,rfl⟩
theorem KZ {b:List UInt8}:SAll (dn b 0).1:=by
 have hG:=zL b 0
 have hA:=KS (b:=b)
 refine ⟨⟨hA.sl,fun t ht=>by have:=hG.kl t ht;omega,fun t ht k hk=>?_⟩,⟨hA.sl,fun a ha=>by have:=(hA.ak a ha).1;omega,fun t ht=>⟨by have:=(hG.a1 t ht).2;omega,fun n hn=>?_⟩⟩,hA⟩
 ·have:=hG.kb t ht k hk
  exact ⟨MI this.1,by omega⟩
 ·refine F9 ?_
  have h:t∈cK b (cp (cr b (cp 0 2)).2 4):=ht
  simp only [cK,List.mem_cons,List.not_mem_nil,or_false] at h
  rcases h with rfl|rfl|rfl|rfl
  ·have:n∈([1,2,4]:List Int):=hn
   exact Z61
  ·have:n∈([1,2,3,4]:List Int):=hn
   exact Z61
  ·have:n∈([1,2,3,5,6]:List Int):=hn
   exact Z61
  ·have:n∈([1,3,5]:List Int):=hn
   exact Z61
theorem MK {S:Sch} (hG:GenS S) {m:Int} {e:SEntry} (h:GE S (fM S m) e):EAll e:=by
 have hkl:=hG.kl _ (md (S:=S) (n:=m) hG.t1)
 have ho:=h.ok hkl hG.pl
 have ha:=MB hG h
 exact ⟨ho,⟨ha.ar,ho.al⟩,ha⟩
theorem tH {b:Int} {e e':SEntry} (he:EAll e) (hc:COk e') (hq:BQ b e e') (hb:b≤9223372036854775807):EAll e':=by
 refine ⟨hc.ok,⟨hc.ar,hc.ok.al⟩,⟨by have:=hc.ok.ml;omega,fun m hm=>?_,?_,hc.ok.mo,hc.ar⟩⟩
 ·rcases hq.pf m hm with h|h|⟨m0,h1,h2⟩
  ·omega
  ·omega
  ·have:=he.ad.pf m0 h1;omega
 ·rcases hq.pr with h|h
  ·omega
  ·have:=he.ad.pr;omega
theorem E1 (a:Int) (k:Nat) (hk:k≤15):0≤jA .i64 a k∧jA .i64 a k≤15:=by
 have h:(BitVec.ofInt 64 a &&& BitVec.ofInt 64 (k:Int)).toNat≤15:=by
  rw [BitVec.toNat_and]
  refine Nat.le_trans Nat.and_le_right ?_
  have:(BitVec.ofInt 64 (k:Int)).toNat=k:=by
   rw [BitVec.toNat_ofInt]
   omega
  omega
 change 0≤IntKind.i64.wrap ((BitVec.ofInt 64 a &&& BitVec.ofInt 64 (k:Int)).toNat:Int)∧IntKind.i64.wrap ((BitVec.ofInt 64 a &&& BitVec.ofInt 64 (k:Int)).toNat:Int)≤15
 generalize (BitVec.ofInt 64 a &&& BitVec.ofInt 64 (k:Int)).toNat=z at *
 rw [wrap_i64]<;>omega
def qu:List AV→AHeap→(AV→Prop)→Prop
 |[.slice _ 1 l1,.slice _ 1 l2,.agg le,.int .i64 n,.int .i64 c,.agg [.int .u64 a,.int .u64 b],.int .i64 g],_,K=>∃ e0,(isB l1∧isB l2∧le=bG e0∧EAll e0 ∧ -9223372036854775808≤n∧n≤9223372036854775807 ∧ -9223372036854775808≤c∧c≤9223372036854775807∧isV a b ∧ -9223372036854775808≤g∧g≤9223372036854775807)∧K (.bool true)
 |_,_,_=>False
set_option maxHeartbeats 8000000 in
theorem ok_EntryChecks:EntOk Tryz.prog 4 (Ent.pure qu):=by
 refine Ype fun _ H K h=>?_
 unfold qu at h
 split at h
 rotate_left
 ·exact h.elim
 rename_i m1 l1 m2 l2 le n c a b g
 obtain ⟨e0,⟨c1,c2,rfl,he0,hn1,hn2,hc1,hc2,hab,hg1,hg2⟩,hK⟩:=h
 refine ⟨_,hK,?_⟩
 clear hK
 obtain ⟨x1,rfl⟩:=zh c1
 obtain ⟨x2,rfl⟩:=zh c2
 obtain ⟨v,hv,rfl,rfl,-⟩:=pF hab
 have iv:=e9 hv
 clear c1 c2 hab
 obtain ⟨B1,hB1⟩:∃ B1,x1.take (min (x1.length:Int) 120).toNat=B1:=⟨_,rfl⟩
 obtain ⟨B2,hB2⟩:∃ B2,x2.take (min (x2.length:Int) 30).toNat=B2:=⟨_,rfl⟩
 have hL1:B1.length≤1000000:=by rw [← hB1,List.length_take];omega
 have hL2:B2.length≤1000000:=by rw [← hB2,List.length_take];omega
 have hG:=zL B1 0
 have hA:=KZ (b:=B1)
 generalize hS:dn B1 0=SS at *
 obtain ⟨S,w1⟩:=SS
 dsimp only at hG hA
 have hz1:zod B1 0=dZ B1 (cp 0 0):=xk
 have hz2:zod B2 0=dZ B2 (cp 0 0):=xk
 have hE:=F7 hG (b:=B2) (v:=0) (n:=n)
 have hst:(rG S n B2 0)=(cJ (kC S B2 0 n).1,(kC S B2 0 n).2):=rfl
 generalize he:kC S B2 0 n=ee at *
 obtain ⟨e1,w2⟩:=ee
 dsimp only at hE hst
 have hA1:=MK hG hE
 have hkl:=hG.kl _ (md (S:=S) (n:=n) hG.t1)
 have hml1:=hE.ml
 have hal1:=hE.al
 have hpl1:=hG.pl e1.act
 have hb1:BOk e1:=⟨⟨hA1.ok,hA1.ad.ar⟩,by omega,by omega⟩
 have hl4:=sH (w:=4) hv
 have hl8:=sH (w:=8) hv
 have i4:=e9 hl4
 have i8:=e9 hl8
 have ivz:qF ((v/2^64:Nat):Int) ((v % 2^64:Nat):Int)=True:=iv
 refine ACalls.fW ax (tCq Fm (tCq wy (tCq FK (tCq pR (tCq Ky (tCq nJ (tCq rR (tCq sM (tCq sQ (tCq Ha (tCq Hi (tCq Ds tNq)))))))))))) Tryz.func4 [.tmp 14] (nrq _) (T:=av [(4,[[],[],[],[],[],[],[],[],[7],[3,7,8],[],[],[],[],[],[3,7,8,9,14],[3,7,8,9,10,14,15],[0,1,2,3,7,8,9,10,14,15,16]]),(7,[[],[],[0,1],[],[],[0,1,2,3,4],[],[],[2,5],[2,5],[0,1,2,3,4,5,8,9],[2,5],[2,5],[0,1,2,3,4,5,8,9,10,11,12],[],[],[],[2,5,10,13],[2,5,10,13],[0,1,2,3,4,5,8,9,10,11,12,13,17,18],[2,5,10,13],[2,5,10,13],[0,1,2,3,4,5,8,9,10,11,12,13,17,18,19,20,21]])]) (h:=fun hcl hlt=>?_)
 have hx1:=AV.lt_mono (Nat.le_succ H.nx) _ (hlt (.agg (bG e0)) (by simp))
 simp only [znn] at hx1
 clear hlt
 simp only [go_sem,bG,nh]
 refine ⟨x1,⟨rfl,by omega⟩,?_⟩
 rw [hB1,hz1]
 have hSch:kU=eG fun b v=>(rT (dn b v).1,(dn b v).2):=rfl
 simp only [bp,aM,bhq,Nat.reduceMod,Nat.reduceDiv,aD,aE,aF,bf,aG,bc,aZ,bb,a9,yaq,yar,yao,yap,go_sem,nh,hSch,eG,bu hL1,Nat.zero_min,cp0,hS,rT,bv]
 refine ⟨x2,⟨rfl,by omega⟩,?_⟩
 rw [hB2,hz2]
 simp only [bp,aM,bhq,Nat.reduceMod,Nat.reduceDiv,aD,aE,aF,bf,aG,bc,aZ,bb,a9,yaq,yar,yao,yap,go_sem,nh,hSch,eG,bu hL1,Nat.zero_min,cp0,hS,rT,bv]
 simp only [vy]
 refine ⟨S,⟨rfl,hG,hn1,by omega⟩,?_⟩
 simp only [bp,aM,bhq,Nat.reduceMod,Nat.reduceDiv,aD,aE,aF,bf,aG,bc,aZ,bb,a9,yaq,yar,yao,yap,go_sem,cT hL2 (I4 _ _),bu hL2,hst,cJ,bG,qZ,cp0,uJ]
 refine ⟨e1,⟨rfl,hb1,hn1,hn2,of_eq_true iv⟩,fun f1 hf1 hq1=>?_⟩
 have hA2:=tH hA1 hf1 hq1 hc2
 have hb2:BOk f1:=⟨hf1,by have:=hq1.ml;omega,by have:=hq1.al;omega⟩
 try simp only [bp,aM,bhq,Nat.reduceMod,Nat.reduceDiv,aD,aE,aF,bf,aG,bc,aZ,bb,a9,yaq,yar,yao,yap,go_sem,cJ,bG,gl,ivz,iNq,bD,uJ]
 obtain ⟨k1,k2⟩:=E1 c 15 (by decide)
 obtain ⟨k3,k4⟩:=E1 c 7 (by decide)
 simp only [vv]
 refine ⟨by decide,e1,⟨rfl,hb1,hn1,hn2,of_eq_true i4⟩,fun f2 hf2 hq2=>?_⟩
 have hA3:=tH hA1 hf2 hq2 (show jA .i64 c 15≤9223372036854775807 by have:=k2;exact Int.le_trans k2 (by decide))
 try simp only [bp,aM,bhq,Nat.reduceMod,Nat.reduceDiv,aD,aE,aF,bf,aG,bc,aZ,bb,a9,yaq,yar,yao,yap,go_sem,cJ,bG,vv]
 refine ⟨by decide,f1,⟨rfl,hb2,hg1,hg2,of_eq_true i8⟩,fun f3 hf3 hq3=>?_⟩
 have hA4:=tH hA2 hf3 hq3 (show jA .i64 c 7≤9223372036854775807 by exact Int.le_trans k4 (by decide))
 obtain ⟨E,hE'⟩:∃ E:List SEntry,E=[e0,e1,f1,f2,f3]:=⟨_,rfl⟩
 have hEl:E.length=5:=by rw [hE'];rfl
 have hEo:∀ e∈E,EAll e:=fun e he=>by
  rw [hE'] at he
  simp only [List.mem_cons,List.not_mem_nil,or_false] at he
  rcases he with rfl|rfl|rfl|rfl|rfl
  ·exact he0
  ·exact hA1
  ·exact hA2
  ·exact hA3
  ·exact hA4
 have hEm:[cJ e0,cJ e1,cJ f1,cJ f2,cJ f3]=E.map cJ:=by rw [hE'];rfl
 simp only [cJ,bG] at hEm
 try simp only [bp,aM,bhq,Nat.reduceMod,Nat.reduceDiv,aD,aE,aF,bf,aG,bc,aZ,bb,a9,yaq,yar,yao,yap,go_sem,bv,cJ,bG,vv,hEm]
 have hcod:∀ (B:List UInt8) (w n:Nat),ltL n [.slice .any 1 (bys B),.int .i64 ((min w B.length:Nat):Int)]:=fun B w n=>⟨yL fun x hx=>by obtain ⟨c,_,rfl⟩:=List.mem_map.1 hx;simp only [bZ,znb],by simp only [znb],trivial⟩
 have hcG:(((((H.push (.cells [.int .i64 e0.table,.slice .any 8 (e0.ms.map aQ),.int .i64 e0.prio,.int .i64 e0.act,.slice .any 2 (e0.args.map vv)])).push (.cells [.int .u64 ((v/2^64:Nat):Int),.int .u64 ((v % 2^64:Nat):Int)])).push (dZ B1 w1)).push (dZ B2 w2)).push (.cells [.slice .any 3 (S.fields.map bX),.slice .any 3 (S.headers.map dX),.slice .any 5 (S.states.map cS),.slice .any 5 (S.actions.map a8),.slice .any 8 (S.tables.map aV),.slice .any 2 (S.stages.map jn),.slice .any 6 (S.roles.map fp),.slice .any 6 (S.refs.map ph),.int .i64 S.maxBatch,.int .i64 S.budget])).Closed:=ae (ae (ae (ae (ae hcl hx1) (by simp only [znq,znr,znb,and_true])) (hcod _ _ _)) (hcod _ _ _)) (Ee S)
 have db:∀ b:Int,(b==b)=true:=fun b=>by simp
 have db2:(true != true)=false:=rfl
 have db3:∀ b:Int,(b != b)=false:=fun b=>by simp
 refine az (A:=Nat) (fun i=>[(15,.ptr (H.nx+1+1+1+1) 0),(52,.slice .any 5 (E.map cJ)),(53,.int .i64 5),(54,.int .i64 (i:Int))]) (fun _=>(((((H.push (.cells [.int .i64 e0.table,.slice .any 8 (e0.ms.map aQ),.int .i64 e0.prio,.int .i64 e0.act,.slice .any 2 (e0.args.map vv)])).push (.cells [.int .u64 ((v/2^64:Nat):Int),.int .u64 ((v % 2^64:Nat):Int)])).push (dZ B1 w1)).push (dZ B2 w2)).push (.cells [.slice .any 3 (S.fields.map bX),.slice .any 3 (S.headers.map dX),.slice .any 5 (S.states.map cS),.slice .any 5 (S.actions.map a8),.slice .any 8 (S.tables.map aV),.slice .any 2 (S.stages.map jn),.slice .any 6 (S.roles.map fp),.slice .any 6 (S.refs.map ph),.int .i64 S.maxBatch,.int .i64 S.budget]))) (fun i=>i≤5) (fun i=>5 - i) 0 (by omega) ?_ fun i hi=>?_
 ·refine ⟨by (try simp only [zkm,zkr,zla]);omega,by repeat first|exact .refl _|refine .push ?_ _,hcG,?_,?_⟩
  ·simp [ltF,zla,znj,znb,bw gE]
   try omega
  ·exact Y10
 simp only [go_sem]
 refine au (fun hc=>?_) (fun hc=>?_)
 ·have hi':i<E.length:=by simp at hc;omega
  obtain ⟨x,hx⟩:∃ x,x=E[i]:=⟨_,rfl⟩
  have hgx:=bC (f:=cJ) (l:=E) (k:=i) (x:=x) (by rw [gQq hi',hx])
  have o1:=hEo x (by rw [hx];exact gMq hi')
  have ei:IntKind.i64.wrap ((i:Int)+1)=((i+1:Nat):Int):=by rw [wrap_i64]<;>omega
  simp only [bp,aM,bhq,Nat.reduceMod,Nat.reduceDiv,aD,aE,aF,bf,aG,bc,aZ,bb,a9,yaq,yar,yao,yap,go_sem,cJ,bG,ybb,iNq,hgx,hEl,ku]
  refine ⟨by omega,S,x,⟨rfl,rfl,hA.ck.sl.tl,hA.ck.sl.fl,fun t ht=>by have:=hA.ck.kl t ht;omega,o1.ok⟩,?_⟩
  try simp only [bp,aM,bhq,Nat.reduceMod,Nat.reduceDiv,aD,aE,aF,bf,aG,bc,aZ,bb,a9,yaq,yar,yao,yap,go_sem,cJ,bG,l6]
  refine ⟨S,x,⟨rfl,rfl,hA.ck,o1.ok⟩,?_⟩
  try simp only [bp,aM,bhq,Nat.reduceMod,Nat.reduceDiv,aD,aE,aF,bf,aG,bc,aZ,bb,a9,yaq,yar,yao,yap,go_sem,cJ,bG,db3,lO]
  refine ⟨S,x,⟨rfl,rfl,hA.ac,o1.ar⟩,?_⟩
  try simp only [bp,aM,bhq,Nat.reduceMod,Nat.reduceDiv,aD,aE,aF,bf,aG,bc,aZ,bb,a9,yaq,yar,yao,yap,go_sem,cJ,bG,db3,me]
  refine ⟨S,x,⟨rfl,rfl,hA.ac,o1.ar⟩,?_⟩
  try simp only [bp,aM,bhq,Nat.reduceMod,Nat.reduceDiv,aD,aE,aF,bf,aG,bc,aZ,bb,a9,yaq,yar,yao,yap,go_sem,cJ,bG,db3,wq]
  refine ⟨S,x,⟨rfl,rfl,hA,o1⟩,?_⟩
  try simp only [bp,aM,bhq,Nat.reduceMod,Nat.reduceDiv,aD,aE,aF,bf,aG,bc,aZ,bb,a9,yaq,yar,yao,yap,go_sem,cJ,bG,db3,vG]
  refine ⟨S,x,⟨rfl,rfl,hA,o1⟩,?_⟩
  try simp only [bp,aM,bhq,Nat.reduceMod,Nat.reduceDiv,aD,aE,aF,bf,aG,bc,aZ,bb,a9,yaq,yar,yao,yap,go_sem,db3,ei]
  refine ⟨i+1,by omega,by omega,?_⟩
  refine ⟨by (try simp only [zkm,zkr,zla]);omega,by repeat first|exact .refl _|refine .push ?_ _,hcG,?_,?_⟩
  ·simp [ltF,zla,znj,znb,bw gE]
   try omega
  ·exact Y10
 ·simp only [go_sem,tI]
  exact Z0
end Go.AL
