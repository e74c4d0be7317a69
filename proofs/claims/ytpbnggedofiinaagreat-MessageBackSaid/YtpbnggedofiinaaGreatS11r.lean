/- Lemmas of the proof; no condition. -/
import Derived.Test.YtpbnggedofiinaaGreatS11j
import Derived.Test.YtpbnggedofiinaaGreatCK
import Derived.Test.YtpbnggedofiinaaGreatLBack
set_option linter.all false
set_option maxRecDepth 10000
set_option maxHeartbeats 32000000
open List renaming length_cons → yaz, length_nil → yba, cons_append → yal, nil_append → yak, take_of_length_le → ybc, drop_append → ybd, take_append → ybe, drop_eq_nil_of_le → ybf, take_succ_cons → yaq, take_zero → yar, drop_succ_cons → yao, drop_zero → yap, length_map → ybb, map_cons → yae, map_nil → yaf, append_nil → yaj
open Go Go.AL Go.Proofs
namespace Go.AL
def jJ (s:RS):SMatch × RS :=
 if (dq s).1=true then (⟨true,(bn (dq s).2).1,(bn (bn (dq s).2).2).1,(aq (bn (bn (dq s).2).2).2 1).1,(bn (aq (bn (bn (dq s).2).2).2 1).2).1⟩,(bn (aq (bn (bn (dq s).2).2).2 1).2).2)
 else (dV,(dq s).2)
def iz:Nat→RS→List SMatch × RS
 |0,s=>([],s)
 |k+1,s=>((jJ s).1::(iz k (jJ s).2).1,(iz k (jJ s).2).2)
def iE:Nat→RS→List Nat × RS
 |0,s=>([],s)
 |k+1,s=>((bn s).1::(iE k (bn s).2).1,(iE k (bn s).2).2)
def iZ (s:RS):SEntry × RS :=
 let t:=aq s 2;let c:=bf t.2 4;let ms:=iz c.1.toNat c.2;let p:=aq ms.2 2;let a:=aq p.2 2;let d:=bf a.2 4;let vs:=iE d.1.toNat d.2
 (⟨t.1,ms.1,p.1,a.1,vs.1⟩,vs.2)
def eK (s:RS):SEntry × RS:=if (iZ s).2.2.2=0 then iZ s else (⟨0,[],0,0,[]⟩,(iZ s).2)
theorem wX (s:RS):(jJ s).2.2.1.length≤s.2.1.length:=by
 obtain ⟨m,l,e⟩:=s
 unfold jJ
 split
 ·have h1:=qn m l e
  generalize dq (m,l,e)=q1 at *
  obtain ⟨b,m1,l1,e1⟩:=q1
  dsimp only at h1 ⊢
  have h2:=gk m1 l1 e1
  generalize bn (m1,l1,e1)=q2 at *
  obtain ⟨v,m2,l2,e2⟩:=q2
  dsimp only at h2 ⊢
  have h3:=gk m2 l2 e2
  generalize bn (m2,l2,e2)=q3 at *
  obtain ⟨k,m3,l3,e3⟩:=q3
  dsimp only at h3 ⊢
  have h4:=bz m3 l3 e3 1
  generalize aq (m3,l3,e3) 1=q4 at *
  obtain ⟨p,m4,l4,e4⟩:=q4
  dsimp only at h4 ⊢
  have h5:=gk m4 l4 e4
  omega
 ·exact qn m l e
theorem au {a b c:Mark} (h:eD a b) (k:eD b c):eD a c:=by
 unfold eD at *
 rcases k with rfl|rfl
 ·exact h
 ·exact .inr rfl
theorem xb (s:RS):eD s.1 (jJ s).2.1:=by
 obtain ⟨m,l,e⟩:=s
 unfold jJ
 split
 ·have h1:=wA m l e
  generalize dq (m,l,e)=q1 at *
  obtain ⟨b,m1,l1,e1⟩:=q1
  dsimp only at h1 ⊢
  have h2:=jG m1 l1 e1
  generalize bn (m1,l1,e1)=q2 at *
  obtain ⟨v,m2,l2,e2⟩:=q2
  dsimp only at h2 ⊢
  have h3:=jG m2 l2 e2
  generalize bn (m2,l2,e2)=q3 at *
  obtain ⟨k,m3,l3,e3⟩:=q3
  dsimp only at h3 ⊢
  have h4:=bG m3 l3 e3 1
  generalize aq (m3,l3,e3) 1=q4 at *
  obtain ⟨p,m4,l4,e4⟩:=q4
  dsimp only at h4 ⊢
  have h5:=jG m4 l4 e4
  exact au (au (au (au h1 h2) h3) h4) h5
 ·exact wA m l e
def nn:List AV→AHeap→(AEnd→AHeap→Prop)→Prop
 |[.ptr id 0],H,K=>onR H id fun m l e=>True∧K (.ret (aR (jJ (m,l,e)).1)) (H.set id (.cells (aJ (jJ (m,l,e)).2)))
 |_,_,_=>False
theorem xc:EntOk Tryz.prog 146 (Ent.effect nn):=by
 refine EntOk.effect fun args H K h=>?_
 unfold nn at h
 split at h
 rotate_left
 ·exact h.elim
 rename_i id
 obtain ⟨m,l,e,hid,hle,h⟩:=dw h
 obtain ⟨hpre,hK⟩:=h
 refine ⟨_,_,hK,?_⟩
 clear hK
 have hl0:=glq hid
 have hne:=dd hl0
 have hss:=cL hid
 have hcs:=aM hid
 have hcm:=fun cs=>@bd H id cs hl0
 have hgm:=fun o=>@bA H id o hl0
 have hlM:=wX (m,l,e)
 have hmM:=xb (m,l,e)
 obtain ⟨Q,hQ⟩:∃ Q,jJ (m,l,e)=Q:=⟨_,rfl⟩
 rw [hQ] at hlM hmM ⊢
 unfold jJ at hQ
 have hl1:=qn m l e
 generalize hb:dq (m,l,e)=q1 at *
 obtain ⟨b,m1,l1,e1⟩:=q1
 dsimp only at hQ hl1
 have hcQ:(H.set id (.cells (aJ Q.2))).Closed→True:=fun _=>trivial
 cases b
 ·simp only [Bool.false_eq_true,if_false] at hQ
  subst hQ
  dsimp only at hlM hmM
  dsimp only [aJ]
  refine ACalls.fW ah (tCq tc (tCq lC (tCq iM tNq))) Tryz.func146 [.cell 2 254] (by simp [zlf]) (T:=ae []) (h:=fun hcl hlt=>?_)
  clear hlt
  have hc1:=ax hid hcl m1 hmM l1 e1
  have v0:vv 0=.agg [.int .u64 0,.int .u64 0]:=rfl
  simp only [go_sem,zav,byq,hne,hid,hcs,hcm,hgm,onR,aj,aE,zmb,zlz,zlk,and_true,true_and,hid,iP,hb,aJ,aR,cR,dV,vc,vv,yal,yak]
  exact Z5
 ·simp only [if_true] at hQ
  have hl2:=gk m1 l1 e1
  generalize h2:bn (m1,l1,e1)=q2 at *
  obtain ⟨v,m2,l2,e2⟩:=q2
  dsimp only at hQ hl2
  have hl3:=gk m2 l2 e2
  generalize h3:bn (m2,l2,e2)=q3 at *
  obtain ⟨k,m3,l3,e3⟩:=q3
  dsimp only at hQ hl3
  have hl4:=bz m3 l3 e3 1
  generalize h4:aq (m3,l3,e3) 1=q4 at *
  obtain ⟨p,m4,l4,e4⟩:=q4
  dsimp only at hQ hl4
  have hl5:=gk m4 l4 e4
  generalize h5:bn (m4,l4,e4)=q5 at *
  obtain ⟨hi,m5,l5,e5⟩:=q5
  dsimp only at hQ hl5
  subst hQ
  dsimp only at hlM hmM
  dsimp only [aJ]
  refine ACalls.fW ah (tCq tc (tCq lC (tCq iM tNq))) Tryz.func146 [.cell 2 254] (by simp [zlf]) (T:=ae []) (h:=fun hcl hlt=>?_)
  clear hlt
  have hc1:=ax hid hcl m5 hmM l5 e5
  have b1:l1.length≤100000:=by omega
  have b2:l2.length≤100000:=by omega
  have b3:l3.length≤100000:=by omega
  have b4:l4.length≤100000:=by omega
  simp only [go_sem,zav,byq,hne,hid,hcs,hcm,hgm,onR,aj,aE,zmb,zlz,zlk,and_true,true_and,hid,iP,lW,fE,hb,h2,h3,h4,h5,b1,b2,b3,b4,aJ,aR,cR,vv,vc,yal,yak]
  exact Z5
theorem uc:∀ (k:Nat) (s:RS),(iz k s).2.2.1.length≤s.2.1.length
 |0,s=>nrq _
 |k+1,s=>Nat.le_trans (uc k (jJ s).2) (wX s)
theorem ux:∀ (k:Nat) (s:RS),eD s.1 (iz k s).2.1
 |0,s=>.inl rfl
 |k+1,s=>au (xb s) (ux k (jJ s).2)
theorem yk:∀ (k:Nat) (s:RS),(iz k s).1.length=k
 |0,s=>rfl
 |k+1,s=>by unfold iz;rw [yaz,yk k]
theorem s5:∀ (k:Nat) (s:RS),(iE k s).2.2.1.length≤s.2.1.length
 |0,s=>nrq _
 |k+1,s=>Nat.le_trans (s5 k (bn s).2) (gk s.1 s.2.1 s.2.2)
theorem tA:∀ (k:Nat) (s:RS),eD s.1 (iE k s).2.1
 |0,s=>.inl rfl
 |k+1,s=>au (jG s.1 s.2.1 s.2.2) (tA k (bn s).2)
theorem yH:∀ (k:Nat) (s:RS),(iE k s).1.length=k
 |0,s=>rfl
 |k+1,s=>by unfold iE;rw [yaz,yH k]
theorem nD (s:RS) (n:Int) (hn:0≤n):0≤(bf s n).1∧(bf s n).1≤n:=by
 unfold bf
 repeat' split
 all_goals (dsimp only;omega)
theorem qs (s:RS):(iZ s).2.2.1.length≤s.2.1.length:=by
 obtain ⟨m,l,e⟩:=s
 unfold iZ
 dsimp only
 refine Nat.le_trans (s5 _ _) (Nat.le_trans (jx _ _ _ _) (Nat.le_trans (bz _ _ _ _) (Nat.le_trans (bz _ _ _ _) (Nat.le_trans (uc _ _) (Nat.le_trans (jx _ _ _ _) (bz _ _ _ _))))))
theorem qh (s:RS):eD s.1 (iZ s).2.1:=by
 obtain ⟨m,l,e⟩:=s
 unfold iZ
 dsimp only
 exact au (au (au (au (au (au (bG _ _ _ _) (kr _ _ _ _)) (ux _ _)) (bG _ _ _ _)) (bG _ _ _ _)) (kr _ _ _ _)) (tA _ _)
theorem n9 (s:RS):(eK s).2=(iZ s).2:=by unfold eK;split<;>rfl
theorem zj (x:SMatch):(aR x).cells.length=8:=rfl
theorem CK (x:SMatch):bN (aR x).cells=true:=rfl
theorem EX (x:Nat):(vv x).cells.length=2:=rfl
theorem Hi (x:Nat):bN (vv x).cells=true:=rfl
theorem Ef {H:AHeap} (h:H.Closed) {z c:List AV} {a b p q:Nat} (hz:ltL (H.nx+1) z) (hc:ltL (H.nx+1+1+1+1) c):((((H.push (.cells z)).push (.cells c)).push (.buf a p)).push (.buf b q)).Closed:=by
 have h1:=aP (i:=H.nx+1) (cs:=c) (bj (a:=b) (b:=q) (bj (a:=a) (b:=p) (aD (cs:=[]) (aD (cs:=z) h hz) trivial))) (by simpa only [zle] using hc)
 simp only [go_sem] at h1
 simpa using h1
def sy:List AV→AHeap→(AEnd→AHeap→Prop)→Prop
 |[.ptr id 0],H,K=>onR H id fun m l e=>True∧K (.ret (bc (eK (m,l,e)).1)) (H.set id (.cells (aJ (eK (m,l,e)).2)))
 |_,_,_=>False
theorem yx:EntOk Tryz.prog 47 (Ent.effect sy):=by
 refine EntOk.effect fun args H K h=>?_
 unfold sy at h
 split at h
 rotate_left
 ·exact h.elim
 rename_i id
 obtain ⟨m,l,e,hid,hle,h⟩:=dw h
 obtain ⟨hpre,hK⟩:=h
 refine ⟨_,_,hK,?_⟩
 clear hK
 have hl0:=glq hid
 have hne:=dd hl0
 have hss:=cL hid
 have hcs:=aM hid
 have hcm:=fun cs=>@bd H id cs hl0
 have hgm:=fun o=>@bA H id o hl0
 obtain ⟨Q,hQ⟩:∃ Q,eK (m,l,e)=Q:=⟨_,rfl⟩
 rw [hQ]
 have hclR:∀ s:RS,eD m s.1→(H.set id (.cells (aJ s))).Closed→True:=fun _ _ _=>trivial
 have hQ2:=n9 (m,l,e)
 rw [hQ] at hQ2
 unfold eK at hQ
 have hlQ:=qs (m,l,e)
 have hmQ:=qh (m,l,e)
 obtain ⟨Q0,hQ0⟩:∃ Q0,iZ (m,l,e)=Q0:=⟨_,rfl⟩
 rw [hQ0] at hQ hQ2 hlQ hmQ
 unfold iZ at hQ0
 dsimp only at hQ0
 have hl1:=bz m l e 2
 have hm1:=bG m l e 2
 generalize h1:aq (m,l,e) 2=q1 at *
 obtain ⟨t,m1,l1,e1⟩:=q1
 dsimp only at hQ0 hl1 hm1
 have hl2:=jx m1 l1 e1 4
 have hm2:=au hm1 (kr m1 l1 e1 4)
 have hc2:=nD (m1,l1,e1) 4 (by decide)
 generalize h2:bf (m1,l1,e1) 4=q2 at *
 obtain ⟨c,m2,l2,e2⟩:=q2
 dsimp only at hQ0 hl2 hm2 hc2
 obtain ⟨kc,rfl⟩:∃ kc:Nat,c=(kc:Int):=⟨c.toNat,by omega⟩
 rw [iNq] at hQ0
 have hl3:=uc kc (m2,l2,e2)
 have hm3:=au hm2 (ux kc (m2,l2,e2))
 have hn3:=yk kc (m2,l2,e2)
 generalize h3:iz kc (m2,l2,e2)=q3 at *
 obtain ⟨ms,m3,l3,e3⟩:=q3
 dsimp only at hQ0 hl3 hm3 hn3
 have hl4:=bz m3 l3 e3 2
 have hm4:=au hm3 (bG m3 l3 e3 2)
 generalize h4:aq (m3,l3,e3) 2=q4 at *
 obtain ⟨p,m4,l4,e4⟩:=q4
 dsimp only at hQ0 hl4 hm4
 have hl5:=bz m4 l4 e4 2
 have hm5:=au hm4 (bG m4 l4 e4 2)
 generalize h5:aq (m4,l4,e4) 2=q5 at *
 obtain ⟨a,m5,l5,e5⟩:=q5
 dsimp only at hQ0 hl5 hm5
 have hl6:=jx m5 l5 e5 4
 have hm6:=au hm5 (kr m5 l5 e5 4)
 have hc6:=nD (m5,l5,e5) 4 (by decide)
 generalize h6:bf (m5,l5,e5) 4=q6 at *
 obtain ⟨d,m6,l6,e6⟩:=q6
 dsimp only at hQ0 hl6 hm6 hc6
 obtain ⟨kd,rfl⟩:∃ kd:Nat,d=(kd:Int):=⟨d.toNat,by omega⟩
 rw [iNq] at hQ0
 have hl7:=s5 kd (m6,l6,e6)
 have hm7:=au hm6 (tA kd (m6,l6,e6))
 have hn7:=yH kd (m6,l6,e6)
 generalize h7:iE kd (m6,l6,e6)=q7 at *
 obtain ⟨vs,m7,l7,e7⟩:=q7
 dsimp only at hQ0 hl7 hm7 hn7
 subst hQ0
 dsimp only at hQ hQ2 hlQ hmQ
 rw [hQ2]
 dsimp only [aJ]
 refine ACalls.fW ah (tCq iM (tCq rz (tCq xc (tCq lC (tCq gx tNq))))) Tryz.func47 [.cell 2 90] (by simp [zlf]) (T:=ae [(4,[[],[],[],[],[3],[1,3],[],[1,3]]),(10,[[],[],[],[],[3],[1,3],[],[1,3]]),(1,[[13,1]])]) (h:=fun hcl hlt=>?_)
 clear hlt
 have b1:l1.length≤100000:=by omega
 have b2:l2.length≤100000:=by omega
 have b3:l3.length≤100000:=by omega
 have b4:l4.length≤100000:=by omega
 have b5:l5.length≤100000:=by omega
 have b6:l6.length≤100000:=by omega
 have b7:l7.length≤100000:=by omega
 simp only [bk,bh,bhq,Nat.reduceMod,Nat.reduceDiv,aA,az,aB,aZ,aC,aY,aS,aU,aV,yaq,yar,yao,yap,go_sem,byq,hne,hid,hcs,hcm,hgm,onR,aj,aE,zmb,zlz,zlk,and_true,true_and,hid,fE,fC,h1,b1,aJ]
 refine ⟨hle,?_⟩
 refine kj 6 1 8 _ rfl rfl ?_
 simp only [bk,bh,bhq,Nat.reduceMod,Nat.reduceDiv,aA,az,aB,aZ,aC,aY,aS,aU,aV,yaq,yar,yao,yap,go_sem,byq,hne,hid,hcs,hcm,hgm,onR,aj,aE,zmb,zlz,zlk,and_true,true_and,hid,fE,fC,h1,b1,aJ,List.set_cons_succ,List.set_cons_zero]
 refine kj 6 4 2 _ rfl rfl ?_
 simp only [bk,bh,bhq,Nat.reduceMod,Nat.reduceDiv,aA,az,aB,aZ,aC,aY,aS,aU,aV,yaq,yar,yao,yap,go_sem,byq,hne,hid,hcs,hcm,hgm,onR,aj,aE,zmb,zlz,zlk,and_true,true_and,hid,fE,fC,h1,h2,b1,aJ,List.set_cons_succ,List.set_cons_zero]
 obtain ⟨HL,hHL⟩:∃ HL:RS→List AV→Nat→Nat→AHeap,HL=fun s c n1 n2=>((((H.set id (.cells [.slice s.1 1 (bys s.2.1),.int .i64 s.2.2])).push (.cells [.int .i64 0,.slice .nil 1 [],.int .i64 0,.int .i64 0,.slice .nil 1 []])).push (.cells c)).push (.buf 8 n1)).push (.buf 2 n2):=⟨_,rfl⟩
 obtain ⟨EC,hEC⟩:∃ EC:List SMatch→Int→Int→List Nat→List AV,EC=fun ms p a vs=>[.int .i64 t,.slice (.own (H.nx+1+1)) 8 (ms.map aR),.int .i64 p,.int .i64 a,.slice (.own (H.nx+1+1+1)) 2 (vs.map vv)]:=⟨_,rfl⟩
 have hclL:∀ (s:RS) ms p a vs n1 n2,eD m s.1→(HL s (EC ms p a vs) n1 n2).Closed:=fun s ms p a vs n1 n2 hs=>by
  rw [hHL,hEC]
  refine Ef (ax hid hcl s.1 hs s.2.1 s.2.2) (by simp [znu,znv,znf,lt_sliceL]) ?_
  simp only [znu,znv,znf,and_true,true_and,zlf]
  exact ⟨lt_sliceL.mpr ⟨fun id h=>(by cases h;omega),ltL_iff.2 fun j hj=>by obtain ⟨x,_,e⟩:=List.mem_map.1 (gMq hj);rw [← e];exact eJ x⟩,
   lt_sliceL.mpr ⟨fun id h=>(by cases h;omega),ltL_iff.2 fun j hj=>by obtain ⟨x,_,e⟩:=List.mem_map.1 (gMq hj);rw [← e];simp [vv,vc,znr,znu,znv,znf]⟩⟩
 refine aK (A:=List SMatch × RS) (fun x=>[(0,.ptr id 0),(2,.ptr H.nx 0),(3,.ptr (H.nx+1) 0),(8,.int .i64 (kc:Int)),(9,.int .i64 (x.1.length:Int))]) (fun x=>HL x.2 (EC x.1 0 0 []) x.1.length 0) (fun x=>x.1.length≤kc∧x.1++(iz (kc - x.1.length) x.2).1=ms∧(iz (kc - x.1.length) x.2).2=(m3,l3,e3)∧x.2.2.1.length≤l2.length∧eD m x.2.1) (fun x=>kc - x.1.length) ([],(m2,l2,e2)) ⟨by simp,by simp [h3],by simp [h3],nrq _,hm2⟩ ?_ fun x hx=>?_
 ·rw [hHL,hEC]
  refine ⟨by simp only [zle,zlf,zkq,zkv];omega,lRq _,by have:=hclL (m2,l2,e2) [] 0 0 [] 0 0 hm2;rw [hHL,hEC] at this;exact this,?_,?_⟩
  ·simp [ltF,zle,zlf,znn,znf]
   omega
  ·simp [cf,wk2,wk1,wkM,Fr.get]
 obtain ⟨ys,my,ly,ey⟩:=x
 obtain ⟨y1,y2,y3,y4,y5⟩:=hx
 dsimp only at y1 y2 y3 y4 y5 ⊢
 have by0:ly.length≤100000:=by omega
 simp only [go_sem]
 refine af (fun hc=>?_) (fun hc=>?_)
 ·have hk':ys.length<kc:=by simp at hc;omega
  have e5:IntKind.i64.wrap ((ys.length:Int)+1)=((ys.length+1:Nat):Int):=by rw [wrap_i64]<;>omega
  have hsub:kc - ys.length=(kc - (ys.length+1))+1:=by omega
  rw [hsub] at y2 y3
  unfold iz at y2 y3
  dsimp only at y2 y3
  have lM:=wX (my,ly,ey)
  have mM:=au y5 (xb (my,ly,ey))
  generalize hM:jJ (my,ly,ey)=q at *
  obtain ⟨x,mx,lx,ex⟩:=q
  dsimp only at y2 y3 lM mM
  rw [hHL,hEC]
  have hz:∀ z∈[aR x],bN z.cells=true:=fun z hz=>by rw [List.mem_singleton.1 hz];rfl
  simp only [bk,bh,bhq,Nat.reduceMod,Nat.reduceDiv,aA,az,aB,aZ,aC,aY,aS,aU,aV,yaq,yar,yao,yap,go_sem,byq,hne,hid,hcs,hcm,hgm,onR,aj,aE,zmb,zlz,zlk,and_true,true_and,hid,nn,hM,by0,aJ,ybb,e5,zj,CK]
  (repeat with_reducible refine And.intro (by first|assumption|decide|omega|exact ⟨by omega,by omega,hz⟩) ?_)
  have hn1:(ys++[x]).length=ys.length+1:=by simp
  have hcl1:=hclL (mx,lx,ex) (ys++[x]) 0 0 [] (ys.length+1) 0 mM
  rw [hHL,hEC] at hcl1
  refine ⟨(ys++[x],(mx,lx,ex)),⟨by dsimp only;omega,by dsimp only;rw [hn1,List.append_assoc];exact y2,by dsimp only;rw [hn1];exact y3,by dsimp only;omega,mM⟩,by dsimp only;omega,?_⟩
  dsimp only
  rw [hn1]
  rw [List.map_append,yae,yaf]
  dsimp only at hcl1
  rw [List.map_append,yae,yaf] at hcl1
  refine ⟨by simp only [zle,zlf];omega,by repeat first|exact .refl _|refine .push ?_ _,hcl1,?_,?_⟩
  ·simp [ltF,zle,zlf,znn,znf]
   omega
  ·simp [cf,wk2,wk1,wkM,Fr.get]
 have hk':ys.length=kc:=by simp at hc;omega
 rw [hk',Nat.sub_self] at y2 y3
 simp only [iz,yaj] at y2 y3
 subst y2
 cases y3
 rw [hHL,hEC]
 simp only [bk,bh,bhq,Nat.reduceMod,Nat.reduceDiv,aA,az,aB,aZ,aC,aY,aS,aU,aV,yaq,yar,yao,yap,go_sem,byq,hne,hid,hcs,hcm,hgm,onR,aj,aE,zmb,zlz,zlk,and_true,true_and,hid,fE,fC,h4,h5,h6,b3,b4,b5,by0,aJ,ybb]
 refine aK (A:=List Nat × RS) (fun x=>[(0,.ptr id 0),(2,.ptr H.nx 0),(3,.ptr (H.nx+1) 0),(26,.int .i64 (kd:Int)),(27,.int .i64 (x.1.length:Int))]) (fun x=>HL x.2 (EC ys p a x.1) ys.length x.1.length) (fun x=>x.1.length≤kd∧x.1++(iE (kd - x.1.length) x.2).1=vs∧(iE (kd - x.1.length) x.2).2=(m7,l7,e7)∧x.2.2.1.length≤l6.length∧eD m x.2.1) (fun x=>kd - x.1.length) ([],(m6,l6,e6)) ⟨by simp,by simp [h7],by simp [h7],nrq _,hm6⟩ ?_ fun x hx=>?_
 ·rw [hHL,hEC]
  refine ⟨by simp only [zle,zlf,zkq,zkv];omega,lRq _,by have:=hclL (m6,l6,e6) ys p a [] ys.length 0 hm6;rw [hHL,hEC] at this;exact this,?_,?_⟩
  ·simp [ltF,zle,zlf,znn,znf]
   omega
  ·simp [cf,wk2,wk1,wkM,Fr.get]
 obtain ⟨zs,mz,lz,ez⟩:=x
 obtain ⟨z1,z2,z3,z4,z5⟩:=hx
 dsimp only at z1 z2 z3 z4 z5 ⊢
 have bz0:lz.length≤100000:=by omega
 simp only [go_sem]
 refine af (fun hc=>?_) (fun hc=>?_)
 ·have hk':zs.length<kd:=by simp at hc;omega
  have e5:IntKind.i64.wrap ((zs.length:Int)+1)=((zs.length+1:Nat):Int):=by rw [wrap_i64]<;>omega
  have hsub:kd - zs.length=(kd - (zs.length+1))+1:=by omega
  rw [hsub] at z2 z3
  unfold iE at z2 z3
  dsimp only at z2 z3
  have lM:=gk mz lz ez
  have mM:=au z5 (jG mz lz ez)
  generalize hM:bn (mz,lz,ez)=q at *
  obtain ⟨x,mx,lx,ex⟩:=q
  dsimp only at z2 z3 lM mM
  rw [hHL,hEC]
  have hz:∀ z∈[vv x],bN z.cells=true:=fun z hz=>by rw [List.mem_singleton.1 hz];rfl
  simp only [bk,bh,bhq,Nat.reduceMod,Nat.reduceDiv,aA,az,aB,aZ,aC,aY,aS,aU,aV,yaq,yar,yao,yap,go_sem,byq,hne,hid,hcs,hcm,hgm,onR,aj,aE,zmb,zlz,zlk,and_true,true_and,hid,lW,hM,bz0,aJ,ybb,e5,EX,Hi]
  (repeat with_reducible refine And.intro (by first|assumption|decide|omega|exact ⟨by omega,by omega,hz⟩) ?_)
  have hn1:(zs++[x]).length=zs.length+1:=by simp
  have hcl1:=hclL (mx,lx,ex) ys p a (zs++[x]) ys.length (zs.length+1) mM
  rw [hHL,hEC] at hcl1
  refine ⟨(zs++[x],(mx,lx,ex)),⟨by dsimp only;omega,by dsimp only;rw [hn1,List.append_assoc];exact z2,by dsimp only;rw [hn1];exact z3,by dsimp only;omega,mM⟩,by dsimp only;omega,?_⟩
  dsimp only
  rw [hn1]
  rw [List.map_append,yae,yaf]
  dsimp only at hcl1
  rw [List.map_append,yae,yaf] at hcl1
  refine ⟨by simp only [zle,zlf];omega,by repeat first|exact .refl _|refine .push ?_ _,hcl1,?_,?_⟩
  ·simp [ltF,zle,zlf,znn,znf]
   omega
  ·simp [cf,wk2,wk1,wkM,Fr.get]
 have hk2:zs.length=kd:=by simp at hc;omega
 rw [hk2,Nat.sub_self] at z2 z3
 simp only [iE,yaj] at z2 z3
 subst z2
 cases z3
 rw [hHL,hEC]
 have hclE:=ax hid hcl m7 hm7 l7 e7
 by_cases h0:e7=0
 ·subst h0
  rw [if_pos rfl] at hQ
  subst hQ
  have d0:((0:Int) != 0)=false:=rfl
  simp only [bk,bh,bhq,Nat.reduceMod,Nat.reduceDiv,aA,az,aB,aZ,aC,aY,aS,aU,aV,yaq,yar,yao,yap,go_sem,byq,hne,hid,hcs,hcm,hgm,onR,aj,aE,zmb,zlz,zlk,and_true,true_and,hid,cK,bz0,aJ,ybb,d0]
  refine ⟨⟨rfl,.inl ⟨.inl rfl,rfl,rfl⟩,rfl,rfl,.inl ⟨.inl rfl,rfl,rfl⟩,trivial⟩,by repeat first|exact .refl _|refine .push ?_ _,hclE,dJ _⟩
 ·rw [if_neg h0] at hQ
  subst hQ
  have d0:(e7 != 0)=true:=by simpa using h0
  simp only [bk,bh,bhq,Nat.reduceMod,Nat.reduceDiv,aA,az,aB,aZ,aC,aY,aS,aU,aV,yaq,yar,yao,yap,go_sem,byq,hne,hid,hcs,hcm,hgm,onR,aj,aE,zmb,zlz,zlk,and_true,true_and,hid,cK,bz0,aJ,ybb,d0]
  refine ⟨⟨rfl,.inr ⟨rfl,rfl,rfl,rfl⟩,rfl,rfl,.inr ⟨rfl,rfl,rfl,rfl⟩,trivial⟩,by repeat first|exact .refl _|refine .push ?_ _,hclE,dJ _⟩
structure WMOk (m:SMatch):Prop where
 ok:MOk m
 p0:0≤m.pfx
 p1:m.pfx≤255
 no:m.present=false→m=dV
structure WOk (e:SEntry):Prop where
 t0:0≤e.table
 t1:e.table≤65535
 p0:0≤e.prio
 p1:e.prio≤65535
 a0:0≤e.act
 a1:e.act≤65535
 ml:e.ms.length≤4
 al:e.args.length≤4
 mo:∀ m∈e.ms,WMOk m
 ar:∀ x∈e.args,x<2^128
theorem Ag {n:Int} (h0:0≤n) (h1:n≤65535) (r:List UInt8):aq (.any,aa n 2++r,0) 2=(n,.any,r,0):=by
 obtain ⟨k,rfl⟩:∃ k:Nat,n=(k:Int):=⟨n.toNat,by omega⟩
 have e:aa (k:Int) 2=be (k:Int) 2:=rfl
 rw [e]
 exact Af k 2 r (by decide) (by decide) (by omega)
theorem zK {k m:Nat} (h:k≤m) (hm:m≤65535) (r:List UInt8):bf (.any,aa (k:Int) 2++r,0) (m:Int)=((k:Int),.any,r,0):=by
 have hu:=Ag (n:=(k:Int)) (by omega) (by omega) r
 unfold aq at hu
 unfold bf
 have hl:(aa (k:Int) 2).length=2:=by
  have e:aa (k:Int) 2=be (k:Int) 2:=rfl
  rw [e,DM k 2 (by omega) (by decide)];exact dH k 2
 have h2:¬ (aa (k:Int) 2++r).length<2:=by rw [lAq,hl];omega
 have h3:¬ ((aa (k:Int) 2++r).length:Int)<2:=by omega
 dsimp only at hu ⊢
 rw [if_neg (by decide),if_neg (by decide),if_neg h3] at hu
 have e2:(2:Int).toNat=2:=rfl
 rw [e2] at hu
 have hv:((aO (List.take 2 (aa (k:Int) 2++r)):Nat):Int)=(k:Int):=congrArg Prod.fst hu
 rw [if_neg (by decide),if_neg h2,hv,if_neg (by omega)]
 have:=congrArg Prod.snd hu
 dsimp only at this
 rw [this]
theorem CU {b:List UInt8} {v:Nat} {w kind:Int}:(cq b v w kind).1.present=false→(cq b v w kind).1=dV:=by
 unfold cq
 dsimp only
 repeat' split
 all_goals first|(intro _;rfl)|(intro h;cases h)
theorem rO {S:Sch} {b:List UInt8}:∀ (ks:List SKey) (v:Nat) (p:Int),∀ m∈(ct S b ks v p).1.1,m.present=false→m=dV
 |[],v,p=>by simp [ct]
 |k::ks,v,p=>fun m hm=>by
  unfold ct at hm
  dsimp only at hm
  rcases List.mem_cons.1 hm with rfl|hm
  ·exact CU
  ·exact rO ks _ _ m hm
structure SSm (S:Sch):Prop where
 ti:∀ t∈S.tables,0≤t.id∧t.id≤65535
 ac:∀ t∈S.tables,∀ a∈t.actions,0≤a∧a≤65535
 pl:∀ a:Int,(fx S.actions a).params.length≤2
 k3:∀ t∈S.tables,t.keys.length≤3
theorem G6 (b:List UInt8) (v:Nat):SSm (eL b v).1 where
 ti:=fun t ht=>by
  simp only [eL,cF,List.mem_cons,List.not_mem_nil,or_false] at ht
  rcases ht with rfl|rfl|rfl|rfl<;>(simp only [i9,jd,dW,dU];omega)
 ac:=fun t ht a ha=>by
  simp only [eL,cF,List.mem_cons,List.not_mem_nil,or_false] at ht
  rcases ht with rfl|rfl|rfl|rfl<;>simp only [i9,jd,dW,dU,List.mem_cons,List.not_mem_nil,or_false] at ha<;>omega
 pl:=fun a=>by
  simp only [eL,du,fx]
  repeat' split
  all_goals (simp only [yaz,yba];omega)
 k3:=(FK b v).k4
theorem sY {S:Sch} (hG:GenS S) (hS:SSm S) {b:List UInt8} {v:Nat} {n:Int}:WOk (er S b v n).1:=by
 have hE:=qR hG (b:=b) (v:=v) (n:=n)
 have ht:=lk (S:=S) (n:=n) hG.t1
 have h1:=hS.ti _ ht
 have h2:=hS.ac _ ht _ hE.am
 have h3:=hS.pl (er S b v n).1.act
 have h4:=hS.k3 _ ht
 refine ⟨by rw [hE.tb];exact h1.1,by rw [hE.tb];exact h1.2,hE.p0,by have:=hE.p1;omega,h2.1,h2.2,by have:=hE.ml;omega,by have:=hE.al;omega,fun m hm=>?_,fun x hx=>Nat.lt_of_lt_of_le (hE.ao x hx) (by decide)⟩
 have g:=hE.mo m hm
 exact ⟨⟨Nat.lt_of_lt_of_le g.v (by decide),Nat.lt_of_lt_of_le g.k (by decide),Nat.lt_of_lt_of_le g.h (by decide)⟩,g.p0,by have:=g.p1;omega,rO _ _ _ m hm⟩
end Go.AL
