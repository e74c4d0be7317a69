/- Lemmas of the proof; no condition. -/
import Derived.Test.YtpbnggedofiinaaGreatW04c
set_option linter.all false
set_option maxRecDepth 10000
open Go Go.AL Go.Proofs
namespace Go.AL
def Hp:List AV→AHeap→(AV→Prop)→Prop
 |[.slice _ 1 l],_,K=>∃ b:List UInt8,(l=bys b∧b.length≤100000)∧K (.tup [fL (nO b).1,.int .i64 (nO b).2])
 |_,_,_=>False
def xc:List AV→AHeap→(AV→Prop)→Prop:=Hp
theorem wA {n:Nat} (x:Sch) (e:Int):AV.lt n (.tup [fL x,.int .i64 e]):=by rw [zns];exact ⟨kA x,by rw [znf];trivial,trivial⟩
set_option maxHeartbeats 16000000 in
theorem Gk:EntOk Tryz.prog 20 (Ent.pure xc):=by
 unfold xc
 refine Ype fun _ H K h=>?_
 unfold Hp at h
 split at h
 rotate_left
 ·exact h.elim
 rename_i m l
 obtain ⟨b,⟨rfl,hb⟩,hK⟩:=h
 refine ⟨_,hK,?_⟩
 clear hK
 obtain ⟨D,hD⟩:∃ D,nO b=D:=⟨_,rfl⟩
 rw [hD]
 unfold nO at hD
 by_cases hlen:8000<b.length
 ·have d1:decide ((b.length:Int) > 8000)=true:=dtq (by omega)
  rw [if_pos hlen] at hD
  subst hD
  refine ACalls.fW ag (tCq BX (tCq fG (tCq pU (tCq od (tCq wv (tCq oh (tCq vM (tCq nW (tCq vq (tCq oQ (tCq vK (tCq nV (tCq vF (tCq oy (tCq vC (tCq ov (tCq wb (tCq nS (tCq vw tNq))))))))))))))))))) Tryz.func20 [.cell 2 32,.tmp 3] (nrq _) (T:=af []) (h:=fun hcl hlt=>?_)
  clear hlt
  try simp only [List.append_eq,List.cons_append,List.nil_append]
  simp only [bhq,Nat.reduceMod,Nat.reduceDiv,bh,bg,bm,cz,bk,cy,cr,cx,cu,List.take_succ_cons,List.take_zero,List.drop_succ_cons,List.drop_zero,go_sem,byq,d1]
  refine ⟨?_,by repeat first|exact .refl _|refine .push ?_ _,hcl,wA _ _⟩
  simp [wk,ak,wk2,wkL,wk1,wkM,fL,a9,pC]
 have d1:decide ((b.length:Int) > 8000)=false:=dfq (by omega)
 rw [if_neg hlen,← Aq] at hD
 unfold ut at hD
 obtain ⟨Q,hQ⟩:∃ Q,kN LP (.any,b,0)=Q:=⟨_,rfl⟩
 rw [hQ] at hD
 unfold kN at hQ
 dsimp only [rap,dD,rU,nF,mkS] at hQ
 have hl0:=ca .any b 0 2
 generalize h0:cm (.any,b,0) 2=q0 at *
 obtain ⟨v0,m0,l0,e0⟩:=q0
 dsimp only [rU,rV,rB] at hQ hl0
 have b0:l0.length≤100000:=by omega
 have hl1:=ca m0 l0 e0 2
 generalize h1:cm (m0,l0,e0) 2=q1 at *
 obtain ⟨v1,m1,l1,e1⟩:=q1
 dsimp only [rU,rV,rB] at hQ hl1
 have b1:l1.length≤100000:=by omega
 have hl2:=(dw rdFld_go 32).l (m1,l1,e1)
 generalize h2:rlP gp 32 (m1,l1,e1)=q2 at *
 obtain ⟨v2,m2,l2,e2⟩:=q2
 dsimp only [rU,rV,rB] at hQ hl2
 have b2:l2.length≤100000:=by omega
 have hl3:=(dw (dN gn) 8).l (m2,l2,e2)
 generalize h3:rlP (fe LP) 8 (m2,l2,e2)=q3 at *
 obtain ⟨v3,m3,l3,e3⟩:=q3
 dsimp only [rU,rV,rB] at hQ hl3
 have b3:l3.length≤100000:=by omega
 have hl4:=(dw (ep gn) 12).l (m3,l3,e3)
 generalize h4:rlP (fb LP) 12 (m3,l3,e3)=q4 at *
 obtain ⟨v4,m4,l4,e4⟩:=q4
 dsimp only [rU,rV,rB] at hQ hl4
 have b4:l4.length≤100000:=by omega
 have hl5:=(dw (eE gn) 12).l (m4,l4,e4)
 generalize h5:rlP (fg LP) 12 (m4,l4,e4)=q5 at *
 obtain ⟨v5,m5,l5,e5⟩:=q5
 dsimp only [rU,rV,rB] at hQ hl5
 have b5:l5.length≤100000:=by omega
 have hl6:=(dw (eR gn) 8).l (m5,l5,e5)
 generalize h6:rlP (fc LP) 8 (m5,l5,e5)=q6 at *
 obtain ⟨v6,m6,l6,e6⟩:=q6
 dsimp only [rU,rV,rB] at hQ hl6
 have b6:l6.length≤100000:=by omega
 have hl7:=(dw rdStg_go 12).l (m6,l6,e6)
 generalize h7:rlP gh 12 (m6,l6,e6)=q7 at *
 obtain ⟨v7,m7,l7,e7⟩:=q7
 dsimp only [rU,rV,rB] at hQ hl7
 have b7:l7.length≤100000:=by omega
 have hl8:=(dw (fM gn) 6).l (m7,l7,e7)
 generalize h8:rlP (eZ LP) 6 (m7,l7,e7)=q8 at *
 obtain ⟨v8,m8,l8,e8⟩:=q8
 dsimp only [rU,rV,rB] at hQ hl8
 have b8:l8.length≤100000:=by omega
 have hl9:=(dw rdRef_go 8).l (m8,l8,e8)
 generalize h9:rlP gk 8 (m8,l8,e8)=q9 at *
 obtain ⟨v9,m9,l9,e9⟩:=q9
 dsimp only [rU,rV,rB] at hQ hl9
 have b9:l9.length≤100000:=by omega
 subst hQ
 dsimp only at hD
 obtain ⟨F,hF'⟩:∃ F,gy (m9,l9,e9)=F:=⟨_,rfl⟩
 rw [hF'] at hD
 refine ACalls.fW ag (tCq BX (tCq fG (tCq pU (tCq od (tCq wv (tCq oh (tCq vM (tCq nW (tCq vq (tCq oQ (tCq vK (tCq nV (tCq vF (tCq oy (tCq vC (tCq ov (tCq wb (tCq nS (tCq vw tNq))))))))))))))))))) Tryz.func20 [.cell 2 32,.tmp 3] (nrq _) (T:=af []) (h:=fun hcl hlt=>?_)
 clear hlt
 try simp only [List.append_eq,List.cons_append,List.nil_append]
 simp only [dt,du,bhq,Nat.reduceMod,Nat.reduceDiv,bh,bg,bm,cz,bk,cy,cr,cx,cu,List.take_succ_cons,List.take_zero,List.drop_succ_cons,List.drop_zero,go_sem,byq,d1,onR,ah,az,List.set_cons_succ,List.set_cons_zero,hb,zm,nQ,ln,hF',gv,dl,aP,qq,dh,qv,dq,qe,df,qC,di,qu,dn,qG,dj,qm,dk,qt,h0,b0,h1,b1,h2,b2,h3,b3,h4,b4,h5,b5,h6,b6,h7,b7,h8,b8,h9,b9]
 refine ⟨by omega,?_⟩
 try simp only [dt,du,bhq,Nat.reduceMod,Nat.reduceDiv,bh,bg,bm,cz,bk,cy,cr,cx,cu,List.take_succ_cons,List.take_zero,List.drop_succ_cons,List.drop_zero,go_sem,byq,d1,onR,ah,az,List.set_cons_succ,List.set_cons_zero,hb,zm,nQ,ln,hF',gv,dl,aP,qq,dh,qv,dq,qe,df,qC,di,qu,dn,qG,dj,qm,dk,qt,h0,b0,h1,b1,h2,b2,h3,b3,h4,b4,h5,b5,h6,b6,h7,b7,h8,b8,h9,b9]
 refine ae (fun hf=>?_) (fun hf=>?_)
 ·have hf':F≠0:=by simpa using hf
  rw [if_pos hf'] at hD
  subst hD
  simp only [bhq,Nat.reduceMod,Nat.reduceDiv,bh,bg,bm,cz,bk,cy,cr,cx,cu,List.take_succ_cons,List.take_zero,List.drop_succ_cons,List.drop_zero,go_sem]
  refine ⟨?_,by repeat first|exact .refl _|refine .push ?_ _,hcl,wA _ _⟩
  simp [wk,ak,wk2,wkL,wk1,wkM,fL,a9,pC]
 ·have hf':F=0:=by simpa using hf
  rw [if_neg (by rw [hf'];decide)] at hD
  subst hD
  simp only [bhq,Nat.reduceMod,Nat.reduceDiv,bh,bg,bm,cz,bk,cy,cr,cx,cu,List.take_succ_cons,List.take_zero,List.drop_succ_cons,List.drop_zero,go_sem]
  refine ⟨?_,by repeat first|exact .refl _|refine .push ?_ _,hcl,wA _ _⟩
  simp [wk,ak,wk2,wkL,wk1,wkM,fL,a9]
end Go.AL
