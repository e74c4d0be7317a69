/- Lemmas of the proof; no condition. -/
import Derived.Test.YtpbnggedofiinaaGreatM22b
import Derived.Test.YtpbnggedofiinaaGreatLMBack
import Derived.Test.YtpbnggedofiinaaGreatM20j
import Derived.Test.YtpbnggedofiinaaGreatM21g
import Derived.Test.YtpbnggedofiinaaGreatM20a
set_option linter.all false
set_option maxRecDepth 10000
open List renaming drop_succ_cons → yao, drop_zero → yap, length_cons → yaz, length_nil → yba, take_succ_cons → yaq, take_zero → yar
open Go Go.AL Go.Proofs
namespace Go.AL
theorem le_zero {H G:AHeap} (h:H.nx=0):H.Le G:=⟨by omega,fun i o ho=>by have:=glq ho;omega⟩
theorem tL {n0:Nat} {fr:Fr} {H:AHeap} {K:Fr→AHeap→Prop} (hn:n0=0) (s id sz:Nat) (xs:List AV) (fr':Fr) (Hk:AHeap) (h1:Fr.get fr s=.slice (.own id) sz xs) (h2:H.get id=some (.buf sz xs.length)) (h3:xs≠[]) (h4:u5 xs) (h5:Hk.nx≤H.nx) (h6:∀ i o,Hk.get i=some o→i≠id∧xF H i o) (h7:vF Hk fr' fr)
 (h:K ((s,.ms Hk.nx 0 sz xs.length)::fr') (Hk.push (.part (xs.flatMap AV.cells)))):jP n0 K fr H:=by
 subst hn;exact Cx s id sz xs fr' Hk h1 h2 h3 h4 h5 h6 h7 h
theorem ox {l:List UInt8}:u5 (bys l):=fun x hx y hy=>by
 obtain ⟨b,_,rfl⟩:=List.mem_map.1 hx
 have hy':y∈[aL b]:=hy
 rw [List.mem_singleton.1 hy'];rfl
theorem yh {l:List UInt8}:(bys l).flatMap AV.cells=bys l:=by
 induction l with
 |nil=>rfl
 |cons a l ih=>show [aL a]++(bys l).flatMap AV.cells=aL a::bys l;rw [ih];rfl
theorem eS {H:AHeap} {o x:AObj} {id:Nat} (h:H.get id=some x):(H.push o).get id=some x:=by
 rw [gPq _ _ (glq h)];exact h
theorem qB {H:AHeap} {i:Nat} {cs:List AV} (h:ai H i=some cs):H.get i=some (.cells cs):=by
 unfold ai at h
 split at h
 ·rename_i c hg;cases h;exact hg
 ·cases h
theorem sP {l:List UInt8} {n k:Nat} (h:n=l.length):bK 1 n (bys l++List.replicate k AV.junk)=bys l:=by
 subst h
 induction l with
 |nil=>rfl
 |cons a l ih =>
  show bK 1 (l.length+1) (aL a::(bys l++List.replicate k AV.junk))=aL a::bys l
  simp only [bK,if_true,yao,yap,ih]
  rfl
def je (n b nb i ni j nj:Nat):AHeap:=⟨n,fun k=>if k=b then some (.buf 1 nb) else if k=i then some (.cells (List.replicate ni .junk)) else if k=j then some (.cells (List.replicate nj .junk)) else none⟩
theorem wy {n b nb i ni j nj:Nat} (h:b<n):(je n b nb i ni j nj).get b=some (.buf 1 nb):=by
 unfold AHeap.get je;dsimp only;rw [if_pos h,if_pos rfl]
theorem wK {n b nb i ni j nj:Nat} (h:i<n) (h1:i≠b):(je n b nb i ni j nj).get i=some (.cells (List.replicate ni .junk)):=by
 unfold AHeap.get je;dsimp only;rw [if_pos h,if_neg h1,if_pos rfl]
theorem xz {n b nb i ni j nj:Nat} (h:j<n) (h1:j≠b) (h2:j≠i):(je n b nb i ni j nj).get j=some (.cells (List.replicate nj .junk)):=by
 unfold AHeap.get je;dsimp only;rw [if_pos h,if_neg h1,if_neg h2,if_pos rfl]
theorem Cu {n b nb i ni j nj k:Nat} {o:AObj} (h:(je n b nb i ni j nj).get k=some o):(k=b∧o=.buf 1 nb)∨(k=i∧o=.cells (List.replicate ni .junk))∨(k=j∧o=.cells (List.replicate nj .junk)):=by
 unfold AHeap.get je at h
 dsimp only at h
 split at h
 ·split at h
  ·rename_i e;exact .inl ⟨e,(Option.some.inj h).symm⟩
  ·split at h
   ·rename_i e;exact .inr (.inl ⟨e,(Option.some.inj h).symm⟩)
   ·split at h
    ·rename_i e;exact .inr (.inr ⟨e,(Option.some.inj h).symm⟩)
    ·cases h
 ·cases h
theorem yv {H:AHeap} {id n b nb i ni j nj:Nat} {ci cj:List AV} (hb:H.get b=some (.buf 1 nb)) (hi:H.get i=some (.cells ci)) (hj:H.get j=some (.cells cj)) (li:ci.length=ni) (lj:cj.length=nj) (h1:b≠id) (h2:i≠id) (h3:j≠id) :
 ∀ k o,(je n b nb i ni j nj).get k=some o→k≠id∧xF H k o:=fun k o h=>by
 rcases Cu h with ⟨rfl,rfl⟩|⟨rfl,rfl⟩|⟨rfl,rfl⟩
 ·exact ⟨h1,.inl ⟨_,_,rfl,hb⟩⟩
 ·exact ⟨h2,.inr ⟨_,hi,by rw [li]⟩⟩
 ·exact ⟨h3,.inr ⟨_,hj,by rw [lj]⟩⟩
theorem Bf {n b nb i ni j nj:Nat} {xs cs:List AV} {Q:AHeap} (hQ:((je n b nb i ni j nj).push (.part xs)).set n (.cells cs)=Q) (hb:b<n) (hi:i<n) (hj:j<n) (h1:i≠b) (h2:j≠b) (h3:j≠i) :
 Q.nx=n+1∧ai Q n=some cs∧Q.get b=some (.buf 1 nb)∧Q.get i=some (.cells (List.replicate ni .junk))∧Q.get j=some (.cells (List.replicate nj .junk)):=by
 subst hQ
 refine ⟨rfl,aM (AHeap.get_set_same _ _ (Nat.lt_succ_self n)),?_,?_,?_⟩
 ·rw [AHeap.get_set_ne _ _ (by omega)];exact eS (wy hb)
 ·rw [AHeap.get_set_ne _ _ (by omega)];exact eS (wK hi h1)
 ·rw [AHeap.get_set_ne _ _ (by omega)];exact eS (xz hj h2 h3)
theorem lO {Q:AHeap} {id k:Nat} {cs:List AV} {o x:AObj} (h:Q.get k=some x) (hk:k≠id):(((Q.set id (.cells cs)).del id).push o).get k=some x:=by
 refine eS ?_
 rw [j6,if_neg hk,AHeap.get_set_ne _ _ hk];exact h
theorem BU {Q:AHeap} {id:Nat} {cs:List AV} {o:AObj}:(((Q.set id (.cells cs)).del id).push o).get Q.nx=some o:=AHeap.get_push_new ((Q.set id (.cells cs)).del id) o
theorem Bh {H:AHeap} {n:Nat}:(jy H n).nx=H.nx+1+1+1+1:=rfl
theorem ji {H:AHeap} {n i:Nat} {cs:List AV} (h:ai H i=some cs):ai (jy H n) i=some cs:=by
 have h1:=qB h
 unfold ai
 rw [xS (glq h1),h1]
theorem B6 {H:AHeap} {n i:Nat} {o:AObj} (h:H.get i=some o):(jy H n).get i=some o:=by
 rw [xS (glq h)];exact h
theorem E4 {e:SEntry} (h:yS e):COk e:=by
 obtain ⟨_,⟨h1,h2⟩,_,_,h3,h4⟩:=h
 have p0:=Nat.two_pow_pos 128
 refine ⟨⟨by omega,by omega,fun m hm=>?_⟩,h4⟩
 obtain ⟨k1,k2⟩:=h2 m hm
 cases hp:m.present with
 |true=>exact ⟨(k1 hp).1,(k1 hp).2.1,(k1 hp).2.2.2⟩
 |false=>rw [k2 hp];exact ⟨p0,p0,p0⟩
theorem Hj {b:List UInt8} {y:SReq} (h:sb b=(y,0)):ROk y:=by
 obtain ⟨r,⟨h1,h2⟩,h3,h4,h6⟩:=DD h
 have p0:=Nat.two_pow_pos 128
 rw [h4]
 generalize y.kind=k at *
 obtain ⟨e,h5⟩:=h3
 have z:∀ u:Int × SEntry,u∈([]:List (Int × SEntry))→COk u.2:=fun u hu=>by cases hu
 have hk:=eE h1 h2
 rcases hk with rfl|rfl|rfl|rfl|rfl|rfl
 ·simp at h5
  rw [e];exact ⟨h5.2,Nat.zero_le _,Nat.zero_le _,z⟩
 ·rw [e];exact ⟨p0,Nat.zero_le _,Nat.zero_le _,z⟩
 ·simp at h5
  obtain ⟨_,k1,k2,k3⟩:=h5
  refine ⟨k1,by dsimp only;omega,?_,fun u hu=>E4 (k3 u.1 u.2 hu).2⟩
  rw [e];exact Nat.zero_le _
 ·rw [e];exact ⟨p0,Nat.zero_le _,Nat.zero_le _,z⟩
 ·rw [e];exact ⟨p0,Nat.zero_le _,Nat.zero_le _,z⟩
 ·simp at h5
  rw [e];exact ⟨p0,Nat.zero_le _,by show r.data.length≤10000;omega,z⟩
theorem EF {b:List UInt8} {y:SResp} (h:rd b=(y,0)):PE2 y:=by
 obtain ⟨⟨_,_,⟨h1,h2⟩,⟨h3,_⟩,_,_,h4⟩,_⟩:=EY h
 exact ⟨by omega,by omega,by omega,fun e he=>E4 (h2 e he)⟩
def oG:List AV→AHeap→(AV→Prop)→Prop
 |[.slice _ 1 l1,.slice _ 1 l2,.int .i64 at',.int .u8 by'],H,K=>(isB l1∧isB l2 ∧ -9223372036854775808≤at'∧at'≤9223372036854775807∧0≤by'∧by'<256∧H.nx=0)∧K (.bool true)
 |_,_,_=>False
set_option maxHeartbeats 8000000 in
theorem ok_MessageBack:EntOk Tryz.prog 3 (Ent.pure oG):=by
 refine Ype fun _ H K h=>?_
 unfold oG at h
 split at h
 rotate_left
 ·exact h.elim
 rename_i m1 l1 m2 l2 at' by'
 obtain ⟨⟨c1,c2,ha1,ha2,hb1,hb2,hn0⟩,hK⟩:=h
 refine ⟨_,hK,?_⟩
 clear hK
 obtain ⟨x1,rfl⟩:=fY c1
 obtain ⟨x2,rfl⟩:=fY c2
 clear c1 c2
 obtain ⟨B1,hB1⟩:∃ B1,x1.take (min (x1.length:Int) 120).toNat=B1:=⟨_,rfl⟩
 obtain ⟨B2,hB2⟩:∃ B2,x2.take (min (x2.length:Int) 120).toNat=B2:=⟨_,rfl⟩
 have hL1:B1.length≤1000000:=by rw [← hB1,List.length_take];omega
 have hL2:B2.length≤1000000:=by rw [← hB2,List.length_take];omega
 have hG:=Fz B1 0
 have hSS:=G6 B1 0
 generalize hS:eL B1 0=SS at *
 obtain ⟨S,w1⟩:=SS
 dsimp only at hG hSS
 have hz1:zod B1 0=cr B1 (cp 0 0):=zg
 have hz2:zod B2 0=cr B2 (cp 0 0):=zg
 have hR:=Bm hG (b:=B2) (v:=0)
 obtain ⟨Wa,hWa,hWa0,hWa8⟩:=Du hG hSS (b:=B2) (v:=0)
 generalize hRR:jj S B2 0=RR at *
 obtain ⟨R,w2⟩:=RR
 dsimp only at hR hWa
 have hP:=DL hG (b:=B2) (v:=min w2 B2.length)
 have hPg:=Ej hG hSS (b:=B2) (v:=min w2 B2.length)
 generalize hPP:pH S B2 (min w2 B2.length)=PP at *
 obtain ⟨P,w3⟩:=PP
 dsimp only at hP hPg
 obtain ⟨hR1,hR2⟩:=hR
 have hWp:=hPg.enc
 have hPe:=hPg.pe
 have hdR:=Eu hWa hR1
 have hdP:=Dn hWp hPe
 obtain ⟨Wb,hWb⟩:∃ Wb,jO P=Wb:=⟨_,rfl⟩
 rw [hWb] at hWp hdP
 refine ACalls.fW ah (tCq FL (tCq AK (tCq yd (tCq xh (tCq AQ (tCq Dj (tCq Cz (tCq DB (tCq Ei (tCq ls (tCq BX (tCq CS (tCq Cl (tCq Aj tNq)))))))))))))) Tryz.func3 [.tmp 8] (nrq _) (T:=ae [(2,[[],[],[1],[],[],[1,2,4],[],[],[1,2,4,5,6,7],[1,2,4,5,6,7]]),(802,[[6,41],[7,49]]),(9,[[1,1,30]]),(10,[[1,1,30]])]) (h:=fun hcl hlt=>?_)
 clear hlt
 simp only [bk,bh,bhq,Nat.reduceMod,Nat.reduceDiv,aA,az,aB,aZ,aC,aY,aS,aU,aV,yaq,yar,yao,yap,go_sem,wG]
 refine ⟨x1,⟨rfl,by omega⟩,?_⟩
 rw [hB1,hz1]
 have hSch:rn=eG fun b v=>(vj (eL b v).1,(eL b v).2):=rfl
 simp only [bk,bh,bhq,Nat.reduceMod,Nat.reduceDiv,aA,az,aB,aZ,aC,aY,aS,aU,aV,yaq,yar,yao,yap,go_sem,wG,hSch,eG,av hL1,Nat.zero_min,cp0,hS,vj,cQ]
 refine ⟨x2,⟨rfl,by omega⟩,?_⟩
 rw [hB2,hz2]
 simp only [bk,bh,bhq,Nat.reduceMod,Nat.reduceDiv,aA,az,aB,aZ,aC,aY,aS,aU,aV,yaq,yar,yao,yap,go_sem,pB,av hL2,Nat.zero_min,cp0]
 refine ⟨S,⟨rfl,hG⟩,?_⟩
 simp only [bk,bh,bhq,Nat.reduceMod,Nat.reduceDiv,aA,az,aB,aZ,aC,aY,aS,aU,aV,yaq,yar,yao,yap,go_sem,k9,av hL2,Nat.zero_min,cp0,hRR,bb,aF]
 refine ⟨S,⟨rfl,hG⟩,?_⟩
 simp only [bk,bh,bhq,Nat.reduceMod,Nat.reduceDiv,aA,az,aB,aZ,aC,aY,aS,aU,aV,yaq,yar,yao,yap,go_sem,k9,av hL2,Nat.zero_min,cp0,hRR,hPP,bb,aF,eA,bR]
 have hWbl:0<Wb.length:=by rw [← hWb];exact List.length_pos_iff.2 (Ev P)
 have hWb6:Wb.length≤60000:=by
  have:=hPg.e
  have:=hPg.rl
  have:=hPg.d
  rw [← hWb];exact C8 (by omega) (by omega) (by omega) hPg.c
 obtain ⟨HB,hHB⟩:∃ HB,((((H.push (cr B1 w1)).push (cr B2 w3)).push (.cells (cQ S))).push (.cells (aF R))).push (.cells (bR P))=HB:=⟨_,rfl⟩
 have hBn:HB.nx=H.nx+1+1+1+1+1:=by rw [← hHB];rfl
 have hBr:ai HB (H.nx+1+1+1)=some (aF R):=by rw [← hHB];simp only [go_sem]
 have hBp:ai HB (H.nx+1+1+1+1)=some (bR P):=by rw [← hHB];simp only [go_sem]
 simp only [cQ,aF,bR] at hHB hBr hBp
 rw [hHB]
 clear hHB
 refine ⟨R,⟨rfl,hR1,by rw [hWa]⟩,?_⟩
 rw [hWa]
 dsimp only
 obtain ⟨G,hGG⟩:∃ G,jy HB Wa.length=G:=⟨_,rfl⟩
 have hGn:G.nx=H.nx+1+1+1+1+1+1+1+1+1:=by rw [← hGG,Bh,hBn]
 have hGr:=ji (n:=Wa.length) hBr
 have hGp:=ji (n:=Wa.length) hBp
 have hGb:(jy HB Wa.length).get (HB.nx+1+1+1)=some (.buf 1 Wa.length):=yU
 rw [hBn] at hGb
 rw [hGG] at hGr hGp hGb ⊢
 clear hGG hBr hBp
 have hWal:0<Wa.length:=List.length_pos_iff.2 hWa0
 simp only [bk,bh,bhq,Nat.reduceMod,Nat.reduceDiv,aA,az,aB,aZ,aC,aY,aS,aU,aV,yaq,yar,yao,yap,go_sem,byq,hBn,sj]
 refine ⟨Wa,⟨rfl,by omega⟩,?_⟩
 rw [hdR]
 simp only [bk,bh,bhq,Nat.reduceMod,Nat.reduceDiv,aA,az,aB,aZ,aC,aY,aS,aU,aV,yaq,yar,yao,yap,go_sem,byq,bb,aF,bR,hGp,hGn]
 refine ⟨P,⟨rfl,hPe.pe2,by rw [hWp]⟩,?_⟩
 rw [hWp]
 dsimp only
 obtain ⟨G1,hG1⟩:∃ G1,G.push (.cells (aF R))=G1:=⟨_,rfl⟩
 have h1n:G1.nx=H.nx+1+1+1+1+1+1+1+1+1+1:=by rw [← hG1,zle,hGn]
 have h1r:ai G1 (H.nx+1+1+1)=some (aF R):=by rw [← hG1];simp only [go_sem,hGn,hGr,aF]
 have h1p:ai G1 (H.nx+1+1+1+1)=some (bR P):=by rw [← hG1];simp only [go_sem,hGn,hGp,bR]
 have h1x:ai G1 (H.nx+1+1+1+1+1+1+1+1+1)=some (aF R):=by rw [← hG1];simp only [go_sem,hGn,aF]
 have h1b:G1.get (H.nx+1+1+1+1+1+1+1+1)=some (.buf 1 Wa.length):=by rw [← hG1];exact eS hGb
 simp only [aF] at hG1
 rw [hG1]
 clear hG1 hGr hGp hGb
 obtain ⟨G2,hG2⟩:∃ G2,jy G1 Wb.length=G2:=⟨_,rfl⟩
 have h2n:G2.nx=H.nx+1+1+1+1+1+1+1+1+1+1+1+1+1+1:=by rw [← hG2,Bh,h1n]
 have h2r:=ji (n:=Wb.length) h1r
 have h2p:=ji (n:=Wb.length) h1p
 have h2x:=ji (n:=Wb.length) h1x
 have h2a:=B6 (n:=Wb.length) h1b
 have h2b:(jy G1 Wb.length).get (G1.nx+1+1+1)=some (.buf 1 Wb.length):=yU
 rw [h1n] at h2b
 rw [hG2] at h2r h2p h2x h2a h2b ⊢
 clear hG2 h1r h1p h1x h1b
 simp only [aF,bR] at h2r h2p h2x
 simp only [bk,bh,bhq,Nat.reduceMod,Nat.reduceDiv,aA,az,aB,aZ,aC,aY,aS,aU,aV,yaq,yar,yao,yap,go_sem,byq,h1n,xn]
 refine ⟨Wb,⟨rfl,by omega⟩,?_⟩
 rw [hdP]
 have cA:((Wa.length:Int)==0)=false:=beq_eq_false_iff_ne.2 (by omega)
 have cB:((Wb.length:Int)==0)=false:=beq_eq_false_iff_ne.2 (by omega)
 simp only [bk,bh,bhq,Nat.reduceMod,Nat.reduceDiv,aA,az,aB,aZ,aC,aY,aS,aU,aV,yaq,yar,yao,yap,go_sem,byq,bb,aF,eA,bR,h2r,h2p,h2x,h2n,bne_self_eq_false]
 refine ⟨R,R,⟨rfl,rfl,hR1.rc,hR1.rc⟩,?_⟩
 simp only [bk,bh,bhq,Nat.reduceMod,Nat.reduceDiv,aA,az,aB,aZ,aC,aY,aS,aU,aV,yaq,yar,yao,yap,go_sem,byq,bb,aF,eA,bR,h2r,h2p,h2x,h2n,bne_self_eq_false,yE,Bool.not_true,t4]
 refine ⟨P,P,⟨rfl,rfl,hP,hP⟩,?_⟩
 simp only [bk,bh,bhq,Nat.reduceMod,Nat.reduceDiv,aA,az,aB,aZ,aC,aY,aS,aU,aV,yaq,yar,yao,yap,go_sem,byq,bb,aF,eA,bR,h2r,h2p,h2x,h2n,bne_self_eq_false,zb,Bool.not_true,iN]
 refine ⟨R,R,⟨rfl,rfl,hR1.rc,hR1.rc⟩,?_⟩
 simp only [bk,bh,bhq,Nat.reduceMod,Nat.reduceDiv,aA,az,aB,aZ,aC,aY,aS,aU,aV,yaq,yar,yao,yap,go_sem,byq,bb,aF,eA,bR,h2r,h2p,h2x,h2n,bne_self_eq_false,yE,Bool.not_true,tI]
 refine ⟨P,P,⟨rfl,rfl,hP,hP⟩,?_⟩
 simp only [bk,bh,bhq,Nat.reduceMod,Nat.reduceDiv,aA,az,aB,aZ,aC,aY,aS,aU,aV,yaq,yar,yao,yap,go_sem,byq,bb,aF,eA,bR,h2r,h2p,h2x,h2n,bne_self_eq_false,zb,Bool.not_true,cA,cB]
 refine tL hn0 13 (H.nx+1+1+1+1+1+1+1+1) 1 (bys Wa) [(2,.int .i64 at'),(3,.int .u8 by'),(15,.ptr (H.nx+1+1+1+1+1+1+1+1+1) 0),(17,.slice (.own (H.nx+1+1+1+1+1+1+1+1+1+1+1+1+1)) 1 (bys Wb)),(19,.ptr (H.nx+1+1+1+1+1+1+1+1+1+1+1+1+1+1) 0)] (je (H.nx+1+1+1+1+1+1+1+1+1+1+1+1+1+1+1) (H.nx+1+1+1+1+1+1+1+1+1+1+1+1+1) Wb.length (H.nx+1+1+1+1+1+1+1+1+1) 10 (H.nx+1+1+1+1+1+1+1+1+1+1+1+1+1+1) 9) rfl (by rw [zlk];exact eS h2a) (fun e=>by rw [zmt] at e;rw [e] at hWal;exact absurd hWal (by decide)) ox (by rw [zle,h2n];exact nrq _) (yv (eS h2b) (eS (qB h2x)) (by rw [← h2n];exact AHeap.get_push_new _ _) rfl rfl (by omega) (by omega) (by omega)) ⟨⟨rfl,.inl rfl⟩,⟨rfl,.inl rfl⟩,⟨rfl,.inr (.inr ⟨_,_,_,rfl,wK (by omega) (by omega)⟩)⟩,⟨rfl,.inr (.inl ⟨_,_,_,rfl,by rw [zlk];exact wy (by omega),ox⟩)⟩,⟨rfl,.inr (.inr ⟨_,_,_,rfl,xz (by omega) (by omega) (by omega)⟩)⟩,trivial⟩ ?_
 rw [yh,zlk,show (je (H.nx+1+1+1+1+1+1+1+1+1+1+1+1+1+1+1) (H.nx+1+1+1+1+1+1+1+1+1+1+1+1+1) Wb.length (H.nx+1+1+1+1+1+1+1+1+1) 10 (H.nx+1+1+1+1+1+1+1+1+1+1+1+1+1+1) 9).nx=H.nx+1+1+1+1+1+1+1+1+1+1+1+1+1+1+1 from rfl]
 refine vo (H.nx+1+1+1+1+1+1+1+1+1+1+1+1+1+1+1) (cs:=bys Wa) (AHeap.get_push_new (je (H.nx+1+1+1+1+1+1+1+1+1+1+1+1+1+1+1) (H.nx+1+1+1+1+1+1+1+1+1+1+1+1+1) Wb.length (H.nx+1+1+1+1+1+1+1+1+1) 10 (H.nx+1+1+1+1+1+1+1+1+1+1+1+1+1+1) 9) _) fun kQ=>?_
 obtain ⟨Q,hQ⟩:∃ Q,((je (H.nx+1+1+1+1+1+1+1+1+1+1+1+1+1+1+1) (H.nx+1+1+1+1+1+1+1+1+1+1+1+1+1) Wb.length (H.nx+1+1+1+1+1+1+1+1+1) 10 (H.nx+1+1+1+1+1+1+1+1+1+1+1+1+1+1) 9).push (.part (bys Wa))).set (H.nx+1+1+1+1+1+1+1+1+1+1+1+1+1+1+1) (.cells (bys Wa++List.replicate kQ .junk))=Q:=⟨_,rfl⟩
 obtain ⟨nQ,aQ,bQ,iQ,jQ⟩:=Bf hQ (by omega) (by omega) (by omega) (by omega) (by omega) (by omega)
 rw [hQ]
 clear hQ
 have lQ:H.nx+1+1+1+1+1+1+1+1+1+1+1+1+1+1+1<Q.nx:=by omega
 obtain ⟨pQ,hpQ⟩:∃ ia:Nat,at' % (Wa.length:Int)=(ia:Int):=⟨(at' % (Wa.length:Int)).toNat,by have:=Int.emod_nonneg at' (show ((Wa.length:Nat):Int)≠0 by omega);omega⟩
 have hlQ:pQ<Wa.length:=by have:=Int.emod_lt_of_pos at' (show (0:Int)<((Wa.length:Nat):Int) by omega);omega
 have gdQ:(bys Wa++List.replicate kQ AV.junk).getD pQ .junk=aL Wa[pQ]:=by
  rw [gEq,List.getElem?_append_left (by rw [zlk];exact hlQ),← gEq,nO hlQ]
  simp [gEq,hlQ]
 obtain ⟨eQ,heQ⟩:∃ eb:UInt8,AV.int .u8 (zk .u8 ((Wa[pQ].toNat:Nat):Int) by')=aL eb:=by unfold zk;exact ⟨_,sw⟩
 have spQ:splice (bys Wa++List.replicate kQ AV.junk) pQ (bys [eQ])=bys (Wa.set pQ eQ)++List.replicate kQ AV.junk:=by
  show splice _ pQ [aL eQ]=_
  rw [ko,List.set_append_left _ _ (by rw [zlk];exact hlQ)]
  congr 1
  unfold bys;rw [List.map_set]
 have rwQ:bK 1 Wa.length (bys (Wa.set pQ eQ)++List.replicate kQ AV.junk)=bys (Wa.set pQ eQ):=sP (by rw [List.length_set])
 have blQ:(Wa.set pQ eQ).length=Wa.length:=List.length_set
 generalize Wa[pQ]=ca at *
 generalize Wa.set pQ eQ=Ba at *
 have gdQ':(bys Wa++List.replicate kQ AV.junk).getD pQ .junk=.int .u8 ((ca.toNat:Nat):Int):=gdQ
 have lcQ:(bys Wa++List.replicate kQ AV.junk).length=Wa.length+kQ:=by rw [lAq,zlk,List.length_replicate]
 have leQ:(1=1∧Wa.length≤Wa.length)=True:=eq_true ⟨rfl,nrq _⟩
 simp only [bk,bh,bhq,Nat.reduceMod,Nat.reduceDiv,aA,az,aB,aZ,aC,aY,aS,aU,aV,yaq,yar,yao,yap,go_sem,byq,iC,aQ,hpQ,iNq]
 refine ⟨⟨by omega,by omega⟩,⟨by omega,by omega⟩,by rw [lAq,zlk];omega,?_⟩
 simp only [bk,bh,bhq,Nat.reduceMod,Nat.reduceDiv,aA,az,aB,aZ,aC,aY,aS,aU,aV,yaq,yar,yao,yap,go_sem,byq,aQ,eZ lQ,gdQ',heQ,spQ,lcQ,zmd,zme]
 refine ⟨by omega,by omega,1,Wa.length,?_⟩
 simp only [bk,bh,bhq,Nat.reduceMod,Nat.reduceDiv,aA,az,aB,aZ,aC,aY,aS,aU,aV,yaq,yar,yao,yap,go_sem,byq,leQ,rwQ,nrq,eq_self,blQ,zok,zmd,zme,eZ lQ,nQ]
 have fU:=BU (Q:=Q) (id:=H.nx+1+1+1+1+1+1+1+1+1+1+1+1+1+1+1) (cs:=bys Ba++List.replicate kQ AV.junk) (o:=.buf 1 Wa.length)
 have bU:=lO (id:=H.nx+1+1+1+1+1+1+1+1+1+1+1+1+1+1+1) (cs:=bys Ba++List.replicate kQ AV.junk) (o:=.buf 1 Wa.length) bQ (by omega)
 have iU:=lO (id:=H.nx+1+1+1+1+1+1+1+1+1+1+1+1+1+1+1) (cs:=bys Ba++List.replicate kQ AV.junk) (o:=.buf 1 Wa.length) iQ (by omega)
 have jU:=lO (id:=H.nx+1+1+1+1+1+1+1+1+1+1+1+1+1+1+1) (cs:=bys Ba++List.replicate kQ AV.junk) (o:=.buf 1 Wa.length) jQ (by omega)
 rw [nQ] at fU
 obtain ⟨U,hU⟩:∃ Z,(((Q.set (H.nx+1+1+1+1+1+1+1+1+1+1+1+1+1+1+1) (.cells (bys Ba++List.replicate kQ AV.junk))).del (H.nx+1+1+1+1+1+1+1+1+1+1+1+1+1+1+1)).push (.buf 1 Wa.length))=Z:=⟨_,rfl⟩
 have nU:U.nx=H.nx+1+1+1+1+1+1+1+1+1+1+1+1+1+1+1+1+1:=by rw [← hU];simp only [zle,gI,zlf,nQ]
 rw [hU] at fU bU iU jU ⊢
 clear hU
 refine tL hn0 17 (H.nx+1+1+1+1+1+1+1+1+1+1+1+1+1) 1 (bys Wb) [(2,.int .i64 at'),(3,.int .u8 by'),(13,.slice (.own (H.nx+1+1+1+1+1+1+1+1+1+1+1+1+1+1+1+1)) 1 (bys Ba)),(15,.ptr (H.nx+1+1+1+1+1+1+1+1+1) 0),(19,.ptr (H.nx+1+1+1+1+1+1+1+1+1+1+1+1+1+1) 0)] (je (H.nx+1+1+1+1+1+1+1+1+1+1+1+1+1+1+1+1+1) (H.nx+1+1+1+1+1+1+1+1+1+1+1+1+1+1+1+1) Ba.length (H.nx+1+1+1+1+1+1+1+1+1) 10 (H.nx+1+1+1+1+1+1+1+1+1+1+1+1+1+1) 9) rfl (by rw [zlk];exact bU) (fun e=>by rw [zmt] at e;rw [e] at hWbl;exact absurd hWbl (by decide)) ox (by rw [nU];exact nrq _) (yv (by rw [blQ];exact fU) iU jU rfl rfl (by omega) (by omega) (by omega)) ⟨⟨rfl,.inl rfl⟩,⟨rfl,.inl rfl⟩,⟨rfl,.inr (.inl ⟨_,_,_,rfl,by rw [zlk];exact wy (by omega),ox⟩)⟩,⟨rfl,.inr (.inr ⟨_,_,_,rfl,wK (by omega) (by omega)⟩)⟩,⟨rfl,.inr (.inr ⟨_,_,_,rfl,xz (by omega) (by omega) (by omega)⟩)⟩,trivial⟩ ?_
 rw [yh,zlk,show (je (H.nx+1+1+1+1+1+1+1+1+1+1+1+1+1+1+1+1+1) (H.nx+1+1+1+1+1+1+1+1+1+1+1+1+1+1+1+1) Ba.length (H.nx+1+1+1+1+1+1+1+1+1) 10 (H.nx+1+1+1+1+1+1+1+1+1+1+1+1+1+1) 9).nx=H.nx+1+1+1+1+1+1+1+1+1+1+1+1+1+1+1+1+1 from rfl]
 refine vo (H.nx+1+1+1+1+1+1+1+1+1+1+1+1+1+1+1+1+1) (cs:=bys Wb) (AHeap.get_push_new (je (H.nx+1+1+1+1+1+1+1+1+1+1+1+1+1+1+1+1+1) (H.nx+1+1+1+1+1+1+1+1+1+1+1+1+1+1+1+1) Ba.length (H.nx+1+1+1+1+1+1+1+1+1) 10 (H.nx+1+1+1+1+1+1+1+1+1+1+1+1+1+1) 9) _) fun kX=>?_
 obtain ⟨X,hX⟩:∃ X,((je (H.nx+1+1+1+1+1+1+1+1+1+1+1+1+1+1+1+1+1) (H.nx+1+1+1+1+1+1+1+1+1+1+1+1+1+1+1+1) Ba.length (H.nx+1+1+1+1+1+1+1+1+1) 10 (H.nx+1+1+1+1+1+1+1+1+1+1+1+1+1+1) 9).push (.part (bys Wb))).set (H.nx+1+1+1+1+1+1+1+1+1+1+1+1+1+1+1+1+1) (.cells (bys Wb++List.replicate kX .junk))=X:=⟨_,rfl⟩
 obtain ⟨nX,aX,bX,iX,jX⟩:=Bf hX (by omega) (by omega) (by omega) (by omega) (by omega) (by omega)
 rw [hX]
 clear hX
 have lX:H.nx+1+1+1+1+1+1+1+1+1+1+1+1+1+1+1+1+1<X.nx:=by omega
 obtain ⟨pX,hpX⟩:∃ ia:Nat,at' % (Wb.length:Int)=(ia:Int):=⟨(at' % (Wb.length:Int)).toNat,by have:=Int.emod_nonneg at' (show ((Wb.length:Nat):Int)≠0 by omega);omega⟩
 have hlX:pX<Wb.length:=by have:=Int.emod_lt_of_pos at' (show (0:Int)<((Wb.length:Nat):Int) by omega);omega
 have gdX:(bys Wb++List.replicate kX AV.junk).getD pX .junk=aL Wb[pX]:=by
  rw [gEq,List.getElem?_append_left (by rw [zlk];exact hlX),← gEq,nO hlX]
  simp [gEq,hlX]
 obtain ⟨eX,heX⟩:∃ eb:UInt8,AV.int .u8 (zk .u8 ((Wb[pX].toNat:Nat):Int) by')=aL eb:=by unfold zk;exact ⟨_,sw⟩
 have spX:splice (bys Wb++List.replicate kX AV.junk) pX (bys [eX])=bys (Wb.set pX eX)++List.replicate kX AV.junk:=by
  show splice _ pX [aL eX]=_
  rw [ko,List.set_append_left _ _ (by rw [zlk];exact hlX)]
  congr 1
  unfold bys;rw [List.map_set]
 have rwX:bK 1 Wb.length (bys (Wb.set pX eX)++List.replicate kX AV.junk)=bys (Wb.set pX eX):=sP (by rw [List.length_set])
 have blX:(Wb.set pX eX).length=Wb.length:=List.length_set
 generalize Wb[pX]=cb at *
 generalize Wb.set pX eX=Bb at *
 have gdX':(bys Wb++List.replicate kX AV.junk).getD pX .junk=.int .u8 ((cb.toNat:Nat):Int):=gdX
 have lcX:(bys Wb++List.replicate kX AV.junk).length=Wb.length+kX:=by rw [lAq,zlk,List.length_replicate]
 have leX:(1=1∧Wb.length≤Wb.length)=True:=eq_true ⟨rfl,nrq _⟩
 simp only [bk,bh,bhq,Nat.reduceMod,Nat.reduceDiv,aA,az,aB,aZ,aC,aY,aS,aU,aV,yaq,yar,yao,yap,go_sem,byq,iC,aX,hpX,iNq]
 refine ⟨⟨by omega,by omega⟩,⟨by omega,by omega⟩,by rw [lAq,zlk];omega,?_⟩
 simp only [bk,bh,bhq,Nat.reduceMod,Nat.reduceDiv,aA,az,aB,aZ,aC,aY,aS,aU,aV,yaq,yar,yao,yap,go_sem,byq,aX,eZ lX,gdX',heX,spX,lcX,zmd,zme]
 refine ⟨by omega,by omega,1,Wb.length,?_⟩
 simp only [bk,bh,bhq,Nat.reduceMod,Nat.reduceDiv,aA,az,aB,aZ,aC,aY,aS,aU,aV,yaq,yar,yao,yap,go_sem,byq,leX,rwX,nrq,eq_self,blX,zok,zmd,zme,eZ lX,nX]
 have fV:=BU (Q:=X) (id:=H.nx+1+1+1+1+1+1+1+1+1+1+1+1+1+1+1+1+1) (cs:=bys Bb++List.replicate kX AV.junk) (o:=.buf 1 Wb.length)
 have bV:=lO (id:=H.nx+1+1+1+1+1+1+1+1+1+1+1+1+1+1+1+1+1) (cs:=bys Bb++List.replicate kX AV.junk) (o:=.buf 1 Wb.length) bX (by omega)
 have iV:=lO (id:=H.nx+1+1+1+1+1+1+1+1+1+1+1+1+1+1+1+1+1) (cs:=bys Bb++List.replicate kX AV.junk) (o:=.buf 1 Wb.length) iX (by omega)
 have jV:=lO (id:=H.nx+1+1+1+1+1+1+1+1+1+1+1+1+1+1+1+1+1) (cs:=bys Bb++List.replicate kX AV.junk) (o:=.buf 1 Wb.length) jX (by omega)
 rw [nX] at fV
 obtain ⟨V,hV⟩:∃ Z,(((X.set (H.nx+1+1+1+1+1+1+1+1+1+1+1+1+1+1+1+1+1) (.cells (bys Bb++List.replicate kX AV.junk))).del (H.nx+1+1+1+1+1+1+1+1+1+1+1+1+1+1+1+1+1)).push (.buf 1 Wb.length))=Z:=⟨_,rfl⟩
 have nV:V.nx=H.nx+1+1+1+1+1+1+1+1+1+1+1+1+1+1+1+1+1+1+1:=by rw [← hV];simp only [zle,gI,zlf,nX]
 rw [hV] at fV bV iV jV ⊢
 clear hV
 have kX:ai V (H.nx+1+1+1+1+1+1+1+1+1)=some [.junk,.junk,.junk,.junk,.junk,.junk,.junk,.junk,.junk,.junk]:=aM iV
 have kY:ai V (H.nx+1+1+1+1+1+1+1+1+1+1+1+1+1+1)=some [.junk,.junk,.junk,.junk,.junk,.junk,.junk,.junk,.junk]:=aM jV
 have lX9:H.nx+1+1+1+1+1+1+1+1+1<V.nx:=by omega
 simp only [bk,bh,bhq,Nat.reduceMod,Nat.reduceDiv,aA,az,aB,aZ,aC,aY,aS,aU,aV,yaq,yar,yao,yap,go_sem,byq,sj,nV]
 refine ⟨Ba,⟨rfl,by omega⟩,?_⟩
 obtain ⟨⟨y,g⟩,hD⟩:∃ D,sb Ba=D:=⟨_,rfl⟩
 rw [hD]
 simp only [bk,bh,bhq,Nat.reduceMod,Nat.reduceDiv,aA,az,aB,aZ,aC,aY,aS,aU,aV,yaq,yar,yao,yap,go_sem,byq,bb,aF,kX,nV]
 refine af (fun hg=>?_) (fun hg=>?_)
 ·have hg0:g=0:=by simpa using hg
  subst hg0
  have hDb:=Ew hD
  simp only [bk,bh,bhq,Nat.reduceMod,Nat.reduceDiv,aA,az,aB,aZ,aC,aY,aS,aU,aV,yaq,yar,yao,yap,go_sem,byq,bb,aF,eZ lX9,nV]
  refine ⟨y,⟨rfl,Hj hD,by rw [hDb]⟩,?_⟩
  rw [hDb]
  simp only [bk,bh,bhq,Nat.reduceMod,Nat.reduceDiv,aA,az,aB,aZ,aC,aY,aS,aU,aV,yaq,yar,yao,yap,go_sem,byq,bb,aF,bne_self_eq_false,beq_self_eq_true,Bool.not_true]
  have kP:ai (jy (V.set (H.nx+1+1+1+1+1+1+1+1+1) (.cells (aF y))) Ba.length) (H.nx+1+1+1+1+1+1+1+1+1+1+1+1+1+1)=some [.junk,.junk,.junk,.junk,.junk,.junk,.junk,.junk,.junk]:=ji (by rw [eZ lX9,if_neg (by omega)];exact kY)
  obtain ⟨F,hF⟩:∃ F,jy (V.set (H.nx+1+1+1+1+1+1+1+1+1) (.cells (aF y))) Ba.length=F:=⟨_,rfl⟩
  rw [hF] at kP
  simp only [aF] at hF
  rw [hF]
  clear hF
  have lP:H.nx+1+1+1+1+1+1+1+1+1+1+1+1+1+1<F.nx:=glq (qB kP)
  refine ⟨Bb,⟨rfl,by omega⟩,?_⟩
  obtain ⟨⟨z,u⟩,hE⟩:∃ D,rd Bb=D:=⟨_,rfl⟩
  rw [hE]
  simp only [bk,bh,bhq,Nat.reduceMod,Nat.reduceDiv,aA,az,aB,aZ,aC,aY,aS,aU,aV,yaq,yar,yao,yap,go_sem,byq,eA,bR,kP]
  refine af (fun hg2=>?_) (fun hg2=>?_)
  ·have hu0:u=0:=by simpa using hg2
   subst hu0
   have hEb:=xQ hE
   simp only [bk,bh,bhq,Nat.reduceMod,Nat.reduceDiv,aA,az,aB,aZ,aC,aY,aS,aU,aV,yaq,yar,yao,yap,go_sem,byq,eA,bR,eZ lP]
   refine ⟨z,⟨rfl,EF hE,by rw [hEb]⟩,?_⟩
   rw [hEb]
   simp only [bk,bh,bhq,Nat.reduceMod,Nat.reduceDiv,aA,az,aB,aZ,aC,aY,aS,aU,aV,yaq,yar,yao,yap,go_sem,byq,eA,bR,bne_self_eq_false,beq_self_eq_true,Bool.not_true,ke]
   exact ⟨rfl,le_zero hn0,hcl,by rw [zng];trivial⟩
  ·simp only [bk,bh,bhq,Nat.reduceMod,Nat.reduceDiv,aA,az,aB,aZ,aC,aY,aS,aU,aV,yaq,yar,yao,yap,go_sem,byq,eA,bR,ke]
   exact ⟨rfl,le_zero hn0,hcl,by rw [zng];trivial⟩
 ·simp only [bk,bh,bhq,Nat.reduceMod,Nat.reduceDiv,aA,az,aB,aZ,aC,aY,aS,aU,aV,yaq,yar,yao,yap,go_sem,byq,bb,aF,nV]
  have kP:ai (V.set (H.nx+1+1+1+1+1+1+1+1+1) (.cells (aF y))) (H.nx+1+1+1+1+1+1+1+1+1+1+1+1+1+1)=some [.junk,.junk,.junk,.junk,.junk,.junk,.junk,.junk,.junk]:=(by rw [eZ lX9,if_neg (by omega)];exact kY)
  obtain ⟨F,hF⟩:∃ F,V.set (H.nx+1+1+1+1+1+1+1+1+1) (.cells (aF y))=F:=⟨_,rfl⟩
  rw [hF] at kP
  simp only [aF] at hF
  rw [hF]
  clear hF
  have lP:H.nx+1+1+1+1+1+1+1+1+1+1+1+1+1+1<F.nx:=glq (qB kP)
  refine ⟨Bb,⟨rfl,by omega⟩,?_⟩
  obtain ⟨⟨z,u⟩,hE⟩:∃ D,rd Bb=D:=⟨_,rfl⟩
  rw [hE]
  simp only [bk,bh,bhq,Nat.reduceMod,Nat.reduceDiv,aA,az,aB,aZ,aC,aY,aS,aU,aV,yaq,yar,yao,yap,go_sem,byq,eA,bR,kP]
  refine af (fun hg2=>?_) (fun hg2=>?_)
  ·have hu0:u=0:=by simpa using hg2
   subst hu0
   have hEb:=xQ hE
   simp only [bk,bh,bhq,Nat.reduceMod,Nat.reduceDiv,aA,az,aB,aZ,aC,aY,aS,aU,aV,yaq,yar,yao,yap,go_sem,byq,eA,bR,eZ lP]
   refine ⟨z,⟨rfl,EF hE,by rw [hEb]⟩,?_⟩
   rw [hEb]
   simp only [bk,bh,bhq,Nat.reduceMod,Nat.reduceDiv,aA,az,aB,aZ,aC,aY,aS,aU,aV,yaq,yar,yao,yap,go_sem,byq,eA,bR,bne_self_eq_false,beq_self_eq_true,Bool.not_true,ke]
   exact ⟨rfl,le_zero hn0,hcl,by rw [zng];trivial⟩
  ·simp only [bk,bh,bhq,Nat.reduceMod,Nat.reduceDiv,aA,az,aB,aZ,aC,aY,aS,aU,aV,yaq,yar,yao,yap,go_sem,byq,eA,bR,ke]
   exact ⟨rfl,le_zero hn0,hcl,by rw [zng];trivial⟩
end Go.AL
