/- Contracts and plain laws, a part of the proof; no condition of its own. -/
import Derived.Test.YtiiiljghmilepaaGreatW04f
set_option maxHeartbeats 32000000
open List renaming length_cons → yaz, length_nil → yba, cons_append → yal, nil_append → yak, take_succ_cons → yaq, take_zero → yar, drop_succ_cons → yao, drop_zero → yap, length_map → ybb, map_cons → yae, map_nil → yaf, append_nil → yaj
open Go Go.AL Go.Proofs
namespace Go.AL
set_option linter.all false
set_option maxRecDepth 10000
def yr:List AV→AHeap→(AEnd→AHeap→Prop)→Prop
 |[.ptr id 0],H,K=>onR H id fun m l e=>True∧K (.ret (aJ ((dK LX) (m,l,e)).1)) (H.set id (.cells (aE ((dK LX) (m,l,e)).2)))
 |_,_,_=>False
theorem zf:EntOk Tryz.prog 67 (Ent.effect yr):=by
 refine EntOk.effect fun args H K h=>?_
 unfold yr at h
 split at h
 rotate_left
 ·exact h.elim
 rename_i id
 obtain ⟨m,l,e,hid,hle,h⟩:=bU h
 obtain ⟨hpre,hK⟩:=h
 refine ⟨_,_,hK,?_⟩
 clear hK
 have hl0:=AHeap.get_lt hid
 have hne:=aU hl0
 have hss:=bo hid
 have hcs:=aI hid
 have hcm:=fun cs=>@av H id cs hl0
 have hgm:=fun o=>@aN H id o hl0
 obtain ⟨Q,hQ⟩:∃ Q,(dK LX) (m,l,e)=Q:=⟨_,rfl⟩
 rw [hQ]
 unfold dK at hQ
 try dsimp only [rap,cZ,rU,rT,rV,rB,kv] at hQ
 have hl0:=bm m l e 2
 have hm0:=bn m l e 2
 generalize h0:bB (m,l,e) 2=q0 at *
 obtain ⟨v0,m0,l0,e0⟩:=q0
 dsimp only [rU,rV,rB] at hQ hl0 hm0
 replace hm0:=aC (.inl rfl) hm0
 have b0:l0.length≤100000:=by omega
 have hl1:=fD m0 l0 e0 24
 have hm1:=fB m0 l0 e0 24
 generalize h1:dM (m0,l0,e0) 24=q1 at *
 obtain ⟨v1,m1,l1,e1⟩:=q1
 dsimp only [rU,rV,rB] at hQ hl1 hm1
 replace hm1:=aC hm0 hm1
 have b1:l1.length≤100000:=by omega
 rw [show rlX (eg LX) 8 (m1,l1,e1)=goX (eg LX) (aX (m1,l1,e1) 8).1.toNat (aX (m1,l1,e1) 8).2 from rfl] at hQ
 have hlc2:=cu m1 l1 e1 8
 have hmc2:=ct m1 l1 e1 8
 have hcb2:=cJ (m1,l1,e1) 8
 generalize hc2:aX (m1,l1,e1) 8=q2 at *
 obtain ⟨c2,mc2,lc2,ec2⟩:=q2
 dsimp only at hlc2 hmc2 hcb2 hQ
 obtain ⟨k2,rfl⟩:∃ k:Nat,c2=(k:Int):=⟨c2.toNat,by omega⟩
 rw [Int.toNat_natCast] at hQ
 replace hmc2:=aC hm1 hmc2
 have bc2:lc2.length≤100000:=by omega
 have hg2:=gz (f5 LX_go) k2 (mc2,lc2,ec2)
 obtain ⟨⟨v2,m2,l2,e2⟩,hU2⟩:∃ G,goX (eg LX) k2 (mc2,lc2,ec2)=G:=⟨_,rfl⟩
 rw [hU2] at hg2 hQ
 obtain ⟨hl2,hm2,_⟩:=hg2
 dsimp only [rU,rV,rB] at hQ hl2 hm2
 replace hm2:=aC hmc2 hm2
 have b2:l2.length≤100000:=by omega
 have hl3:=(eZ (fe 2) 12).l (m2,l2,e2)
 have hm3:=(eZ (fe 2) 12).m (m2,l2,e2)
 generalize h3:rlX (rU 2) 12 (m2,l2,e2)=q3 at *
 obtain ⟨v3,m3,l3,e3⟩:=q3
 dsimp only [rU,rV,rB] at hQ hl3 hm3
 replace hm3:=aC hm2 hm3
 have b3:l3.length≤100000:=by omega
 have hl4:=bm m3 l3 e3 2
 have hm4:=bn m3 l3 e3 2
 generalize h4:bB (m3,l3,e3) 2=q4 at *
 obtain ⟨v4,m4,l4,e4⟩:=q4
 dsimp only [rU,rV,rB] at hQ hl4 hm4
 replace hm4:=aC hm3 hm4
 have b4:l4.length≤100000:=by omega
 have hl5:=kU m4 l4 e4
 have hm5:=kL m4 l4 e4
 generalize h5:fu (m4,l4,e4)=q5 at *
 obtain ⟨v5,m5,l5,e5⟩:=q5
 dsimp only [rU,rV,rB] at hQ hl5 hm5
 replace hm5:=aC hm4 hm5
 have b5:l5.length≤100000:=by omega
 subst hQ
 dsimp only [aE]
 refine ACalls.fW aB (TblOk.cons iC (TblOk.cons oK (TblOk.cons jO (TblOk.cons rh (TblOk.cons DU TblOk.nil))))) Tryz.func67 [.cell 2 87] (by simp only [zkz];omega) (T:=ay [(12,[[],[],[],[],[3],[1,3],[],[1,3]]),(3,[[1]]),(9,[[1]]),(13,[[10]])]) (h:=fun hcl hlt=>?_)
 clear hlt
 try simp only [List.append_eq,yal,yak]
 simp only [cm,cl,bhq,Nat.reduceMod,Nat.reduceDiv,aY,aZ,a0,cb,a9,bY,ca,bV,bW,yaq,yar,yao,yap,go_sem,byq,hne,hid,hcs,hcm,hgm,onR,ae,au,zlv,zlt,zle,and_true,true_and,hid,onR,ae,aE,vv,vc,List.set_cons_succ,List.set_cons_zero,bR,dN,bj,fN,jT,h0,b0,h1,b1,hc2,bc2,b2,h3,b3,h4,b4,h5,b5,ybb]
 refine ⟨hle,?_⟩
 refine ey 3 2 4 (cs:=[.int .i64 v0,.str v1,.slice .nil 1 [],.slice .nil 1 [],.int .i64 0,.bool false]) rfl (by simp only [go_sem]) rfl ?_
 simp only [cm,cl,bhq,Nat.reduceMod,Nat.reduceDiv,aY,aZ,a0,cb,a9,bY,ca,bV,bW,yaq,yar,yao,yap,go_sem,byq,hne,hid,hcs,hcm,hgm,onR,ae,au,zlv,zlt,zle,and_true,true_and,hid,onR,ae,aE,vv,vc,List.set_cons_succ,List.set_cons_zero,bR,dN,bj,fN,jT,h0,b0,h1,b1,hc2,bc2,b2,h3,b3,h4,b4,h5,b5,ybb]
 have hcl2:∀ (s:RS) (us:List SGrant),cw m s.1→((((H.set id (.cells [.slice s.1 1 (bys s.2.1),.int .i64 s.2.2])).push (.cells [.int .i64 0,.str [],.slice .nil 1 [],.slice .nil 1 [],.int .i64 0,.bool false])).push (.cells [.int .i64 v0,.str v1,.slice (.own (H.nx+1+1)) 4 (us.map (ax)),.slice .nil 1 [],.int .i64 0,.bool false])).push (.buf 4 us.length)).Closed:=fun s us hs=>by
  have h0:((((H.set id (.cells [.slice s.1 1 (bys s.2.1),.int .i64 s.2.2])).push (.cells [.int .i64 0,.str [],.slice .nil 1 [],.slice .nil 1 [],.int .i64 0,.bool false])).push (.cells [])).push (.buf 4 us.length)).Closed:=by
   repeat' (first|exact am hid hcl _ hs _ _|refine aP ?_|refine ag ?_ ?_)
   all_goals first|trivial|simp [aH,zno,znp,zmz,zna,znb,zmj]
  have h0:=bS (i:=H.nx+1) (cs:=[.int .i64 v0,.str v1,.slice (.own (H.nx+1+1)) 4 (us.map (ax)),.slice .nil 1 [],.int .i64 0,.bool false]) h0 (by
   simp [zno,znp,zmz,zna,znb,zky,zkz,aH,gk,fX,fV,gb,gg,ga,gh,f4,fZ,f7,gd,fU,fY,gp,f9,gf]
   try omega)
  simp only [go_sem] at h0
  exact h0
 refine aA (A:=Nat × RS × List SGrant) (fun x=>[(0,.ptr id 0),(2,.ptr H.nx 0),(3,.ptr (H.nx+1) 0),(4,.int .i64 (x.1:Int))]) (fun x=>(((H.set id (.cells [.slice x.2.1.1 1 (bys x.2.1.2.1),.int .i64 x.2.1.2.2])).push (.cells [.int .i64 0,.str [],.slice .nil 1 [],.slice .nil 1 [],.int .i64 0,.bool false])).push (.cells [.int .i64 v0,.str v1,.slice (.own (H.nx+1+1)) 4 (x.2.2.map (ax)),.slice .nil 1 [],.int .i64 0,.bool false])).push (.buf 4 x.2.2.length)) (fun x=>x.2.2.length+x.1≤65535∧(x.2.2++(goX (eg LX) x.1 x.2.1).1,(goX (eg LX) x.1 x.2.1).2)=(v2,m2,l2,e2)∧x.2.1.2.1.length≤100000∧cw m x.2.1.1) (fun x=>x.1) (k2,(mc2,lc2,ec2),[]) ⟨by simp;omega,by rw [← hU2];rfl,bc2,hmc2⟩ ?_ fun x hx=>?_
 ·refine ⟨by (try simp only [zkk,zkp,zky,zkz]);omega,by repeat first|exact .refl _|refine .push ?_ _,hcl2 _ _ hmc2,?_,?_⟩
  ·simp [ltF,zmz,znh,zky,zkz]
   try omega
  ·simp [bf,wk2,wk1,wkM,Fr.get]
 obtain ⟨n2,⟨mx2,lx2,ex2⟩,us2⟩:=x
 obtain ⟨ha2,hb2,hd2,he2⟩:=hx
 dsimp only at ha2 hb2 hd2 he2 ⊢
 simp only [go_sem]
 refine ai (fun hc=>?_) (fun hc=>?_)
 ·obtain ⟨n2,rfl⟩:∃ m,n2=m+1:=⟨n2 - 1,by simp at hc;omega⟩
  have e52:IntKind.i64.wrap (((n2+1:Nat):Int) - 1)=((n2:Nat):Int):=by rw [wrap_i64]<;>omega
  have hge:goX (eg LX) (n2+1) (mx2,lx2,ex2)=(((eg LX) (mx2,lx2,ex2)).1::(goX (eg LX) n2 ((eg LX) (mx2,lx2,ex2)).2).1,(goX (eg LX) n2 ((eg LX) (mx2,lx2,ex2)).2).2):=rfl
  rw [hge] at hb2
  clear hge
  obtain ⟨E2,hE2⟩:∃ E,(eg LX) (mx2,lx2,ex2)=E:=⟨_,rfl⟩
  rw [hE2] at hb2
  unfold eg at hE2
  try dsimp only [rap,cZ,rU,rT,rV,rB,kv] at hE2
  have hly20:=bm mx2 lx2 ex2 2
  have hmy20:=bn mx2 lx2 ex2 2
  generalize hy20:bB (mx2,lx2,ex2) 2=qy20 at *
  obtain ⟨vy20,my20,ly20,ey20⟩:=qy20
  dsimp only [rU,rV,rB] at hE2 hly20 hmy20
  replace hmy20:=aC he2 hmy20
  have by20:ly20.length≤100000:=by omega
  have hly21:=kU my20 ly20 ey20
  have hmy21:=kL my20 ly20 ey20
  generalize hy21:fu (my20,ly20,ey20)=qy21 at *
  obtain ⟨vy21,my21,ly21,ey21⟩:=qy21
  dsimp only [rU,rV,rB] at hE2 hly21 hmy21
  replace hmy21:=aC hmy20 hmy21
  have by21:ly21.length≤100000:=by omega
  have hly22:=kU my21 ly21 ey21
  have hmy22:=kL my21 ly21 ey21
  generalize hy22:fu (my21,ly21,ey21)=qy22 at *
  obtain ⟨vy22,my22,ly22,ey22⟩:=qy22
  dsimp only [rU,rV,rB] at hE2 hly22 hmy22
  replace hmy22:=aC hmy21 hmy22
  have by22:ly22.length≤100000:=by omega
  rw [show rlX rB 4 (my22,ly22,ey22)=goX rB (aX (my22,ly22,ey22) 4).1.toNat (aX (my22,ly22,ey22) 4).2 from rfl] at hE2
  have hlcy23:=cu my22 ly22 ey22 4
  have hmcy23:=ct my22 ly22 ey22 4
  have hcby23:=cJ (my22,ly22,ey22) 4
  generalize hcy23:aX (my22,ly22,ey22) 4=qy23 at *
  obtain ⟨cy23,mcy23,lcy23,ecy23⟩:=qy23
  dsimp only at hlcy23 hmcy23 hcby23 hE2
  obtain ⟨ky23,rfl⟩:∃ k:Nat,cy23=(k:Int):=⟨cy23.toNat,by omega⟩
  rw [Int.toNat_natCast] at hE2
  replace hmcy23:=aC hmy22 hmcy23
  have bcy23:lcy23.length≤100000:=by omega
  have hgy23:=gz rB_go ky23 (mcy23,lcy23,ecy23)
  obtain ⟨⟨vy23,my23,ly23,ey23⟩,hUy23⟩:∃ G,goX rB ky23 (mcy23,lcy23,ecy23)=G:=⟨_,rfl⟩
  rw [hUy23] at hgy23 hE2
  obtain ⟨hly23,hmy23,_⟩:=hgy23
  dsimp only [rU,rV,rB] at hE2 hly23 hmy23
  replace hmy23:=aC hmcy23 hmy23
  have by23:ly23.length≤100000:=by omega
  subst hE2
  dsimp only at hb2
  simp only [cm,cl,bhq,Nat.reduceMod,Nat.reduceDiv,aY,aZ,a0,cb,a9,bY,ca,bV,bW,yaq,yar,yao,yap,go_sem,byq,hne,hid,hcs,hcm,hgm,onR,ae,au,zlv,zlt,zle,and_true,true_and,hid,onR,ae,aE,vv,vc,List.set_cons_succ,List.set_cons_zero,bR,dN,bj,fN,jT,h0,b0,h1,b1,hc2,bc2,b2,h3,b3,h4,b4,h5,b5,hd2,e52,hy20,by20,hy21,by21,hy22,by22,hcy23,bcy23,by23,ybb,ax]
  refine ey 5 3 1 (cs:=[.int .i64 vy20,.bool vy21,.bool vy22,.slice .nil 1 []]) rfl (by simp only [go_sem]) rfl ?_
  simp only [cm,cl,bhq,Nat.reduceMod,Nat.reduceDiv,aY,aZ,a0,cb,a9,bY,ca,bV,bW,yaq,yar,yao,yap,go_sem,byq,hne,hid,hcs,hcm,hgm,onR,ae,au,zlv,zlt,zle,and_true,true_and,hid,onR,ae,aE,vv,vc,List.set_cons_succ,List.set_cons_zero,bR,dN,bj,fN,jT,h0,b0,h1,b1,hc2,bc2,b2,h3,b3,h4,b4,h5,b5,hd2,e52,hy20,by20,hy21,by21,hy22,by22,hcy23,bcy23,by23,ybb]
  have hcly23:∀ (s:RS) (us:List Bool),cw m s.1→((((((H.set id (.cells [.slice s.1 1 (bys s.2.1),.int .i64 s.2.2])).push (.cells [.int .i64 0,.str [],.slice .nil 1 [],.slice .nil 1 [],.int .i64 0,.bool false])).push (.cells [.int .i64 v0,.str v1,.slice (.own (H.nx+1+1)) 4 (us2.map (ax)),.slice .nil 1 [],.int .i64 0,.bool false])).push (.buf 4 us2.length)).push (.cells [.int .i64 vy20,.bool vy21,.bool vy22,.slice (.own (H.nx+1+1+1+1)) 1 (us.map (.bool))])).push (.buf 1 us.length)).Closed:=fun s us hs=>by
   have h0:((((((H.set id (.cells [.slice s.1 1 (bys s.2.1),.int .i64 s.2.2])).push (.cells [.int .i64 0,.str [],.slice .nil 1 [],.slice .nil 1 [],.int .i64 0,.bool false])).push (.cells [])).push (.buf 4 us2.length)).push (.cells [])).push (.buf 1 us.length)).Closed:=by
    repeat' (first|exact am hid hcl _ hs _ _|refine aP ?_|refine ag ?_ ?_)
    all_goals first|trivial|simp [aH,zno,znp,zmz,zna,znb,zmj]
   have h0:=bS (i:=H.nx+1) (cs:=[.int .i64 v0,.str v1,.slice (.own (H.nx+1+1)) 4 (us2.map (ax)),.slice .nil 1 [],.int .i64 0,.bool false]) h0 (by
    simp [zno,znp,zmz,zna,znb,zky,zkz,aH,gk,fX,fV,gb,gg,ga,gh,f4,fZ,f7,gd,fU,fY,gp,f9,gf]
    try omega)
   simp only [go_sem] at h0
   have h0:=bS (i:=H.nx+1+1+1) (cs:=[.int .i64 vy20,.bool vy21,.bool vy22,.slice (.own (H.nx+1+1+1+1)) 1 (us.map (.bool))]) h0 (by
    simp [zno,znp,zmz,zna,znb,zky,zkz,aH,gk,fX,fV,gb,gg,ga,gh,f4,fZ,f7,gd,fU,fY,gp,f9,gf]
    try omega)
   simp only [go_sem] at h0
   exact h0
  refine aA (A:=Nat × RS × List Bool) (fun x=>[(0,.ptr id 0),(2,.ptr H.nx 0),(3,.ptr (H.nx+1) 0),(4,.int .i64 ((n2+1:Nat):Int)),(5,.ptr (H.nx+1+1+1) 0),(6,.int .i64 (x.1:Int))]) (fun x=>(((((H.set id (.cells [.slice x.2.1.1 1 (bys x.2.1.2.1),.int .i64 x.2.1.2.2])).push (.cells [.int .i64 0,.str [],.slice .nil 1 [],.slice .nil 1 [],.int .i64 0,.bool false])).push (.cells [.int .i64 v0,.str v1,.slice (.own (H.nx+1+1)) 4 (us2.map (ax)),.slice .nil 1 [],.int .i64 0,.bool false])).push (.buf 4 us2.length)).push (.cells [.int .i64 vy20,.bool vy21,.bool vy22,.slice (.own (H.nx+1+1+1+1)) 1 (x.2.2.map (.bool))])).push (.buf 1 x.2.2.length)) (fun x=>x.2.2.length+x.1≤65535∧(x.2.2++(goX rB x.1 x.2.1).1,(goX rB x.1 x.2.1).2)=(vy23,my23,ly23,ey23)∧x.2.1.2.1.length≤100000∧cw m x.2.1.1) (fun x=>x.1) (ky23,(mcy23,lcy23,ecy23),[]) ⟨by simp;omega,by rw [← hUy23];rfl,bcy23,hmcy23⟩ ?_ fun x hx=>?_
  ·refine ⟨by (try simp only [zkk,zkp,zky,zkz]);omega,by repeat first|exact .refl _|refine .push ?_ _,hcly23 _ _ hmcy23,?_,?_⟩
   ·simp [ltF,zmz,znh,zky,zkz]
    try omega
   ·simp [bf,wk2,wk1,wkM,Fr.get]
  obtain ⟨ny23,⟨mxy23,lxy23,exy23⟩,usy23⟩:=x
  obtain ⟨hay23,hby23,hdy23,hey23⟩:=hx
  dsimp only at hay23 hby23 hdy23 hey23 ⊢
  simp only [go_sem]
  refine ai (fun hc=>?_) (fun hc=>?_)
  ·obtain ⟨ny23,rfl⟩:∃ m,ny23=m+1:=⟨ny23 - 1,by simp at hc;omega⟩
   have e5y23:IntKind.i64.wrap (((ny23+1:Nat):Int) - 1)=((ny23:Nat):Int):=by rw [wrap_i64]<;>omega
   have hge:goX rB (ny23+1) (mxy23,lxy23,exy23)=((rB (mxy23,lxy23,exy23)).1::(goX rB ny23 (rB (mxy23,lxy23,exy23)).2).1,(goX rB ny23 (rB (mxy23,lxy23,exy23)).2).2):=rfl
   rw [hge] at hby23
   clear hge
   obtain ⟨Ey23,hEy23⟩:∃ E,rB (mxy23,lxy23,exy23)=E:=⟨_,rfl⟩
   rw [hEy23] at hby23
   unfold rB at hEy23
   try dsimp only [rap,cZ,rU,rT,rV,rB,kv] at hEy23
   have hlyy230:=kU mxy23 lxy23 exy23
   have hmyy230:=kL mxy23 lxy23 exy23
   generalize hyy230:fu (mxy23,lxy23,exy23)=qyy230 at *
   obtain ⟨vyy230,myy230,lyy230,eyy230⟩:=qyy230
   dsimp only [rU,rV,rB] at hEy23 hlyy230 hmyy230
   replace hmyy230:=aC hey23 hmyy230
   have byy230:lyy230.length≤100000:=by omega
   subst hEy23
   dsimp only at hby23
   simp only [cm,cl,bhq,Nat.reduceMod,Nat.reduceDiv,aY,aZ,a0,cb,a9,bY,ca,bV,bW,yaq,yar,yao,yap,go_sem,byq,hne,hid,hcs,hcm,hgm,onR,ae,au,zlv,zlt,zle,and_true,true_and,hid,onR,ae,aE,vv,vc,List.set_cons_succ,List.set_cons_zero,bR,dN,bj,fN,jT,h0,b0,h1,b1,hc2,bc2,b2,h3,b3,h4,b4,h5,b5,hd2,e52,hy20,by20,hy21,by21,hy22,by22,hcy23,bcy23,by23,hdy23,e5y23,hyy230,byy230,ybb]
   refine ⟨⟨by omega,by omega,fun z hz=>by rw [List.mem_singleton] at hz;subst hz;rfl⟩,(ny23,(myy230,lyy230,eyy230),usy23++[vyy230]),⟨by simp only [List.length_append,yaz,yba];omega,by rw [← hby23];simp [List.append_assoc],byy230,hmyy230⟩,by dsimp only;omega,?_⟩
   refine ⟨by (try simp only [zky,zkz]);omega,?_,hcly23 _ _ hmyy230,?_,?_⟩
   ·simp only [List.map_append,yae,yaf,inL,boL,List.length_append,yaz,yba,yal,yak]
    repeat first|exact .refl _|refine .push ?_ _
   ·simp [ltF,zmz,znh,zky,zkz]
    try omega
   ·simp [bf,wk2,wk1,wkM,Fr.get]
  have hn0:ny23=0:=by simp at hc;omega
  subst hn0
  simp only [goX,yaj,Prod.mk.injEq] at hby23
  obtain ⟨z1,z2,z3,z4⟩:=hby23
  replace z1:=z1.symm
  replace z2:=z2.symm
  replace z3:=z3.symm
  replace z4:=z4.symm
  subst z1 z2 z3 z4
  simp only [cm,cl,bhq,Nat.reduceMod,Nat.reduceDiv,aY,aZ,a0,cb,a9,bY,ca,bV,bW,yaq,yar,yao,yap,go_sem,byq,hne,hid,hcs,hcm,hgm,onR,ae,au,zlv,zlt,zle,and_true,true_and,hid,onR,ae,aE,vv,vc,List.set_cons_succ,List.set_cons_zero,bR,dN,bj,fN,jT,h0,b0,h1,b1,hc2,bc2,b2,h3,b3,h4,b4,h5,b5,hd2,e52,hy20,by20,hy21,by21,hy22,by22,hcy23,bcy23,by23,ybb]
  refine g8 43 (ax (⟨vy20,vy21,vy22,vy23⟩:SGrant)) ?_ ?_
  ·simp [Fr.get,ax,jR,fI,fJ,gA,jk,ju,iR,wkM,inL,boL,lk]
  simp only [cm,cl,bhq,Nat.reduceMod,Nat.reduceDiv,aY,aZ,a0,cb,a9,bY,ca,bV,bW,yaq,yar,yao,yap,go_sem,byq,hne,hid,hcs,hcm,hgm,onR,ae,au,zlv,zlt,zle,and_true,true_and,hid,onR,ae,aE,vv,vc,List.set_cons_succ,List.set_cons_zero,bR,dN,bj,fN,jT,h0,b0,h1,b1,hc2,bc2,b2,h3,b3,h4,b4,h5,b5,hd2,e52,hy20,by20,hy21,by21,hy22,by22,hcy23,bcy23,by23,ybb,ax]
  refine ⟨⟨by omega,by omega,fun z hz=>by rw [List.mem_singleton] at hz;subst hz;rfl⟩,(n2,(my23,ly23,ey23),us2++[(⟨vy20,vy21,vy22,vy23⟩:SGrant)]),⟨by simp only [List.length_append,yaz,yba];omega,by rw [← hb2];simp [List.append_assoc],by23,hmy23⟩,by dsimp only;omega,?_⟩
  refine ⟨by (try simp only [zky,zkz]);omega,?_,hcl2 _ _ hmy23,?_,?_⟩
  ·simp only [List.map_append,yae,yaf,ax,inL,boL,List.length_append,yaz,yba,yal,yak]
   repeat first|exact .refl _|refine .push ?_ _
  ·simp [ltF,zmz,znh,zky,zkz]
   try omega
  ·simp [bf,wk2,wk1,wkM,Fr.get]
 have hn0:n2=0:=by simp at hc;omega
 subst hn0
 simp only [goX,yaj,Prod.mk.injEq] at hb2
 obtain ⟨z1,z2,z3,z4⟩:=hb2
 replace z1:=z1.symm
 replace z2:=z2.symm
 replace z3:=z3.symm
 replace z4:=z4.symm
 subst z1 z2 z3 z4
 simp only [cm,cl,bhq,Nat.reduceMod,Nat.reduceDiv,aY,aZ,a0,cb,a9,bY,ca,bV,bW,yaq,yar,yao,yap,go_sem,byq,hne,hid,hcs,hcm,hgm,onR,ae,au,zlv,zlt,zle,and_true,true_and,hid,onR,ae,aE,vv,vc,List.set_cons_succ,List.set_cons_zero,bR,dN,bj,fN,jT,h0,b0,h1,b1,hc2,bc2,b2,h3,b3,h4,b4,h5,b5,ybb]
 refine ⟨?_,by repeat first|exact .refl _|refine .push ?_ _,am hid hcl m5 hm5 l5 e5,(fun x=>aV x) _⟩
 simp [wk,wk2,wkL,wk1,wkM,aJ,inL,boL]
end Go.AL
open Go Go.AL Go.Proofs
namespace Go.AL
set_option linter.all false
set_option maxRecDepth 10000
theorem EV {m:Mark} (h:cw .any m):m=.any:=by
 rcases h with h|h<;>exact h
theorem kh {H0:AHeap} (h:H0.Closed) {s:RS} (hs:cw .any s.1):(H0.push (.cells [.slice s.1 1 (bys s.2.1),.int .i64 s.2.2])).Closed:=ag h (by
 rw [EV hs]
 simp [aH,zno,znp,zmz,zmj])
def iT:List AV→AHeap→(AEnd→AHeap→Prop)→Prop
 |[.ptr id 0,.ptr sid 0],H,K=>∃ (H0:AHeap) (m:Mark) (l:List UInt8) (e mb bu:Int),(H=(H0.push (.cells [.slice m 1 (bys l),.int .i64 e])).push (.cells [.slice .nil 1 [],.slice .nil 1 [],.slice .nil 1 [],.slice .nil 1 [],.slice .nil 1 [],.slice .nil 1 [],.slice .nil 1 [],.slice .nil 1 [],.int .i64 mb,.int .i64 bu])∧id=H0.nx∧sid=H0.nx+1∧l.length≤100000∧cw .any m∧H0.Closed) ∧
  K (.ret (.tup [])) (((((H0.push (.cells (aE (rlX (dx LX) 12 (rlX (dl LX) 8 (rlX dB 32 (m,l,e)).2).2).2))).push (.cells [.slice (.own (H0.nx+1+1)) 3 (((rlX dB 32 (m,l,e)).1).map ar),.slice (.own (H0.nx+1+1+1)) 3 (((rlX (dl LX) 8 (rlX dB 32 (m,l,e)).2).1).map aj),.slice (.own (H0.nx+1+1+1+1)) 5 (((rlX (dx LX) 12 (rlX (dl LX) 8 (rlX dB 32 (m,l,e)).2).2).1).map ak),.slice .nil 1 [],.slice .nil 1 [],.slice .nil 1 [],.slice .nil 1 [],.slice .nil 1 [],.int .i64 mb,.int .i64 bu])).push (.buf 3 ((rlX dB 32 (m,l,e)).1).length)).push (.buf 3 ((rlX (dl LX) 8 (rlX dB 32 (m,l,e)).2).1).length)).push (.buf 5 ((rlX (dx LX) 12 (rlX (dl LX) 8 (rlX dB 32 (m,l,e)).2).2).1).length))
 |_,_,_=>False
theorem DF:EntOk Tryz.prog 63 (Ent.effect iT):=by
 refine EntOk.effect fun args H K h=>?_
 unfold iT at h
 split at h
 rotate_left
 ·exact h.elim
 rename_i id sid
 obtain ⟨H0,m,l,e,mb,bu,⟨hHH,rfl,rfl,hle,hm,hH0⟩,hK⟩:=h
 refine ⟨_,_,hK,?_⟩
 clear hK
 obtain ⟨Q1,hQ1⟩:∃ Q,rlX dB 32 (m,l,e)=Q:=⟨_,rfl⟩
 obtain ⟨Q2,hQ2⟩:∃ Q,rlX (dl LX) 8 Q1.2=Q:=⟨_,rfl⟩
 obtain ⟨Q3,hQ3⟩:∃ Q,rlX (dx LX) 12 Q2.2=Q:=⟨_,rfl⟩
 rw [hQ1,hQ2,hQ3]
 dsimp only [aE]
 obtain ⟨Q,hQ⟩:∃ Q,Q=(Q1,Q2,Q3):=⟨_,rfl⟩
 clear hQ
 rw [show rlX dB 32 (m,l,e)=goX dB (aX (m,l,e) 32).1.toNat (aX (m,l,e) 32).2 from rfl] at hQ1
 have hlc0:=cu m l e 32
 have hmc0:=ct m l e 32
 have hcb0:=cJ (m,l,e) 32
 generalize hc0:aX (m,l,e) 32=q0 at *
 obtain ⟨c0,mc0,lc0,ec0⟩:=q0
 dsimp only at hlc0 hmc0 hcb0 hQ1
 obtain ⟨k0,rfl⟩:∃ k:Nat,c0=(k:Int):=⟨c0.toNat,by omega⟩
 rw [Int.toNat_natCast] at hQ1
 replace hmc0:=aC hm hmc0
 have bc0:lc0.length≤100000:=by omega
 have hg0:=gz rdFld_go k0 (mc0,lc0,ec0)
 obtain ⟨⟨v0,m0,l0,e0⟩,hU0⟩:∃ G,goX dB k0 (mc0,lc0,ec0)=G:=⟨_,rfl⟩
 rw [hU0] at hg0 hQ1
 obtain ⟨hl0,hm0,_⟩:=hg0
 dsimp only [rU,rV,rB] at hQ1 hl0 hm0
 replace hm0:=aC hmc0 hm0
 have b0:l0.length≤100000:=by omega
 rw [← hQ1] at hQ2
 dsimp only at hQ2
 rw [show rlX (dl LX) 8 (m0,l0,e0)=goX (dl LX) (aX (m0,l0,e0) 8).1.toNat (aX (m0,l0,e0) 8).2 from rfl] at hQ2
 have hlc1:=cu m0 l0 e0 8
 have hmc1:=ct m0 l0 e0 8
 have hcb1:=cJ (m0,l0,e0) 8
 generalize hc1:aX (m0,l0,e0) 8=q1 at *
 obtain ⟨c1,mc1,lc1,ec1⟩:=q1
 dsimp only at hlc1 hmc1 hcb1 hQ2
 obtain ⟨k1,rfl⟩:∃ k:Nat,c1=(k:Int):=⟨c1.toNat,by omega⟩
 rw [Int.toNat_natCast] at hQ2
 replace hmc1:=aC hm0 hmc1
 have bc1:lc1.length≤100000:=by omega
 have hg1:=gz (dV LX_go) k1 (mc1,lc1,ec1)
 obtain ⟨⟨v1,m1,l1,e1⟩,hU1⟩:∃ G,goX (dl LX) k1 (mc1,lc1,ec1)=G:=⟨_,rfl⟩
 rw [hU1] at hg1 hQ2
 obtain ⟨hl1,hm1,_⟩:=hg1
 dsimp only [rU,rV,rB] at hQ2 hl1 hm1
 replace hm1:=aC hmc1 hm1
 have b1:l1.length≤100000:=by omega
 rw [← hQ2] at hQ3
 dsimp only at hQ3
 rw [show rlX (dx LX) 12 (m1,l1,e1)=goX (dx LX) (aX (m1,l1,e1) 12).1.toNat (aX (m1,l1,e1) 12).2 from rfl] at hQ3
 have hlc2:=cu m1 l1 e1 12
 have hmc2:=ct m1 l1 e1 12
 have hcb2:=cJ (m1,l1,e1) 12
 generalize hc2:aX (m1,l1,e1) 12=q2 at *
 obtain ⟨c2,mc2,lc2,ec2⟩:=q2
 dsimp only at hlc2 hmc2 hcb2 hQ3
 obtain ⟨k2,rfl⟩:∃ k:Nat,c2=(k:Int):=⟨c2.toNat,by omega⟩
 rw [Int.toNat_natCast] at hQ3
 replace hmc2:=aC hm1 hmc2
 have bc2:lc2.length≤100000:=by omega
 have hg2:=gz (eu LX_go) k2 (mc2,lc2,ec2)
 obtain ⟨⟨v2,m2,l2,e2⟩,hU2⟩:∃ G,goX (dx LX) k2 (mc2,lc2,ec2)=G:=⟨_,rfl⟩
 rw [hU2] at hg2 hQ3
 obtain ⟨hl2,hm2,_⟩:=hg2
 dsimp only [rU,rV,rB] at hQ3 hl2 hm2
 replace hm2:=aC hmc2 hm2
 have b2:l2.length≤100000:=by omega
 rw [← hQ1,← hQ2,← hQ3]
 dsimp only
 refine ACalls.fW aB (TblOk.cons jO (TblOk.cons iC (TblOk.cons oK (TblOk.cons rh (TblOk.cons pA TblOk.nil))))) Tryz.func63 [] (by rw [hHH];simp only [zky];omega) (T:=ay [(6,[[],[],[],[],[],[],[5],[4,5],[],[],[4,5]]),(13,[[],[],[],[],[],[],[5],[4,5],[],[],[4,5]]),(28,[[],[],[],[],[],[],[5],[4,5],[],[],[4,5]]),(0,[[1]]),(7,[[1]]),(14,[[1]]),(20,[[1]]),(27,[[1]])]) (h:=fun hcl hlt=>?_)
 clear hlt
 subst hHH
 try simp only [List.append_eq,yal,yak]
 simp only [cm,cl,bhq,Nat.reduceMod,Nat.reduceDiv,aY,aZ,a0,cb,a9,bY,ca,bV,bW,yaq,yar,yao,yap,go_sem,byq,true_and,onR,ae,aE,vv,vc,List.set_cons_succ,List.set_cons_zero,bj,hle,hc0,bc0,b0,hc1,bc1,b1,hc2,bc2,b2,ybb]
 refine ey 1 0 3 (cs:=[.slice .nil 1 [],.slice .nil 1 [],.slice .nil 1 [],.slice .nil 1 [],.slice .nil 1 [],.slice .nil 1 [],.slice .nil 1 [],.slice .nil 1 [],.int .i64 mb,.int .i64 bu]) rfl (by simp only [go_sem]) rfl ?_
 simp only [cm,cl,bhq,Nat.reduceMod,Nat.reduceDiv,aY,aZ,a0,cb,a9,bY,ca,bV,bW,yaq,yar,yao,yap,go_sem,byq,true_and,onR,ae,aE,vv,vc,List.set_cons_succ,List.set_cons_zero,bj,hle,hc0,bc0,b0,hc1,bc1,b1,hc2,bc2,b2,ybb]
 have hcl0:∀ (s:RS) (us:List SField),cw .any s.1→(((H0.push (.cells [.slice s.1 1 (bys s.2.1),.int .i64 s.2.2])).push (.cells [.slice (.own (H0.nx+1+1)) 3 (us.map (ar)),.slice .nil 1 [],.slice .nil 1 [],.slice .nil 1 [],.slice .nil 1 [],.slice .nil 1 [],.slice .nil 1 [],.slice .nil 1 [],.int .i64 mb,.int .i64 bu])).push (.buf 3 us.length)).Closed:=fun s us hs=>by
  have h0:(((H0.push (.cells [.slice s.1 1 (bys s.2.1),.int .i64 s.2.2])).push (.cells [])).push (.buf 3 us.length)).Closed:=by
   repeat' (first|exact kh hH0 hs|refine aP ?_|refine ag ?_ ?_)
   all_goals first|trivial|simp [aH,zno,znp,zmz,zna,znb,zmj]
  have h0:=bS (i:=H0.nx+1) (cs:=[.slice (.own (H0.nx+1+1)) 3 (us.map (ar)),.slice .nil 1 [],.slice .nil 1 [],.slice .nil 1 [],.slice .nil 1 [],.slice .nil 1 [],.slice .nil 1 [],.slice .nil 1 [],.int .i64 mb,.int .i64 bu]) h0 (by
   simp [zno,znp,zmz,zna,znb,zky,zkz,aH,gk,fX,fV,gb,gg,ga,gh,f4,fZ,f7,gd,fU,fY,gp,f9,gf]
   try omega)
  simp only [go_sem] at h0
  exact h0
 refine aA (A:=Nat × RS × List SField) (fun x=>[(0,.ptr H0.nx 0),(1,.ptr (H0.nx+1) 0),(4,.int .i64 (x.1:Int))]) (fun x=>((H0.push (.cells [.slice x.2.1.1 1 (bys x.2.1.2.1),.int .i64 x.2.1.2.2])).push (.cells [.slice (.own (H0.nx+1+1)) 3 (x.2.2.map (ar)),.slice .nil 1 [],.slice .nil 1 [],.slice .nil 1 [],.slice .nil 1 [],.slice .nil 1 [],.slice .nil 1 [],.slice .nil 1 [],.int .i64 mb,.int .i64 bu])).push (.buf 3 x.2.2.length)) (fun x=>x.2.2.length+x.1≤65535∧(x.2.2++(goX dB x.1 x.2.1).1,(goX dB x.1 x.2.1).2)=(v0,m0,l0,e0)∧x.2.1.2.1.length≤100000∧cw .any x.2.1.1) (fun x=>x.1) (k0,(mc0,lc0,ec0),[]) ⟨by simp;omega,by rw [← hU0];rfl,bc0,hmc0⟩ ?_ fun x hx=>?_
 ·refine ⟨by (try simp only [zkk,zkp,zky,zkz]);omega,by repeat first|exact .refl _|refine .push ?_ _,hcl0 _ _ hmc0,?_,?_⟩
  ·simp [ltF,zmz,znh,zky,zkz]
   try omega
  ·simp [bf,wk2,wk1,wkM,Fr.get]
 obtain ⟨n0,⟨mx0,lx0,ex0⟩,us0⟩:=x
 obtain ⟨ha0,hb0,hd0,he0⟩:=hx
 dsimp only at ha0 hb0 hd0 he0 ⊢
 simp only [go_sem]
 refine ai (fun hc=>?_) (fun hc=>?_)
 ·obtain ⟨n0,rfl⟩:∃ m,n0=m+1:=⟨n0 - 1,by simp at hc;omega⟩
  have e50:IntKind.i64.wrap (((n0+1:Nat):Int) - 1)=((n0:Nat):Int):=by rw [wrap_i64]<;>omega
  have hge:goX dB (n0+1) (mx0,lx0,ex0)=((dB (mx0,lx0,ex0)).1::(goX dB n0 (dB (mx0,lx0,ex0)).2).1,(goX dB n0 (dB (mx0,lx0,ex0)).2).2):=rfl
  rw [hge] at hb0
  clear hge
  obtain ⟨E0,hE0⟩:∃ E,dB (mx0,lx0,ex0)=E:=⟨_,rfl⟩
  rw [hE0] at hb0
  unfold dB at hE0
  try dsimp only [rap,cZ,rU,rT,rV,rB,kv] at hE0
  have hly00:=bm mx0 lx0 ex0 2
  have hmy00:=bn mx0 lx0 ex0 2
  generalize hy00:bB (mx0,lx0,ex0) 2=qy00 at *
  obtain ⟨vy00,my00,ly00,ey00⟩:=qy00
  dsimp only [rU,rV,rB] at hE0 hly00 hmy00
  replace hmy00:=aC he0 hmy00
  have by00:ly00.length≤100000:=by omega
  have hly01:=fD my00 ly00 ey00 24
  have hmy01:=fB my00 ly00 ey00 24
  generalize hy01:dM (my00,ly00,ey00) 24=qy01 at *
  obtain ⟨vy01,my01,ly01,ey01⟩:=qy01
  dsimp only [rU,rV,rB] at hE0 hly01 hmy01
  replace hmy01:=aC hmy00 hmy01
  have by01:ly01.length≤100000:=by omega
  have hly02:=bm my01 ly01 ey01 1
  have hmy02:=bn my01 ly01 ey01 1
  generalize hy02:bB (my01,ly01,ey01) 1=qy02 at *
  obtain ⟨vy02,my02,ly02,ey02⟩:=qy02
  dsimp only [rU,rV,rB] at hE0 hly02 hmy02
  replace hmy02:=aC hmy01 hmy02
  have by02:ly02.length≤100000:=by omega
  subst hE0
  dsimp only at hb0
  simp only [cm,cl,bhq,Nat.reduceMod,Nat.reduceDiv,aY,aZ,a0,cb,a9,bY,ca,bV,bW,yaq,yar,yao,yap,go_sem,byq,true_and,onR,ae,aE,vv,vc,List.set_cons_succ,List.set_cons_zero,bj,bR,dN,hle,hc0,bc0,b0,hc1,bc1,b1,hc2,bc2,b2,hd0,e50,hy00,by00,hy01,by01,hy02,by02,ybb,ar]
  refine ⟨⟨by omega,by omega,fun z hz=>by rw [List.mem_singleton] at hz;subst hz;rfl⟩,(n0,(my02,ly02,ey02),us0++[(⟨vy00,vy01,vy02⟩:SField)]),⟨by simp only [List.length_append,yaz,yba];omega,by rw [← hb0];simp [List.append_assoc],by02,hmy02⟩,by dsimp only;omega,?_⟩
  refine ⟨by (try simp only [zky,zkz]);omega,?_,hcl0 _ _ hmy02,?_,?_⟩
  ·simp only [List.map_append,yae,yaf,ar,inL,boL,List.length_append,yaz,yba,yal,yak]
   repeat first|exact .refl _|refine .push ?_ _
  ·simp [ltF,zmz,znh,zky,zkz]
   try omega
  ·simp [bf,wk2,wk1,wkM,Fr.get]
 have hn0:n0=0:=by simp at hc;omega
 subst hn0
 simp only [goX,yaj,Prod.mk.injEq] at hb0
 obtain ⟨z1,z2,z3,z4⟩:=hb0
 replace z1:=z1.symm
 replace z2:=z2.symm
 replace z3:=z3.symm
 replace z4:=z4.symm
 subst z1 z2 z3 z4
 simp only [cm,cl,bhq,Nat.reduceMod,Nat.reduceDiv,aY,aZ,a0,cb,a9,bY,ca,bV,bW,yaq,yar,yao,yap,go_sem,byq,true_and,onR,ae,aE,vv,vc,List.set_cons_succ,List.set_cons_zero,bj,hle,hc0,bc0,b0,hc1,bc1,b1,hc2,bc2,b2,ybb]
 refine ey 1 1 3 (cs:=[.slice (.own (H0.nx+1+1)) 3 (v0.map (ar)),.slice .nil 1 [],.slice .nil 1 [],.slice .nil 1 [],.slice .nil 1 [],.slice .nil 1 [],.slice .nil 1 [],.slice .nil 1 [],.int .i64 mb,.int .i64 bu]) rfl (by simp only [go_sem]) rfl ?_
 simp only [cm,cl,bhq,Nat.reduceMod,Nat.reduceDiv,aY,aZ,a0,cb,a9,bY,ca,bV,bW,yaq,yar,yao,yap,go_sem,byq,true_and,onR,ae,aE,vv,vc,List.set_cons_succ,List.set_cons_zero,bj,hle,hc0,bc0,b0,hc1,bc1,b1,hc2,bc2,b2,ybb]
 have hcl1:∀ (s:RS) (us:List SHeader),cw .any s.1→((((H0.push (.cells [.slice s.1 1 (bys s.2.1),.int .i64 s.2.2])).push (.cells [.slice (.own (H0.nx+1+1)) 3 (v0.map (ar)),.slice (.own (H0.nx+1+1+1)) 3 (us.map (aj)),.slice .nil 1 [],.slice .nil 1 [],.slice .nil 1 [],.slice .nil 1 [],.slice .nil 1 [],.slice .nil 1 [],.int .i64 mb,.int .i64 bu])).push (.buf 3 v0.length)).push (.buf 3 us.length)).Closed:=fun s us hs=>by
  have h0:((((H0.push (.cells [.slice s.1 1 (bys s.2.1),.int .i64 s.2.2])).push (.cells [])).push (.buf 3 v0.length)).push (.buf 3 us.length)).Closed:=by
   repeat' (first|exact kh hH0 hs|refine aP ?_|refine ag ?_ ?_)
   all_goals first|trivial|simp [aH,zno,znp,zmz,zna,znb,zmj]
  have h0:=bS (i:=H0.nx+1) (cs:=[.slice (.own (H0.nx+1+1)) 3 (v0.map (ar)),.slice (.own (H0.nx+1+1+1)) 3 (us.map (aj)),.slice .nil 1 [],.slice .nil 1 [],.slice .nil 1 [],.slice .nil 1 [],.slice .nil 1 [],.slice .nil 1 [],.int .i64 mb,.int .i64 bu]) h0 (by
   simp [zno,znp,zmz,zna,znb,zky,zkz,aH,gk,fX,fV,gb,gg,ga,gh,f4,fZ,f7,gd,fU,fY,gp,f9,gf]
   try omega)
  simp only [go_sem] at h0
  exact h0
 refine aA (A:=Nat × RS × List SHeader) (fun x=>[(0,.ptr H0.nx 0),(1,.ptr (H0.nx+1) 0),(6,.int .i64 (x.1:Int))]) (fun x=>(((H0.push (.cells [.slice x.2.1.1 1 (bys x.2.1.2.1),.int .i64 x.2.1.2.2])).push (.cells [.slice (.own (H0.nx+1+1)) 3 (v0.map (ar)),.slice (.own (H0.nx+1+1+1)) 3 (x.2.2.map (aj)),.slice .nil 1 [],.slice .nil 1 [],.slice .nil 1 [],.slice .nil 1 [],.slice .nil 1 [],.slice .nil 1 [],.int .i64 mb,.int .i64 bu])).push (.buf 3 v0.length)).push (.buf 3 x.2.2.length)) (fun x=>x.2.2.length+x.1≤65535∧(x.2.2++(goX (dl LX) x.1 x.2.1).1,(goX (dl LX) x.1 x.2.1).2)=(v1,m1,l1,e1)∧x.2.1.2.1.length≤100000∧cw .any x.2.1.1) (fun x=>x.1) (k1,(mc1,lc1,ec1),[]) ⟨by simp;omega,by rw [← hU1];rfl,bc1,hmc1⟩ ?_ fun x hx=>?_
 ·refine ⟨by (try simp only [zkk,zkp,zky,zkz]);omega,by repeat first|exact .refl _|refine .push ?_ _,hcl1 _ _ hmc1,?_,?_⟩
  ·simp [ltF,zmz,znh,zky,zkz]
   try omega
  ·simp [bf,wk2,wk1,wkM,Fr.get]
 obtain ⟨n1,⟨mx1,lx1,ex1⟩,us1⟩:=x
 obtain ⟨ha1,hb1,hd1,he1⟩:=hx
 dsimp only at ha1 hb1 hd1 he1 ⊢
 simp only [go_sem]
 refine ai (fun hc=>?_) (fun hc=>?_)
 ·obtain ⟨n1,rfl⟩:∃ m,n1=m+1:=⟨n1 - 1,by simp at hc;omega⟩
  have e51:IntKind.i64.wrap (((n1+1:Nat):Int) - 1)=((n1:Nat):Int):=by rw [wrap_i64]<;>omega
  have hge:goX (dl LX) (n1+1) (mx1,lx1,ex1)=(((dl LX) (mx1,lx1,ex1)).1::(goX (dl LX) n1 ((dl LX) (mx1,lx1,ex1)).2).1,(goX (dl LX) n1 ((dl LX) (mx1,lx1,ex1)).2).2):=rfl
  rw [hge] at hb1
  clear hge
  obtain ⟨E1,hE1⟩:∃ E,(dl LX) (mx1,lx1,ex1)=E:=⟨_,rfl⟩
  rw [hE1] at hb1
  unfold dl at hE1
  try dsimp only [rap,cZ,rU,rT,rV,rB,kv] at hE1
  have hly10:=bm mx1 lx1 ex1 2
  have hmy10:=bn mx1 lx1 ex1 2
  generalize hy10:bB (mx1,lx1,ex1) 2=qy10 at *
  obtain ⟨vy10,my10,ly10,ey10⟩:=qy10
  dsimp only [rU,rV,rB] at hE1 hly10 hmy10
  replace hmy10:=aC he1 hmy10
  have by10:ly10.length≤100000:=by omega
  have hly11:=fD my10 ly10 ey10 24
  have hmy11:=fB my10 ly10 ey10 24
  generalize hy11:dM (my10,ly10,ey10) 24=qy11 at *
  obtain ⟨vy11,my11,ly11,ey11⟩:=qy11
  dsimp only [rU,rV,rB] at hE1 hly11 hmy11
  replace hmy11:=aC hmy10 hmy11
  have by11:ly11.length≤100000:=by omega
  have hly12:=(eZ (fe 2) 32).l (my11,ly11,ey11)
  have hmy12:=(eZ (fe 2) 32).m (my11,ly11,ey11)
  generalize hy12:rlX (rU 2) 32 (my11,ly11,ey11)=qy12 at *
  obtain ⟨vy12,my12,ly12,ey12⟩:=qy12
  dsimp only [rU,rV,rB] at hE1 hly12 hmy12
  replace hmy12:=aC hmy11 hmy12
  have by12:ly12.length≤100000:=by omega
  subst hE1
  dsimp only at hb1
  simp only [cm,cl,bhq,Nat.reduceMod,Nat.reduceDiv,aY,aZ,a0,cb,a9,bY,ca,bV,bW,yaq,yar,yao,yap,go_sem,byq,true_and,onR,ae,aE,vv,vc,List.set_cons_succ,List.set_cons_zero,bj,bR,dN,fN,hle,hc0,bc0,b0,hc1,bc1,b1,hc2,bc2,b2,hd1,e51,hy10,by10,hy11,by11,hy12,by12,ybb,aj]
  refine ⟨⟨by omega,by omega,fun z hz=>by rw [List.mem_singleton] at hz;subst hz;rfl⟩,(n1,(my12,ly12,ey12),us1++[(⟨vy10,vy11,vy12⟩:SHeader)]),⟨by simp only [List.length_append,yaz,yba];omega,by rw [← hb1];simp [List.append_assoc],by12,hmy12⟩,by dsimp only;omega,?_⟩
  refine ⟨by (try simp only [zky,zkz]);omega,?_,hcl1 _ _ hmy12,?_,?_⟩
  ·simp only [List.map_append,yae,yaf,aj,inL,boL,List.length_append,yaz,yba,yal,yak]
   repeat first|exact .refl _|refine .push ?_ _
  ·simp [ltF,zmz,znh,zky,zkz]
   try omega
  ·simp [bf,wk2,wk1,wkM,Fr.get]
 have hn0:n1=0:=by simp at hc;omega
 subst hn0
 simp only [goX,yaj,Prod.mk.injEq] at hb1
 obtain ⟨z1,z2,z3,z4⟩:=hb1
 replace z1:=z1.symm
 replace z2:=z2.symm
 replace z3:=z3.symm
 replace z4:=z4.symm
 subst z1 z2 z3 z4
 simp only [cm,cl,bhq,Nat.reduceMod,Nat.reduceDiv,aY,aZ,a0,cb,a9,bY,ca,bV,bW,yaq,yar,yao,yap,go_sem,byq,true_and,onR,ae,aE,vv,vc,List.set_cons_succ,List.set_cons_zero,bj,hle,hc0,bc0,b0,hc1,bc1,b1,hc2,bc2,b2,ybb]
 refine ey 1 2 5 (cs:=[.slice (.own (H0.nx+1+1)) 3 (v0.map (ar)),.slice (.own (H0.nx+1+1+1)) 3 (v1.map (aj)),.slice .nil 1 [],.slice .nil 1 [],.slice .nil 1 [],.slice .nil 1 [],.slice .nil 1 [],.slice .nil 1 [],.int .i64 mb,.int .i64 bu]) rfl (by simp only [go_sem]) rfl ?_
 simp only [cm,cl,bhq,Nat.reduceMod,Nat.reduceDiv,aY,aZ,a0,cb,a9,bY,ca,bV,bW,yaq,yar,yao,yap,go_sem,byq,true_and,onR,ae,aE,vv,vc,List.set_cons_succ,List.set_cons_zero,bj,hle,hc0,bc0,b0,hc1,bc1,b1,hc2,bc2,b2,ybb]
 have hcl2:∀ (s:RS) (us:List SState),cw .any s.1→(((((H0.push (.cells [.slice s.1 1 (bys s.2.1),.int .i64 s.2.2])).push (.cells [.slice (.own (H0.nx+1+1)) 3 (v0.map (ar)),.slice (.own (H0.nx+1+1+1)) 3 (v1.map (aj)),.slice (.own (H0.nx+1+1+1+1)) 5 (us.map (ak)),.slice .nil 1 [],.slice .nil 1 [],.slice .nil 1 [],.slice .nil 1 [],.slice .nil 1 [],.int .i64 mb,.int .i64 bu])).push (.buf 3 v0.length)).push (.buf 3 v1.length)).push (.buf 5 us.length)).Closed:=fun s us hs=>by
  have h0:(((((H0.push (.cells [.slice s.1 1 (bys s.2.1),.int .i64 s.2.2])).push (.cells [])).push (.buf 3 v0.length)).push (.buf 3 v1.length)).push (.buf 5 us.length)).Closed:=by
   repeat' (first|exact kh hH0 hs|refine aP ?_|refine ag ?_ ?_)
   all_goals first|trivial|simp [aH,zno,znp,zmz,zna,znb,zmj]
  have h0:=bS (i:=H0.nx+1) (cs:=[.slice (.own (H0.nx+1+1)) 3 (v0.map (ar)),.slice (.own (H0.nx+1+1+1)) 3 (v1.map (aj)),.slice (.own (H0.nx+1+1+1+1)) 5 (us.map (ak)),.slice .nil 1 [],.slice .nil 1 [],.slice .nil 1 [],.slice .nil 1 [],.slice .nil 1 [],.int .i64 mb,.int .i64 bu]) h0 (by
   simp [zno,znp,zmz,zna,znb,zky,zkz,aH,gk,fX,fV,gb,gg,ga,gh,f4,fZ,f7,gd,fU,fY,gp,f9,gf]
   try omega)
  simp only [go_sem] at h0
  exact h0
 refine aA (A:=Nat × RS × List SState) (fun x=>[(0,.ptr H0.nx 0),(1,.ptr (H0.nx+1) 0),(8,.int .i64 (x.1:Int))]) (fun x=>((((H0.push (.cells [.slice x.2.1.1 1 (bys x.2.1.2.1),.int .i64 x.2.1.2.2])).push (.cells [.slice (.own (H0.nx+1+1)) 3 (v0.map (ar)),.slice (.own (H0.nx+1+1+1)) 3 (v1.map (aj)),.slice (.own (H0.nx+1+1+1+1)) 5 (x.2.2.map (ak)),.slice .nil 1 [],.slice .nil 1 [],.slice .nil 1 [],.slice .nil 1 [],.slice .nil 1 [],.int .i64 mb,.int .i64 bu])).push (.buf 3 v0.length)).push (.buf 3 v1.length)).push (.buf 5 x.2.2.length)) (fun x=>x.2.2.length+x.1≤65535∧(x.2.2++(goX (dx LX) x.1 x.2.1).1,(goX (dx LX) x.1 x.2.1).2)=(v2,m2,l2,e2)∧x.2.1.2.1.length≤100000∧cw .any x.2.1.1) (fun x=>x.1) (k2,(mc2,lc2,ec2),[]) ⟨by simp;omega,by rw [← hU2];rfl,bc2,hmc2⟩ ?_ fun x hx=>?_
 ·refine ⟨by (try simp only [zkk,zkp,zky,zkz]);omega,by repeat first|exact .refl _|refine .push ?_ _,hcl2 _ _ hmc2,?_,?_⟩
  ·simp [ltF,zmz,znh,zky,zkz]
   try omega
  ·simp [bf,wk2,wk1,wkM,Fr.get]
 obtain ⟨n2,⟨mx2,lx2,ex2⟩,us2⟩:=x
 obtain ⟨ha2,hb2,hd2,he2⟩:=hx
 dsimp only at ha2 hb2 hd2 he2 ⊢
 simp only [go_sem]
 refine ai (fun hc=>?_) (fun hc=>?_)
 ·obtain ⟨n2,rfl⟩:∃ m,n2=m+1:=⟨n2 - 1,by simp at hc;omega⟩
  have e52:IntKind.i64.wrap (((n2+1:Nat):Int) - 1)=((n2:Nat):Int):=by rw [wrap_i64]<;>omega
  have hge:goX (dx LX) (n2+1) (mx2,lx2,ex2)=(((dx LX) (mx2,lx2,ex2)).1::(goX (dx LX) n2 ((dx LX) (mx2,lx2,ex2)).2).1,(goX (dx LX) n2 ((dx LX) (mx2,lx2,ex2)).2).2):=rfl
  rw [hge] at hb2
  clear hge
  obtain ⟨E2,hE2⟩:∃ E,(dx LX) (mx2,lx2,ex2)=E:=⟨_,rfl⟩
  rw [hE2] at hb2
  unfold dx at hE2
  try dsimp only [rap,cZ,rU,rT,rV,rB,kv] at hE2
  have hly20:=bm mx2 lx2 ex2 2
  have hmy20:=bn mx2 lx2 ex2 2
  generalize hy20:bB (mx2,lx2,ex2) 2=qy20 at *
  obtain ⟨vy20,my20,ly20,ey20⟩:=qy20
  dsimp only [rU,rV,rB] at hE2 hly20 hmy20
  replace hmy20:=aC he2 hmy20
  have by20:ly20.length≤100000:=by omega
  have hly21:=bm my20 ly20 ey20 2
  have hmy21:=bn my20 ly20 ey20 2
  generalize hy21:bB (my20,ly20,ey20) 2=qy21 at *
  obtain ⟨vy21,my21,ly21,ey21⟩:=qy21
  dsimp only [rU,rV,rB] at hE2 hly21 hmy21
  replace hmy21:=aC hmy20 hmy21
  have by21:ly21.length≤100000:=by omega
  have hly22:=bm my21 ly21 ey21 2
  have hmy22:=bn my21 ly21 ey21 2
  generalize hy22:bB (my21,ly21,ey21) 2=qy22 at *
  obtain ⟨vy22,my22,ly22,ey22⟩:=qy22
  dsimp only [rU,rV,rB] at hE2 hly22 hmy22
  replace hmy22:=aC hmy21 hmy22
  have by22:ly22.length≤100000:=by omega
  rw [show rlX eT 6 (my22,ly22,ey22)=goX eT (aX (my22,ly22,ey22) 6).1.toNat (aX (my22,ly22,ey22) 6).2 from rfl] at hE2
  have hlcy23:=cu my22 ly22 ey22 6
  have hmcy23:=ct my22 ly22 ey22 6
  have hcby23:=cJ (my22,ly22,ey22) 6
  generalize hcy23:aX (my22,ly22,ey22) 6=qy23 at *
  obtain ⟨cy23,mcy23,lcy23,ecy23⟩:=qy23
  dsimp only at hlcy23 hmcy23 hcby23 hE2
  obtain ⟨ky23,rfl⟩:∃ k:Nat,cy23=(k:Int):=⟨cy23.toNat,by omega⟩
  rw [Int.toNat_natCast] at hE2
  replace hmcy23:=aC hmy22 hmcy23
  have bcy23:lcy23.length≤100000:=by omega
  have hgy23:=gz rdCas_go ky23 (mcy23,lcy23,ecy23)
  obtain ⟨⟨vy23,my23,ly23,ey23⟩,hUy23⟩:∃ G,goX eT ky23 (mcy23,lcy23,ecy23)=G:=⟨_,rfl⟩
  rw [hUy23] at hgy23 hE2
  obtain ⟨hly23,hmy23,_⟩:=hgy23
  dsimp only [rU,rV,rB] at hE2 hly23 hmy23
  replace hmy23:=aC hmcy23 hmy23
  have by23:ly23.length≤100000:=by omega
  have hly24:=bm my23 ly23 ey23 2
  have hmy24:=bn my23 ly23 ey23 2
  generalize hy24:bB (my23,ly23,ey23) 2=qy24 at *
  obtain ⟨vy24,my24,ly24,ey24⟩:=qy24
  dsimp only [rU,rV,rB] at hE2 hly24 hmy24
  replace hmy24:=aC hmy23 hmy24
  have by24:ly24.length≤100000:=by omega
  subst hE2
  dsimp only at hb2
  simp only [cm,cl,bhq,Nat.reduceMod,Nat.reduceDiv,aY,aZ,a0,cb,a9,bY,ca,bV,bW,yaq,yar,yao,yap,go_sem,byq,true_and,onR,ae,aE,vv,vc,List.set_cons_succ,List.set_cons_zero,bj,bR,hle,hc0,bc0,b0,hc1,bc1,b1,hc2,bc2,b2,hd2,e52,hy20,by20,hy21,by21,hy22,by22,hcy23,bcy23,by23,hy24,by24,ybb,ak]
  refine ey 9 3 5 (cs:=[.int .i64 vy20,.int .i64 vy21,.int .i64 vy22,.slice .nil 1 [],.int .i64 0]) rfl (by simp only [go_sem]) rfl ?_
  simp only [cm,cl,bhq,Nat.reduceMod,Nat.reduceDiv,aY,aZ,a0,cb,a9,bY,ca,bV,bW,yaq,yar,yao,yap,go_sem,byq,true_and,onR,ae,aE,vv,vc,List.set_cons_succ,List.set_cons_zero,bj,bR,hle,hc0,bc0,b0,hc1,bc1,b1,hc2,bc2,b2,hd2,e52,hy20,by20,hy21,by21,hy22,by22,hcy23,bcy23,by23,hy24,by24,ybb]
  have hcly23:∀ (s:RS) (us:List SCase),cw .any s.1→(((((((H0.push (.cells [.slice s.1 1 (bys s.2.1),.int .i64 s.2.2])).push (.cells [.slice (.own (H0.nx+1+1)) 3 (v0.map (ar)),.slice (.own (H0.nx+1+1+1)) 3 (v1.map (aj)),.slice (.own (H0.nx+1+1+1+1)) 5 (us2.map (ak)),.slice .nil 1 [],.slice .nil 1 [],.slice .nil 1 [],.slice .nil 1 [],.slice .nil 1 [],.int .i64 mb,.int .i64 bu])).push (.buf 3 v0.length)).push (.buf 3 v1.length)).push (.buf 5 us2.length)).push (.cells [.int .i64 vy20,.int .i64 vy21,.int .i64 vy22,.slice (.own (H0.nx+1+1+1+1+1+1)) 5 (us.map (aK)),.int .i64 0])).push (.buf 5 us.length)).Closed:=fun s us hs=>by
   have h0:(((((((H0.push (.cells [.slice s.1 1 (bys s.2.1),.int .i64 s.2.2])).push (.cells [])).push (.buf 3 v0.length)).push (.buf 3 v1.length)).push (.buf 5 us2.length)).push (.cells [])).push (.buf 5 us.length)).Closed:=by
    repeat' (first|exact kh hH0 hs|refine aP ?_|refine ag ?_ ?_)
    all_goals first|trivial|simp [aH,zno,znp,zmz,zna,znb,zmj]
   have h0:=bS (i:=H0.nx+1) (cs:=[.slice (.own (H0.nx+1+1)) 3 (v0.map (ar)),.slice (.own (H0.nx+1+1+1)) 3 (v1.map (aj)),.slice (.own (H0.nx+1+1+1+1)) 5 (us2.map (ak)),.slice .nil 1 [],.slice .nil 1 [],.slice .nil 1 [],.slice .nil 1 [],.slice .nil 1 [],.int .i64 mb,.int .i64 bu]) h0 (by
    simp [zno,znp,zmz,zna,znb,zky,zkz,aH,gk,fX,fV,gb,gg,ga,gh,f4,fZ,f7,gd,fU,fY,gp,f9,gf]
    try omega)
   simp only [go_sem] at h0
   have h0:=bS (i:=H0.nx+1+1+1+1+1) (cs:=[.int .i64 vy20,.int .i64 vy21,.int .i64 vy22,.slice (.own (H0.nx+1+1+1+1+1+1)) 5 (us.map (aK)),.int .i64 0]) h0 (by
    simp [zno,znp,zmz,zna,znb,zky,zkz,aH,gk,fX,fV,gb,gg,ga,gh,f4,fZ,f7,gd,fU,fY,gp,f9,gf]
    try omega)
   simp only [go_sem] at h0
   exact h0
  refine aA (A:=Nat × RS × List SCase) (fun x=>[(0,.ptr H0.nx 0),(1,.ptr (H0.nx+1) 0),(8,.int .i64 ((n2+1:Nat):Int)),(9,.ptr (H0.nx+1+1+1+1+1) 0),(10,.int .i64 (x.1:Int))]) (fun x=>((((((H0.push (.cells [.slice x.2.1.1 1 (bys x.2.1.2.1),.int .i64 x.2.1.2.2])).push (.cells [.slice (.own (H0.nx+1+1)) 3 (v0.map (ar)),.slice (.own (H0.nx+1+1+1)) 3 (v1.map (aj)),.slice (.own (H0.nx+1+1+1+1)) 5 (us2.map (ak)),.slice .nil 1 [],.slice .nil 1 [],.slice .nil 1 [],.slice .nil 1 [],.slice .nil 1 [],.int .i64 mb,.int .i64 bu])).push (.buf 3 v0.length)).push (.buf 3 v1.length)).push (.buf 5 us2.length)).push (.cells [.int .i64 vy20,.int .i64 vy21,.int .i64 vy22,.slice (.own (H0.nx+1+1+1+1+1+1)) 5 (x.2.2.map (aK)),.int .i64 0])).push (.buf 5 x.2.2.length)) (fun x=>x.2.2.length+x.1≤65535∧(x.2.2++(goX eT x.1 x.2.1).1,(goX eT x.1 x.2.1).2)=(vy23,my23,ly23,ey23)∧x.2.1.2.1.length≤100000∧cw .any x.2.1.1) (fun x=>x.1) (ky23,(mcy23,lcy23,ecy23),[]) ⟨by simp;omega,by rw [← hUy23];rfl,bcy23,hmcy23⟩ ?_ fun x hx=>?_
  ·refine ⟨by (try simp only [zkk,zkp,zky,zkz]);omega,by repeat first|exact .refl _|refine .push ?_ _,hcly23 _ _ hmcy23,?_,?_⟩
   ·simp [ltF,zmz,znh,zky,zkz]
    try omega
   ·simp [bf,wk2,wk1,wkM,Fr.get]
  obtain ⟨ny23,⟨mxy23,lxy23,exy23⟩,usy23⟩:=x
  obtain ⟨hay23,hby23,hdy23,hey23⟩:=hx
  dsimp only at hay23 hby23 hdy23 hey23 ⊢
  simp only [go_sem]
  refine ai (fun hc=>?_) (fun hc=>?_)
  ·obtain ⟨ny23,rfl⟩:∃ m,ny23=m+1:=⟨ny23 - 1,by simp at hc;omega⟩
   have e5y23:IntKind.i64.wrap (((ny23+1:Nat):Int) - 1)=((ny23:Nat):Int):=by rw [wrap_i64]<;>omega
   have hge:goX eT (ny23+1) (mxy23,lxy23,exy23)=((eT (mxy23,lxy23,exy23)).1::(goX eT ny23 (eT (mxy23,lxy23,exy23)).2).1,(goX eT ny23 (eT (mxy23,lxy23,exy23)).2).2):=rfl
   rw [hge] at hby23
   clear hge
   obtain ⟨Ey23,hEy23⟩:∃ E,eT (mxy23,lxy23,exy23)=E:=⟨_,rfl⟩
   rw [hEy23] at hby23
   unfold eT at hEy23
   try dsimp only [rap,cZ,rU,rT,rV,rB,kv] at hEy23
   have hlyy230:=jZ mxy23 lxy23 exy23
   have hmyy230:=jX mxy23 lxy23 exy23
   generalize hyy230:cO (mxy23,lxy23,exy23)=qyy230 at *
   obtain ⟨vyy230,myy230,lyy230,eyy230⟩:=qyy230
   dsimp only [rU,rV,rB] at hEy23 hlyy230 hmyy230
   replace hmyy230:=aC hey23 hmyy230
   have byy230:lyy230.length≤100000:=by omega
   have hlyy231:=jZ myy230 lyy230 eyy230
   have hmyy231:=jX myy230 lyy230 eyy230
   generalize hyy231:cO (myy230,lyy230,eyy230)=qyy231 at *
   obtain ⟨vyy231,myy231,lyy231,eyy231⟩:=qyy231
   dsimp only [rU,rV,rB] at hEy23 hlyy231 hmyy231
   replace hmyy231:=aC hmyy230 hmyy231
   have byy231:lyy231.length≤100000:=by omega
   have hlyy232:=bm myy231 lyy231 eyy231 2
   have hmyy232:=bn myy231 lyy231 eyy231 2
   generalize hyy232:bB (myy231,lyy231,eyy231) 2=qyy232 at *
   obtain ⟨vyy232,myy232,lyy232,eyy232⟩:=qyy232
   dsimp only [rU,rV,rB] at hEy23 hlyy232 hmyy232
   replace hmyy232:=aC hmyy231 hmyy232
   have byy232:lyy232.length≤100000:=by omega
   subst hEy23
   dsimp only at hby23
   simp only [cm,cl,bhq,Nat.reduceMod,Nat.reduceDiv,aY,aZ,a0,cb,a9,bY,ca,bV,bW,yaq,yar,yao,yap,go_sem,byq,true_and,onR,ae,aE,vv,vc,List.set_cons_succ,List.set_cons_zero,bj,bR,mn,hle,hc0,bc0,b0,hc1,bc1,b1,hc2,bc2,b2,hd2,e52,hy20,by20,hy21,by21,hy22,by22,hcy23,bcy23,by23,hy24,by24,hdy23,e5y23,hyy230,byy230,hyy231,byy231,hyy232,byy232,ybb,aK,vc,yal,yak]
   refine ⟨⟨by omega,by omega,fun z hz=>by rw [List.mem_singleton] at hz;subst hz;rfl⟩,(ny23,(myy232,lyy232,eyy232),usy23++[(⟨vyy230,vyy231,vyy232⟩:SCase)]),⟨by simp only [List.length_append,yaz,yba];omega,by rw [← hby23];simp [List.append_assoc],byy232,hmyy232⟩,by dsimp only;omega,?_⟩
   refine ⟨by (try simp only [zky,zkz]);omega,?_,hcly23 _ _ hmyy232,?_,?_⟩
   ·simp only [List.map_append,yae,yaf,aK,vc,yal,yak,inL,boL,List.length_append,yaz,yba,yal,yak]
    repeat first|exact .refl _|refine .push ?_ _
   ·simp [ltF,zmz,znh,zky,zkz]
    try omega
   ·simp [bf,wk2,wk1,wkM,Fr.get]
  have hn0:ny23=0:=by simp at hc;omega
  subst hn0
  simp only [goX,yaj,Prod.mk.injEq] at hby23
  obtain ⟨z1,z2,z3,z4⟩:=hby23
  replace z1:=z1.symm
  replace z2:=z2.symm
  replace z3:=z3.symm
  replace z4:=z4.symm
  subst z1 z2 z3 z4
  simp only [cm,cl,bhq,Nat.reduceMod,Nat.reduceDiv,aY,aZ,a0,cb,a9,bY,ca,bV,bW,yaq,yar,yao,yap,go_sem,byq,true_and,onR,ae,aE,vv,vc,List.set_cons_succ,List.set_cons_zero,bj,bR,hle,hc0,bc0,b0,hc1,bc1,b1,hc2,bc2,b2,hd2,e52,hy20,by20,hy21,by21,hy22,by22,hcy23,bcy23,by23,hy24,by24,ybb]
  refine wt (H0.nx+1+1+1+1+1) (cs:=[.int .i64 vy20,.int .i64 vy21,.int .i64 vy22,.slice (.own (H0.nx+1+1+1+1+1+1)) 5 (vy23.map (aK)),.int .i64 0]) [.int .i64 vy20,.int .i64 vy21,.int .i64 vy22,.slice .any 5 (vy23.map (aK)),.int .i64 0] (by simp only [go_sem]) (by simp [fJ,gA,jk,ju,iR,fI,wkM,lk]) ?_
  simp only [cm,cl,bhq,Nat.reduceMod,Nat.reduceDiv,aY,aZ,a0,cb,a9,bY,ca,bV,bW,yaq,yar,yao,yap,go_sem,byq,true_and,onR,ae,aE,vv,vc,List.set_cons_succ,List.set_cons_zero,bj,bR,hle,hc0,bc0,b0,hc1,bc1,b1,hc2,bc2,b2,hd2,e52,hy20,by20,hy21,by21,hy22,by22,hcy23,bcy23,by23,hy24,by24,ybb]
  refine ⟨⟨by omega,by omega,fun z hz=>by rw [List.mem_singleton] at hz;subst hz;rfl⟩,(n2,(my24,ly24,ey24),us2++[(⟨vy20,vy21,vy22,vy23,vy24⟩:SState)]),⟨by simp only [List.length_append,yaz,yba];omega,by rw [← hb2];simp [List.append_assoc],by24,hmy24⟩,by dsimp only;omega,?_⟩
  refine ⟨by (try simp only [zky,zkz]);omega,?_,hcl2 _ _ hmy24,?_,?_⟩
  ·simp only [List.map_append,yae,yaf,ak,inL,boL,List.length_append,yaz,yba,yal,yak]
   repeat first|exact .refl _|refine .push ?_ _
  ·simp [ltF,zmz,znh,zky,zkz]
   try omega
  ·simp [bf,wk2,wk1,wkM,Fr.get]
 have hn0:n2=0:=by simp at hc;omega
 subst hn0
 simp only [goX,yaj,Prod.mk.injEq] at hb2
 obtain ⟨z1,z2,z3,z4⟩:=hb2
 replace z1:=z1.symm
 replace z2:=z2.symm
 replace z3:=z3.symm
 replace z4:=z4.symm
 subst z1 z2 z3 z4
 simp only [cm,cl,bhq,Nat.reduceMod,Nat.reduceDiv,aY,aZ,a0,cb,a9,bY,ca,bV,bW,yaq,yar,yao,yap,go_sem,byq,true_and,onR,ae,aE,vv,vc,List.set_cons_succ,List.set_cons_zero,bj,hle,hc0,bc0,b0,hc1,bc1,b1,hc2,bc2,b2,ybb]
 refine ⟨?_,by repeat first|exact .refl _|refine .push ?_ _,hcl2 (m2,l2,e2) v2 hm2,?_⟩
 ·simp [wk,wk2,wk1,aG]
 ·simp [znm,znp]
end Go.AL
open Go Go.AL Go.Proofs
namespace Go.AL
set_option linter.all false
set_option maxRecDepth 10000
def t4:List AV→AHeap→(AV→Prop)→Prop:=At
theorem Fk:EntOk Tryz.prog 12 (Ent.pure t4):=by
 unfold t4
 refine EntOk.pure fun args H K h=>?_
 unfold At at h
 split at h
 rotate_left
 ·exact h.elim
 rename_i mk l
 obtain ⟨b,⟨rfl,hb⟩,hK⟩:=h
 refine ⟨_,hK,?_⟩
 clear hK
 obtain ⟨D,hD⟩:∃ D,tS b=D:=⟨_,rfl⟩
 rw [hD]
 unfold tS at hD
 by_cases hlen:8000<b.length
 ·have d1:decide ((b.length:Int) > 8000)=true:=decide_eq_true (by omega)
  rw [if_pos hlen] at hD
  subst hD
  refine ACalls.fW aB (TblOk.cons iC (TblOk.cons jO (TblOk.cons y3 (TblOk.cons yG (TblOk.cons zf (TblOk.cons DF (TblOk.cons sm TblOk.nil))))))) Tryz.func12 [.cell 2 35,.tmp 3] (Nat.le_refl _) (T:=ay [(10,[[],[],[],[],[3],[1,3],[],[1,3]]),(14,[[],[],[],[],[3],[1,3],[],[1,3]]),(24,[[],[],[],[],[3],[1,3],[],[1,3]]),(3,[[10]]),(7,[[1]]),(11,[[1]]),(15,[[1]]),(21,[[1]]),(25,[[1]])]) (h:=fun hcl hlt=>?_)
  clear hlt
  try simp only [List.append_eq,yal,yak]
  simp only [bhq,Nat.reduceMod,Nat.reduceDiv,aY,aZ,a0,cb,a9,bY,ca,bV,bW,yaq,yar,yao,yap,go_sem,byq,d1]
  refine ⟨?_,by repeat first|exact .refl _|refine .push ?_ _,hcl,pE _ _⟩
  simp [wk,aG,wk2,wkL,wk1,wkM,cN,bL,wz]
 have d1:decide ((b.length:Int) > 8000)=false:=decide_eq_false (by omega)
 rw [if_neg hlen] at hD
 unfold xB at hD
 obtain ⟨Q,hQ⟩:∃ Q,kI LX (.any,b,0)=Q:=⟨_,rfl⟩
 rw [hQ] at hD
 unfold kI at hQ
 dsimp only [rap,cZ,rU,kv,mkS] at hQ
 have hl0:=bm .any b 0 2
 have hm0:=bn .any b 0 2
 generalize h0:bB (.any,b,0) 2=q0 at *
 obtain ⟨v0,m0,l0,e0⟩:=q0
 dsimp only [rU,rV,rB] at hQ hl0 hm0
 replace hm0:=aC (.inl rfl:cw .any .any) hm0
 have b0:l0.length≤100000:=by omega
 have hl1:=bm m0 l0 e0 2
 have hm1:=bn m0 l0 e0 2
 generalize h1:bB (m0,l0,e0) 2=q1 at *
 obtain ⟨v1,m1,l1,e1⟩:=q1
 dsimp only [rU,rV,rB] at hQ hl1 hm1
 replace hm1:=aC hm0 hm1
 have b1:l1.length≤100000:=by omega
 have hl2:=(eZ rdFld_go 32).l (m1,l1,e1)
 have hm2:=(eZ rdFld_go 32).m (m1,l1,e1)
 generalize h2:rlX dB 32 (m1,l1,e1)=q2 at *
 obtain ⟨v2,m2,l2,e2⟩:=q2
 dsimp only [rU,rV,rB] at hQ hl2 hm2
 replace hm2:=aC hm1 hm2
 have b2:l2.length≤100000:=by omega
 have hl3:=(eZ (dV LX_go) 8).l (m2,l2,e2)
 have hm3:=(eZ (dV LX_go) 8).m (m2,l2,e2)
 generalize h3:rlX (dl LX) 8 (m2,l2,e2)=q3 at *
 obtain ⟨v3,m3,l3,e3⟩:=q3
 dsimp only [rU,rV,rB] at hQ hl3 hm3
 replace hm3:=aC hm2 hm3
 have b3:l3.length≤100000:=by omega
 have hl4:=(eZ (eu LX_go) 12).l (m3,l3,e3)
 have hm4:=(eZ (eu LX_go) 12).m (m3,l3,e3)
 generalize h4:rlX (dx LX) 12 (m3,l3,e3)=q4 at *
 obtain ⟨v4,m4,l4,e4⟩:=q4
 dsimp only [rU,rV,rB] at hQ hl4 hm4
 replace hm4:=aC hm3 hm4
 have b4:l4.length≤100000:=by omega
 rw [show rlX (dJ LX) 12 (m4,l4,e4)=goX (dJ LX) (aX (m4,l4,e4) 12).1.toNat (aX (m4,l4,e4) 12).2 from rfl] at hQ
 have hlc5:=cu m4 l4 e4 12
 have hmc5:=ct m4 l4 e4 12
 have hcb5:=cJ (m4,l4,e4) 12
 generalize hc5:aX (m4,l4,e4) 12=q5 at *
 obtain ⟨c5,mc5,lc5,ec5⟩:=q5
 dsimp only at hlc5 hmc5 hcb5 hQ
 obtain ⟨k5,rfl⟩:∃ k:Nat,c5=(k:Int):=⟨c5.toNat,by omega⟩
 rw [Int.toNat_natCast] at hQ
 replace hmc5:=aC hm4 hmc5
 have bc5:lc5.length≤100000:=by omega
 have hg5:=gz (eC LX_go) k5 (mc5,lc5,ec5)
 obtain ⟨⟨v5,m5,l5,e5⟩,hU5⟩:∃ G,goX (dJ LX) k5 (mc5,lc5,ec5)=G:=⟨_,rfl⟩
 rw [hU5] at hg5 hQ
 obtain ⟨hl5,hm5,_⟩:=hg5
 dsimp only [rU,rV,rB] at hQ hl5 hm5
 replace hm5:=aC hmc5 hm5
 have b5:l5.length≤100000:=by omega
 rw [show rlX (dH LX) 8 (m5,l5,e5)=goX (dH LX) (aX (m5,l5,e5) 8).1.toNat (aX (m5,l5,e5) 8).2 from rfl] at hQ
 have hlc6:=cu m5 l5 e5 8
 have hmc6:=ct m5 l5 e5 8
 have hcb6:=cJ (m5,l5,e5) 8
 generalize hc6:aX (m5,l5,e5) 8=q6 at *
 obtain ⟨c6,mc6,lc6,ec6⟩:=q6
 dsimp only at hlc6 hmc6 hcb6 hQ
 obtain ⟨k6,rfl⟩:∃ k:Nat,c6=(k:Int):=⟨c6.toNat,by omega⟩
 rw [Int.toNat_natCast] at hQ
 replace hmc6:=aC hm5 hmc6
 have bc6:lc6.length≤100000:=by omega
 have hg6:=gz (eU LX_go) k6 (mc6,lc6,ec6)
 obtain ⟨⟨v6,m6,l6,e6⟩,hU6⟩:∃ G,goX (dH LX) k6 (mc6,lc6,ec6)=G:=⟨_,rfl⟩
 rw [hU6] at hg6 hQ
 obtain ⟨hl6,hm6,_⟩:=hg6
 dsimp only [rU,rV,rB] at hQ hl6 hm6
 replace hm6:=aC hmc6 hm6
 have b6:l6.length≤100000:=by omega
 rw [show rlX eX 12 (m6,l6,e6)=goX eX (aX (m6,l6,e6) 12).1.toNat (aX (m6,l6,e6) 12).2 from rfl] at hQ
 have hlc7:=cu m6 l6 e6 12
 have hmc7:=ct m6 l6 e6 12
 have hcb7:=cJ (m6,l6,e6) 12
 generalize hc7:aX (m6,l6,e6) 12=q7 at *
 obtain ⟨c7,mc7,lc7,ec7⟩:=q7
 dsimp only at hlc7 hmc7 hcb7 hQ
 obtain ⟨k7,rfl⟩:∃ k:Nat,c7=(k:Int):=⟨c7.toNat,by omega⟩
 rw [Int.toNat_natCast] at hQ
 replace hmc7:=aC hm6 hmc7
 have bc7:lc7.length≤100000:=by omega
 have hg7:=gz rdStg_go k7 (mc7,lc7,ec7)
 obtain ⟨⟨v7,m7,l7,e7⟩,hU7⟩:∃ G,goX eX k7 (mc7,lc7,ec7)=G:=⟨_,rfl⟩
 rw [hU7] at hg7 hQ
 obtain ⟨hl7,hm7,_⟩:=hg7
 dsimp only [rU,rV,rB] at hQ hl7 hm7
 replace hm7:=aC hmc7 hm7
 have b7:l7.length≤100000:=by omega
 rw [show rlX (dK LX) 6 (m7,l7,e7)=goX (dK LX) (aX (m7,l7,e7) 6).1.toNat (aX (m7,l7,e7) 6).2 from rfl] at hQ
 have hlc8:=cu m7 l7 e7 6
 have hmc8:=ct m7 l7 e7 6
 have hcb8:=cJ (m7,l7,e7) 6
 generalize hc8:aX (m7,l7,e7) 6=q8 at *
 obtain ⟨c8,mc8,lc8,ec8⟩:=q8
 dsimp only at hlc8 hmc8 hcb8 hQ
 obtain ⟨k8,rfl⟩:∃ k:Nat,c8=(k:Int):=⟨c8.toNat,by omega⟩
 rw [Int.toNat_natCast] at hQ
 replace hmc8:=aC hm7 hmc8
 have bc8:lc8.length≤100000:=by omega
 have hg8:=gz (fy LX_go) k8 (mc8,lc8,ec8)
 obtain ⟨⟨v8,m8,l8,e8⟩,hU8⟩:∃ G,goX (dK LX) k8 (mc8,lc8,ec8)=G:=⟨_,rfl⟩
 rw [hU8] at hg8 hQ
 obtain ⟨hl8,hm8,_⟩:=hg8
 dsimp only [rU,rV,rB] at hQ hl8 hm8
 replace hm8:=aC hmc8 hm8
 have b8:l8.length≤100000:=by omega
 rw [show rlX eR 8 (m8,l8,e8)=goX eR (aX (m8,l8,e8) 8).1.toNat (aX (m8,l8,e8) 8).2 from rfl] at hQ
 have hlc9:=cu m8 l8 e8 8
 have hmc9:=ct m8 l8 e8 8
 have hcb9:=cJ (m8,l8,e8) 8
 generalize hc9:aX (m8,l8,e8) 8=q9 at *
 obtain ⟨c9,mc9,lc9,ec9⟩:=q9
 dsimp only at hlc9 hmc9 hcb9 hQ
 obtain ⟨k9,rfl⟩:∃ k:Nat,c9=(k:Int):=⟨c9.toNat,by omega⟩
 rw [Int.toNat_natCast] at hQ
 replace hmc9:=aC hm8 hmc9
 have bc9:lc9.length≤100000:=by omega
 have hg9:=gz rdRef_go k9 (mc9,lc9,ec9)
 obtain ⟨⟨v9,m9,l9,e9⟩,hU9⟩:∃ G,goX eR k9 (mc9,lc9,ec9)=G:=⟨_,rfl⟩
 rw [hU9] at hg9 hQ
 obtain ⟨hl9,hm9,_⟩:=hg9
 dsimp only [rU,rV,rB] at hQ hl9 hm9
 replace hm9:=aC hmc9 hm9
 have b9:l9.length≤100000:=by omega
 subst hQ
 dsimp only at hD
 obtain ⟨F,hF'⟩:∃ F,fj (m9,l9,e9)=F:=⟨_,rfl⟩
 rw [hF'] at hD
 refine ACalls.fW aB (TblOk.cons iC (TblOk.cons jO (TblOk.cons y3 (TblOk.cons yG (TblOk.cons zf (TblOk.cons DF (TblOk.cons sm TblOk.nil))))))) Tryz.func12 [.cell 2 35,.tmp 3] (Nat.le_refl _) (T:=ay [(10,[[],[],[],[],[3],[1,3],[],[1,3]]),(14,[[],[],[],[],[3],[1,3],[],[1,3]]),(24,[[],[],[],[],[3],[1,3],[],[1,3]]),(3,[[10]]),(7,[[1]]),(11,[[1]]),(15,[[1]]),(21,[[1]]),(25,[[1]])]) (h:=fun hcl hlt=>?_)
 clear hlt
 try simp only [List.append_eq,yal,yak]
 have hH0:((H.push (.cells [.slice .nil 1 [],.slice .nil 1 [],.slice .nil 1 [],.slice .nil 1 [],.slice .nil 1 [],.slice .nil 1 [],.slice .nil 1 [],.slice .nil 1 [],.int .i64 0,.int .i64 0])).push (.buf 1 b.length)).Closed:=aP (ag hcl (by simp [aH,zno,znp,zmz]))
 simp only [cm,cl,bhq,Nat.reduceMod,Nat.reduceDiv,aY,aZ,a0,cb,a9,bY,ca,bV,bW,yaq,yar,yao,yap,go_sem,byq,true_and,onR,ae,aE,vv,vc,List.set_cons_succ,List.set_cons_zero,bR,bj,iT,hb,h0,b0,h1,b1,h2,b2,h3,b3,h4,b4,hc5,bc5,b5,hc6,bc6,b6,hc7,bc7,b7,hc8,bc8,b8,hc9,bc9,b9,ybb,kn,hF',d1]
 refine ⟨⟨by omega,by omega⟩,?_⟩
 refine g8 20 (.slice .any 1 (bys b)) ?_ ?_
 ·simp [Fr.get,fI,fJ,gA,gH,iD,wkM,lk]
 simp only [cm,cl,bhq,Nat.reduceMod,Nat.reduceDiv,aY,aZ,a0,cb,a9,bY,ca,bV,bW,yaq,yar,yao,yap,go_sem,byq,true_and,onR,ae,aE,vv,vc,List.set_cons_succ,List.set_cons_zero,bR,bj,iT,hb,h0,b0,h1,b1,h2,b2,h3,b3,h4,b4,hc5,bc5,b5,hc6,bc6,b6,hc7,bc7,b7,hc8,bc8,b8,hc9,bc9,b9,ybb,kn,hF',d1]
 refine ⟨_,m1,l1,e1,v0,v1,⟨rfl,by simp only [zky],by simp only [zky],b1,hm1,hH0⟩,?_⟩
 simp only [cm,cl,bhq,Nat.reduceMod,Nat.reduceDiv,aY,aZ,a0,cb,a9,bY,ca,bV,bW,yaq,yar,yao,yap,go_sem,byq,true_and,onR,ae,aE,vv,vc,List.set_cons_succ,List.set_cons_zero,bR,bj,iT,hb,h0,b0,h1,b1,h2,b2,h3,b3,h4,b4,hc5,bc5,b5,hc6,bc6,b6,hc7,bc7,b7,hc8,bc8,b8,hc9,bc9,b9,ybb,kn,hF',d1]
 refine ey 5 3 5 (cs:=[.slice (.own (H.nx+1+1+1+1)) 3 (v2.map ar),.slice (.own (H.nx+1+1+1+1+1)) 3 (v3.map aj),.slice (.own (H.nx+1+1+1+1+1+1)) 5 (v4.map ak),.slice .nil 1 [],.slice .nil 1 [],.slice .nil 1 [],.slice .nil 1 [],.slice .nil 1 [],.int .i64 v0,.int .i64 v1]) rfl (by simp only [go_sem]) rfl ?_
 simp only [cm,cl,bhq,Nat.reduceMod,Nat.reduceDiv,aY,aZ,a0,cb,a9,bY,ca,bV,bW,yaq,yar,yao,yap,go_sem,byq,true_and,onR,ae,aE,vv,vc,List.set_cons_succ,List.set_cons_zero,bR,bj,iT,hb,h0,b0,h1,b1,h2,b2,h3,b3,h4,b4,hc5,bc5,b5,hc6,bc6,b6,hc7,bc7,b7,hc8,bc8,b8,hc9,bc9,b9,ybb]
 have hcl5:∀ (s:RS) (us:List SAction),cw .any s.1→((((((((H.push (.cells [.slice .nil 1 [],.slice .nil 1 [],.slice .nil 1 [],.slice .nil 1 [],.slice .nil 1 [],.slice .nil 1 [],.slice .nil 1 [],.slice .nil 1 [],.int .i64 0,.int .i64 0])).push (.buf 1 b.length)).push (.cells [.slice s.1 1 (bys s.2.1),.int .i64 s.2.2])).push (.cells [.slice (.own (H.nx+1+1+1+1)) 3 (v2.map ar),.slice (.own (H.nx+1+1+1+1+1)) 3 (v3.map aj),.slice (.own (H.nx+1+1+1+1+1+1)) 5 (v4.map ak),.slice (.own (H.nx+1+1+1+1+1+1+1)) 5 (us.map (ah)),.slice .nil 1 [],.slice .nil 1 [],.slice .nil 1 [],.slice .nil 1 [],.int .i64 v0,.int .i64 v1])).push (.buf 3 v2.length)).push (.buf 3 v3.length)).push (.buf 5 v4.length)).push (.buf 5 us.length)).Closed:=fun s us hs=>by
  have h0:((((((((H.push (.cells [.slice .nil 1 [],.slice .nil 1 [],.slice .nil 1 [],.slice .nil 1 [],.slice .nil 1 [],.slice .nil 1 [],.slice .nil 1 [],.slice .nil 1 [],.int .i64 0,.int .i64 0])).push (.buf 1 b.length)).push (.cells [.slice s.1 1 (bys s.2.1),.int .i64 s.2.2])).push (.cells [])).push (.buf 3 v2.length)).push (.buf 3 v3.length)).push (.buf 5 v4.length)).push (.buf 5 us.length)).Closed:=by
   repeat' (first|exact kh hH0 hs|refine aP ?_|refine ag ?_ ?_)
   all_goals first|trivial|simp [aH,zno,znp,zmz,zna,znb,zmj]
  have h0:=bS (i:=H.nx+1+1+1) (cs:=[.slice (.own (H.nx+1+1+1+1)) 3 (v2.map ar),.slice (.own (H.nx+1+1+1+1+1)) 3 (v3.map aj),.slice (.own (H.nx+1+1+1+1+1+1)) 5 (v4.map ak),.slice (.own (H.nx+1+1+1+1+1+1+1)) 5 (us.map (ah)),.slice .nil 1 [],.slice .nil 1 [],.slice .nil 1 [],.slice .nil 1 [],.int .i64 v0,.int .i64 v1]) h0 (by
   simp [zno,znp,zmz,zna,znb,zky,zkz,aH,gk,fX,fV,gb,gg,ga,gh,f4,fZ,f7,gd,fU,fY,gp,f9,gf]
   try omega)
  simp only [go_sem] at h0
  exact h0
 refine aA (A:=Nat × RS × List SAction) (fun x=>[(2,.ptr H.nx 0),(4,.ptr (H.nx+1+1) 0),(5,.ptr (H.nx+1+1+1) 0),(6,.int .i64 (x.1:Int))]) (fun x=>(((((((H.push (.cells [.slice .nil 1 [],.slice .nil 1 [],.slice .nil 1 [],.slice .nil 1 [],.slice .nil 1 [],.slice .nil 1 [],.slice .nil 1 [],.slice .nil 1 [],.int .i64 0,.int .i64 0])).push (.buf 1 b.length)).push (.cells [.slice x.2.1.1 1 (bys x.2.1.2.1),.int .i64 x.2.1.2.2])).push (.cells [.slice (.own (H.nx+1+1+1+1)) 3 (v2.map ar),.slice (.own (H.nx+1+1+1+1+1)) 3 (v3.map aj),.slice (.own (H.nx+1+1+1+1+1+1)) 5 (v4.map ak),.slice (.own (H.nx+1+1+1+1+1+1+1)) 5 (x.2.2.map (ah)),.slice .nil 1 [],.slice .nil 1 [],.slice .nil 1 [],.slice .nil 1 [],.int .i64 v0,.int .i64 v1])).push (.buf 3 v2.length)).push (.buf 3 v3.length)).push (.buf 5 v4.length)).push (.buf 5 x.2.2.length)) (fun x=>x.2.2.length+x.1≤65535∧(x.2.2++(goX (dJ LX) x.1 x.2.1).1,(goX (dJ LX) x.1 x.2.1).2)=(v5,m5,l5,e5)∧x.2.1.2.1.length≤100000∧cw .any x.2.1.1) (fun x=>x.1) (k5,(mc5,lc5,ec5),[]) ⟨by simp;omega,by rw [← hU5];rfl,bc5,hmc5⟩ ?_ fun x hx=>?_
 ·refine ⟨by (try simp only [zkk,zkp,zky,zkz]);omega,by repeat first|exact .refl _|refine .push ?_ _,hcl5 _ _ hmc5,?_,?_⟩
  ·simp [ltF,zmz,znh,zky,zkz]
   try omega
  ·simp [bf,wk2,wk1,wkM,Fr.get]
 obtain ⟨n5,⟨mx5,lx5,ex5⟩,us5⟩:=x
 obtain ⟨ha5,hb5,hd5,he5⟩:=hx
 dsimp only at ha5 hb5 hd5 he5 ⊢
 simp only [go_sem]
 refine ai (fun hc=>?_) (fun hc=>?_)
 ·obtain ⟨n5,rfl⟩:∃ m,n5=m+1:=⟨n5 - 1,by simp at hc;omega⟩
  have e55:IntKind.i64.wrap (((n5+1:Nat):Int) - 1)=((n5:Nat):Int):=by rw [wrap_i64]<;>omega
  have hge:goX (dJ LX) (n5+1) (mx5,lx5,ex5)=(((dJ LX) (mx5,lx5,ex5)).1::(goX (dJ LX) n5 ((dJ LX) (mx5,lx5,ex5)).2).1,(goX (dJ LX) n5 ((dJ LX) (mx5,lx5,ex5)).2).2):=rfl
  rw [hge] at hb5
  clear hge
  obtain ⟨E5,hE5⟩:∃ E,(dJ LX) (mx5,lx5,ex5)=E:=⟨_,rfl⟩
  rw [hE5] at hb5
  have hl_:=(eC LX_go).l (mx5,lx5,ex5)
  have hm_:=(eC LX_go).m (mx5,lx5,ex5)
  rw [hE5] at hl_ hm_
  obtain ⟨vy50,my50,ly50,ey50⟩:=E5
  dsimp only at hl_ hm_
  replace hm_:=aC he5 hm_
  have by50:ly50.length≤100000:=by omega
  simp only [cm,cl,bhq,Nat.reduceMod,Nat.reduceDiv,aY,aZ,a0,cb,a9,bY,ca,bV,bW,yaq,yar,yao,yap,go_sem,byq,true_and,onR,ae,aE,vv,vc,List.set_cons_succ,List.set_cons_zero,bR,bj,iT,yc,hb,h0,b0,h1,b1,h2,b2,h3,b3,h4,b4,hc5,bc5,b5,hc6,bc6,b6,hc7,bc7,b7,hc8,bc8,b8,hc9,bc9,b9,hd5,e55,hE5,by50,ybb,ah]
  refine ⟨⟨by omega,by omega,fun z hz=>by rw [List.mem_singleton] at hz;subst hz;rfl⟩,(n5,(my50,ly50,ey50),us5++[vy50]),⟨by simp only [List.length_append,yaz,yba];omega,by rw [← hb5];simp [List.append_assoc],by50,hm_⟩,by dsimp only;omega,?_⟩
  refine ⟨by (try simp only [zky,zkz]);omega,?_,hcl5 _ _ hm_,?_,?_⟩
  ·simp only [List.map_append,yae,yaf,ah,inL,boL,List.length_append,yaz,yba,yal,yak]
   repeat first|exact .refl _|refine .push ?_ _
  ·simp [ltF,zmz,znh,zky,zkz]
   try omega
  ·simp [bf,wk2,wk1,wkM,Fr.get]
 have hn0:n5=0:=by simp at hc;omega
 subst hn0
 simp only [goX,yaj,Prod.mk.injEq] at hb5
 obtain ⟨z1,z2,z3,z4⟩:=hb5
 replace z1:=z1.symm
 replace z2:=z2.symm
 replace z3:=z3.symm
 replace z4:=z4.symm
 subst z1 z2 z3 z4
 simp only [cm,cl,bhq,Nat.reduceMod,Nat.reduceDiv,aY,aZ,a0,cb,a9,bY,ca,bV,bW,yaq,yar,yao,yap,go_sem,byq,true_and,onR,ae,aE,vv,vc,List.set_cons_succ,List.set_cons_zero,bR,bj,iT,hb,h0,b0,h1,b1,h2,b2,h3,b3,h4,b4,hc5,bc5,b5,hc6,bc6,b6,hc7,bc7,b7,hc8,bc8,b8,hc9,bc9,b9,ybb]
 refine ey 5 4 8 (cs:=[.slice (.own (H.nx+1+1+1+1)) 3 (v2.map ar),.slice (.own (H.nx+1+1+1+1+1)) 3 (v3.map aj),.slice (.own (H.nx+1+1+1+1+1+1)) 5 (v4.map ak),.slice (.own (H.nx+1+1+1+1+1+1+1)) 5 (v5.map (ah)),.slice .nil 1 [],.slice .nil 1 [],.slice .nil 1 [],.slice .nil 1 [],.int .i64 v0,.int .i64 v1]) rfl (by simp only [go_sem]) rfl ?_
 simp only [cm,cl,bhq,Nat.reduceMod,Nat.reduceDiv,aY,aZ,a0,cb,a9,bY,ca,bV,bW,yaq,yar,yao,yap,go_sem,byq,true_and,onR,ae,aE,vv,vc,List.set_cons_succ,List.set_cons_zero,bR,bj,iT,hb,h0,b0,h1,b1,h2,b2,h3,b3,h4,b4,hc5,bc5,b5,hc6,bc6,b6,hc7,bc7,b7,hc8,bc8,b8,hc9,bc9,b9,ybb]
 have hcl6:∀ (s:RS) (us:List STable),cw .any s.1→(((((((((H.push (.cells [.slice .nil 1 [],.slice .nil 1 [],.slice .nil 1 [],.slice .nil 1 [],.slice .nil 1 [],.slice .nil 1 [],.slice .nil 1 [],.slice .nil 1 [],.int .i64 0,.int .i64 0])).push (.buf 1 b.length)).push (.cells [.slice s.1 1 (bys s.2.1),.int .i64 s.2.2])).push (.cells [.slice (.own (H.nx+1+1+1+1)) 3 (v2.map ar),.slice (.own (H.nx+1+1+1+1+1)) 3 (v3.map aj),.slice (.own (H.nx+1+1+1+1+1+1)) 5 (v4.map ak),.slice (.own (H.nx+1+1+1+1+1+1+1)) 5 (v5.map (ah)),.slice (.own (H.nx+1+1+1+1+1+1+1+1)) 8 (us.map (aq)),.slice .nil 1 [],.slice .nil 1 [],.slice .nil 1 [],.int .i64 v0,.int .i64 v1])).push (.buf 3 v2.length)).push (.buf 3 v3.length)).push (.buf 5 v4.length)).push (.buf 5 v5.length)).push (.buf 8 us.length)).Closed:=fun s us hs=>by
  have h0:(((((((((H.push (.cells [.slice .nil 1 [],.slice .nil 1 [],.slice .nil 1 [],.slice .nil 1 [],.slice .nil 1 [],.slice .nil 1 [],.slice .nil 1 [],.slice .nil 1 [],.int .i64 0,.int .i64 0])).push (.buf 1 b.length)).push (.cells [.slice s.1 1 (bys s.2.1),.int .i64 s.2.2])).push (.cells [])).push (.buf 3 v2.length)).push (.buf 3 v3.length)).push (.buf 5 v4.length)).push (.buf 5 v5.length)).push (.buf 8 us.length)).Closed:=by
   repeat' (first|exact kh hH0 hs|refine aP ?_|refine ag ?_ ?_)
   all_goals first|trivial|simp [aH,zno,znp,zmz,zna,znb,zmj]
  have h0:=bS (i:=H.nx+1+1+1) (cs:=[.slice (.own (H.nx+1+1+1+1)) 3 (v2.map ar),.slice (.own (H.nx+1+1+1+1+1)) 3 (v3.map aj),.slice (.own (H.nx+1+1+1+1+1+1)) 5 (v4.map ak),.slice (.own (H.nx+1+1+1+1+1+1+1)) 5 (v5.map (ah)),.slice (.own (H.nx+1+1+1+1+1+1+1+1)) 8 (us.map (aq)),.slice .nil 1 [],.slice .nil 1 [],.slice .nil 1 [],.int .i64 v0,.int .i64 v1]) h0 (by
   simp [zno,znp,zmz,zna,znb,zky,zkz,aH,gk,fX,fV,gb,gg,ga,gh,f4,fZ,f7,gd,fU,fY,gp,f9,gf]
   try omega)
  simp only [go_sem] at h0
  exact h0
 refine aA (A:=Nat × RS × List STable) (fun x=>[(2,.ptr H.nx 0),(4,.ptr (H.nx+1+1) 0),(5,.ptr (H.nx+1+1+1) 0),(7,.int .i64 (x.1:Int))]) (fun x=>((((((((H.push (.cells [.slice .nil 1 [],.slice .nil 1 [],.slice .nil 1 [],.slice .nil 1 [],.slice .nil 1 [],.slice .nil 1 [],.slice .nil 1 [],.slice .nil 1 [],.int .i64 0,.int .i64 0])).push (.buf 1 b.length)).push (.cells [.slice x.2.1.1 1 (bys x.2.1.2.1),.int .i64 x.2.1.2.2])).push (.cells [.slice (.own (H.nx+1+1+1+1)) 3 (v2.map ar),.slice (.own (H.nx+1+1+1+1+1)) 3 (v3.map aj),.slice (.own (H.nx+1+1+1+1+1+1)) 5 (v4.map ak),.slice (.own (H.nx+1+1+1+1+1+1+1)) 5 (v5.map (ah)),.slice (.own (H.nx+1+1+1+1+1+1+1+1)) 8 (x.2.2.map (aq)),.slice .nil 1 [],.slice .nil 1 [],.slice .nil 1 [],.int .i64 v0,.int .i64 v1])).push (.buf 3 v2.length)).push (.buf 3 v3.length)).push (.buf 5 v4.length)).push (.buf 5 v5.length)).push (.buf 8 x.2.2.length)) (fun x=>x.2.2.length+x.1≤65535∧(x.2.2++(goX (dH LX) x.1 x.2.1).1,(goX (dH LX) x.1 x.2.1).2)=(v6,m6,l6,e6)∧x.2.1.2.1.length≤100000∧cw .any x.2.1.1) (fun x=>x.1) (k6,(mc6,lc6,ec6),[]) ⟨by simp;omega,by rw [← hU6];rfl,bc6,hmc6⟩ ?_ fun x hx=>?_
 ·refine ⟨by (try simp only [zkk,zkp,zky,zkz]);omega,by repeat first|exact .refl _|refine .push ?_ _,hcl6 _ _ hmc6,?_,?_⟩
  ·simp [ltF,zmz,znh,zky,zkz]
   try omega
  ·simp [bf,wk2,wk1,wkM,Fr.get]
 obtain ⟨n6,⟨mx6,lx6,ex6⟩,us6⟩:=x
 obtain ⟨ha6,hb6,hd6,he6⟩:=hx
 dsimp only at ha6 hb6 hd6 he6 ⊢
 simp only [go_sem]
 refine ai (fun hc=>?_) (fun hc=>?_)
 ·obtain ⟨n6,rfl⟩:∃ m,n6=m+1:=⟨n6 - 1,by simp at hc;omega⟩
  have e56:IntKind.i64.wrap (((n6+1:Nat):Int) - 1)=((n6:Nat):Int):=by rw [wrap_i64]<;>omega
  have hge:goX (dH LX) (n6+1) (mx6,lx6,ex6)=(((dH LX) (mx6,lx6,ex6)).1::(goX (dH LX) n6 ((dH LX) (mx6,lx6,ex6)).2).1,(goX (dH LX) n6 ((dH LX) (mx6,lx6,ex6)).2).2):=rfl
  rw [hge] at hb6
  clear hge
  obtain ⟨E6,hE6⟩:∃ E,(dH LX) (mx6,lx6,ex6)=E:=⟨_,rfl⟩
  rw [hE6] at hb6
  have hl_:=(eU LX_go).l (mx6,lx6,ex6)
  have hm_:=(eU LX_go).m (mx6,lx6,ex6)
  rw [hE6] at hl_ hm_
  obtain ⟨vy60,my60,ly60,ey60⟩:=E6
  dsimp only at hl_ hm_
  replace hm_:=aC he6 hm_
  have by60:ly60.length≤100000:=by omega
  simp only [cm,cl,bhq,Nat.reduceMod,Nat.reduceDiv,aY,aZ,a0,cb,a9,bY,ca,bV,bW,yaq,yar,yao,yap,go_sem,byq,true_and,onR,ae,aE,vv,vc,List.set_cons_succ,List.set_cons_zero,bR,bj,iT,x5,hb,h0,b0,h1,b1,h2,b2,h3,b3,h4,b4,hc5,bc5,b5,hc6,bc6,b6,hc7,bc7,b7,hc8,bc8,b8,hc9,bc9,b9,hd6,e56,hE6,by60,ybb,aq]
  refine ⟨⟨by omega,by omega,fun z hz=>by rw [List.mem_singleton] at hz;subst hz;rfl⟩,(n6,(my60,ly60,ey60),us6++[vy60]),⟨by simp only [List.length_append,yaz,yba];omega,by rw [← hb6];simp [List.append_assoc],by60,hm_⟩,by dsimp only;omega,?_⟩
  refine ⟨by (try simp only [zky,zkz]);omega,?_,hcl6 _ _ hm_,?_,?_⟩
  ·simp only [List.map_append,yae,yaf,aq,inL,boL,List.length_append,yaz,yba,yal,yak]
   repeat first|exact .refl _|refine .push ?_ _
  ·simp [ltF,zmz,znh,zky,zkz]
   try omega
  ·simp [bf,wk2,wk1,wkM,Fr.get]
 have hn0:n6=0:=by simp at hc;omega
 subst hn0
 simp only [goX,yaj,Prod.mk.injEq] at hb6
 obtain ⟨z1,z2,z3,z4⟩:=hb6
 replace z1:=z1.symm
 replace z2:=z2.symm
 replace z3:=z3.symm
 replace z4:=z4.symm
 subst z1 z2 z3 z4
 simp only [cm,cl,bhq,Nat.reduceMod,Nat.reduceDiv,aY,aZ,a0,cb,a9,bY,ca,bV,bW,yaq,yar,yao,yap,go_sem,byq,true_and,onR,ae,aE,vv,vc,List.set_cons_succ,List.set_cons_zero,bR,bj,iT,hb,h0,b0,h1,b1,h2,b2,h3,b3,h4,b4,hc5,bc5,b5,hc6,bc6,b6,hc7,bc7,b7,hc8,bc8,b8,hc9,bc9,b9,ybb]
 refine ey 5 5 2 (cs:=[.slice (.own (H.nx+1+1+1+1)) 3 (v2.map ar),.slice (.own (H.nx+1+1+1+1+1)) 3 (v3.map aj),.slice (.own (H.nx+1+1+1+1+1+1)) 5 (v4.map ak),.slice (.own (H.nx+1+1+1+1+1+1+1)) 5 (v5.map (ah)),.slice (.own (H.nx+1+1+1+1+1+1+1+1)) 8 (v6.map (aq)),.slice .nil 1 [],.slice .nil 1 [],.slice .nil 1 [],.int .i64 v0,.int .i64 v1]) rfl (by simp only [go_sem]) rfl ?_
 simp only [cm,cl,bhq,Nat.reduceMod,Nat.reduceDiv,aY,aZ,a0,cb,a9,bY,ca,bV,bW,yaq,yar,yao,yap,go_sem,byq,true_and,onR,ae,aE,vv,vc,List.set_cons_succ,List.set_cons_zero,bR,bj,iT,hb,h0,b0,h1,b1,h2,b2,h3,b3,h4,b4,hc5,bc5,b5,hc6,bc6,b6,hc7,bc7,b7,hc8,bc8,b8,hc9,bc9,b9,ybb]
 have hcl7:∀ (s:RS) (us:List SStage),cw .any s.1→((((((((((H.push (.cells [.slice .nil 1 [],.slice .nil 1 [],.slice .nil 1 [],.slice .nil 1 [],.slice .nil 1 [],.slice .nil 1 [],.slice .nil 1 [],.slice .nil 1 [],.int .i64 0,.int .i64 0])).push (.buf 1 b.length)).push (.cells [.slice s.1 1 (bys s.2.1),.int .i64 s.2.2])).push (.cells [.slice (.own (H.nx+1+1+1+1)) 3 (v2.map ar),.slice (.own (H.nx+1+1+1+1+1)) 3 (v3.map aj),.slice (.own (H.nx+1+1+1+1+1+1)) 5 (v4.map ak),.slice (.own (H.nx+1+1+1+1+1+1+1)) 5 (v5.map (ah)),.slice (.own (H.nx+1+1+1+1+1+1+1+1)) 8 (v6.map (aq)),.slice (.own (H.nx+1+1+1+1+1+1+1+1+1)) 2 (us.map (az)),.slice .nil 1 [],.slice .nil 1 [],.int .i64 v0,.int .i64 v1])).push (.buf 3 v2.length)).push (.buf 3 v3.length)).push (.buf 5 v4.length)).push (.buf 5 v5.length)).push (.buf 8 v6.length)).push (.buf 2 us.length)).Closed:=fun s us hs=>by
  have h0:((((((((((H.push (.cells [.slice .nil 1 [],.slice .nil 1 [],.slice .nil 1 [],.slice .nil 1 [],.slice .nil 1 [],.slice .nil 1 [],.slice .nil 1 [],.slice .nil 1 [],.int .i64 0,.int .i64 0])).push (.buf 1 b.length)).push (.cells [.slice s.1 1 (bys s.2.1),.int .i64 s.2.2])).push (.cells [])).push (.buf 3 v2.length)).push (.buf 3 v3.length)).push (.buf 5 v4.length)).push (.buf 5 v5.length)).push (.buf 8 v6.length)).push (.buf 2 us.length)).Closed:=by
   repeat' (first|exact kh hH0 hs|refine aP ?_|refine ag ?_ ?_)
   all_goals first|trivial|simp [aH,zno,znp,zmz,zna,znb,zmj]
  have h0:=bS (i:=H.nx+1+1+1) (cs:=[.slice (.own (H.nx+1+1+1+1)) 3 (v2.map ar),.slice (.own (H.nx+1+1+1+1+1)) 3 (v3.map aj),.slice (.own (H.nx+1+1+1+1+1+1)) 5 (v4.map ak),.slice (.own (H.nx+1+1+1+1+1+1+1)) 5 (v5.map (ah)),.slice (.own (H.nx+1+1+1+1+1+1+1+1)) 8 (v6.map (aq)),.slice (.own (H.nx+1+1+1+1+1+1+1+1+1)) 2 (us.map (az)),.slice .nil 1 [],.slice .nil 1 [],.int .i64 v0,.int .i64 v1]) h0 (by
   simp [zno,znp,zmz,zna,znb,zky,zkz,aH,gk,fX,fV,gb,gg,ga,gh,f4,fZ,f7,gd,fU,fY,gp,f9,gf]
   try omega)
  simp only [go_sem] at h0
  exact h0
 refine aA (A:=Nat × RS × List SStage) (fun x=>[(2,.ptr H.nx 0),(4,.ptr (H.nx+1+1) 0),(5,.ptr (H.nx+1+1+1) 0),(8,.int .i64 (x.1:Int))]) (fun x=>(((((((((H.push (.cells [.slice .nil 1 [],.slice .nil 1 [],.slice .nil 1 [],.slice .nil 1 [],.slice .nil 1 [],.slice .nil 1 [],.slice .nil 1 [],.slice .nil 1 [],.int .i64 0,.int .i64 0])).push (.buf 1 b.length)).push (.cells [.slice x.2.1.1 1 (bys x.2.1.2.1),.int .i64 x.2.1.2.2])).push (.cells [.slice (.own (H.nx+1+1+1+1)) 3 (v2.map ar),.slice (.own (H.nx+1+1+1+1+1)) 3 (v3.map aj),.slice (.own (H.nx+1+1+1+1+1+1)) 5 (v4.map ak),.slice (.own (H.nx+1+1+1+1+1+1+1)) 5 (v5.map (ah)),.slice (.own (H.nx+1+1+1+1+1+1+1+1)) 8 (v6.map (aq)),.slice (.own (H.nx+1+1+1+1+1+1+1+1+1)) 2 (x.2.2.map (az)),.slice .nil 1 [],.slice .nil 1 [],.int .i64 v0,.int .i64 v1])).push (.buf 3 v2.length)).push (.buf 3 v3.length)).push (.buf 5 v4.length)).push (.buf 5 v5.length)).push (.buf 8 v6.length)).push (.buf 2 x.2.2.length)) (fun x=>x.2.2.length+x.1≤65535∧(x.2.2++(goX eX x.1 x.2.1).1,(goX eX x.1 x.2.1).2)=(v7,m7,l7,e7)∧x.2.1.2.1.length≤100000∧cw .any x.2.1.1) (fun x=>x.1) (k7,(mc7,lc7,ec7),[]) ⟨by simp;omega,by rw [← hU7];rfl,bc7,hmc7⟩ ?_ fun x hx=>?_
 ·refine ⟨by (try simp only [zkk,zkp,zky,zkz]);omega,by repeat first|exact .refl _|refine .push ?_ _,hcl7 _ _ hmc7,?_,?_⟩
  ·simp [ltF,zmz,znh,zky,zkz]
   try omega
  ·simp [bf,wk2,wk1,wkM,Fr.get]
 obtain ⟨n7,⟨mx7,lx7,ex7⟩,us7⟩:=x
 obtain ⟨ha7,hb7,hd7,he7⟩:=hx
 dsimp only at ha7 hb7 hd7 he7 ⊢
 simp only [go_sem]
 refine ai (fun hc=>?_) (fun hc=>?_)
 ·obtain ⟨n7,rfl⟩:∃ m,n7=m+1:=⟨n7 - 1,by simp at hc;omega⟩
  have e57:IntKind.i64.wrap (((n7+1:Nat):Int) - 1)=((n7:Nat):Int):=by rw [wrap_i64]<;>omega
  have hge:goX eX (n7+1) (mx7,lx7,ex7)=((eX (mx7,lx7,ex7)).1::(goX eX n7 (eX (mx7,lx7,ex7)).2).1,(goX eX n7 (eX (mx7,lx7,ex7)).2).2):=rfl
  rw [hge] at hb7
  clear hge
  obtain ⟨E7,hE7⟩:∃ E,eX (mx7,lx7,ex7)=E:=⟨_,rfl⟩
  rw [hE7] at hb7
  unfold eX at hE7
  try dsimp only [rap,cZ,rU,rT,rV,rB,kv] at hE7
  have hly70:=bm mx7 lx7 ex7 2
  have hmy70:=bn mx7 lx7 ex7 2
  generalize hy70:bB (mx7,lx7,ex7) 2=qy70 at *
  obtain ⟨vy70,my70,ly70,ey70⟩:=qy70
  dsimp only [rU,rV,rB] at hE7 hly70 hmy70
  replace hmy70:=aC he7 hmy70
  have by70:ly70.length≤100000:=by omega
  have hly71:=bm my70 ly70 ey70 2
  have hmy71:=bn my70 ly70 ey70 2
  generalize hy71:bB (my70,ly70,ey70) 2=qy71 at *
  obtain ⟨vy71,my71,ly71,ey71⟩:=qy71
  dsimp only [rU,rV,rB] at hE7 hly71 hmy71
  replace hmy71:=aC hmy70 hmy71
  have by71:ly71.length≤100000:=by omega
  subst hE7
  dsimp only at hb7
  simp only [cm,cl,bhq,Nat.reduceMod,Nat.reduceDiv,aY,aZ,a0,cb,a9,bY,ca,bV,bW,yaq,yar,yao,yap,go_sem,byq,true_and,onR,ae,aE,vv,vc,List.set_cons_succ,List.set_cons_zero,bR,bj,iT,hb,h0,b0,h1,b1,h2,b2,h3,b3,h4,b4,hc5,bc5,b5,hc6,bc6,b6,hc7,bc7,b7,hc8,bc8,b8,hc9,bc9,b9,hd7,e57,hy70,by70,hy71,by71,ybb,az]
  refine ⟨⟨by omega,by omega,fun z hz=>by rw [List.mem_singleton] at hz;subst hz;rfl⟩,(n7,(my71,ly71,ey71),us7++[(⟨vy70,vy71⟩:SStage)]),⟨by simp only [List.length_append,yaz,yba];omega,by rw [← hb7];simp [List.append_assoc],by71,hmy71⟩,by dsimp only;omega,?_⟩
  refine ⟨by (try simp only [zky,zkz]);omega,?_,hcl7 _ _ hmy71,?_,?_⟩
  ·simp only [List.map_append,yae,yaf,az,inL,boL,List.length_append,yaz,yba,yal,yak]
   repeat first|exact .refl _|refine .push ?_ _
  ·simp [ltF,zmz,znh,zky,zkz]
   try omega
  ·simp [bf,wk2,wk1,wkM,Fr.get]
 have hn0:n7=0:=by simp at hc;omega
 subst hn0
 simp only [goX,yaj,Prod.mk.injEq] at hb7
 obtain ⟨z1,z2,z3,z4⟩:=hb7
 replace z1:=z1.symm
 replace z2:=z2.symm
 replace z3:=z3.symm
 replace z4:=z4.symm
 subst z1 z2 z3 z4
 simp only [cm,cl,bhq,Nat.reduceMod,Nat.reduceDiv,aY,aZ,a0,cb,a9,bY,ca,bV,bW,yaq,yar,yao,yap,go_sem,byq,true_and,onR,ae,aE,vv,vc,List.set_cons_succ,List.set_cons_zero,bR,bj,iT,hb,h0,b0,h1,b1,h2,b2,h3,b3,h4,b4,hc5,bc5,b5,hc6,bc6,b6,hc7,bc7,b7,hc8,bc8,b8,hc9,bc9,b9,ybb]
 refine ey 5 6 6 (cs:=[.slice (.own (H.nx+1+1+1+1)) 3 (v2.map ar),.slice (.own (H.nx+1+1+1+1+1)) 3 (v3.map aj),.slice (.own (H.nx+1+1+1+1+1+1)) 5 (v4.map ak),.slice (.own (H.nx+1+1+1+1+1+1+1)) 5 (v5.map (ah)),.slice (.own (H.nx+1+1+1+1+1+1+1+1)) 8 (v6.map (aq)),.slice (.own (H.nx+1+1+1+1+1+1+1+1+1)) 2 (v7.map (az)),.slice .nil 1 [],.slice .nil 1 [],.int .i64 v0,.int .i64 v1]) rfl (by simp only [go_sem]) rfl ?_
 simp only [cm,cl,bhq,Nat.reduceMod,Nat.reduceDiv,aY,aZ,a0,cb,a9,bY,ca,bV,bW,yaq,yar,yao,yap,go_sem,byq,true_and,onR,ae,aE,vv,vc,List.set_cons_succ,List.set_cons_zero,bR,bj,iT,hb,h0,b0,h1,b1,h2,b2,h3,b3,h4,b4,hc5,bc5,b5,hc6,bc6,b6,hc7,bc7,b7,hc8,bc8,b8,hc9,bc9,b9,ybb]
 have hcl8:∀ (s:RS) (us:List SRole),cw .any s.1→(((((((((((H.push (.cells [.slice .nil 1 [],.slice .nil 1 [],.slice .nil 1 [],.slice .nil 1 [],.slice .nil 1 [],.slice .nil 1 [],.slice .nil 1 [],.slice .nil 1 [],.int .i64 0,.int .i64 0])).push (.buf 1 b.length)).push (.cells [.slice s.1 1 (bys s.2.1),.int .i64 s.2.2])).push (.cells [.slice (.own (H.nx+1+1+1+1)) 3 (v2.map ar),.slice (.own (H.nx+1+1+1+1+1)) 3 (v3.map aj),.slice (.own (H.nx+1+1+1+1+1+1)) 5 (v4.map ak),.slice (.own (H.nx+1+1+1+1+1+1+1)) 5 (v5.map (ah)),.slice (.own (H.nx+1+1+1+1+1+1+1+1)) 8 (v6.map (aq)),.slice (.own (H.nx+1+1+1+1+1+1+1+1+1)) 2 (v7.map (az)),.slice (.own (H.nx+1+1+1+1+1+1+1+1+1+1)) 6 (us.map (aJ)),.slice .nil 1 [],.int .i64 v0,.int .i64 v1])).push (.buf 3 v2.length)).push (.buf 3 v3.length)).push (.buf 5 v4.length)).push (.buf 5 v5.length)).push (.buf 8 v6.length)).push (.buf 2 v7.length)).push (.buf 6 us.length)).Closed:=fun s us hs=>by
  have h0:(((((((((((H.push (.cells [.slice .nil 1 [],.slice .nil 1 [],.slice .nil 1 [],.slice .nil 1 [],.slice .nil 1 [],.slice .nil 1 [],.slice .nil 1 [],.slice .nil 1 [],.int .i64 0,.int .i64 0])).push (.buf 1 b.length)).push (.cells [.slice s.1 1 (bys s.2.1),.int .i64 s.2.2])).push (.cells [])).push (.buf 3 v2.length)).push (.buf 3 v3.length)).push (.buf 5 v4.length)).push (.buf 5 v5.length)).push (.buf 8 v6.length)).push (.buf 2 v7.length)).push (.buf 6 us.length)).Closed:=by
   repeat' (first|exact kh hH0 hs|refine aP ?_|refine ag ?_ ?_)
   all_goals first|trivial|simp [aH,zno,znp,zmz,zna,znb,zmj]
  have h0:=bS (i:=H.nx+1+1+1) (cs:=[.slice (.own (H.nx+1+1+1+1)) 3 (v2.map ar),.slice (.own (H.nx+1+1+1+1+1)) 3 (v3.map aj),.slice (.own (H.nx+1+1+1+1+1+1)) 5 (v4.map ak),.slice (.own (H.nx+1+1+1+1+1+1+1)) 5 (v5.map (ah)),.slice (.own (H.nx+1+1+1+1+1+1+1+1)) 8 (v6.map (aq)),.slice (.own (H.nx+1+1+1+1+1+1+1+1+1)) 2 (v7.map (az)),.slice (.own (H.nx+1+1+1+1+1+1+1+1+1+1)) 6 (us.map (aJ)),.slice .nil 1 [],.int .i64 v0,.int .i64 v1]) h0 (by
   simp [zno,znp,zmz,zna,znb,zky,zkz,aH,gk,fX,fV,gb,gg,ga,gh,f4,fZ,f7,gd,fU,fY,gp,f9,gf]
   try omega)
  simp only [go_sem] at h0
  exact h0
 refine aA (A:=Nat × RS × List SRole) (fun x=>[(2,.ptr H.nx 0),(4,.ptr (H.nx+1+1) 0),(5,.ptr (H.nx+1+1+1) 0),(10,.int .i64 (x.1:Int))]) (fun x=>((((((((((H.push (.cells [.slice .nil 1 [],.slice .nil 1 [],.slice .nil 1 [],.slice .nil 1 [],.slice .nil 1 [],.slice .nil 1 [],.slice .nil 1 [],.slice .nil 1 [],.int .i64 0,.int .i64 0])).push (.buf 1 b.length)).push (.cells [.slice x.2.1.1 1 (bys x.2.1.2.1),.int .i64 x.2.1.2.2])).push (.cells [.slice (.own (H.nx+1+1+1+1)) 3 (v2.map ar),.slice (.own (H.nx+1+1+1+1+1)) 3 (v3.map aj),.slice (.own (H.nx+1+1+1+1+1+1)) 5 (v4.map ak),.slice (.own (H.nx+1+1+1+1+1+1+1)) 5 (v5.map (ah)),.slice (.own (H.nx+1+1+1+1+1+1+1+1)) 8 (v6.map (aq)),.slice (.own (H.nx+1+1+1+1+1+1+1+1+1)) 2 (v7.map (az)),.slice (.own (H.nx+1+1+1+1+1+1+1+1+1+1)) 6 (x.2.2.map (aJ)),.slice .nil 1 [],.int .i64 v0,.int .i64 v1])).push (.buf 3 v2.length)).push (.buf 3 v3.length)).push (.buf 5 v4.length)).push (.buf 5 v5.length)).push (.buf 8 v6.length)).push (.buf 2 v7.length)).push (.buf 6 x.2.2.length)) (fun x=>x.2.2.length+x.1≤65535∧(x.2.2++(goX (dK LX) x.1 x.2.1).1,(goX (dK LX) x.1 x.2.1).2)=(v8,m8,l8,e8)∧x.2.1.2.1.length≤100000∧cw .any x.2.1.1) (fun x=>x.1) (k8,(mc8,lc8,ec8),[]) ⟨by simp;omega,by rw [← hU8];rfl,bc8,hmc8⟩ ?_ fun x hx=>?_
 ·refine ⟨by (try simp only [zkk,zkp,zky,zkz]);omega,by repeat first|exact .refl _|refine .push ?_ _,hcl8 _ _ hmc8,?_,?_⟩
  ·simp [ltF,zmz,znh,zky,zkz]
   try omega
  ·simp [bf,wk2,wk1,wkM,Fr.get]
 obtain ⟨n8,⟨mx8,lx8,ex8⟩,us8⟩:=x
 obtain ⟨ha8,hb8,hd8,he8⟩:=hx
 dsimp only at ha8 hb8 hd8 he8 ⊢
 simp only [go_sem]
 refine ai (fun hc=>?_) (fun hc=>?_)
 ·obtain ⟨n8,rfl⟩:∃ m,n8=m+1:=⟨n8 - 1,by simp at hc;omega⟩
  have e58:IntKind.i64.wrap (((n8+1:Nat):Int) - 1)=((n8:Nat):Int):=by rw [wrap_i64]<;>omega
  have hge:goX (dK LX) (n8+1) (mx8,lx8,ex8)=(((dK LX) (mx8,lx8,ex8)).1::(goX (dK LX) n8 ((dK LX) (mx8,lx8,ex8)).2).1,(goX (dK LX) n8 ((dK LX) (mx8,lx8,ex8)).2).2):=rfl
  rw [hge] at hb8
  clear hge
  obtain ⟨E8,hE8⟩:∃ E,(dK LX) (mx8,lx8,ex8)=E:=⟨_,rfl⟩
  rw [hE8] at hb8
  have hl_:=(fy LX_go).l (mx8,lx8,ex8)
  have hm_:=(fy LX_go).m (mx8,lx8,ex8)
  rw [hE8] at hl_ hm_
  obtain ⟨vy80,my80,ly80,ey80⟩:=E8
  dsimp only at hl_ hm_
  replace hm_:=aC he8 hm_
  have by80:ly80.length≤100000:=by omega
  simp only [cm,cl,bhq,Nat.reduceMod,Nat.reduceDiv,aY,aZ,a0,cb,a9,bY,ca,bV,bW,yaq,yar,yao,yap,go_sem,byq,true_and,onR,ae,aE,vv,vc,List.set_cons_succ,List.set_cons_zero,bR,bj,iT,yr,hb,h0,b0,h1,b1,h2,b2,h3,b3,h4,b4,hc5,bc5,b5,hc6,bc6,b6,hc7,bc7,b7,hc8,bc8,b8,hc9,bc9,b9,hd8,e58,hE8,by80,ybb,aJ]
  refine ⟨⟨by omega,by omega,fun z hz=>by rw [List.mem_singleton] at hz;subst hz;rfl⟩,(n8,(my80,ly80,ey80),us8++[vy80]),⟨by simp only [List.length_append,yaz,yba];omega,by rw [← hb8];simp [List.append_assoc],by80,hm_⟩,by dsimp only;omega,?_⟩
  refine ⟨by (try simp only [zky,zkz]);omega,?_,hcl8 _ _ hm_,?_,?_⟩
  ·simp only [List.map_append,yae,yaf,aJ,inL,boL,List.length_append,yaz,yba,yal,yak]
   repeat first|exact .refl _|refine .push ?_ _
  ·simp [ltF,zmz,znh,zky,zkz]
   try omega
  ·simp [bf,wk2,wk1,wkM,Fr.get]
 have hn0:n8=0:=by simp at hc;omega
 subst hn0
 simp only [goX,yaj,Prod.mk.injEq] at hb8
 obtain ⟨z1,z2,z3,z4⟩:=hb8
 replace z1:=z1.symm
 replace z2:=z2.symm
 replace z3:=z3.symm
 replace z4:=z4.symm
 subst z1 z2 z3 z4
 simp only [cm,cl,bhq,Nat.reduceMod,Nat.reduceDiv,aY,aZ,a0,cb,a9,bY,ca,bV,bW,yaq,yar,yao,yap,go_sem,byq,true_and,onR,ae,aE,vv,vc,List.set_cons_succ,List.set_cons_zero,bR,bj,iT,hb,h0,b0,h1,b1,h2,b2,h3,b3,h4,b4,hc5,bc5,b5,hc6,bc6,b6,hc7,bc7,b7,hc8,bc8,b8,hc9,bc9,b9,ybb]
 refine ey 5 7 6 (cs:=[.slice (.own (H.nx+1+1+1+1)) 3 (v2.map ar),.slice (.own (H.nx+1+1+1+1+1)) 3 (v3.map aj),.slice (.own (H.nx+1+1+1+1+1+1)) 5 (v4.map ak),.slice (.own (H.nx+1+1+1+1+1+1+1)) 5 (v5.map (ah)),.slice (.own (H.nx+1+1+1+1+1+1+1+1)) 8 (v6.map (aq)),.slice (.own (H.nx+1+1+1+1+1+1+1+1+1)) 2 (v7.map (az)),.slice (.own (H.nx+1+1+1+1+1+1+1+1+1+1)) 6 (v8.map (aJ)),.slice .nil 1 [],.int .i64 v0,.int .i64 v1]) rfl (by simp only [go_sem]) rfl ?_
 simp only [cm,cl,bhq,Nat.reduceMod,Nat.reduceDiv,aY,aZ,a0,cb,a9,bY,ca,bV,bW,yaq,yar,yao,yap,go_sem,byq,true_and,onR,ae,aE,vv,vc,List.set_cons_succ,List.set_cons_zero,bR,bj,iT,hb,h0,b0,h1,b1,h2,b2,h3,b3,h4,b4,hc5,bc5,b5,hc6,bc6,b6,hc7,bc7,b7,hc8,bc8,b8,hc9,bc9,b9,ybb]
 have hcl9:∀ (s:RS) (us:List SRef),cw .any s.1→((((((((((((H.push (.cells [.slice .nil 1 [],.slice .nil 1 [],.slice .nil 1 [],.slice .nil 1 [],.slice .nil 1 [],.slice .nil 1 [],.slice .nil 1 [],.slice .nil 1 [],.int .i64 0,.int .i64 0])).push (.buf 1 b.length)).push (.cells [.slice s.1 1 (bys s.2.1),.int .i64 s.2.2])).push (.cells [.slice (.own (H.nx+1+1+1+1)) 3 (v2.map ar),.slice (.own (H.nx+1+1+1+1+1)) 3 (v3.map aj),.slice (.own (H.nx+1+1+1+1+1+1)) 5 (v4.map ak),.slice (.own (H.nx+1+1+1+1+1+1+1)) 5 (v5.map (ah)),.slice (.own (H.nx+1+1+1+1+1+1+1+1)) 8 (v6.map (aq)),.slice (.own (H.nx+1+1+1+1+1+1+1+1+1)) 2 (v7.map (az)),.slice (.own (H.nx+1+1+1+1+1+1+1+1+1+1)) 6 (v8.map (aJ)),.slice (.own (H.nx+1+1+1+1+1+1+1+1+1+1+1)) 6 (us.map (aR)),.int .i64 v0,.int .i64 v1])).push (.buf 3 v2.length)).push (.buf 3 v3.length)).push (.buf 5 v4.length)).push (.buf 5 v5.length)).push (.buf 8 v6.length)).push (.buf 2 v7.length)).push (.buf 6 v8.length)).push (.buf 6 us.length)).Closed:=fun s us hs=>by
  have h0:((((((((((((H.push (.cells [.slice .nil 1 [],.slice .nil 1 [],.slice .nil 1 [],.slice .nil 1 [],.slice .nil 1 [],.slice .nil 1 [],.slice .nil 1 [],.slice .nil 1 [],.int .i64 0,.int .i64 0])).push (.buf 1 b.length)).push (.cells [.slice s.1 1 (bys s.2.1),.int .i64 s.2.2])).push (.cells [])).push (.buf 3 v2.length)).push (.buf 3 v3.length)).push (.buf 5 v4.length)).push (.buf 5 v5.length)).push (.buf 8 v6.length)).push (.buf 2 v7.length)).push (.buf 6 v8.length)).push (.buf 6 us.length)).Closed:=by
   repeat' (first|exact kh hH0 hs|refine aP ?_|refine ag ?_ ?_)
   all_goals first|trivial|simp [aH,zno,znp,zmz,zna,znb,zmj]
  have h0:=bS (i:=H.nx+1+1+1) (cs:=[.slice (.own (H.nx+1+1+1+1)) 3 (v2.map ar),.slice (.own (H.nx+1+1+1+1+1)) 3 (v3.map aj),.slice (.own (H.nx+1+1+1+1+1+1)) 5 (v4.map ak),.slice (.own (H.nx+1+1+1+1+1+1+1)) 5 (v5.map (ah)),.slice (.own (H.nx+1+1+1+1+1+1+1+1)) 8 (v6.map (aq)),.slice (.own (H.nx+1+1+1+1+1+1+1+1+1)) 2 (v7.map (az)),.slice (.own (H.nx+1+1+1+1+1+1+1+1+1+1)) 6 (v8.map (aJ)),.slice (.own (H.nx+1+1+1+1+1+1+1+1+1+1+1)) 6 (us.map (aR)),.int .i64 v0,.int .i64 v1]) h0 (by
   simp [zno,znp,zmz,zna,znb,zky,zkz,aH,gk,fX,fV,gb,gg,ga,gh,f4,fZ,f7,gd,fU,fY,gp,f9,gf]
   try omega)
  simp only [go_sem] at h0
  exact h0
 refine aA (A:=Nat × RS × List SRef) (fun x=>[(2,.ptr H.nx 0),(4,.ptr (H.nx+1+1) 0),(5,.ptr (H.nx+1+1+1) 0),(11,.int .i64 (x.1:Int))]) (fun x=>(((((((((((H.push (.cells [.slice .nil 1 [],.slice .nil 1 [],.slice .nil 1 [],.slice .nil 1 [],.slice .nil 1 [],.slice .nil 1 [],.slice .nil 1 [],.slice .nil 1 [],.int .i64 0,.int .i64 0])).push (.buf 1 b.length)).push (.cells [.slice x.2.1.1 1 (bys x.2.1.2.1),.int .i64 x.2.1.2.2])).push (.cells [.slice (.own (H.nx+1+1+1+1)) 3 (v2.map ar),.slice (.own (H.nx+1+1+1+1+1)) 3 (v3.map aj),.slice (.own (H.nx+1+1+1+1+1+1)) 5 (v4.map ak),.slice (.own (H.nx+1+1+1+1+1+1+1)) 5 (v5.map (ah)),.slice (.own (H.nx+1+1+1+1+1+1+1+1)) 8 (v6.map (aq)),.slice (.own (H.nx+1+1+1+1+1+1+1+1+1)) 2 (v7.map (az)),.slice (.own (H.nx+1+1+1+1+1+1+1+1+1+1)) 6 (v8.map (aJ)),.slice (.own (H.nx+1+1+1+1+1+1+1+1+1+1+1)) 6 (x.2.2.map (aR)),.int .i64 v0,.int .i64 v1])).push (.buf 3 v2.length)).push (.buf 3 v3.length)).push (.buf 5 v4.length)).push (.buf 5 v5.length)).push (.buf 8 v6.length)).push (.buf 2 v7.length)).push (.buf 6 v8.length)).push (.buf 6 x.2.2.length)) (fun x=>x.2.2.length+x.1≤65535∧(x.2.2++(goX eR x.1 x.2.1).1,(goX eR x.1 x.2.1).2)=(v9,m9,l9,e9)∧x.2.1.2.1.length≤100000∧cw .any x.2.1.1) (fun x=>x.1) (k9,(mc9,lc9,ec9),[]) ⟨by simp;omega,by rw [← hU9];rfl,bc9,hmc9⟩ ?_ fun x hx=>?_
 ·refine ⟨by (try simp only [zkk,zkp,zky,zkz]);omega,by repeat first|exact .refl _|refine .push ?_ _,hcl9 _ _ hmc9,?_,?_⟩
  ·simp [ltF,zmz,znh,zky,zkz]
   try omega
  ·simp [bf,wk2,wk1,wkM,Fr.get]
 obtain ⟨n9,⟨mx9,lx9,ex9⟩,us9⟩:=x
 obtain ⟨ha9,hb9,hd9,he9⟩:=hx
 dsimp only at ha9 hb9 hd9 he9 ⊢
 simp only [go_sem]
 refine ai (fun hc=>?_) (fun hc=>?_)
 ·obtain ⟨n9,rfl⟩:∃ m,n9=m+1:=⟨n9 - 1,by simp at hc;omega⟩
  have e59:IntKind.i64.wrap (((n9+1:Nat):Int) - 1)=((n9:Nat):Int):=by rw [wrap_i64]<;>omega
  have hge:goX eR (n9+1) (mx9,lx9,ex9)=((eR (mx9,lx9,ex9)).1::(goX eR n9 (eR (mx9,lx9,ex9)).2).1,(goX eR n9 (eR (mx9,lx9,ex9)).2).2):=rfl
  rw [hge] at hb9
  clear hge
  obtain ⟨E9,hE9⟩:∃ E,eR (mx9,lx9,ex9)=E:=⟨_,rfl⟩
  rw [hE9] at hb9
  unfold eR at hE9
  try dsimp only [rap,cZ,rU,rT,rV,rB,kv] at hE9
  have hly90:=bm mx9 lx9 ex9 2
  have hmy90:=bn mx9 lx9 ex9 2
  generalize hy90:bB (mx9,lx9,ex9) 2=qy90 at *
  obtain ⟨vy90,my90,ly90,ey90⟩:=qy90
  dsimp only [rU,rV,rB] at hE9 hly90 hmy90
  replace hmy90:=aC he9 hmy90
  have by90:ly90.length≤100000:=by omega
  have hly91:=bm my90 ly90 ey90 1
  have hmy91:=bn my90 ly90 ey90 1
  generalize hy91:bB (my90,ly90,ey90) 1=qy91 at *
  obtain ⟨vy91,my91,ly91,ey91⟩:=qy91
  dsimp only [rU,rV,rB] at hE9 hly91 hmy91
  replace hmy91:=aC hmy90 hmy91
  have by91:ly91.length≤100000:=by omega
  have hly92:=bm my91 ly91 ey91 2
  have hmy92:=bn my91 ly91 ey91 2
  generalize hy92:bB (my91,ly91,ey91) 2=qy92 at *
  obtain ⟨vy92,my92,ly92,ey92⟩:=qy92
  dsimp only [rU,rV,rB] at hE9 hly92 hmy92
  replace hmy92:=aC hmy91 hmy92
  have by92:ly92.length≤100000:=by omega
  have hly93:=bm my92 ly92 ey92 1
  have hmy93:=bn my92 ly92 ey92 1
  generalize hy93:bB (my92,ly92,ey92) 1=qy93 at *
  obtain ⟨vy93,my93,ly93,ey93⟩:=qy93
  dsimp only [rU,rV,rB] at hE9 hly93 hmy93
  replace hmy93:=aC hmy92 hmy93
  have by93:ly93.length≤100000:=by omega
  have hly94:=bm my93 ly93 ey93 2
  have hmy94:=bn my93 ly93 ey93 2
  generalize hy94:bB (my93,ly93,ey93) 2=qy94 at *
  obtain ⟨vy94,my94,ly94,ey94⟩:=qy94
  dsimp only [rU,rV,rB] at hE9 hly94 hmy94
  replace hmy94:=aC hmy93 hmy94
  have by94:ly94.length≤100000:=by omega
  have hly95:=bm my94 ly94 ey94 1
  have hmy95:=bn my94 ly94 ey94 1
  generalize hy95:bB (my94,ly94,ey94) 1=qy95 at *
  obtain ⟨vy95,my95,ly95,ey95⟩:=qy95
  dsimp only [rU,rV,rB] at hE9 hly95 hmy95
  replace hmy95:=aC hmy94 hmy95
  have by95:ly95.length≤100000:=by omega
  subst hE9
  dsimp only at hb9
  simp only [cm,cl,bhq,Nat.reduceMod,Nat.reduceDiv,aY,aZ,a0,cb,a9,bY,ca,bV,bW,yaq,yar,yao,yap,go_sem,byq,true_and,onR,ae,aE,vv,vc,List.set_cons_succ,List.set_cons_zero,bR,bj,iT,hb,h0,b0,h1,b1,h2,b2,h3,b3,h4,b4,hc5,bc5,b5,hc6,bc6,b6,hc7,bc7,b7,hc8,bc8,b8,hc9,bc9,b9,hd9,e59,hy90,by90,hy91,by91,hy92,by92,hy93,by93,hy94,by94,hy95,by95,ybb,aR]
  refine ⟨⟨by omega,by omega,fun z hz=>by rw [List.mem_singleton] at hz;subst hz;rfl⟩,(n9,(my95,ly95,ey95),us9++[(⟨vy90,vy91,vy92,vy93,vy94,vy95⟩:SRef)]),⟨by simp only [List.length_append,yaz,yba];omega,by rw [← hb9];simp [List.append_assoc],by95,hmy95⟩,by dsimp only;omega,?_⟩
  refine ⟨by (try simp only [zky,zkz]);omega,?_,hcl9 _ _ hmy95,?_,?_⟩
  ·simp only [List.map_append,yae,yaf,aR,inL,boL,List.length_append,yaz,yba,yal,yak]
   repeat first|exact .refl _|refine .push ?_ _
  ·simp [ltF,zmz,znh,zky,zkz]
   try omega
  ·simp [bf,wk2,wk1,wkM,Fr.get]
 have hn0:n9=0:=by simp at hc;omega
 subst hn0
 simp only [goX,yaj,Prod.mk.injEq] at hb9
 obtain ⟨z1,z2,z3,z4⟩:=hb9
 replace z1:=z1.symm
 replace z2:=z2.symm
 replace z3:=z3.symm
 replace z4:=z4.symm
 subst z1 z2 z3 z4
 simp only [cm,cl,bhq,Nat.reduceMod,Nat.reduceDiv,aY,aZ,a0,cb,a9,bY,ca,bV,bW,yaq,yar,yao,yap,go_sem,byq,true_and,onR,ae,aE,vv,vc,List.set_cons_succ,List.set_cons_zero,bR,bj,iT,hb,h0,b0,h1,b1,h2,b2,h3,b3,h4,b4,hc5,bc5,b5,hc6,bc6,b6,hc7,bc7,b7,hc8,bc8,b8,hc9,bc9,b9,ybb]
 simp only [cm,cl,bhq,Nat.reduceMod,Nat.reduceDiv,aY,aZ,a0,cb,a9,bY,ca,bV,bW,yaq,yar,yao,yap,go_sem,byq,true_and,onR,ae,aE,vv,vc,List.set_cons_succ,List.set_cons_zero,bR,bj,iT,hb,h0,b0,h1,b1,h2,b2,h3,b3,h4,b4,hc5,bc5,b5,hc6,bc6,b6,hc7,bc7,b7,hc8,bc8,b8,hc9,bc9,b9,ybb,kn,hF',d1]
 refine ai (fun hf=>?_) (fun hf=>?_)
 ·have hf':F≠0:=by simpa using hf
  rw [if_pos hf'] at hD
  subst hD
  simp only [bhq,Nat.reduceMod,Nat.reduceDiv,aY,aZ,a0,cb,a9,bY,ca,bV,bW,yaq,yar,yao,yap,go_sem]
  refine ⟨?_,by repeat first|exact .refl _|refine .push ?_ _,hcl,pE _ _⟩
  simp [wk,aG,wk2,wkL,wk1,wkM,cN,bL,wz]
 ·have hf':F=0:=by simpa using hf
  rw [if_neg (by rw [hf'];decide)] at hD
  subst hD
  simp only [bhq,Nat.reduceMod,Nat.reduceDiv,aY,aZ,a0,cb,a9,bY,ca,bV,bW,yaq,yar,yao,yap,go_sem]
  refine ⟨?_,by repeat first|exact .refl _|refine .push ?_ _,hcl,pE _ _⟩
  simp [wk,aG,wk2,wkL,wk1,wkM,cN,bL]
end Go.AL
