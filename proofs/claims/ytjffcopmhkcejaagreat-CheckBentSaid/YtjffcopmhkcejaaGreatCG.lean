/- Lemmas of the proof; no condition. -/
import Derived.Test.YtjffcopmhkcejaaGreatLVal
import Derived.Test.YtjffcopmhkcejaaGreatAlBun
import Derived.Test.YtjffcopmhkcejaaGreatLSyn
set_option linter.all false
set_option maxRecDepth 10000
open Go Go.AL Go.Proofs
namespace Go.AL
def J7:tSl Tryz.prog 22 5:=kSl
theorem RZ:ti Tryz.prog 3=some ⟨.int .i64,1,8,.int .i64 0⟩:=krf
theorem Nt:ti Tryz.prog 85=some ⟨.int .u64,1,8,.int .u64 0⟩:=krf
theorem TT:ti Tryz.prog 5=some ⟨.int .u8,1,1,.int .u8 0⟩:=krf
theorem Oo:ti Tryz.prog 4=some ⟨.bool,1,1,.bool false⟩:=krf
theorem GN:ti Tryz.prog 9=some ⟨.string,1,16,.str []⟩:=krf
attribute [go_sem] J7 RZ Nt TT Oo GN
def oU:PCt
 |[.slice _ 1 l1,.slice _ 1 l2],_,K=>(isB l1∧isB l2∧l1.length+l2.length≤140737488355328)∧K (.slice .any 1 (bys (unb l1++unb l2)))
 |_,_,_=>False
def qQ:EPp 280 oU:=by
 refine Ype fun _ H K h=>?_
 unfold oU at h
 split at h<;>try exact h.elim
 rename_i m1 l1 m2 l2
 obtain⟨⟨c1,c2,hle⟩,hK⟩:=h
 refine⟨_,hK,?_⟩
 obtain⟨xs,rfl⟩:=iW c1
 obtain⟨ys,rfl⟩:=iW c2
 simp only[zlx]
 rw[zli,zli]at hle
 refine ACalls.of_aw (Ω:=[]) (T:=aC []) aD tNq Tryz.func280 Xj (by rfl) (rs:=[.tmp 4]) (by rfl) Xj (by simp only[Tryz.ntmps280,yaz,yba];decide) (nrq _) fun hcl hlt=>?_
 clear hK hlt
 change aw _ _ _ (KI Tryz.prog [] (sQ Tryz.prog [.tmp 4] H.nx (.ret (.slice .any 1 (bys (xs++ys)))) H) []) _ _
 have hw:IntKind.i64.wrap (↑xs.length+↑ys.length)=((xs.length+ys.length:Nat):Int):=Xe
 have e2:(↑(xs.length+ys.length) - ↑xs.length:Int).toNat=ys.length:=Xa
 simp only[go_sem,zav,byq,hw,e2]
 simp (disch:=first|exact Zd|omega) [↓zmm,beq,ybc,ybd,ybe,ag,wk,wk2,wk1,wkM,wkL,ay,ybf,byq,hcl]
 omega
def zB(n:Int)(j:Nat):UInt8:=UInt8.ofNat (fI .i64 n (8*(j:Int))%256).toNat
def ou(n:Int)(w k:Nat):By:=(List.range (w-k)).map fun i=>zB n (w-1-i)
def be(n:Int)(w:Nat):By:=ou n w 0
def wK(n:Int)(w:Nat):ou n w w=[]:=by simp[ou]
def sc(n:Int)(w k:Nat):(ou n w k).length=w-k:=by simp[ou]
def uw(n:Int)(w j:Nat)(h:j+1≤w):ou n w (j+1)++[zB n j]=ou n w j:=by
 unfold ou
 have e:w-j=(w-(j+1))+1:=Xa
 rw[e,List.range_succ,List.map_append]
 congr 2
 simp only[yae,yaf]
 congr 2;omega
def sU:ECt
 |[.int .i64 n,.int .i64 w],H,K=>(0≤w∧w≤8)∧K (.ret (.slice (.own (H.nx+1)) 1 (bys (be n w.toNat)))) ((H.push (.buf 1 0)).push (.buf 1 w.toNat))
 |_,_,_=>False
def yr:EEe 281 sU:=by
 refine Yef fun _ H K h=>?_
 unfold sU at h
 split at h<;>try exact h.elim
 rename_i n w
 obtain⟨hw,hK⟩:=h
 refine⟨_,_,hK,?_⟩
 refine ACalls.of_aw (Ω:=[]) (T:=aC []) aD tNq Tryz.func281 Xj (by rfl) (rs:=[.tmp 4]) (by rfl) Xj (by simp only[Tryz.ntmps281,yaz,yba];decide) (by simp only[zlc];omega) fun hcl hlt=>?_
 clear hK hlt
 change aw _ _ _ (KI Tryz.prog [] (sQ Tryz.prog [.tmp 4] H.nx _ _) []) _ _
 simp only[go_sem,zav,byq]
 refine jr (A:=Nat) (fun k=>[(6,.int .i64 ((k:Int)-1)),(5,.slice (.own (H.nx+1)) 1 (bys (ou n w.toNat k))),(0,.int .i64 n)])
  (fun k=>(H.push (.buf 1 0)).push (.buf 1 (w.toNat-k))) (fun k=>k≤w.toNat) (fun k=>k) w.toNat (nrq _) ?_ fun k hk=>?_
 ·have ew:IntKind.i64.wrap (w-1)=w-1:=Xe
  simp only[bnq,enter,my,ltF,ne_eq,Nat.reduceEqDiff,reduceCtorEq,wK,zlj,ew,Nat.sub_self,true_or,and_true]
  congr 1;omega
 refine Tq63 ?_
 refine ax (fun hc=>?_) (fun hc=>?_)
 ·have hk0:1≤k:=sHc
  obtain⟨j,rfl⟩:∃ j,k=j+1:=⟨k-1,Xa⟩
  have e1:IntKind.i64.wrap (8*(((j+1:Nat):Int)-1))=8*j:=Xe
  have e3:IntKind.u64.wrap (8*(j:Int))=8*j:=Xt
  have e4:IntKind.i64.wrap (((j+1:Nat):Int)-1-1)=(j:Int)-1:=Xe
  simp only[go_sem,byq,e1,e3,e4,zF,sc]
  have e5:=uw n w.toNat j hk
  unfold zB at e5
  refine⟨Xa,⟨Xa,Xa⟩,j,Xa,Xa,?_⟩
  simp only[bnq,enter,my,ltF,ne_eq,Nat.reduceEqDiff,reduceCtorEq,e5]
  rw[show w.toNat-(j+1)+1=w.toNat-j by omega]
  simp (disch:=first|exact Zd|omega) [↓zmm,beq,ybc,ybd,ybe,ag,wk,wk2,wk1,wkM,wkL,ay,ybf]
  exact .inr Xa
 ·have hk0:k=0:=sHc
  subst hk0
  refine Tq63 ?_
  simp (disch:=first|exact Zd|omega) [↓zmm,beq,ybc,ybd,ybe,ag,wk,wk2,wk1,wkM,wkL,ay,ybf,byq,be]
def jl(n w:Int):By:=if 1≤w∧w≤4 then be n w.toNat else []
def n6(n:Int)(w:Nat):(be n w).length=w:=by simp[be,sc]
def bv:PCt
 |[.slice _ 1 l,.int .i64 n,.int .i64 w],_,K=>(isB l∧l.length≤140737488355000)∧K (.slice .any 1 (bys (unb l++jl n w)))
 |_,_,_=>False
def dr:EPp 179 bv:=by
 refine Ype fun _ H K h=>?_
 unfold bv at h
 split at h<;>try exact h.elim
 rename_i m l n w
 obtain⟨⟨c1,hle⟩,hK⟩:=h
 refine⟨_,hK,?_⟩
 obtain⟨xs,rfl⟩:=iW c1
 simp only[zlx]
 rw[zli]at hle
 refine Yfv aD (tCq yr (tCq qQ tNq)) Tryz.func179 [.tmp 6] fun hcl hlt=>?_
 clear hK hlt
 simp only[go_sem,zav,byq,oU,sU]
 refine eZ (fun h1=>?_) (fun h1=>eZ (fun h2=>?_) (fun h2=>?_))
 all_goals simp only[decide_eq_true_eq,decide_eq_false_iff_not]at *
 ·exact Y98
 ·exact Y98
 ·have e:jl n w=be n w.toNat:=by unfold jl;rw[if_pos (by omega)]
  simp (disch:=first|exact Zd|omega) [↓zmm,beq,ybc,ybd,ybe,ag,wk,wk2,wk1,wkM,wkL,ay,ybf,byq,e,n6,hcl]
  omega
def pu:PCt
 |[.slice _ 1 l,.bool b],_,K=>(isB l∧l.length≤140737488355000)∧K (.slice .any 1 (bys (unb l++[if b then 1 else 0])))
 |_,_,_=>False
def xu:EPp 308 pu:=by
 refine Ype fun _ H K h=>?_
 unfold pu at h
 split at h<;>try exact h.elim
 rename_i m l b
 obtain⟨⟨c1,hle⟩,hK⟩:=h
 refine⟨_,hK,?_⟩
 obtain⟨xs,rfl⟩:=iW c1
 simp only[zlx]
 rw[zli]at hle
 refine Yfv aD (tCq qQ tNq) Tryz.func308 [.tmp 4] fun hcl hlt=>?_
 clear hK hlt
 have l1:AV.int .u8 1=bC 1:=rfl
 have l0:AV.int .u8 0=bC 0:=rfl
 simp only[go_sem,zav,byq,oU,l1,l0]
 exact Y95
def z8:ECt
 |[.slice (.own id) 1 l,.bool b],H,K=>(isB l∧l.length≤140737488355000∧H.get id=some (.buf 1 l.length)) ∧
   K (.ret (.slice (.own id) 1 (bys (unb l++[if b then 1 else 0])))) (H.set id (.buf 1 (l.length+1)))
 |_,_,_=>False
def J9:EEe 329 z8:=by
 refine Yef fun _ H K h=>?_
 unfold z8 at h
 split at h<;>try exact h.elim
 rename_i id l b
 obtain⟨⟨c1,hle,hid⟩,hK⟩:=h
 refine⟨_,_,hK,?_⟩
 obtain⟨xs,rfl⟩:=iW c1
 simp only[zlx,zli]at *
 have hl0:=glq hid
 have hne:=cS hl0
 refine Yfv aD tNq Tryz.func329 [.tmp 4] fun hcl hlt=>?_
 clear hK
 have l1:AV.int .u8 1=bC 1:=rfl
 have l0:AV.int .u8 0=bC 0:=rfl
 simp only[go_sem,zav,byq,l1,l0,hne,hid]
 exact Y95
def pb:ECt
 |[.slice (.own id) 1 l,.int .i64 n,.int .i64 w],H,K=>(isB l∧l.length≤140737488355000∧H.get id=some (.buf 1 l.length)) ∧
   K (.ret (.slice (.own id) 1 (bys (unb l++jl n w)))) (H.set id (.buf 1 (l.length+(jl n w).length)))
 |_,_,_=>False
def wA:EEe 271 pb:=by
 refine Yef fun _ H K h=>?_
 unfold pb at h
 split at h<;>try exact h.elim
 rename_i id l n w
 obtain⟨⟨c1,hle,hid⟩,hK⟩:=h
 refine⟨_,_,hK,?_⟩
 obtain⟨xs,rfl⟩:=iW c1
 simp only[zlx,zli]at *
 have hl0:=glq hid
 have hne:=cS hl0
 refine Yfv aD tNq Tryz.func271 [.tmp 6] fun hcl hlt=>?_
 clear hK
 simp only[go_sem,byq,hne,hid]
 have out:¬ (1≤w∧w≤4)→ag (H.push (.buf 1 0)) (.slice (.own id) 1 (bys xs)) (H.set id (.buf 1 (xs.length+(jl n w).length))) (.slice (.own id) 1 (bys (xs++jl n w))):=by
  intro hw
  have e:jl n w=[]:=by unfold jl;rw[if_neg hw]
  rw[e,yba,Nat.add_zero,fN hid]
  simp (disch:=first|exact Zd|omega) [↓zmm,beq,ybc,ybd,ybe,ag,wk,wk2,wk1,wkM,wkL,ay,ybf,byq,hcl]
  exact hl0
 refine eZ (fun h1=>?_) (fun h1=>?_)
 ·exact out (by simp at h1;omega)
 refine ax (fun h2=>?_) (fun h2=>?_)
 ·simp only[go_sem,zav,byq,hne,hid]
  exact out (by simp at h2;omega)
 simp only[decide_eq_true_eq,decide_eq_false_iff_not]at h1 h2
 simp only[go_sem,byq,hne,hid]
 refine jr (A:=Nat) (fun k=>[(7,.int .i64 ((k:Int)-1)),(0,.slice (.own id) 1 (bys (xs++ou n w.toNat k))),(1,.int .i64 n)])
  (fun k=>(H.set id (.buf 1 (xs.length+(w.toNat-k)))).push (.buf 1 0)) (fun k=>k≤w.toNat) (fun k=>k) w.toNat (nrq _) ?_ fun k hk=>?_
 ·have ew:IntKind.i64.wrap (w-1)=w-1:=Xe
  simp only[bnq,enter,my,ltF,ne_eq,Nat.reduceEqDiff,reduceCtorEq,wK,zlj,ew,Nat.sub_self,yaj,Nat.add_zero,fN hid,true_or,and_true]
  congr 1;omega
 have hlt2:∀ o,id<(H.set id o).nx:=fun o=>hl0
 simp only[go_sem,byq,hne]
 refine ax (fun hc=>?_) (fun hc=>?_)
 ·have hk0:1≤k:=sHc
  obtain⟨j,rfl⟩:∃ j,k=j+1:=⟨k-1,Xa⟩
  have e1:IntKind.i64.wrap (8*(((j+1:Nat):Int)-1))=8*j:=Xe
  have e3:IntKind.u64.wrap (8*(j:Int))=8*j:=Xt
  have e4:IntKind.i64.wrap (((j+1:Nat):Int)-1-1)=(j:Int)-1:=Xe
  simp only[go_sem,byq,e1,e3,e4,zF,sc,hne,aF,if_pos hl0,lAq,List.append_assoc]
  have e5:=uw n w.toNat j hk
  unfold zB at e5
  refine⟨Xa,⟨Xa,Xa⟩,j,Xa,Xa,?_⟩
  simp only[bnq,enter,my,ltF,ne_eq,Nat.reduceEqDiff,reduceCtorEq,e5]
  rw[show xs.length+(w.toNat-(j+1))+1=xs.length+(w.toNat-j) by omega]
  refine .inr ?_
  have hcs:(H.set id (.buf 1 (xs.length+(w.toNat-j)))).Closed:=bf hcl
  simp (disch:=first|exact Zd|omega) [↓zmm,beq,ybc,ybd,ybe,ag,wk,wk2,wk1,wkM,wkL,ay,ybf]
  omega
 ·have hk0:k=0:=sHc
  subst hk0
  refine Tq63 ?_
  have hcs:(H.set id (.buf 1 (xs.length+w.toNat))).Closed:=bf hcl
  have e:jl n w=be n w.toNat:=by unfold jl;rw[if_pos (by omega)]
  simp (disch:=first|exact Zd|omega) [↓zmm,beq,ybc,ybd,ybe,ag,wk,wk2,wk1,wkM,wkL,ay,ybf,byq,e,n6]
  exact⟨rfl,hl0⟩
def jT(bs:By):By:=be (min (bs.length:Int) 65535) 2++bs.take (min (bs.length:Int) 65535).toNat
def CQ(bs:By):(jT bs).length≤65537:=by
 unfold jT
 rw[lAq,n6,List.length_take]
 omega
def ol:PCt
 |[.slice _ 1 l,.slice _ 1 l2],_,K=>(isB l∧isB l2∧l.length≤140737488000000)∧K (.slice .any 1 (bys (unb l++jT (unb l2))))
 |_,_,_=>False
def wM:EPp 330 ol:=by
 refine Ype fun _ H K h=>?_
 unfold ol at h
 split at h<;>try exact h.elim
 rename_i m l m2 l2
 obtain⟨⟨c1,c2,hle⟩,hK⟩:=h
 refine⟨_,hK,?_⟩
 obtain⟨xs,rfl⟩:=iW c1
 obtain⟨ys,rfl⟩:=iW c2
 simp only[zlx,zli]at *
 refine Yfv aD (tCq yr (tCq qQ tNq)) Tryz.func330 [.tmp 4] fun hcl hlt=>?_
 clear hK hlt
 have el:((ys.take (min (ys.length:Int) 65535).toNat).length:Int)=min (ys.length:Int) 65535:=by rw[List.length_take];omega
 have el2:(ys.take (min (ys.length:Int) 65535).toNat).length≤65535:=by rw[List.length_take];omega
 simp only[go_sem,zav,byq,oU,sU,yap,el,Int.reduceToNat,n6,lAq]
 have e:be (min (ys.length:Int) 65535) 2++ys.take (min (ys.length:Int) 65535).toNat=jT ys:=rfl
 simp only[e]
 refine⟨Xa,Xa,⟨Xa,Xa⟩,Xa,?_⟩
 exact Z0
def mO:PCt
 |[.slice _ 1 l,.str s],_,K=>(isB l∧l.length≤140737488000000∧s.length≤140737488000000)∧K (.slice .any 1 (bys (unb l++jT s)))
 |_,_,_=>False
def xm:EPp 282 mO:=by
 refine Ype fun _ H K h=>?_
 unfold mO at h
 split at h<;>try exact h.elim
 rename_i m l s
 obtain⟨⟨c1,hle,hs⟩,hK⟩:=h
 refine⟨_,hK,?_⟩
 obtain⟨xs,rfl⟩:=iW c1
 simp only[zlx,zli]at *
 refine Yfv aD (tCq wM tNq) Tryz.func282 [.tmp 4] fun hcl hlt=>?_
 clear hK hlt
 simp only[go_sem,zav,byq,ol]
 refine⟨Xa,Xa,?_⟩
 exact Z0
def vu:ECt
 |[.slice (.own id) 1 l,.slice _ 1 l2],H,K=>(isB l∧isB l2∧l.length≤140737488000000∧H.get id=some (.buf 1 l.length)) ∧
   K (.ret (.slice (.own id) 1 (bys (unb l++jT (unb l2))))) (H.set id (.buf 1 (l.length+(jT (unb l2)).length)))
 |_,_,_=>False
def FJ:EEe 337 vu:=by
 refine Yef fun _ H K h=>?_
 unfold vu at h
 split at h<;>try exact h.elim
 rename_i id l m2 l2
 obtain⟨⟨c1,c2,hle,hid⟩,hK⟩:=h
 refine⟨_,_,hK,?_⟩
 obtain⟨xs,rfl⟩:=iW c1
 obtain⟨ys,rfl⟩:=iW c2
 simp only[zlx,zli]at *
 have hl0:=glq hid
 have hne:=cS hl0
 refine Yfv aD (tCq wA tNq) Tryz.func337 [.tmp 4] fun hcl hlt=>?_
 clear hK hlt
 have el:((ys.take (min (ys.length:Int) 65535).toNat).length:Int)=min (ys.length:Int) 65535:=by rw[List.length_take];omega
 have el2:(ys.take (min (ys.length:Int) 65535).toNat).length≤65535:=by rw[List.length_take];omega
 have ew:jl (min (ys.length:Int) 65535) 2=be (min (ys.length:Int) 65535) 2:=by unfold jl;rw[if_pos (by omega)];rfl
 simp only[go_sem,zav,byq,pb,hne,hid,ew,yap,aF,if_pos hl0,lAq,n6,List.append_assoc]
 have e:be (min (ys.length:Int) 65535) 2++ys.take (min (ys.length:Int) 65535).toNat=jT ys:=rfl
 have e':xs.length+2+(ys.take (min (ys.length:Int) 65535).toNat).length=xs.length+(jT ys).length:=by rw[← e,lAq,n6];omega
 simp only[e,e']
 refine⟨Xa,Xa,⟨Xa,Xa⟩,?_⟩
 have hcs:(H.set id (.buf 1 (xs.length+(jT ys).length))).Closed:=bf hcl
 exact Y142
def zH:ECt
 |[.slice (.own id) 1 l,.str s],H,K=>(isB l∧l.length≤140737488000000∧s.length≤140737488000000∧H.get id=some (.buf 1 l.length)) ∧
   K (.ret (.slice (.own id) 1 (bys (unb l++jT s)))) (H.set id (.buf 1 (l.length+(jT s).length)))
 |_,_,_=>False
def Lq:EEe 327 zH:=by
 refine Yef fun _ H K h=>?_
 unfold zH at h
 split at h<;>try exact h.elim
 rename_i id l s
 obtain⟨⟨c1,hle,hs,hid⟩,hK⟩:=h
 refine⟨_,_,hK,?_⟩
 obtain⟨xs,rfl⟩:=iW c1
 simp only[zlx,zli]at *
 have hl0:=glq hid
 have hne:=cS hl0
 refine Yfv aD (tCq FJ tNq) Tryz.func327 [.tmp 4] fun hcl hlt=>?_
 clear hK hlt
 simp only[go_sem,zav,byq,vu,hne,hid]
 refine⟨Xa,Xa,?_⟩
 have hcs:(H.set id (.buf 1 (xs.length+(jT s).length))).Closed:=bf hcl
 exact Y142
theorem Sk:ti Tryz.prog 92=some ⟨.int .u64,1,8,.int .u64 0⟩:=krf
theorem RU:ti Tryz.prog 94=some ⟨.struct [(0,92,false),(1,92,false)],2,16,.agg [.int .u64 0,.int .u64 0]⟩:=krf
theorem Su:ti Tryz.prog 357=some ⟨.array 16 5,16,16,.agg (List.replicate 16 (.int .u8 0))⟩:=krf
attribute [go_sem] Sk RU Su
def zS:PCt
 |[.int .u64 n],_,K=>(0≤n∧n<18446744073709551616)∧K (.int .i64 (bl n.toNat:Nat))
 |_,_,_=>False
def lenTab:By:=(List.range 256).map fun n=>UInt8.ofNat (bl n)
def E7:([0,1,2,2,3,3,3,3,4,4,4,4,4,4,4,4,5,5,5,5,5,5,5,5,5,5,5,5,5,5,5,5,6,6,6,6,6,6,6,6,6,6,6,6,6,6,6,6,6,6,6,6,6,6,6,6,6,6,6,6,6,6,6,6].append [7,7,7,7,7,7,7,7,7,7,7,7,7,7,7,7,7,7,7,7,7,7,7,7,7,7,7,7,7,7,7,7,7,7,7,7,7,7,7,7,7,7,7,7,7,7,7,7,7,7,7,7,7,7,7,7,7,7,7,7,7,7,7,7]).append ([8,8,8,8,8,8,8,8,8,8,8,8,8,8,8,8,8,8,8,8,8,8,8,8,8,8,8,8,8,8,8,8,8,8,8,8,8,8,8,8,8,8,8,8,8,8,8,8,8,8,8,8,8,8,8,8,8,8,8,8,8,8,8,8].append [8,8,8,8,8,8,8,8,8,8,8,8,8,8,8,8,8,8,8,8,8,8,8,8,8,8,8,8,8,8,8,8,8,8,8,8,8,8,8,8,8,8,8,8,8,8,8,8,8,8,8,8,8,8,8,8,8,8,8,8,8,8,8,8])=lenTab:=by decide +kernel
def Cf:lenTab.length=256:=by simp[lenTab]
def CL(n:Nat)(h:n<256):(lenTab.getD n 0).toNat=bl n:=by
 unfold lenTab
 rw[gEq,List.getElem?_map,List.getElem?_range h]
 have:bl n≤8:=bl_le.2 h
 simp only[yag,Option.getD_some]
 rw[UInt8.toNat_ofNat_of_lt' (by simp[UInt8.size];omega)]
def Gk{m s:Nat}{H:AHeap}(hcl:H.Closed)(hm:m<2^64)(h:m >>> s<256)(hs:s=0∨2^s≤m) :
 (0≤IntKind.u8.wrap ((m >>> s:Nat):Int)∧IntKind.u8.wrap ((m >>> s:Nat):Int)<(lenTab.length:Int)) ∧
 ag H (AV.int IntKind.i64 (IntKind.i64.wrap ((s:Int)+IntKind.i64.wrap ((lenTab.getD (IntKind.u8.wrap ((m >>> s:Nat):Int)).toNat 0).toNat:Int)))) H (AV.int IntKind.i64 (bl m:Nat)):=by
 have e:IntKind.u8.wrap ((m >>> s:Nat):Int)=((m >>> s:Nat):Int):=by
  have:IntKind.u8.wrap ((m >>> s:Nat):Int)=((m >>> s:Nat):Int)%256:=by simp[IntKind.wrap,IntKind.signed,IntKind.bits]
  rw[this]
  generalize m >>> s=x at h ⊢
  omega
 rw[e,Cf,iNq,CL _ h]
 refine⟨⟨Int.natCast_nonneg _,by generalize m >>> s=x at h ⊢;omega⟩,?_⟩
 have hb:bl m=s+bl (m >>> s):=by
  rcases hs with rfl|hs
  ·simp
  ·exact BJ m s hs
 have h8:bl (m >>> s)≤8:=bl_le.2 h
 have h64:bl m≤64:=bl_le.2 hm
 have e2:IntKind.i64.wrap ((bl (m >>> s):Nat):Int)=(bl (m >>> s):Nat):=Xe
 have e3:IntKind.i64.wrap ((s:Int)+(bl (m >>> s):Nat))=(bl m:Nat):=Xe
 rw[e2,e3]
 simp[ag,wk,wk2,wk1,zmu,hcl,znd]
def IX:EPp 336 zS:=by
 refine Ype fun _ H K h=>?_
 unfold zS at h
 split at h<;>try exact h.elim
 rename_i n
 obtain⟨⟨h0,h1⟩,hK⟩:=h
 refine⟨_,hK,?_⟩
 obtain⟨m,rfl⟩:=ey h0
 clear hK h0
 rw[iNq]
 have hm:m<2^64:=Xa
 clear h1
 refine Yfu aD tNq Tryz.func336 [.tmp 2] fun hcl=>?_
 have s32:∀ a:Nat,a<2^64→fI .u64 (a:Int) 32=((a >>> 32:Nat):Int):=fun a h=>mq a 32 h
 have s16:∀ a:Nat,a<2^64→fI .u64 (a:Int) 16=((a >>> 16:Nat):Int):=fun a h=>mq a 16 h
 have s8:∀ a:Nat,a<2^64→fI .u64 (a:Int) 8=((a >>> 8:Nat):Int):=fun a h=>mq a 8 h
 have q1:m >>> 32<2^64:=qv hm
 have q2:m >>> 16<2^64:=qv hm
 have q3:m >>> 32 >>> 16<2^64:=qv q1
 have w48:IntKind.i64.wrap 48=48:=Xb
 have w40:IntKind.i64.wrap 40=40:=Xb
 have w24:IntKind.i64.wrap 24=24:=Xb
 have w56:IntKind.i64.wrap (48+8)=56:=Xb
 have w56':IntKind.i64.wrap 56=56:=Xb
 have wn:∀ k:Nat,(0≤IntKind.u8.wrap ((m >>> k:Nat):Int))=True:=fun k=>eq_true (by simp[IntKind.wrap,IntKind.signed,IntKind.bits];try omega)
 have q4:m >>> 48<2^64:=qv hm
 simp only[go_sem,zav,byq,E7,s32,s16,s8,hm,q1,q2,q3,q4,w48,w40,w24,w56,w56',← Nat.shiftRight_add]
 have sr:∀ k:Nat,m >>> k=m/2^k:=fun k=>Nat.shiftRight_eq_div_pow m k
 have fin:=fun s=>@Gk m s H hcl hm
 refine eZ (fun t1=>⟨Xb,eZ (fun t2=>⟨Xb,eZ (fun t3=>⟨Xb,?_⟩) (fun t3=>?_)⟩) (fun t2=>eZ (fun t3=>⟨Xb,?_⟩) (fun t3=>?_))⟩)
  (fun t1=>eZ (fun t2=>⟨Xb,eZ (fun t3=>⟨Xb,?_⟩) (fun t3=>?_)⟩) (fun t2=>eZ (fun t3=>⟨Xb,?_⟩) (fun t3=>?_)))
 all_goals simp only[decide_eq_true_eq,decide_eq_false_iff_not,sr,ge_iff_le]at t1 t2 t3
 ·first|exact fin 56 (by rw[sr];omega) (.inr Xa)|exact⟨(fin 56 (by rw[sr];omega) (.inr Xa)).1.2,(fin 56 (by rw[sr];omega) (.inr Xa)).2⟩
 ·first|exact fin 48 (by rw[sr];omega) (.inr Xa)|exact⟨(fin 48 (by rw[sr];omega) (.inr Xa)).1.2,(fin 48 (by rw[sr];omega) (.inr Xa)).2⟩
 ·first|exact fin 40 (by rw[sr];omega) (.inr Xa)|exact⟨(fin 40 (by rw[sr];omega) (.inr Xa)).1.2,(fin 40 (by rw[sr];omega) (.inr Xa)).2⟩
 ·first|exact fin 32 (by rw[sr];omega) (.inr Xa)|exact⟨(fin 32 (by rw[sr];omega) (.inr Xa)).1.2,(fin 32 (by rw[sr];omega) (.inr Xa)).2⟩
 ·first|exact fin 24 (by rw[sr];omega) (.inr Xa)|exact⟨(fin 24 (by rw[sr];omega) (.inr Xa)).1.2,(fin 24 (by rw[sr];omega) (.inr Xa)).2⟩
 ·first|exact fin 16 (by rw[sr];omega) (.inr Xa)|exact⟨(fin 16 (by rw[sr];omega) (.inr Xa)).1.2,(fin 16 (by rw[sr];omega) (.inr Xa)).2⟩
 ·first|exact fin 8 (by rw[sr];omega) (.inr Xa)|exact⟨(fin 8 (by rw[sr];omega) (.inr Xa)).1.2,(fin 8 (by rw[sr];omega) (.inr Xa)).2⟩
 ·first|exact fin 0 (by rw[sr];omega) (.inl rfl)|exact⟨(fin 0 (by rw[sr];omega) (.inl rfl)).1.2,(fin 0 (by rw[sr];omega) (.inl rfl)).2⟩
def u7:PCt
 |[.agg [.int .u64 hi,.int .u64 lo]],_,K=>(0≤hi∧hi<18446744073709551616∧0≤lo∧lo<18446744073709551616)∧K (.int .i64 (bl (vOf hi.toNat lo.toNat):Nat))
 |_,_,_=>False
def AM:EPp 325 u7:=by
 refine Ype fun _ H K h=>?_
 unfold u7 at h
 split at h<;>try exact h.elim
 rename_i hi lo
 obtain⟨⟨h0,h1,h2,h3⟩,hK⟩:=h
 refine⟨_,hK,?_⟩
 obtain⟨x,rfl⟩:=ey h0
 obtain⟨y,rfl⟩:=ey h2
 clear hK h0 h2
 rw[iNq,iNq]
 have hx:x<2^64:=Xa
 have hy:y<2^64:=Xa
 refine Yfu aD (tCq IX tNq) Tryz.func325 [.tmp 2] fun hcl=>?_
 have b1:bl x≤64:=bl_le.2 hx
 have hw:IntKind.i64.wrap (64+((bl x:Nat):Int))=((64+bl x:Nat):Int):=Xe
 simp only[go_sem,zav,byq,zS,iNq,hw]
 rw[Ss hy]
 refine eZ (fun t=>?_) (fun t=>?_)
 ·have t':x≠0:=by simpa using t
  rw[if_neg t']
  repeat refine⟨Xa,?_⟩
  exact Z1
 ·have t':x=0:=by simpa using t
  rw[if_pos t']
  repeat refine⟨Xa,?_⟩
  exact Z1
def isV(hi lo:Int):Prop:=0≤hi∧hi<18446744073709551616∧0≤lo∧lo<18446744073709551616
def vf:PCt
 |[.agg [.int .u64 hi,.int .u64 lo],.int .i64 n],_,K=>(isV hi lo∧n<9223372036854775808)∧K (vv (vOf hi.toNat lo.toNat >>> n.toNat))
 |_,_,_=>False
def Gp:EPp 345 vf:=by
 refine Ype fun _ H K h=>?_
 unfold vf at h
 split at h<;>try exact h.elim
 rename_i hi lo n
 obtain⟨⟨⟨h0,h1,h2,h3⟩,hn⟩,hK⟩:=h
 refine⟨_,hK,?_⟩
 obtain⟨x,rfl⟩:=ey h0
 obtain⟨y,rfl⟩:=ey h2
 clear hK h0 h2
 rw[iNq,iNq]
 have hx:x<2^64:=Xa
 have hy:y<2^64:=Xa
 refine Yfu aD tNq Tryz.func345 [.cell 4 94] fun hcl=>?_
 simp only[go_sem,zav,byq]
 refine eZ (fun t=>?_) (fun t=>eZ (fun s=>?_) (fun s=>?_))
 ·have t':n.toNat=0:=by simp at t;omega
  rw[t',Nat.shiftRight_zero,Co hy]
  exact Z1
 ·simp at t s
  obtain⟨m,rfl⟩:∃ m:Nat,n=m+64:=⟨(n-64).toNat,Xa⟩
  have e1:IntKind.i64.wrap ((m:Int)+64-64)=m:=Xe
  have e2:IntKind.u64.wrap (m:Int)=m:=Xt
  have e3:((m:Int)+64).toNat=m+64:=Xa
  have e4:vv (vOf x y >>> (m+64))=.agg [.int .u64 0,.int .u64 ((x >>> m:Nat):Int)]:=by
   rw[Gr x y _ hy hx Xa,Nat.add_sub_cancel]
   have:=Co (hi:=0) (lo:=x >>> m) (qv hx)
   simpa[vOf]using this
  rw[e3,e4,e1,e2,mq x m hx]
  repeat refine⟨Xa,?_⟩
  exact Z1
 ·simp at t s
  obtain⟨m,rfl⟩:∃ m:Nat,n=m:=⟨n.toNat,Xa⟩
  have hm:m<64:=Xa
  have e1:IntKind.i64.wrap (64-(m:Int))=((64-m:Nat):Int):=Xe
  have e2:IntKind.u64.wrap (m:Int)=m:=Xt
  have e3:IntKind.u64.wrap ((64-m:Nat):Int)=((64-m:Nat):Int):=Xt
  have e4:vv (vOf x y >>> m)=.agg [.int .u64 ((x >>> m:Nat):Int),.int .u64 (((y >>> m ||| (x <<<(64-m))%2^64:Nat)):Int)]:=by
   unfold vv
   rw[JX x y m hy,M8 x y m hy hm]
  rw[e1,e2,e3,iNq,e4,mq x m hx,mq y m hy,A9,zd _ _ (qv hy) (Nat.mod_lt _ Xb)]
  repeat refine⟨Xa,?_⟩
  exact Z1
def yi{n:Nat}:List.replicate n (AV.int .u8 0)=bys (List.replicate n 0):=by simp[bys,bC]
def Uh(a:Nat):UInt8.ofNat (((a%2^64:Nat):Int)%256).toNat=UInt8.ofNat a:=by
 rw[UInt8.ofNat_eq_iff_mod_eq_toNat,UInt8.toNat_ofNat']
 omega
def lG(l:By)(k:Nat):By:=l.take k++List.replicate (l.length-k) 0
def Aj(l:By):lG l 0=List.replicate l.length 0:=by simp[lG]
def BV(l:By):lG l l.length=l:=by simp[lG]
def vD(l:By)(k:Nat)(h:k≤l.length):(lG l k).length=l.length:=by simp[lG];omega
def BF(l:By)(k:Nat)(h:k<l.length):(lG l k).take k++[l[k]]++(lG l k).drop (k+1)=lG l (k+1):=by
 unfold lG
 have e1:(l.take k).length=k:=Xf
 rw[List.take_append_of_le_length Xa,ybd,ybc Xa,e1,List.drop_of_length_le Xa,yak,List.drop_replicate,List.take_succ_eq_append_getElem h,Nat.add_sub_cancel_left]
 rfl
def BU:PCt
 |[.agg [.int .u64 hi,.int .u64 lo]],_,K=>isV hi lo∧K (.agg (bys (beN (vOf hi.toNat lo.toNat) 16)))
 |_,_,_=>False
def PL:EPp 344 BU:=by
 refine Ype fun _ H K h=>?_
 unfold BU at h
 split at h<;>try exact h.elim
 rename_i hi lo
 obtain⟨⟨h0,h1,h2,h3⟩,hK⟩:=h
 refine⟨_,hK,?_⟩
 obtain⟨x,rfl⟩:=ey h0
 obtain⟨y,rfl⟩:=ey h2
 clear hK h0 h2
 rw[iNq,iNq]
 have hx:x<2^64:=Xa
 have hy:y<2^64:=Xa
 refine Yfu aD (tCq Gp tNq) Tryz.func344 [.cell 2 357] fun hcl=>?_
 have hv:=pE hx hy
 generalize hvo:vOf x y=v at hv ⊢
 simp only[go_sem,byq,yi]
 refine jr (A:=Nat) (fun k=>[(5,.int .i64 (k:Int)),(3,.ptr (H.nx+1+1) 0),(1,.ptr H.nx 0),(2,.ptr (H.nx+1) 0)])
  (fun k=>((H.push (.cells [.int .u64 (x:Int),.int .u64 (y:Int)])).push (.cells (bys (List.replicate 16 0)))).push (.cells (bys (lG (beN v 16) k)))) (fun k=>k≤16) (fun k=>16-k) 0 Xa ?_ fun k hk=>?_
 ·simp only[bnq,enter,my,ltF,ne_eq,Nat.reduceEqDiff,reduceCtorEq,Aj,gP,true_or,and_true]
  all_goals rfl
 refine Tq63 ?_
 refine ax (fun hc=>?_) (fun hc=>?_)
 ·have hk:k<16:=sHc
  have e1:IntKind.i64.wrap (15-(k:Int))=((15-k:Nat):Int):=Xe
  have e2:IntKind.i64.wrap (8*((15-k:Nat):Int))=((8*(15-k):Nat):Int):=Xe
  have e3:IntKind.i64.wrap ((k:Int)+1)=((k+1:Nat):Int):=Xe
  simp only[go_sem,byq,e1,e2,e3,vf,isV,vv,iNq,hvo,zF,Uh,nzq,zlo]
  have hs:splice (bys (lG (beN v 16) k)) k (bys [UInt8.ofNat (v >>> (8*(15-k)))])=bys (lG (beN v 16) (k+1)):=by
   rw[zmo (by rw[vD _ _ (by rw[gP];omega),gP];simp;omega),← BF _ _ (by rw[gP];exact hk)]
   simp[beN]
  rw[vD _ _ (by rw[gP];omega),gP,hs]
  refine⟨Xa,Xa,Xa,k+1,Xa,Xa,?_⟩
  exact Z2
 ·have hk:k=16:=sHc
  subst hk
  have ef:lG (beN v 16) 16=beN v 16:=by have:=BV (beN v 16);rwa[gP]at this
  have h16:(bys (beN v 16)).length=16:=by rw[zli,gP]
  have e0:splice (bys (List.replicate 16 0)) 0 (bys (beN v 16))=bys (beN v 16):=by
   rw[zmo (by simp[gP])];simp[gP]
  have et:List.take 16 (beN v 16)=beN v 16:=ybc (by rw[gP];omega)
  simp only[go_sem,byq,ef,gP,et,e0]
  refine⟨Xc,?_⟩
  exact Z1
def tC:PCt
 |[.agg [.int .u64 hi,.int .u64 lo]],_,K=>isV hi lo∧K (.slice .any 1 (bys (nz (vOf hi.toNat lo.toNat))))
 |_,_,_=>False
def B9:EPp 340 tC:=by
 refine Ype fun _ H K h=>?_
 unfold tC at h
 split at h<;>try exact h.elim
 rename_i hi lo
 obtain⟨⟨h0,h1,h2,h3⟩,hK⟩:=h
 refine⟨_,hK,?_⟩
 obtain⟨x,rfl⟩:=ey h0
 obtain⟨y,rfl⟩:=ey h2
 clear hK h0 h2
 rw[iNq,iNq]
 have hx:x<2^64:=Xa
 have hy:y<2^64:=Xa
 refine Yfu aD (tCq PL (tCq AM tNq)) Tryz.func340 [.tmp 2] fun hcl=>?_
 have hv:=pE hx hy
 generalize hvo:vOf x y=v at hv ⊢
 have b1:bl v≤128:=bl_le.2 hv
 have w1:IntKind.i64.wrap (((bl v:Nat):Int)+7)=((bl v+7:Nat):Int):=Xe
 have w2:IntKind.i64.wrap (((bl v+7:Nat):Int).tdiv 8)=(((bl v+7)/8:Nat):Int):=by
  exact Y139
 have w3:max (1:Int) (((bl v+7)/8:Nat):Int)=(jS v:Nat):=by unfold jS;omega
 have hle:=tg hv
 have w4:IntKind.i64.wrap (16-((jS v:Nat):Int))=((16-jS v:Nat):Int):=Xe
 have e0:splice (bys (List.replicate 16 0)) 0 (bys (beN v 16))=bys (beN v 16):=by
  rw[zmo (by simp[gP])];simp[gP]
 have e5:((16:Nat):Int)-((16-jS v:Nat):Int)=((jS v:Nat):Int):=Xa
 have e6:dh 1 (jS v) (bys ((beN v 16).drop (16-jS v)))=bys (nz v):=by
  rw[J0 v 16 _ hle,zmp (by rw[gP];exact nrq _),ybc (by rw[gP];exact nrq _)];rfl
 have e7:(nz v).length=jS v:=gP _ _
 simp only[go_sem,zav,byq,BU,u7,isV,iNq,hvo,w1,w2,w3,w4,yi,gP,e0,e5,e6,e7,List.length_replicate]
 refine⟨Xa,Xa,Xb,Xa,Xa,?_⟩
 exact Z1
theorem N0:ti Tryz.prog 307=some ⟨.array 128 4,128,128,.agg (List.replicate 128 (.bool false))⟩:=krf
attribute [go_sem] N0
def sF:PCt
 |[.agg [.int .u64 hi,.int .u64 lo]],_,K=>isV hi lo∧K (.agg (bits (vOf hi.toNat lo.toNat)))
 |_,_,_=>False
def vq:EPp 278 sF:=by
 refine Ype fun _ H K h=>?_
 unfold sF at h
 split at h<;>try exact h.elim
 rename_i hi lo
 obtain⟨⟨h0,h1,h2,h3⟩,hK⟩:=h
 refine⟨_,hK,?_⟩
 obtain⟨x,rfl⟩:=ey h0
 obtain⟨y,rfl⟩:=ey h2
 clear hK h0 h2
 rw[iNq,iNq]
 have hx:x<2^64:=Xa
 have hy:y<2^64:=Xa
 refine Yfu aD tNq Tryz.func278 [.cell 2 307] fun hcl=>?_
 have hv:=pE hx hy
 have blo:∀ i,i<64→y.testBit i=(vOf x y).testBit i:=fun i hi=>by rw[rh hy,if_pos hi]
 have bhi:∀ i,x.testBit i=(vOf x y).testBit (i+64):=fun i=>by rw[rh hy,if_neg (by omega),Nat.add_sub_cancel]
 generalize hvo:vOf x y=v at hv blo bhi ⊢
 refine Tq63 ?_
 refine jr (A:=Nat) (fun k=>[(4,.int .i64 (k:Int)),(3,.ptr (H.nx+1+1) 0),(1,.ptr H.nx 0),(2,.ptr (H.nx+1) 0)])
  (fun k=>((H.push (.cells [.int .u64 (x:Int),.int .u64 (y:Int)])).push (.cells (List.replicate 128 (.bool false)))).push (.cells (kK v fun j=>decide (j%64<k)))) (fun k=>k≤64) (fun k=>64-k) 0 Xa ?_ fun k hk=>?_
 ·have e:kK v (fun j=>decide (j%64<0))=List.replicate 128 (.bool false):=A8 _ _ fun j _=>Xc
  simp only[bnq,enter,my,ltF,ne_eq,Nat.reduceEqDiff,reduceCtorEq,e,true_or,and_true]
  all_goals rfl
 refine Tq63 ?_
 refine ax (fun hc=>?_) (fun hc=>?_)
 ·have hk:k<64:=sHc
  have e1:IntKind.i64.wrap ((k:Int)+64)=((k+64:Nat):Int):=Xe
  have e2:IntKind.u64.wrap (k:Int)=(k:Int):=Xt
  have e3:IntKind.i64.wrap ((k:Int)+1)=((k+1:Nat):Int):=Xe
  have s1:y >>> k<2^64:=qv hy
  have s2:x >>> k<2^64:=qv hx
  simp only[go_sem,byq,e1,e2,e3,mq y k hy,mq x k hx,AB _ s1,AB _ s2,Oj,iNq,nzq,lS,CM,blo k hk,bhi k,List.length_set]
  have hst:((kK v fun j=>decide (j%64<k)).set k (.bool (v.testBit k))).set (k+64) (.bool (v.testBit (k+64)))=kK v fun j=>decide (j%64<k+1):=by
   rw[vQ v _ (fun j=>decide (j%64<k)||decide (j=k)) k (fun j hj=>by simp[hj]) Xc,
    vQ v _ (fun j=>decide (j%64<k)||decide (j=k)||decide (j=k+64)) (k+64) (fun j hj=>by simp[hj]) (Xc)]
   unfold kK
   refine List.map_congr_left fun j hj=>?_
   have:j<128:=List.mem_range.1 hj
   congr 2
   rw[Bool.eq_iff_iff];simp;omega
  refine⟨Xa,Xa,Xa,Xa,Xa,Xa,k+1,Xa,Xa,?_⟩
  simp only[bnq,enter,my,ltF,ne_eq,Nat.reduceEqDiff,reduceCtorEq,hst,true_or,and_self]
 ·have hk:k=64:=sHc
  subst hk
  have e:kK v (fun j=>decide (j%64<64))=bits v:=Cg _ _ fun j _=>Xf
  have et:List.take 128 (bits v)=bits v:=ybc (by rw[gN];omega)
  have es:splice (List.replicate 128 (.bool false)) 0 (bits v)=bits v:=lY (y:=.junk) (gN v)
  simp only[go_sem,byq,e,et,es,gN,nR]
  refine⟨Xc,?_⟩
  simp (disch:=first|exact Zd|omega) [↓zmm,beq,ybc,ybd,ybe,ag,wk,wk2,wk1,wkM,wkL,ay,ybf,hcl,IZ]
def zo:PCt
 |[.agg [.int .u64 hi,.int .u64 lo]],_,K=>isV hi lo∧K (.int .i64 (bl (vOf hi.toNat lo.toNat):Nat))
 |_,_,_=>False
def Em:EPp 277 zo:=by
 refine Ype fun _ H K h=>?_
 unfold zo at h
 split at h<;>try exact h.elim
 rename_i hi lo
 obtain⟨⟨h0,h1,h2,h3⟩,hK⟩:=h
 refine⟨_,hK,?_⟩
 obtain⟨x,rfl⟩:=ey h0
 obtain⟨y,rfl⟩:=ey h2
 clear hK h0 h2
 rw[iNq,iNq]
 have hx:x<2^64:=Xa
 have hy:y<2^64:=Xa
 refine Yfu aD (tCq vq tNq) Tryz.func277 [.tmp 2] fun hcl=>?_
 have hv:=pE hx hy
 generalize hvo:vOf x y=v at hv ⊢
 refine Tq63 ?_
 refine jr (A:=Nat) (fun k=>[(3,.int .i64 ((k:Int)-1)),(1,.ptr H.nx 0)])
  (fun k=>(H.push (.cells [.int .u64 (x:Int),.int .u64 (y:Int)]))) (fun k=>k≤128∧∀ j,k≤j→v.testBit j=false) (fun k=>k) 128 ⟨Xa,fun j hj=>Nat.testBit_lt_two_pow (Nat.lt_of_lt_of_le hv (Nat.pow_le_pow_right Xb hj))⟩ ?_ fun k hk=>?_
 ·simp only[bnq,enter,my,ltF,ne_eq,Nat.reduceEqDiff,reduceCtorEq,true_or,and_true]
  all_goals rfl
 obtain⟨hk,hz⟩:=hk
 refine Tq63 ?_
 refine ax (fun hc=>?_) (fun hc=>?_)
 ·have hk0:1≤k:=sHc
  obtain⟨j,rfl⟩:∃ j,k=j+1:=⟨k-1,Xa⟩
  have e0:((j+1:Nat):Int)-1=(j:Int):=Xa
  have e1:IntKind.i64.wrap ((j:Int)-1)=(j:Int)-1:=Xe
  have e2:IntKind.i64.wrap ((j:Int)+1)=((j+1:Nat):Int):=Xe
  simp only[go_sem,byq,sF,isV,iNq,hvo,gN,e0,Nat.mul_one,qr v j (Xa)]
  refine⟨Xa,Xa,ax (fun hb=>?_) (fun hb=>?_)⟩
  ·simp only[go_sem,zav,byq,e2]
   rw[Sp hb fun i hi=>hz i (Xa)]
   exact Z1
  ·simp only[go_sem,byq,e1]
   refine⟨j,⟨Xa,fun i hi=>?_⟩,Xa,?_⟩
   ·by_cases h:i=j
    ·subst h;exact hb
    ·exact hz i Xa
   ·exact Z2
 ·have hk0:k=0:=sHc
  subst hk0
  have:v=0:=CZ fun j=>hz j Xa
  subst this
  refine Tq63 ?_
  simp (disch:=first|exact Zd|omega) [↓zmm,beq,ybc,ybd,ybe,ag,wk,wk2,wk1,wkM,wkL,ay,ybf,hcl,bl]
def tG:PCt
 |[.agg [.int .u64 hi,.int .u64 lo]],_,K=>isV hi lo∧K (.slice .any 1 (bys (nz (vOf hi.toNat lo.toNat))))
 |_,_,_=>False
def CW:EPp 338 tG:=by
 refine Ype fun _ H K h=>?_
 unfold tG at h
 split at h<;>try exact h.elim
 rename_i hi lo
 obtain⟨⟨h0,h1,h2,h3⟩,hK⟩:=h
 refine⟨_,hK,?_⟩
 obtain⟨x,rfl⟩:=ey h0
 obtain⟨y,rfl⟩:=ey h2
 clear hK h0 h2
 rw[iNq,iNq]
 have hx:x<2^64:=Xa
 have hy:y<2^64:=Xa
 refine Yfu aD (tCq vq (tCq Em tNq)) Tryz.func338 [.tmp 2] fun hcl=>?_
 have hv:=pE hx hy
 generalize hvo:vOf x y=v at hv ⊢
 have b1:bl v≤128:=bl_le.2 hv
 have w1:IntKind.i64.wrap (((bl v:Nat):Int)+7)=((bl v+7:Nat):Int):=Xe
 have w2:IntKind.i64.wrap (((bl v+7:Nat):Int).tdiv 8)=(((bl v+7)/8:Nat):Int):=by
  exact Y139
 have w3:max (1:Int) (((bl v+7)/8:Nat):Int)=(jS v:Nat):=by unfold jS;omega
 have hle:=tg hv
 have hlen:=bl_le.1 (show bl v≤8*jS v by unfold jS;omega)
 have hvb:nz v=beN v (jS v):=rfl
 rw[hvb]
 generalize hn:jS v=n at *
 have es:splice (List.replicate 128 (.bool false)) 0 (bits v)=bits v:=lY (y:=.junk) (gN v)
 simp only[go_sem,byq,sF,zo,isV,iNq,hvo,w1,w2,w3,es,gN,nR,List.length_replicate]
 refine⟨Xa,Xa,Xb,Xa,?_⟩
 refine jr (A:=Nat) (fun k=>[(6,.int .i64 (k:Int)),(5,.ms (H.nx+1+1+1) 0 1 n),(4,.int .i64 (n:Int)),(3,.ptr (H.nx+1+1) 0)])
  (fun k=>(((H.push (.cells [.int .u64 (x:Int),.int .u64 (y:Int)])).push (.buf 1 0)).push (.cells (bits v))).push (.cells (bys (ke v n k)))) (fun k=>k≤8*n) (fun k=>8*n-k) 0 Xa ?_ fun k hk=>?_
 ·simp only[bnq,enter,my,ltF,ne_eq,Nat.reduceEqDiff,reduceCtorEq,Do,true_or,and_true]
  all_goals rfl
 have w4:IntKind.i64.wrap (8*(n:Int))=((8*n:Nat):Int):=Xe
 simp only[go_sem,byq,w4]
 refine ax (fun hc=>?_) (fun hc=>?_)
 ·have hk:k<8*n:=sHc
  have e1:IntKind.i64.wrap ((k:Int)+1)=((k+1:Nat):Int):=Xe
  have e2:IntKind.i64.wrap ((n:Int)-1)=((n-1:Nat):Int):=Xe
  have e3:IntKind.i64.wrap ((k:Int).tdiv 8)=((k/8:Nat):Int):=by
   exact Y139
  have e4:IntKind.i64.wrap (((n-1:Nat):Int)-((k/8:Nat):Int))=((n-1-k/8:Nat):Int):=Xe
  have e5:(k:Int).tmod 8=((k%8:Nat):Int):=by rw[Int.tmod_eq_emod_of_nonneg (by omega)];omega
  have e6:IntKind.u64.wrap ((k%8:Nat):Int)=((k%8:Nat):Int):=Xt
  have e7:uc .u8 1 ((k%8:Nat):Int)=((1 <<<(k%8)%256:Nat):Int):=NS 1 _ Xa
  have hkb:k<128:=Xa
  simp only[go_sem,byq,e1,iNq,gN,Nat.mul_one,nzq,qr v k hkb]
  refine⟨Xa,Xa,ax (fun hb=>?_) (fun hb=>?_)⟩
  ·have g1:(bys (ke v n k)).getD (n-1-k/8) .junk=bC ((ke v n k).getD (n-1-k/8) 0):=u5 (by rw[ud];omega)
   have g2:ior .u8 ((((ke v n k).getD (n-1-k/8) 0).toNat:Nat):Int) ((1 <<<(k%8)%256:Nat):Int)=_:=RX _ _ (UInt8.toNat_lt _) Xa
   have g3:((ke v n k).getD (n-1-k/8) 0).toNat ||| 1 <<<(k%8)%256<256:=Nat.or_lt_two_pow (n:=8) (UInt8.toNat_lt _) Xa
   simp only[go_sem,byq,e1,e2,e3,e4,e5,e6,e7,iNq,Nat.mul_one,nzq,ud,g1,bC,g2]
   simp only[tN g3,AJ,G2 v n k hb hk]
   refine⟨Xb,Xa,Xa,Xb,Xa,Xa,Xa,k+1,Xa,Xa,?_⟩
   exact Z2
  ·simp only[go_sem,byq,e1]
   refine⟨k+1,Xa,Xa,?_⟩
   simp only[bnq,enter,my,ltF,ne_eq,Nat.reduceEqDiff,reduceCtorEq,C7 v n k hb,true_or,and_self]
 ·have hk:k=8*n:=sHc
  subst hk
  simp only[go_sem,byq,Fm v n hlen]
  have hl:(beN v n).length=n:=gP v n
  simp (disch:=first|exact Zd|omega) [↓zmm,beq,ybc,ybd,ybe,ag,wk,wk2,wk1,wkM,wkL,ay,ybf,hcl,hl]
def lk(v:Nat):By:=UInt8.ofNat (jS v)::nz v
def nr(v:Nat):(nz v).length=jS v:=gP _ _
def oy:PCt
 |[.slice _ 1 l,.agg [.int .u64 hi,.int .u64 lo]],_,K=>(isV hi lo∧isB l∧l.length≤140737488000000)∧K (.slice .any 1 (bys (unb l++lk (vOf hi.toNat lo.toNat))))
 |_,_,_=>False
def wE:EPp 333 oy:=by
 refine Ype fun _ H K h=>?_
 unfold oy at h
 split at h<;>try exact h.elim
 rename_i m l hi lo
 obtain⟨⟨⟨h0,h1,h2,h3⟩,c1,hle⟩,hK⟩:=h
 refine⟨_,hK,?_⟩
 obtain⟨x,rfl⟩:=ey h0
 obtain⟨y,rfl⟩:=ey h2
 obtain⟨xs,rfl⟩:=iW c1
 clear hK h0 h2
 simp only[zlx,zli]at *
 rw[iNq,iNq]
 have hx:x<2^64:=Xa
 have hy:y<2^64:=Xa
 refine Yfu aD (tCq qQ (tCq B9 tNq)) Tryz.func333 [.tmp 4] fun hcl=>?_
 have hv:=pE hx hy
 have hvl:=tg hv
 generalize hvo:vOf x y=v at hv hvl ⊢
 have w1:IntKind.u8.wrap ((jS v:Nat):Int)=((jS v:Nat):Int):=by rw[nK];omega
 have w2:AV.int .u8 ((jS v:Nat):Int)=bC (UInt8.ofNat (jS v)):=tN Xa
 have w3:UInt8.ofNat (jS v)::nz v=lk v:=rfl
 simp only[go_sem,zav,byq,oU,tC,isV,iNq,hvo,nr,w1,w2]
 refine⟨Xa,Xa,by first|omega|(simp only[lAq,yaz,yba,nr];omega),?_⟩
 have w4:UInt8.ofNat (jS v)::nz v=lk v:=rfl
 have w5:[UInt8.ofNat (jS v)]++nz v=lk v:=rfl
 first|rw[w4]|rw[w5]
 exact Z1
def vX:ECt
 |[.slice (.own id) 1 l,.agg [.int .u64 hi,.int .u64 lo]],H,K=>(isV hi lo∧isB l∧l.length≤140737488000000∧H.get id=some (.buf 1 l.length)) ∧
   K (.ret (.slice (.own id) 1 (bys (unb l++lk (vOf hi.toNat lo.toNat))))) (H.set id (.buf 1 (l.length+(lk (vOf hi.toNat lo.toNat)).length)))
 |_,_,_=>False
def Gq:EEe 328 vX:=by
 refine Yef fun _ H K h=>?_
 unfold vX at h
 split at h<;>try exact h.elim
 rename_i id l hi lo
 obtain⟨⟨⟨h0,h1,h2,h3⟩,c1,hle,hid⟩,hK⟩:=h
 refine⟨_,_,hK,?_⟩
 obtain⟨x,rfl⟩:=ey h0
 obtain⟨y,rfl⟩:=ey h2
 obtain⟨xs,rfl⟩:=iW c1
 clear hK h0 h2
 simp only[zlx,zli]at *
 rw[iNq,iNq]
 have hx:x<2^64:=Xa
 have hy:y<2^64:=Xa
 have hl0:=glq hid
 have hne:=cS hl0
 refine Yfu aD (tCq CW tNq) Tryz.func328 [.tmp 4] fun hcl=>?_
 have hv:=pE hx hy
 have hvl:=tg hv
 generalize hvo:vOf x y=v at hv hvl ⊢
 have w1:IntKind.u8.wrap ((jS v:Nat):Int)=((jS v:Nat):Int):=by rw[nK];omega
 have w2:AV.int .u8 ((jS v:Nat):Int)=bC (UInt8.ofNat (jS v)):=tN Xa
 have w3:xs++[UInt8.ofNat (jS v)]++nz v=xs++lk v:=by simp[lk]
 have w4:xs.length+(lk v).length=xs.length+1+jS v:=by simp[lk,nr];omega
 rw[w4]
 simp only[go_sem,zav,byq,tG,isV,iNq,hvo,nr,w1,w2,hne,hid,aF,if_pos hl0]
 have w5:(xs++[UInt8.ofNat (jS v)]).length=xs.length+1:=Xc
 rw[w5,w3]
 refine⟨Xa,Xa,Xf,?_⟩
 have hcs:(H.set id (.buf 1 (xs.length+1+jS v))).Closed:=bf hcl
 simp (disch:=first|exact Zd|omega) [↓zmm,beq,ybc,ybd,ybe,ag,wk,wk2,wk1,wkM,wkL,ay,ybf,hcs]
 exact hl0
def fm(n w:Int):(jl n w).length≤4:=by
 unfold jl;split
 ·rw[n6];omega
 ·simp
theorem Gd:ti Tryz.prog 317=some ⟨.struct [(0,22,false),(1,40,false)],2,32,.agg [.slice .nil 1 [],.int .i64 0]⟩:=krf
theorem Mx:ti Tryz.prog 40=some ⟨.int .i64,1,8,.int .i64 0⟩:=krf
theorem C9:ti Tryz.prog 241=some ⟨.ptr 317,1,8,.nilp⟩:=krf
attribute [go_sem] Gd Mx C9
def w9:PCt
 |[.agg l],_,K=>Dj l∧K (vv (qE l))
 |_,_,_=>False
def Fl:EPp 279 w9:=by
 refine Ype fun _ H K h=>?_
 unfold w9 at h
 split at h<;>try exact h.elim
 rename_i l
 obtain⟨c1,hK⟩:=h
 refine⟨_,hK,?_⟩
 obtain⟨v,rfl,hv⟩:=CG c1
 clear hK c1
 rw[nZ hv]
 have v1:vv v=.agg [.int .u64 ((v/2^64:Nat):Int),.int .u64 ((v%2^64:Nat):Int)]:=rfl
 have hbl:∀ i,i<64→(v%2^64).testBit i=v.testBit i:=fun i hi=>by rw[Nat.testBit_mod_two_pow];simp[hi]
 have hbh:∀ i,(v/2^64).testBit i=v.testBit (i+64):=fun i=>by rw[Nat.testBit_div_two_pow]
 have hx:v/2^64<2^64:=Xa
 have hy:v%2^64<2^64:=Xa
 rw[v1]
 generalize v/2^64=x at *
 generalize v%2^64=y at *
 clear v1
 refine Yfu aD tNq Tryz.func279 [.cell 2 94] fun hcl=>?_
 refine Tq63 ?_
 refine jr (A:=Nat) (fun k=>[(4,.int .i64 (k:Int)),(3,.ptr (H.nx+1+1) 0),(1,.ptr H.nx 0),(2,.ptr (H.nx+1) 0)])
  (fun k=>((H.push (.cells (bits v))).push (.cells [.int .u64 0,.int .u64 0])).push (.cells [.int .u64 ((x%2^k:Nat):Int),.int .u64 ((y%2^k:Nat):Int)])) (fun k=>k≤64) (fun k=>64-k) 0 Xa ?_ fun k hk=>?_
 ·simp only[bnq,enter,my,ltF,ne_eq,Nat.reduceEqDiff,reduceCtorEq,Nat.pow_zero,Nat.mod_one,true_or,and_true]
 refine Tq63 ?_
 refine ax (fun hc=>?_) (fun hc=>?_)
 ·have hk:k<64:=sHc
  have e1:IntKind.i64.wrap ((k:Int)+64)=((k+64:Nat):Int):=Xe
  have e2:IntKind.u64.wrap (k:Int)=(k:Int):=Xt
  have e3:IntKind.i64.wrap ((k:Int)+1)=((k+1:Nat):Int):=Xe
  have g1:=qr v k Xa
  have g2:=qr v (k+64) Xa
  have e4:uc .u64 1 (k:Int)=(((1 <<<k)%2^64:Nat):Int):=A9 1 k
  have lx:x%2^k<2^64:=Nat.lt_of_le_of_lt (Nat.mod_le _ _) hx
  have ly:y%2^k<2^64:=Nat.lt_of_le_of_lt (Nat.mod_le _ _) hy
  have l1:(1 <<<k)%2^64<2^64:=Nat.mod_lt _ Xb
  have o1:=zd _ _ lx l1
  have o2:=zd _ _ ly l1
  have hb1:=hbl k hk
  have hb2:=hbh k
  by_cases c1:v.testBit k=true<;>by_cases c2:v.testBit (k+64)=true
  ·rw[c1]at hb1 g1;rw[c2]at hb2 g2
   rw[uS x k hk hb2]at o1
   rw[uS y k hk hb1]at o2
   simp only[go_sem,zav,byq,e1,e2,e3,e4,iNq,nzq,Nat.mul_one,gN,g1,g2,o1,o2]
   refine⟨Xa,Xa,Xa,Xa,Xa,Xa,k+1,Xa,Xa,?_⟩
   exact Z2
  ·have c2:v.testBit (k+64)=false:=by simpa using c2
   rw[c1]at hb1 g1;rw[c2]at hb2 g2
   have o1:=rk x k hb2
   rw[uS y k hk hb1]at o2
   simp only[go_sem,zav,byq,e1,e2,e3,e4,iNq,nzq,Nat.mul_one,gN,g1,g2,o2]
   refine⟨Xa,Xa,Xa,Xa,Xa,k+1,Xa,Xa,?_⟩
   simp only[bnq,enter,my,ltF,ne_eq,Nat.reduceEqDiff,reduceCtorEq,o1,true_or,and_self]
  ·have c1:v.testBit k=false:=by simpa using c1
   rw[c1]at hb1 g1;rw[c2]at hb2 g2
   have o2:=rk y k hb1
   rw[uS x k hk hb2]at o1
   simp only[go_sem,zav,byq,e1,e2,e3,e4,iNq,nzq,Nat.mul_one,gN,g1,g2,o1]
   refine⟨Xa,Xa,Xa,Xa,Xa,k+1,Xa,Xa,?_⟩
   simp only[bnq,enter,my,ltF,ne_eq,Nat.reduceEqDiff,reduceCtorEq,o2,true_or,and_self]
  ·have c1:v.testBit k=false:=by simpa using c1
   have c2:v.testBit (k+64)=false:=by simpa using c2
   rw[c1]at hb1 g1;rw[c2]at hb2 g2
   have o1:=rk x k hb2
   have o2:=rk y k hb1
   simp only[go_sem,zav,byq,e1,e2,e3,e4,iNq,nzq,Nat.mul_one,gN,g1,g2]
   refine⟨Xa,Xa,Xa,Xa,k+1,Xa,Xa,?_⟩
   simp only[bnq,enter,my,ltF,ne_eq,Nat.reduceEqDiff,reduceCtorEq,o1,o2,true_or,and_self]
 ·have hk:k=64:=sHc
  subst hk
  have m1:x%2^64=x:=Nat.mod_eq_of_lt hx
  have m2:y%2^64=y:=Nat.mod_eq_of_lt hy
  simp only[go_sem,byq,m1,m2]
  exact Z1
end Go.AL
