/- Lemmas of the proof; no condition. -/
import Derived.Test.YtpbnggedofiinaaGreatM19m
set_option linter.all false
set_option maxRecDepth 10000
set_option maxHeartbeats 32000000
open Go Go.AL Go.Proofs
namespace Go.AL
def u9 (k:Nat):Int:=([1,1,2,3]:List Int).getD k 0
def p8 (S:Sch) (b:List UInt8) (v:Nat):(Int × SEntry) × Nat :=
 let e:=er S b (cp v 2) (cv b (cp v 1) 4)
 ((u9 (cv b (cp v 0) 4),if u9 (cv b (cp v 0) 4)=3 then { e.1 with act:=0,args:=[] } else e.1),e.2)
def rA:List AV→AHeap→(AEnd→AHeap→Prop)→Prop
 |[.ptr id 0,.agg l],H,K=>∃ S:Sch,(l=cQ S∧GenS S)∧onC (H.get id) fun b v=>K (.ret (cV (p8 S b v).1)) (H.set id (cr b (p8 S b v).2))
 |_,_,_=>False
theorem Ae:EntOk Tryz.prog 30 (Ent.effect rA):=by
 refine EntOk.effect fun args H K h=>?_
 unfold rA at h
 split at h
 rotate_left
 ·exact h.elim
 rename_i id l
 obtain ⟨S,⟨rfl,hS⟩,h⟩:=h
 obtain ⟨b,v,hg,hb,hv,hK⟩:=fp h
 refine ⟨_,_,hK,?_⟩
 clear hK h
 obtain ⟨R,hR⟩:∃ R,p8 S b v=R:=⟨_,rfl⟩
 rw [hR]
 unfold p8 at hR
 refine ACalls.fW ah (tCq ff (tCq vV tNq)) Tryz.func30 [.cell 4 92] (by simp only [zlf];omega) (T:=ae [(1,[[],[],[],[],[2],[],[],[],[2],[2,6,8],[],[],[2,4,6,8,9,11]]),(801,[[11,92],[100000]])]) (h:=fun hcl hlt=>?_)
 clear hlt
 have hid:=glq hg
 have hne:=iJ hid
 have hgc:=fo (b:=b) hid
 have hcl2:∀ w,(H.set id (cr b w)).Closed:=fun w=>aP hcl fk
 have h4:=cn (b:=b) (v:=cp v 0) (n:=4) (by decide)
 have h41:=cn (b:=b) (v:=cp v 1) (n:=4) (by decide)
 have hL:=Gr (AV.int .i64) .junk 1 1 2 3 h4
 simp only [go_sem,byq,ay,lL,cQ,hg,hgc,hne,av hb,aG,ap,aI,hL,iNq]
 refine ⟨⟨by decide,by decide⟩,⟨by omega,by omega⟩,⟨by decide,by decide⟩,S,⟨rfl,hS,by omega,by omega⟩,?_⟩
 rw [cz hb (ud _ _)]
 unfold oq
 dsimp only at hR ⊢
 generalize er S b (cp v 2) ((cv b (cp v 1) 4:Nat):Int)=E at *
 obtain ⟨e,w⟩:=E
 dsimp only at hR ⊢
 have hk:([1,1,2,3]:List Int).getD (cv b (cp v 0) 4) 0=u9 (cv b (cp v 0) 4):=rfl
 rw [hk]
 generalize u9 (cv b (cp v 0) 4)=kd at *
 simp only [go_sem,byq,bc,aN]
 refine af (fun h3=>?_) (fun h3=>?_)
 ·have h3':kd=3:=by simp at h3;exact h3
  rw [if_pos h3'] at hR
  subst hR
  simp only [go_sem,byq,bc,aN]
  refine ⟨?_,by repeat first|exact .refl _|refine .push ?_ _,hcl2 _,kq _⟩
  simp [wk,wk2,wkL,wk1,wkM,cV,kB,aN]
 ·have h3':¬ kd=3:=by simp at h3;exact h3
  rw [if_neg h3'] at hR
  subst hR
  simp only [go_sem,byq,bc,aN]
  refine ⟨?_,by repeat first|exact .refl _|refine .push ?_ _,hcl2 _,kq _⟩
  simp [wk,wk2,wkL,wk1,wkM,cV,kB,aN]
def pf (S:Sch) (b:List UInt8):Nat→Nat→List (Int × SEntry) × Nat
 |0,v=>([],v)
 |n+1,v=>((p8 S b (min v b.length)).1::(pf S b n (p8 S b (min v b.length)).2).1,(pf S b n (p8 S b (min v b.length)).2).2)
def Bg (k:Nat):Int:=([1,1,2,7,9]:List Int).getD k 0
def jj (S:Sch) (b:List UInt8) (v:Nat):SReq × Nat :=
 let k:=cv b (cp v 0) 6
 let ro:=Bg (cv b (cp v 1) 5)
 if k=0 then ({ cm with kind:=1,role:=ro,el:=cv b (cp v 2) 5 },cp v 3)
 else if k=2 then ({ cm with kind:=3,role:=ro,el:=cv b (cp v 2) 5,ups:=(pf S b (cv b (cp v 3) 5) (cp v 4)).1 },(pf S b (cv b (cp v 3) 5) (cp v 4)).2)
 else if k=3 then ({ cm with kind:=4,role:=ro,table:=cv b (cp v 2) 6 },cp v 3)
 else if k=4 then ({ cm with kind:=5,role:=ro,frm:=cv b (cp v 2) 20,count:=cv b (cp v 3) 26 },cp v 4)
 else if k=5 then ({ cm with kind:=6,port:=cv b (cp v 2) 20,data:=(np b (min (cp v 3) b.length)).1 },(np b (min (cp v 3) b.length)).2)
 else ({ cm with kind:=2 },cp v 2)
theorem HH {α:Type} (f:Int→α) (d:α) (a b c e g:Int) {k:Nat} (h:k<5):[f a,f b,f c,f e,f g].getD k d=f ([a,b,c,e,g].getD k 0):=by
 match k,h with
 |0,_|1,_|2,_|3,_|4,_=>rfl
def pB:List AV→AHeap→(AEnd→AHeap→Prop)→Prop
 |[.ptr id 0,.agg l],H,K=>∃ S:Sch,(l=cQ S∧GenS S)∧onC (H.get id) fun b v=>K (.ret (bb (jj S b v).1)) (H.set id (cr b (jj S b v).2))
 |_,_,_=>False
theorem yd:EntOk Tryz.prog 7 (Ent.effect pB):=by
 refine EntOk.effect fun args H K h=>?_
 unfold pB at h
 split at h
 rotate_left
 ·exact h.elim
 rename_i id l
 obtain ⟨S,⟨rfl,hS⟩,h⟩:=h
 obtain ⟨b,v,hg,hb,hv,hK⟩:=fp h
 refine ⟨_,_,hK,?_⟩
 clear hK h
 obtain ⟨R,hR⟩:∃ R,jj S b v=R:=⟨_,rfl⟩
 rw [hR]
 unfold jj at hR
 dsimp only at hR
 refine ACalls.fW ah (tCq ff (tCq Ae (tCq B7 tNq))) Tryz.func7 [.cell 4 41] (by simp only [zlf];omega) (T:=ae [(11,[[],[],[],[],[3],[3,4],[1,3,4],[],[1,3,4]]),(8,[[1]])]) (h:=fun hcl hlt=>?_)
 clear hlt
 have hid:=glq hg
 have hne:=iJ hid
 have hgc:=fo (b:=b) hid
 have hcl2:∀ w,(H.set id (cr b w)).Closed:=fun w=>aP hcl fk
 have h6:=cn (b:=b) (v:=cp v 0) (n:=6) (by decide)
 have h5:=cn (b:=b) (v:=cp v 1) (n:=5) (by decide)
 have hL:=HH (AV.int .i64) .junk 1 1 2 7 9 h5
 have e1:IntKind.i64.wrap (1+((cv b (cp v 0) 6:Nat):Int))=1+((cv b (cp v 0) 6:Nat):Int):=by rw [wrap_i64]<;>omega
 have hu5:∀ u,IntKind.u64.wrap ((cv b u 5:Nat):Int)=((cv b u 5:Nat):Int):=fun u=>by
  have:=cn (b:=b) (v:=u) (n:=5) (by decide)
  rw [cG (by omega) (by omega)]
 have hd5:∀ u,cv b u 5/18446744073709551616=0:=fun u=>by
  have:=cn (b:=b) (v:=u) (n:=5) (by decide)
  omega
 have hm5:∀ u,cv b u 5 % 18446744073709551616=cv b u 5:=fun u=>by
  have:=cn (b:=b) (v:=u) (n:=5) (by decide)
  omega
 simp only [go_sem,byq,ay,cQ,hg,hgc,hne,av hb,aG,ap,aI,hL,iNq,e1]
 have hr:([1,1,2,7,9]:List Int).getD (cv b (cp v 1) 5) 0=Bg (cv b (cp v 1) 5):=rfl
 rw [hr]
 refine ⟨⟨by decide,by decide⟩,⟨by decide,by decide⟩,⟨by omega,by omega⟩,?_⟩
 generalize Bg (cv b (cp v 1) 5)=ro at *
 have hk6:cv b (cp v 0) 6=0∨cv b (cp v 0) 6=1∨cv b (cp v 0) 6=2∨cv b (cp v 0) 6=3∨cv b (cp v 0) 6=4∨cv b (cp v 0) 6=5:=by omega
 rcases hk6 with hk|hk|hk|hk|hk|hk
 ·have hkk:(1+((cv b (cp v 0) 6:Nat):Int))=1:=by omega
  rw [hkk]
  rw [hk] at hR
  simp only [Nat.reduceEqDiff,if_true,if_false,Nat.succ_ne_self,Nat.zero_ne_one,Nat.one_ne_zero,reduceCtorEq,Nat.reduceEqDiff] at hR
  subst hR
  simp only [go_sem,byq,Int.reduceBEq,ay,gh,hg,hgc,hne,av hb,aG,ap,aI,iNq,hu5]
  (repeat with_reducible refine And.intro (by exact ⟨by decide,by decide⟩) ?_)
  refine ⟨?_,by repeat first|exact .refl _|refine .push ?_ _,hcl2 _,dN _⟩
  simp [wk,wk2,wkL,wk1,wkM,bb,aF,cm,hd5,hm5,zll]
 skip
 ·have hkk:(1+((cv b (cp v 0) 6:Nat):Int))=2:=by omega
  rw [hkk]
  rw [hk] at hR
  simp only [Nat.reduceEqDiff,if_true,if_false,Nat.succ_ne_self,Nat.zero_ne_one,Nat.one_ne_zero,reduceCtorEq,Nat.reduceEqDiff] at hR
  subst hR
  simp only [go_sem,byq,Int.reduceBEq,ay,gh,hg,hgc,hne,av hb,aG,ap,aI,iNq,hu5]
  (repeat with_reducible refine And.intro (by exact ⟨by decide,by decide⟩) ?_)
  refine ⟨?_,by repeat first|exact .refl _|refine .push ?_ _,hcl2 _,dN _⟩
  simp [wk,wk2,wkL,wk1,wkM,bb,aF,cm,hd5,hm5,zll]
 skip
 ·have hkk:(1+((cv b (cp v 0) 6:Nat):Int))=3:=by omega
  rw [hkk]
  rw [hk] at hR
  simp only [Nat.reduceEqDiff,if_true,if_false,Nat.succ_ne_self,Nat.zero_ne_one,Nat.one_ne_zero,reduceCtorEq,Nat.reduceEqDiff] at hR
  subst hR
  simp only [go_sem,byq,Int.reduceBEq,ay,gh,hg,hgc,hne,av hb,aG,ap,aI,iNq,hu5]
  have hc5:=cn (b:=b) (v:=cp v 3) (n:=5) (by decide)
  refine ⟨⟨by decide,by decide⟩,?_⟩
  refine jq 5 4 6 (cs:=[.int .i64 3,.int .i64 ro,.int .u64 0,.int .u64 ((cv b (cp v 2) 5:Nat):Int),.slice .nil 1 [],.int .i64 0,.int .i64 0,.int .i64 0,.int .i64 0,.slice .nil 1 []]) rfl (by simp only [go_sem]) rfl ?_
  simp only [bk,bh,bhq,Nat.reduceMod,Nat.reduceDiv,aA,az,aB,aZ,aC,aY,aS,aU,aV,List.take_succ_cons,List.take_zero,List.drop_succ_cons,List.drop_zero,go_sem,byq,Int.reduceBEq,ay,gh,hg,hgc,hne,av hb,aG,ap,aI,iNq,hu5,List.set_cons_succ,List.set_cons_zero]
  have hcR:∀ (w:Nat) (us:List (Int × SEntry)),((((((H.set id (cr b w)).push (.cells (cQ S))).push (.cells [.int .i64 0,.int .i64 0,.int .u64 0,.int .u64 0,.slice .nil 1 [],.int .i64 0,.int .i64 0,.int .i64 0,.int .i64 0,.slice .nil 1 []])).push (.cells [.int .i64 3,.int .i64 ro,.int .u64 0,.int .u64 ((cv b (cp v 2) 5:Nat):Int),.slice (.own (H.nx+1+1+1+1)) 6 (us.map cV),.int .i64 0,.int .i64 0,.int .i64 0,.int .i64 0,.slice .nil 1 []])).push (.buf 1 5)).push (.buf 6 us.length)).Closed:=fun w us=>by
   have h0:((((((H.set id (cr b w)).push (.cells (cQ S))).push (.cells [.int .i64 0,.int .i64 0,.int .u64 0,.int .u64 0,.slice .nil 1 [],.int .i64 0,.int .i64 0,.int .i64 0,.int .i64 0,.slice .nil 1 []])).push (.cells [])).push (.buf 1 5)).push (.buf 6 us.length)).Closed:=by
    repeat' (first|exact hcl2 _|refine bj ?_|refine aD ?_ ?_)
    ·exact ltL_iff.2 fun j hj=>AV.lt_cells (rh S) j hj
    ·simp [lt_sliceL,znu,znv,znf]
    ·trivial
   have h1:=aP (i:=H.nx+1+1) (cs:=[.int .i64 3,.int .i64 ro,.int .u64 0,.int .u64 ((cv b (cp v 2) 5:Nat):Int),.slice (.own (H.nx+1+1+1+1)) 6 (us.map cV),.int .i64 0,.int .i64 0,.int .i64 0,.int .i64 0,.slice .nil 1 []]) h0 (by
    simp [znu,znv,znf,zle,zlf,lt_sliceL]
    exact ltL_iff.2 fun j hj=>by rw [List.getElem_map];exact kq _)
   simp only [go_sem,hne] at h1
   exact h1
  generalize hU:pf S b (cv b (cp v 3) 5) (cp v 4)=U
  refine ⟨⟨by decide,by decide⟩,?_⟩
  refine aK (A:=Nat × Nat × List (Int × SEntry)) (fun x=>[(0,.ptr id 0),(3,.ptr H.nx 0),(4,.ptr (H.nx+1) 0),(5,.ptr (H.nx+1+1) 0),(7,.int .i64 (x.1:Int))]) (fun x=>((((((H.set id (cr b x.2.1)).push (.cells (cQ S))).push (.cells [.int .i64 0,.int .i64 0,.int .u64 0,.int .u64 0,.slice .nil 1 [],.int .i64 0,.int .i64 0,.int .i64 0,.int .i64 0,.slice .nil 1 []])).push (.cells [.int .i64 3,.int .i64 ro,.int .u64 0,.int .u64 ((cv b (cp v 2) 5:Nat):Int),.slice (.own (H.nx+1+1+1+1)) 6 (x.2.2.map cV),.int .i64 0,.int .i64 0,.int .i64 0,.int .i64 0,.slice .nil 1 []])).push (.buf 1 5)).push (.buf 6 x.2.2.length))) (fun x=>x.2.2.length+x.1≤4∧x.2.2++(pf S b x.1 x.2.1).1=U.1∧(pf S b x.1 x.2.1).2=U.2) (fun x=>x.1) (cv b (cp v 3) 5,cp v 4,[]) ⟨by simp;omega,by rw [hU];rfl,by rw [hU]⟩ ?_ fun x hx=>?_
  ·refine ⟨by simp only [zkq,zkv,zle,zlf];omega,lRq _,hcR _ _,?_,?_⟩
   ·simp [ltF,znf,znn,zle,zlf]
    try omega
   ·simp [cf,wk2,wk1,wkM,Fr.get]
  obtain ⟨n,w,us⟩:=x
  obtain ⟨hn,h1,h2⟩:=hx
  dsimp only at hn h1 h2 ⊢
  simp only [go_sem]
  refine af (fun hc=>?_) (fun hc=>?_)
  ·obtain ⟨n,rfl⟩:∃ m,n=m+1:=⟨n - 1,by simp at hc;omega⟩
   have e5:IntKind.i64.wrap (((n+1:Nat):Int) - 1)=((n:Nat):Int):=by rw [wrap_i64]<;>omega
   simp only [go_sem,byq,Int.reduceBEq,ay,gh,hg,hgc,hne,av hb,aG,ap,aI,iNq,hu5,rA,cQ,List.set_cons_succ,List.set_cons_zero]
   refine ⟨S,⟨rfl,hS⟩,?_⟩
   try simp only [go_sem,byq,Int.reduceBEq,ay,gh,hg,hgc,hne,av hb,aG,ap,aI,iNq,hu5,List.set_cons_succ,List.set_cons_zero]
   generalize hE:p8 S b (min w b.length)=E at *
   simp only [pf,hE] at h1 h2
   obtain ⟨⟨ek,ee⟩,ew⟩:=E
   simp only [go_sem,byq,cV,kB,aN,e5]
   refine ⟨⟨by omega,by omega,fun z hz=>by rw [List.mem_singleton] at hz;subst hz;rfl⟩,(n,ew,us++[(ek,ee)]),⟨by simp only [lAq,List.length_cons,List.length_nil];omega,by rw [← h1];simp [List.append_assoc],h2⟩,by dsimp only;omega,?_⟩
   refine ⟨by simp only [zle,zlf];omega,?_,hcR _ _,?_,?_⟩
   ·simp only [List.map_append,List.map_cons,List.map_nil,cV,kB,aN,lAq,List.length_cons,List.length_nil,cQ,List.cons_append,List.nil_append]
    repeat first|exact .refl _|refine .push ?_ _
   ·simp [ltF,znf,znn,zle,zlf]
    try omega
   ·simp [cf,wk2,wk1,wkM,Fr.get]
  ·have hn0:n=0:=by simp at hc;omega
   subst hn0
   simp only [pf,List.append_nil] at h1 h2
   rw [h1]
   simp only [go_sem,byq,Int.reduceBEq,ay,gh,hg,hgc,hne,av hb,aG,ap,aI,iNq,hu5]
   rw [← h2]
   refine ⟨?_,by repeat first|exact .refl _|refine .push ?_ _,hcl2 _,dN _⟩
   simp [wk,wk2,wkL,wk1,wkM,bb,aF,cm,hd5,hm5,zll]
 skip
 ·have hkk:(1+((cv b (cp v 0) 6:Nat):Int))=4:=by omega
  rw [hkk]
  rw [hk] at hR
  simp only [Nat.reduceEqDiff,if_true,if_false,Nat.succ_ne_self,Nat.zero_ne_one,Nat.one_ne_zero,reduceCtorEq,Nat.reduceEqDiff] at hR
  subst hR
  simp only [go_sem,byq,Int.reduceBEq,ay,gh,hg,hgc,hne,av hb,aG,ap,aI,iNq,hu5]
  (repeat with_reducible refine And.intro (by exact ⟨by decide,by decide⟩) ?_)
  refine ⟨?_,by repeat first|exact .refl _|refine .push ?_ _,hcl2 _,dN _⟩
  simp [wk,wk2,wkL,wk1,wkM,bb,aF,cm,hd5,hm5,zll]
 skip
 ·have hkk:(1+((cv b (cp v 0) 6:Nat):Int))=5:=by omega
  rw [hkk]
  rw [hk] at hR
  simp only [Nat.reduceEqDiff,if_true,if_false,Nat.succ_ne_self,Nat.zero_ne_one,Nat.one_ne_zero,reduceCtorEq,Nat.reduceEqDiff] at hR
  subst hR
  simp only [go_sem,byq,Int.reduceBEq,ay,gh,hg,hgc,hne,av hb,aG,ap,aI,iNq,hu5]
  (repeat with_reducible refine And.intro (by exact ⟨by decide,by decide⟩) ?_)
  refine ⟨?_,by repeat first|exact .refl _|refine .push ?_ _,hcl2 _,dN _⟩
  simp [wk,wk2,wkL,wk1,wkM,bb,aF,cm,hd5,hm5,zll]
 skip
 ·have hkk:(1+((cv b (cp v 0) 6:Nat):Int))=6:=by omega
  rw [hkk]
  rw [hk] at hR
  simp only [Nat.reduceEqDiff,if_true,if_false,Nat.succ_ne_self,Nat.zero_ne_one,Nat.one_ne_zero,reduceCtorEq,Nat.reduceEqDiff] at hR
  subst hR
  simp only [go_sem,byq,Int.reduceBEq,ay,gh,hg,hgc,hne,av hb,aG,ap,aI,iNq,hu5]
  refine ⟨⟨by decide,by decide⟩,?_,by repeat first|exact .refl _|refine .push ?_ _,hcl2 _,dN _⟩
  simp [wk,wk2,wkL,wk1,wkM,bb,aF,cm,hd5,hm5,zll]
def ke:List AV→AHeap→(AV→Prop)→Prop
 |[],_,K=>K (.bool true)
 |_,_,_=>False
theorem Aj:EntOk Tryz.prog 18 (Ent.pure ke):=by
 refine Ype fun _ H K h=>?_
 unfold ke at h
 split at h
 rotate_left
 ·exact h.elim
 refine ⟨_,h,?_⟩
 clear h
 refine ACalls.fW ah (tCq E0 tNq) Tryz.func18 [.tmp 0] (nrq _) (T:=ae [(1,[[4]])]) (h:=fun hcl hlt=>?_)
 clear hlt
 simp only [bk,bh,bhq,Nat.reduceMod,Nat.reduceDiv,aA,az,aB,aZ,aC,aY,aS,aU,aV,List.take_succ_cons,List.take_zero,List.drop_succ_cons,List.drop_zero,go_sem,byq,sg]
 refine gP 4 (bb ⟨2,0,0,[],0,0,0,0,[]⟩) ?_ ?_
 ·simp [Fr.get,bb,aF,jv,fP,fK,gH,fM,gC,jw,wkM,nP,zll]
 simp only [bk,bh,bhq,Nat.reduceMod,Nat.reduceDiv,aA,az,aB,aZ,aC,aY,aS,aU,aV,List.take_succ_cons,List.take_zero,List.drop_succ_cons,List.drop_zero,go_sem,byq,sg,bb]
 refine ⟨⟨2,0,0,[],0,0,0,0,[]⟩,⟨rfl,⟨Nat.two_pow_pos 128,Nat.zero_le _,Nat.zero_le _,fun u hu=>by cases hu⟩⟩,?_⟩
 have he:ig ⟨2,0,0,[],0,0,0,0,[]⟩=([2],0):=by decide
 rw [he]
 simp (disch:=first|exact Zd|omega) [↓zmo,beq,List.take_of_length_le,List.drop_append,List.take_append,ag,wk,wk2,wk1,wkM,wkL,ak,List.drop_eq_nil_of_le,hcl]
 exact bM (fun _=>trivial) (fun h=>by cases h)
theorem zN {S:Sch} (hG:GenS S) {b:List UInt8} {v:Nat} {n:Int}:COk (er S b v n).1:=by
 have hE:=qR hG (b:=b) (v:=v) (n:=n)
 have hkl:=hG.kl _ (lk (S:=S) (n:=n) hG.t1)
 exact ⟨hE.ok hkl hG.pl,fun x hx=>Nat.lt_of_lt_of_le (hE.ao x hx) (by decide)⟩
theorem DQ {S:Sch} (hG:GenS S) {b:List UInt8} {v:Nat}:COk (p8 S b v).1.2:=by
 have h:=zN hG (b:=b) (v:=cp v 2) (n:=(cv b (cp v 1) 4:Nat))
 unfold p8
 dsimp only
 split
 ·exact ⟨⟨h.ok.ml,Nat.zero_le _,h.ok.mo⟩,fun x hx=>by cases hx⟩
 ·exact h
theorem wB {S:Sch} (hG:GenS S) {b:List UInt8}:∀ (n v:Nat),(pf S b n v).1.length=n∧∀ u∈(pf S b n v).1,COk u.2
 |0,v=>⟨rfl,fun u hu=>by cases hu⟩
 |n+1,v=>by
  obtain ⟨h1,h2⟩:=wB hG n (p8 S b (min v b.length)).2 (b:=b)
  refine ⟨by simp only [pf,List.length_cons,h1],fun u hu=>?_⟩
  simp only [pf,List.mem_cons] at hu
  rcases hu with rfl|hu
  ·exact DQ hG
  ·exact h2 u hu
theorem Bm {S:Sch} (hG:GenS S) {b:List UInt8} {v:Nat}:ROk (jj S b v).1∧(jj S b v).1.ups.length≤5:=by
 have z:∀ u:Int × SEntry,u∈([]:List (Int × SEntry))→COk u.2:=fun u hu=>by cases hu
 have h5:=cn (b:=b) (v:=cp v 2) (n:=5) (by decide)
 have h6:=cn (b:=b) (v:=cp v 3) (n:=5) (by decide)
 have hp:5<2^128:=by decide
 have h0:0<2^128:=by decide
 obtain ⟨g1,g2⟩:=wB hG (b:=b) (cv b (cp v 3) 5) (cp v 4)
 have hf:=tu (b:=b) (v:=min (cp v 3) b.length)
 unfold jj
 dsimp only
 repeat' split
 ·exact ⟨⟨by dsimp only;omega,Nat.zero_le _,Nat.zero_le _,z⟩,Nat.zero_le _⟩
 ·exact ⟨⟨by dsimp only;omega,by dsimp only;omega,Nat.zero_le _,g2⟩,by dsimp only;omega⟩
 ·exact ⟨⟨h0,Nat.zero_le _,Nat.zero_le _,z⟩,Nat.zero_le _⟩
 ·exact ⟨⟨h0,Nat.zero_le _,Nat.zero_le _,z⟩,Nat.zero_le _⟩
 ·exact ⟨⟨h0,Nat.zero_le _,by dsimp only;omega,z⟩,Nat.zero_le _⟩
 ·exact ⟨⟨h0,Nat.zero_le _,Nat.zero_le _,z⟩,Nat.zero_le _⟩
end Go.AL
