/- Lemmas of the proof; no condition. -/
import Derived.Test.YtjffcopmhkcejaaGreatE04v
import Derived.Test.YtjffcopmhkcejaaGreatLVis
import Derived.Test.YtjffcopmhkcejaaGreatAlDefer
set_option linter.all false
set_option maxRecDepth 10000
set_option maxHeartbeats 32000000
open Go Go.AL Go.Proofs
namespace Go.AL
theorem QO:ti Tryz.prog 216=some ⟨.struct [],0,0,.agg []⟩:=krf
theorem IG:ti Tryz.prog 220=some ⟨.struct [(0,34,false),(10,218,false),(11,218,false)],12,224,.agg [.slice .nil 1 [],.slice .nil 1 [],.slice .nil 1 [],.slice .nil 1 [],.slice .nil 1 [],.slice .nil 1 [],.slice .nil 1 [],.slice .nil 1 [],.int .i64 0,.int .i64 0,.nilm,.nilm]⟩:=krf
theorem My:ti Tryz.prog 302=some ⟨.ptr 220,1,8,.nilp⟩:=krf
attribute [go_sem] QO IG My
def gz(l:BL):List (AV × AV):=l.map fun v=>(.int .i64 v.1,.bool v.2)
theorem oJ(n:Int):∀ l:BL,sH (gz l) (.int .i64 n) (.bool false) false=.bool (lkB l n)
 |[]=>rfl
 |v::l=>by
  have ih:=oJ n l
  unfold sH gz at ih ⊢
  unfold lkB
  rw[yae,ki]
  by_cases h:v.1=n
  ·subst h;simp[feq,rq]
  ·rw[if_neg h]
   simp[feq,rq,h]
   simpa using ih
def qU{l:BL}(h:okB l):∀ p∈gz l,iZ Tryz.prog 3 p.1:=by
 intro p hp
 obtain⟨v,hv,rfl⟩:=List.mem_map.1 hp
 exact dc _ (h v hv)
def ph(f:Nat):ECt
 |[.ptr w 0,.int .i64 n],H,K=>∃ (S:Sch) (i1 i2:Nat) (o d:BL) (b:Bool) (o' d':BL),(H.get w=some (.cells (aR S++[.mapv i1,.mapv i2]))∧H.get i1=some (.mapo (gz o))∧H.get i2=some (.mapo (gz d))∧i1≠i2∧okB o∧okB d∧j64 n∧S.refs.length≤1000000∧(∀ r∈S.refs,j64 r.toTable)∧pT S.refs f n o d=some (b,o',d')) ∧
   K (if b then .panic (.iface 216 (.agg []))else .ret (.tup [])) ((H.set i1 (.mapo (gz o'))).set i2 (.mapo (gz d')))
 |_,_,_=>False
def Ih{k v z:AV}{es:List (AV × AV)}(hk:k.flat=true):(iQ ((k,v)::es))[((r7 ((k,z)::es) k:Nat):Int).toNat]?=some k:=by
 have h:=tE ((k,v)::es) k (by rw[FU hk];rfl)
 rw[iNq]
 exact h
def Qp{f:Nat}(h_wVis:EEe 153 (ph f)):EEe 153 (ph (f+1)):=by
 refine Yef fun _ H K h=>?_
 unfold ph at h
 split at h<;>try exact h.elim
 rename_i w n
 obtain⟨S,i1,i2,o,d,b,o',d',⟨hw,h1,h2,hne,ho,hd,hn,hl,hr,hv⟩,hK⟩:=h
 refine⟨_,_,hK,?_⟩
 clear hK
 have lw:=glq hw
 have l1:=glq h1
 have l2:=glq h2
 have hcs:=aB hw
 have s1:=fN h1
 have s2:=fN h2
 have go:=qU ho
 have gd:=qU hd
 have gn:=dc n hn
 have m1:=oJ n o
 have m2:=oJ n d
 unfold sH at m1 m2
 simp only[Bool.false_eq_true,if_false]at m1 m2
 unfold pT at hv
 unfold aR at hw hcs
 simp only[yal,yak]at hw hcs
 cases b1:lkB o n with
 |true=>
  rw[b1,if_pos rfl]at hv
  cases hv
  rw[s1,s2,if_pos rfl]
  refine Yfu aD (tCq h_wVis tNq) Tryz.func153 [] fun hcl=>?_
  rw[b1]at m1
  simp only[go_sem,hcs,zix,h1,m1,hw]
  refine⟨⟨fM,go,gn,rfl⟩,?_⟩
  try simp only[go_sem,m1,↓Iy,zi]
  exact Z1
 |_=>
  rw[b1,if_neg Bool.false_ne_true]at hv
  cases b2:lkB d n with
  |true=>
   rw[b2,if_pos rfl]at hv
   cases hv
   rw[s1,s2,if_neg Bool.false_ne_true]
   refine Yfu aD (tCq h_wVis tNq) Tryz.func153 [] fun hcl=>?_
   rw[b1]at m1
   rw[b2]at m2
   simp only[go_sem,hcs,zix,h1,h2,m1,m2,hw]
   refine⟨⟨fM,go,gn,rfl⟩,?_⟩
   try simp only[go_sem,m1,m2,hcs,zix,h1,h2,hw]
   refine⟨⟨fM,gd,gn,rfl⟩,?_⟩
   try simp only[go_sem,m2]
   exact Z1
  |_=>
   rw[b2,if_neg Bool.false_ne_true]at hv
   have lw1:(w=i1)=False:=eq_false (fun e=>by subst e;rw[h1]at hw;cases hw)
   have lw2:(w=i2)=False:=eq_false (fun e=>by subst e;rw[h2]at hw;cases hw)
   have hne':(i1=i2)=False:=eq_false hne
   have hne'':(i2=i1)=False:=eq_false (Ne.symm hne)
   refine Yfv aD (tCq h_wVis tNq) Tryz.func153 [] fun hcl hlt=>?_
   have hlw:=hlt _ List.mem_cons_self
   clear hlt
   rw[b1]at m1
   rw[b2]at m2
   have hgl:=hcl w _ hw
   simp only[go_sem,hcs,zix,ziy,h1,h2,m1,m2,hw]
   refine⟨⟨fM,go,gn,rfl⟩,?_⟩
   try simp only[go_sem,m1,m2,hcs,zix,ziy,h1,h2,hw]
   refine⟨⟨fM,gd,gn,rfl⟩,?_⟩
   try simp only[go_sem,m1,m2,hcs,zix,ziy,h1,h2,hw]
   refine⟨⟨fM,go,gn,rfl,rfl⟩,?_⟩
   try simp only[go_sem,m1,m2,hcs,zix,ziy,h1,h2,hw,ybb,lw1]
   obtain⟨R0,hR0⟩:∃ R0,uJ (pT S.refs f) n S.refs ((n,true)::o) d=R0:=⟨_,rfl⟩
   rw[hR0]at hv
   have hrow:((AV.int IntKind.i64 n,AV.bool true)::gz o)=gz ((n,true)::o):=rfl
   have ho1:okB ((n,true)::o):=fun v hv'=>by
    rcases List.mem_cons.1 hv' with rfl|hv'
    ·exact hn
    ·exact ho v hv'
   rw[hrow]
   have hGw:∀ a b:BL,((H.set i1 (.mapo (gz a))).set i2 (.mapo (gz b))).get w=H.get w:=fun a b=>by
    rw[aF,if_neg (by rw[lw2];exact id),aF,if_neg (by rw[lw1];exact id)]
   have hG1:∀ a b:BL,((H.set i1 (.mapo (gz a))).set i2 (.mapo (gz b))).get i1=some (.mapo (gz a)):=fun a b=>by
    rw[aF,if_neg hne,aF,if_pos rfl,if_pos l1]
   have hG2:∀ a b:BL,((H.set i1 (.mapo (gz a))).set i2 (.mapo (gz b))).get i2=some (.mapo (gz b)):=fun a b=>by
    rw[aF,if_pos rfl,if_pos (by rw[zld];exact l2)]
   have hX:∀ a b a' b':AObj,((((H.set i1 a).set i2 b).set i1 a').set i2 b')=(H.set i1 a').set i2 b':=fun a b a' b'=>by
    exact Y133
   have hC:∀ a b:BL,((H.set i1 (.mapo (gz a))).set i2 (.mapo (gz b))).Closed:=fun a b=>aV (aV hcl)
   have hs0:H.set i1 (.mapo (gz ((n,true)::o)))=(H.set i1 (.mapo (gz ((n,true)::o)))).set i2 (.mapo (gz d)):=by
    refine(fN ?_).symm
    rw[aF,if_neg (Ne.symm hne)];exact h2
   rw[hs0]
   have hcw:=aB ((hGw ((n,true)::o) d).trans hw)
   simp only[go_sem,hcw,ybb]
   have hm:∀ n',AV.lt n' (.slice .any 6 (S.refs.map bc)):=fun n'=>by
    rw[AV.lt]
    exact⟨fun id e=>(by cases e),fun j hj=>by simp[bc,znp,zns,znt,znd]⟩
   refine aG (A:=Nat × BL × BL) (fun a=>[(0,.ptr w 0),(1,.int .i64 n),(29,.slice .any 6 (S.refs.map bc)),(30,.int .i64 (S.refs.length:Int)),(31,.int .i64 (a.1:Int))]) (fun a=>(H.set i1 (.mapo (gz a.2.1))).set i2 (.mapo (gz a.2.2)))
    (fun a=>a.1≤S.refs.length∧okB a.2.1∧okB a.2.2∧uJ (pT S.refs f) n (S.refs.drop a.1) a.2.1 a.2.2=R0) (fun a=>S.refs.length-a.1) (0,(n,true)::o,d) ⟨Nat.zero_le _,ho1,hd,hR0⟩ ?_ fun a ha=>?_
   ·refine⟨by(try simp only[zko,zkt,zld]);omega,lRq _,hC _ _,?_,?_⟩
    ·simp[ltF,znd,znl,hm,zld,lw]
    ·exact Y14
   obtain⟨k,o2,d2⟩:=a
   obtain⟨hk,hgo,hgd,hL⟩:=ha
   dsimp only at hk hgo hgd hL ⊢
   refine Tq20 ?_
   refine ax (fun hc=>?_) (fun hc=>?_)
   ·have hk':k<S.refs.length:=sHc
    obtain⟨x,hx⟩:∃ x,x=S.refs[k]:=⟨_,rfl⟩
    have hd':S.refs.drop k=x::S.refs.drop (k+1):=by rw[hx];exact dcq hk'
    have hg':=a9 (f:=bc) (l:=S.refs) (k:=k) (x:=x) (by rw[gQq hk',hx])
    have e5:=Yk5 k
    have hxr:=hr x (by rw[hx];exact gMq hk')
    have hcx:bc x=.agg [.int .i64 x.table,.int .i64 x.key,.int .i64 x.action,.int .i64 x.param,.int .i64 x.toTable,.int .i64 x.toKey]:=rfl
    rw[hcx]at hg'
    rw[hd']at hL
    unfold uJ at hL
    simp only[go_sem,iNq,ybb,hg']
    refine⟨Xa,?_⟩
    cases ce:x.table==n with
    |false=>
     rw[ce,if_neg Bool.false_ne_true]at hL
     simp only[go_sem,ce,e5]
     refine⟨(k+1,o2,d2),⟨Xd,hgo,hgd,hL⟩,Xd,(show H.nx≤H.nx from nrq _),by repeat first|exact .refl _|refine .push ?_ _,hC _ _,?_,?_⟩
     ·simp[ltF,znd,znl,hm,zld,lw]
     ·exact Y14
    |true=>
     rw[ce,if_pos rfl]at hL
     simp only[go_sem,ce,e5,ph]
     have lwn:(w=H.nx)=False:=eFo
     have l1n:(i1=H.nx)=False:=eFo
     have l2n:(i2=H.nx)=False:=eFo
     cases he:pT S.refs f x.toTable o2 d2 with
     |none =>
      rw[he]at hL
      exfalso
      have hL':none=R0:=hL
      subst hL'
      cases hv
     |some q =>
      obtain⟨b3,o3,d3⟩:=q
      obtain⟨go3,gd3⟩:=zp hr f hxr he hgo hgd
      rw[he]at hL
      refine⟨S,i1,i2,o2,d2,b3,o3,d3,⟨by rw[if_neg (by omega),hGw];exact hw,by rw[if_neg (by omega),hG1],by rw[if_neg (by omega),hG2],hne,hgo,hgd,hxr,hl,hr,he⟩,?_⟩
      cases b3 with
      |true=>
       have hL':some (true,o3,d3)=R0:=hL
       subst hL'
       cases hv
       simp only[aX,go_sem,if_neg (show ¬ i1=H.nx by omega),if_neg (show ¬ i2=H.nx by omega),hX]
       simp (disch:=first|exact Zd|omega) [↓zmm,beq,ybc,ybd,ybe,ag,wk,wk2,wk1,wkM,wkL,ay,ybf,hC]
      |_=>
       simp only[aX,go_sem,e5,if_neg (show ¬ i1=H.nx by omega),if_neg (show ¬ i2=H.nx by omega),hX]
       refine⟨(k+1,o3,d3),⟨Xd,go3,gd3,hL⟩,Xd,(show H.nx≤H.nx from nrq _),by repeat first|exact .refl _|refine .push ?_ _,hC _ _,?_,?_⟩
       ·simp[ltF,znd,znl,hm,zld,lw]
       ·exact Y14
   ·have hk':k=S.refs.length:=sHc
    subst hk'
    rw[List.drop_length]at hL
    have hL':some (false,o2,d2)=R0:=hL
    subst hL'
    cases hv
    have hcw2:=aB ((hGw o2 d2).trans hw)
    have g1':=hG1 o2 d2
    have g2':=hG2 o2 d2
    have go2:=qU hgo
    have gd2:=qU hgd
    rw[if_neg Bool.false_ne_true]
    have hrg:∀(c:Bool)(l:BL),((AV.int IntKind.i64 n,AV.bool c)::gz l)=gz ((n,c)::l):=fun _ _=>rfl
    have kn:∀(c z:Bool)(l:BL),(iQ (gz ((n,c)::l)))[((r7 (gz ((n,z)::l)) (.int .i64 n):Nat):Int).toNat]?=some (.int .i64 n):=fun c z l=>Ih rfl
    have mv1:=oJ n o2
    have mv2:=oJ n d2
    unfold sH at mv1 mv2
    simp only[Bool.false_eq_true,if_false]at mv1 mv2
    have hX3:∀ a b c:AObj,(((H.set i1 a).set i2 b).set i1 c)=(H.set i1 c).set i2 b:=fun a b c=>by
     simp only[AHeap.set]
     congr 1
     funext j
     by_cases hj:j=i2
     ·simp[hj,hne'']
     ·by_cases hj1:j=i1
      ·simp[hj1,hne']
      ·simp[hj,hj1]
    have hX4:∀ a b c:AObj,(((H.set i1 a).set i2 b).set i2 c)=(H.set i1 a).set i2 c:=fun a b c=>by
     simp only[AHeap.set]
     congr 1
     funext j
     by_cases hj:j=i2
     ·simp[hj]
     ·simp[hj]
    have hGc:∀ a b:BL,a8 ((H.set i1 (.mapo (gz a))).set i2 (.mapo (gz b))) w=some _:=fun a b=>aB ((hGw a b).trans hw)
    have hp:∀(z:Bool)(l:BL),0≤((r7 (gz ((n,z)::l)) (.int .i64 n):Nat):Int):=fun _ _=>Xa
    simp only[go_sem,hGc,mY,kP,hG1,hG2,mv1,mv2,hrg,kn,hX3,hX4,hne',hne'',lw1,lw2,hp]
    refine⟨⟨fM,go2,gn,rfl,rfl⟩,rfl,⟨fM,gd2,gn,rfl,rfl⟩,rfl,?_⟩
    have hC2:=hC ((n,false)::(n,lkB o2 n)::o2) ((n,true)::(n,lkB d2 n)::d2)
    simp (disch:=first|exact Zd|omega) [↓zmm,beq,ybc,ybd,ybe,ag,wk,wk2,wk1,wkM,wkL,ay,ybf,hC2]
theorem EN:∀ f,EEe 153 (ph f)
 |0=>EntOk.effect fun args H K h=>by
  unfold ph at h
  split at h
  ·obtain⟨S,i1,i2,o,d,b,o',d',⟨_,_,_,_,_,_,_,_,_,hv⟩,_⟩:=h
   cases hv
  ·exact h.elim
 |f+1=>Qp (EN f)
def Mn{H:AHeap}{a:Nat}:ADefer Tryz.prog 152 [.ptr a 0] H none H:=by
 refine ADefer.of_aw aD (Ω:=[]) tNq (a:=4) (b:=1) Tryz.func152 (by rfl) (by rfl) (T:=aC []) Xj Xb Xb (by simp only[Tryz.ntmps152,yaz,yba];decide) fun hcl _=>?_
 change aw _ _ _ (KI Tryz.prog [] (C8 H.nx H) []) _ _
 simp only[Option.getD_none,go_sem,JF,Ko,Im]
 exact⟨lRq _,hcl,nrq _⟩
def Lw{H:AHeap}{a:Nat}{x:AV}(ha:H.get a=some (.cells [x])) :
 ADefer Tryz.prog 152 [.ptr a 0] H (some (.iface 216 (.agg []))) (H.set a (.cells [.bool false])):=by
 refine ADefer.of_aw aD (Ω:=[]) tNq (a:=4) (b:=1) Tryz.func152 (by rfl) (by rfl) (T:=aC []) Xj Xb Xb (by simp only[Tryz.ntmps152,yaz,yba];decide) fun hcl _=>?_
 have la:=glq ha
 have h1:=aB ha
 have hne:(a=H.nx)=False:=eFo
 change aw _ _ _ (KI Tryz.prog [] (C8 H.nx _) []) _ _
 simp only[Option.getD_some,go_sem,JF,Ko,Im,nX,h1,hne]
 refine⟨(lRq _).push _,bA hcl ?_,nrq _⟩
 simp[zns,znt,zne]
def EY{H X:AHeap}{x:AV}{fr:Fr}(hcl:H.Closed)(hle:H.Le X)(h1:X.get (H.nx+1)=some (.cells [x]))(f2:Fr.get fr 2=.ptr (H.nx+1) 0) :
 Be Tryz.prog [.cell 2 4] H (.bool false) 152 [.ptr (H.nx+1) 0] (some (.iface 216 (.agg []))) fr X:=by
 refine⟨_,Lw (x:=x) h1,?_⟩
 have c1:a8 (X.set (H.nx+1) (.cells [.bool false])) (H.nx+1)=some [.bool false]:=by rw[tM (glq h1),if_pos rfl]
 have hl3:=cJ hle (show H.nx≤H.nx+1 by omega) (o:=.cells [.bool false])
 simp only[n8,rP,f2,zjg,go_sem,c1,zjh,TD.agg,yag,yau,one]
 refine⟨?_,hl3,hcl,?_⟩
 ·simp[wk,ay,wk2,wk1]
 ·simp[znq,zns,znt,znd,zne,zml]
def Qa{H X:AHeap}{fr:Fr}(hcl:H.Closed)(hle:H.Le X)(h1:X.get (H.nx+1)=some (.cells [.bool true]))(f2:Fr.get fr 2=.ptr (H.nx+1) 0) :
 Be Tryz.prog [.cell 2 4] H (.bool true) 152 [.ptr (H.nx+1) 0] none fr X:=by
 refine⟨_,Mn,?_⟩
 have c1:=aB h1
 simp only[n8,rP,f2,zjg,go_sem,c1,zjh,TD.agg,yag,yau,one]
 refine⟨?_,hle,hcl,?_⟩
 ·simp[wk,ay,wk2,wk1]
 ·simp[znq,zns,znt,znd,zne,zml]
def C5:PCt
 |[.agg l],_,K=>∃ S:Sch,(l=aR S∧SB S∧SI S∧uE S∧∀ r∈S.refs,i64 r.toTable)∧K (.bool (rD S))
 |_,_,_=>False
def On:EPp 31 C5:=by
 refine Ype fun _ H K h=>?_
 unfold C5 at h
 split at h<;>try exact h.elim
 rename_i l
 obtain⟨S,⟨rfl,hS,hI,hR,hri⟩,hK⟩:=h
 refine⟨_,hK,?_⟩
 clear hK
 have hV:=EN (S.tables.length+1)
 have htl:=hS.sl.tl
 obtain⟨R0,hR0⟩:∃ R0,B4 (pT S.refs (S.tables.length+1)) (iA S) [] []=R0:=⟨_,rfl⟩
 obtain⟨oE,dE,hE⟩:=IK hR
 rw[hR0]at hE
 refine ACalls.of_defer aD (Ω:=[(153,Ent.effect (ph (S.tables.length+1)))]) (tCq hV tNq) (T:=aC []) (d:=6) (caps:=[2]) Tryz.func31 Xj Tryz.func152 Xj (by rfl) (by rfl) (rs:=[.cell 2 4]) (by rfl) Xj Xj Xb (by simp only[Tryz.ntmps31,yaz,yba];decide) (nrq _) fun hcl hlt=>?_
 clear hlt
 show aw _ _ _ (KI Tryz.prog [(153,Ent.effect (ph (S.tables.length+1)))] (DG _ _ _ _ _ _ _ _ _ _ _) []) _ _
 unfold aR
 simp only[go_sem,Ps,PZ,sx]
 obtain⟨HB,hHB⟩:∃ HB,HB=(((((H.push (.cells [.slice .any 3 (S.fields.map aJ),.slice .any 3 (S.headers.map az),.slice .any 5 (S.states.map aE),.slice .any 5 (S.actions.map ap),.slice .any 8 (S.tables.map au),.slice .any 2 (S.stages.map aQ),.slice .any 6 (S.roles.map aP),.slice .any 6 (S.refs.map bc),.int .i64 S.maxBatch,.int .i64 S.budget])).push (.cells [.bool false])).push (.mapo [])).push (.mapo [])).push (.cells [.slice .any 3 (S.fields.map aJ),.slice .any 3 (S.headers.map az),.slice .any 5 (S.states.map aE),.slice .any 5 (S.actions.map ap),.slice .any 8 (S.tables.map au),.slice .any 2 (S.stages.map aQ),.slice .any 6 (S.roles.map aP),.slice .any 6 (S.refs.map bc),.int .i64 S.maxBatch,.int .i64 S.budget,.mapv (H.nx+1+1),.mapv (H.nx+1+1+1)])):=⟨_,rfl⟩
 rw[show(((((H.push (.cells [.slice .any 3 (S.fields.map aJ),.slice .any 3 (S.headers.map az),.slice .any 5 (S.states.map aE),.slice .any 5 (S.actions.map ap),.slice .any 8 (S.tables.map au),.slice .any 2 (S.stages.map aQ),.slice .any 6 (S.roles.map aP),.slice .any 6 (S.refs.map bc),.int .i64 S.maxBatch,.int .i64 S.budget])).push (.cells [.bool false])).push (.mapo [])).push (.mapo [])).push (.cells [.slice .any 3 (S.fields.map aJ),.slice .any 3 (S.headers.map az),.slice .any 5 (S.states.map aE),.slice .any 5 (S.actions.map ap),.slice .any 8 (S.tables.map au),.slice .any 2 (S.stages.map aQ),.slice .any 6 (S.roles.map aP),.slice .any 6 (S.refs.map bc),.int .i64 S.maxBatch,.int .i64 S.budget,.mapv (H.nx+1+1),.mapv (H.nx+1+1+1)]))=HB from hHB.symm]
 have hnB:HB.nx=H.nx+1+1+1+1+1:=by rw[hHB];rfl
 have hB1:HB.get (H.nx+1+1)=some (.mapo (gz [])):=by rw[hHB];simp[zlf,zlc,gz]
 have hB2:HB.get (H.nx+1+1+1)=some (.mapo (gz [])):=by rw[hHB];simp[zlf,zlc,gz]
 have hBo:HB.get (H.nx+1)=some (.cells [.bool false]):=by rw[hHB];simp[zlf,zlc]
 have hBw:HB.get (H.nx+1+1+1+1)=some (.cells (aR S++[.mapv (H.nx+1+1),.mapv (H.nx+1+1+1)])):=by rw[hHB];simp[zlf,zlc,aR]
 have hle:H.Le HB:=by rw[hHB];repeat first|exact .refl _|refine .push ?_ _
 have hcB:HB.Closed:=by
  rw[hHB]
  refine ah (dV (dV (ah (ah hcl (tZ S)) ?_))) ?_
  ·simp[zns,znt,zne]
  ·have:=tZ (n:=H.nx+1+1+1+1+1) S
   simp only[zns,znt,and_true]at this ⊢
   simp only[znm,zlc]
   obtain⟨q1,q2,q3,q4,q5,q6,q7,q8,q9,q10⟩:=this
   exact⟨q1,q2,q3,q4,q5,q6,q7,q8,q9,q10,Xa,Xa⟩
 clear hHB
 obtain⟨i1,hi1⟩:∃ i,i=H.nx+1+1:=⟨_,rfl⟩
 obtain⟨i2,hi2⟩:∃ i,i=H.nx+1+1+1:=⟨_,rfl⟩
 obtain⟨w,hw⟩:∃ i,i=H.nx+1+1+1+1:=⟨_,rfl⟩
 rw[← hw]at hBw ⊢
 rw[← hi2]at hB2 hBw
 rw[← hi1]at hB1 hBw
 have hGw:∀ a b:BL,((HB.set i1 (.mapo (gz a))).set i2 (.mapo (gz b))).get w=HB.get w:=fun a b=>by
  rw[aF,if_neg Xa,aF,if_neg (Xa)]
 have hGo:∀ a b:BL,((HB.set i1 (.mapo (gz a))).set i2 (.mapo (gz b))).get (H.nx+1)=some (.cells [.bool false]):=fun a b=>by
  rw[aF,if_neg Xa,aF,if_neg (Xa)];exact hBo
 have hG1:∀ a b:BL,((HB.set i1 (.mapo (gz a))).set i2 (.mapo (gz b))).get i1=some (.mapo (gz a)):=fun a b=>by
  rw[aF,if_neg Xa,aF,if_pos rfl,if_pos (Xa)]
 have hG2:∀ a b:BL,((HB.set i1 (.mapo (gz a))).set i2 (.mapo (gz b))).get i2=some (.mapo (gz b)):=fun a b=>by
  rw[aF,if_pos rfl,if_pos (by rw[zld];omega)]
 have hX:∀ a b a' b':AObj,((((HB.set i1 a).set i2 b).set i1 a').set i2 b')=(HB.set i1 a').set i2 b':=fun a b a' b'=>by
  exact Y133
 have hC:∀ a b:BL,((HB.set i1 (.mapo (gz a))).set i2 (.mapo (gz b))).Closed:=fun a b=>aV (aV hcB)
 have hL:∀ a b:BL,H.Le ((HB.set i1 (.mapo (gz a))).set i2 (.mapo (gz b))):=fun a b=>cJ (cJ hle Xa) Xa
 have hs0:HB=(HB.set i1 (.mapo (gz []))).set i2 (.mapo (gz [])):=by
  rw[fN hB1,fN hB2]
 have hgoal:∀{P:AHeap→Prop},P ((HB.set i1 (.mapo (gz []))).set i2 (.mapo (gz [])))→P HB:=fun h=>by rw[hs0];exact h
 refine hgoal (P:=fun X=>aw _ _ _ _ _ X) ?_
 try dsimp only
 refine aG (A:=Nat × BL × BL) (fun a=>[(2,.ptr (H.nx+1) 0),(3,.ptr w 0),(12,.slice .any 8 (S.tables.map au)),(13,.int .i64 (S.tables.length:Int)),(14,.int .i64 (a.1:Int))]) (fun a=>(HB.set i1 (.mapo (gz a.2.1))).set i2 (.mapo (gz a.2.2)))
  (fun a=>a.1≤S.tables.length∧okB a.2.1∧okB a.2.2∧B4 (pT S.refs (S.tables.length+1)) ((iA S).drop a.1) a.2.1 a.2.2=R0) (fun a=>S.tables.length-a.1) (0,[],[]) ⟨Nat.zero_le _,(fun v h=>by cases h),(fun v h=>by cases h),hR0⟩ ?_ fun a ha=>?_
 ·refine⟨by simp only[At,zld];omega,lRq _,hC _ _,?_,?_⟩
  ·exact Z18
  ·exact Y14
 obtain⟨k,o2,d2⟩:=a
 obtain⟨hk,hgo,hgd,hLv⟩:=ha
 dsimp only at hk hgo hgd hLv ⊢
 simp only[go_sem,sx]
 refine ax (fun hc=>?_) (fun hc=>?_)
 ·have hk':k<S.tables.length:=sHc
  obtain⟨x,hx⟩:∃ x,x=S.tables[k]:=⟨_,rfl⟩
  have hd':S.tables.drop k=x::S.tables.drop (k+1):=by rw[hx];exact dcq hk'
  have hdt:(iA S).drop k=x.id::(iA S).drop (k+1):=by unfold iA;rw[← List.map_drop,← List.map_drop,hd',yae]
  have hg':=a9 (f:=au) (l:=S.tables) (k:=k) (x:=x) (by rw[gQq hk',hx])
  have e5:=Yk5 k
  have hxi:=(hI.ti x (by rw[hx];exact gMq hk')).1
  rw[show au x=.agg [.int .i64 x.id,.str x.name,.slice .any 3 (x.keys.map aZ),.slice .any 1 (inL x.actions),.int .i64 x.dflt,.slice .any 2 (x.dargs.map vv),.int .i64 x.size,.str x.restr] from rfl]at hg'
  rw[hdt]at hLv
  unfold B4 at hLv
  simp only[go_sem,iNq,ybb,hg',sx,ph]
  refine Tq8 ?_
  cases he:pT S.refs (S.tables.length+1) x.id o2 d2 with
  |none =>
   rw[he]at hLv
   have hL':none=R0:=hLv
   rw[← hL']at hE;cases hE
  |some q =>
   obtain⟨b3,o3,d3⟩:=q
   obtain⟨go3,gd3⟩:=zp hri _ hxi he hgo hgd
   rw[he]at hLv
   refine⟨S,i1,i2,o2,d2,b3,o3,d3,⟨by rw[if_neg (by omega),hGw];exact hBw,by rw[if_neg (by omega),hG1],by rw[if_neg (by omega),hG2],Xa,hgo,hgd,hxi,hS.xl,hri,he⟩,?_⟩
   cases b3 with
   |true=>
    have hL':some (true,o3,d3)=R0:=hLv
    have hac:rD S=false:=by
     exact Y146
    rw[hac]
    simp only[aX,go_sem,Ox,if_neg (show ¬ i1=HB.nx by omega),if_neg (show ¬ i2=HB.nx by omega),hX]
    refine EY (x:=.bool false) hcl ((hL o3 d3).push _) ?_ rfl
    rw[zlf,if_neg (by simp only[zld];omega)]
    exact hGo o3 d3
   |_=>
    simp only[aX,go_sem,e5,sx,if_neg (show ¬ i1=HB.nx by omega),if_neg (show ¬ i2=HB.nx by omega),hX]
    refine⟨(k+1,o3,d3),⟨Xd,go3,gd3,hLv⟩,Xd,by simp only[At,zld];omega,by repeat first|exact .refl _|refine .push ?_ _,hC _ _,?_,?_⟩
    ·exact Z18
    ·exact Y14
 ·have hk':k=S.tables.length:=sHc
  have hL':some (false,o2,d2)=R0:=by
   rw[← hLv,show(iA S).drop k=[] by rw[hk',List.drop_eq_nil_iff];unfold iA;rw[ybb];omega]
   rfl
  have hac:rD S=true:=by
   exact Y146
  rw[hac]
  have hco:a8 ((HB.set i1 (.mapo (gz o2))).set i2 (.mapo (gz d2))) (H.nx+1)=some [.bool false]:=aB (hGo o2 d2)
  simp only[go_sem,OG,sx,hco]
  refine Qa hcl (cJ (hL o2 d2) Xa) ?_ rfl
  rw[aF,if_pos rfl,if_pos (by simp only[zld];omega)]
end Go.AL
