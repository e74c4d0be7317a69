/- Lemmas of the proof; no condition. -/
import Derived.Test.YthnlhjalhflgfaaGreatE04v
import Derived.Test.YthnlhjalhflgfaaGreatLVis
import Derived.Test.YthnlhjalhflgfaaGreatAlDefer
set_option linter.all false
set_option maxRecDepth 10000
set_option maxHeartbeats 32000000
open List renaming map_cons → yae, cons_append → yal, nil_append → yak, length_cons → yaz, length_nil → yba, take_of_length_le → ybc, drop_append → ybd, take_append → ybe, drop_eq_nil_of_le → ybf, length_map → ybb, getD_cons_zero → yau
open Option renaming map_some → yag
open Go Go.AL Go.Proofs
namespace Go.AL
theorem Lw:ti Tryz.prog 223=some ⟨.struct [],0,0,.agg []⟩:=by kernel_rfl
theorem Du:ti Tryz.prog 227=some ⟨.struct [(0,34,false),(10,225,false),(11,225,false)],12,224,.agg [.slice .nil 1 [],.slice .nil 1 [],.slice .nil 1 [],.slice .nil 1 [],.slice .nil 1 [],.slice .nil 1 [],.slice .nil 1 [],.slice .nil 1 [],.int .i64 0,.int .i64 0,.nilm,.nilm]⟩:=by kernel_rfl
theorem CD:ti Tryz.prog 307=some ⟨.ptr 227,1,8,.nilp⟩:=by kernel_rfl
attribute [go_sem] Lw Du CD
def dD (l:BL):List (AV × AV):=l.map fun v=>(.int .i64 v.1,.bool v.2)
theorem kO (n:Int):∀ l:BL,oP (dD l) (.int .i64 n) (.bool false) false=.bool (lkB l n)
 |[]=>rfl
 |v::l=>by
  have ih:=kO n l
  unfold oP dD at ih ⊢
  unfold lkB
  rw [yae,gJ]
  by_cases h:v.1=n
  ·subst h;simp [feq,nn]
  ·rw [if_neg h]
   simp [feq,nn,h]
   simpa using ih
theorem mY {l:BL} (h:okB l):∀ p∈dD l,fy Tryz.prog 3 p.1:=by
 intro p hp
 obtain ⟨v,hv,rfl⟩:=List.mem_map.1 hp
 exact bQ _ (h v hv)
def lF (f:Nat):List AV→AHeap→(AEnd→AHeap→Prop)→Prop
 |[.ptr w 0,.int .i64 n],H,K=>∃ (S:Sch) (i1 i2:Nat) (o d:BL) (b:Bool) (o' d':BL),(H.get w=some (.cells (aS S++[.mapv i1,.mapv i2]))∧H.get i1=some (.mapo (dD o))∧H.get i2=some (.mapo (dD d))∧i1≠i2∧okB o∧okB d∧j64 n∧S.refs.length≤1000000∧(∀ r∈S.refs,j64 r.toTable)∧lX S.refs f n o d=some (b,o',d')) ∧
   K (if b then .panic (.iface 223 (.agg [])) else .ret (.tup [])) ((H.set i1 (.mapo (dD o'))).set i2 (.mapo (dD d')))
 |_,_,_=>False
theorem EP {k v z:AV} {es:List (AV × AV)} (hk:k.flat=true):(fm ((k,v)::es))[((nO ((k,z)::es) k:Nat):Int).toNat]?=some k:=by
 have h:=pF ((k,v)::es) k (by rw [AS hk];rfl)
 rw [iNq]
 exact h
theorem Lu {f:Nat} (h_wVis:EntOk Tryz.prog 163 (Ent.effect (lF f))):EntOk Tryz.prog 163 (Ent.effect (lF (f+1))):=by
 refine EntOk.effect fun args H K h=>?_
 unfold lF at h
 split at h
 rotate_left
 ·exact h.elim
 rename_i w n
 obtain ⟨S,i1,i2,o,d,b,o',d',⟨hw,h1,h2,hne,ho,hd,hn,hl,hr,hv⟩,hK⟩:=h
 refine ⟨_,_,hK,?_⟩
 clear hK
 have lw:=glq hw
 have l1:=glq h1
 have l2:=glq h2
 have hcs:=ag hw
 have s1:=dr h1
 have s2:=dr h2
 have go:=mY ho
 have gd:=mY hd
 have gn:=bQ n hn
 have m1:=kO n o
 have m2:=kO n d
 unfold oP at m1 m2
 simp only [Bool.false_eq_true,if_false] at m1 m2
 unfold lX at hv
 unfold aS at hw hcs
 simp only [yal,yak] at hw hcs
 cases b1:lkB o n with
 |true =>
  rw [b1,if_pos rfl] at hv
  cases hv
  rw [s1,s2,if_pos rfl]
  refine ACalls.fW ap (tCq h_wVis tNq) Tryz.func163 [] (nrq _) (T:=aj []) (h:=fun hcl hlt=>?_)
  clear hlt
  rw [b1] at m1
  simp only [go_sem,hcs,zix,h1,m1,hw]
  refine ⟨⟨df,go,gn,rfl⟩,?_⟩
  try simp only [go_sem,m1,↓CZ,u3]
  exact Z1
 |false =>
  rw [b1,if_neg Bool.false_ne_true] at hv
  cases b2:lkB d n with
  |true =>
   rw [b2,if_pos rfl] at hv
   cases hv
   rw [s1,s2,if_neg Bool.false_ne_true]
   refine ACalls.fW ap (tCq h_wVis tNq) Tryz.func163 [] (nrq _) (T:=aj []) (h:=fun hcl hlt=>?_)
   clear hlt
   rw [b1] at m1
   rw [b2] at m2
   simp only [go_sem,hcs,zix,h1,h2,m1,m2,hw]
   refine ⟨⟨df,go,gn,rfl⟩,?_⟩
   try simp only [go_sem,m1,m2,hcs,zix,h1,h2,hw]
   refine ⟨⟨df,gd,gn,rfl⟩,?_⟩
   try simp only [go_sem,m2]
   exact Z1
  |false =>
   rw [b2,if_neg Bool.false_ne_true] at hv
   have lw1:(w=i1)=False:=eq_false (fun e=>by subst e;rw [h1] at hw;cases hw)
   have lw2:(w=i2)=False:=eq_false (fun e=>by subst e;rw [h2] at hw;cases hw)
   have hne':(i1=i2)=False:=eq_false hne
   have hne'':(i2=i1)=False:=eq_false (Ne.symm hne)
   refine ACalls.fW ap (tCq h_wVis tNq) Tryz.func163 [] (nrq _) (T:=aj []) (h:=fun hcl hlt=>?_)
   have hlw:=hlt _ List.mem_cons_self
   clear hlt
   rw [b1] at m1
   rw [b2] at m2
   have hgl:=hcl w _ hw
   simp only [go_sem,hcs,zix,ziy,h1,h2,m1,m2,hw]
   refine ⟨⟨df,go,gn,rfl⟩,?_⟩
   try simp only [go_sem,m1,m2,hcs,zix,ziy,h1,h2,hw]
   refine ⟨⟨df,gd,gn,rfl⟩,?_⟩
   try simp only [go_sem,m1,m2,hcs,zix,ziy,h1,h2,hw]
   refine ⟨⟨df,go,gn,rfl,rfl⟩,?_⟩
   try simp only [go_sem,m1,m2,hcs,zix,ziy,h1,h2,hw,ybb,lw1]
   obtain ⟨R0,hR0⟩:∃ R0,qA (lX S.refs f) n S.refs ((n,true)::o) d=R0:=⟨_,rfl⟩
   rw [hR0] at hv
   have hrow:((AV.int IntKind.i64 n,AV.bool true)::dD o)=dD ((n,true)::o):=rfl
   have ho1:okB ((n,true)::o):=fun v hv'=>by
    rcases List.mem_cons.1 hv' with rfl|hv'
    ·exact hn
    ·exact ho v hv'
   rw [hrow]
   have hGw:∀ a b:BL,((H.set i1 (.mapo (dD a))).set i2 (.mapo (dD b))).get w=H.get w:=fun a b=>by
    rw [aG,if_neg (by rw [lw2];exact id),aG,if_neg (by rw [lw1];exact id)]
   have hG1:∀ a b:BL,((H.set i1 (.mapo (dD a))).set i2 (.mapo (dD b))).get i1=some (.mapo (dD a)):=fun a b=>by
    rw [aG,if_neg hne,aG,if_pos rfl,if_pos l1]
   have hG2:∀ a b:BL,((H.set i1 (.mapo (dD a))).set i2 (.mapo (dD b))).get i2=some (.mapo (dD b)):=fun a b=>by
    rw [aG,if_pos rfl,if_pos (by rw [zlf];exact l2)]
   have hX:∀ a b a' b':AObj,((((H.set i1 a).set i2 b).set i1 a').set i2 b')=(H.set i1 a').set i2 b':=fun a b a' b'=>by
    simp only [AHeap.set]
    congr 1
    funext j
    by_cases hj:j=i2
    ·simp [hj]
    ·by_cases hj1:j=i1
     ·simp [hj1]
     ·simp [hj,hj1]
   have hC:∀ a b:BL,((H.set i1 (.mapo (dD a))).set i2 (.mapo (dD b))).Closed:=fun a b=>aB (aB hcl)
   have hs0:H.set i1 (.mapo (dD ((n,true)::o)))=(H.set i1 (.mapo (dD ((n,true)::o)))).set i2 (.mapo (dD d)):=by
    refine (dr ?_).symm
    rw [aG,if_neg (Ne.symm hne)];exact h2
   rw [hs0]
   have hcw:=ag ((hGw ((n,true)::o) d).trans hw)
   simp only [go_sem,hcw,ybb]
   have hm:∀ n',AV.lt n' (.slice .any 6 (S.refs.map bU)):=fun n'=>by
    rw [AV.lt]
    exact ⟨fun id e=>(by cases e),fun j hj=>by simp [bU,znr,znu,znv,znf]⟩
   refine aD (A:=Nat × BL × BL) (fun a=>[(0,.ptr w 0),(1,.int .i64 n),(29,.slice .any 6 (S.refs.map bU)),(30,.int .i64 (S.refs.length:Int)),(31,.int .i64 (a.1:Int))]) (fun a=>(H.set i1 (.mapo (dD a.2.1))).set i2 (.mapo (dD a.2.2)))
    (fun a=>a.1≤S.refs.length∧okB a.2.1∧okB a.2.2∧qA (lX S.refs f) n (S.refs.drop a.1) a.2.1 a.2.2=R0) (fun a=>S.refs.length - a.1) (0,(n,true)::o,d) ⟨Nat.zero_le _,ho1,hd,hR0⟩ ?_ fun a ha=>?_
   ·refine ⟨by (try simp only [zkq,zkv,zlf]);omega,lRq _,hC _ _,?_,?_⟩
    ·simp [ltF,znf,znn,hm,zlf,lw]
    ·simp [bk,wk2,wk1,wkM,Fr.get]
   obtain ⟨k,o2,d2⟩:=a
   obtain ⟨hk,hgo,hgd,hL⟩:=ha
   dsimp only at hk hgo hgd hL ⊢
   simp only [go_sem]
   refine ak (fun hc=>?_) (fun hc=>?_)
   ·have hk':k<S.refs.length:=by simp at hc;omega
    obtain ⟨x,hx⟩:∃ x,x=S.refs[k]:=⟨_,rfl⟩
    have hd':S.refs.drop k=x::S.refs.drop (k+1):=by rw [hx];exact dcq hk'
    have hg':=a0 (f:=bU) (l:=S.refs) (k:=k) (x:=x) (by rw [gQq hk',hx])
    have e5:=Yk5 k
    have hxr:=hr x (by rw [hx];exact gMq hk')
    have hcx:bU x=.agg [.int .i64 x.table,.int .i64 x.key,.int .i64 x.action,.int .i64 x.param,.int .i64 x.toTable,.int .i64 x.toKey]:=rfl
    rw [hcx] at hg'
    rw [hd'] at hL
    unfold qA at hL
    simp only [go_sem,iNq,ybb,hg']
    refine ⟨by omega,?_⟩
    cases ce:x.table==n with
    |false =>
     rw [ce,if_neg Bool.false_ne_true] at hL
     simp only [go_sem,ce,e5]
     refine ⟨(k+1,o2,d2),⟨by dsimp only;omega,hgo,hgd,hL⟩,by dsimp only;omega,(show H.nx≤H.nx from nrq _),by repeat first|exact .refl _|refine .push ?_ _,hC _ _,?_,?_⟩
     ·simp [ltF,znf,znn,hm,zlf,lw]
     ·simp [bk,wk2,wk1,wkM,Fr.get]
    |true =>
     rw [ce,if_pos rfl] at hL
     simp only [go_sem,ce,e5,lF]
     have lwn:(w=H.nx)=False:=eq_false (by omega)
     have l1n:(i1=H.nx)=False:=eq_false (by omega)
     have l2n:(i2=H.nx)=False:=eq_false (by omega)
     cases he:lX S.refs f x.toTable o2 d2 with
     |none =>
      rw [he] at hL
      exfalso
      have hL':none=R0:=hL
      subst hL'
      cases hv
     |some q =>
      obtain ⟨b3,o3,d3⟩:=q
      obtain ⟨go3,gd3⟩:=vD hr f hxr he hgo hgd
      rw [he] at hL
      refine ⟨S,i1,i2,o2,d2,b3,o3,d3,⟨by rw [if_neg (by omega),hGw];exact hw,by rw [if_neg (by omega),hG1],by rw [if_neg (by omega),hG2],hne,hgo,hgd,hxr,hl,hr,he⟩,?_⟩
      cases b3 with
      |true =>
       have hL':some (true,o3,d3)=R0:=hL
       subst hL'
       cases hv
       simp only [aE,go_sem,if_neg (show ¬ i1=H.nx by omega),if_neg (show ¬ i2=H.nx by omega),hX]
       simp (disch:=first|exact Zd|omega) [↓zmo,beq,ybc,ybd,ybe,aa,wk,wk2,wk1,wkM,wkL,ae,ybf,hC]
      |false =>
       simp only [aE,go_sem,e5,if_neg (show ¬ i1=H.nx by omega),if_neg (show ¬ i2=H.nx by omega),hX]
       refine ⟨(k+1,o3,d3),⟨by dsimp only;omega,go3,gd3,hL⟩,by dsimp only;omega,(show H.nx≤H.nx from nrq _),by repeat first|exact .refl _|refine .push ?_ _,hC _ _,?_,?_⟩
       ·simp [ltF,znf,znn,hm,zlf,lw]
       ·simp [bk,wk2,wk1,wkM,Fr.get]
   ·have hk':k=S.refs.length:=by simp at hc;omega
    subst hk'
    rw [List.drop_length] at hL
    have hL':some (false,o2,d2)=R0:=hL
    subst hL'
    cases hv
    have hcw2:=ag ((hGw o2 d2).trans hw)
    have g1':=hG1 o2 d2
    have g2':=hG2 o2 d2
    have go2:=mY hgo
    have gd2:=mY hgd
    rw [if_neg Bool.false_ne_true]
    have hrg:∀ (c:Bool) (l:BL),((AV.int IntKind.i64 n,AV.bool c)::dD l)=dD ((n,c)::l):=fun _ _=>rfl
    have kn:∀ (c z:Bool) (l:BL),(fm (dD ((n,c)::l)))[((nO (dD ((n,z)::l)) (.int .i64 n):Nat):Int).toNat]?=some (.int .i64 n):=fun c z l=>EP rfl
    have mv1:=kO n o2
    have mv2:=kO n d2
    unfold oP at mv1 mv2
    simp only [Bool.false_eq_true,if_false] at mv1 mv2
    have hX3:∀ a b c:AObj,(((H.set i1 a).set i2 b).set i1 c)=(H.set i1 c).set i2 b:=fun a b c=>by
     simp only [AHeap.set]
     congr 1
     funext j
     by_cases hj:j=i2
     ·simp [hj,hne'']
     ·by_cases hj1:j=i1
      ·simp [hj1,hne']
      ·simp [hj,hj1]
    have hX4:∀ a b c:AObj,(((H.set i1 a).set i2 b).set i2 c)=(H.set i1 a).set i2 c:=fun a b c=>by
     simp only [AHeap.set]
     congr 1
     funext j
     by_cases hj:j=i2
     ·simp [hj]
     ·simp [hj]
    have hGc:∀ a b:BL,aI ((H.set i1 (.mapo (dD a))).set i2 (.mapo (dD b))) w=some _:=fun a b=>ag ((hGw a b).trans hw)
    have hp:∀ (z:Bool) (l:BL),0≤((nO (dD ((n,z)::l)) (.int .i64 n):Nat):Int):=fun _ _=>by omega
    simp only [go_sem,hGc,jN,il,hG1,hG2,mv1,mv2,hrg,kn,hX3,hX4,hne',hne'',lw1,lw2,hp]
    refine ⟨⟨df,go2,gn,rfl,rfl⟩,rfl,⟨df,gd2,gn,rfl,rfl⟩,rfl,?_⟩
    have hC2:=hC ((n,false)::(n,lkB o2 n)::o2) ((n,true)::(n,lkB d2 n)::d2)
    simp (disch:=first|exact Zd|omega) [↓zmo,beq,ybc,ybd,ybe,aa,wk,wk2,wk1,wkM,wkL,ae,ybf,hC2]
theorem y4:∀ f,EntOk Tryz.prog 163 (Ent.effect (lF f))
 |0=>EntOk.effect fun args H K h=>by
  unfold lF at h
  split at h
  ·obtain ⟨S,i1,i2,o,d,b,o',d',⟨_,_,_,_,_,_,_,_,_,hv⟩,_⟩:=h
   cases hv
  ·exact h.elim
 |f+1=>Lu (y4 f)
theorem HN {H:AHeap} {a:Nat}:ADefer Tryz.prog 162 [.ptr a 0] H none H:=by
 refine ADefer.of_aw ap (Ω:=[]) tNq (a:=4) (b:=1) Tryz.func162 (by rfl) (by rfl) (T:=aj []) (by kernel_rfl) (by decide) (by decide) (by simp only [Tryz.ntmps162,yaz,yba];decide) fun hcl _=>?_
 change aw _ _ _ (KI Tryz.prog [] (yG H.nx H) []) _ _
 simp only [Option.getD_none,go_sem,Dg,EG,GT]
 exact ⟨lRq _,hcl,nrq _⟩
theorem G7 {H:AHeap} {a:Nat} {x:AV} (ha:H.get a=some (.cells [x])) :
 ADefer Tryz.prog 162 [.ptr a 0] H (some (.iface 223 (.agg []))) (H.set a (.cells [.bool false])):=by
 refine ADefer.of_aw ap (Ω:=[]) tNq (a:=4) (b:=1) Tryz.func162 (by rfl) (by rfl) (T:=aj []) (by kernel_rfl) (by decide) (by decide) (by simp only [Tryz.ntmps162,yaz,yba];decide) fun hcl _=>?_
 have la:=glq ha
 have h1:=ag ha
 have hne:(a=H.nx)=False:=eq_false (by omega)
 change aw _ _ _ (KI Tryz.prog [] (yG H.nx _) []) _ _
 simp only [Option.getD_some,go_sem,Dg,EG,GT,kg,h1,hne]
 refine ⟨(lRq _).push _,ba hcl ?_,nrq _⟩
 simp [znu,znv,zng]
theorem BB {H X:AHeap} {x:AV} {fr:Fr} (hcl:H.Closed) (hle:H.Le X) (h1:X.get (H.nx+1)=some (.cells [x])) (f2:Fr.get fr 2=.ptr (H.nx+1) 0) :
 xf Tryz.prog [.cell 2 4] H (.bool false) 162 [.ptr (H.nx+1) 0] (some (.iface 223 (.agg []))) fr X:=by
 refine ⟨_,G7 (x:=x) h1,?_⟩
 have c1:aI (X.set (H.nx+1) (.cells [.bool false])) (H.nx+1)=some [.bool false]:=by rw [pN (glq h1),if_pos rfl]
 have hl3:=dT hle (show H.nx≤H.nx+1 by omega) (o:=.cells [.bool false])
 simp only [kH,n6,f2,zjg,go_sem,c1,zjh,TD.agg,yag,yau,one]
 refine ⟨?_,hl3,hcl,?_⟩
 ·simp [wk,ae,wk2,wk1]
 ·simp [zns,znu,znv,znf,zng,zmn]
theorem Je {H X:AHeap} {fr:Fr} (hcl:H.Closed) (hle:H.Le X) (h1:X.get (H.nx+1)=some (.cells [.bool true])) (f2:Fr.get fr 2=.ptr (H.nx+1) 0) :
 xf Tryz.prog [.cell 2 4] H (.bool true) 162 [.ptr (H.nx+1) 0] none fr X:=by
 refine ⟨_,HN,?_⟩
 have c1:=ag h1
 simp only [kH,n6,f2,zjg,go_sem,c1,zjh,TD.agg,yag,yau,one]
 refine ⟨?_,hle,hcl,?_⟩
 ·simp [wk,ae,wk2,wk1]
 ·simp [zns,znu,znv,znf,zng,zmn]
def x6:List AV→AHeap→(AV→Prop)→Prop
 |[.agg l],_,K=>∃ S:Sch,(l=aS S∧SB S∧SI S∧wQ S∧∀ r∈S.refs,i64 r.toTable)∧K (.bool (qZ S))
 |_,_,_=>False
theorem JN:EntOk Tryz.prog 38 (Ent.pure x6):=by
 refine Ype fun _ H K h=>?_
 unfold x6 at h
 split at h
 rotate_left
 ·exact h.elim
 rename_i l
 obtain ⟨S,⟨rfl,hS,hI,hR,hri⟩,hK⟩:=h
 refine ⟨_,hK,?_⟩
 clear hK
 have hV:=y4 (S.tables.length+1)
 have htl:=hS.sl.tl
 obtain ⟨R0,hR0⟩:∃ R0,yN (lX S.refs (S.tables.length+1)) (j8 S) [] []=R0:=⟨_,rfl⟩
 obtain ⟨oE,dE,hE⟩:=F5 hR
 rw [hR0] at hE
 refine ACalls.of_defer ap (Ω:=[(163,Ent.effect (lF (S.tables.length+1)))]) (tCq hV tNq) (T:=aj []) (d:=6) (caps:=[2]) Tryz.func38 (by kernel_rfl) Tryz.func162 (by kernel_rfl) (by rfl) (by rfl) (rs:=[.cell 2 4]) (by rfl) (by kernel_rfl) (by kernel_rfl) (by decide) (by simp only [Tryz.ntmps38,yaz,yba];decide) (nrq _) fun hcl hlt=>?_
 clear hlt
 show aw _ _ _ (KI Tryz.prog [(163,Ent.effect (lF (S.tables.length+1)))] (zb _ _ _ _ _ _ _ _ _ _ _) []) _ _
 unfold aS
 simp only [go_sem,IP,K4,oD]
 obtain ⟨HB,hHB⟩:∃ HB,HB=(((((H.push (.cells [.slice .any 3 (S.fields.map aX),.slice .any 3 (S.headers.map aH),.slice .any 5 (S.states.map aO),.slice .any 5 (S.actions.map aA),.slice .any 8 (S.tables.map aC),.slice .any 2 (S.stages.map bx),.slice .any 6 (S.roles.map bc),.slice .any 6 (S.refs.map bU),.int .i64 S.maxBatch,.int .i64 S.budget])).push (.cells [.bool false])).push (.mapo [])).push (.mapo [])).push (.cells [.slice .any 3 (S.fields.map aX),.slice .any 3 (S.headers.map aH),.slice .any 5 (S.states.map aO),.slice .any 5 (S.actions.map aA),.slice .any 8 (S.tables.map aC),.slice .any 2 (S.stages.map bx),.slice .any 6 (S.roles.map bc),.slice .any 6 (S.refs.map bU),.int .i64 S.maxBatch,.int .i64 S.budget,.mapv (H.nx+1+1),.mapv (H.nx+1+1+1)])):=⟨_,rfl⟩
 rw [show (((((H.push (.cells [.slice .any 3 (S.fields.map aX),.slice .any 3 (S.headers.map aH),.slice .any 5 (S.states.map aO),.slice .any 5 (S.actions.map aA),.slice .any 8 (S.tables.map aC),.slice .any 2 (S.stages.map bx),.slice .any 6 (S.roles.map bc),.slice .any 6 (S.refs.map bU),.int .i64 S.maxBatch,.int .i64 S.budget])).push (.cells [.bool false])).push (.mapo [])).push (.mapo [])).push (.cells [.slice .any 3 (S.fields.map aX),.slice .any 3 (S.headers.map aH),.slice .any 5 (S.states.map aO),.slice .any 5 (S.actions.map aA),.slice .any 8 (S.tables.map aC),.slice .any 2 (S.stages.map bx),.slice .any 6 (S.roles.map bc),.slice .any 6 (S.refs.map bU),.int .i64 S.maxBatch,.int .i64 S.budget,.mapv (H.nx+1+1),.mapv (H.nx+1+1+1)]))=HB from hHB.symm]
 have hnB:HB.nx=H.nx+1+1+1+1+1:=by rw [hHB];rfl
 have hB1:HB.get (H.nx+1+1)=some (.mapo (dD [])):=by rw [hHB];simp [zlh,zle,dD]
 have hB2:HB.get (H.nx+1+1+1)=some (.mapo (dD [])):=by rw [hHB];simp [zlh,zle,dD]
 have hBo:HB.get (H.nx+1)=some (.cells [.bool false]):=by rw [hHB];simp [zlh,zle]
 have hBw:HB.get (H.nx+1+1+1+1)=some (.cells (aS S++[.mapv (H.nx+1+1),.mapv (H.nx+1+1+1)])):=by rw [hHB];simp [zlh,zle,aS]
 have hle:H.Le HB:=by rw [hHB];repeat first|exact .refl _|refine .push ?_ _
 have hcB:HB.Closed:=by
  rw [hHB]
  refine af (cq (cq (af (af hcl (uH S)) ?_))) ?_
  ·simp [znu,znv,zng]
  ·have:=uH (n:=H.nx+1+1+1+1+1) S
   simp only [znu,znv,and_true] at this ⊢
   simp only [zno,zle]
   obtain ⟨q1,q2,q3,q4,q5,q6,q7,q8,q9,q10⟩:=this
   exact ⟨q1,q2,q3,q4,q5,q6,q7,q8,q9,q10,by omega,by omega⟩
 clear hHB
 obtain ⟨i1,hi1⟩:∃ i,i=H.nx+1+1:=⟨_,rfl⟩
 obtain ⟨i2,hi2⟩:∃ i,i=H.nx+1+1+1:=⟨_,rfl⟩
 obtain ⟨w,hw⟩:∃ i,i=H.nx+1+1+1+1:=⟨_,rfl⟩
 rw [← hw] at hBw ⊢
 rw [← hi2] at hB2 hBw
 rw [← hi1] at hB1 hBw
 have hGw:∀ a b:BL,((HB.set i1 (.mapo (dD a))).set i2 (.mapo (dD b))).get w=HB.get w:=fun a b=>by
  rw [aG,if_neg (by omega),aG,if_neg (by omega)]
 have hGo:∀ a b:BL,((HB.set i1 (.mapo (dD a))).set i2 (.mapo (dD b))).get (H.nx+1)=some (.cells [.bool false]):=fun a b=>by
  rw [aG,if_neg (by omega),aG,if_neg (by omega)];exact hBo
 have hG1:∀ a b:BL,((HB.set i1 (.mapo (dD a))).set i2 (.mapo (dD b))).get i1=some (.mapo (dD a)):=fun a b=>by
  rw [aG,if_neg (by omega),aG,if_pos rfl,if_pos (by omega)]
 have hG2:∀ a b:BL,((HB.set i1 (.mapo (dD a))).set i2 (.mapo (dD b))).get i2=some (.mapo (dD b)):=fun a b=>by
  rw [aG,if_pos rfl,if_pos (by rw [zlf];omega)]
 have hX:∀ a b a' b':AObj,((((HB.set i1 a).set i2 b).set i1 a').set i2 b')=(HB.set i1 a').set i2 b':=fun a b a' b'=>by
  simp only [AHeap.set]
  congr 1
  funext j
  by_cases hj:j=i2
  ·simp [hj]
  ·by_cases hj1:j=i1
   ·simp [hj1]
   ·simp [hj,hj1]
 have hC:∀ a b:BL,((HB.set i1 (.mapo (dD a))).set i2 (.mapo (dD b))).Closed:=fun a b=>aB (aB hcB)
 have hL:∀ a b:BL,H.Le ((HB.set i1 (.mapo (dD a))).set i2 (.mapo (dD b))):=fun a b=>dT (dT hle (by omega)) (by omega)
 have hs0:HB=(HB.set i1 (.mapo (dD []))).set i2 (.mapo (dD [])):=by
  rw [dr hB1,dr hB2]
 have hgoal:∀ {P:AHeap→Prop},P ((HB.set i1 (.mapo (dD []))).set i2 (.mapo (dD [])))→P HB:=fun h=>by rw [hs0];exact h
 refine hgoal (P:=fun X=>aw _ _ _ _ _ X) ?_
 try dsimp only
 refine aD (A:=Nat × BL × BL) (fun a=>[(2,.ptr (H.nx+1) 0),(3,.ptr w 0),(12,.slice .any 8 (S.tables.map aC)),(13,.int .i64 (S.tables.length:Int)),(14,.int .i64 (a.1:Int))]) (fun a=>(HB.set i1 (.mapo (dD a.2.1))).set i2 (.mapo (dD a.2.2)))
  (fun a=>a.1≤S.tables.length∧okB a.2.1∧okB a.2.2∧yN (lX S.refs (S.tables.length+1)) ((j8 S).drop a.1) a.2.1 a.2.2=R0) (fun a=>S.tables.length - a.1) (0,[],[]) ⟨Nat.zero_le _,(fun v h=>by cases h),(fun v h=>by cases h),hR0⟩ ?_ fun a ha=>?_
 ·refine ⟨by simp only [w6,zlf];omega,lRq _,hC _ _,?_,?_⟩
  ·exact Z17
  ·simp [bk,wk2,wk1,wkM,Fr.get]
 obtain ⟨k,o2,d2⟩:=a
 obtain ⟨hk,hgo,hgd,hLv⟩:=ha
 dsimp only at hk hgo hgd hLv ⊢
 simp only [go_sem,oD]
 refine ak (fun hc=>?_) (fun hc=>?_)
 ·have hk':k<S.tables.length:=by simp at hc;omega
  obtain ⟨x,hx⟩:∃ x,x=S.tables[k]:=⟨_,rfl⟩
  have hd':S.tables.drop k=x::S.tables.drop (k+1):=by rw [hx];exact dcq hk'
  have hdt:(j8 S).drop k=x.id::(j8 S).drop (k+1):=by unfold j8;rw [← List.map_drop,← List.map_drop,hd',yae]
  have hg':=a0 (f:=aC) (l:=S.tables) (k:=k) (x:=x) (by rw [gQq hk',hx])
  have e5:=Yk5 k
  have hxi:=(hI.ti x (by rw [hx];exact gMq hk')).1
  rw [show aC x=.agg [.int .i64 x.id,.str x.name,.slice .any 3 (x.keys.map bE),.slice .any 1 (inL x.actions),.int .i64 x.dflt,.slice .any 2 (x.dargs.map vv),.int .i64 x.size,.str x.restr] from rfl] at hg'
  rw [hdt] at hLv
  unfold yN at hLv
  simp only [go_sem,iNq,ybb,hg',oD,lF]
  try (repeat with_reducible refine Yq ?_)
  cases he:lX S.refs (S.tables.length+1) x.id o2 d2 with
  |none =>
   rw [he] at hLv
   have hL':none=R0:=hLv
   rw [← hL'] at hE;cases hE
  |some q =>
   obtain ⟨b3,o3,d3⟩:=q
   obtain ⟨go3,gd3⟩:=vD hri _ hxi he hgo hgd
   rw [he] at hLv
   refine ⟨S,i1,i2,o2,d2,b3,o3,d3,⟨by rw [if_neg (by omega),hGw];exact hBw,by rw [if_neg (by omega),hG1],by rw [if_neg (by omega),hG2],by omega,hgo,hgd,hxi,hS.xl,hri,he⟩,?_⟩
   cases b3 with
   |true =>
    have hL':some (true,o3,d3)=R0:=hLv
    have hac:qZ S=false:=by
     rw [← hL'] at hE
     have:=congrArg (fun z=>z.map Prod.fst) hE
     simp at this
     exact this
    rw [hac]
    simp only [aE,go_sem,Li,if_neg (show ¬ i1=HB.nx by omega),if_neg (show ¬ i2=HB.nx by omega),hX]
    refine BB (x:=.bool false) hcl ((hL o3 d3).push _) ?_ rfl
    rw [zlh,if_neg (by simp only [zlf];omega)]
    exact hGo o3 d3
   |false =>
    simp only [aE,go_sem,e5,oD,if_neg (show ¬ i1=HB.nx by omega),if_neg (show ¬ i2=HB.nx by omega),hX]
    refine ⟨(k+1,o3,d3),⟨by dsimp only;omega,go3,gd3,hLv⟩,by dsimp only;omega,by simp only [w6,zlf];omega,by repeat first|exact .refl _|refine .push ?_ _,hC _ _,?_,?_⟩
    ·exact Z17
    ·simp [bk,wk2,wk1,wkM,Fr.get]
 ·have hk':k=S.tables.length:=by simp at hc;omega
  have hL':some (false,o2,d2)=R0:=by
   rw [← hLv,show (j8 S).drop k=[] by rw [hk',List.drop_eq_nil_iff];unfold j8;rw [ybb];omega]
   rfl
  have hac:qZ S=true:=by
   rw [← hL'] at hE
   have:=congrArg (fun z=>z.map Prod.fst) hE
   simp at this
   exact this
  rw [hac]
  have hco:aI ((HB.set i1 (.mapo (dD o2))).set i2 (.mapo (dD d2))) (H.nx+1)=some [.bool false]:=ag (hGo o2 d2)
  simp only [go_sem,KN,oD,hco]
  refine Je hcl (dT (hL o2 d2) (by omega)) ?_ rfl
  rw [aG,if_pos rfl,if_pos (by simp only [zlf];omega)]
end Go.AL
