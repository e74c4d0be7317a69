/- Lemmas of the proof; no condition. -/
import Derived.Test.YtpbnggedofiinaaGreatS10g
set_option linter.all false
set_option maxRecDepth 10000
open List renaming cons_append → yal, nil_append → yak, length_cons → yaz, length_nil → yba, take_succ_cons → yaq, take_zero → yar, drop_succ_cons → yao, drop_zero → yap, length_map → ybb, map_nil → yaf, append_nil → yaj
open Go Go.AL Go.Proofs
namespace Go.AL
theorem Ci {b:List UInt8} {v k:Nat}:qy b (min v b.length+k)=qy b (v+k):=by unfold qy;simp only [Nat.add_assoc,cD]
theorem Ab {b:List UInt8} {v k:Nat} {w kind:Int}:(cq b (min v b.length+k) w kind).1=(cq b (v+k) w kind).1∧∃ c,(cq b (min v b.length+k) w kind).2=min v b.length+c∧(cq b (v+k) w kind).2=v+c:=by
 unfold cq
 simp only [Ci,Nat.add_assoc,yn,u1,cD]
 by_cases h2:kind=2
 ·simp only [if_pos h2]
  by_cases h:0<cv b (v+(k+3)) 5
  ·simp only [if_pos h];exact ⟨trivial,_,rfl,rfl⟩
  ·simp only [if_neg h];exact ⟨trivial,_,rfl,rfl⟩
 by_cases h3:kind=3
 ·simp only [if_neg h2,if_pos h3]
  split<;>exact ⟨rfl,_,rfl,rfl⟩
 by_cases h4:kind=4
 ·simp only [if_neg h2,if_neg h3,if_pos h4]
  split<;>exact ⟨rfl,_,rfl,rfl⟩
 ·simp only [if_neg h2,if_neg h3,if_neg h4]
  exact ⟨trivial,_,rfl,rfl⟩
theorem mw {S:Sch} {b:List UInt8} {v:Nat}:∀ (ks:List SKey) (k:Nat) (p:Int),(ct S b ks (min v b.length+k) p).1=(ct S b ks (v+k) p).1∧∃ c,(ct S b ks (min v b.length+k) p).2=min v b.length+c∧(ct S b ks (v+k) p).2=v+c
 |[],k,p=>⟨rfl,k,rfl,rfl⟩
 |x::ks,k,p=>by
  obtain ⟨h1,c,h2,h3⟩:=Ab (b:=b) (v:=v) (k:=k) (w:=eW S x.field) (kind:=x.kind)
  by_cases hk:x.kind=3∨x.kind=4
  ·obtain ⟨i1,d,i2,i3⟩:=mw (b:=b) (v:=v) ks (c+1) (1+ci b (v+c) 5)
   simp only [ct,if_pos hk,h1,h2,h3,ci,cD,Nat.add_assoc]
   simp only [ci] at i1 i2 i3
   rw [i1]
   exact ⟨rfl,d,i2,i3⟩
  ·obtain ⟨i1,d,i2,i3⟩:=mw (b:=b) (v:=v) ks c p
   simp only [ct,if_neg hk,h1,h2,h3]
   rw [i1]
   exact ⟨rfl,d,i2,i3⟩
theorem uY {b:List UInt8} {v:Nat}:∀ (ps:List SParam) (k:Nat),(jz b ps (min v b.length+k)).1=(jz b ps (v+k)).1∧∃ c,(jz b ps (min v b.length+k)).2=min v b.length+c∧(jz b ps (v+k)).2=v+c
 |[],k=>⟨rfl,k,rfl,rfl⟩
 |p::ps,k=>by
  obtain ⟨i1,d,i2,i3⟩:=uY (b:=b) (v:=v) ps (k+1)
  simp only [jz,cD,Nat.add_assoc]
  rw [i1]
  exact ⟨rfl,d,i2,i3⟩
def oq (S:Sch) (n:Int):List UInt8→Nat→AV × Nat:=fun b v=>(bc (er S b v n).1,(er S b v n).2)
theorem ud (S:Sch) (n:Int):pk (oq S n):=fun b v=>by
 obtain ⟨i1,c,i2,i3⟩:=mw (S:=S) (b:=b) (v:=v) (fH S n).keys 0 0
 simp only [Nat.add_zero] at i1 i2 i3
 unfold oq er
 dsimp only
 rw [i1,i2,i3,cD]
 obtain ⟨j1,d,j2,j3⟩:=uY (b:=b) (v:=v) (fx S.actions ((fH S n).actions.getD (cv b (v+c) (fH S n).actions.length) 0)).params (c+1)
 simp only [Nat.add_assoc]
 rw [j1,j2,j3]
 exact ⟨rfl,d,rfl,rfl⟩
structure GenS (S:Sch):Prop where
 fl:S.fields.length≤1000
 al:S.actions.length≤1000
 tl:S.tables.length≤1000
 t1:1≤S.tables.length
 kl:∀ t∈S.tables,t.keys.length≤100
 kb:∀ t∈S.tables,∀ k∈t.keys,1≤eW S k.field∧eW S k.field≤32∧(k.kind=2→16≤eW S k.field)
 a1:∀ t∈S.tables,1≤t.actions.length∧t.actions.length≤100
 pl:∀ a:Int,(fx S.actions a).params.length≤100
 pb:∀ a:Int,∀ p∈(fx S.actions a).params,0≤p.bits∧p.bits≤1000
def lL:List AV→AHeap→(AEnd→AHeap→Prop)→Prop
 |[.ptr id 0,.agg l,.int .i64 n],H,K=>∃ S:Sch,(l=cQ S∧GenS S ∧ -9223372036854775808≤n∧n<9223372036854775808)∧onS (H.get id) (oq S n) fun x o=>K (.ret x) (H.set id o)
 |_,_,_=>False
theorem G7 {b:List UInt8} {v:Nat} {w k:Int}:(od w k b v).1=.agg [.bool (cq b v w k).1.present,.int .u64 (((cq b v w k).1.value/2^64:Nat):Int),.int .u64 (((cq b v w k).1.value % 2^64:Nat):Int),.int .u64 (((cq b v w k).1.mask/2^64:Nat):Int),.int .u64 (((cq b v w k).1.mask % 2^64:Nat):Int),.int .i64 (cq b v w k).1.pfx,.int .u64 (((cq b v w k).1.high/2^64:Nat):Int),.int .u64 (((cq b v w k).1.high % 2^64:Nat):Int)]:=(rfl)
theorem GF {b:List UInt8} {v:Nat} {w k:Int}:(od w k b v).2=cp (cq b v w k).2 0:=(rfl)
theorem uS {H:AHeap} {id:Nat} {o:AObj} (h:H.get id=some o):H.set id o=H:=by
 have hl:=glq h
 unfold AHeap.get at h
 rw [if_pos hl] at h
 unfold AHeap.set
 cases H with
 |mk nx f =>
  simp only [AHeap.mk.injEq,true_and]
  funext j
  by_cases e:j=id
  ·rw [if_pos e,e];exact h.symm
  ·rw [if_neg e]
def kI (H:AHeap) (id:Nat) (b:List UInt8) (S:Sch) (t:STable) (w:Nat) (a1:List AV) (p:Int):AHeap :=
 ((((((H.set id (cr b (cp w 0))).push (.cells (cQ S))).push (.cells [.int .i64 0,.slice .nil 1 [],.int .i64 0,.int .i64 0,.slice .nil 1 []])).push (.cells [.int .i64 t.id,.str t.name,.slice .any 3 (t.keys.map gW),.slice .any 1 (inL t.actions),.int .i64 t.dflt,.slice .any 2 (t.dargs.map vv),.int .i64 t.size,.str t.restr])).push (.buf 8 a1.length)).push (.buf 2 0)).push (.cells [.int .i64 t.id,.slice (.own (H.nx+1+1+1)) 8 a1,.int .i64 p,.int .i64 0,.slice (.own (H.nx+1+1+1+1)) 2 []])
def r9 (H:AHeap) (id:Nat) (b:List UInt8) (S:Sch) (t:STable) (w:Nat) (a1 a2:List AV) (p act:Int):AHeap :=
 ((((((H.set id (cr b (cp w 0))).push (.cells (cQ S))).push (.cells [.int .i64 0,.slice .nil 1 [],.int .i64 0,.int .i64 0,.slice .nil 1 []])).push (.cells [.int .i64 t.id,.str t.name,.slice .any 3 (t.keys.map gW),.slice .any 1 (inL t.actions),.int .i64 t.dflt,.slice .any 2 (t.dargs.map vv),.int .i64 t.size,.str t.restr])).push (.buf 8 a1.length)).push (.buf 2 a2.length)).push (.cells [.int .i64 t.id,.slice (.own (H.nx+1+1+1)) 8 a1,.int .i64 p,.int .i64 act,.slice (.own (H.nx+1+1+1+1)) 2 a2])
theorem eJ {n:Nat} (x:SMatch):AV.lt n (aR x):=by
 simp only [aR,cR,vc,znr,znu,znv,znf,zng,List.append_assoc,yal,yak,and_true]
theorem DP {n:Nat} (x:Nat):AV.lt n (vv x):=by simp only [vv,znr,znu,znv,znf,and_true]
theorem dJ {n:Nat} (x:SEntry):AV.lt n (bc x):=by
 simp only [bc,aN,znr,znu,znv,znf,and_true,true_and]
 exact ⟨bg eJ,bg DP⟩
theorem rS {H:AHeap} {id:Nat} {b:List UInt8} {S:Sch} {t:STable} {w:Nat} {a1 a2:List AV} {p act:Int} (hcl:H.Closed) (h1:∀ n,ltL n a1=True) (h2:∀ n,ltL n a2=True):(r9 H id b S t w a1 a2 p act).Closed:=by
 unfold r9
 repeat' (first|exact aP hcl fk|refine bj ?_|refine aD ?_ ?_)
 ·exact ltL_iff.2 fun j hj=>AV.lt_cells (rh S) j hj
 ·simp [znu,znv,znf,lt_sliceL]
 ·exact ltL_iff.2 fun j hj=>AV.lt_cells (fy t) j hj
 ·simp [lt_sliceL,znu,znv,znf,zle,zlf,h1,h2]
  try omega
set_option maxHeartbeats 4000000 in
theorem vV:EntOk Tryz.prog 107 (Ent.effect lL):=by
 refine EntOk.effect fun args H K h=>?_
 unfold lL at h
 split at h
 rotate_left
 ·exact h.elim
 rename_i id l n
 obtain ⟨S,⟨rfl,hS,hn1,hn2⟩,h⟩:=h
 unfold onS at h
 obtain ⟨b,v,hg,hb,hv,hK⟩:=fp h
 refine ⟨_,_,hK,?_⟩
 clear hK h
 unfold oq
 dsimp only
 generalize hres:(er S b v n).1=res
 generalize hpos:(er S b v n).2=pos
 refine ACalls.fW ah (tCq ff (tCq AQ (tCq CI (tCq xa (tCq BF tNq))))) Tryz.func107 [.cell 6 90] (nrq _) (T:=ae [(1,[[],[],[],[],[],[],[4],[],[6],[],[1,4,6,8]]),(6,[[],[],[],[],[],[3,4],[3,4,5],[1,3,4,5],[],[1,3,4,5]]),(10,[[],[],[],[],[],[],[4],[],[6],[],[1,4,6,8]]),(14,[[],[],[],[],[3],[],[],[],[3,4,7],[3,7,8],[1,3,7,8],[],[1,3,7,8]]),(2,[[10,1]]),(16,[[4]])]) (h:=fun hcl hlt=>?_)
 clear hlt
 have hid:=glq hg
 have hne:=iJ hid
 have hgc:=fo (b:=b) hid
 have hcl2:∀ w,(H.set id (cr b w)).Closed:=fun w=>aP hcl fk
 obtain ⟨f1,f2,f3,f4,f5,f6,f7,f8,f9⟩:=hS
 obtain ⟨t,ht⟩:∃ t,fH S n=t:=⟨_,rfl⟩
 have hm1:=Int.emod_nonneg n (show ((S.tables.length:Nat):Int)≠0 by omega)
 have hm2:=Int.emod_lt_of_pos n (show (0:Int)<((S.tables.length:Nat):Int) by omega)
 have hmi:(n % ((S.tables.length:Nat):Int)).toNat<S.tables.length:=by omega
 have htm:t∈S.tables:=by
  rw [← ht];unfold fH
  rw [gEq,gQq hmi]
  exact gMq hmi
 have htg:(S.tables.map c8).getD (n % ((S.tables.length:Nat):Int)).toNat .junk=.agg [.int .i64 t.id,.str t.name,.slice .any 3 (t.keys.map gW),.slice .any 1 (inL t.actions),.int .i64 t.dflt,.slice .any 2 (t.dargs.map vv),.int .i64 t.size,.str t.restr]:=by
  rw [← ht];unfold fH
  exact bH (f:=c8) (by rw [gQq hmi,gEq,gQq hmi];rfl)
 simp only [bk,bh,bhq,Nat.reduceMod,Nat.reduceDiv,aA,az,aB,aZ,aC,aY,aS,aU,aV,yaq,yar,yao,yap,go_sem,iC,ay,cQ,hg,hgc,hne,av hb,aG,ap,aI,ybb,htg,iNq,List.set_cons_succ,List.set_cons_zero]
 (repeat with_reducible refine Yq ?_)
 refine kj 24 1 8 _ rfl rfl ?_
 simp only [bk,bh,bhq,Nat.reduceMod,Nat.reduceDiv,aA,az,aB,aZ,aC,aY,aS,aU,aV,yaq,yar,yao,yap,go_sem,iC,ay,cQ,hg,hgc,hne,av hb,aG,ap,aI,ybb,htg,iNq,List.set_cons_succ,List.set_cons_zero]
 refine kj 24 4 2 _ rfl rfl ?_
 simp only [bk,bh,bhq,Nat.reduceMod,Nat.reduceDiv,aA,az,aB,aZ,aC,aY,aS,aU,aV,yaq,yar,yao,yap,go_sem,iC,ay,cQ,hg,hgc,hne,av hb,aG,ap,aI,ybb,htg,iNq,List.set_cons_succ,List.set_cons_zero]
 (repeat with_reducible refine Yq ?_)
 generalize hR:ct S b t.keys v 0=R
 have hcM:∀ w a1 p,(∀ n,ltL n a1=True)→(kI H id b S t w a1 p).Closed:=fun w a1 p h1=>rS (a2:=[]) (act:=0) hcl h1 (fun n=>by simp [znv])
 refine aK (A:=Nat × Nat × List AV × Int) (fun x=>[(0,.ptr id 0),(4,.ptr H.nx 0),(6,.ptr (H.nx+1) 0),(7,.ptr (H.nx+1+1) 0),(8,.ptr (H.nx+1+1+1+1+1) 0),(26,.slice .any 3 (t.keys.map gW)),(27,.int .i64 (t.keys.length:Int)),(28,.int .i64 (x.1:Int))]) (fun x=>kI H id b S t x.2.1 x.2.2.1 x.2.2.2) (fun x=>x.1≤t.keys.length∧x.2.2.1.length≤x.1∧x.2.2.1++(ct S b (t.keys.drop x.1) x.2.1 x.2.2.2).1.1.map aR=R.1.1.map aR∧(ct S b (t.keys.drop x.1) x.2.1 x.2.2.2).1.2=R.1.2∧(ct S b (t.keys.drop x.1) x.2.1 x.2.2.2).2=R.2) (fun x=>t.keys.length - x.1) (0,v,[],0) ⟨by omega,by simp,by rw [← hR];rfl,by rw [← hR];rfl,by rw [← hR];rfl⟩ ?_ fun x hx=>?_
 ·refine ⟨by simp only [kI,zle,zlf,zkq,zkv];omega,by dsimp only;unfold kI;rw [show cr b (cp v 0)=cr b (cp v 0) from rfl,uS hg];exact lRq _,hcM _ _ _ (fun n=>by simp [znv]),?_,?_⟩
  ·simp [ltF,kI,znn,znf,zle,zlf,bg sN]
   omega
  ·simp [cf,wk2,wk1,wkM,Fr.get]
 obtain ⟨k,w,a1,p⟩:=x
 dsimp only at hx ⊢
 obtain ⟨hk,l1,i1,i2,i3⟩:=hx
 have hlA:=fun n=>kR (n:=n) i1 eJ
 simp only [go_sem]
 refine af (fun hc=>?_) (fun hc=>?_)
 ·have hk':k<t.keys.length:=by simp at hc;omega
  obtain ⟨x,hx⟩:∃ x,x=t.keys[k]:=⟨_,rfl⟩
  have hd:t.keys.drop k=x::t.keys.drop (k+1):=by rw [hx];exact dcq hk'
  have hxm:x∈t.keys:=by rw [hx];exact gMq hk'
  have hkg:=bH (f:=gW) (l:=t.keys) (k:=k) (x:=x) (by rw [gQq hk',hx])
  have hkk:=f5 t htm
  have e5:=Yk5 k
  obtain ⟨b1,b2,b3⟩:=f6 t htm x hxm
  simp only [bk,bh,bhq,Nat.reduceMod,Nat.reduceDiv,aA,az,aB,aZ,aC,aY,aS,aU,aV,yaq,yar,yao,yap,go_sem,iC,ay,cQ,hg,hgc,hne,av hb,aG,ap,aI,ybb,htg,iNq,List.set_cons_succ,List.set_cons_zero,kI,hkg,gW]
  (repeat with_reducible refine Yq ?_)
  refine ⟨S,⟨rfl,by omega,b1,b2,b3⟩,?_⟩
  simp only [bk,bh,bhq,Nat.reduceMod,Nat.reduceDiv,aA,az,aB,aZ,aC,aY,aS,aU,aV,yaq,yar,yao,yap,go_sem,iC,ay,cQ,hg,hgc,hne,av hb,aG,ap,aI,ybb,htg,iNq,List.set_cons_succ,List.set_cons_zero,kI,hkg,gW,cz hb (qf _ _)]
  have five:(5:Int).toNat=5:=rfl
  have a15:∀ u,IntKind.i64.wrap (1+((cv b u 5:Nat):Int))=1+((cv b u 5:Nat):Int):=fun u=>by
   have:=cn (b:=b) (v:=u) (n:=5) (by decide)
   rw [wrap_i64 (by omega) (by omega)]
  by_cases hk34:x.kind=3∨x.kind=4
  ·rcases hk34 with h3|h3
   ·have hk34:x.kind=3∨x.kind=4:=.inl h3
    have d3:(x.kind==3)=true:=by simp [h3]
    simp only [bk,bh,bhq,Nat.reduceMod,Nat.reduceDiv,aA,az,aB,aZ,aC,aY,aS,aU,aV,yaq,yar,yao,yap,go_sem,iC,ay,cQ,hg,hgc,hne,av hb,aG,ap,aI,ybb,htg,iNq,List.set_cons_succ,List.set_cons_zero,kI,hkg,gW,cz hb (qf _ _),G7,GF,e5,a15,five,d3]
    (repeat with_reducible refine Yq ?_)
    rw [hd] at i1 i2 i3
    simp only [ct,if_pos hk34] at i1 i2 i3
    have i1':(a1++[aR (cq b (cp w 0) (eW S x.field) x.kind).1])++_=R.1.1.map aR:=(List.append_assoc _ _ _).trans i1
    refine ⟨(k+1,cp (cq b (cp w 0) (eW S x.field) x.kind).2 1,a1++[aR (cq b (cp w 0) (eW S x.field) x.kind).1],1+ci b (cp (cq b (cp w 0) (eW S x.field) x.kind).2 0) 5),⟨by dsimp only;omega,by simp only [lAq,yaz,yba];omega,i1',i2,i3⟩,by dsimp only;omega,by simp only [kI,zle,zlf,zkq,zkv];omega,?_,hcM _ _ _ (fun n=>kR (n:=n) i1' eJ),?_,?_⟩
    ·simp only [kI,lAq,yaz,yba]
     repeat first|exact .refl _|refine .push ?_ _
    ·simp [ltF,kI,znn,znf,zle,zlf,bg sN]
     omega
    ·simp [cf,wk2,wk1,wkM,Fr.get]
   ·have hk34:x.kind=3∨x.kind=4:=.inr h3
    have d3:(x.kind==3)=false:=by simp [h3]
    have d4:(x.kind==4)=true:=by simp [h3]
    simp only [bk,bh,bhq,Nat.reduceMod,Nat.reduceDiv,aA,az,aB,aZ,aC,aY,aS,aU,aV,yaq,yar,yao,yap,go_sem,iC,ay,cQ,hg,hgc,hne,av hb,aG,ap,aI,ybb,htg,iNq,List.set_cons_succ,List.set_cons_zero,kI,hkg,gW,cz hb (qf _ _),G7,GF,e5,a15,five,d3,d4]
    (repeat with_reducible refine Yq ?_)
    rw [hd] at i1 i2 i3
    simp only [ct,if_pos hk34] at i1 i2 i3
    have i1':(a1++[aR (cq b (cp w 0) (eW S x.field) x.kind).1])++_=R.1.1.map aR:=(List.append_assoc _ _ _).trans i1
    refine ⟨(k+1,cp (cq b (cp w 0) (eW S x.field) x.kind).2 1,a1++[aR (cq b (cp w 0) (eW S x.field) x.kind).1],1+ci b (cp (cq b (cp w 0) (eW S x.field) x.kind).2 0) 5),⟨by dsimp only;omega,by simp only [lAq,yaz,yba];omega,i1',i2,i3⟩,by dsimp only;omega,by simp only [kI,zle,zlf,zkq,zkv];omega,?_,hcM _ _ _ (fun n=>kR (n:=n) i1' eJ),?_,?_⟩
    ·simp only [kI,lAq,yaz,yba]
     repeat first|exact .refl _|refine .push ?_ _
    ·simp [ltF,kI,znn,znf,zle,zlf,bg sN]
     omega
    ·simp [cf,wk2,wk1,wkM,Fr.get]
  ·have d3:(x.kind==3)=false:=by simp;intro h;exact hk34 (.inl h)
   have d4:(x.kind==4)=false:=by simp;intro h;exact hk34 (.inr h)
   simp only [bk,bh,bhq,Nat.reduceMod,Nat.reduceDiv,aA,az,aB,aZ,aC,aY,aS,aU,aV,yaq,yar,yao,yap,go_sem,iC,ay,cQ,hg,hgc,hne,av hb,aG,ap,aI,ybb,htg,iNq,List.set_cons_succ,List.set_cons_zero,kI,hkg,gW,cz hb (qf _ _),G7,GF,e5,a15,five,d3,d4]
   (repeat with_reducible refine Yq ?_)
   rw [hd] at i1 i2 i3
   simp only [ct,if_neg hk34] at i1 i2 i3
   have i1':(a1++[aR (cq b (cp w 0) (eW S x.field) x.kind).1])++_=R.1.1.map aR:=(List.append_assoc _ _ _).trans i1
   refine ⟨(k+1,cp (cq b (cp w 0) (eW S x.field) x.kind).2 0,a1++[aR (cq b (cp w 0) (eW S x.field) x.kind).1],p),⟨by dsimp only;omega,by simp only [lAq,yaz,yba];omega,i1',i2,i3⟩,by dsimp only;omega,by simp only [kI,zle,zlf,zkq,zkv];omega,?_,hcM _ _ _ (fun n=>kR (n:=n) i1' eJ),?_,?_⟩
   ·simp only [kI,lAq,yaz,yba]
    repeat first|exact .refl _|refine .push ?_ _
   ·simp [ltF,kI,znn,znf,zle,zlf,bg sN]
    omega
   ·simp [cf,wk2,wk1,wkM,Fr.get]
 ·have hk':k=t.keys.length:=by simp at hc;omega
  subst hk'
  rw [List.drop_length] at i1 i2 i3
  simp only [ct,yaf,yaj] at i1 i2 i3
  obtain ⟨g1,g2⟩:=f7 t htm
  have hkk:=f5 t htm
  have hcl3:cv b (cp w 0) t.actions.length<t.actions.length:=cn (by omega)
  obtain ⟨act,hact⟩:∃ act,t.actions.getD (cv b w t.actions.length) 0=act:=⟨_,rfl⟩
  have hag:(inL t.actions).getD (cv b (cp w 0) t.actions.length) .junk=.int .i64 act:=by
   rw [← hact]
   unfold inL
   exact bH (f:=fun n=>AV.int .i64 n) (by rw [gQq hcl3,gEq,show cv b w t.actions.length=cv b (cp w 0) t.actions.length from rfl,gQq hcl3];rfl)
  have hil:(inL t.actions).length=t.actions.length:=by simp [inL]
  have hsp:=f8 act
  have hpb:=f9 act
  have e256:(256:Int).toNat=256:=rfl
  have u256:∀ u,IntKind.u64.wrap ((cv b u 256:Nat):Int)=((cv b u 256:Nat):Int):=fun u=>by
   have:=cn (b:=b) (v:=u) (n:=256) (by decide)
   rw [cG (by omega) (by omega)]
  have hb1:(0≤((cv b (cp w 0) t.actions.length:Nat):Int)∧((cv b (cp w 0) t.actions.length:Nat):Int)<(((inL t.actions).length:Nat):Int))=True:=eq_true ⟨by omega,by rw [hil];omega⟩
  simp only [bk,bh,bhq,Nat.reduceMod,Nat.reduceDiv,aA,az,aB,aZ,aC,aY,aS,aU,aV,yaq,yar,yao,yap,go_sem,iC,ay,cQ,hg,hgc,hne,av hb,aG,ap,aI,ybb,htg,iNq,List.set_cons_succ,List.set_cons_zero,kI,r9,hag,jA,cy,jt,r6,gA,Int.toNat_zero,u256,e256,vv,hil]
  (repeat with_reducible refine Yq ?_)
  refine ⟨S,⟨rfl,by omega⟩,?_⟩
  generalize hao:fx S.actions act=a at *
  generalize hG:jz b a.params (cp w 1)=G
  have hcM2:∀ w' a2,(∀ n,ltL n a2=True)→(r9 H id b S t w' a1 a2 p act).Closed:=fun w' a2 h2=>rS hcl hlA h2
  refine aK (A:=Nat × Nat × List AV) (fun x=>[(0,.ptr id 0),(6,.ptr (H.nx+1) 0),(8,.ptr (H.nx+1+1+1+1+1) 0),(68,.slice .any 2 (a.params.map mm)),(69,.int .i64 (a.params.length:Int)),(70,.int .i64 (x.1:Int))]) (fun x=>r9 H id b S t x.2.1 a1 x.2.2 p act) (fun x=>x.1≤a.params.length∧x.2.2.length≤x.1∧x.2.2++(jz b (a.params.drop x.1) x.2.1).1.map vv=G.1.map vv∧(jz b (a.params.drop x.1) x.2.1).2=G.2) (fun x=>a.params.length - x.1) (0,cp w 1,[]) ⟨by omega,by simp,by rw [← hG];rfl,by rw [← hG];rfl⟩ ?_ fun x hx=>?_
  ·refine ⟨by simp only [r9,zle,zlf,zkq,zkv];omega,lRq _,hcM2 _ _ (fun n=>by simp [znv]),?_,?_⟩
   ·simp [ltF,r9,znn,znf,zle,zlf,bg tE]
    omega
   ·simp [cf,wk2,wk1,wkM,Fr.get]
  obtain ⟨j,w2,a2⟩:=x
  dsimp only at hx ⊢
  obtain ⟨hj,m1,j1,j2⟩:=hx
  simp only [go_sem]
  refine af (fun hc=>?_) (fun hc=>?_)
  ·have hj':j<a.params.length:=by simp at hc;omega
   obtain ⟨x,hx⟩:∃ x,x=a.params[j]:=⟨_,rfl⟩
   have hd:a.params.drop j=x::a.params.drop (j+1):=by rw [hx];exact dcq hj'
   have hxm:x∈a.params:=by rw [hx];exact gMq hj'
   have hkg:=bH (f:=mm) (l:=a.params) (k:=j) (x:=x) (by rw [gQq hj',hx])
   have e5:IntKind.i64.wrap ((j:Int)+1)=((j+1:Nat):Int):=by rw [wrap_i64]<;>omega
   have hxb:=hpb x hxm
   rw [hd] at j1 j2
   simp only [jz] at j1 j2
   have j1':(a2++[vv (low (cv b w2 256) x.bits)])++_=G.1.map vv:=(List.append_assoc _ _ _).trans j1
   have c256:=cn (b:=b) (v:=cp w2 0) (n:=256) (by decide)
   simp only [bk,bh,bhq,Nat.reduceMod,Nat.reduceDiv,aA,az,aB,aZ,aC,aY,aS,aU,aV,yaq,yar,yao,yap,go_sem,iC,ay,cQ,hg,hgc,hne,av hb,aG,ap,aI,ybb,htg,iNq,List.set_cons_succ,List.set_cons_zero,kI,r9,hag,jA,cy,jt,r6,gA,Int.toNat_zero,u256,e256,vv,hkg,mm,e5]
   (repeat with_reducible refine Yq ?_)
   refine ⟨(j+1,cp w2 1,a2++[vv (low (cv b w2 256) x.bits)]),⟨by dsimp only;omega,by simp only [lAq,yaz,yba];omega,j1',j2⟩,by dsimp only;omega,by simp only [r9,zle,zlf,zkq,zkv];omega,?_,hcM2 _ _ (fun n=>kR (n:=n) j1' DP),?_,?_⟩
   ·simp only [r9,lAq,yaz,yba]
    repeat first|exact .refl _|refine .push ?_ _
   ·simp [ltF,r9,znn,znf,zle,zlf,bg tE]
    omega
   ·simp [cf,wk2,wk1,wkM,Fr.get]
  ·have hj':j=a.params.length:=by simp at hc;omega
   subst hj'
   rw [List.drop_length] at j1 j2
   simp only [jz,yaf,yaj] at j1 j2
   simp only [bk,bh,bhq,Nat.reduceMod,Nat.reduceDiv,aA,az,aB,aZ,aC,aY,aS,aU,aV,yaq,yar,yao,yap,go_sem,iC,ay,cQ,hg,hgc,hne,av hb,aG,ap,aI,ybb,htg,iNq,List.set_cons_succ,List.set_cons_zero,kI,r9,hag,jA,cy,jt,r6,gA,Int.toNat_zero,u256,e256,vv]
   (repeat with_reducible refine Yq ?_)
   have hE:er S b v n=(⟨t.id,R.1.1,R.1.2,act,G.1⟩,G.2):=by
    unfold er
    dsimp only
    rw [ht,hR,← i3,hact,hao,show w+1=cp w 1 from rfl,hG]
   rw [hE] at hres hpos
   dsimp only at hres hpos
   subst hres
   subst hpos
   refine gP 87 (bc ⟨t.id,R.1.1,R.1.2,act,G.1⟩) ?_ ?_
   ·simp [Fr.get,bc,aN,jv,fP,fK,gH,fM,gC,jw,wkM,nP,i1,i2,j1]
   simp only [bhq,Nat.reduceMod,Nat.reduceDiv,aA,az,aB,aZ,aC,aY,aS,aU,aV,yaq,yar,yao,yap,go_sem,bc,aN]
   rw [j2]
   refine ⟨?_,?_,hcl2 _,dJ ⟨t.id,R.1.1,R.1.2,act,G.1⟩⟩
   ·simp [wk,wk2,wkL,wk1,wkM]
   ·repeat first|exact .refl _|refine .push ?_ _
end Go.AL
