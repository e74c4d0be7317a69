/- Contracts and plain laws, a part of the proof; no condition of its own. -/
import Derived.Test.YtokjjhidigoodaaGreatS12b
import Derived.Test.YtokjjhidigoodaaGreatS11f
import Derived.Test.YtokjjhidigoodaaGreatS09i
set_option maxHeartbeats 32000000
open List renaming length_cons → yaz, length_nil → yba, take_of_length_le → ybc, drop_append → ybd, take_append → ybe, drop_eq_nil_of_le → ybf, length_map → ybb, take_succ_cons → yaq, take_zero → yar, drop_succ_cons → yao, drop_zero → yap, map_cons → yae, map_nil → yaf
open Go Go.AL Go.Proofs
namespace Go.AL
set_option linter.all false
set_option maxRecDepth 10000
def sx:List AV→AHeap→(AV→Prop)→Prop
 |[.str s,.slice _ 2 y,.slice _ 4 z],_,K=>∃ vs b,(y=a9 vs∧xO vs∧s.length≤140737488355328∧z=aN b∧uQ b)∧K (.bool (nb vs s b))
 |_,_,_=>False
theorem F7:EntOk Tryz.prog 59 (Ent.pure sx):=by
 refine EntOk.pure fun args H K h=>?_
 unfold sx at h
 split at h
 rotate_left
 ·exact h.elim
 rename_i s m y m2 z
 obtain ⟨vs,b,⟨rfl,hv,hs,rfl,hb⟩,hK⟩:=h
 refine ⟨_,hK,?_⟩
 clear hK
 generalize hR:nb vs s b=R
 refine ACalls.fW aB (TblOk.cons zZ (TblOk.cons Ei TblOk.nil)) Tryz.func59 [.tmp 6] (Nat.le_refl _) (T:=aA []) (h:=fun hcl hlt=>?_)
 clear hlt
 simp only [go_sem,oI]
 refine ⟨vs,⟨rfl,hv,hs⟩,?_⟩
 have hC:=@qj (bE vs) s
 unfold nb at hR
 obtain ⟨⟨t,er⟩,hq⟩:∃ q,comp (bE vs) s=q:=⟨_,rfl⟩
 rw [hq] at hC hR ⊢
 dsimp only at hR
 by_cases h0:er=0
 ·subst h0
  rw [if_pos rfl] at hR
  have d0:(((0:Nat):Int)==0)=true:=rfl
  simp only [bv,go_sem,fA,d0,tL]
  refine ⟨t,b,⟨rfl,rfl,hC rfl,hb⟩,?_⟩
  rw [hR]
  try simp only [bv,go_sem]
  exact Z0
 ·rw [if_neg h0] at hR
  subst hR
  have d0:((er:Int)==0)=false:=by simp [h0]
  simp only [bv,go_sem,fA,d0]
  exact Z0
def w6:List AV→AHeap→(AV→Prop)→Prop
 |[.agg l,.agg le],_,K=>∃ S e,(l=br S∧le=eA e∧SAdm S∧EAdm e)∧K (.bool (Ev S e))
 |_,_,_=>False
theorem IB:EntOk Tryz.prog 15 (Ent.pure w6):=by
 refine EntOk.pure fun args H K h=>?_
 unfold w6 at h
 split at h
 rotate_left
 ·exact h.elim
 rename_i l le
 obtain ⟨S,e,⟨rfl,rfl,hS,he⟩,hK⟩:=h
 refine ⟨_,hK,?_⟩
 clear hK
 generalize hR:Ev S e=R
 unfold Ev Ki at hR
 refine ACalls.fW aB (TblOk.cons yC (TblOk.cons uW (TblOk.cons Fe (TblOk.cons F7 (TblOk.cons w7 (TblOk.cons sQ (TblOk.cons CZ TblOk.nil))))))) Tryz.func15 [.tmp 4] (Nat.le_refl _) (T:=aA [(2,[[],[],[],[],[],[],[],[],[],[],[],[],[],[],[10,13],[],[],[],[],[],[],[],[10,13,14,15,17,20,21],[4,8,10,13,14,15,17,20,21,22]]),(7,[[],[],[],[],[],[],[],[],[],[],[],[],[],[],[10,13],[],[],[],[],[],[],[],[10,13,14,16,19,21],[4,8,10,13,14,16,19,21,22]])]) (h:=fun hcl hlt=>?_)
 clear hlt
 simp only [go_sem,br,eA,pn]
 refine ⟨S,⟨rfl,hS.sl⟩,?_⟩
 rcases pI (q:=fun t:STable=>t.id==e.table) (l:=S.tables) with ⟨b1,b2⟩|⟨i,t,b1,hil,b3,b2,_⟩
 ·rw [b2] at hR
  dsimp only at hR
  subst hR
  rw [b1]
  have d:decide ((-1:Int)<0)=true:=rfl
  simp only [bv,go_sem,d]
  exact Z0
 rw [b2] at hR
 dsimp only at hR
 rw [b1]
 have d:decide ((i:Int)<0)=false:=by simp
 have hg':=cl (f:=bx) (l:=S.tables) (k:=i) (x:=t) b3
 have hot:=hS.tk t (List.mem_of_getElem? b3)
 have hk1:t.keys.length≤1000:=by have:=hot.1;omega
 have hbs:=v4 (fs:=S.fields) (keys:=t.keys) he hk1
 have dn1:(!true)=false:=rfl
 have dn2:(!false)=true:=rfl
 simp only [bv,go_sem,d,Int.toNat_natCast,hg',bx,ybb,lX]
 refine ⟨by omega,by omega,t.keys,⟨rfl,hk1⟩,?_⟩
 simp only [bv,go_sem,d,Int.toNat_natCast,hg',bx,ybb,wN]
 refine ⟨by omega,S,t.keys,e.ms,⟨rfl,hS.sl,rfl,hk1,.inl ⟨_,rfl⟩,he.ml,he.pf,he.pr⟩,?_⟩
 simp only [bv,go_sem,sx]
 refine ⟨_,_,⟨rfl,yG hot,vu hot,rfl,hbs⟩,?_⟩
 cases hmv:nb (kL t.keys) t.restr (ke S.fields t.keys e.ms e.prio) with
 |false =>
  rw [hmv,Bool.false_and] at hR
  subst hR
  simp only [bv,go_sem,dn1,dn2]
  exact Z0
 |true =>
 rw [hmv,Bool.true_and] at hR
 unfold Kt Ke at hR
 by_cases ha:e.act=0
 ·rw [if_pos ha] at hR
  subst hR
  have da:(e.act==0)=true:=by rw [ha];rfl
  simp only [bv,go_sem,dn1,dn2,da]
  exact Z0
 rw [if_neg ha] at hR
 have da:(e.act==0)=false:=by simp [ha]
 simp only [bv,go_sem,dn1,dn2,da,nj]
 refine ⟨S,⟨rfl,hS.sl⟩,?_⟩
 rcases pI (q:=fun a:SAction=>a.id==e.act) (l:=S.actions) with ⟨q1,q2⟩|⟨j,a,q1,hjl,q3,q2,_⟩
 ·rw [q2] at hR
  dsimp only at hR
  subst hR
  rw [q1]
  have d:decide ((-1:Int) ≥ 0)=false:=rfl
  simp only [bv,go_sem,d]
  exact Z0
 rw [q2] at hR
 dsimp only at hR
 rw [q1]
 have dj:decide ((j:Int) ≥ 0)=true:=by simp
 have hga:=cl (f:=a8) (l:=S.actions) (k:=j) (x:=a) q3
 have hoa:=hS.ak a (List.mem_of_getElem? q3)
 have hp1:a.params.length≤1000:=by have:=hoa.1;omega
 have hbs2:=wm (ps:=a.params) he hp1
 simp only [bv,go_sem,dj,Int.toNat_natCast,hga,a8,ybb,kY]
 refine ⟨by omega,by omega,a.params,⟨rfl,hp1⟩,?_⟩
 simp only [bv,go_sem,dj,Int.toNat_natCast,hga,a8,ybb,t9]
 refine ⟨by omega,a.params,e.args,⟨rfl,hp1,.inl ⟨_,rfl⟩⟩,?_⟩
 try simp only [bv,go_sem,sx]
 refine ⟨_,_,⟨rfl,yE hoa,hoa.2.2,rfl,hbs2⟩,?_⟩
 rw [hR]
 try simp only [bv,go_sem]
 exact Z0
end Go.AL
open Go Go.AL Go.Proofs
namespace Go.AL
set_option linter.all false
set_option maxRecDepth 10000
theorem DI {b:List UInt8}:SLen (dM b 0).1:=⟨by simp only [dM];decide,by simp only [dM];decide,by
 show (cd b (cp 0 2)).1.length≤1000000
 unfold cd
 split<;>split<;>simp,by
 simp only [dM,cR];simp,by
 simp only [dM,cw];simp,by
 simp only [dM,jz];simp⟩
theorem HG {b:List UInt8}:SAdm (dM b 0).1:=⟨DI,Ex b (cp (cd b (cp 0 2)).2 4),Di b (cd b (cp 0 2)).2⟩
/-- the numbers of tables and actions are ep -/
def J3 (S:Sch):Prop:=∀ t∈S.tables,0≤t.id∧t.id≤100∧∀ a∈t.actions,0≤a∧a≤100
theorem D1 {b:List UInt8}:J3 (dM b 0).1:=by
 intro t ht
 have h:t∈cw b (cp (cd b (cp 0 2)).2 4):=ht
 simp only [cw,List.mem_cons,List.not_mem_nil,or_false] at h
 rcases h with rfl|rfl|rfl|rfl
 ·exact ⟨by show (0:Int)≤1;decide,by show (1:Int)≤100;decide,by show ∀ a∈([1,2,4]:List Int),0≤a∧a≤100;decide⟩
 ·exact ⟨by show (0:Int)≤2;decide,by show (2:Int)≤100;decide,by show ∀ a∈([1,2,3,4]:List Int),0≤a∧a≤100;decide⟩
 ·exact ⟨by show (0:Int)≤3;decide,by show (3:Int)≤100;decide,by show ∀ a∈([1,2,3,5,6]:List Int),0≤a∧a≤100;decide⟩
 ·exact ⟨by show (0:Int)≤4;decide,by show (4:Int)≤100;decide,by show ∀ a∈([1,3,5]:List Int),0≤a∧a≤100;decide⟩
theorem JF {S:Sch} (hG:GenS S) {m:Int} {e:SEntry} (h:GE S (eO S m) e):EAdm e:=by
 have hkl:=hG.kl _ (mv (S:=S) (n:=m) hG.t1)
 have ho:=h.ok hkl hG.pl
 have hml:=h.ml
 refine ⟨by omega,fun x hx=>?_,by have:=h.p1;omega,ho.mo,fun x hx=>Nat.lt_of_lt_of_le (h.ao x hx) (by decide)⟩
 have:=(h.mo x hx).p1
 omega
def pT:List AV→AHeap→(AV→Prop)→Prop
 |[.slice _ 1 l1,.slice _ 1 l2,.agg le],_,K=>∃ e0,(isB l1∧isB l2∧le=eA e0∧EAdm e0 ∧ -9223372036854775808≤e0.table∧e0.table≤9223372036854775807 ∧ -9223372036854775808≤e0.act∧e0.act≤9223372036854775807)∧K (.bool true)
 |_,_,_=>False
theorem ok_EvalAdmits:EntOk Tryz.prog 3 (Ent.pure pT):=by
 refine EntOk.pure fun args H K h=>?_
 unfold pT at h
 split at h
 rotate_left
 ·exact h.elim
 rename_i m1 l1 m2 l2 le
 obtain ⟨e0,⟨c1,c2,rfl,hb0,ht1,ht2,ha1,ha2⟩,hK⟩:=h
 refine ⟨_,hK,?_⟩
 clear hK
 obtain ⟨x1,rfl⟩:=wW c1
 obtain ⟨x2,rfl⟩:=wW c2
 clear c1 c2
 obtain ⟨B1,hB1⟩:∃ B1,x1.take (min (x1.length:Int) 120).toNat=B1:=⟨_,rfl⟩
 obtain ⟨B2,hB2⟩:∃ B2,x2.take (min (x2.length:Int) 60).toNat=B2:=⟨_,rfl⟩
 have hL1:B1.length≤1000000:=by rw [← hB1,List.length_take];omega
 have hL2:B2.length≤1000000:=by rw [← hB2,List.length_take];omega
 have hG:=Jj B1 0
 have hA:=HG (b:=B1)
 have hN:=D1 (b:=B1)
 generalize hS:dM B1 0=SS at *
 obtain ⟨S,w1⟩:=SS
 dsimp only at hG hA hN
 have hz1:zod B1 0=di B1 (cp 0 0):=zF
 have hz2:zod B2 0=di B2 (cp 0 0):=zF
 refine ACalls.fW aB (TblOk.cons IA (TblOk.cons BC (TblOk.cons yr (TblOk.cons Co (TblOk.cons Jx (TblOk.cons IB (TblOk.cons AE TblOk.nil))))))) Tryz.func3 [.tmp 6] (Nat.le_refl _) (T:=aA [(3,[[],[],[1],[],[],[1,2,3]]),(7,[[],[],[0,1],[],[],[0,1,2,3,4]]),(11,[[],[],[0,1],[],[],[0,1,2,3,4]]),(803,[[100004]])]) (h:=fun hcl hlt=>?_)
 have hx1:=AV.lt_mono (Nat.le_succ H.nx) _ (hlt (.agg (eA e0)) (by simp))
 simp only [znn] at hx1
 clear hlt
 simp only [go_sem,eA,tw]
 refine ⟨x1,⟨rfl,by omega⟩,?_⟩
 rw [hB1,hz1]
 have hSch:qS=eG fun b v=>(rP (dM b v).1,(dM b v).2):=rfl
 simp only [cr,bv,bhq,Nat.reduceMod,Nat.reduceDiv,bc,bf,bg,bX,bh,bV,bQ,bT,bU,yaq,yar,yao,yap,go_sem,tw,hSch,eG,aZ hL1,Nat.zero_min,cp0,hS,rP,br]
 refine ⟨x2,⟨rfl,by omega⟩,?_⟩
 rw [hB2,hz2]
 simp only [cr,bv,bhq,Nat.reduceMod,Nat.reduceDiv,bc,bf,bg,bX,bh,bV,bQ,bT,bU,yaq,yar,yao,yap,go_sem,tw,hSch,eG,aZ hL1,aZ hL2,Nat.zero_min,cp0,hS,rP,br,oR]
 refine ⟨S,⟨rfl,hG,by decide,by decide⟩,fun es w hel heo=>?_⟩
 obtain ⟨E,hE'⟩:∃ E:List SEntry,E=es++[e0]:=⟨_,rfl⟩
 have hEl:es.length+1=E.length:=by rw [hE'];simp
 have hEo:∀ e∈E,EAdm e ∧ -9223372036854775808≤e.table∧e.table≤9223372036854775807 ∧ -9223372036854775808≤e.act∧e.act≤9223372036854775807:=fun e he=>by
  rw [hE',List.mem_append] at he
  rcases he with he|he
  ·obtain ⟨m,hm⟩:=heo e he
   obtain ⟨n1,n2,n3⟩:=hN _ (mv (S:=S) (n:=m) hG.t1)
   have n4:=n3 _ hm.am
   have n5:=hm.tb
   exact ⟨JF hG hm,by omega,by omega,by omega,by omega⟩
  ·rw [List.mem_singleton.1 he];exact ⟨hb0,ht1,ht2,ha1,ha2⟩
 have hEm:es.map cW++[cW e0]=E.map cW:=by rw [hE'];simp
 simp only [cW,eA] at hEm
 try simp only [cr,bv,bhq,Nat.reduceMod,Nat.reduceDiv,bc,bf,bg,bX,bh,bV,bQ,bT,bU,yaq,yar,yao,yap,go_sem,br,cW,eA,List.map_append,yae,yaf,ybb,List.length_append,yaz,yba,hEm]
 refine ⟨⟨by omega,by omega,fun z hz=>by rw [List.mem_singleton.1 hz];rfl⟩,?_⟩
 rw [hEl]
 have hcod:ltL (H.nx+1+1) [.slice .any 1 (bys B1),.int .i64 ((min w1 B1.length:Nat):Int)]:=⟨vE fun x hx=>by obtain ⟨c,_,rfl⟩:=List.mem_map.1 hx;simp only [bL,znb],by simp only [znb],trivial⟩
 have hsl:∀ n,ltL n [.slice .any 3 (S.fields.map ce),.slice .any 3 (S.headers.map eP),.slice .any 5 (S.states.map cV),.slice .any 5 (S.actions.map a8),.slice .any 8 (S.tables.map bx),.slice .any 2 (S.stages.map lP),.slice .any 6 (S.roles.map fK),.slice .any 6 (S.refs.map sZ),.int .i64 S.maxBatch,.int .i64 S.budget]:=fun n=>by
  have:=@qF n S
  unfold rP br at this
  rwa [znn] at this
 have hcG:(((H.push (.cells [.int .i64 e0.table,.slice .any 8 (e0.ms.map bu),.int .i64 e0.prio,.int .i64 e0.act,.slice .any 2 (e0.args.map vv)])).push (di B1 w1)).push (.cells [.slice .any 3 (S.fields.map ce),.slice .any 3 (S.headers.map eP),.slice .any 5 (S.states.map cV),.slice .any 5 (S.actions.map a8),.slice .any 8 (S.tables.map bx),.slice .any 2 (S.stages.map lP),.slice .any 6 (S.roles.map fK),.slice .any 6 (S.refs.map sZ),.int .i64 S.maxBatch,.int .i64 S.budget])).Closed:=ae (ae (ae hcl hx1) hcod) (hsl _)
 refine ay (A:=Nat) (fun i=>[(7,.ptr (H.nx+1+1) 0),(23,.slice .any 5 (E.map cW)),(24,.int .i64 (E.length:Int)),(25,.int .i64 (i:Int))]) (fun _=>(((H.push (.cells [.int .i64 e0.table,.slice .any 8 (e0.ms.map bu),.int .i64 e0.prio,.int .i64 e0.act,.slice .any 2 (e0.args.map vv)])).push (di B1 w1)).push (.cells [.slice .any 3 (S.fields.map ce),.slice .any 3 (S.headers.map eP),.slice .any 5 (S.states.map cV),.slice .any 5 (S.actions.map a8),.slice .any 8 (S.tables.map bx),.slice .any 2 (S.stages.map lP),.slice .any 6 (S.roles.map fK),.slice .any 6 (S.refs.map sZ),.int .i64 S.maxBatch,.int .i64 S.budget]))) (fun i=>i≤E.length) (fun i=>E.length - i) 0 (by omega) ?_ fun i hi=>?_
 ·refine ⟨by (try simp only [zkm,zkr,zla]);omega,by repeat first|exact .refl _|refine .push ?_ _,hcG,?_,?_⟩
  ·simp [ltF,zla,znj,znb,bn lh]
   try omega
  ·simp [aI,wk2,wk1,wkM,Fr.get]
 simp only [go_sem]
 refine aq (fun hc=>?_) (fun hc=>?_)
 ·have hi':i<E.length:=by simp at hc;omega
  obtain ⟨x,hx⟩:∃ x,x=E[i]:=⟨_,rfl⟩
  have hgx:=cl (f:=cW) (l:=E) (k:=i) (x:=x) (by rw [List.getElem?_eq_getElem hi',hx])
  obtain ⟨o1,o2,o3,o4,o5⟩:=hEo x (by rw [hx];exact List.getElem_mem hi')
  have ei:IntKind.i64.wrap ((i:Int)+1)=((i+1:Nat):Int):=by rw [wrap_i64]<;>omega
  have db:∀ b:Bool,(b==b)=true:=fun b=>by cases b<;>rfl
  have db2:(true != true)=false:=rfl
  have db3:∀ b:Bool,(b != b)=false:=fun b=>by cases b<;>rfl
  obtain ⟨y,hy⟩:∃ y:SEntry,y=⟨x.table % 6,x.ms,x.prio,x.act % 8,x.args⟩:=⟨_,rfl⟩
  have oy:EAdm y:=by rw [hy];exact ⟨o1.ml,o1.pf,o1.pr,o1.mo,o1.ar⟩
  have hye:[AV.int .i64 (x.table % 6),.slice .any 8 (x.ms.map bu),.int .i64 x.prio,.int .i64 (x.act % 8),.slice .any 2 (x.args.map vv)]=eA y:=by rw [hy];rfl
  simp only [cr,bv,bhq,Nat.reduceMod,Nat.reduceDiv,bc,bf,bg,bX,bh,bV,bQ,bT,bU,yaq,yar,yao,yap,go_sem,cW,eA,ybb,Int.toNat_natCast,hgx,AN]
  refine ⟨by omega,S,x,⟨rfl,rfl,hA,o1⟩,?_⟩
  simp only [cr,bv,bhq,Nat.reduceMod,Nat.reduceDiv,bc,bf,bg,bX,bh,bV,bQ,bT,bU,yaq,yar,yao,yap,go_sem,cW,eA,w6]
  refine ⟨S,x,⟨rfl,rfl,hA,o1⟩,?_⟩
  simp only [cr,bv,bhq,Nat.reduceMod,Nat.reduceDiv,bc,bf,bg,bX,bh,bV,bQ,bT,bU,yaq,yar,yao,yap,go_sem,cW,eA,db,db2,db3,iq]
  rw [hye]
  refine ⟨⟨o2,o3,by omega,by omega⟩,⟨o4,o5,by omega,by omega⟩,S,y,⟨rfl,rfl,hA,oy⟩,?_⟩
  rw [← hye]
  simp only [cr,bv,bhq,Nat.reduceMod,Nat.reduceDiv,bc,bf,bg,bX,bh,bV,bQ,bT,bU,yaq,yar,yao,yap,go_sem,w6]
  rw [hye]
  refine ⟨S,y,⟨rfl,rfl,hA,oy⟩,?_⟩
  rw [← hye]
  simp only [cr,bv,bhq,Nat.reduceMod,Nat.reduceDiv,bc,bf,bg,bX,bh,bV,bQ,bT,bU,yaq,yar,yao,yap,go_sem,db,db2,db3,ei]
  refine ⟨i+1,by omega,by omega,?_⟩
  refine ⟨by (try simp only [zkm,zkr,zla]);omega,by repeat first|exact .refl _|refine .push ?_ _,hcG,?_,?_⟩
  ·simp [ltF,zla,znj,znb,bn lh]
   try omega
  ·simp [aI,wk2,wk1,wkM,Fr.get]
 ·simp only [go_sem,qL]
  exact Z0
end Go.AL
