/- Contracts and plain laws, a part of the proof; no condition of its own. -/
import Derived.Test.YtiiiljghmilepaaGreatS08k
import Derived.Test.YtiiiljghmilepaaGreatS07h
open List renaming length_cons → yaz, length_nil → yba, take_succ_cons → yaq, take_zero → yar, drop_succ_cons → yao, drop_zero → yap, map_cons → yae, map_nil → yaf, take_of_length_le → ybc, drop_append → ybd, take_append → ybe, drop_eq_nil_of_le → ybf
open Go Go.AL Go.Proofs
namespace Go.AL
set_option linter.all false
set_option maxRecDepth 10000
theorem wZ {b:List UInt8} {K:List UInt8→Nat→Prop} (hb:b.length≤1000000):onC (some (.cells [.slice .any 1 (bys b),.int .i64 0])) K=K b 0:=by
 have:=bB (v:=0) (K:=K) hb
 unfold db at this
 simpa using this
theorem wW {n:Nat} (S:Sch):ltL n (sy S):=by
 have:=@A8 n S
 unfold n8 at this
 rwa [znl] at this
def j6 (t:STable):List AV:=[.int .i64 t.id,.str t.name,.slice .any 3 (t.keys.map dh),.slice .any 1 (inL t.actions),.int .i64 t.dflt,.slice .any 2 (t.dargs.map vv),.int .i64 t.size,.str t.restr]
theorem A1 (l:List STable):(l.map aU).flatMap AV.cells=l.flatMap j6:=by
 rw [List.flatMap_map];rfl
theorem mZ:∀ (l:List STable),(l.flatMap j6).length=l.length*8
 |[]=>rfl
 |m::l=>by
  rw [List.flatMap_cons,List.length_append,mZ l,yaz]
  show 8+_=_
  omega
theorem tQ (l:List STable):∀ x∈(l.map aU).flatMap AV.cells,AV.lt 0 x:=fun x hx=>by
 obtain ⟨y,hy,hx⟩:=List.mem_flatMap.1 hx
 obtain ⟨m,_,rfl⟩:=List.mem_map.1 hy
 obtain ⟨j,hj,rfl⟩:=List.getElem_of_mem hx
 exact AV.lt_cells (da m) j hj
theorem AS (J:List AV) (l:List STable):br 8 l.length (l.flatMap j6++J)=l.map aU:=by
 induction l with
 |nil=>rfl
 |cons m l ih =>
  rw [List.flatMap_cons,List.append_assoc]
  show AV.agg _::br 8 l.length (List.drop 8 (j6 m++(l.flatMap j6++J)))=_
  rw [show List.drop 8 (j6 m++(l.flatMap j6++J))=l.flatMap j6++J from rfl,ih]
  rfl
def j5 (t:SAction):List AV:=[.int .i64 t.id,.str t.name,.slice .any 2 (t.params.map cR),.slice .any 6 (t.body.map nN),.str t.restr]
theorem BC (l:List SAction):(l.map aS).flatMap AV.cells=l.flatMap j5:=by
 rw [List.flatMap_map];rfl
theorem mF:∀ (l:List SAction),(l.flatMap j5).length=l.length*5
 |[]=>rfl
 |m::l=>by
  rw [List.flatMap_cons,List.length_append,mF l,yaz]
  show 5+_=_
  omega
theorem uG (l:List SAction):∀ x∈(l.map aS).flatMap AV.cells,AV.lt 0 x:=fun x hx=>by
 obtain ⟨y,hy,hx⟩:=List.mem_flatMap.1 hx
 obtain ⟨m,_,rfl⟩:=List.mem_map.1 hy
 obtain ⟨j,hj,rfl⟩:=List.getElem_of_mem hx
 exact AV.lt_cells (li m) j hj
theorem AA (J:List AV) (l:List SAction):br 5 l.length (l.flatMap j5++J)=l.map aS:=by
 induction l with
 |nil=>rfl
 |cons m l ih =>
  rw [List.flatMap_cons,List.append_assoc]
  show AV.agg _::br 5 l.length (List.drop 5 (j5 m++(l.flatMap j5++J)))=_
  rw [show List.drop 5 (j5 m++(l.flatMap j5++J))=l.flatMap j5++J from rfl,ih]
  rfl
theorem md:∀ (X Y:List AV) (f:Nat) (v:List AV),splice (X++Y) (X.length+f) v=X++splice Y f v
 |[],Y,f,v=>by simp
 |x::X,Y,f,v=>by
  have:=md X Y f v
  rw [yaz,show X.length+1+f=X.length+f+1 by omega]
  show x::splice (X++Y) (X.length+f) v=_
  rw [this];rfl
theorem uK {n0:Nat} {fr:Fr} {H:AHeap} {K:Fr→AHeap→Prop} (id j mid off sz len:Nat) {cs ms:List AV} (L:List AV) (hc:aB H id=some cs) (hj:cs[j]?=some (.ms mid off sz len)) (hne:id≠mid) (hm:aB H mid=some ms) (hL:br sz len (ms.drop off)=L) (hlt:(AV.slice .any sz L).lt H.nx)
 (h:∀ H2,aB H2 id=some (cs.set j (.slice .any sz L))→(∀ G:AHeap,G.nx≤id→G.nx≤mid→G.Le H→G.Le H2)→H2.nx=H.nx→K fr H2):ik n0 K fr H:=by
 refine Cn id j mid off sz len L hc hj hne hm hL hlt (h _ ?_ ?_ rfl)
 ·have ho:H.get id=some (.cells cs):=by
   unfold aB at hc
   split at hc
   ·rename_i c hg;cases hc;exact hg
   ·cases hc
  have hid:=AHeap.get_lt ho
  unfold aB
  rw [bm,if_pos rfl,if_pos (show id<(H.del mid).nx from hid)]
 ·intro G h1 h2 hl
  refine ⟨hl.nx,fun i o hi=>?_⟩
  have hlt:=AHeap.get_lt hi
  rw [bm,if_neg (by omega),gW,if_neg (by omega)]
  exact hl.get i o hi
def qk:List AV→AHeap→(AV→Prop)→Prop
 |[.slice _ 1 l,.slice _ 1 l2,.int .i64 n,.str s,.bool g],_,K=>(s.length≤140737488351232∧isB l∧isB l2 ∧ -9223372036854775808≤n∧n<9223372036854775808)∧K (.bool true)
 |_,_,_=>False
set_option maxHeartbeats 8000000 in
theorem ok_TypesAll:EntOk Tryz.prog 5 (Ent.pure qk):=by
 refine EntOk.pure fun args H K h=>?_
 unfold qk at h
 split at h
 rotate_left
 ·exact h.elim
 rename_i m l m2 l2 n s g
 obtain ⟨⟨hs,hB,hB2,hn1,hn2⟩,hK⟩:=h
 obtain ⟨b,rfl⟩:=sf hB
 obtain ⟨d,rfl⟩:=sf hB2
 clear hB hB2
 refine ⟨_,hK,?_⟩
 clear hK
 have h_CSent:=pP (A:=True) 2
 obtain ⟨B1,hB1⟩:∃ B1,b.take (min (b.length:Int) 120).toNat=B1:=⟨_,rfl⟩
 have hL1:B1.length≤1000000:=by rw [← hB1,List.length_take];omega
 have hST:(fq B1 0).1.tables=cf B1 (cp (bK B1 (cp 0 2)).2 4):=rfl
 have hSA:(fq B1 0).1.actions=cl B1 (bK B1 (cp 0 2)).2:=rfl
 have hto:=yh B1 (cp (bK B1 (cp 0 2)).2 4)
 have hao:=xZ B1 (bK B1 (cp 0 2)).2
 have hall:=AE B1 (cp (bK B1 (cp 0 2)).2 4) (bK B1 (cp 0 2)).2
 have htl:(fq B1 0).1.tables.length=4:=by rw [hST];rfl
 have hal:(fq B1 0).1.actions.length=6:=by rw [hSA];rfl
 rw [← hST] at hto hall
 rw [← hSA] at hao hall
 clear hST hSA
 generalize hS:fq B1 0=SS at *
 obtain ⟨S,w1⟩:=SS
 dsimp only at hto hao hall htl hal
 have hSch:nL=eG fun b v=>(n8 (fq b v).1,(fq b v).2):=rfl
 obtain ⟨D1,hD1⟩:∃ D1,d.take (min (d.length:Int) 40).toNat=D1:=⟨_,rfl⟩
 have hL2:D1.length≤40:=by rw [← hD1,List.length_take];omega
 have hb2:bS 2≤100000:=by decide
 by_cases hat:qA .i64 n 1=0
 ·skip
  refine ACalls.fW aF (TblOk.cons xb (TblOk.cons oR (TblOk.cons wT (TblOk.cons h_CSent (TblOk.cons BK (TblOk.cons w4 (TblOk.cons p8 TblOk.nil))))))) Tryz.func5 [.tmp 10] (Nat.le_refl _) (T:=aD [(9,[[],[],[],[2],[],[],[],[2,6],[],[2,6],[],[2,6]]),(11,[[],[],[],[],[],[],[4],[],[],[],[1,4,6]]),(12,[[],[],[],[],[],[],[4],[],[],[],[1,4,6]]),(13,[[],[0],[],[0,1,2]]),(809,[[100000],[100004]]),(1209,[[300000,300004,200003]]),(10,[[1]]),(413,[[0]])]) (h:=fun hcl hlt=>?_)
  clear hlt
  simp only [go_sem,nP]
  refine ⟨by omega,b,⟨rfl,by omega⟩,?_⟩
  rw [hB1]
  simp only [dl,dj,bhq,Nat.reduceMod,Nat.reduceDiv,bG,bH,bI,cD,bJ,cz,cE,cr,ct,yaq,yar,yao,yap,go_sem,hSch,eG,cod,wZ hL1,hS,n8,sy,nC]
  refine ⟨S.actions,S.tables,⟨rfl,rfl,by omega,by omega,hao,hto⟩,?_⟩
  rw [hall]
  have d0:(((0:Nat):Int) != 0)=false:=rfl
  simp only [dl,dj,bhq,Nat.reduceMod,Nat.reduceDiv,bG,bH,bI,cD,bJ,cz,cE,cr,ct,yaq,yar,yao,yap,go_sem,d0,nP]
  refine ⟨d,⟨rfl,by omega⟩,?_⟩
  rw [hD1]
  simp only [dl,dj,bhq,Nat.reduceMod,Nat.reduceDiv,bG,bH,bI,cD,bJ,cz,cE,cr,ct,yaq,yar,yao,yap,go_sem,bU]
  refine ⟨D1,0,⟨?_,⟨by omega,by omega⟩,by omega,rfl,by omega⟩,fun q a' hq _ _=>?_⟩
  ·rfl
  obtain ⟨s1,hs1⟩:∃ s1,(s.take (min (s.length:Int) 60).toNat).drop (0:Int).toNat=s1:=⟨_,rfl⟩
  have hs1l:s1.length≤60:=by rw [← hs1,List.length_drop,List.length_take];omega
  obtain ⟨L,hL⟩:∃ L,[s1,q]=L:=⟨_,rfl⟩
  have hLl:L.length=2:=by rw [← hL];rfl
  have hLb:∀ k (hk:k<L.length),L[k].length≤100000:=by
   subst hL
   intro k hk
   have hk2:k<2:=hk
   rcases (by omega:k=0∨k=1) with rfl|rfl
   ·show s1.length≤_;omega
   ·show q.length≤_;omega
  have hcod:ltL (H.nx+1) [.slice .any 1 (bys B1),.int .i64 ((min w1 B1.length:Nat):Int)]:=⟨nr fun x hx=>by obtain ⟨c,_,rfl⟩:=List.mem_map.1 hx;simp only [bp,zmz],by simp only [zmz],trivial⟩
  have hcl1:((H.push (db B1 w1)).push (.cells [.slice .any 3 (S.fields.map fu),.slice .any 3 (S.headers.map eB),.slice .any 5 (S.states.map cI),.slice .any 5 (S.actions.map aS),.slice .any 8 (S.tables.map aU),.slice .any 2 (S.stages.map fm),.slice .any 6 (S.roles.map fh),.slice .any 6 (S.refs.map jX),.int .i64 S.maxBatch,.int .i64 S.budget])).Closed:=ae (ae hcl hcod) (wW S)
  refine av (A:=Nat) (fun k=>[(2,.int .i64 n),(11,.ptr (H.nx+1) 0),(31,.slice .any 1 (sAV L)),(32,.int .i64 ((2:Nat):Int)),(33,.int .i64 (k:Int))]) (fun _=>(H.push (db B1 w1)).push (.cells [.slice .any 3 (S.fields.map fu),.slice .any 3 (S.headers.map eB),.slice .any 5 (S.states.map cI),.slice .any 5 (S.actions.map aS),.slice .any 8 (S.tables.map aU),.slice .any 2 (S.stages.map fm),.slice .any 6 (S.roles.map fh),.slice .any 6 (S.refs.map jX),.int .i64 S.maxBatch,.int .i64 S.budget])) (fun k=>k≤2) (fun k=>2 - k) 0 (by omega) ?_ fun k hk=>?_
  ·rw [← hL,← hs1]
   (simp only [bkq,enterW,aR,ltF,ne_eq,Nat.reduceEqDiff,reduceCtorEq,hcl1,sAV,yae,yaf,bf];try simp (disch:=first|assumption|omega|(simp;done)|(simp;omega)|(simp only [bt,and_true];first|done|omega|(simp;done))) [↓zmi,beq,ybc,ybd,ybe,ah,wk,wk2,wk1,wkM,wkL,ap,ybf,byq,biq,ag,hcl,hcl1,sAV,yae,yaf,bf];try (repeat' (first|assumption|omega|exact True.intro|refine And.intro ?_ ?_|refine af ?_|refine aa ?_|refine ae ?_ ?_|refine ai ?_ ?_|refine ak ?_|exact AHeap.Le.refl _|refine AHeap.Le.push ?_ _|refine AHeap.Le.del ?_ ?_|(simp only [bt,and_true,true_and,hcl1,sAV,yae,yaf,bf];first|done|omega|(simp;done)))))
  simp only [go_sem]
  refine aj (fun hc=>?_) (fun hc=>?_)
  ·have hk2:k<2:=by simp at hc;omega
   have hk1:k<L.length:=by omega
   have e5:IntKind.i64.wrap ((k:Int)+1)=((k+1:Nat):Int):=by rw [wrap_i64]<;>omega
   have hsg:(sAV L).getD k .junk=.str L[k]:=by rw [iQ hk1];simp [List.getD_eq_getElem?_getD,hk1]
   have hlk:=hLb k hk1
   generalize L[k]=x at *
   have n1:(H.nx+1=H.nx+1+1)=False:=eq_false (by omega)
   obtain ⟨im,him,hmi⟩:∃ im:Nat,(n.tmod ((S.tables.length:Nat):Int)+((S.tables.length:Nat):Int)).tmod ((S.tables.length:Nat):Int)=(im:Int)∧im<S.tables.length:=by
    obtain ⟨h1,h2⟩:=@mod_lt n ((S.tables.length:Nat):Int) (by omega)
    exact ⟨((n.tmod ((S.tables.length:Nat):Int)+((S.tables.length:Nat):Int)).tmod ((S.tables.length:Nat):Int)).toNat,by omega,by omega⟩
   obtain ⟨A,tm,B,hABl,hAB⟩:∃ A m B,A.length=im∧S.tables=A++m::B:=⟨S.tables.take im,S.tables[im],S.tables.drop (im+1),by simp;omega,by rw [← List.drop_eq_getElem_cons (by omega),List.take_append_drop]⟩
   have hie:(S.tables.map aU).isEmpty=false:=by rw [hAB];simp
   have hie2:(S.actions.map aS).isEmpty=false:=by
    cases hm:S.actions with
    |nil=>rw [hm] at hal;cases hal
    |cons x y=>rfl
   have hone:∀ z∈S.tables.map aU,bg z.cells=true:=fun z hz=>by
    obtain ⟨x,_,rfl⟩:=List.mem_map.1 hz;rfl
   have hone2:∀ z∈S.actions.map aS,bg z.cells=true:=fun z hz=>by
    obtain ⟨x,_,rfl⟩:=List.mem_map.1 hz;rfl
   simp only [dl,dj,bhq,Nat.reduceMod,Nat.reduceDiv,bG,bH,bI,cD,bJ,cz,cE,cr,ct,yaq,yar,yao,yap,go_sem,am,hLl,hsg,Int.toNat_natCast,n1,hie,hie2]
   have hne:¬ S.tables.map aU=[]:=by rw [hAB];simp
   refine ⟨by omega,⟨by omega,by omega,hone⟩,hne,tQ S.tables,⟨by omega,by omega,hone2⟩,?_⟩
   refine qP (H.nx+1+1+1) (cs:=(S.tables.map aU).flatMap AV.cells) (by simp [zlb,bm,zky,zkz]) fun kr=>?_
   obtain ⟨C0,hC0⟩:∃ C0,C0=A.flatMap j6:=⟨_,rfl⟩
   obtain ⟨Z,hZ⟩:∃ Z,Z=B.flatMap j6++List.replicate kr .junk:=⟨_,rfl⟩
   have hC:im*8=C0.length:=by rw [hC0,mZ,hABl]
   have hfl:List.flatMap AV.cells (List.map aU S.tables)++List.replicate kr .junk=C0++(j6 tm++Z):=by
    rw [A1,hAB,List.flatMap_append,List.flatMap_cons,hC0,hZ];simp [List.append_assoc]
   have hlen:S.tables.length=(A++tm::B).length:=by rw [hAB]
   have hrow:br 8 S.tables.length (C0++(j6 { tm with restr:=x }++Z))=(A++{ tm with restr:=x }::B).map aU:=by
    have:=AS (List.replicate kr .junk) (A++{ tm with restr:=x }::B)
    rw [List.flatMap_append,List.flatMap_cons,List.append_assoc,List.append_assoc] at this
    rw [hlen,hC0,hZ,← this]
    simp
   have hlC:C0.length+8≤(C0++(j6 tm++Z)).length:=by simp only [List.length_append,j6,yaz,yba];omega
   have hto':∀ t∈A++{ tm with restr:=x }::B,uN t:=by
    intro t ht
    have htm:=hto tm (by rw [hAB];simp)
    rcases List.mem_append.1 ht with h|h
    ·exact hto t (by rw [hAB];exact List.mem_append_left _ h)
    ·rcases List.mem_cons.1 h with rfl|h
     ·exact ⟨htm.1,htm.2.1,show x.length≤_ by omega⟩
     ·exact hto t (by rw [hAB];exact List.mem_append_right _ (List.mem_cons_of_mem _ h))
   have hl':(A++{ tm with restr:=x }::B).length=S.tables.length:=by rw [hlen];simp
   clear hC0 hZ
   have dat:(qA .i64 n 1==0)=true:=by rw [hat];rfl
   have hspl:splice (C0++(j6 tm++Z)) (C0.length+7) [.str x]=C0++(j6 { tm with restr:=x }++Z):=by
    rw [md]
    simp [j6,splice,jv]
   simp only [dl,dj,bhq,Nat.reduceMod,Nat.reduceDiv,bG,bH,bI,cD,bJ,cz,cE,cr,ct,yaq,yar,yao,yap,go_sem,hfl,dat,w5,him,Int.toNat_natCast,hC,hspl]
   refine ⟨by omega,by omega,by omega,?_⟩
   refine uK (H.nx+1+1) 4 (H.nx+1+1+1) 0 8 S.tables.length (cs:=[.slice .any 3 (S.fields.map fu),.slice .any 3 (S.headers.map eB),.slice .any 5 (S.states.map cI),.slice (.own (H.nx+1+1+1+1)) 5 (S.actions.map aS),.ms (H.nx+1+1+1) 0 8 S.tables.length,.slice .any 2 (S.stages.map fm),.slice .any 6 (S.roles.map fh),.slice .any 6 (S.refs.map jX),.int .i64 S.maxBatch,.int .i64 S.budget]) (ms:=C0++(j6 { tm with restr:=x }++Z)) ((A++{ tm with restr:=x }::B).map aU) (by simp only [go_sem]) rfl (by omega) (by simp only [go_sem]) (by rw [yap];exact hrow) (bY fun x=>da x) fun H2 hc2 hle2 hnx2=>?_
   have hle3:=hle2 _ (show ((H.push (db B1 w1)).push (.cells [.slice .any 3 (S.fields.map fu),.slice .any 3 (S.headers.map eB),.slice .any 5 (S.states.map cI),.slice .any 5 (S.actions.map aS),.slice .any 8 (S.tables.map aU),.slice .any 2 (S.stages.map fm),.slice .any 6 (S.roles.map fh),.slice .any 6 (S.refs.map jX),.int .i64 S.maxBatch,.int .i64 S.budget])).nx≤H.nx+1+1 from Nat.le_refl _) (show H.nx+1+1≤H.nx+1+1+1 by omega) (by repeat first|exact .refl _|refine .push ?_ _)
   simp only [List.set_cons_succ,List.set_cons_zero] at hc2
   simp only [List.set_cons_succ,List.set_cons_zero,dl,dj,bhq,Nat.reduceMod,Nat.reduceDiv,bG,bH,bI,cD,bJ,cz,cE,cr,ct,yaq,yar,yao,yap,go_sem,nC,hc2]
   have hx:qK (A++{ tm with restr:=x }::B) S.actions≤12:=by
    unfold qK
    split
    ·exact lg fun _=>iz
    ·exact lg fun _=>iz
   refine ⟨S.actions,A++{ tm with restr:=x }::B,⟨rfl,rfl,by omega,by omega,hao,hto'⟩,?_⟩
   simp only [List.set_cons_succ,List.set_cons_zero,dl,dj,bhq,Nat.reduceMod,Nat.reduceDiv,bG,bH,bI,cD,bJ,cz,cE,cr,ct,yaq,yar,yao,yap,go_sem,sW,hc2]
   refine ⟨S.actions,A++{ tm with restr:=x }::B,⟨rfl,rfl,by omega,by omega,hao,hto'⟩,?_⟩
   simp only [List.set_cons_succ,List.set_cons_zero,dl,dj,bhq,Nat.reduceMod,Nat.reduceDiv,bG,bH,bI,cD,bJ,cz,cE,cr,ct,yaq,yar,yao,yap,go_sem,bne_self_eq_false,e5]
   refine ⟨k+1,by omega,by omega,?_⟩
   (simp only [bkq,enterW,aR,ltF,ne_eq,Nat.reduceEqDiff,reduceCtorEq,hcl1,hle3,bQ];try simp (disch:=first|assumption|omega|(simp;done)|(simp;omega)|(simp only [bt,and_true];first|done|omega|(simp;done))) [↓zmi,beq,ybc,ybd,ybe,ah,wk,wk2,wk1,wkM,wkL,ap,ybf,byq,biq,ag,hcl,hcl1,hle3,bQ];try (repeat' (first|assumption|omega|exact True.intro|refine And.intro ?_ ?_|refine af ?_|refine aa ?_|refine ae ?_ ?_|refine ai ?_ ?_|refine ak ?_|exact AHeap.Le.refl _|refine AHeap.Le.push ?_ _|refine AHeap.Le.del ?_ ?_|(simp only [bt,and_true,true_and,hcl1,hle3,bQ];first|done|omega|(simp;done)))))
  ·simp only [go_sem,kX]
   simp (disch:=first|assumption|omega|(simp;done)|(simp;omega)|(simp only [bt,and_true];first|done|omega|(simp;done))) [↓zmi,beq,ybc,ybd,ybe,ah,wk,wk2,wk1,wkM,wkL,ap,ybf,hcl]
 ·skip
  refine ACalls.fW aF (TblOk.cons xb (TblOk.cons oR (TblOk.cons wT (TblOk.cons h_CSent (TblOk.cons BK (TblOk.cons w4 (TblOk.cons p8 TblOk.nil))))))) Tryz.func5 [.tmp 10] (Nat.le_refl _) (T:=aD [(9,[[],[],[],[2],[],[],[],[2,6],[],[2,6],[],[2,6]]),(11,[[],[],[],[],[],[],[4],[],[],[],[1,4,6]]),(12,[[],[],[],[],[],[],[4],[],[],[],[1,4,6]]),(13,[[],[0],[],[0,1,2]]),(809,[[100000],[100004]]),(1209,[[300000,300004,200007]]),(10,[[1]]),(413,[[0]])]) (h:=fun hcl hlt=>?_)
  clear hlt
  simp only [go_sem,nP]
  refine ⟨by omega,b,⟨rfl,by omega⟩,?_⟩
  rw [hB1]
  simp only [dl,dj,bhq,Nat.reduceMod,Nat.reduceDiv,bG,bH,bI,cD,bJ,cz,cE,cr,ct,yaq,yar,yao,yap,go_sem,hSch,eG,cod,wZ hL1,hS,n8,sy,nC]
  refine ⟨S.actions,S.tables,⟨rfl,rfl,by omega,by omega,hao,hto⟩,?_⟩
  rw [hall]
  have d0:(((0:Nat):Int) != 0)=false:=rfl
  simp only [dl,dj,bhq,Nat.reduceMod,Nat.reduceDiv,bG,bH,bI,cD,bJ,cz,cE,cr,ct,yaq,yar,yao,yap,go_sem,d0,nP]
  refine ⟨d,⟨rfl,by omega⟩,?_⟩
  rw [hD1]
  simp only [dl,dj,bhq,Nat.reduceMod,Nat.reduceDiv,bG,bH,bI,cD,bJ,cz,cE,cr,ct,yaq,yar,yao,yap,go_sem,bU]
  refine ⟨D1,0,⟨?_,⟨by omega,by omega⟩,by omega,rfl,by omega⟩,fun q a' hq _ _=>?_⟩
  ·rfl
  obtain ⟨s1,hs1⟩:∃ s1,(s.take (min (s.length:Int) 60).toNat).drop (0:Int).toNat=s1:=⟨_,rfl⟩
  have hs1l:s1.length≤60:=by rw [← hs1,List.length_drop,List.length_take];omega
  obtain ⟨L,hL⟩:∃ L,[s1,q]=L:=⟨_,rfl⟩
  have hLl:L.length=2:=by rw [← hL];rfl
  have hLb:∀ k (hk:k<L.length),L[k].length≤100000:=by
   subst hL
   intro k hk
   have hk2:k<2:=hk
   rcases (by omega:k=0∨k=1) with rfl|rfl
   ·show s1.length≤_;omega
   ·show q.length≤_;omega
  have hcod:ltL (H.nx+1) [.slice .any 1 (bys B1),.int .i64 ((min w1 B1.length:Nat):Int)]:=⟨nr fun x hx=>by obtain ⟨c,_,rfl⟩:=List.mem_map.1 hx;simp only [bp,zmz],by simp only [zmz],trivial⟩
  have hcl1:((H.push (db B1 w1)).push (.cells [.slice .any 3 (S.fields.map fu),.slice .any 3 (S.headers.map eB),.slice .any 5 (S.states.map cI),.slice .any 5 (S.actions.map aS),.slice .any 8 (S.tables.map aU),.slice .any 2 (S.stages.map fm),.slice .any 6 (S.roles.map fh),.slice .any 6 (S.refs.map jX),.int .i64 S.maxBatch,.int .i64 S.budget])).Closed:=ae (ae hcl hcod) (wW S)
  refine av (A:=Nat) (fun k=>[(2,.int .i64 n),(11,.ptr (H.nx+1) 0),(31,.slice .any 1 (sAV L)),(32,.int .i64 ((2:Nat):Int)),(33,.int .i64 (k:Int))]) (fun _=>(H.push (db B1 w1)).push (.cells [.slice .any 3 (S.fields.map fu),.slice .any 3 (S.headers.map eB),.slice .any 5 (S.states.map cI),.slice .any 5 (S.actions.map aS),.slice .any 8 (S.tables.map aU),.slice .any 2 (S.stages.map fm),.slice .any 6 (S.roles.map fh),.slice .any 6 (S.refs.map jX),.int .i64 S.maxBatch,.int .i64 S.budget])) (fun k=>k≤2) (fun k=>2 - k) 0 (by omega) ?_ fun k hk=>?_
  ·rw [← hL,← hs1]
   (simp only [bkq,enterW,aR,ltF,ne_eq,Nat.reduceEqDiff,reduceCtorEq,hcl1,sAV,yae,yaf,bf];try simp (disch:=first|assumption|omega|(simp;done)|(simp;omega)|(simp only [bt,and_true];first|done|omega|(simp;done))) [↓zmi,beq,ybc,ybd,ybe,ah,wk,wk2,wk1,wkM,wkL,ap,ybf,byq,biq,ag,hcl,hcl1,sAV,yae,yaf,bf];try (repeat' (first|assumption|omega|exact True.intro|refine And.intro ?_ ?_|refine af ?_|refine aa ?_|refine ae ?_ ?_|refine ai ?_ ?_|refine ak ?_|exact AHeap.Le.refl _|refine AHeap.Le.push ?_ _|refine AHeap.Le.del ?_ ?_|(simp only [bt,and_true,true_and,hcl1,sAV,yae,yaf,bf];first|done|omega|(simp;done)))))
  simp only [go_sem]
  refine aj (fun hc=>?_) (fun hc=>?_)
  ·have hk2:k<2:=by simp at hc;omega
   have hk1:k<L.length:=by omega
   have e5:IntKind.i64.wrap ((k:Int)+1)=((k+1:Nat):Int):=by rw [wrap_i64]<;>omega
   have hsg:(sAV L).getD k .junk=.str L[k]:=by rw [iQ hk1];simp [List.getD_eq_getElem?_getD,hk1]
   have hlk:=hLb k hk1
   generalize L[k]=x at *
   have n1:(H.nx+1=H.nx+1+1)=False:=eq_false (by omega)
   obtain ⟨im,him,hmi⟩:∃ im:Nat,(n.tmod ((S.actions.length:Nat):Int)+((S.actions.length:Nat):Int)).tmod ((S.actions.length:Nat):Int)=(im:Int)∧im<S.actions.length:=by
    obtain ⟨h1,h2⟩:=@mod_lt n ((S.actions.length:Nat):Int) (by omega)
    exact ⟨((n.tmod ((S.actions.length:Nat):Int)+((S.actions.length:Nat):Int)).tmod ((S.actions.length:Nat):Int)).toNat,by omega,by omega⟩
   obtain ⟨A,tm,B,hABl,hAB⟩:∃ A m B,A.length=im∧S.actions=A++m::B:=⟨S.actions.take im,S.actions[im],S.actions.drop (im+1),by simp;omega,by rw [← List.drop_eq_getElem_cons (by omega),List.take_append_drop]⟩
   have hie:(S.actions.map aS).isEmpty=false:=by rw [hAB];simp
   have hie2:(S.tables.map aU).isEmpty=false:=by
    cases hm:S.tables with
    |nil=>rw [hm] at htl;cases htl
    |cons x y=>rfl
   have hone:∀ z∈S.actions.map aS,bg z.cells=true:=fun z hz=>by
    obtain ⟨x,_,rfl⟩:=List.mem_map.1 hz;rfl
   have hone2:∀ z∈S.tables.map aU,bg z.cells=true:=fun z hz=>by
    obtain ⟨x,_,rfl⟩:=List.mem_map.1 hz;rfl
   simp only [dl,dj,bhq,Nat.reduceMod,Nat.reduceDiv,bG,bH,bI,cD,bJ,cz,cE,cr,ct,yaq,yar,yao,yap,go_sem,am,hLl,hsg,Int.toNat_natCast,n1,hie,hie2]
   have hne:¬ S.actions.map aS=[]:=by rw [hAB];simp
   refine ⟨by omega,⟨by omega,by omega,hone2⟩,⟨by omega,by omega,hone⟩,hne,uG S.actions,?_⟩
   refine qP (H.nx+1+1+1+1) (cs:=(S.actions.map aS).flatMap AV.cells) (by simp [zlb,bm,zky,zkz]) fun kr=>?_
   obtain ⟨C0,hC0⟩:∃ C0,C0=A.flatMap j5:=⟨_,rfl⟩
   obtain ⟨Z,hZ⟩:∃ Z,Z=B.flatMap j5++List.replicate kr .junk:=⟨_,rfl⟩
   have hC:im*5=C0.length:=by rw [hC0,mF,hABl]
   have hfl:List.flatMap AV.cells (List.map aS S.actions)++List.replicate kr .junk=C0++(j5 tm++Z):=by
    rw [BC,hAB,List.flatMap_append,List.flatMap_cons,hC0,hZ];simp [List.append_assoc]
   have hlen:S.actions.length=(A++tm::B).length:=by rw [hAB]
   have hrow:br 5 S.actions.length (C0++(j5 { tm with restr:=x }++Z))=(A++{ tm with restr:=x }::B).map aS:=by
    have:=AA (List.replicate kr .junk) (A++{ tm with restr:=x }::B)
    rw [List.flatMap_append,List.flatMap_cons,List.append_assoc,List.append_assoc] at this
    rw [hlen,hC0,hZ,← this]
    simp
   have hlC:C0.length+5≤(C0++(j5 tm++Z)).length:=by simp only [List.length_append,j5,yaz,yba];omega
   have hto':∀ t∈A++{ tm with restr:=x }::B,uJ t:=by
    intro t ht
    have htm:=hao tm (by rw [hAB];simp)
    rcases List.mem_append.1 ht with h|h
    ·exact hao t (by rw [hAB];exact List.mem_append_left _ h)
    ·rcases List.mem_cons.1 h with rfl|h
     ·exact ⟨htm.1,htm.2.1,show x.length≤_ by omega⟩
     ·exact hao t (by rw [hAB];exact List.mem_append_right _ (List.mem_cons_of_mem _ h))
   have hl':(A++{ tm with restr:=x }::B).length=S.actions.length:=by rw [hlen];simp
   clear hC0 hZ
   have dat:(qA .i64 n 1==0)=false:=by rw [beq_eq_false_iff_ne];exact hat
   have hspl:splice (C0++(j5 tm++Z)) (C0.length+4) [.str x]=C0++(j5 { tm with restr:=x }++Z):=by
    rw [md]
    simp [j5,splice,jv]
   simp only [dl,dj,bhq,Nat.reduceMod,Nat.reduceDiv,bG,bH,bI,cD,bJ,cz,cE,cr,ct,yaq,yar,yao,yap,go_sem,hfl,dat,w5,him,Int.toNat_natCast,hC,hspl]
   refine ⟨by omega,by omega,by omega,?_⟩
   refine uK (H.nx+1+1) 3 (H.nx+1+1+1+1) 0 5 S.actions.length (cs:=[.slice .any 3 (S.fields.map fu),.slice .any 3 (S.headers.map eB),.slice .any 5 (S.states.map cI),.ms (H.nx+1+1+1+1) 0 5 S.actions.length,.slice (.own (H.nx+1+1+1)) 8 (S.tables.map aU),.slice .any 2 (S.stages.map fm),.slice .any 6 (S.roles.map fh),.slice .any 6 (S.refs.map jX),.int .i64 S.maxBatch,.int .i64 S.budget]) (ms:=C0++(j5 { tm with restr:=x }++Z)) ((A++{ tm with restr:=x }::B).map aS) (by simp only [go_sem]) rfl (by omega) (by simp only [go_sem]) (by rw [yap];exact hrow) (bY fun x=>li x) fun H2 hc2 hle2 hnx2=>?_
   have hle3:=hle2 _ (show ((H.push (db B1 w1)).push (.cells [.slice .any 3 (S.fields.map fu),.slice .any 3 (S.headers.map eB),.slice .any 5 (S.states.map cI),.slice .any 5 (S.actions.map aS),.slice .any 8 (S.tables.map aU),.slice .any 2 (S.stages.map fm),.slice .any 6 (S.roles.map fh),.slice .any 6 (S.refs.map jX),.int .i64 S.maxBatch,.int .i64 S.budget])).nx≤H.nx+1+1 from Nat.le_refl _) (show H.nx+1+1≤H.nx+1+1+1+1 by omega) (by repeat first|exact .refl _|refine .push ?_ _)
   simp only [List.set_cons_succ,List.set_cons_zero] at hc2
   simp only [List.set_cons_succ,List.set_cons_zero,dl,dj,bhq,Nat.reduceMod,Nat.reduceDiv,bG,bH,bI,cD,bJ,cz,cE,cr,ct,yaq,yar,yao,yap,go_sem,nC,hc2]
   have hx:qK S.tables (A++{ tm with restr:=x }::B)≤12:=by
    unfold qK
    split
    ·exact lg fun _=>iz
    ·exact lg fun _=>iz
   refine ⟨A++{ tm with restr:=x }::B,S.tables,⟨rfl,rfl,by omega,by omega,hto',hto⟩,?_⟩
   simp only [List.set_cons_succ,List.set_cons_zero,dl,dj,bhq,Nat.reduceMod,Nat.reduceDiv,bG,bH,bI,cD,bJ,cz,cE,cr,ct,yaq,yar,yao,yap,go_sem,sW,hc2]
   refine ⟨A++{ tm with restr:=x }::B,S.tables,⟨rfl,rfl,by omega,by omega,hto',hto⟩,?_⟩
   simp only [List.set_cons_succ,List.set_cons_zero,dl,dj,bhq,Nat.reduceMod,Nat.reduceDiv,bG,bH,bI,cD,bJ,cz,cE,cr,ct,yaq,yar,yao,yap,go_sem,bne_self_eq_false,e5]
   refine ⟨k+1,by omega,by omega,?_⟩
   (simp only [bkq,enterW,aR,ltF,ne_eq,Nat.reduceEqDiff,reduceCtorEq,hcl1,hle3,bQ];try simp (disch:=first|assumption|omega|(simp;done)|(simp;omega)|(simp only [bt,and_true];first|done|omega|(simp;done))) [↓zmi,beq,ybc,ybd,ybe,ah,wk,wk2,wk1,wkM,wkL,ap,ybf,byq,biq,ag,hcl,hcl1,hle3,bQ];try (repeat' (first|assumption|omega|exact True.intro|refine And.intro ?_ ?_|refine af ?_|refine aa ?_|refine ae ?_ ?_|refine ai ?_ ?_|refine ak ?_|exact AHeap.Le.refl _|refine AHeap.Le.push ?_ _|refine AHeap.Le.del ?_ ?_|(simp only [bt,and_true,true_and,hcl1,hle3,bQ];first|done|omega|(simp;done)))))
  ·simp only [go_sem,kX]
   simp (disch:=first|assumption|omega|(simp;done)|(simp;omega)|(simp only [bt,and_true];first|done|omega|(simp;done))) [↓zmi,beq,ybc,ybd,ybe,ah,wk,wk2,wk1,wkM,wkL,ap,ybf,hcl]
end Go.AL
