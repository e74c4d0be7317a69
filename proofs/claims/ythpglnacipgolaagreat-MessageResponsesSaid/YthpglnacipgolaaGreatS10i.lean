/- Contracts and plain laws, a part of the proof; no condition of its own. -/
import Derived.Test.YthpglnacipgolaaGreatS10g
open List renaming cons_append → yal, nil_append → yak, length_cons → yaz, length_nil → yba, take_succ_cons → yaq, take_zero → yar, drop_succ_cons → yao, drop_zero → yap, length_map → ybb, map_nil → yaf, append_nil → yaj
open Go Go.AL Go.Proofs
namespace Go.AL
set_option linter.all false
set_option maxRecDepth 10000

theorem gNum_minK {b:List UInt8} {v k:Nat}:gNum b (min v b.length+k)=gNum b (v+k):=by unfold gNum;simp only [Nat.add_assoc,cv_min_add]
theorem gMatch_min {b:List UInt8} {v k:Nat} {w kind:Int}:(gMatch b (min v b.length+k) w kind).1=(gMatch b (v+k) w kind).1∧∃ c,(gMatch b (min v b.length+k) w kind).2=min v b.length+c∧(gMatch b (v+k) w kind).2=v+c:=by
  unfold gMatch
  simp only [gNum_minK,Nat.add_assoc,gPfx_min,gMask_min,cv_min_add]
  by_cases h2:kind=2
  · simp only [if_pos h2]
    by_cases h:0<cv b (v+(k+3)) 5
    · simp only [if_pos h];exact ⟨trivial,_,rfl,rfl⟩
    · simp only [if_neg h];exact ⟨trivial,_,rfl,rfl⟩
  by_cases h3:kind=3
  · simp only [if_neg h2,if_pos h3]
    split<;>exact ⟨rfl,_,rfl,rfl⟩
  by_cases h4:kind=4
  · simp only [if_neg h2,if_neg h3,if_pos h4]
    split<;>exact ⟨rfl,_,rfl,rfl⟩
  · simp only [if_neg h2,if_neg h3,if_neg h4]
    exact ⟨trivial,_,rfl,rfl⟩
theorem gMatches_min {S:Sch} {b:List UInt8} {v:Nat}:∀ (ks:List SKey) (k:Nat) (p:Int),(gMatches S b ks (min v b.length+k) p).1=(gMatches S b ks (v+k) p).1∧∃ c,(gMatches S b ks (min v b.length+k) p).2=min v b.length+c∧(gMatches S b ks (v+k) p).2=v+c
  | [],k,p=>⟨rfl,k,rfl,rfl⟩
  | x::ks,k,p=>by
    obtain ⟨h1,c,h2,h3⟩:=gMatch_min (b:=b) (v:=v) (k:=k) (w:=bitsF S x.field) (kind:=x.kind)
    by_cases hk:x.kind=3∨x.kind=4
    · obtain ⟨i1,d,i2,i3⟩:=gMatches_min (b:=b) (v:=v) ks (c+1) (1+ci b (v+c) 5)
      simp only [gMatches,if_pos hk,h1,h2,h3,ci,cv_min_add,Nat.add_assoc]
      simp only [ci] at i1 i2 i3
      rw [i1]
      exact ⟨rfl,d,i2,i3⟩
    · obtain ⟨i1,d,i2,i3⟩:=gMatches_min (b:=b) (v:=v) ks c p
      simp only [gMatches,if_neg hk,h1,h2,h3]
      rw [i1]
      exact ⟨rfl,d,i2,i3⟩
theorem gArgs_min {b:List UInt8} {v:Nat}:∀ (ps:List SParam) (k:Nat),(gArgs b ps (min v b.length+k)).1=(gArgs b ps (v+k)).1∧∃ c,(gArgs b ps (min v b.length+k)).2=min v b.length+c∧(gArgs b ps (v+k)).2=v+c
  | [],k=>⟨rfl,k,rfl,rfl⟩
  | p::ps,k=>by
    obtain ⟨i1,d,i2,i3⟩:=gArgs_min (b:=b) (v:=v) ps (k+1)
    simp only [gArgs,cv_min_add,Nat.add_assoc]
    rw [i1]
    exact ⟨rfl,d,i2,i3⟩
def gsEntry (S:Sch) (n:Int):List UInt8→Nat→AV × Nat:=fun b v=>(entryAV (gEntry S b v n).1,(gEntry S b v n).2)
theorem st_entry (S:Sch) (n:Int):Stable (gsEntry S n):=fun b v=>by
  obtain ⟨i1,c,i2,i3⟩:=gMatches_min (S:=S) (b:=b) (v:=v) (tableAt S n).keys 0 0
  simp only [Nat.add_zero] at i1 i2 i3
  unfold gsEntry gEntry
  dsimp only
  rw [i1,i2,i3,cv_min_add]
  obtain ⟨j1,d,j2,j3⟩:=gArgs_min (b:=b) (v:=v) (actionL S.actions ((tableAt S n).actions.getD (cv b (v+c) (tableAt S n).actions.length) 0)).params (c+1)
  simp only [Nat.add_assoc]
  rw [j1,j2,j3]
  exact ⟨rfl,d,rfl,rfl⟩
/-- schemas of which entries are made -/
structure GenS (S:Sch):Prop where
  fl:S.fields.length≤1000
  al:S.actions.length≤1000
  tl:S.tables.length≤1000
  t1:1≤S.tables.length
  kl:∀ t∈S.tables,t.keys.length≤100
  kb:∀ t∈S.tables,∀ k∈t.keys,1≤bitsF S k.field∧bitsF S k.field≤32∧(k.kind=2→16≤bitsF S k.field)
  a1:∀ t∈S.tables,1≤t.actions.length∧t.actions.length≤100
  pl:∀ a:Int,(actionL S.actions a).params.length≤100
  pb:∀ a:Int,∀ p∈(actionL S.actions a).params,0≤p.bits∧p.bits≤1000
def e_CEntry:List AV→AHeap→(AEnd→AHeap→Prop)→Prop
  | [.ptr id 0,.agg l,.int .i64 n],H,K=>∃ S:Sch,(l=schC S∧GenS S ∧ -9223372036854775808≤n∧n<9223372036854775808)∧onS (H.get id) (gsEntry S n) fun x o=>K (.ret x) (H.set id o)
  | _,_,_=>False
theorem gsM1 {b:List UInt8} {v:Nat} {w k:Int}:(gsMatch w k b v).1=.agg [.bool (gMatch b v w k).1.present,.int .u64 (((gMatch b v w k).1.value/2^64:Nat):Int),.int .u64 (((gMatch b v w k).1.value % 2^64:Nat):Int),.int .u64 (((gMatch b v w k).1.mask/2^64:Nat):Int),.int .u64 (((gMatch b v w k).1.mask % 2^64:Nat):Int),.int .i64 (gMatch b v w k).1.pfx,.int .u64 (((gMatch b v w k).1.high/2^64:Nat):Int),.int .u64 (((gMatch b v w k).1.high % 2^64:Nat):Int)]:=(rfl)
theorem gsM2 {b:List UInt8} {v:Nat} {w k:Int}:(gsMatch w k b v).2=cp (gMatch b v w k).2 0:=(rfl)
theorem set_selfZ {H:AHeap} {id:Nat} {o:AObj} (h:H.get id=some o):H.set id o=H:=by
  have hl:=AHeap.get_lt h
  unfold AHeap.get at h
  rw [if_pos hl] at h
  unfold AHeap.set
  cases H with
  | mk nx f =>
    simp only [AHeap.mk.injEq,true_and]
    funext j
    by_cases e:j=id
    · rw [if_pos e,e];exact h.symm
    · rw [if_neg e]
/-- the heap at the head of the loop over the keys -/
def entH (H:AHeap) (id:Nat) (b:List UInt8) (S:Sch) (t:STable) (w:Nat) (a1:List AV) (p:Int):AHeap :=
  ((((((H.set id (codV b (cp w 0))).push (.cells (schC S))).push (.cells [.int .i64 0,.slice .nil 1 [],.int .i64 0,.int .i64 0,.slice .nil 1 []])).push (.cells [.int .i64 t.id,.str t.name,.slice .any 3 (t.keys.map keyAV),.slice .any 1 (inL t.actions),.int .i64 t.dflt,.slice .any 2 (t.dargs.map vv),.int .i64 t.size,.str t.restr])).push (.buf 8 a1.length)).push (.buf 2 0)).push (.cells [.int .i64 t.id,.slice (.own (H.nx+1+1+1)) 8 a1,.int .i64 p,.int .i64 0,.slice (.own (H.nx+1+1+1+1)) 2 []])
/-- the heap at the head of the loop over the parameters -/
def argH (H:AHeap) (id:Nat) (b:List UInt8) (S:Sch) (t:STable) (w:Nat) (a1 a2:List AV) (p act:Int):AHeap :=
  ((((((H.set id (codV b (cp w 0))).push (.cells (schC S))).push (.cells [.int .i64 0,.slice .nil 1 [],.int .i64 0,.int .i64 0,.slice .nil 1 []])).push (.cells [.int .i64 t.id,.str t.name,.slice .any 3 (t.keys.map keyAV),.slice .any 1 (inL t.actions),.int .i64 t.dflt,.slice .any 2 (t.dargs.map vv),.int .i64 t.size,.str t.restr])).push (.buf 8 a1.length)).push (.buf 2 a2.length)).push (.cells [.int .i64 t.id,.slice (.own (H.nx+1+1+1)) 8 a1,.int .i64 p,.int .i64 act,.slice (.own (H.nx+1+1+1+1)) 2 a2])
theorem lt_match {n:Nat} (x:SMatch):AV.lt n (matchAV x):=by
  simp only [matchAV,matchC,vc,zmz,znc,znd,zmn,zmo,List.append_assoc,yal,yak,and_true]
theorem lt_vvx {n:Nat} (x:Nat):AV.lt n (vv x):=by simp only [vv,zmz,znc,znd,zmn,and_true]
theorem lt_entry {n:Nat} (x:SEntry):AV.lt n (entryAV x):=by
  simp only [entryAV,entryC,zmz,znc,znd,zmn,and_true,true_and]
  exact ⟨lt_map lt_match,lt_map lt_vvx⟩
theorem argH_closed {H:AHeap} {id:Nat} {b:List UInt8} {S:Sch} {t:STable} {w:Nat} {a1 a2:List AV} {p act:Int} (hcl:H.Closed) (h1:∀ n,ltL n a1=True) (h2:∀ n,ltL n a2=True):(argH H id b S t w a1 a2 p act).Closed:=by
  unfold argH
  repeat' (first | exact closed_set hcl codV_lt | refine closed_buf ?_ | refine closed_cells ?_ ?_)
  · exact ltL_iff.2 fun j hj=>AV.lt_cells (lt_sch S) j hj
  · simp [znc,znd,zmn,lt_sliceL]
  · exact ltL_iff.2 fun j hj=>AV.lt_cells (lt_table t) j hj
  · simp [lt_sliceL,znc,znd,zmn,zkm,zkn,h1,h2]
    try omega
set_option maxHeartbeats 4000000 in
theorem ok_CEntry:EntOk Tryz.prog 220 (Ent.effect e_CEntry):=by
  refine EntOk.effect fun args H K h=>?_
  unfold e_CEntry at h
  split at h
  rotate_left
  · exact h.elim
  rename_i id l n
  obtain ⟨S,⟨rfl,hS,hn1,hn2⟩,h⟩:=h
  unfold onS at h
  obtain ⟨b,v,hg,hb,hv,hK⟩:=onC_out h
  refine ⟨_,_,hK,?_⟩
  clear hK h
  unfold gsEntry
  dsimp only
  generalize hres:(gEntry S b v n).1=res
  generalize hpos:(gEntry S b v n).2=pos
  refine ACalls.of_aw (Ω:=[(48,Ent.effect e_ZNext),(19,Ent.pure p_ZMod),(325,Ent.effect e_CMatch),(326,Ent.pure p_cActionIn),(327,Ent.pure p_cLow)]) (T:=assoc [(1,[[],[],[],[],[],[],[4],[],[6],[],[1,4,6,8]]),(6,[[],[],[],[],[],[3,4],[3,4,5],[1,3,4,5],[],[1,3,4,5]]),(10,[[],[],[],[],[],[],[4],[],[6],[],[1,4,6,8]]),(14,[[],[],[],[],[3],[],[],[],[3,4,7],[3,7,8],[1,3,7,8],[],[1,3,7,8]]),(2,[[10,1]]),(16,[[4]])]) mixed (TblOk.cons ok_ZNext (TblOk.cons ok_ZMod (TblOk.cons ok_CMatch (TblOk.cons ok_cActionIn (TblOk.cons ok_cLow TblOk.nil))))) Tryz.func220 (by kernel_rfl) (by rfl) (rs:=[.cell 6 199]) (by rfl) (by kernel_rfl) (by simp only [Tryz.ntmps220,yaz,yba];decide) (Nat.le_refl _) fun hcl hlt=>?_
  change aw _ _ _ (KI Tryz.prog [(48,Ent.effect e_ZNext),(19,Ent.pure p_ZMod),(325,Ent.effect e_CMatch),(326,Ent.pure p_cActionIn),(327,Ent.pure p_cLow)] (aEnd Tryz.prog [.cell 6 199] H.nx _ _ (assoc [(1,[[],[],[],[],[],[],[4],[],[6],[],[1,4,6,8]]),(6,[[],[],[],[],[],[3,4],[3,4,5],[1,3,4,5],[],[1,3,4,5]]),(10,[[],[],[],[],[],[],[4],[],[6],[],[1,4,6,8]]),(14,[[],[],[],[],[3],[],[],[],[3,4,7],[3,7,8],[1,3,7,8],[],[1,3,7,8]]),(2,[[10,1]]),(16,[[4]])])) []) _ _
  clear hlt
  have hid:=AHeap.get_lt hg
  have hne:=ne_nx hid
  have hgc:=get_codV (b:=b) hid
  have hcl2:∀ w,(H.set id (codV b w)).Closed:=fun w=>closed_set hcl codV_lt
  obtain ⟨f1,f2,f3,f4,f5,f6,f7,f8,f9⟩:=hS
  obtain ⟨t,ht⟩:∃ t,tableAt S n=t:=⟨_,rfl⟩
  have hm1:=Int.emod_nonneg n (show ((S.tables.length:Nat):Int)≠0 by omega)
  have hm2:=Int.emod_lt_of_pos n (show (0:Int)<((S.tables.length:Nat):Int) by omega)
  have hmi:(n % ((S.tables.length:Nat):Int)).toNat<S.tables.length:=by omega
  have htm:t∈S.tables:=by
    rw [← ht];unfold tableAt
    rw [List.getD_eq_getElem?_getD,List.getElem?_eq_getElem hmi]
    exact List.getElem_mem hmi
  have htg:(S.tables.map tableAV).getD (n % ((S.tables.length:Nat):Int)).toNat .junk=.agg [.int .i64 t.id,.str t.name,.slice .any 3 (t.keys.map keyAV),.slice .any 1 (inL t.actions),.int .i64 t.dflt,.slice .any 2 (t.dargs.map vv),.int .i64 t.size,.str t.restr]:=by
    rw [← ht];unfold tableAt
    exact getD_map (f:=tableAV) (by rw [List.getElem?_eq_getElem hmi,List.getD_eq_getElem?_getD,List.getElem?_eq_getElem hmi];rfl)
  simp only [blkE,blkP,bhq,Nat.reduceMod,Nat.reduceDiv,stepH,stepM,toMs1,toMs,toMs0,strK,pubK,pubF,pubV,yaq,yar,yao,yap,go_sem,p_ZMod,e_ZNext,schC,hg,hgc,hne,onC_cod hb,cv_min,codV_min,cp_add,ybb,htg,Int.toNat_natCast,List.set_cons_succ,List.set_cons_zero]
  (repeat with_reducible refine And.intro (by first | exact True.intro | decide | omega | (simp [zib,zge,zgf,zgg,zgi,zgh,zgm];first | done | omega)) ?_)
  refine weak_nil 24 1 8 _ rfl rfl ?_
  simp only [blkE,blkP,bhq,Nat.reduceMod,Nat.reduceDiv,stepH,stepM,toMs1,toMs,toMs0,strK,pubK,pubF,pubV,yaq,yar,yao,yap,go_sem,p_ZMod,e_ZNext,schC,hg,hgc,hne,onC_cod hb,cv_min,codV_min,cp_add,ybb,htg,Int.toNat_natCast,List.set_cons_succ,List.set_cons_zero]
  refine weak_nil 24 4 2 _ rfl rfl ?_
  simp only [blkE,blkP,bhq,Nat.reduceMod,Nat.reduceDiv,stepH,stepM,toMs1,toMs,toMs0,strK,pubK,pubF,pubV,yaq,yar,yao,yap,go_sem,p_ZMod,e_ZNext,schC,hg,hgc,hne,onC_cod hb,cv_min,codV_min,cp_add,ybb,htg,Int.toNat_natCast,List.set_cons_succ,List.set_cons_zero]
  (repeat with_reducible refine And.intro (by first | exact True.intro | decide | omega | (simp [zib,zge,zgf,zgg,zgi,zgh,zgm];first | done | omega)) ?_)
  generalize hR:gMatches S b t.keys v 0=R
  have hcM:∀ w a1 p,(∀ n,ltL n a1=True)→(entH H id b S t w a1 p).Closed:=fun w a1 p h1=>argH_closed (a2:=[]) (act:=0) hcl h1 (fun n=>by simp [znd])
  refine loop_introW (A:=Nat × Nat × List AV × Int) (fun x=>[(0,.ptr id 0),(4,.ptr H.nx 0),(6,.ptr (H.nx+1) 0),(7,.ptr (H.nx+1+1) 0),(8,.ptr (H.nx+1+1+1+1+1) 0),(26,.slice .any 3 (t.keys.map keyAV)),(27,.int .i64 (t.keys.length:Int)),(28,.int .i64 (x.1:Int))]) (fun x=>entH H id b S t x.2.1 x.2.2.1 x.2.2.2) (fun x=>x.1≤t.keys.length∧x.2.2.1.length≤x.1∧x.2.2.1++(gMatches S b (t.keys.drop x.1) x.2.1 x.2.2.2).1.1.map matchAV=R.1.1.map matchAV∧(gMatches S b (t.keys.drop x.1) x.2.1 x.2.2.2).1.2=R.1.2∧(gMatches S b (t.keys.drop x.1) x.2.1 x.2.2.2).2=R.2) (fun x=>t.keys.length - x.1) (0,v,[],0) ⟨by omega,by simp,by rw [← hR];rfl,by rw [← hR];rfl,by rw [← hR];rfl⟩ ?_ fun x hx=>?_
  · refine ⟨by simp only [entH,zkm,zkn,zjy,zkd];omega,by dsimp only;unfold entH;rw [show codV b (cp v 0)=codV b (cp v 0) from rfl,set_selfZ hg];exact AHeap.Le.refl _,hcM _ _ _ (fun n=>by simp [znd]),?_,?_⟩
    · simp [ltF,entH,zmv,zmn,zkm,zkn,lt_map lt_key]
      omega
    · simp [subW,wk2,wk1,wkM,Fr.get]
  obtain ⟨k,w,a1,p⟩:=x
  dsimp only at hx ⊢
  obtain ⟨hk,l1,i1,i2,i3⟩:=hx
  have hlA:=fun n=>ltL_pre (n:=n) i1 lt_match
  simp only [go_sem]
  refine cond_split (fun hc=>?_) (fun hc=>?_)
  · have hk':k<t.keys.length:=by simp at hc;omega
    obtain ⟨x,hx⟩:∃ x,x=t.keys[k]:=⟨_,rfl⟩
    have hd:t.keys.drop k=x::t.keys.drop (k+1):=by rw [hx];exact List.drop_eq_getElem_cons hk'
    have hxm:x∈t.keys:=by rw [hx];exact List.getElem_mem hk'
    have hkg:=getD_map (f:=keyAV) (l:=t.keys) (k:=k) (x:=x) (by rw [List.getElem?_eq_getElem hk',hx])
    have hkk:=f5 t htm
    have e5:IntKind.i64.wrap ((k:Int)+1)=((k+1:Nat):Int):=by rw [wrap_i64]<;>omega
    obtain ⟨b1,b2,b3⟩:=f6 t htm x hxm
    simp only [blkE,blkP,bhq,Nat.reduceMod,Nat.reduceDiv,stepH,stepM,toMs1,toMs,toMs0,strK,pubK,pubF,pubV,yaq,yar,yao,yap,go_sem,p_ZMod,e_ZNext,schC,hg,hgc,hne,onC_cod hb,cv_min,codV_min,cp_add,ybb,htg,Int.toNat_natCast,List.set_cons_succ,List.set_cons_zero,entH,hkg,keyAV]
    (repeat with_reducible refine And.intro (by first | exact True.intro | decide | omega | (simp [zib,zge,zgf,zgg,zgi,zgh,zgm];first | done | omega)) ?_)
    refine ⟨S,⟨rfl,by omega,b1,b2,b3⟩,?_⟩
    simp only [blkE,blkP,bhq,Nat.reduceMod,Nat.reduceDiv,stepH,stepM,toMs1,toMs,toMs0,strK,pubK,pubF,pubV,yaq,yar,yao,yap,go_sem,p_ZMod,e_ZNext,schC,hg,hgc,hne,onC_cod hb,cv_min,codV_min,cp_add,ybb,htg,Int.toNat_natCast,List.set_cons_succ,List.set_cons_zero,entH,hkg,keyAV,onS_cod hb (st_match _ _)]
    have five:(5:Int).toNat=5:=rfl
    have a15:∀ u,IntKind.i64.wrap (1+((cv b u 5:Nat):Int))=1+((cv b u 5:Nat):Int):=fun u=>by
      have:=cv_lt (b:=b) (v:=u) (n:=5) (by decide)
      rw [wrap_i64 (by omega) (by omega)]
    by_cases hk34:x.kind=3∨x.kind=4
    · rcases hk34 with h3 | h3
      · have hk34:x.kind=3∨x.kind=4:=.inl h3
        have d3:(x.kind==3)=true:=by simp [h3]
        simp only [blkE,blkP,bhq,Nat.reduceMod,Nat.reduceDiv,stepH,stepM,toMs1,toMs,toMs0,strK,pubK,pubF,pubV,yaq,yar,yao,yap,go_sem,p_ZMod,e_ZNext,schC,hg,hgc,hne,onC_cod hb,cv_min,codV_min,cp_add,ybb,htg,Int.toNat_natCast,List.set_cons_succ,List.set_cons_zero,entH,hkg,keyAV,onS_cod hb (st_match _ _),gsM1,gsM2,e5,a15,five,d3]
        (repeat with_reducible refine And.intro (by first | exact True.intro | decide | omega | (simp [zib,zge,zgf,zgg,zgi,zgh,zgm];first | done | omega)) ?_)
        rw [hd] at i1 i2 i3
        simp only [gMatches,if_pos hk34] at i1 i2 i3
        have i1':(a1++[matchAV (gMatch b (cp w 0) (bitsF S x.field) x.kind).1])++_=R.1.1.map matchAV:=(List.append_assoc _ _ _).trans i1
        refine ⟨(k+1,cp (gMatch b (cp w 0) (bitsF S x.field) x.kind).2 1,a1++[matchAV (gMatch b (cp w 0) (bitsF S x.field) x.kind).1],1+ci b (cp (gMatch b (cp w 0) (bitsF S x.field) x.kind).2 0) 5),⟨by dsimp only;omega,by simp only [List.length_append,yaz,yba];omega,i1',i2,i3⟩,by dsimp only;omega,by simp only [entH,zkm,zkn,zjy,zkd];omega,?_,hcM _ _ _ (fun n=>ltL_pre (n:=n) i1' lt_match),?_,?_⟩
        · simp only [entH,List.length_append,yaz,yba]
          repeat (first | exact AHeap.Le.refl _ | refine AHeap.Le.push ?_ _)
        · simp [ltF,entH,zmv,zmn,zkm,zkn,lt_map lt_key]
          omega
        · simp [subW,wk2,wk1,wkM,Fr.get]
      · have hk34:x.kind=3∨x.kind=4:=.inr h3
        have d3:(x.kind==3)=false:=by simp [h3]
        have d4:(x.kind==4)=true:=by simp [h3]
        simp only [blkE,blkP,bhq,Nat.reduceMod,Nat.reduceDiv,stepH,stepM,toMs1,toMs,toMs0,strK,pubK,pubF,pubV,yaq,yar,yao,yap,go_sem,p_ZMod,e_ZNext,schC,hg,hgc,hne,onC_cod hb,cv_min,codV_min,cp_add,ybb,htg,Int.toNat_natCast,List.set_cons_succ,List.set_cons_zero,entH,hkg,keyAV,onS_cod hb (st_match _ _),gsM1,gsM2,e5,a15,five,d3,d4]
        (repeat with_reducible refine And.intro (by first | exact True.intro | decide | omega | (simp [zib,zge,zgf,zgg,zgi,zgh,zgm];first | done | omega)) ?_)
        rw [hd] at i1 i2 i3
        simp only [gMatches,if_pos hk34] at i1 i2 i3
        have i1':(a1++[matchAV (gMatch b (cp w 0) (bitsF S x.field) x.kind).1])++_=R.1.1.map matchAV:=(List.append_assoc _ _ _).trans i1
        refine ⟨(k+1,cp (gMatch b (cp w 0) (bitsF S x.field) x.kind).2 1,a1++[matchAV (gMatch b (cp w 0) (bitsF S x.field) x.kind).1],1+ci b (cp (gMatch b (cp w 0) (bitsF S x.field) x.kind).2 0) 5),⟨by dsimp only;omega,by simp only [List.length_append,yaz,yba];omega,i1',i2,i3⟩,by dsimp only;omega,by simp only [entH,zkm,zkn,zjy,zkd];omega,?_,hcM _ _ _ (fun n=>ltL_pre (n:=n) i1' lt_match),?_,?_⟩
        · simp only [entH,List.length_append,yaz,yba]
          repeat (first | exact AHeap.Le.refl _ | refine AHeap.Le.push ?_ _)
        · simp [ltF,entH,zmv,zmn,zkm,zkn,lt_map lt_key]
          omega
        · simp [subW,wk2,wk1,wkM,Fr.get]
    · have d3:(x.kind==3)=false:=by simp;intro h;exact hk34 (.inl h)
      have d4:(x.kind==4)=false:=by simp;intro h;exact hk34 (.inr h)
      simp only [blkE,blkP,bhq,Nat.reduceMod,Nat.reduceDiv,stepH,stepM,toMs1,toMs,toMs0,strK,pubK,pubF,pubV,yaq,yar,yao,yap,go_sem,p_ZMod,e_ZNext,schC,hg,hgc,hne,onC_cod hb,cv_min,codV_min,cp_add,ybb,htg,Int.toNat_natCast,List.set_cons_succ,List.set_cons_zero,entH,hkg,keyAV,onS_cod hb (st_match _ _),gsM1,gsM2,e5,a15,five,d3,d4]
      (repeat with_reducible refine And.intro (by first | exact True.intro | decide | omega | (simp [zib,zge,zgf,zgg,zgi,zgh,zgm];first | done | omega)) ?_)
      rw [hd] at i1 i2 i3
      simp only [gMatches,if_neg hk34] at i1 i2 i3
      have i1':(a1++[matchAV (gMatch b (cp w 0) (bitsF S x.field) x.kind).1])++_=R.1.1.map matchAV:=(List.append_assoc _ _ _).trans i1
      refine ⟨(k+1,cp (gMatch b (cp w 0) (bitsF S x.field) x.kind).2 0,a1++[matchAV (gMatch b (cp w 0) (bitsF S x.field) x.kind).1],p),⟨by dsimp only;omega,by simp only [List.length_append,yaz,yba];omega,i1',i2,i3⟩,by dsimp only;omega,by simp only [entH,zkm,zkn,zjy,zkd];omega,?_,hcM _ _ _ (fun n=>ltL_pre (n:=n) i1' lt_match),?_,?_⟩
      · simp only [entH,List.length_append,yaz,yba]
        repeat (first | exact AHeap.Le.refl _ | refine AHeap.Le.push ?_ _)
      · simp [ltF,entH,zmv,zmn,zkm,zkn,lt_map lt_key]
        omega
      · simp [subW,wk2,wk1,wkM,Fr.get]
  · have hk':k=t.keys.length:=by simp at hc;omega
    subst hk'
    rw [List.drop_length] at i1 i2 i3
    simp only [gMatches,yaf,yaj] at i1 i2 i3
    obtain ⟨g1,g2⟩:=f7 t htm
    have hkk:=f5 t htm
    have hcl3:cv b (cp w 0) t.actions.length<t.actions.length:=cv_lt (by omega)
    obtain ⟨act,hact⟩:∃ act,t.actions.getD (cv b w t.actions.length) 0=act:=⟨_,rfl⟩
    have hag:(inL t.actions).getD (cv b (cp w 0) t.actions.length) .junk=.int .i64 act:=by
      rw [← hact]
      unfold inL
      exact getD_map (f:=fun n=>AV.int .i64 n) (by rw [List.getElem?_eq_getElem hcl3,List.getD_eq_getElem?_getD,show cv b w t.actions.length=cv b (cp w 0) t.actions.length from rfl,List.getElem?_eq_getElem hcl3];rfl)
    have hil:(inL t.actions).length=t.actions.length:=by simp [inL]
    have hsp:=f8 act
    have hpb:=f9 act
    have e256:(256:Int).toNat=256:=rfl
    have u256:∀ u,IntKind.u64.wrap ((cv b u 256:Nat):Int)=((cv b u 256:Nat):Int):=fun u=>by
      have:=cv_lt (b:=b) (v:=u) (n:=256) (by decide)
      rw [wrap_u64 (by omega) (by omega)]
    have hb1:(0≤((cv b (cp w 0) t.actions.length:Nat):Int)∧((cv b (cp w 0) t.actions.length:Nat):Int)<(((inL t.actions).length:Nat):Int))=True:=eq_true ⟨by omega,by rw [hil];omega⟩
    simp only [blkE,blkP,bhq,Nat.reduceMod,Nat.reduceDiv,stepH,stepM,toMs1,toMs,toMs0,strK,pubK,pubF,pubV,yaq,yar,yao,yap,go_sem,p_ZMod,e_ZNext,schC,hg,hgc,hne,onC_cod hb,cv_min,codV_min,cp_add,ybb,htg,Int.toNat_natCast,List.set_cons_succ,List.set_cons_zero,entH,argH,hag,p_cActionIn,actionAV,p_cLow,isVz,vOf_zero,Int.toNat_zero,u256,e256,vv,hil]
    (repeat with_reducible refine And.intro (by first | exact True.intro | decide | omega | (simp [zib,zge,zgf,zgg,zgi,zgh,zgm];first | done | omega)) ?_)
    refine ⟨S,⟨rfl,by omega⟩,?_⟩
    generalize hao:actionL S.actions act=a at *
    generalize hG:gArgs b a.params (cp w 1)=G
    have hcM2:∀ w' a2,(∀ n,ltL n a2=True)→(argH H id b S t w' a1 a2 p act).Closed:=fun w' a2 h2=>argH_closed hcl hlA h2
    refine loop_introW (A:=Nat × Nat × List AV) (fun x=>[(0,.ptr id 0),(6,.ptr (H.nx+1) 0),(8,.ptr (H.nx+1+1+1+1+1) 0),(68,.slice .any 2 (a.params.map paramAV)),(69,.int .i64 (a.params.length:Int)),(70,.int .i64 (x.1:Int))]) (fun x=>argH H id b S t x.2.1 a1 x.2.2 p act) (fun x=>x.1≤a.params.length∧x.2.2.length≤x.1∧x.2.2++(gArgs b (a.params.drop x.1) x.2.1).1.map vv=G.1.map vv∧(gArgs b (a.params.drop x.1) x.2.1).2=G.2) (fun x=>a.params.length - x.1) (0,cp w 1,[]) ⟨by omega,by simp,by rw [← hG];rfl,by rw [← hG];rfl⟩ ?_ fun x hx=>?_
    · refine ⟨by simp only [argH,zkm,zkn,zjy,zkd];omega,AHeap.Le.refl _,hcM2 _ _ (fun n=>by simp [znd]),?_,?_⟩
      · simp [ltF,argH,zmv,zmn,zkm,zkn,lt_map lt_param]
        omega
      · simp [subW,wk2,wk1,wkM,Fr.get]
    obtain ⟨j,w2,a2⟩:=x
    dsimp only at hx ⊢
    obtain ⟨hj,m1,j1,j2⟩:=hx
    simp only [go_sem]
    refine cond_split (fun hc=>?_) (fun hc=>?_)
    · have hj':j<a.params.length:=by simp at hc;omega
      obtain ⟨x,hx⟩:∃ x,x=a.params[j]:=⟨_,rfl⟩
      have hd:a.params.drop j=x::a.params.drop (j+1):=by rw [hx];exact List.drop_eq_getElem_cons hj'
      have hxm:x∈a.params:=by rw [hx];exact List.getElem_mem hj'
      have hkg:=getD_map (f:=paramAV) (l:=a.params) (k:=j) (x:=x) (by rw [List.getElem?_eq_getElem hj',hx])
      have e5:IntKind.i64.wrap ((j:Int)+1)=((j+1:Nat):Int):=by rw [wrap_i64]<;>omega
      have hxb:=hpb x hxm
      rw [hd] at j1 j2
      simp only [gArgs] at j1 j2
      have j1':(a2++[vv (low (cv b w2 256) x.bits)])++_=G.1.map vv:=(List.append_assoc _ _ _).trans j1
      have c256:=cv_lt (b:=b) (v:=cp w2 0) (n:=256) (by decide)
      simp only [blkE,blkP,bhq,Nat.reduceMod,Nat.reduceDiv,stepH,stepM,toMs1,toMs,toMs0,strK,pubK,pubF,pubV,yaq,yar,yao,yap,go_sem,p_ZMod,e_ZNext,schC,hg,hgc,hne,onC_cod hb,cv_min,codV_min,cp_add,ybb,htg,Int.toNat_natCast,List.set_cons_succ,List.set_cons_zero,entH,argH,hag,p_cActionIn,actionAV,p_cLow,isVz,vOf_zero,Int.toNat_zero,u256,e256,vv,hkg,paramAV,e5]
      (repeat with_reducible refine And.intro (by first | exact True.intro | decide | omega | (simp [zib,zge,zgf,zgg,zgi,zgh,zgm];first | done | omega)) ?_)
      refine ⟨(j+1,cp w2 1,a2++[vv (low (cv b w2 256) x.bits)]),⟨by dsimp only;omega,by simp only [List.length_append,yaz,yba];omega,j1',j2⟩,by dsimp only;omega,by simp only [argH,zkm,zkn,zjy,zkd];omega,?_,hcM2 _ _ (fun n=>ltL_pre (n:=n) j1' lt_vvx),?_,?_⟩
      · simp only [argH,List.length_append,yaz,yba]
        repeat (first | exact AHeap.Le.refl _ | refine AHeap.Le.push ?_ _)
      · simp [ltF,argH,zmv,zmn,zkm,zkn,lt_map lt_param]
        omega
      · simp [subW,wk2,wk1,wkM,Fr.get]
    · have hj':j=a.params.length:=by simp at hc;omega
      subst hj'
      rw [List.drop_length] at j1 j2
      simp only [gArgs,yaf,yaj] at j1 j2
      simp only [blkE,blkP,bhq,Nat.reduceMod,Nat.reduceDiv,stepH,stepM,toMs1,toMs,toMs0,strK,pubK,pubF,pubV,yaq,yar,yao,yap,go_sem,p_ZMod,e_ZNext,schC,hg,hgc,hne,onC_cod hb,cv_min,codV_min,cp_add,ybb,htg,Int.toNat_natCast,List.set_cons_succ,List.set_cons_zero,entH,argH,hag,p_cActionIn,actionAV,p_cLow,isVz,vOf_zero,Int.toNat_zero,u256,e256,vv]
      (repeat with_reducible refine And.intro (by first | exact True.intro | decide | omega | (simp [zib,zge,zgf,zgg,zgi,zgh,zgm];first | done | omega)) ?_)
      have hE:gEntry S b v n=(⟨t.id,R.1.1,R.1.2,act,G.1⟩,G.2):=by
        unfold gEntry
        dsimp only
        rw [ht,hR,← i3,hact,hao,show w+1=cp w 1 from rfl,hG]
      rw [hE] at hres hpos
      dsimp only at hres hpos
      subst hres
      subst hpos
      refine weak_slot 87 (entryAV ⟨t.id,R.1.1,R.1.2,act,G.1⟩) ?_ ?_
      · simp [Fr.get,entryAV,entryC,wkD_agg,wkD_slice,wkDL_cons,wkDL_nil,wkDR_cons,wkDR_nil,wkD_int,wkM,wkDR_same,i1,i2,j1]
      simp only [bhq,Nat.reduceMod,Nat.reduceDiv,stepH,stepM,toMs1,toMs,toMs0,strK,pubK,pubF,pubV,yaq,yar,yao,yap,go_sem,entryAV,entryC]
      rw [j2]
      refine ⟨?_,?_,hcl2 _,lt_entry ⟨t.id,R.1.1,R.1.2,act,G.1⟩⟩
      · simp [wk,wk2,wkL,wk1,wkM]
      · repeat (first | exact AHeap.Le.refl _ | refine AHeap.Le.push ?_ _)
end Go.AL


open Go Go.AL Go.Proofs
namespace Go.AL
set_option linter.all false
set_option maxRecDepth 10000

end Go.AL

