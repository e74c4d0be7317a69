/- Contracts and plain laws, a part of the proof; no condition of its own. -/
import Derived.Test.YthpglnacipgolaaGreatW04i
open List renaming map_cons → yae, map_nil → yaf, length_cons → yaz, length_nil → yba, take_succ_cons → yaq, take_zero → yar, drop_succ_cons → yao, drop_zero → yap, take_of_length_le → ybc
open Go Go.AL Go.Proofs
namespace Go.AL
set_option linter.all false
set_option maxRecDepth 10000

/-! ### the schema of the choices has an encoding -/
/-- nothing is wrong, and at most n bytes -/
def Gd (x:Enc) (n:Nat):Prop:=x.l=false∧x.f=false∧x.a=false∧x.b.length≤n
theorem Gd.add {x y:Enc} {n m:Nat} (h:Gd x n) (k:Gd y m):Gd (x.add y) (n+m):=by
  obtain ⟨h1,h2,h3,h4⟩:=h
  obtain ⟨k1,k2,k3,k4⟩:=k
  refine ⟨?_,?_,?_,?_⟩
  · show (x.l||y.l)=false;rw [h1,k1];rfl
  · show (x.f||y.f)=false;rw [h2,k2];rfl
  · show (x.a||y.a)=false;rw [h3,k3];rfl
  · rw [enc_len];omega
theorem Gd.up {x:Enc} {n m:Nat} (h:Gd x n) (k:n≤m):Gd x m:=⟨h.1,h.2.1,h.2.2.1,Nat.le_trans h.2.2.2 k⟩
def grOk (x:SGrant):Prop:=(0≤x.table∧x.table≤65535)∧x.keys.length≤4
end Go.AL


open Go Go.AL Go.Proofs
namespace Go.AL
set_option linter.all false
set_option maxRecDepth 10000

def GgOk (n:Nat) (l:List SGrant):Prop:=l.length≤n∧∀ q∈l,grOk q
theorem GgOk.nil {n:Nat}:GgOk n []:=⟨Nat.zero_le _,fun q hq=>by cases hq⟩
theorem GgOk.cons {n:Nat} {l:List SGrant} {q:SGrant} (h:GgOk n l) (hq:grOk q):GgOk (n+1) (q::l) :=
  ⟨Nat.succ_le_succ h.1,fun x hx=>(List.mem_cons.1 hx).elim (fun e=>e ▸ hq) (h.2 x)⟩
theorem GgOk.up {n:Nat} {l:List SGrant} (h:GgOk n l):GgOk (n+1) l:=⟨Nat.le_succ_of_le h.1,h.2⟩
end Go.AL


open Go Go.AL Go.Proofs
namespace Go.AL
set_option linter.all false
set_option maxRecDepth 10000
theorem ti_bytess:ti Tryz.prog 66=some ⟨.slice 32,1,24,.slice .nil 1 []⟩:=by kernel_rfl
attribute [go_sem] ti_bytess
end Go.AL


open Go Go.AL Go.Proofs
namespace Go.AL
set_option linter.all false
set_option maxRecDepth 10000

/-! ### zeros are not a schema -/
theorem be_zero {k n:Nat}:beVal ((List.replicate n (0:UInt8)).take k)=0:=by
  rw [List.take_replicate]
  generalize min k n=m
  induction m with
  | zero=>rfl
  | succ m ih =>
    rw [List.replicate_succ',beVal_snoc,ih];rfl
theorem uint_zero {n:Nat} (h:2≤n):uintR (.any,List.replicate n (0:UInt8),0) 2=(0,(.any,List.replicate (n - 2) 0,0)):=by
  unfold uintR
  dsimp only
  rw [if_neg (by decide),if_neg (by decide),if_neg (by rw [List.length_replicate];omega),be_zero,List.drop_replicate]
  rfl
theorem rl_zero {α:Type} {rd:RM α} {m:Int} {n:Nat} (hm:0≤m) (h:2≤n):rlX rd m (.any,List.replicate n (0:UInt8),0)=([],(.any,List.replicate (n - 2) 0,0)):=by
  have hc:countR (.any,List.replicate n (0:UInt8),0) m=(0,(.any,List.replicate (n - 2) 0,0)):=by
    unfold countR
    dsimp only
    rw [if_neg (by decide),if_neg (by rw [List.length_replicate];omega),be_zero,if_neg (by omega),List.drop_replicate]
    rfl
  unfold rlX
  rw [hc];rfl
theorem dec_zeros {n:Nat} (h:21≤n):(decF (List.replicate n 0)).2=if 8000<n then 3 else 2:=by
  unfold decF
  rw [List.length_replicate]
  by_cases h8:8000<n
  · rw [if_pos h8,if_pos h8]
  · rw [if_neg h8,if_neg h8]
    have hr:(rdSch LX (.any,List.replicate n 0,0)).2=(.any,List.replicate (n - 20) 0,0):=by
      unfold rdSch
      dsimp only [rap,rpure,rU,LX_l]
      rw [uint_zero (by omega)]
      dsimp only
      rw [uint_zero (by omega)]
      dsimp only
      (repeat (rw [rl_zero (by decide) (by omega)];dsimp only))
      simp only [Nat.sub_sub]
    unfold decS
    rw [hr]
    have hf:finishR (.any,List.replicate (n - 20) (0:UInt8),0)=2:=by
      unfold finishR
      dsimp only
      rw [if_pos ⟨rfl,by rw [List.length_replicate];omega⟩]
    rw [hf];rfl
theorem rep_succ {k:Nat}:List.replicate k (120:UInt8)++[120]=List.replicate (k+1) 120:=by
  rw [← List.replicate_succ']
/-! ### the schemas at the limits -/
def limF (n:Nat):Sch:=⟨(List.range n).map fun (i:Nat)=>⟨(i:Int),[],1⟩,[],[],[],[],[],[],[],0,0⟩
def limG (n:Nat):Sch:=⟨[],[],[],[],[],(List.range n).map fun (i:Nat)=>⟨(i:Int),0⟩,[],[],0,0⟩
def limT (s:List UInt8):Sch:=⟨[],[],[],[],[⟨0,[],[],[],0,[],0,s⟩],[],[],[],0,0⟩
def lim3 (c:Nat):Int:=if c=2 then 3 else 0
theorem limF_enc {c:Nat} (h:c<3):(encO (limF (31+c))).2=lim3 c:=by
  rcases (by omega:c=0∨c=1∨c=2) with rfl | rfl | rfl<;>decide +kernel
theorem limG_enc {c:Nat} (h:c<3):(encO (limG (11+c))).2=lim3 c:=by
  rcases (by omega:c=0∨c=1∨c=2) with rfl | rfl | rfl<;>decide +kernel
theorem limT_enc {c:Nat} (h:c<3):(encO (limT (List.replicate (399+c) 120))).2=lim3 c:=by
  rcases (by omega:c=0∨c=1∨c=2) with rfl | rfl | rfl<;>decide +kernel
theorem limF_sm {n:Nat} (h:n≤50):SmP 50 1100000 (limF n):=by
  refine ⟨⟨by simp [limF];omega,fun a ha=>?_⟩,⟨by simp [limF],fun a ha=>by simp [limF] at ha⟩,⟨by simp [limF],fun a ha=>by simp [limF] at ha⟩,⟨by simp [limF],fun a ha=>by simp [limF] at ha⟩,⟨by simp [limF],fun a ha=>by simp [limF] at ha⟩,by simp [limF],⟨by simp [limF],fun a ha=>by simp [limF] at ha⟩,by simp [limF]⟩
  obtain ⟨i,_,rfl⟩:=List.mem_map.1 ha
  exact okTx_of (by simp)
theorem limG_sm {n:Nat} (h:n≤50):SmP 50 1100000 (limG n):=by
  refine ⟨⟨by simp [limG],fun a ha=>by simp [limG] at ha⟩,⟨by simp [limG],fun a ha=>by simp [limG] at ha⟩,⟨by simp [limG],fun a ha=>by simp [limG] at ha⟩,⟨by simp [limG],fun a ha=>by simp [limG] at ha⟩,⟨by simp [limG],fun a ha=>by simp [limG] at ha⟩,by simp [limG];omega,⟨by simp [limG],fun a ha=>by simp [limG] at ha⟩,by simp [limG]⟩
theorem limT_sm {s:List UInt8} (h:s.length≤1000):SmP 50 1100000 (limT s):=by
  refine ⟨⟨by simp [limT],fun a ha=>by simp [limT] at ha⟩,⟨by simp [limT],fun a ha=>by simp [limT] at ha⟩,⟨by simp [limT],fun a ha=>by simp [limT] at ha⟩,⟨by simp [limT],fun a ha=>by simp [limT] at ha⟩,⟨by simp [limT],fun a ha=>?_⟩,by simp [limT],⟨by simp [limT],fun a ha=>by simp [limT] at ha⟩,by simp [limT]⟩
  simp only [limT,List.mem_singleton] at ha
  subst ha
  exact ⟨⟨okTx_of (by simp),by simp,by simp,okTx_of h⟩,by simp,by simp,by simp⟩
theorem limF_len (k:Nat):((limF k).fields.map fieldAV).length=k:=by simp [limF]
theorem limG_len (k:Nat):((limG k).stages.map stageAV).length=k:=by simp [limG]
theorem limF_succ (k:Nat):(limF k).fields.map fieldAV++[.agg [.int .i64 (k:Int),.str [],.int .i64 1]]=(limF (k+1)).fields.map fieldAV:=by
  unfold limF
  simp only [List.range_succ,List.map_append,yae,yaf,fieldAV]
theorem limG_succ (k:Nat):(limG k).stages.map stageAV++[.agg [.int .i64 (k:Int),.int .i64 0]]=(limG (k+1)).stages.map stageAV:=by
  unfold limG
  simp only [List.range_succ,List.map_append,yae,yaf,stageAV]
def p_SchemaLimits:List AV→AHeap→(AV→Prop)→Prop
  | [.int .i64 n,.int .i64 d],_,K=>(-9223372036854775808≤n∧n≤9223372036854775807 ∧ -9223372036854775808≤d∧d≤9223372036854775807)∧K (.bool true)
  | _,_,_=>False
set_option maxHeartbeats 8000000 in
theorem ok_SchemaLimits:EntOk Tryz.prog 7 (Ent.pure p_SchemaLimits):=by
  refine EntOk.pure fun args H K h=>?_
  unfold p_SchemaLimits at h
  split at h
  rotate_left
  · exact h.elim
  rename_i n d
  obtain ⟨⟨hn1,hn2,hd1,hd2⟩,hK⟩:=h
  refine ⟨_,hK,?_⟩
  clear hK
  obtain ⟨c,hc⟩:∃ c:Nat,n % 3=(c:Int):=⟨(n % 3).toNat,by omega⟩
  have hc3:c<3:=by omega
  have hw1:IntKind.i64.wrap (31+(c:Int))=((31+c:Nat):Int):=by rw [wrap_i64]<;>omega
  have hw2:IntKind.i64.wrap (11+(c:Int))=((11+c:Nat):Int):=by rw [wrap_i64]<;>omega
  have hw3:IntKind.i64.wrap (399+(c:Int))=((399+c:Nat):Int):=by rw [wrap_i64]<;>omega
  have hf:=limF_enc hc3
  have hg:=limG_enc hc3
  have ht:=limT_enc hc3
  obtain ⟨n1,hn1'⟩:∃ n1,31+c=n1:=⟨_,rfl⟩
  obtain ⟨n2,hn2'⟩:∃ n2,11+c=n2:=⟨_,rfl⟩
  obtain ⟨n3,hn3'⟩:∃ n3,399+c=n3:=⟨_,rfl⟩
  rw [hn1'] at hw1 hf
  rw [hn2'] at hw2 hg
  rw [hn3'] at hw3 ht
  refine ACalls.of_aw (Ω:=[(19,Ent.pure p_ZMod),(17,Ent.pure p_zEnc),(27,Ent.pure p_zDec),(13,Ent.pure p_begun03)]) (T:=assoc [(3,[[1]]),(7,[[1]]),(16,[[13]]),(17,[[4]]),(18,[[4]]),(24,[[1]])]) mixed (TblOk.cons ok_ZMod (TblOk.cons ok_zEnc (TblOk.cons ok_zDec (TblOk.cons ok_begun03 TblOk.nil)))) Tryz.func7 (by kernel_rfl) (by rfl) (rs:=[.tmp 4]) (by rfl) (by kernel_rfl) (by simp only [Tryz.ntmps7,yaz,yba];decide) (Nat.le_refl _) fun hcl hlt=>?_
  change aw _ _ _ (KI Tryz.prog [(19,Ent.pure p_ZMod),(17,Ent.pure p_zEnc),(27,Ent.pure p_zDec),(13,Ent.pure p_begun03)] (aEnd Tryz.prog [.tmp 4] H.nx _ _ (assoc [(3,[[1]]),(7,[[1]]),(16,[[13]]),(17,[[4]]),(18,[[4]]),(24,[[1]])])) []) _ _
  clear hlt
  simp only [blkE,blkP,bhq,Nat.reduceMod,Nat.reduceDiv,stepH,stepM,toMs1,toMs,toMs0,strK,pubK,pubF,pubV,yaq,yar,yao,yap,go_sem,byq,List.set_cons_succ,List.set_cons_zero,p_ZMod,hc]
  refine ⟨⟨by omega,by omega,by decide,by decide⟩,?_⟩
  refine weak_cell 6 0 3 (cs:=[.slice .nil 1 [],.slice .nil 1 [],.slice .nil 1 [],.slice .nil 1 [],.slice .nil 1 [],.slice .nil 1 [],.slice .nil 1 [],.slice .nil 1 [],.int .i64 0,.int .i64 0]) rfl (by simp only [go_sem]) rfl ?_
  simp only [blkE,blkP,bhq,Nat.reduceMod,Nat.reduceDiv,stepH,stepM,toMs1,toMs,toMs0,strK,pubK,pubF,pubV,yaq,yar,yao,yap,go_sem,byq,List.set_cons_succ,List.set_cons_zero]
  have hl1:∀ k m,ltL m ((limF k).fields.map fieldAV):=fun k m=>ltM_Fld
  have hl2:∀ k m,ltL m ((limG k).stages.map stageAV):=fun k m=>ltM_Stg
  have hcl1:∀ k,(((H.push (.cells [.slice (.own (H.nx+1+1)) 3 (((limF k).fields).map fieldAV),.slice .nil 1 [],.slice .nil 1 [],.slice .nil 1 [],.slice .nil 1 [],.slice .nil 1 [],.slice .nil 1 [],.slice .nil 1 [],.int .i64 0,.int .i64 0])).push (.cells [.slice .nil 1 [],.slice .nil 1 [],.slice .nil 1 [],.slice .nil 1 [],.slice .nil 1 [],.slice .nil 1 [],.slice .nil 1 [],.slice .nil 1 [],.int .i64 0,.int .i64 0])).push (.buf 3 k)).Closed:=fun k=>by
    have h0:(((H.push (.cells [])).push (.cells [.slice .nil 1 [],.slice .nil 1 [],.slice .nil 1 [],.slice .nil 1 [],.slice .nil 1 [],.slice .nil 1 [],.slice .nil 1 [],.slice .nil 1 [],.int .i64 0,.int .i64 0])).push (.buf 3 k)).Closed:=closed_buf (closed_cells (closed_cells hcl trivial) (by simp [lt_sliceL,zno,znp,zmz]))
    have h1:=closed_set (i:=H.nx) (cs:=[.slice (.own (H.nx+1+1)) 3 (((limF k).fields).map fieldAV),.slice .nil 1 [],.slice .nil 1 [],.slice .nil 1 [],.slice .nil 1 [],.slice .nil 1 [],.slice .nil 1 [],.slice .nil 1 [],.int .i64 0,.int .i64 0]) h0 (by
      simp [zno,znp,zmz,zky,lt_sliceL,hl1])
    simp only [go_sem] at h1
    exact h1
  refine loop_introW (A:=Nat) (fun k=>[(1,.int .i64 d),(5,.int .i64 (c:Int)),(6,.ptr H.nx 0),(7,.ptr (H.nx+1) 0),(8,.int .i64 (k:Int))]) (fun k=>((H.push (.cells [.slice (.own (H.nx+1+1)) 3 (((limF k).fields).map fieldAV),.slice .nil 1 [],.slice .nil 1 [],.slice .nil 1 [],.slice .nil 1 [],.slice .nil 1 [],.slice .nil 1 [],.slice .nil 1 [],.int .i64 0,.int .i64 0])).push (.cells [.slice .nil 1 [],.slice .nil 1 [],.slice .nil 1 [],.slice .nil 1 [],.slice .nil 1 [],.slice .nil 1 [],.slice .nil 1 [],.slice .nil 1 [],.int .i64 0,.int .i64 0])).push (.buf 3 k)) (fun k=>k≤n1) (fun k=>n1 - k) 0 (by omega) ?_ fun k hk=>?_
  · refine ⟨by simp only [zkk,zkp,zky,zkz];omega,by repeat (first | exact AHeap.Le.refl _ | refine AHeap.Le.push ?_ _),hcl1 0,?_,?_⟩
    · simp [ltF,zmz,znh,zky]
      try omega
    · simp [subW,wk2,wk1,wkM,Fr.get]
  simp only [go_sem,byq,hw1]
  refine cond_split (fun hcc=>?_) (fun hcc=>?_)
  · have hk':k<n1:=by simp at hcc;omega
    have e5:IntKind.i64.wrap ((k:Int)+1)=((k+1:Nat):Int):=by rw [wrap_i64]<;>omega
    simp only [blkE,blkP,bhq,Nat.reduceMod,Nat.reduceDiv,stepH,stepM,toMs1,toMs,toMs0,strK,pubK,pubF,pubV,yaq,yar,yao,yap,go_sem,byq,List.set_cons_succ,List.set_cons_zero,e5,limF_succ,limF_len]
    refine ⟨⟨by omega,by omega,fun z hz=>by rw [List.mem_singleton] at hz;subst hz;rfl⟩,k+1,by omega,by omega,by (try simp only [zky,zkz]);omega,by repeat (first | exact AHeap.Le.refl _ | refine AHeap.Le.push ?_ _),hcl1 _,?_,?_⟩
    · simp [ltF,zmz,znh,zky]
      try omega
    · simp [subW,wk2,wk1,wkM,Fr.get]
  have hkk:n1=k:=by simp at hcc;omega
  subst hkk
  simp only [blkE,blkP,bhq,Nat.reduceMod,Nat.reduceDiv,stepH,stepM,toMs1,toMs,toMs0,strK,pubK,pubF,pubV,yaq,yar,yao,yap,go_sem,byq,List.set_cons_succ,List.set_cons_zero]
  refine weak_cell 7 5 2 (cs:=[.slice .nil 1 [],.slice .nil 1 [],.slice .nil 1 [],.slice .nil 1 [],.slice .nil 1 [],.slice .nil 1 [],.slice .nil 1 [],.slice .nil 1 [],.int .i64 0,.int .i64 0]) rfl (by simp only [go_sem]) rfl ?_
  simp only [blkE,blkP,bhq,Nat.reduceMod,Nat.reduceDiv,stepH,stepM,toMs1,toMs,toMs0,strK,pubK,pubF,pubV,yaq,yar,yao,yap,go_sem,byq,List.set_cons_succ,List.set_cons_zero]
  clear hcl1
  have hcl2:∀ k,((((H.push (.cells [.slice (.own (H.nx+1+1)) 3 (((limF n1).fields).map fieldAV),.slice .nil 1 [],.slice .nil 1 [],.slice .nil 1 [],.slice .nil 1 [],.slice .nil 1 [],.slice .nil 1 [],.slice .nil 1 [],.int .i64 0,.int .i64 0])).push (.cells [.slice .nil 1 [],.slice .nil 1 [],.slice .nil 1 [],.slice .nil 1 [],.slice .nil 1 [],.slice (.own (H.nx+1+1+1)) 2 (((limG k).stages).map stageAV),.slice .nil 1 [],.slice .nil 1 [],.int .i64 0,.int .i64 0])).push (.buf 3 n1)).push (.buf 2 k)).Closed:=fun k=>by
    have h0:((((H.push (.cells [])).push (.cells [])).push (.buf 3 n1)).push (.buf 2 k)).Closed:=closed_buf (closed_buf (closed_cells (closed_cells hcl trivial) trivial))
    have h1:=closed_set (i:=H.nx) (cs:=[.slice (.own (H.nx+1+1)) 3 (((limF n1).fields).map fieldAV),.slice .nil 1 [],.slice .nil 1 [],.slice .nil 1 [],.slice .nil 1 [],.slice .nil 1 [],.slice .nil 1 [],.slice .nil 1 [],.int .i64 0,.int .i64 0]) h0 (by
      simp [zno,znp,zmz,zky,lt_sliceL,hl1];try omega)
    simp only [go_sem] at h1
    have h2:=closed_set (i:=H.nx+1) (cs:=[.slice .nil 1 [],.slice .nil 1 [],.slice .nil 1 [],.slice .nil 1 [],.slice .nil 1 [],.slice (.own (H.nx+1+1+1)) 2 (((limG k).stages).map stageAV),.slice .nil 1 [],.slice .nil 1 [],.int .i64 0,.int .i64 0]) h1 (by
      simp [zno,znp,zmz,zky,lt_sliceL,hl2])
    simp only [go_sem] at h2
    exact h2
  refine loop_introW (A:=Nat) (fun k=>[(1,.int .i64 d),(5,.int .i64 (c:Int)),(6,.ptr H.nx 0),(7,.ptr (H.nx+1) 0),(9,.int .i64 (k:Int))]) (fun k=>(((H.push (.cells [.slice (.own (H.nx+1+1)) 3 (((limF n1).fields).map fieldAV),.slice .nil 1 [],.slice .nil 1 [],.slice .nil 1 [],.slice .nil 1 [],.slice .nil 1 [],.slice .nil 1 [],.slice .nil 1 [],.int .i64 0,.int .i64 0])).push (.cells [.slice .nil 1 [],.slice .nil 1 [],.slice .nil 1 [],.slice .nil 1 [],.slice .nil 1 [],.slice (.own (H.nx+1+1+1)) 2 (((limG k).stages).map stageAV),.slice .nil 1 [],.slice .nil 1 [],.int .i64 0,.int .i64 0])).push (.buf 3 n1)).push (.buf 2 k)) (fun k=>k≤n2) (fun k=>n2 - k) 0 (by omega) ?_ fun k hk=>?_
  · refine ⟨by simp only [zkk,zkp,zky,zkz];omega,by repeat (first | exact AHeap.Le.refl _ | refine AHeap.Le.push ?_ _),hcl2 0,?_,?_⟩
    · simp [ltF,zmz,znh,zky]
      try omega
    · simp [subW,wk2,wk1,wkM,Fr.get]
  simp only [go_sem,byq,hw2]
  refine cond_split (fun hcc=>?_) (fun hcc=>?_)
  · have hk':k<n2:=by simp at hcc;omega
    have e5:IntKind.i64.wrap ((k:Int)+1)=((k+1:Nat):Int):=by rw [wrap_i64]<;>omega
    simp only [blkE,blkP,bhq,Nat.reduceMod,Nat.reduceDiv,stepH,stepM,toMs1,toMs,toMs0,strK,pubK,pubF,pubV,yaq,yar,yao,yap,go_sem,byq,List.set_cons_succ,List.set_cons_zero,e5,limG_succ,limG_len]
    refine ⟨⟨by omega,by omega,fun z hz=>by rw [List.mem_singleton] at hz;subst hz;rfl⟩,k+1,by omega,by omega,by (try simp only [zky,zkz]);omega,by repeat (first | exact AHeap.Le.refl _ | refine AHeap.Le.push ?_ _),hcl2 _,?_,?_⟩
    · simp [ltF,zmz,znh,zky]
      try omega
    · simp [subW,wk2,wk1,wkM,Fr.get]
  have hkk:k=n2:=by simp at hcc;omega
  subst hkk
  simp only [blkE,blkP,bhq,Nat.reduceMod,Nat.reduceDiv,stepH,stepM,toMs1,toMs,toMs0,strK,pubK,pubF,pubV,yaq,yar,yao,yap,go_sem,byq,List.set_cons_succ,List.set_cons_zero]
  refine loop_introW (A:=Nat) (fun j=>[(1,.int .i64 d),(5,.int .i64 (c:Int)),(6,.ptr H.nx 0),(7,.ptr (H.nx+1) 0),(10,.str (List.replicate j 120)),(11,.int .i64 (j:Int))]) (fun _=>(((H.push (.cells [.slice (.own (H.nx+1+1)) 3 (((limF n1).fields).map fieldAV),.slice .nil 1 [],.slice .nil 1 [],.slice .nil 1 [],.slice .nil 1 [],.slice .nil 1 [],.slice .nil 1 [],.slice .nil 1 [],.int .i64 0,.int .i64 0])).push (.cells [.slice .nil 1 [],.slice .nil 1 [],.slice .nil 1 [],.slice .nil 1 [],.slice .nil 1 [],.slice (.own (H.nx+1+1+1)) 2 (((limG k).stages).map stageAV),.slice .nil 1 [],.slice .nil 1 [],.int .i64 0,.int .i64 0])).push (.buf 3 n1)).push (.buf 2 k)) (fun j=>j≤n3) (fun j=>n3 - j) 0 (by omega) ?_ fun j hj=>?_
  · refine ⟨by simp only [zkk,zkp,zky,zkz];omega,by repeat (first | exact AHeap.Le.refl _ | refine AHeap.Le.push ?_ _),hcl2 k,?_,?_⟩
    · simp [ltF,zmz,znh,znb,zky]
      try omega
    · simp [subW,wk2,wk1,wkM,Fr.get]
  simp only [go_sem,byq,hw3]
  refine cond_split (fun hcc=>?_) (fun hcc=>?_)
  · have hk':j<n3:=by simp at hcc;omega
    have e5:IntKind.i64.wrap ((j:Int)+1)=((j+1:Nat):Int):=by rw [wrap_i64]<;>omega
    simp only [blkE,blkP,bhq,Nat.reduceMod,Nat.reduceDiv,stepH,stepM,toMs1,toMs,toMs0,strK,pubK,pubF,pubV,yaq,yar,yao,yap,go_sem,byq,List.set_cons_succ,List.set_cons_zero,e5,rep_succ,List.length_replicate]
    (repeat with_reducible refine And.intro (by first | decide | omega | (simp only [maxStr];omega)) ?_)
    refine ⟨j+1,by omega,by omega,by (try simp only [zky,zkz]);omega,by repeat (first | exact AHeap.Le.refl _ | refine AHeap.Le.push ?_ _),hcl2 k,?_,?_⟩
    · simp [ltF,zmz,znh,znb,zky]
      try omega
    · simp [subW,wk2,wk1,wkM,Fr.get]
  have hkk:j=n3:=by simp at hcc;omega
  subst hkk
  have hT:=limT_sm (s:=List.replicate j 120) (by rw [List.length_replicate];omega)
  have hFs:=limF_sm (n:=n1) (by omega)
  have hGs:=limG_sm (n:=k) (by omega)
  have wF:∀ o,wkD (.agg [.slice (.own (o)) 3 (((limF n1).fields).map fieldAV),.slice .nil 1 [],.slice .nil 1 [],.slice .nil 1 [],.slice .nil 1 [],.slice .nil 1 [],.slice .nil 1 [],.slice .nil 1 [],.int .i64 0,.int .i64 0]) (schAV (limF n1)):=fun o=>by
    simp [schAV,schC,limF,wkD_agg,wkD_slice,wkDL_cons,wkDL_nil,wkD_int,wkM,wkDR_same]
  have wG:∀ o,wkD (.agg [.slice .nil 1 [],.slice .nil 1 [],.slice .nil 1 [],.slice .nil 1 [],.slice .nil 1 [],.slice (.own (o)) 2 (((limG k).stages).map stageAV),.slice .nil 1 [],.slice .nil 1 [],.int .i64 0,.int .i64 0]) (schAV (limG k)):=fun o=>by
    simp [schAV,schC,limG,wkD_agg,wkD_slice,wkDL_cons,wkDL_nil,wkD_int,wkM,wkDR_same]
  generalize List.replicate j (120:UInt8)=s at *
  have wT:∀ o,wkD (.agg [.slice .nil 1 [],.slice .nil 1 [],.slice .nil 1 [],.slice .nil 1 [],.slice (.own o) 8 [.agg [.int .i64 0,.str [],.slice .nil 1 [],.slice .nil 1 [],.int .i64 0,.slice .nil 1 [],.int .i64 0,.str s]],.slice .nil 1 [],.slice .nil 1 [],.slice .nil 1 [],.int .i64 0,.int .i64 0]) (schAV (limT s)):=fun o=>by
    simp [schAV,schC,limT,wkD_agg,wkD_slice,wkDL_cons,wkDL_nil,wkD_int,wkD_str,wkM,wkDR_cons,wkDR_nil,wkDR_same,tableAV,inL,zik]
  simp only [blkE,blkP,bhq,Nat.reduceMod,Nat.reduceDiv,stepH,stepM,toMs1,toMs,toMs0,strK,pubK,pubF,pubV,yaq,yar,yao,yap,go_sem,byq,List.set_cons_succ,List.set_cons_zero]
  have hTs:schAV (limT s)=.agg (schC (limT s)):=rfl
  have hFe:schAV (limF n1)=.agg (schC (limF n1)):=rfl
  have hGe:schAV (limG k)=.agg (schC (limG k)):=rfl
  refine weak_slot 64 (schAV (limT s)) (wT _) ?_
  generalize limT s=ST at *
  simp only [blkE,blkP,bhq,Nat.reduceMod,Nat.reduceDiv,stepH,stepM,toMs1,toMs,toMs0,strK,pubK,pubF,pubV,yaq,yar,yao,yap,go_sem,byq,List.set_cons_succ,List.set_cons_zero,schAV,schC]
  refine weak_slot 66 (schAV (limF n1)) (wF _) ?_
  simp only [blkE,blkP,bhq,Nat.reduceMod,Nat.reduceDiv,stepH,stepM,toMs1,toMs,toMs0,strK,pubK,pubF,pubV,yaq,yar,yao,yap,go_sem,byq,List.set_cons_succ,List.set_cons_zero,schAV,schC,p_zEnc,pEnc]
  refine ⟨_,⟨rfl,hFs.ok,hFs.len⟩,?_⟩
  obtain ⟨⟨fb,fe⟩,hfE⟩:∃ R,encO (limF n1)=R:=⟨_,rfl⟩
  rw [hfE] at hf ⊢
  dsimp only at hf
  simp only [blkE,blkP,bhq,Nat.reduceMod,Nat.reduceDiv,stepH,stepM,toMs1,toMs,toMs0,strK,pubK,pubF,pubV,yaq,yar,yao,yap,go_sem,byq,List.set_cons_succ,List.set_cons_zero,schAV,schC,p_zEnc,pEnc]
  refine weak_slot 71 (schAV (limG k)) (wG _) ?_
  simp only [blkE,blkP,bhq,Nat.reduceMod,Nat.reduceDiv,stepH,stepM,toMs1,toMs,toMs0,strK,pubK,pubF,pubV,yaq,yar,yao,yap,go_sem,byq,List.set_cons_succ,List.set_cons_zero,schAV,schC,p_zEnc,pEnc]
  refine ⟨_,⟨rfl,hGs.ok,hGs.len⟩,?_⟩
  obtain ⟨⟨gb,ge⟩,hgE⟩:∃ R,encO (limG k)=R:=⟨_,rfl⟩
  rw [hgE] at hg ⊢
  dsimp only at hg
  simp only [blkE,blkP,bhq,Nat.reduceMod,Nat.reduceDiv,stepH,stepM,toMs1,toMs,toMs0,strK,pubK,pubF,pubV,yaq,yar,yao,yap,go_sem,byq,List.set_cons_succ,List.set_cons_zero,schAV,schC,p_zEnc,pEnc]
  refine ⟨ST,⟨rfl,hT.ok,hT.len⟩,?_⟩
  obtain ⟨⟨tb,te⟩,htE⟩:∃ R,encO ST=R:=⟨_,rfl⟩
  rw [htE] at ht ⊢
  dsimp only at ht
  subst hf
  subst hg
  subst ht
  have hc2:((c:Int)==2)=decide (c=2):=by rw [Bool.eq_iff_iff];simp;omega
  obtain ⟨NN,hNN⟩:∃ NN:Nat,7998+d % 5=(NN:Int):=⟨(7998+d % 5).toNat,by have:=Int.emod_nonneg d (show (5:Int)≠0 by decide);omega⟩
  have hNb:7998≤NN∧NN≤8002:=by omega
  have hwN:IntKind.i64.wrap (7998+d % 5)=NN:=by rw [hNN,wrap_i64]<;>omega
  have hdz:=dec_zeros (n:=NN) (by omega)
  have hfin:(((if 8000<NN then (3:Int) else 2)==3)==decide ((NN:Int) > 8000))=true:=by
    by_cases h8:8000<NN
    · have d8:decide ((NN:Int) > 8000)=true:=decide_eq_true (by omega)
      rw [if_pos h8,d8];rfl
    · have d8:decide ((NN:Int) > 8000)=false:=decide_eq_false (by omega)
      rw [if_neg h8,d8];rfl
  rcases Classical.em (c=2) with hcd | hcd
  · have hcv:decide (c=2)=true:=decide_eq_true hcd
    have hl3:lim3 c=3:=by unfold lim3;rw [if_pos hcd]
    simp only [blkE,blkP,bhq,Nat.reduceMod,Nat.reduceDiv,stepH,stepM,toMs1,toMs,toMs0,strK,pubK,pubF,pubV,yaq,yar,yao,yap,go_sem,byq,List.set_cons_succ,List.set_cons_zero,hc2,hcv,hl3,p_ZMod,hwN,Int.toNat_natCast]
    refine ⟨⟨by omega,by omega,by decide,by decide⟩,⟨by omega,by omega,by omega⟩,?_⟩
    refine weak_here [(14,.int .i64 3),(16,.int .i64 3),(18,.int .i64 3),(19,.int .i64 3),(20,.slice .any 1 (bys (List.replicate NN 0)))] H ?_ ?_
    · refine ⟨Nat.le_refl _,by repeat (first | exact AHeap.Le.refl _ | refine AHeap.Le.push ?_ _),hcl,?_,?_⟩
      · simp [ltF,zmz,zmm]
      · simp [subW,wk2,wk1,wkM,Fr.get]
        simp only [go_sem]
        refine ⟨?_,zmp (by omega)⟩
        rw [zml (by rw [List.length_replicate];exact Nat.le_refl _),ybc (by rw [List.length_replicate];exact Nat.le_refl _)]
    simp only [blkE,blkP,bhq,Nat.reduceMod,Nat.reduceDiv,stepH,stepM,toMs1,toMs,toMs0,strK,pubK,pubF,pubV,yaq,yar,yao,yap,go_sem,byq,List.set_cons_succ,List.set_cons_zero,p_zDec,pDec]
    refine ⟨List.replicate NN 0,⟨rfl,by rw [List.length_replicate];omega⟩,?_⟩
    obtain ⟨⟨D,De⟩,hDD⟩:∃ D,decF (List.replicate NN 0)=D:=⟨_,rfl⟩
    rw [hDD] at hdz ⊢
    dsimp only at hdz
    subst hdz
    simp only [blkE,blkP,bhq,Nat.reduceMod,Nat.reduceDiv,stepH,stepM,toMs1,toMs,toMs0,strK,pubK,pubF,pubV,yaq,yar,yao,yap,go_sem,byq,List.set_cons_succ,List.set_cons_zero,schAV,schC,zle,List.length_replicate,p_begun03,beq_self_eq_true,hfin,Bool.bne_false]
    first
      | exact ⟨by simp [wk,wk2,wk1],by repeat (first | exact AHeap.Le.refl _ | refine AHeap.Le.push ?_ _),hcl,by rw [zna];trivial⟩
      | exact ⟨rfl,by repeat (first | exact AHeap.Le.refl _ | refine AHeap.Le.push ?_ _),hcl,by rw [zna];trivial⟩
  · have hcv:decide (c=2)=false:=decide_eq_false hcd
    have hl3:lim3 c=0:=by unfold lim3;rw [if_neg hcd]
    simp only [blkE,blkP,bhq,Nat.reduceMod,Nat.reduceDiv,stepH,stepM,toMs1,toMs,toMs0,strK,pubK,pubF,pubV,yaq,yar,yao,yap,go_sem,byq,List.set_cons_succ,List.set_cons_zero,hc2,hcv,hl3,p_ZMod,hwN,Int.toNat_natCast]
    refine ⟨⟨by omega,by omega,by decide,by decide⟩,⟨by omega,by omega,by omega⟩,?_⟩
    refine weak_here [(14,.int .i64 0),(16,.int .i64 0),(18,.int .i64 0),(19,.int .i64 0),(20,.slice .any 1 (bys (List.replicate NN 0)))] H ?_ ?_
    · refine ⟨Nat.le_refl _,by repeat (first | exact AHeap.Le.refl _ | refine AHeap.Le.push ?_ _),hcl,?_,?_⟩
      · simp [ltF,zmz,zmm]
      · simp [subW,wk2,wk1,wkM,Fr.get]
        simp only [go_sem]
        refine ⟨?_,zmp (by omega)⟩
        rw [zml (by rw [List.length_replicate];exact Nat.le_refl _),ybc (by rw [List.length_replicate];exact Nat.le_refl _)]
    simp only [blkE,blkP,bhq,Nat.reduceMod,Nat.reduceDiv,stepH,stepM,toMs1,toMs,toMs0,strK,pubK,pubF,pubV,yaq,yar,yao,yap,go_sem,byq,List.set_cons_succ,List.set_cons_zero,p_zDec,pDec]
    refine ⟨List.replicate NN 0,⟨rfl,by rw [List.length_replicate];omega⟩,?_⟩
    obtain ⟨⟨D,De⟩,hDD⟩:∃ D,decF (List.replicate NN 0)=D:=⟨_,rfl⟩
    rw [hDD] at hdz ⊢
    dsimp only at hdz
    subst hdz
    simp only [blkE,blkP,bhq,Nat.reduceMod,Nat.reduceDiv,stepH,stepM,toMs1,toMs,toMs0,strK,pubK,pubF,pubV,yaq,yar,yao,yap,go_sem,byq,List.set_cons_succ,List.set_cons_zero,schAV,schC,zle,List.length_replicate,p_begun03,beq_self_eq_true,hfin,Bool.bne_false]
    first
      | exact ⟨by simp [wk,wk2,wk1],by repeat (first | exact AHeap.Le.refl _ | refine AHeap.Le.push ?_ _),hcl,by rw [zna];trivial⟩
      | exact ⟨rfl,by repeat (first | exact AHeap.Le.refl _ | refine AHeap.Le.push ?_ _),hcl,by rw [zna];trivial⟩
end Go.AL

