/- Contracts and plain laws, a part of the proof; no condition of its own. -/
import Derived.Test.YtepgdamgklfnmaaGreatM19j
import Derived.Test.YtepgdamgklfnmaaGreatAlDefer
open Go Go.AL Go.Proofs
namespace Go.AL
set_option linter.all false
set_option maxRecDepth 10000
theorem ti_unex:ti Tryz.prog 189=some ⟨.struct [],0,0,.agg []⟩:=by kernel_rfl
theorem ti_any:ti Tryz.prog 20=some ⟨.iface 0,1,16,.nili⟩:=by kernel_rfl
attribute [go_sem] ti_unex ti_any
def panicK (v:AV) (Kp:AV→AHeap→Prop) (H:AHeap):Prop:=match v with
  | .iface t v=>Kp (.iface t v) H
  | _=>False
@[congr] theorem panicK_congr {v v':AV} {Kp:AV→AHeap→Prop} {H:AHeap} (h:v=v'):panicK v Kp H=panicK v' Kp H:=by rw [h]
theorem panicK_iface {t:TypeId} {v:AV} {Kp:AV→AHeap→Prop} {H:AHeap}:panicK (.iface t v) Kp H=Kp (.iface t v) H:=rfl
theorem ao_panic {P:Program} {Ω:Tbl} {ops:Array Oper} {rest:List Oper} {K:Fr→AHeap→Prop} {Kp:Fr→AV→AHeap→Prop} {fr:Fr} {H:AHeap} {d:Option Tmp} {x:Operand} {t:TypeId} {pos:String} {aft:Array Edge} :
    awOps P Ω ops (Oper.mk d (.panic x) t pos aft none::rest) K Kp fr H=panicK (ev fr x) (Kp fr) H:=(rfl)
theorem dEnd_n {n0:Nat} {H2 H:AHeap} {T:Nat→List (List Nat)} {fr:Fr}:(dEnd n0 H2 T).n fr H=(H2.Le H∧H2.Closed∧n0≤H2.nx):=rfl
theorem dEnd_r {n0:Nat} {H2 H:AHeap} {T:Nat→List (List Nat)} {fr:Fr}:(dEnd n0 H2 T).r fr H=(H2.Le H∧H2.Closed∧n0≤H2.nx):=rfl
theorem dEnd_T {n0:Nat} {H2:AHeap} {T:Nat→List (List Nat)}:(dEnd n0 H2 T).T=T:=rfl
section
variable {P:Program} {Ω:Tbl} {C:Code} {rs:List ResultVar} {H1 H:AHeap} {x v:AV} {g:FuncId} {d n0:Nat} {caps:List AV} {cs:List Nat} {T:Nat→List (List Nat)} {fr:Fr}
theorem contD_n:(contD P rs H1 x g caps n0 T).n fr H=finD P rs H1 x g caps none fr H:=rfl
theorem contD_r:(contD P rs H1 x g caps n0 T).r fr H=finD P rs H1 x g caps none fr H:=rfl
theorem contD_p:(contD P rs H1 x g caps n0 T).p fr v H=finD P rs H1 x g caps (some v) fr H:=rfl
theorem contD_T:(contD P rs H1 x g caps n0 T).T=T:=rfl
theorem contA_T:(contA P Ω C rs H1 x g d cs n0 T).T=T:=rfl
theorem contA_n:(contA P Ω C rs H1 x g d cs n0 T).n fr H=aw P Ω C (KI P Ω (contD P rs H1 x g (cs.map (Fr.get fr)) H.nx T) []) ((d,.func (.func g) [] (cs.map (Fr.get fr)))::fr) H:=rfl
end
/-- a kind that is not permitted -/
def badKd (q:Int × RS) (most:Int):Bool:=decide (q.2.2.2=0)&&(decide (q.1<1)||decide (q.1 > most))
def e_mKind:List AV→AHeap→(AEnd→AHeap→Prop)→Prop
  | [.ptr id 0,.int .i64 most],H,K=>onR H id fun m l e=>True∧K (if badKd (uintR (m,l,e) 1) most then .panic (.iface 189 (.agg [])) else .ret (.int .i64 (uintR (m,l,e) 1).1)) (H.set id (.cells (cellR (uintR (m,l,e) 1).2)))
  | _,_,_=>False
set_option maxHeartbeats 4000000 in
theorem ok_mKind:EntOk Tryz.prog 117 (Ent.effect e_mKind):=by
  refine EntOk.effect fun args H K h=>?_
  unfold e_mKind at h
  split at h
  rotate_left
  · exact h.elim
  rename_i id most
  obtain ⟨m,l,e,hid,hle,h⟩:=onR_out h
  obtain ⟨hpre,hK⟩:=h
  refine ⟨_,_,hK,?_⟩
  clear hK
  have hl0:=AHeap.get_lt hid
  have hne:=far_of hl0
  have hss:=set_same hid
  have hcs:=cells_some hid
  have hcm:=fun cs=>@cells_set_same H id cs hl0
  have hgm:=fun o=>@get_set_same' H id o hl0
  obtain ⟨Q,hQ⟩:∃ Q,uintR (m,l,e) 1=Q:=⟨_,rfl⟩
  have hQl:=uintR_l m l e 1
  have hQm:=uintR_m m l e 1
  rw [hQ] at hQl hQm ⊢
  obtain ⟨n,m1,l1,e1⟩:=Q
  refine ACalls.of_aw (Ω:=[(76,Ent.effect e_Uint),(118,Ent.pure p_RErr)]) (T:=assoc []) mixed (TblOk.cons ok_Uint (TblOk.cons ok_RErr TblOk.nil)) Tryz.func117 (by kernel_rfl) (by rfl) (rs:=[.tmp 4]) (by rfl) (by kernel_rfl) (by simp only [Tryz.ntmps117,List.length_cons,List.length_nil];decide) (by simp only [zkn];omega) fun hcl hlt=>?_
  change aw _ _ _ (KI Tryz.prog [(76,Ent.effect e_Uint),(118,Ent.pure p_RErr)] (aEnd Tryz.prog [.tmp 4] H.nx _ _ (assoc [])) []) _ _
  clear hlt
  have hcl1:=fun l' e'=>closedR hid hcl m (.inl rfl) l' e'
  have hcl2:=fun l' e'=>closedR hid hcl .any (.inr rfl) l' e'
  dsimp only at hQl hQm
  simp only [go_sem,byq,hne,hid,hcs,hgm,hcm,e_Uint,p_RErr,onR,onRo_some,hQ,cellR]
  have hcl3:(H.set id (.cells [.slice m1 1 (bys l1),.int .i64 e1])).Closed:=by
    rcases hQm with rfl | rfl
    · exact hcl1 _ _
    · exact hcl2 _ _
  refine ⟨by omega,by omega,both_split (fun h1=>both_split (fun h2=>?_) (fun h2=>cond_split (fun h3=>?_) (fun h3=>?_))) (fun h1=>?_)⟩
  · have hb:badKd (n,m1,l1,e1) most=true:=by
      have a1:e1=0:=by simpa using h1
      have a2:n<1:=by simpa using h2
      simp [badKd,a1,a2]
    rw [hb,if_pos rfl]
    simp only [go_sem,byq,↓ao_panic,panicK_iface]
    simp (disch:=first | assumption | omega | (simp;done) | (simp;omega) | (simp only [bt,and_true];first | done | omega | (simp;done))) [↓zlw,beq,List.take_of_length_le,List.drop_append,List.take_append,endOk,wk,wk2,wk1,wkM,wkL,wkLL,List.drop_eq_nil_of_le,hcl3]
  · have hb:badKd (n,m1,l1,e1) most=true:=by
      have a1:e1=0:=by simpa using h1
      have a2:n > most:=by simpa using h3
      simp [badKd,a1,a2]
    rw [hb,if_pos rfl]
    simp only [go_sem,byq,↓ao_panic,panicK_iface]
    simp (disch:=first | assumption | omega | (simp;done) | (simp;omega) | (simp only [bt,and_true];first | done | omega | (simp;done))) [↓zlw,beq,List.take_of_length_le,List.drop_append,List.take_append,endOk,wk,wk2,wk1,wkM,wkL,wkLL,List.drop_eq_nil_of_le,hcl3]
  · have hb:badKd (n,m1,l1,e1) most=false:=by
      have a2:¬ n<1:=of_decide_eq_false h2
      have a3:¬ n > most:=of_decide_eq_false h3
      simp [badKd,a2,a3]
    rw [hb,if_neg (by decide)]
    simp only [go_sem,byq]
    simp (disch:=first | assumption | omega | (simp;done) | (simp;omega) | (simp only [bt,and_true];first | done | omega | (simp;done))) [↓zlw,beq,List.take_of_length_le,List.drop_append,List.take_append,endOk,wk,wk2,wk1,wkM,wkL,wkLL,List.drop_eq_nil_of_le,hcl3]
  · have hb:badKd (n,m1,l1,e1) most=false:=by
      have a1:¬ e1=0:=by simpa using h1
      simp [badKd,a1]
    rw [hb,if_neg (by decide)]
    simp only [go_sem,byq]
    simp (disch:=first | assumption | omega | (simp;done) | (simp;omega) | (simp only [bt,and_true];first | done | omega | (simp;done))) [↓zlw,beq,List.take_of_length_le,List.drop_append,List.take_append,endOk,wk,wk2,wk1,wkM,wkL,wkLL,List.drop_eq_nil_of_le,hcl3]
end Go.AL


open Go Go.AL Go.Proofs
namespace Go.AL
set_option linter.all false
set_option maxRecDepth 10000

def zq:List AV:=[.int .i64 0,.int .i64 0,.int .u64 0,.int .u64 0,.slice .nil 1 [],.int .i64 0,.int .i64 0,.int .i64 0,.int .i64 0,.slice .nil 1 []]
theorem cells_set_farQ {H:AHeap} {i j:Nat} (h:j≠i) (o:AObj):cellsOf? (H.set i o) j=cellsOf? H j:=by
  unfold cellsOf?
  rw [AHeap.get_set_ne _ _ h]
theorem le_set_geQ {H X:AHeap} {i:Nat} {o:AObj} (h:H.Le X) (hi:H.nx≤i):H.Le (X.set i o):=⟨h.nx,fun j x hj=>by
  have:=AHeap.get_lt hj
  rw [AHeap.get_set_ne _ _ (by omega)]
  exact h.get _ _ hj⟩
theorem readReqC_some {H:AHeap} {a b:Nat} {y:AV} (ha:H.get a=some (.cells zq)) (hb:H.get b=some (.cells [y])) (hab:a≠b) :
    ADefer Tryz.prog 116 [.ptr a 0,.ptr b 0] H (some (.iface 189 (.agg []))) ((H.set a (.cells zq)).set b (.cells [.int .i64 2])):=by
  refine ADefer.of_aw mixed (Ω:=[]) TblOk.nil (a:=5) (b:=2) Tryz.func116 (by rfl) (by rfl) (T:=assoc []) (by kernel_rfl) (by decide) (by decide) (by simp only [Tryz.ntmps116,List.length_cons,List.length_nil];decide) fun hcl _=>?_
  have la:=AHeap.get_lt ha
  have lb:=AHeap.get_lt hb
  have h1:=cells_some ha
  unfold zq at h1
  have h2:∀ o,cellsOf? (H.set a o) b=some [y]:=fun o=>(cells_set_farQ (fun e=>hab e.symm) o).trans (cells_some hb)
  have n1:=ne_nx la
  have n2:=ne_nx lb
  change aw _ _ _ (KI Tryz.prog [] (dEnd H.nx _) []) _ _
  simp only [Option.getD_some,go_sem,dEnd_n,dEnd_r,dEnd_T,rAssert,h1,h2,n1,n2,zq]
  exact ⟨(AHeap.Le.refl _).push _,closed_set (closed_set hcl (by simp [znc,znd,zmn,lt_sliceL])) (by simp [znc,znd,zmn]),Nat.le_refl _⟩
theorem readReq_panic {H H1 X:AHeap} {y:AV} {fr:Fr} (hcl:H1.Closed) (hle:H1.Le X) (hn:H1.nx≤H.nx) (h0:X.get H.nx=some (.cells zq)) (h1:X.get (H.nx+1)=some (.cells [y]))
    (f2:Fr.get fr 2=.ptr H.nx 0) (f3:Fr.get fr 3=.ptr (H.nx+1) 0) :
    finD Tryz.prog [.cell 2 28,.cell 3 47] H1 (.tup [reqAV zReq,.int .i64 2]) 116 [.ptr H.nx 0,.ptr (H.nx+1) 0] (some (.iface 189 (.agg []))) fr X:=by
  refine ⟨_,readReqC_some (y:=y) h0 h1 (by omega),?_⟩
  have l0:=AHeap.get_lt h0
  have l1:=AHeap.get_lt h1
  have c2:cellsOf? ((X.set H.nx (.cells zq)).set (H.nx+1) (.cells [.int .i64 2])) (H.nx+1)=some [.int .i64 2]:=by
    rw [cells_set (show H.nx+1<(X.set H.nx (.cells zq)).nx from l1),if_pos rfl]
  have c1:cellsOf? ((X.set H.nx (.cells zq)).set (H.nx+1) (.cells [.int .i64 2])) H.nx=some zq:=by
    rw [cells_set_farQ (by omega),cells_set l0,if_pos rfl]
  have hl3:=le_set_geQ (le_set_geQ hle hn (o:=.cells zq)) (show H1.nx≤H.nx+1 by omega) (o:=.cells [.int .i64 2])
  have z1:(10≤zq.length)=True:=eq_true (by decide)
  have z2:zq.take 10=zq:=rfl
  simp only [resL,resA,f2,f3,zio,go_sem,c1,c2,zip,TD.agg,Option.map_some,List.getD_cons_zero,one,z1,z2,List.drop_zero]
  refine ⟨?_,hl3,hcl,?_⟩
  · simp [wk,wkLL,wk2,wkL,wk1,wkM,reqAV,reqC,zReq,zkt,zq]
  · rw [zna]
    exact ⟨lt_req _,by rw [zmn];trivial,trivial⟩
end Go.AL


open Go Go.AL Go.Proofs
namespace Go.AL
set_option linter.all false
set_option maxRecDepth 10000

end Go.AL

