/- Contracts and plain laws, a part of the proof; no condition of its own. -/
import Derived.Test.YthpglnacipgolaaGreatS10z
import Derived.Test.YthpglnacipgolaaGreatLGen
import Derived.Test.YthpglnacipgolaaGreatLRdS
open Go Go.AL Go.Proofs
namespace Go.AL
set_option linter.all false
set_option maxRecDepth 10000
theorem ti_tint:ti Tryz.prog 3=some ⟨.int .i64,1,8,.int .i64 0⟩:=by kernel_rfl
theorem ti_sfield:ti Tryz.prog 76=some ⟨.struct [(0,3,false),(1,9,false),(2,3,false)],3,32,.agg [.int .i64 0,.str [],.int .i64 0]⟩:=by kernel_rfl
theorem ti_sheader:ti Tryz.prog 114=some ⟨.struct [(0,3,false),(1,9,false),(2,46,false)],3,48,.agg [.int .i64 0,.str [],.slice .nil 1 []]⟩:=by kernel_rfl
theorem ti_scase:ti Tryz.prog 306=some ⟨.struct [(0,83,false),(2,83,false),(4,3,false)],5,40,.agg [.int .u64 0,.int .u64 0,.int .u64 0,.int .u64 0,.int .i64 0]⟩:=by kernel_rfl
theorem ti_sstate:ti Tryz.prog 149=some ⟨.struct [(0,3,false),(1,3,false),(2,3,false),(3,147,false),(4,3,false)],5,56,.agg [.int .i64 0,.int .i64 0,.int .i64 0,.slice .nil 1 [],.int .i64 0]⟩:=by kernel_rfl
theorem ti_sprim:ti Tryz.prog 129=some ⟨.struct [(0,3,false),(1,3,false),(2,127,false)],6,48,.agg [.int .i64 0,.int .i64 0,.int .i64 0,.int .i64 0,.int .u64 0,.int .u64 0]⟩:=by kernel_rfl
theorem ti_soperand:ti Tryz.prog 127=some ⟨.struct [(0,3,false),(1,3,false),(2,83,false)],4,32,.agg [.int .i64 0,.int .i64 0,.int .u64 0,.int .u64 0]⟩:=by kernel_rfl
theorem ti_sparam:ti Tryz.prog 122=some ⟨.struct [(0,9,false),(1,3,false)],2,24,.agg [.str [],.int .i64 0]⟩:=by kernel_rfl
theorem ti_saction:ti Tryz.prog 53=some ⟨.struct [(0,3,false),(1,9,false),(2,50,false),(3,51,false),(4,9,false)],5,88,.agg [.int .i64 0,.str [],.slice .nil 1 [],.slice .nil 1 [],.str []]⟩:=by kernel_rfl
theorem ti_skey:ti Tryz.prog 308=some ⟨.struct [(0,9,false),(1,3,false),(2,3,false)],3,32,.agg [.str [],.int .i64 0,.int .i64 0]⟩:=by kernel_rfl
theorem ti_stable:ti Tryz.prog 49=some ⟨.struct [(0,3,false),(1,9,false),(2,45,false),(3,46,false),(4,3,false),(5,47,false),(6,3,false),(7,9,false)],8,128,.agg [.int .i64 0,.str [],.slice .nil 1 [],.slice .nil 1 [],.int .i64 0,.slice .nil 1 [],.int .i64 0,.str []]⟩:=by kernel_rfl
theorem ti_sstage:ti Tryz.prog 78=some ⟨.struct [(0,3,false),(1,3,false)],2,16,.agg [.int .i64 0,.int .i64 0]⟩:=by kernel_rfl
theorem ti_sgrant:ti Tryz.prog 241=some ⟨.struct [(0,3,false),(1,4,false),(2,4,false),(3,239,false)],4,40,.agg [.int .i64 0,.bool false,.bool false,.slice .nil 1 []]⟩:=by kernel_rfl
theorem ti_srole:ti Tryz.prog 125=some ⟨.struct [(0,3,false),(1,9,false),(2,123,false),(3,46,false),(4,3,false),(5,4,false)],6,88,.agg [.int .i64 0,.str [],.slice .nil 1 [],.slice .nil 1 [],.int .i64 0,.bool false]⟩:=by kernel_rfl
theorem ti_sref:ti Tryz.prog 120=some ⟨.struct [(0,3,false),(1,3,false),(2,3,false),(3,3,false),(4,3,false),(5,3,false)],6,48,.agg [.int .i64 0,.int .i64 0,.int .i64 0,.int .i64 0,.int .i64 0,.int .i64 0]⟩:=by kernel_rfl
theorem ti_sschema:ti Tryz.prog 31=some ⟨.struct [(0,22,false),(1,23,false),(2,24,false),(3,25,false),(4,26,false),(5,27,false),(6,28,false),(7,29,false),(8,3,false),(9,3,false)],10,208,.agg [.slice .nil 1 [],.slice .nil 1 [],.slice .nil 1 [],.slice .nil 1 [],.slice .nil 1 [],.slice .nil 1 [],.slice .nil 1 [],.slice .nil 1 [],.int .i64 0,.int .i64 0]⟩:=by kernel_rfl
theorem ti_smatch:ti Tryz.prog 367=some ⟨.struct [(0,4,false),(1,83,false),(3,83,false),(5,3,false),(6,83,false)],8,64,.agg [.bool false,.int .u64 0,.int .u64 0,.int .u64 0,.int .u64 0,.int .i64 0,.int .u64 0,.int .u64 0]⟩:=by kernel_rfl
theorem ti_sentry:ti Tryz.prog 199=some ⟨.struct [(0,3,false),(1,197,false),(2,3,false),(3,3,false),(4,47,false)],5,72,.agg [.int .i64 0,.slice .nil 1 [],.int .i64 0,.int .i64 0,.slice .nil 1 []]⟩:=by kernel_rfl
theorem ti_lfield:ti Tryz.prog 22=some ⟨.slice 76,1,24,.slice .nil 1 []⟩:=by kernel_rfl
theorem ti_lheader:ti Tryz.prog 23=some ⟨.slice 114,1,24,.slice .nil 1 []⟩:=by kernel_rfl
theorem ti_lcase:ti Tryz.prog 147=some ⟨.slice 306,1,24,.slice .nil 1 []⟩:=by kernel_rfl
theorem ti_lstate:ti Tryz.prog 24=some ⟨.slice 149,1,24,.slice .nil 1 []⟩:=by kernel_rfl
theorem ti_lprim:ti Tryz.prog 51=some ⟨.slice 129,1,24,.slice .nil 1 []⟩:=by kernel_rfl
theorem ti_lparam:ti Tryz.prog 50=some ⟨.slice 122,1,24,.slice .nil 1 []⟩:=by kernel_rfl
theorem ti_laction:ti Tryz.prog 25=some ⟨.slice 53,1,24,.slice .nil 1 []⟩:=by kernel_rfl
theorem ti_lkey:ti Tryz.prog 45=some ⟨.slice 308,1,24,.slice .nil 1 []⟩:=by kernel_rfl
theorem ti_ltable:ti Tryz.prog 26=some ⟨.slice 49,1,24,.slice .nil 1 []⟩:=by kernel_rfl
theorem ti_lstage:ti Tryz.prog 27=some ⟨.slice 78,1,24,.slice .nil 1 []⟩:=by kernel_rfl
theorem ti_lgrant:ti Tryz.prog 123=some ⟨.slice 241,1,24,.slice .nil 1 []⟩:=by kernel_rfl
theorem ti_lrole:ti Tryz.prog 28=some ⟨.slice 125,1,24,.slice .nil 1 []⟩:=by kernel_rfl
theorem ti_lref:ti Tryz.prog 29=some ⟨.slice 120,1,24,.slice .nil 1 []⟩:=by kernel_rfl
theorem ti_lmatch:ti Tryz.prog 197=some ⟨.slice 367,1,24,.slice .nil 1 []⟩:=by kernel_rfl
theorem ti_lentry:ti Tryz.prog 55=some ⟨.slice 199,1,24,.slice .nil 1 []⟩:=by kernel_rfl
theorem ti_lval:ti Tryz.prog 47=some ⟨.slice 83,1,24,.slice .nil 1 []⟩:=by kernel_rfl
theorem ti_lint:ti Tryz.prog 46=some ⟨.slice 3,1,24,.slice .nil 1 []⟩:=by kernel_rfl
theorem ti_lbool:ti Tryz.prog 239=some ⟨.slice 4,1,24,.slice .nil 1 []⟩:=by kernel_rfl
attribute [go_sem] ti_tint ti_sfield ti_sheader ti_scase ti_sstate ti_sprim ti_soperand ti_sparam ti_saction ti_skey ti_stable ti_sstage ti_sgrant ti_srole ti_sref ti_sschema ti_smatch ti_sentry ti_lfield ti_lheader ti_lcase ti_lstate ti_lprim ti_lparam ti_laction ti_lkey ti_ltable ti_lstage ti_lgrant ti_lrole ti_lref ti_lmatch ti_lentry ti_lval ti_lint ti_lbool
theorem lt_map {α:Type} {n sz:Nat} {f:α→AV} {l:List α} (h:∀ x,AV.lt n (f x)):AV.lt n (.slice .any sz (l.map f)):=lt_sliceZ fun x hx=>by
  obtain ⟨y,_,rfl⟩:=List.mem_map.1 hx
  exact h y
theorem ltL_vc {n v:Nat} {l:List AV}:ltL n (vc v++l)=ltL n l:=by simp [vc,zno,zmz]
theorem ltL_vc0 {n v:Nat}:ltL n (vc v)=True:=by simp [vc,zno,znp,zmz]
theorem lt_inL {n:Nat} {l:List Int}:AV.lt n (.slice .any 1 (inL l)):=lt_map fun x=>by simp only [zmz]
theorem lt_boL {n:Nat} {l:List Bool}:AV.lt n (.slice .any 1 (boL l)):=lt_map fun x=>by simp only [zna]
theorem lt_vvL {n:Nat} {l:List Nat}:AV.lt n (.slice .any 2 (l.map vv)):=lt_map fun x=>by simp only [vv,znl,zno,znp,zmz,and_true]
theorem lt_field {n:Nat} (x:SField):AV.lt n (fieldAV x):=by
  simp only [fieldAV,znl,zno,znp,zmz,znb,zna,ltL_vc,ltL_vc0,List.append_assoc,List.cons_append,List.nil_append,true_and,and_true]
theorem lt_header {n:Nat} (x:SHeader):AV.lt n (headerAV x):=by
  simp only [headerAV,znl,zno,znp,zmz,znb,zna,ltL_vc,ltL_vc0,List.append_assoc,List.cons_append,List.nil_append,true_and,and_true]
  exact lt_inL
theorem lt_case {n:Nat} (x:SCase):AV.lt n (caseAV x):=by
  simp only [caseAV,znl,zno,znp,zmz,znb,zna,ltL_vc,ltL_vc0,List.append_assoc,List.cons_append,List.nil_append,true_and,and_true]
theorem lt_state {n:Nat} (x:SState):AV.lt n (stateAV x):=by
  simp only [stateAV,znl,zno,znp,zmz,znb,zna,ltL_vc,ltL_vc0,List.append_assoc,List.cons_append,List.nil_append,true_and,and_true]
  exact lt_map lt_case
theorem lt_prim {n:Nat} (x:SPrim):AV.lt n (primAV x):=by
  simp only [primAV,znl,zno,znp,zmz,znb,zna,ltL_vc,ltL_vc0,List.append_assoc,List.cons_append,List.nil_append,true_and,and_true]
theorem lt_param {n:Nat} (x:SParam):AV.lt n (paramAV x):=by
  simp only [paramAV,znl,zno,znp,zmz,znb,zna,ltL_vc,ltL_vc0,List.append_assoc,List.cons_append,List.nil_append,true_and,and_true]
theorem lt_action {n:Nat} (x:SAction):AV.lt n (actionAV x):=by
  simp only [actionAV,znl,zno,znp,zmz,znb,zna,ltL_vc,ltL_vc0,List.append_assoc,List.cons_append,List.nil_append,true_and,and_true]
  exact ⟨lt_map lt_param,lt_map lt_prim⟩
theorem lt_key {n:Nat} (x:SKey):AV.lt n (keyAV x):=by
  simp only [keyAV,znl,zno,znp,zmz,znb,zna,ltL_vc,ltL_vc0,List.append_assoc,List.cons_append,List.nil_append,true_and,and_true]
theorem lt_table {n:Nat} (x:STable):AV.lt n (tableAV x):=by
  simp only [tableAV,znl,zno,znp,zmz,znb,zna,ltL_vc,ltL_vc0,List.append_assoc,List.cons_append,List.nil_append,true_and,and_true]
  exact ⟨lt_map lt_key,lt_inL,lt_vvL⟩
theorem lt_stage {n:Nat} (x:SStage):AV.lt n (stageAV x):=by
  simp only [stageAV,znl,zno,znp,zmz,znb,zna,ltL_vc,ltL_vc0,List.append_assoc,List.cons_append,List.nil_append,true_and,and_true]
theorem lt_grant {n:Nat} (x:SGrant):AV.lt n (grantAV x):=by
  simp only [grantAV,znl,zno,znp,zmz,znb,zna,ltL_vc,ltL_vc0,List.append_assoc,List.cons_append,List.nil_append,true_and,and_true]
  exact lt_boL
theorem lt_role {n:Nat} (x:SRole):AV.lt n (roleAV x):=by
  simp only [roleAV,znl,zno,znp,zmz,znb,zna,ltL_vc,ltL_vc0,List.append_assoc,List.cons_append,List.nil_append,true_and,and_true]
  exact ⟨lt_map lt_grant,lt_inL⟩
theorem lt_ref {n:Nat} (x:SRef):AV.lt n (refAV x):=by
  simp only [refAV,znl,zno,znp,zmz,znb,zna,ltL_vc,ltL_vc0,List.append_assoc,List.cons_append,List.nil_append,true_and,and_true]
theorem lt_sch {n:Nat} (x:Sch):AV.lt n (schAV x):=by
  simp only [schAV,schC,znl,zno,znp,zmz,true_and,and_true]
  exact ⟨lt_map lt_field,lt_map lt_header,lt_map lt_state,lt_map lt_action,lt_map lt_table,lt_map lt_stage,lt_map lt_role,lt_map lt_ref⟩
end Go.AL


open Go Go.AL Go.Proofs
namespace Go.AL
set_option linter.all false
set_option maxRecDepth 10000
theorem ti_lstring:ti Tryz.prog 273=some ⟨.slice 9,1,24,.slice .nil 1 []⟩:=by kernel_rfl
theorem ti_llstring:ti Tryz.prog 309=some ⟨.slice 273,1,24,.slice .nil 1 []⟩:=by kernel_rfl
attribute [go_sem] ti_lstring ti_llstring
/-- nothing but one object was changed -/
structure But (id:Nat) (H Hc:AHeap):Prop where
  nx:H.nx≤Hc.nx
  get:∀ j x,j≠id→H.get j=some x→Hc.get j=some x
theorem But.push {id:Nat} {H Hc:AHeap} (h:But id H Hc) (o:AObj):But id H (Hc.push o):=⟨by rw [zky];exact Nat.le_succ_of_le h.nx,fun j x hj hx=>by
  have:=h.get j x hj hx
  rw [AHeap.get_push_lt _ _ (AHeap.get_lt this)];exact this⟩
theorem But.set {id i:Nat} {H Hc:AHeap} (h:But id H Hc) (o:AObj) (hi:i=id∨H.nx≤i):But id H (Hc.set i o):=⟨by rw [zkz];exact h.nx,fun j x hj hx=>by
  have hlt:=AHeap.get_lt hx
  rw [AHeap.get_set_ne _ _ (by rcases hi with rfl | hi<;>omega)]
  exact h.get j x hj hx⟩
theorem But.del {id i:Nat} {H Hc:AHeap} (h:But id H Hc) (hi:H.nx≤i):But id H (Hc.del i):=⟨by rw [heap_nx_del];exact h.nx,fun j x hj hx=>by
  have hlt:=AHeap.get_lt hx
  rw [heap_get_del,if_neg (by omega)]
  exact h.get j x hj hx⟩
theorem But.le {id:Nat} {H Hc:AHeap} {o:AObj} (h:But id H Hc) (hg:Hc.get id=some o):(H.set id o).Le Hc:=le_updZ h.get hg h.nx
end Go.AL


open Go Go.AL Go.Proofs
namespace Go.AL
set_option linter.all false
set_option maxRecDepth 10000

end Go.AL

