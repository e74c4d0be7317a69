/- Contracts and plain laws, a part of the proof; no condition of its own. -/
import Derived.Test.YthpglnacipgolaaGreatW03l
open List renaming length_cons → yaz, length_nil → yba, take_succ_cons → yaq, take_zero → yar, drop_succ_cons → yao, drop_zero → yap, take_of_length_le → ybc, drop_append → ybd, take_append → ybe, drop_eq_nil_of_le → ybf, length_map → ybb, map_cons → yae, cons_append → yal, nil_append → yak, append_nil → yaj
open Go Go.AL Go.Proofs
namespace Go.AL
set_option linter.all false
set_option maxRecDepth 10000
theorem ti_u8s:ti Tryz.prog 32=some ⟨.slice 5,1,24,.slice .nil 1 []⟩:=by kernel_rfl
attribute [go_sem] ti_u8s
def begS:Sch:=⟨[],[],[],[],[],[],[],[],1,2⟩
theorem begS_enc:encO begS=([0,1,0,2,0,0,0,0,0,0,0,0,0,0,0,0,0,0,0,0],0):=by decide +kernel
theorem begS_len:(eSch begS).b.length≤encMax:=by decide +kernel
theorem begS_ok:OkSch begS:=⟨by simp [begS],by simp [begS],by simp [begS],by simp [begS],by simp [begS],by simp [begS]⟩
def p_begun03:List AV→AHeap→(AV→Prop)→Prop
  | [],_,K=>K (.bool true)
  | _,_,_=>False
set_option maxHeartbeats 2000000 in
theorem ok_begun03:EntOk Tryz.prog 13 (Ent.pure p_begun03):=by
  refine EntOk.pure fun args H K h=>?_
  unfold p_begun03 at h
  split at h
  rotate_left
  · exact h.elim
  refine ⟨_,h,?_⟩
  clear h
  refine ACalls.of_aw (Ω:=[(17,Ent.pure p_zEnc)]) (T:=assoc [(802,[[100005]]),(1,[[4]])]) mixed (TblOk.cons ok_zEnc TblOk.nil) Tryz.func13 (by kernel_rfl) (by rfl) (rs:=[.tmp 0]) (by rfl) (by kernel_rfl) (by simp only [Tryz.ntmps13,yaz,yba];decide) (Nat.le_refl _) fun hcl hlt=>?_
  change aw _ _ _ (KI Tryz.prog [(17,Ent.pure p_zEnc)] (aEnd Tryz.prog [.tmp 0] H.nx _ _ (assoc [(802,[[100005]]),(1,[[4]])])) []) _ _
  clear hlt
  simp only [bhq,Nat.reduceMod,Nat.reduceDiv,stepH,stepM,toMs1,toMs,toMs0,strK,pubK,pubF,pubV,yaq,yar,yao,yap,go_sem,byq]
  refine weak_slot 4 (.agg (schC begS)) ?_ ?_
  · simp [Fr.get,schC,begS,wkD_agg,wkD_slice,wkDL_cons,wkDL_nil,wkDR_cons,wkDR_nil,wkD_int,wkM]
  simp only [bhq,Nat.reduceMod,Nat.reduceDiv,stepH,stepM,toMs1,toMs,toMs0,strK,pubK,pubF,pubV,yaq,yar,yao,yap,go_sem,byq,p_zEnc,pEnc]
  refine ⟨begS,⟨rfl,begS_ok,begS_len⟩,?_⟩
  rw [begS_enc]
  simp only [go_sem,byq,Int.reduceBEq]
  rw [show rowsOf 1 16 (bys (List.replicate 16 0))=bys (List.replicate 16 0) from rfl]
  refine ⟨by decide,fun y hy=>?_,by decide,?_⟩
  · obtain ⟨c,_,rfl⟩:=List.mem_map.1 (show y∈(List.replicate 16 (0:UInt8)).map ofByte from hy)
    exact ⟨_,rfl⟩
  · refine ⟨?_,by repeat (first | exact AHeap.Le.refl _ | refine AHeap.Le.push ?_ _),hcl,?_⟩
    · simp only [wk,wk2,wk1];rfl
    · simp [zna]
def p_headOf:List AV→AHeap→(AV→Prop)→Prop
  | [.int .i64 w,.int .i64 n],_,K=>(-9223372036854775808≤w∧w≤9223372036854775807∧n≤4000000000000000000)∧K (.int .i64 (w.tdiv 16 % max n 1))
  | _,_,_=>False
theorem tdiv_le16 {a:Int} (h1 : -9223372036854775808≤a) (h2:a≤9223372036854775807) : -9223372036854775808≤a.tdiv 16∧a.tdiv 16≤9223372036854775807:=by
  rcases Int.le_total 0 a with h | h
  · rw [Int.tdiv_eq_ediv_of_nonneg h];omega
  · obtain ⟨n,rfl⟩:∃ n,a = -n:=⟨-a,by omega⟩
    rw [Int.neg_tdiv,Int.tdiv_eq_ediv_of_nonneg (by omega)];omega
theorem tdiv_wrap16 {a:Int} (h1 : -9223372036854775808≤a) (h2:a≤9223372036854775807):IntKind.i64.wrap (a.tdiv 16)=a.tdiv 16:=by
  rcases Int.le_total 0 a with h | h
  · rw [Int.tdiv_eq_ediv_of_nonneg h,wrap_i64]<;>omega
  · obtain ⟨n,rfl⟩:∃ n,a = -n:=⟨-a,by omega⟩
    rw [Int.neg_tdiv,Int.tdiv_eq_ediv_of_nonneg (by omega),wrap_i64]<;>omega
set_option maxHeartbeats 2000000 in
theorem ok_headOf:EntOk Tryz.prog 54 (Ent.pure p_headOf):=by
  refine EntOk.pure fun args H K h=>?_
  unfold p_headOf at h
  split at h
  rotate_left
  · exact h.elim
  rename_i w n
  obtain ⟨⟨h1,h2,h3⟩,hK⟩:=h
  refine ⟨_,hK,?_⟩
  clear hK
  have htd:=tdiv_wrap16 h1 h2
  have htb:=tdiv_le16 h1 h2
  refine ACalls.of_aw (Ω:=[(19,Ent.pure p_ZMod)]) (T:=assoc []) mixed (TblOk.cons ok_ZMod TblOk.nil) Tryz.func54 (by kernel_rfl) (by rfl) (rs:=[.tmp 4]) (by rfl) (by kernel_rfl) (by simp only [Tryz.ntmps54,yaz,yba];decide) (Nat.le_refl _) fun hcl hlt=>?_
  change aw _ _ _ (KI Tryz.prog [(19,Ent.pure p_ZMod)] (aEnd Tryz.prog [.tmp 4] H.nx _ _ (assoc [])) []) _ _
  clear hlt
  simp only [go_sem,p_ZMod,htd]
  (repeat with_reducible refine And.intro (by first | decide | assumption | omega | exact ⟨by omega,by omega,by omega,by omega⟩) ?_)
  simp (disch:=first | assumption | omega | (simp;done) | (simp;omega) | (simp only [bt,and_true];first | done | omega | (simp;done))) [↓zmi,beq,ybc,ybd,ybe,endOk,wk,wk2,wk1,wkM,wkL,wkLL,ybf,hcl]
/-- a table is small -/
def lightT (t:STable):Bool:=!(decide ((t.restr.length:Int) > 500)||decide ((t.keys.length:Int) > 20)||decide ((t.actions.length:Int) > 20))
def lightS (x:Sch):Bool:=x.tables.all lightT&&(decide ((x.fields.length:Int)≤40)&&decide ((x.headers.length:Int)≤20)&&decide ((x.states.length:Int)≤20)&&decide ((x.actions.length:Int)≤20)&&decide ((x.tables.length:Int)≤20)&&decide ((x.roles.length:Int)≤20))
def p_light3:List AV→AHeap→(AV→Prop)→Prop
  | [.agg l],_,K=>∃ x:Sch,(l=schC x∧x.tables.length≤100000000000000000)∧K (.bool (lightS x))
  | _,_,_=>False
theorem all_take_succ {α:Type} {p:α→Bool} {l:List α} {k:Nat} (h:k<l.length):(l.take (k+1)).all p=((l.take k).all p&&p l[k]):=by
  rw [List.take_succ_eq_append_getElem h,List.all_append,List.all_cons,List.all_nil,Bool.and_true]
theorem all_false_of {α:Type} {p:α→Bool} {l:List α} {k:Nat} (h:k<l.length) (hp:p l[k]=false):l.all p=false:=by
  rw [Bool.eq_false_iff]
  intro h1
  have:=List.all_eq_true.1 h1 _ (List.getElem_mem h)
  rw [hp] at this;cases this
set_option maxHeartbeats 8000000 in
theorem ok_light3:EntOk Tryz.prog 12 (Ent.pure p_light3):=by
  refine EntOk.pure fun args H K h=>?_
  unfold p_light3 at h
  split at h
  rotate_left
  · exact h.elim
  rename_i l
  obtain ⟨x,⟨rfl,hl⟩,hK⟩:=h
  refine ⟨_,hK,?_⟩
  clear hK
  have hC:=lt_sch (n:=H.nx+1) x
  simp only [schAV,znl] at hC
  refine ACalls.of_aw (Ω:=[]) (T:=assoc []) mixed TblOk.nil Tryz.func12 (by kernel_rfl) (by rfl) (rs:=[.tmp 2]) (by rfl) (by kernel_rfl) (by simp only [Tryz.ntmps12,yaz,yba];decide) (Nat.le_refl _) fun hcl hlt=>?_
  change aw _ _ _ (KI Tryz.prog [] (aEnd Tryz.prog [.tmp 2] H.nx _ _ (assoc [])) []) _ _
  clear hlt
  simp only [go_sem,schC,ybb]
  refine loop_introW (A:=Nat) (fun k=>[(1,.ptr H.nx 0),(6,.slice .any 8 (x.tables.map tableAV)),(7,.int .i64 (x.tables.length:Int)),(8,.int .i64 (k:Int))])
    (fun k=>H.push (.cells (schC x))) (fun k=>k≤x.tables.length∧(x.tables.take k).all lightT=true) (fun k=>x.tables.length - k) 0 ⟨by omega,by simp⟩ ?_ fun k hk=>?_
  · refine ⟨by simp only [zkk,zkp,zky];omega,by repeat (first | exact AHeap.Le.refl _ | refine AHeap.Le.push ?_ _),closed_cells hcl hC,?_,?_⟩
    · simp [ltF,zky,znh,zmz,lt_map lt_tableAV]
    · simp [subW,wk2,wk1,wkM,Fr.get]
  obtain ⟨hk,hgood⟩:=hk
  simp only [go_sem]
  refine cond_split (fun hc=>?_) (fun hc=>?_)
  · have hk':k<x.tables.length:=by simp at hc;omega
    obtain ⟨t,ht⟩:∃ t,t=x.tables[k]:=⟨_,rfl⟩
    have hg:=getD_map (f:=tableAV) (l:=x.tables) (k:=k) (x:=t) (by rw [List.getElem?_eq_getElem hk',ht])
    have e5:IntKind.i64.wrap ((k:Int)+1)=((k+1:Nat):Int):=by rw [wrap_i64]<;>omega
    have hbad:lightT t=false→lightS x=false:=fun h=>by
      unfold lightS
      rw [all_false_of hk' (by rw [← ht];exact h),Bool.false_and]
    have hnext:=all_take_succ (p:=lightT) hk'
    rw [← ht] at hnext
    have hlT:lightT t=!(decide ((t.restr.length:Int) > 500)||decide ((t.keys.length:Int) > 20)||decide ((t.actions.length:Int) > 20)):=rfl
    rw [hgood,Bool.true_and] at hnext
    generalize lightT t=G at *
    simp only [go_sem,Int.toNat_natCast,ybb,hg,tableAV,inL]
    refine ⟨by omega,?_⟩
    cases h1:decide ((t.restr.length:Int) > 500)
    case' true=>rw [h1,Bool.true_or,Bool.true_or,Bool.not_true] at hlT
    case' false =>
      cases h2:decide ((t.keys.length:Int) > 20)
      case' true=>rw [h1,h2,Bool.false_or,Bool.true_or,Bool.not_true] at hlT
      case' false =>
        cases h3:decide ((t.actions.length:Int) > 20)
        case' true=>rw [h1,h2,h3,Bool.false_or,Bool.false_or,Bool.not_true] at hlT
        case' false=>rw [h1,h2,h3,Bool.false_or,Bool.false_or,Bool.not_false] at hlT
    all_goals
      try simp only [go_sem,h1]
      try simp only [go_sem,h1,h2,ybb]
      try simp only [go_sem,h1,h2,h3,ybb]
      first
        | (rw [hbad hlT]
           try simp only [go_sem]
           refine ⟨?_,by repeat (first | exact AHeap.Le.refl _ | refine AHeap.Le.push ?_ _),hcl,?_⟩
           · simp [wk,wk2,wk1]
           · simp [zna];done)
        | (simp only [e5]
           refine ⟨k+1,⟨by omega,by rw [hnext,hlT]⟩,by omega,by simp only [zkk,zkp,zky];omega,by repeat (first | exact AHeap.Le.refl _ | refine AHeap.Le.push ?_ _),closed_cells hcl hC,?_,?_⟩
           · simp [ltF,zky,znh,zmz,lt_map lt_tableAV]
           · simp [subW,wk2,wk1,wkM,Fr.get];done)
  · have hk':k=x.tables.length:=by simp at hc;omega
    subst hk'
    rw [List.take_length] at hgood
    have hS:lightS x=(decide ((x.fields.length:Int)≤40)&&decide ((x.headers.length:Int)≤20)&&decide ((x.states.length:Int)≤20)&&decide ((x.actions.length:Int)≤20)&&decide ((x.tables.length:Int)≤20)&&decide ((x.roles.length:Int)≤20)):=by
      unfold lightS;rw [hgood,Bool.true_and]
    rw [hS]
    cases h1:decide ((x.fields.length:Int)≤40)<;>(try cases h2:decide ((x.headers.length:Int)≤20))<;>(try cases h3:decide ((x.states.length:Int)≤20))<;>(try cases h4:decide ((x.actions.length:Int)≤20))<;>(try cases h5:decide ((x.tables.length:Int)≤20))<;>(try cases h6:decide ((x.roles.length:Int)≤20))
    all_goals
      simp only [go_sem,schC,ybb,h1,h2,h3,h4,h5,h6,Bool.false_and,Bool.true_and,Bool.and_false]
      refine ⟨?_,by repeat (first | exact AHeap.Le.refl _ | refine AHeap.Le.push ?_ _),hcl,?_⟩
      · simp [wk,wk2,wk1]
      · simp [zna]
end Go.AL


open Go Go.AL Go.Proofs
namespace Go.AL
set_option linter.all false
set_option maxRecDepth 10000
theorem ti_fsAct:ti Tryz.prog 25=some ⟨.slice 53,1,24,.slice .nil 1 []⟩:=by kernel_rfl
theorem ti_fsTab:ti Tryz.prog 26=some ⟨.slice 49,1,24,.slice .nil 1 []⟩:=by kernel_rfl
theorem ti_fsRol:ti Tryz.prog 28=some ⟨.slice 125,1,24,.slice .nil 1 []⟩:=by kernel_rfl
theorem ti_fsFld:ti Tryz.prog 22=some ⟨.slice 76,1,24,.slice .nil 1 []⟩:=by kernel_rfl
theorem ti_fsPar:ti Tryz.prog 50=some ⟨.slice 122,1,24,.slice .nil 1 []⟩:=by kernel_rfl
theorem ti_fsRef:ti Tryz.prog 29=some ⟨.slice 120,1,24,.slice .nil 1 []⟩:=by kernel_rfl
theorem ti_fsPrm:ti Tryz.prog 51=some ⟨.slice 129,1,24,.slice .nil 1 []⟩:=by kernel_rfl
theorem ti_fsStg:ti Tryz.prog 27=some ⟨.slice 78,1,24,.slice .nil 1 []⟩:=by kernel_rfl
theorem ti_fsInt:ti Tryz.prog 46=some ⟨.slice 3,1,24,.slice .nil 1 []⟩:=by kernel_rfl
theorem ti_xact:ti Tryz.prog 53=some ⟨.struct [(0,3,false),(1,9,false),(2,50,false),(3,51,false),(4,9,false)],5,88,.agg [.int .i64 0,.str [],.slice .nil 1 [],.slice .nil 1 [],.str []]⟩:=by kernel_rfl
theorem ti_xtab:ti Tryz.prog 49=some ⟨.struct [(0,3,false),(1,9,false),(2,45,false),(3,46,false),(4,3,false),(5,47,false),(6,3,false),(7,9,false)],8,128,.agg [.int .i64 0,.str [],.slice .nil 1 [],.slice .nil 1 [],.int .i64 0,.slice .nil 1 [],.int .i64 0,.str []]⟩:=by kernel_rfl
theorem ti_xrol:ti Tryz.prog 125=some ⟨.struct [(0,3,false),(1,9,false),(2,123,false),(3,46,false),(4,3,false),(5,4,false)],6,88,.agg [.int .i64 0,.str [],.slice .nil 1 [],.slice .nil 1 [],.int .i64 0,.bool false]⟩:=by kernel_rfl
theorem ti_xfld:ti Tryz.prog 76=some ⟨.struct [(0,3,false),(1,9,false),(2,3,false)],3,32,.agg [.int .i64 0,.str [],.int .i64 0]⟩:=by kernel_rfl
theorem ti_xpar:ti Tryz.prog 122=some ⟨.struct [(0,9,false),(1,3,false)],2,24,.agg [.str [],.int .i64 0]⟩:=by kernel_rfl
theorem ti_xprm:ti Tryz.prog 129=some ⟨.struct [(0,3,false),(1,3,false),(2,127,false)],6,48,.agg [.int .i64 0,.int .i64 0,.int .i64 0,.int .i64 0,.int .u64 0,.int .u64 0]⟩:=by kernel_rfl
theorem ti_xopd:ti Tryz.prog 127=some ⟨.struct [(0,3,false),(1,3,false),(2,83,false)],4,32,.agg [.int .i64 0,.int .i64 0,.int .u64 0,.int .u64 0]⟩:=by kernel_rfl
theorem ti_xref:ti Tryz.prog 120=some ⟨.struct [(0,3,false),(1,3,false),(2,3,false),(3,3,false),(4,3,false),(5,3,false)],6,48,.agg [.int .i64 0,.int .i64 0,.int .i64 0,.int .i64 0,.int .i64 0,.int .i64 0]⟩:=by kernel_rfl
theorem ti_xstg:ti Tryz.prog 78=some ⟨.struct [(0,3,false),(1,3,false)],2,16,.agg [.int .i64 0,.int .i64 0]⟩:=by kernel_rfl
attribute [go_sem] ti_fsAct ti_fsTab ti_fsRol ti_fsFld ti_fsPar ti_fsRef ti_fsPrm ti_fsStg ti_fsInt ti_xact ti_xtab ti_xrol ti_xfld ti_xpar ti_xprm ti_xopd ti_xref ti_xstg
/-- one element of a list is changed -/
def updAt {α:Type} (f:α→α):Nat→List α→List α
  | _,[]=>[]
  | 0,x::l=>f x::l
  | k+1,x::l=>x::updAt f k l
theorem updAt_app {α:Type} {f:α→α} {m:α}:∀ (A B:List α),updAt f A.length (A++m::B)=A++f m::B
  | [],B=>rfl
  | a::A,B=>by show a::updAt f A.length (A++m::B)=_;rw [updAt_app A B];rfl
theorem splice_at0:∀ (X Y:List AV) (f:Nat) (v:List AV),splice (X++Y) (X.length+f) v=X++splice Y f v
  | [],Y,f,v=>by simp
  | x::X,Y,f,v=>by
    have:=splice_at0 X Y f v
    rw [yaz,show X.length+1+f=X.length+f+1 by omega]
    show x::splice (X++Y) (X.length+f) v=_
    rw [this];rfl
theorem getD_at0 (X Y:List AV) (f:Nat) (d:AV):(X++Y).getD (X.length+f) d=Y.getD f d:=by
  rw [List.getD_eq_getElem?_getD,List.getD_eq_getElem?_getD,List.getElem?_append_right (by omega)]
  congr 2;omega
theorem wk_ms {H' H1:AHeap} {id sz n:Nat} {cs L:List AV} (h1:cellsOf? H' id=some cs) (h2:rowsOf sz n cs=L) (h3:H1.get id=none):wk1 H' H1 (.ms id 0 sz n) (.slice .any sz L):=by
  simp only [wk1,h1];exact ⟨.inl trivial,trivial,h2.symm,h3⟩
theorem get_ge {H:AHeap} {i:Nat} (h:H.nx≤i):H.get i=none:=by unfold AHeap.get;rw [if_neg (by omega)]
theorem rows_cons {sz n:Nat} {c rest:List AV} (h:c.length=sz) (h1:sz≠1):rowsOf sz (n+1) (c++rest)=.agg c::rowsOf sz n rest:=by
  rw [rowsOf,if_neg h1]
  congr 1
  · congr 1
    refine List.ext_getElem (by simp [h]) fun j h1 h2=>?_
    simp only [List.getElem_map,List.getElem_range]
    rw [List.getD_eq_getElem?_getD,List.getElem?_append_left h2]
    simp [h2]
  · rw [← h,List.drop_left]
theorem rows_map {α:Type} {f:α→AV} {sz:Nat} (hf:∀ x,∃ c,f x=.agg c∧c.length=sz) (h1:sz≠1) (J:List AV):∀ l:List α,rowsOf sz l.length ((l.map f).flatMap AV.cells++J)=l.map f
  | []=>rfl
  | x::l=>by
    obtain ⟨c,hc,hl⟩:=hf x
    rw [yae,List.flatMap_cons,hc,List.append_assoc,yaz]
    show rowsOf sz (l.length+1) (c++_)=_
    rw [rows_cons hl h1,rows_map hf h1 J l]
theorem flat_len {α:Type} {f:α→AV} {sz:Nat} (hf:∀ x,(f x).cells.length=sz):∀ l:List α,((l.map f).flatMap AV.cells).length=l.length*sz
  | []=>by simp
  | x::l=>by rw [yae,List.flatMap_cons,List.length_append,hf,flat_len hf l,yaz,Nat.succ_mul];omega
theorem lt_flat {α:Type} {f:α→AV} (hf:∀ x,(f x).lt 0) (l:List α):∀ x∈(l.map f).flatMap AV.cells,AV.lt 0 x:=fun x hx=>by
  obtain ⟨y,hy,hx⟩:=List.mem_flatMap.1 hx
  obtain ⟨m,_,rfl⟩:=List.mem_map.1 hy
  obtain ⟨j,hj,rfl⟩:=List.getElem_of_mem hx
  exact AV.lt_cells (hf m) j hj
theorem map_isEmpty {α:Type} {f:α→AV} {l:List α} (h:1≤l.length):(l.map f).isEmpty=false:=by
  cases l with
  | nil=>simp at h
  | cons x y=>rfl
/-- the row of a list in which one element stands at a place -/
theorem row_split {α:Type} {f:α→AV} {sz:Nat} (hf:∀ x,∃ c,f x=.agg c∧c.length=sz) (h1:sz≠1) (k:Nat) (l A B:List α) (m:α) (h:l=A++m::B) :
    ∃ C0 Z,C0.length=A.length*sz∧(l.map f).flatMap AV.cells++List.replicate k .junk=C0++((f m).cells++Z)∧∀ m',rowsOf sz l.length (C0++((f m').cells++Z))=(A++m'::B).map f:=by
  refine ⟨(A.map f).flatMap AV.cells,(B.map f).flatMap AV.cells++List.replicate k .junk,flat_len (fun x=>by obtain ⟨c,e,hl⟩:=hf x;rw [e];exact hl) A,?_,fun m'=>?_⟩
  · rw [h];simp [List.append_assoc]
  · have:=rows_map hf h1 (List.replicate k .junk) (A++m'::B)
    rw [show l.length=(A++m'::B).length by rw [h];simp,← this]
    simp [List.append_assoc]
theorem split_at {α:Type} {l:List α} {i:Nat} (h:i<l.length):∃ A m B,A.length=i∧l=A++m::B :=
  ⟨l.take i,l[i],l.drop (i+1),by simp;omega,by rw [← List.drop_eq_getElem_cons h,List.take_append_drop]⟩
theorem agg_table (x:STable):∃ c,tableAV x=.agg c∧c.length=8:=⟨_,rfl,rfl⟩
theorem agg_action (x:SAction):∃ c,actionAV x=.agg c∧c.length=5:=⟨_,rfl,rfl⟩
theorem agg_role (x:SRole):∃ c,roleAV x=.agg c∧c.length=6:=⟨_,rfl,rfl⟩
theorem splice_nil0 (cs:List AV) (o:Nat):splice cs o []=cs:=splice_nil cs o
theorem wkDL_app:∀ {a a' b b':List AV},wkDL a a'→wkDL b b'→wkDL (a++b) (a'++b')
  | [],[],_,_,_,h=>h
  | x::a,y::a',_,_,⟨h1,h2⟩,h=>⟨h1,wkDL_app h2 h⟩
  | [],_::_,_,_,h,_=>h.elim
  | _::_,[],_,_,h,_=>h.elim
theorem wkDL_self (l:List AV):wkDL l l:=of_eq_true wkDL_same
theorem wrap_u64_range (n:Int):0≤IntKind.u64.wrap n∧IntKind.u64.wrap n<18446744073709551616:=by
  unfold IntKind.wrap
  simp only [IntKind.signed,IntKind.bits]
  constructor
  · simp;omega
  · simp;omega
/-- the value whose upper half is a number -/
def hiV (n:Int):Nat:=(IntKind.u64.wrap n).toNat*2^64
theorem hiV_hi (n:Int):(((hiV n/2^64:Nat):Nat):Int)=IntKind.u64.wrap n:=by
  have h:=(wrap_u64_range n).1
  unfold hiV
  rw [Nat.mul_div_cancel _ (by decide)]
  omega
theorem hiV_hi2 (n:Int):((hiV n:Nat):Int)/18446744073709551616=IntKind.u64.wrap n:=by
  rw [← hiV_hi];omega
theorem hiV_lo (n:Int):(((hiV n % 2^64:Nat):Nat):Int)=0:=by
  unfold hiV
  rw [Nat.mul_mod_left];rfl
theorem hiV_lo2 (n:Int):((hiV n:Nat):Int) % 18446744073709551616=0:=by
  have:=hiV_lo n;omega
def bentS (S:Sch) (w n:Int) (t:List UInt8):Sch :=
  let k:=(w.tdiv 16 % max (S.tables.length:Int) 1).toNat
  let q:=w % 12
  if q=0 then { S with maxBatch:=n } else if q=1 then { S with budget:=n } else if q=2 then { S with fields:=S.fields++[⟨n,t,iand .i64 n 255⟩] }
  else if q=3 then { S with tables:=updAt (fun a=>{ a with restr:=t }) k S.tables } else if q=4 then { S with tables:=updAt (fun a=>{ a with size:=n }) k S.tables }
  else if q=5 then { S with tables:=updAt (fun a=>{ a with name:=t }) k S.tables } else if q=6 then { S with actions:=updAt (fun a=>{ a with params:=a.params++[⟨t,n⟩] }) 2 S.actions }
  else if q=7 then { S with roles:=updAt (fun a=>{ a with quota:=n }) 1 S.roles } else if q=8 then { S with refs:=S.refs++[⟨n,iand .i64 n 511,0,0,0,0⟩] }
  else if q=9 then { S with tables:=updAt (fun a=>{ a with actions:=a.actions++[n] }) k S.tables } else if q=10 then { S with actions:=updAt (fun a=>{ a with body:=a.body++[⟨n,0,0,0,hiV n⟩] }) 1 S.actions }
  else { S with stages:=S.stages++[⟨n,iand .i64 n 3⟩] }
structure BentOk (S:Sch):Prop where
  a1:3≤S.actions.length
  a2:S.actions.length≤1000
  t1:1≤S.tables.length
  t2:S.tables.length≤1000
  r1:2≤S.roles.length
  r2:S.roles.length≤1000
  f:S.fields.length≤1000
  s:S.stages.length≤1000
  x:S.refs.length≤1000
  p:∀ a∈S.actions,a.params.length≤1000∧a.body.length≤1000
  c:∀ a∈S.tables,a.actions.length≤1000
def p_bent03:List AV→AHeap→(AV→Prop)→Prop
  | [.agg l,.int .i64 w,.int .i64 n,.str t],_,K=>∃ S:Sch,(l=schC S∧BentOk S ∧ -9223372036854775808≤w∧w≤9223372036854775807)∧K (schAV (bentS S w n t))
  | _,_,_=>False
set_option maxHeartbeats 40000000 in
theorem ok_bent03:EntOk Tryz.prog 16 (Ent.pure p_bent03):=by
  refine EntOk.pure fun args H K h=>?_
  unfold p_bent03 at h
  split at h
  rotate_left
  · exact h.elim
  rename_i l w n t
  obtain ⟨S,⟨rfl,hS,hw1,hw2⟩,hK⟩:=h
  refine ⟨_,hK,?_⟩
  clear hK
  obtain ⟨sa1,sa2,st1,st2,sr1,sr2,sf,ss,sx,sp,sc⟩:=hS
  have ea:=map_isEmpty (f:=actionAV) (l:=S.actions) (by omega)
  have et:=map_isEmpty (f:=tableAV) (l:=S.tables) (by omega)
  have er:=map_isEmpty (f:=roleAV) (l:=S.roles) (by omega)
  have oa:∀ z∈List.map actionAV S.actions,allOne z.cells=true:=fun z hz=>by
    obtain ⟨x,_,rfl⟩:=List.mem_map.1 hz;rfl
  have ot:∀ z∈List.map tableAV S.tables,allOne z.cells=true:=fun z hz=>by
    obtain ⟨x,_,rfl⟩:=List.mem_map.1 hz;rfl
  have or':∀ z∈List.map roleAV S.roles,allOne z.cells=true:=fun z hz=>by
    obtain ⟨x,_,rfl⟩:=List.mem_map.1 hz;rfl
  have of':∀ z∈List.map fieldAV S.fields,allOne z.cells=true:=fun z hz=>by
    obtain ⟨x,_,rfl⟩:=List.mem_map.1 hz;rfl
  have ox:∀ z∈List.map refAV S.refs,allOne z.cells=true:=fun z hz=>by
    obtain ⟨x,_,rfl⟩:=List.mem_map.1 hz;rfl
  have os:∀ z∈List.map stageAV S.stages,allOne z.cells=true:=fun z hz=>by
    obtain ⟨x,_,rfl⟩:=List.mem_map.1 hz;rfl
  have nT:List.map tableAV S.tables≠[]:=fun h=>by rw [List.map_eq_nil_iff] at h;rw [h] at st1;simp at st1
  have nA:List.map actionAV S.actions≠[]:=fun h=>by rw [List.map_eq_nil_iff] at h;rw [h] at sa1;simp at sa1
  have nR:List.map roleAV S.roles≠[]:=fun h=>by rw [List.map_eq_nil_iff] at h;rw [h] at sr1;simp at sr1
  obtain ⟨i,hi⟩:∃ i:Nat,w.tdiv 16 % max (S.tables.length:Int) 1=(i:Int):=⟨(w.tdiv 16 % max (S.tables.length:Int) 1).toNat,by have:=Int.emod_nonneg (w.tdiv 16) (show max (S.tables.length:Int) 1≠0 by omega);omega⟩
  have hil:i<S.tables.length:=by have:=Int.emod_lt_of_pos (w.tdiv 16) (show (0:Int)<max (S.tables.length:Int) 1 by omega);omega
  have hil':(i:Int)<(S.tables.length:Int):=by omega
  obtain ⟨q,hq⟩:∃ q,w % 12=q:=⟨_,rfl⟩
  have iq:q=0∨q=1∨q=2∨q=3∨q=4∨q=5∨q=6∨q=7∨q=8∨q=9∨q=10∨q=11:=by omega
  have lS:=lt_sch (n:=H.nx) (bentS S w n t)
  obtain ⟨R,hR⟩:∃ R,bentS S w n t=R:=⟨_,rfl⟩
  rw [hR] at lS ⊢
  unfold bentS at hR
  dsimp only at hR
  rw [hi,Int.toNat_natCast,hq] at hR
  rcases iq with rfl | rfl | rfl | rfl | rfl | rfl | rfl | rfl | rfl | rfl | rfl | rfl
  · skip
    refine ACalls.of_aw (Ω:=[(54,Ent.pure p_headOf),(19,Ent.pure p_ZMod)]) (T:=assoc [(1,[[],[],[],[2],[],[],[],[2,6],[],[],[],[2,6,10],[],[2,6,10],[],[2,6,10],[],[2,6,10]]),(18,[[],[],[],[],[],[],[],[],[4,7],[],[],[],[],[4,7],[],[],[1,4,7]]),(24,[[],[],[],[],[],[],[],[],[],[],[5,9],[],[],[5,9],[],[],[1,5,9]]),(26,[[],[],[],[],[],[],[],[],[4,7],[],[],[],[],[],[],[],[4,7],[],[],[1,4,7]]),(801,[[100000],[100004],[100008]]),(818,[[100002],[100012]]),(824,[[100003],[100012]]),(826,[[100002],[100015]]),(1201,[[300000,300004,300008]]),(1218,[[300002]]),(1224,[[300003]]),(1226,[[300002]])]) mixed (TblOk.cons ok_headOf (TblOk.cons ok_ZMod TblOk.nil)) Tryz.func16 (by kernel_rfl) (by rfl) (rs:=[.cell 8 31]) (by rfl) (by kernel_rfl) (by simp only [Tryz.ntmps16,yaz,yba];decide) (Nat.le_refl _) fun hcl hlt=>?_
    change aw _ _ _ (KI Tryz.prog [(54,Ent.pure p_headOf),(19,Ent.pure p_ZMod)] (aEnd Tryz.prog [.cell 8 31] H.nx _ _ (assoc [(1,[[],[],[],[2],[],[],[],[2,6],[],[],[],[2,6,10],[],[2,6,10],[],[2,6,10],[],[2,6,10]]),(18,[[],[],[],[],[],[],[],[],[4,7],[],[],[],[],[4,7],[],[],[1,4,7]]),(24,[[],[],[],[],[],[],[],[],[],[],[5,9],[],[],[5,9],[],[],[1,5,9]]),(26,[[],[],[],[],[],[],[],[],[4,7],[],[],[],[],[],[],[],[4,7],[],[],[1,4,7]]),(801,[[100000],[100004],[100008]]),(818,[[100002],[100012]]),(824,[[100003],[100012]]),(826,[[100002],[100015]]),(1201,[[300000,300004,300008]]),(1218,[[300002]]),(1224,[[300003]]),(1226,[[300002]])])) []) _ _
    clear hlt
    simp only [Int.reduceEq,if_true,if_false] at hR
    subst hR
    simp only [blkE,blkP,bhq,Nat.reduceMod,Nat.reduceDiv,stepH,stepM,toMs1,toMs,toMs0,strK,pubK,pubF,pubV,yaq,yar,yao,yap,go_sem,schC,ea,et,er,ybb,p_headOf,p_ZMod,hi,hq,Int.reduceBEq]
    (repeat with_reducible refine And.intro (by first | decide | assumption | omega | (refine ⟨?_,?_,oa⟩<;>omega) | (refine ⟨?_,?_,ot⟩<;>omega) | (refine ⟨?_,?_,or'⟩<;>omega) | (refine ⟨?_,?_,of'⟩<;>omega) | (refine ⟨?_,?_,ox⟩<;>omega) | (refine ⟨?_,?_,os⟩<;>omega) | (refine ⟨?_,?_⟩<;>omega) | (refine ⟨?_,?_,?_⟩<;>omega) | exact nT | exact nA | exact nR | exact lt_flat lt_tableAV _ | exact lt_flat lt_actionAV _ | exact lt_flat lt_roleAV _ | (simp only [List.length_append,yaz];omega) | (simp [zik,zjs,zgl,zgm,zgn,zgo,zgp,zgt];done) | (simp [zik,zjs,zgl,zgm,zgn,zgo,zgp,zgt];omega)) ?_)
    refine ⟨?_,by repeat (first | exact AHeap.Le.refl _ | refine AHeap.Le.push ?_ _),hcl,lS⟩
    simp [schAV,schC,wk,wk2,wkL,wk1,wkM,fieldAV,refAV,stageAV]
  skip
  · skip
    refine ACalls.of_aw (Ω:=[(54,Ent.pure p_headOf),(19,Ent.pure p_ZMod)]) (T:=assoc [(1,[[],[],[],[2],[],[],[],[2,6],[],[],[],[2,6,10],[],[2,6,10],[],[2,6,10],[],[2,6,10]]),(18,[[],[],[],[],[],[],[],[],[4,7],[],[],[],[],[4,7],[],[],[1,4,7]]),(24,[[],[],[],[],[],[],[],[],[],[],[5,9],[],[],[5,9],[],[],[1,5,9]]),(26,[[],[],[],[],[],[],[],[],[4,7],[],[],[],[],[],[],[],[4,7],[],[],[1,4,7]]),(801,[[100000],[100004],[100008]]),(818,[[100002],[100012]]),(824,[[100003],[100012]]),(826,[[100002],[100015]]),(1201,[[300000,300004,300008]]),(1218,[[300002]]),(1224,[[300003]]),(1226,[[300002]])]) mixed (TblOk.cons ok_headOf (TblOk.cons ok_ZMod TblOk.nil)) Tryz.func16 (by kernel_rfl) (by rfl) (rs:=[.cell 8 31]) (by rfl) (by kernel_rfl) (by simp only [Tryz.ntmps16,yaz,yba];decide) (Nat.le_refl _) fun hcl hlt=>?_
    change aw _ _ _ (KI Tryz.prog [(54,Ent.pure p_headOf),(19,Ent.pure p_ZMod)] (aEnd Tryz.prog [.cell 8 31] H.nx _ _ (assoc [(1,[[],[],[],[2],[],[],[],[2,6],[],[],[],[2,6,10],[],[2,6,10],[],[2,6,10],[],[2,6,10]]),(18,[[],[],[],[],[],[],[],[],[4,7],[],[],[],[],[4,7],[],[],[1,4,7]]),(24,[[],[],[],[],[],[],[],[],[],[],[5,9],[],[],[5,9],[],[],[1,5,9]]),(26,[[],[],[],[],[],[],[],[],[4,7],[],[],[],[],[],[],[],[4,7],[],[],[1,4,7]]),(801,[[100000],[100004],[100008]]),(818,[[100002],[100012]]),(824,[[100003],[100012]]),(826,[[100002],[100015]]),(1201,[[300000,300004,300008]]),(1218,[[300002]]),(1224,[[300003]]),(1226,[[300002]])])) []) _ _
    clear hlt
    simp only [Int.reduceEq,if_true,if_false] at hR
    subst hR
    simp only [blkE,blkP,bhq,Nat.reduceMod,Nat.reduceDiv,stepH,stepM,toMs1,toMs,toMs0,strK,pubK,pubF,pubV,yaq,yar,yao,yap,go_sem,schC,ea,et,er,ybb,p_headOf,p_ZMod,hi,hq,Int.reduceBEq]
    (repeat with_reducible refine And.intro (by first | decide | assumption | omega | (refine ⟨?_,?_,oa⟩<;>omega) | (refine ⟨?_,?_,ot⟩<;>omega) | (refine ⟨?_,?_,or'⟩<;>omega) | (refine ⟨?_,?_,of'⟩<;>omega) | (refine ⟨?_,?_,ox⟩<;>omega) | (refine ⟨?_,?_,os⟩<;>omega) | (refine ⟨?_,?_⟩<;>omega) | (refine ⟨?_,?_,?_⟩<;>omega) | exact nT | exact nA | exact nR | exact lt_flat lt_tableAV _ | exact lt_flat lt_actionAV _ | exact lt_flat lt_roleAV _ | (simp only [List.length_append,yaz];omega) | (simp [zik,zjs,zgl,zgm,zgn,zgo,zgp,zgt];done) | (simp [zik,zjs,zgl,zgm,zgn,zgo,zgp,zgt];omega)) ?_)
    refine ⟨?_,by repeat (first | exact AHeap.Le.refl _ | refine AHeap.Le.push ?_ _),hcl,lS⟩
    simp [schAV,schC,wk,wk2,wkL,wk1,wkM,fieldAV,refAV,stageAV]
  skip
  · skip
    refine ACalls.of_aw (Ω:=[(54,Ent.pure p_headOf),(19,Ent.pure p_ZMod)]) (T:=assoc [(1,[[],[],[],[2],[],[],[],[2,6],[],[],[],[2,6,10],[],[2,6,10],[],[2,6,10],[],[2,6,10]]),(18,[[],[],[],[],[],[],[],[],[4,7],[],[],[],[],[4,7],[],[],[1,4,7]]),(24,[[],[],[],[],[],[],[],[],[],[],[5,9],[],[],[5,9],[],[],[1,5,9]]),(26,[[],[],[],[],[],[],[],[],[4,7],[],[],[],[],[],[],[],[4,7],[],[],[1,4,7]]),(801,[[100000],[100004],[100008]]),(818,[[100002],[100012]]),(824,[[100003],[100012]]),(826,[[100002],[100015]]),(1201,[[300000,300004,300008]]),(1218,[[300002]]),(1224,[[300003]]),(1226,[[300002]])]) mixed (TblOk.cons ok_headOf (TblOk.cons ok_ZMod TblOk.nil)) Tryz.func16 (by kernel_rfl) (by rfl) (rs:=[.cell 8 31]) (by rfl) (by kernel_rfl) (by simp only [Tryz.ntmps16,yaz,yba];decide) (Nat.le_refl _) fun hcl hlt=>?_
    change aw _ _ _ (KI Tryz.prog [(54,Ent.pure p_headOf),(19,Ent.pure p_ZMod)] (aEnd Tryz.prog [.cell 8 31] H.nx _ _ (assoc [(1,[[],[],[],[2],[],[],[],[2,6],[],[],[],[2,6,10],[],[2,6,10],[],[2,6,10],[],[2,6,10]]),(18,[[],[],[],[],[],[],[],[],[4,7],[],[],[],[],[4,7],[],[],[1,4,7]]),(24,[[],[],[],[],[],[],[],[],[],[],[5,9],[],[],[5,9],[],[],[1,5,9]]),(26,[[],[],[],[],[],[],[],[],[4,7],[],[],[],[],[],[],[],[4,7],[],[],[1,4,7]]),(801,[[100000],[100004],[100008]]),(818,[[100002],[100012]]),(824,[[100003],[100012]]),(826,[[100002],[100015]]),(1201,[[300000,300004,300008]]),(1218,[[300002]]),(1224,[[300003]]),(1226,[[300002]])])) []) _ _
    clear hlt
    simp only [Int.reduceEq,if_true,if_false] at hR
    subst hR
    simp only [blkE,blkP,bhq,Nat.reduceMod,Nat.reduceDiv,stepH,stepM,toMs1,toMs,toMs0,strK,pubK,pubF,pubV,yaq,yar,yao,yap,go_sem,schC,ea,et,er,ybb,p_headOf,p_ZMod,hi,hq,Int.reduceBEq]
    (repeat with_reducible refine And.intro (by first | decide | assumption | omega | (refine ⟨?_,?_,oa⟩<;>omega) | (refine ⟨?_,?_,ot⟩<;>omega) | (refine ⟨?_,?_,or'⟩<;>omega) | (refine ⟨?_,?_,of'⟩<;>omega) | (refine ⟨?_,?_,ox⟩<;>omega) | (refine ⟨?_,?_,os⟩<;>omega) | (refine ⟨?_,?_⟩<;>omega) | (refine ⟨?_,?_,?_⟩<;>omega) | exact nT | exact nA | exact nR | exact lt_flat lt_tableAV _ | exact lt_flat lt_actionAV _ | exact lt_flat lt_roleAV _ | (simp only [List.length_append,yaz];omega) | (simp [zik,zjs,zgl,zgm,zgn,zgo,zgp,zgt];done) | (simp [zik,zjs,zgl,zgm,zgn,zgo,zgp,zgt];omega)) ?_)
    refine ⟨?_,by repeat (first | exact AHeap.Le.refl _ | refine AHeap.Le.push ?_ _),hcl,lS⟩
    simp [schAV,schC,wk,wk2,wkL,wk1,wkM,fieldAV,refAV,stageAV]
  skip
  · skip
    refine ACalls.of_aw (Ω:=[(54,Ent.pure p_headOf),(19,Ent.pure p_ZMod)]) (T:=assoc [(1,[[],[],[],[2],[],[],[],[2,6],[],[],[],[2,6,10],[],[2,6,10],[],[2,6,10],[],[2,6,10]]),(18,[[],[],[],[],[],[],[],[],[4,7],[],[],[],[],[4,7],[],[],[1,4,7]]),(24,[[],[],[],[],[],[],[],[],[],[],[5,9],[],[],[5,9],[],[],[1,5,9]]),(26,[[],[],[],[],[],[],[],[],[4,7],[],[],[],[],[],[],[],[4,7],[],[],[1,4,7]]),(801,[[100000],[100004],[100008]]),(818,[[100002],[100012]]),(824,[[100003],[100012]]),(826,[[100002],[100015]]),(1201,[[300000,300004,300008,200007]]),(2,[[1]]),(1218,[[300002]]),(1224,[[300003]]),(1226,[[300002]])]) mixed (TblOk.cons ok_headOf (TblOk.cons ok_ZMod TblOk.nil)) Tryz.func16 (by kernel_rfl) (by rfl) (rs:=[.cell 8 31]) (by rfl) (by kernel_rfl) (by simp only [Tryz.ntmps16,yaz,yba];decide) (Nat.le_refl _) fun hcl hlt=>?_
    change aw _ _ _ (KI Tryz.prog [(54,Ent.pure p_headOf),(19,Ent.pure p_ZMod)] (aEnd Tryz.prog [.cell 8 31] H.nx _ _ (assoc [(1,[[],[],[],[2],[],[],[],[2,6],[],[],[],[2,6,10],[],[2,6,10],[],[2,6,10],[],[2,6,10]]),(18,[[],[],[],[],[],[],[],[],[4,7],[],[],[],[],[4,7],[],[],[1,4,7]]),(24,[[],[],[],[],[],[],[],[],[],[],[5,9],[],[],[5,9],[],[],[1,5,9]]),(26,[[],[],[],[],[],[],[],[],[4,7],[],[],[],[],[],[],[],[4,7],[],[],[1,4,7]]),(801,[[100000],[100004],[100008]]),(818,[[100002],[100012]]),(824,[[100003],[100012]]),(826,[[100002],[100015]]),(1201,[[300000,300004,300008,200007]]),(2,[[1]]),(1218,[[300002]]),(1224,[[300003]]),(1226,[[300002]])])) []) _ _
    clear hlt
    simp only [Int.reduceEq,if_true,if_false] at hR
    obtain ⟨A,m,B,hAl,hAB⟩:=split_at (l:=S.tables) (i:=i) (by omega)
    have hup:R={ S with tables:=A++({ m with restr:=t }:STable)::B }:=by
      rw [← hR,hAB,← hAl,updAt_app]
    rw [hup] at lS ⊢
    clear hup hR
    simp only [blkE,blkP,bhq,Nat.reduceMod,Nat.reduceDiv,stepH,stepM,toMs1,toMs,toMs0,strK,pubK,pubF,pubV,yaq,yar,yao,yap,go_sem,schC,ea,et,er,ybb]
    (repeat with_reducible refine And.intro (by first | decide | assumption | omega | (refine ⟨?_,?_,oa⟩<;>omega) | (refine ⟨?_,?_,ot⟩<;>omega) | (refine ⟨?_,?_,or'⟩<;>omega) | (refine ⟨?_,?_,of'⟩<;>omega) | (refine ⟨?_,?_,ox⟩<;>omega) | (refine ⟨?_,?_,os⟩<;>omega) | (refine ⟨?_,?_⟩<;>omega) | (refine ⟨?_,?_,?_⟩<;>omega) | exact nT | exact nA | exact nR | exact lt_flat lt_tableAV _ | exact lt_flat lt_actionAV _ | exact lt_flat lt_roleAV _ | (simp only [List.length_append,yaz];omega) | (simp [zik,zjs,zgl,zgm,zgn,zgo,zgp,zgt];done) | (simp [zik,zjs,zgl,zgm,zgn,zgo,zgp,zgt];omega)) ?_)
    refine weak_room (H.nx+1+1+1) (cs:=(S.tables.map tableAV).flatMap AV.cells) (by simp [zlb,heap_get_set,zky,zkz]) fun kk=>?_
    obtain ⟨C0,Z,hC,hfl,hrow⟩:=row_split agg_table (by decide) kk S.tables A B m hAB
    replace hrow:=hrow { m with restr:=t }
    rw [hAl] at hC
    have hcl2:tableAV m=.agg ((tableAV m).cells):=rfl
    simp only [tableAV,zik] at hfl hrow
    have hC1:=hC.symm
    simp only [blkE,blkP,bhq,Nat.reduceMod,Nat.reduceDiv,stepH,stepM,toMs1,toMs,toMs0,strK,pubK,pubF,pubV,yaq,yar,yao,yap,go_sem,schC,ea,et,er,ybb,hfl,Int.toNat_natCast,hC1,splice_at0,getD_at0,yal,yak,p_headOf,p_ZMod,hi,hq,Int.reduceBEq,inL]
    (repeat with_reducible refine And.intro (by first | decide | assumption | omega | (refine ⟨?_,?_,oa⟩<;>omega) | (refine ⟨?_,?_,ot⟩<;>omega) | (refine ⟨?_,?_,or'⟩<;>omega) | (refine ⟨?_,?_,of'⟩<;>omega) | (refine ⟨?_,?_,ox⟩<;>omega) | (refine ⟨?_,?_,os⟩<;>omega) | (refine ⟨?_,?_⟩<;>omega) | (refine ⟨?_,?_,?_⟩<;>omega) | exact nT | exact nA | exact nR | exact lt_flat lt_tableAV _ | exact lt_flat lt_actionAV _ | exact lt_flat lt_roleAV _ | (simp only [List.length_append,yaz];omega) | (simp [zik,zjs,zgl,zgm,zgn,zgo,zgp,zgt];done) | (simp [zik,zjs,zgl,zgm,zgn,zgo,zgp,zgt];omega)) ?_)
    try simp only [blkE,blkP,bhq,Nat.reduceMod,Nat.reduceDiv,stepH,stepM,toMs1,toMs,toMs0,strK,pubK,pubF,pubV,yaq,yar,yao,yap,go_sem,schC,ea,et,er,ybb,hfl,Int.toNat_natCast,hC1,splice_at0,getD_at0,yal,yak,p_headOf,p_ZMod,hi,hq,Int.reduceBEq,inL]
    refine ⟨⟨.inl ⟨.inl rfl,rfl,rfl⟩,.inl ⟨.inl rfl,rfl,rfl⟩,.inl ⟨.inl rfl,rfl,rfl⟩,.inl ⟨.inl rfl,rfl,rfl⟩,wk_ms ?_ hrow (get_ge (by omega)),.inl ⟨.inl rfl,rfl,rfl⟩,.inl ⟨.inl rfl,rfl,rfl⟩,.inl ⟨.inl rfl,rfl,rfl⟩,rfl,rfl,trivial⟩,by repeat (first | exact AHeap.Le.refl _ | refine AHeap.Le.push ?_ _),hcl,lS⟩
    simp only [go_sem,inL,splice_nil0]
  skip
  · skip
    refine ACalls.of_aw (Ω:=[(54,Ent.pure p_headOf),(19,Ent.pure p_ZMod)]) (T:=assoc [(1,[[],[],[],[2],[],[],[],[2,6],[],[],[],[2,6,10],[],[2,6,10],[],[2,6,10],[],[2,6,10]]),(18,[[],[],[],[],[],[],[],[],[4,7],[],[],[],[],[4,7],[],[],[1,4,7]]),(24,[[],[],[],[],[],[],[],[],[],[],[5,9],[],[],[5,9],[],[],[1,5,9]]),(26,[[],[],[],[],[],[],[],[],[4,7],[],[],[],[],[],[],[],[4,7],[],[],[1,4,7]]),(801,[[100000],[100004],[100008]]),(818,[[100002],[100012]]),(824,[[100003],[100012]]),(826,[[100002],[100015]]),(1201,[[300000,300004,300008,200007]]),(2,[[1]]),(1218,[[300002]]),(1224,[[300003]]),(1226,[[300002]])]) mixed (TblOk.cons ok_headOf (TblOk.cons ok_ZMod TblOk.nil)) Tryz.func16 (by kernel_rfl) (by rfl) (rs:=[.cell 8 31]) (by rfl) (by kernel_rfl) (by simp only [Tryz.ntmps16,yaz,yba];decide) (Nat.le_refl _) fun hcl hlt=>?_
    change aw _ _ _ (KI Tryz.prog [(54,Ent.pure p_headOf),(19,Ent.pure p_ZMod)] (aEnd Tryz.prog [.cell 8 31] H.nx _ _ (assoc [(1,[[],[],[],[2],[],[],[],[2,6],[],[],[],[2,6,10],[],[2,6,10],[],[2,6,10],[],[2,6,10]]),(18,[[],[],[],[],[],[],[],[],[4,7],[],[],[],[],[4,7],[],[],[1,4,7]]),(24,[[],[],[],[],[],[],[],[],[],[],[5,9],[],[],[5,9],[],[],[1,5,9]]),(26,[[],[],[],[],[],[],[],[],[4,7],[],[],[],[],[],[],[],[4,7],[],[],[1,4,7]]),(801,[[100000],[100004],[100008]]),(818,[[100002],[100012]]),(824,[[100003],[100012]]),(826,[[100002],[100015]]),(1201,[[300000,300004,300008,200007]]),(2,[[1]]),(1218,[[300002]]),(1224,[[300003]]),(1226,[[300002]])])) []) _ _
    clear hlt
    simp only [Int.reduceEq,if_true,if_false] at hR
    obtain ⟨A,m,B,hAl,hAB⟩:=split_at (l:=S.tables) (i:=i) (by omega)
    have hup:R={ S with tables:=A++({ m with size:=n }:STable)::B }:=by
      rw [← hR,hAB,← hAl,updAt_app]
    rw [hup] at lS ⊢
    clear hup hR
    simp only [blkE,blkP,bhq,Nat.reduceMod,Nat.reduceDiv,stepH,stepM,toMs1,toMs,toMs0,strK,pubK,pubF,pubV,yaq,yar,yao,yap,go_sem,schC,ea,et,er,ybb]
    (repeat with_reducible refine And.intro (by first | decide | assumption | omega | (refine ⟨?_,?_,oa⟩<;>omega) | (refine ⟨?_,?_,ot⟩<;>omega) | (refine ⟨?_,?_,or'⟩<;>omega) | (refine ⟨?_,?_,of'⟩<;>omega) | (refine ⟨?_,?_,ox⟩<;>omega) | (refine ⟨?_,?_,os⟩<;>omega) | (refine ⟨?_,?_⟩<;>omega) | (refine ⟨?_,?_,?_⟩<;>omega) | exact nT | exact nA | exact nR | exact lt_flat lt_tableAV _ | exact lt_flat lt_actionAV _ | exact lt_flat lt_roleAV _ | (simp only [List.length_append,yaz];omega) | (simp [zik,zjs,zgl,zgm,zgn,zgo,zgp,zgt];done) | (simp [zik,zjs,zgl,zgm,zgn,zgo,zgp,zgt];omega)) ?_)
    refine weak_room (H.nx+1+1+1) (cs:=(S.tables.map tableAV).flatMap AV.cells) (by simp [zlb,heap_get_set,zky,zkz]) fun kk=>?_
    obtain ⟨C0,Z,hC,hfl,hrow⟩:=row_split agg_table (by decide) kk S.tables A B m hAB
    replace hrow:=hrow { m with size:=n }
    rw [hAl] at hC
    have hcl2:tableAV m=.agg ((tableAV m).cells):=rfl
    simp only [tableAV,zik] at hfl hrow
    have hC1:=hC.symm
    simp only [blkE,blkP,bhq,Nat.reduceMod,Nat.reduceDiv,stepH,stepM,toMs1,toMs,toMs0,strK,pubK,pubF,pubV,yaq,yar,yao,yap,go_sem,schC,ea,et,er,ybb,hfl,Int.toNat_natCast,hC1,splice_at0,getD_at0,yal,yak,p_headOf,p_ZMod,hi,hq,Int.reduceBEq,inL]
    (repeat with_reducible refine And.intro (by first | decide | assumption | omega | (refine ⟨?_,?_,oa⟩<;>omega) | (refine ⟨?_,?_,ot⟩<;>omega) | (refine ⟨?_,?_,or'⟩<;>omega) | (refine ⟨?_,?_,of'⟩<;>omega) | (refine ⟨?_,?_,ox⟩<;>omega) | (refine ⟨?_,?_,os⟩<;>omega) | (refine ⟨?_,?_⟩<;>omega) | (refine ⟨?_,?_,?_⟩<;>omega) | exact nT | exact nA | exact nR | exact lt_flat lt_tableAV _ | exact lt_flat lt_actionAV _ | exact lt_flat lt_roleAV _ | (simp only [List.length_append,yaz];omega) | (simp [zik,zjs,zgl,zgm,zgn,zgo,zgp,zgt];done) | (simp [zik,zjs,zgl,zgm,zgn,zgo,zgp,zgt];omega)) ?_)
    try simp only [blkE,blkP,bhq,Nat.reduceMod,Nat.reduceDiv,stepH,stepM,toMs1,toMs,toMs0,strK,pubK,pubF,pubV,yaq,yar,yao,yap,go_sem,schC,ea,et,er,ybb,hfl,Int.toNat_natCast,hC1,splice_at0,getD_at0,yal,yak,p_headOf,p_ZMod,hi,hq,Int.reduceBEq,inL]
    refine ⟨⟨.inl ⟨.inl rfl,rfl,rfl⟩,.inl ⟨.inl rfl,rfl,rfl⟩,.inl ⟨.inl rfl,rfl,rfl⟩,.inl ⟨.inl rfl,rfl,rfl⟩,wk_ms ?_ hrow (get_ge (by omega)),.inl ⟨.inl rfl,rfl,rfl⟩,.inl ⟨.inl rfl,rfl,rfl⟩,.inl ⟨.inl rfl,rfl,rfl⟩,rfl,rfl,trivial⟩,by repeat (first | exact AHeap.Le.refl _ | refine AHeap.Le.push ?_ _),hcl,lS⟩
    simp only [go_sem,inL,splice_nil0]
  skip
  · skip
    refine ACalls.of_aw (Ω:=[(54,Ent.pure p_headOf),(19,Ent.pure p_ZMod)]) (T:=assoc [(1,[[],[],[],[2],[],[],[],[2,6],[],[],[],[2,6,10],[],[2,6,10],[],[2,6,10],[],[2,6,10]]),(18,[[],[],[],[],[],[],[],[],[4,7],[],[],[],[],[4,7],[],[],[1,4,7]]),(24,[[],[],[],[],[],[],[],[],[],[],[5,9],[],[],[5,9],[],[],[1,5,9]]),(26,[[],[],[],[],[],[],[],[],[4,7],[],[],[],[],[],[],[],[4,7],[],[],[1,4,7]]),(801,[[100000],[100004],[100008]]),(818,[[100002],[100012]]),(824,[[100003],[100012]]),(826,[[100002],[100015]]),(1201,[[300000,300004,300008,200007]]),(2,[[1]]),(1218,[[300002]]),(1224,[[300003]]),(1226,[[300002]])]) mixed (TblOk.cons ok_headOf (TblOk.cons ok_ZMod TblOk.nil)) Tryz.func16 (by kernel_rfl) (by rfl) (rs:=[.cell 8 31]) (by rfl) (by kernel_rfl) (by simp only [Tryz.ntmps16,yaz,yba];decide) (Nat.le_refl _) fun hcl hlt=>?_
    change aw _ _ _ (KI Tryz.prog [(54,Ent.pure p_headOf),(19,Ent.pure p_ZMod)] (aEnd Tryz.prog [.cell 8 31] H.nx _ _ (assoc [(1,[[],[],[],[2],[],[],[],[2,6],[],[],[],[2,6,10],[],[2,6,10],[],[2,6,10],[],[2,6,10]]),(18,[[],[],[],[],[],[],[],[],[4,7],[],[],[],[],[4,7],[],[],[1,4,7]]),(24,[[],[],[],[],[],[],[],[],[],[],[5,9],[],[],[5,9],[],[],[1,5,9]]),(26,[[],[],[],[],[],[],[],[],[4,7],[],[],[],[],[],[],[],[4,7],[],[],[1,4,7]]),(801,[[100000],[100004],[100008]]),(818,[[100002],[100012]]),(824,[[100003],[100012]]),(826,[[100002],[100015]]),(1201,[[300000,300004,300008,200007]]),(2,[[1]]),(1218,[[300002]]),(1224,[[300003]]),(1226,[[300002]])])) []) _ _
    clear hlt
    simp only [Int.reduceEq,if_true,if_false] at hR
    obtain ⟨A,m,B,hAl,hAB⟩:=split_at (l:=S.tables) (i:=i) (by omega)
    have hup:R={ S with tables:=A++({ m with name:=t }:STable)::B }:=by
      rw [← hR,hAB,← hAl,updAt_app]
    rw [hup] at lS ⊢
    clear hup hR
    simp only [blkE,blkP,bhq,Nat.reduceMod,Nat.reduceDiv,stepH,stepM,toMs1,toMs,toMs0,strK,pubK,pubF,pubV,yaq,yar,yao,yap,go_sem,schC,ea,et,er,ybb]
    (repeat with_reducible refine And.intro (by first | decide | assumption | omega | (refine ⟨?_,?_,oa⟩<;>omega) | (refine ⟨?_,?_,ot⟩<;>omega) | (refine ⟨?_,?_,or'⟩<;>omega) | (refine ⟨?_,?_,of'⟩<;>omega) | (refine ⟨?_,?_,ox⟩<;>omega) | (refine ⟨?_,?_,os⟩<;>omega) | (refine ⟨?_,?_⟩<;>omega) | (refine ⟨?_,?_,?_⟩<;>omega) | exact nT | exact nA | exact nR | exact lt_flat lt_tableAV _ | exact lt_flat lt_actionAV _ | exact lt_flat lt_roleAV _ | (simp only [List.length_append,yaz];omega) | (simp [zik,zjs,zgl,zgm,zgn,zgo,zgp,zgt];done) | (simp [zik,zjs,zgl,zgm,zgn,zgo,zgp,zgt];omega)) ?_)
    refine weak_room (H.nx+1+1+1) (cs:=(S.tables.map tableAV).flatMap AV.cells) (by simp [zlb,heap_get_set,zky,zkz]) fun kk=>?_
    obtain ⟨C0,Z,hC,hfl,hrow⟩:=row_split agg_table (by decide) kk S.tables A B m hAB
    replace hrow:=hrow { m with name:=t }
    rw [hAl] at hC
    have hcl2:tableAV m=.agg ((tableAV m).cells):=rfl
    simp only [tableAV,zik] at hfl hrow
    have hC1:=hC.symm
    simp only [blkE,blkP,bhq,Nat.reduceMod,Nat.reduceDiv,stepH,stepM,toMs1,toMs,toMs0,strK,pubK,pubF,pubV,yaq,yar,yao,yap,go_sem,schC,ea,et,er,ybb,hfl,Int.toNat_natCast,hC1,splice_at0,getD_at0,yal,yak,p_headOf,p_ZMod,hi,hq,Int.reduceBEq,inL]
    (repeat with_reducible refine And.intro (by first | decide | assumption | omega | (refine ⟨?_,?_,oa⟩<;>omega) | (refine ⟨?_,?_,ot⟩<;>omega) | (refine ⟨?_,?_,or'⟩<;>omega) | (refine ⟨?_,?_,of'⟩<;>omega) | (refine ⟨?_,?_,ox⟩<;>omega) | (refine ⟨?_,?_,os⟩<;>omega) | (refine ⟨?_,?_⟩<;>omega) | (refine ⟨?_,?_,?_⟩<;>omega) | exact nT | exact nA | exact nR | exact lt_flat lt_tableAV _ | exact lt_flat lt_actionAV _ | exact lt_flat lt_roleAV _ | (simp only [List.length_append,yaz];omega) | (simp [zik,zjs,zgl,zgm,zgn,zgo,zgp,zgt];done) | (simp [zik,zjs,zgl,zgm,zgn,zgo,zgp,zgt];omega)) ?_)
    try simp only [blkE,blkP,bhq,Nat.reduceMod,Nat.reduceDiv,stepH,stepM,toMs1,toMs,toMs0,strK,pubK,pubF,pubV,yaq,yar,yao,yap,go_sem,schC,ea,et,er,ybb,hfl,Int.toNat_natCast,hC1,splice_at0,getD_at0,yal,yak,p_headOf,p_ZMod,hi,hq,Int.reduceBEq,inL]
    refine ⟨⟨.inl ⟨.inl rfl,rfl,rfl⟩,.inl ⟨.inl rfl,rfl,rfl⟩,.inl ⟨.inl rfl,rfl,rfl⟩,.inl ⟨.inl rfl,rfl,rfl⟩,wk_ms ?_ hrow (get_ge (by omega)),.inl ⟨.inl rfl,rfl,rfl⟩,.inl ⟨.inl rfl,rfl,rfl⟩,.inl ⟨.inl rfl,rfl,rfl⟩,rfl,rfl,trivial⟩,by repeat (first | exact AHeap.Le.refl _ | refine AHeap.Le.push ?_ _),hcl,lS⟩
    simp only [go_sem,inL,splice_nil0]
  skip
  · skip
    refine ACalls.of_aw (Ω:=[(54,Ent.pure p_headOf),(19,Ent.pure p_ZMod)]) (T:=assoc [(1,[[],[],[],[2],[],[],[],[2,6],[],[],[],[2,6,10],[],[2,6,10],[],[2,6,10],[],[2,6,10]]),(18,[[],[],[],[],[],[],[],[],[4,7],[],[],[],[],[4,7],[],[],[1,4,7]]),(24,[[],[],[],[],[],[],[],[],[],[],[5,9],[],[],[5,9],[],[],[1,5,9]]),(26,[[],[],[],[],[],[],[],[],[4,7],[],[],[],[],[],[],[],[4,7],[],[],[1,4,7]]),(801,[[100000],[100004],[100008]]),(818,[[100002],[100012]]),(824,[[100003],[100012]]),(826,[[100002],[100015]]),(1201,[[300000,300004,300008,200003]]),(2,[[1]]),(27,[[1]]),(1218,[[300002]]),(1224,[[300003]]),(1226,[[300002]])]) mixed (TblOk.cons ok_headOf (TblOk.cons ok_ZMod TblOk.nil)) Tryz.func16 (by kernel_rfl) (by rfl) (rs:=[.cell 8 31]) (by rfl) (by kernel_rfl) (by simp only [Tryz.ntmps16,yaz,yba];decide) (Nat.le_refl _) fun hcl hlt=>?_
    change aw _ _ _ (KI Tryz.prog [(54,Ent.pure p_headOf),(19,Ent.pure p_ZMod)] (aEnd Tryz.prog [.cell 8 31] H.nx _ _ (assoc [(1,[[],[],[],[2],[],[],[],[2,6],[],[],[],[2,6,10],[],[2,6,10],[],[2,6,10],[],[2,6,10]]),(18,[[],[],[],[],[],[],[],[],[4,7],[],[],[],[],[4,7],[],[],[1,4,7]]),(24,[[],[],[],[],[],[],[],[],[],[],[5,9],[],[],[5,9],[],[],[1,5,9]]),(26,[[],[],[],[],[],[],[],[],[4,7],[],[],[],[],[],[],[],[4,7],[],[],[1,4,7]]),(801,[[100000],[100004],[100008]]),(818,[[100002],[100012]]),(824,[[100003],[100012]]),(826,[[100002],[100015]]),(1201,[[300000,300004,300008,200003]]),(2,[[1]]),(27,[[1]]),(1218,[[300002]]),(1224,[[300003]]),(1226,[[300002]])])) []) _ _
    clear hlt
    simp only [Int.reduceEq,if_true,if_false] at hR
    obtain ⟨A,m,B,hAl,hAB⟩:=split_at (l:=S.actions) (i:=2) (by omega)
    have hup:R={ S with actions:=A++({ m with params:=m.params++[⟨t,n⟩] }:SAction)::B }:=by
      rw [← hR,hAB,← hAl,updAt_app]
    rw [hup] at lS ⊢
    clear hup hR
    simp only [blkE,blkP,bhq,Nat.reduceMod,Nat.reduceDiv,stepH,stepM,toMs1,toMs,toMs0,strK,pubK,pubF,pubV,yaq,yar,yao,yap,go_sem,schC,ea,et,er,ybb]
    (repeat with_reducible refine And.intro (by first | decide | assumption | omega | (refine ⟨?_,?_,oa⟩<;>omega) | (refine ⟨?_,?_,ot⟩<;>omega) | (refine ⟨?_,?_,or'⟩<;>omega) | (refine ⟨?_,?_,of'⟩<;>omega) | (refine ⟨?_,?_,ox⟩<;>omega) | (refine ⟨?_,?_,os⟩<;>omega) | (refine ⟨?_,?_⟩<;>omega) | (refine ⟨?_,?_,?_⟩<;>omega) | exact nT | exact nA | exact nR | exact lt_flat lt_tableAV _ | exact lt_flat lt_actionAV _ | exact lt_flat lt_roleAV _ | (simp only [List.length_append,yaz];omega) | (simp [zik,zjs,zgl,zgm,zgn,zgo,zgp,zgt];done) | (simp [zik,zjs,zgl,zgm,zgn,zgo,zgp,zgt];omega)) ?_)
    refine weak_room (H.nx+1+1) (cs:=(S.actions.map actionAV).flatMap AV.cells) (by simp [zlb,heap_get_set,zky,zkz]) fun kk=>?_
    obtain ⟨C0,Z,hC,hfl,hrow⟩:=row_split agg_action (by decide) kk S.actions A B m hAB
    replace hrow:=hrow { m with params:=m.params++[⟨t,n⟩] }
    rw [hAl] at hC
    have hcl2:actionAV m=.agg ((actionAV m).cells):=rfl
    simp only [actionAV,zik] at hfl hrow
    have hs1:∀ Y v,splice (C0++Y) 12 v=C0++splice Y 2 v:=fun Y v=>by have:=splice_at0 C0 Y 2 v;rw [hC] at this;exact this
    have hs2:∀ Y d,(C0++Y).getD 12 d=Y.getD 2 d:=fun Y d=>by have:=getD_at0 C0 Y 2 d;rw [hC] at this;exact this
    have hm9:=(sp m (by rw [hAB];simp)).1
    have oz:∀ z∈List.map paramAV m.params,allOne z.cells=true:=fun z hz=>by
      obtain ⟨x,_,rfl⟩:=List.mem_map.1 hz;rfl
    cases hie:(List.map paramAV m.params).isEmpty
    · skip
      simp only [blkE,blkP,bhq,Nat.reduceMod,Nat.reduceDiv,stepH,stepM,toMs1,toMs,toMs0,strK,pubK,pubF,pubV,yaq,yar,yao,yap,go_sem,schC,ea,et,er,ybb,hfl,hie,List.isEmpty_cons,hs1,hs2,yal,yak,p_headOf,p_ZMod,hi,hq,Int.reduceBEq,inL]
      (repeat with_reducible refine And.intro (by first | decide | assumption | omega | (refine ⟨?_,?_,oa⟩<;>omega) | (refine ⟨?_,?_,ot⟩<;>omega) | (refine ⟨?_,?_,or'⟩<;>omega) | (refine ⟨?_,?_,of'⟩<;>omega) | (refine ⟨?_,?_,ox⟩<;>omega) | (refine ⟨?_,?_,os⟩<;>omega) | (refine ⟨?_,?_⟩<;>omega) | (refine ⟨?_,?_,?_⟩<;>omega) | (refine ⟨?_,?_,oz⟩<;>omega) | exact nT | exact nA | exact nR | exact lt_flat lt_tableAV _ | exact lt_flat lt_actionAV _ | exact lt_flat lt_roleAV _ | (simp only [List.length_append,yaz];omega) | (simp [zik,zjs,zgl,zgm,zgn,zgo,zgp,zgt];done) | (simp [zik,zjs,zgl,zgm,zgn,zgo,zgp,zgt];omega)) ?_)
      try simp only [blkE,blkP,bhq,Nat.reduceMod,Nat.reduceDiv,stepH,stepM,toMs1,toMs,toMs0,strK,pubK,pubF,pubV,yaq,yar,yao,yap,go_sem,schC,ea,et,er,ybb,hfl,hie,List.isEmpty_cons,hs1,hs2,yal,yak,p_headOf,p_ZMod,hi,hq,Int.reduceBEq,inL]
      refine weak_obj (H.nx+1+1) (cs:=C0++([.int .i64 m.id,.str m.name,.slice (.own (H.nx+1+1+1+1+1)) 2 (List.map paramAV m.params++[.agg [.str t,.int .i64 n]]),.slice .any 6 (m.body.map primAV),.str m.restr]++Z)) (C0++((actionAV { m with params:=m.params++[⟨t,n⟩] }).cells++Z)) (by first | rfl | (simp only [go_sem];done) | (simp only [go_sem];rfl)) (wkDL_app (wkDL_self _) (wkDL_app (by simp [actionAV,zik,wkDL_cons,wkDL_nil,wkD_int,wkD_str,wkD_slice,wkM,wkDR_same,paramAV,primAV,vc,inL,hiV_hi2,hiV_lo2,wkDR_same]) (wkDL_self _))) ?_
      simp only [actionAV,zik,inL]
      simp only [blkE,blkP,bhq,Nat.reduceMod,Nat.reduceDiv,stepH,stepM,toMs1,toMs,toMs0,strK,pubK,pubF,pubV,yaq,yar,yao,yap,go_sem,schC,ea,et,er,ybb,hfl,hs1,hs2,yal,yak,p_headOf,p_ZMod,hi,hq,Int.reduceBEq,inL]
      try (repeat with_reducible refine And.intro (by first | decide | assumption | omega | (refine ⟨?_,?_,oa⟩<;>omega) | (refine ⟨?_,?_,ot⟩<;>omega) | (refine ⟨?_,?_,or'⟩<;>omega) | (refine ⟨?_,?_,of'⟩<;>omega) | (refine ⟨?_,?_,ox⟩<;>omega) | (refine ⟨?_,?_,os⟩<;>omega) | (refine ⟨?_,?_⟩<;>omega) | (refine ⟨?_,?_,?_⟩<;>omega) | (refine ⟨?_,?_,oz⟩<;>omega) | exact nT | exact nA | exact nR | exact lt_flat lt_tableAV _ | exact lt_flat lt_actionAV _ | exact lt_flat lt_roleAV _ | (simp only [List.length_append,yaz];omega) | (simp [zik,zjs,zgl,zgm,zgn,zgo,zgp,zgt];done) | (simp [zik,zjs,zgl,zgm,zgn,zgo,zgp,zgt];omega)) ?_)
      refine ⟨⟨.inl ⟨.inl rfl,rfl,rfl⟩,.inl ⟨.inl rfl,rfl,rfl⟩,.inl ⟨.inl rfl,rfl,rfl⟩,wk_ms ?_ hrow (get_ge (by omega)),.inl ⟨.inl rfl,rfl,rfl⟩,.inl ⟨.inl rfl,rfl,rfl⟩,.inl ⟨.inl rfl,rfl,rfl⟩,.inl ⟨.inl rfl,rfl,rfl⟩,rfl,rfl,trivial⟩,by repeat (first | exact AHeap.Le.refl _ | refine AHeap.Le.push ?_ _),hcl,lS⟩
      try simp only [go_sem,inL,splice_nil0]
    · skip
      simp only [blkE,blkP,bhq,Nat.reduceMod,Nat.reduceDiv,stepH,stepM,toMs1,toMs,toMs0,strK,pubK,pubF,pubV,yaq,yar,yao,yap,go_sem,schC,ea,et,er,ybb,hfl,hie,List.isEmpty_cons,hs1,hs2,yal,yak,p_headOf,p_ZMod,hi,hq,Int.reduceBEq,inL]
      (repeat with_reducible refine And.intro (by first | decide | assumption | omega | (refine ⟨?_,?_,oa⟩<;>omega) | (refine ⟨?_,?_,ot⟩<;>omega) | (refine ⟨?_,?_,or'⟩<;>omega) | (refine ⟨?_,?_,of'⟩<;>omega) | (refine ⟨?_,?_,ox⟩<;>omega) | (refine ⟨?_,?_,os⟩<;>omega) | (refine ⟨?_,?_⟩<;>omega) | (refine ⟨?_,?_,?_⟩<;>omega) | (refine ⟨?_,?_,oz⟩<;>omega) | exact nT | exact nA | exact nR | exact lt_flat lt_tableAV _ | exact lt_flat lt_actionAV _ | exact lt_flat lt_roleAV _ | (simp only [List.length_append,yaz];omega) | (simp [zik,zjs,zgl,zgm,zgn,zgo,zgp,zgt];done) | (simp [zik,zjs,zgl,zgm,zgn,zgo,zgp,zgt];omega)) ?_)
      try simp only [blkE,blkP,bhq,Nat.reduceMod,Nat.reduceDiv,stepH,stepM,toMs1,toMs,toMs0,strK,pubK,pubF,pubV,yaq,yar,yao,yap,go_sem,schC,ea,et,er,ybb,hfl,hie,List.isEmpty_cons,hs1,hs2,yal,yak,p_headOf,p_ZMod,hi,hq,Int.reduceBEq,inL]
      refine weak_obj (H.nx+1+1) (cs:=C0++([.int .i64 m.id,.str m.name,.slice (.own (H.nx+1+1+1+1+1+1)) 2 (List.map paramAV m.params++[.agg [.str t,.int .i64 n]]),.slice .any 6 (m.body.map primAV),.str m.restr]++Z)) (C0++((actionAV { m with params:=m.params++[⟨t,n⟩] }).cells++Z)) (by first | rfl | (simp only [go_sem];done) | (simp only [go_sem];rfl)) (wkDL_app (wkDL_self _) (wkDL_app (by simp [actionAV,zik,wkDL_cons,wkDL_nil,wkD_int,wkD_str,wkD_slice,wkM,wkDR_same,paramAV,primAV,vc,inL,hiV_hi2,hiV_lo2,wkDR_same]) (wkDL_self _))) ?_
      simp only [actionAV,zik,inL]
      simp only [blkE,blkP,bhq,Nat.reduceMod,Nat.reduceDiv,stepH,stepM,toMs1,toMs,toMs0,strK,pubK,pubF,pubV,yaq,yar,yao,yap,go_sem,schC,ea,et,er,ybb,hfl,hs1,hs2,yal,yak,p_headOf,p_ZMod,hi,hq,Int.reduceBEq,inL]
      try (repeat with_reducible refine And.intro (by first | decide | assumption | omega | (refine ⟨?_,?_,oa⟩<;>omega) | (refine ⟨?_,?_,ot⟩<;>omega) | (refine ⟨?_,?_,or'⟩<;>omega) | (refine ⟨?_,?_,of'⟩<;>omega) | (refine ⟨?_,?_,ox⟩<;>omega) | (refine ⟨?_,?_,os⟩<;>omega) | (refine ⟨?_,?_⟩<;>omega) | (refine ⟨?_,?_,?_⟩<;>omega) | (refine ⟨?_,?_,oz⟩<;>omega) | exact nT | exact nA | exact nR | exact lt_flat lt_tableAV _ | exact lt_flat lt_actionAV _ | exact lt_flat lt_roleAV _ | (simp only [List.length_append,yaz];omega) | (simp [zik,zjs,zgl,zgm,zgn,zgo,zgp,zgt];done) | (simp [zik,zjs,zgl,zgm,zgn,zgo,zgp,zgt];omega)) ?_)
      refine ⟨⟨.inl ⟨.inl rfl,rfl,rfl⟩,.inl ⟨.inl rfl,rfl,rfl⟩,.inl ⟨.inl rfl,rfl,rfl⟩,wk_ms ?_ hrow (get_ge (by omega)),.inl ⟨.inl rfl,rfl,rfl⟩,.inl ⟨.inl rfl,rfl,rfl⟩,.inl ⟨.inl rfl,rfl,rfl⟩,.inl ⟨.inl rfl,rfl,rfl⟩,rfl,rfl,trivial⟩,by repeat (first | exact AHeap.Le.refl _ | refine AHeap.Le.push ?_ _),hcl,lS⟩
      try simp only [go_sem,inL,splice_nil0]
  skip
  · skip
    refine ACalls.of_aw (Ω:=[(54,Ent.pure p_headOf),(19,Ent.pure p_ZMod)]) (T:=assoc [(1,[[],[],[],[2],[],[],[],[2,6],[],[],[],[2,6,10],[],[2,6,10],[],[2,6,10],[],[2,6,10]]),(18,[[],[],[],[],[],[],[],[],[4,7],[],[],[],[],[4,7],[],[],[1,4,7]]),(24,[[],[],[],[],[],[],[],[],[],[],[5,9],[],[],[5,9],[],[],[1,5,9]]),(26,[[],[],[],[],[],[],[],[],[4,7],[],[],[],[],[],[],[],[4,7],[],[],[1,4,7]]),(801,[[100000],[100004],[100008]]),(818,[[100002],[100012]]),(824,[[100003],[100012]]),(826,[[100002],[100015]]),(1201,[[300000,300004,300008,200011]]),(2,[[1]]),(1218,[[300002]]),(1224,[[300003]]),(1226,[[300002]])]) mixed (TblOk.cons ok_headOf (TblOk.cons ok_ZMod TblOk.nil)) Tryz.func16 (by kernel_rfl) (by rfl) (rs:=[.cell 8 31]) (by rfl) (by kernel_rfl) (by simp only [Tryz.ntmps16,yaz,yba];decide) (Nat.le_refl _) fun hcl hlt=>?_
    change aw _ _ _ (KI Tryz.prog [(54,Ent.pure p_headOf),(19,Ent.pure p_ZMod)] (aEnd Tryz.prog [.cell 8 31] H.nx _ _ (assoc [(1,[[],[],[],[2],[],[],[],[2,6],[],[],[],[2,6,10],[],[2,6,10],[],[2,6,10],[],[2,6,10]]),(18,[[],[],[],[],[],[],[],[],[4,7],[],[],[],[],[4,7],[],[],[1,4,7]]),(24,[[],[],[],[],[],[],[],[],[],[],[5,9],[],[],[5,9],[],[],[1,5,9]]),(26,[[],[],[],[],[],[],[],[],[4,7],[],[],[],[],[],[],[],[4,7],[],[],[1,4,7]]),(801,[[100000],[100004],[100008]]),(818,[[100002],[100012]]),(824,[[100003],[100012]]),(826,[[100002],[100015]]),(1201,[[300000,300004,300008,200011]]),(2,[[1]]),(1218,[[300002]]),(1224,[[300003]]),(1226,[[300002]])])) []) _ _
    clear hlt
    simp only [Int.reduceEq,if_true,if_false] at hR
    obtain ⟨A,m,B,hAl,hAB⟩:=split_at (l:=S.roles) (i:=1) (by omega)
    have hup:R={ S with roles:=A++({ m with quota:=n }:SRole)::B }:=by
      rw [← hR,hAB,← hAl,updAt_app]
    rw [hup] at lS ⊢
    clear hup hR
    simp only [blkE,blkP,bhq,Nat.reduceMod,Nat.reduceDiv,stepH,stepM,toMs1,toMs,toMs0,strK,pubK,pubF,pubV,yaq,yar,yao,yap,go_sem,schC,ea,et,er,ybb]
    (repeat with_reducible refine And.intro (by first | decide | assumption | omega | (refine ⟨?_,?_,oa⟩<;>omega) | (refine ⟨?_,?_,ot⟩<;>omega) | (refine ⟨?_,?_,or'⟩<;>omega) | (refine ⟨?_,?_,of'⟩<;>omega) | (refine ⟨?_,?_,ox⟩<;>omega) | (refine ⟨?_,?_,os⟩<;>omega) | (refine ⟨?_,?_⟩<;>omega) | (refine ⟨?_,?_,?_⟩<;>omega) | exact nT | exact nA | exact nR | exact lt_flat lt_tableAV _ | exact lt_flat lt_actionAV _ | exact lt_flat lt_roleAV _ | (simp only [List.length_append,yaz];omega) | (simp [zik,zjs,zgl,zgm,zgn,zgo,zgp,zgt];done) | (simp [zik,zjs,zgl,zgm,zgn,zgo,zgp,zgt];omega)) ?_)
    refine weak_room (H.nx+1+1+1+1) (cs:=(S.roles.map roleAV).flatMap AV.cells) (by simp [zlb,heap_get_set,zky,zkz]) fun kk=>?_
    obtain ⟨C0,Z,hC,hfl,hrow⟩:=row_split agg_role (by decide) kk S.roles A B m hAB
    replace hrow:=hrow { m with quota:=n }
    rw [hAl] at hC
    have hcl2:roleAV m=.agg ((roleAV m).cells):=rfl
    simp only [roleAV,zik] at hfl hrow
    have hs1:∀ Y v,splice (C0++Y) 10 v=C0++splice Y 4 v:=fun Y v=>by have:=splice_at0 C0 Y 4 v;rw [hC] at this;exact this
    have hs2:∀ Y d,(C0++Y).getD 10 d=Y.getD 4 d:=fun Y d=>by have:=getD_at0 C0 Y 4 d;rw [hC] at this;exact this
    simp only [blkE,blkP,bhq,Nat.reduceMod,Nat.reduceDiv,stepH,stepM,toMs1,toMs,toMs0,strK,pubK,pubF,pubV,yaq,yar,yao,yap,go_sem,schC,ea,et,er,ybb,hfl,hs1,hs2,yal,yak,p_headOf,p_ZMod,hi,hq,Int.reduceBEq,inL]
    (repeat with_reducible refine And.intro (by first | decide | assumption | omega | (refine ⟨?_,?_,oa⟩<;>omega) | (refine ⟨?_,?_,ot⟩<;>omega) | (refine ⟨?_,?_,or'⟩<;>omega) | (refine ⟨?_,?_,of'⟩<;>omega) | (refine ⟨?_,?_,ox⟩<;>omega) | (refine ⟨?_,?_,os⟩<;>omega) | (refine ⟨?_,?_⟩<;>omega) | (refine ⟨?_,?_,?_⟩<;>omega) | exact nT | exact nA | exact nR | exact lt_flat lt_tableAV _ | exact lt_flat lt_actionAV _ | exact lt_flat lt_roleAV _ | (simp only [List.length_append,yaz];omega) | (simp [zik,zjs,zgl,zgm,zgn,zgo,zgp,zgt];done) | (simp [zik,zjs,zgl,zgm,zgn,zgo,zgp,zgt];omega)) ?_)
    try simp only [blkE,blkP,bhq,Nat.reduceMod,Nat.reduceDiv,stepH,stepM,toMs1,toMs,toMs0,strK,pubK,pubF,pubV,yaq,yar,yao,yap,go_sem,schC,ea,et,er,ybb,hfl,hs1,hs2,yal,yak,p_headOf,p_ZMod,hi,hq,Int.reduceBEq,inL]
    refine ⟨⟨.inl ⟨.inl rfl,rfl,rfl⟩,.inl ⟨.inl rfl,rfl,rfl⟩,.inl ⟨.inl rfl,rfl,rfl⟩,.inl ⟨.inl rfl,rfl,rfl⟩,.inl ⟨.inl rfl,rfl,rfl⟩,.inl ⟨.inl rfl,rfl,rfl⟩,wk_ms ?_ hrow (get_ge (by omega)),.inl ⟨.inl rfl,rfl,rfl⟩,rfl,rfl,trivial⟩,by repeat (first | exact AHeap.Le.refl _ | refine AHeap.Le.push ?_ _),hcl,lS⟩
    simp only [go_sem,inL,splice_nil0]
  skip
  · skip
    refine ACalls.of_aw (Ω:=[(54,Ent.pure p_headOf),(19,Ent.pure p_ZMod)]) (T:=assoc [(1,[[],[],[],[2],[],[],[],[2,6],[],[],[],[2,6,10],[],[2,6,10],[],[2,6,10],[],[2,6,10]]),(18,[[],[],[],[],[],[],[],[],[4,7],[],[],[],[],[4,7],[],[],[1,4,7]]),(24,[[],[],[],[],[],[],[],[],[],[],[5,9],[],[],[5,9],[],[],[1,5,9]]),(26,[[],[],[],[],[],[],[],[],[4,7],[],[],[],[],[],[],[],[4,7],[],[],[1,4,7]]),(801,[[100000],[100004],[100008]]),(818,[[100002],[100012]]),(824,[[100003],[100012]]),(826,[[100002],[100015]]),(1201,[[300000,300004,300008]]),(1218,[[300002]]),(1224,[[300003]]),(1226,[[300002]])]) mixed (TblOk.cons ok_headOf (TblOk.cons ok_ZMod TblOk.nil)) Tryz.func16 (by kernel_rfl) (by rfl) (rs:=[.cell 8 31]) (by rfl) (by kernel_rfl) (by simp only [Tryz.ntmps16,yaz,yba];decide) (Nat.le_refl _) fun hcl hlt=>?_
    change aw _ _ _ (KI Tryz.prog [(54,Ent.pure p_headOf),(19,Ent.pure p_ZMod)] (aEnd Tryz.prog [.cell 8 31] H.nx _ _ (assoc [(1,[[],[],[],[2],[],[],[],[2,6],[],[],[],[2,6,10],[],[2,6,10],[],[2,6,10],[],[2,6,10]]),(18,[[],[],[],[],[],[],[],[],[4,7],[],[],[],[],[4,7],[],[],[1,4,7]]),(24,[[],[],[],[],[],[],[],[],[],[],[5,9],[],[],[5,9],[],[],[1,5,9]]),(26,[[],[],[],[],[],[],[],[],[4,7],[],[],[],[],[],[],[],[4,7],[],[],[1,4,7]]),(801,[[100000],[100004],[100008]]),(818,[[100002],[100012]]),(824,[[100003],[100012]]),(826,[[100002],[100015]]),(1201,[[300000,300004,300008]]),(1218,[[300002]]),(1224,[[300003]]),(1226,[[300002]])])) []) _ _
    clear hlt
    simp only [Int.reduceEq,if_true,if_false] at hR
    subst hR
    simp only [blkE,blkP,bhq,Nat.reduceMod,Nat.reduceDiv,stepH,stepM,toMs1,toMs,toMs0,strK,pubK,pubF,pubV,yaq,yar,yao,yap,go_sem,schC,ea,et,er,ybb,p_headOf,p_ZMod,hi,hq,Int.reduceBEq]
    (repeat with_reducible refine And.intro (by first | decide | assumption | omega | (refine ⟨?_,?_,oa⟩<;>omega) | (refine ⟨?_,?_,ot⟩<;>omega) | (refine ⟨?_,?_,or'⟩<;>omega) | (refine ⟨?_,?_,of'⟩<;>omega) | (refine ⟨?_,?_,ox⟩<;>omega) | (refine ⟨?_,?_,os⟩<;>omega) | (refine ⟨?_,?_⟩<;>omega) | (refine ⟨?_,?_,?_⟩<;>omega) | exact nT | exact nA | exact nR | exact lt_flat lt_tableAV _ | exact lt_flat lt_actionAV _ | exact lt_flat lt_roleAV _ | (simp only [List.length_append,yaz];omega) | (simp [zik,zjs,zgl,zgm,zgn,zgo,zgp,zgt];done) | (simp [zik,zjs,zgl,zgm,zgn,zgo,zgp,zgt];omega)) ?_)
    refine ⟨?_,by repeat (first | exact AHeap.Le.refl _ | refine AHeap.Le.push ?_ _),hcl,lS⟩
    simp [schAV,schC,wk,wk2,wkL,wk1,wkM,fieldAV,refAV,stageAV]
  skip
  · skip
    refine ACalls.of_aw (Ω:=[(54,Ent.pure p_headOf),(19,Ent.pure p_ZMod)]) (T:=assoc [(1,[[],[],[],[2],[],[],[],[2,6],[],[],[],[2,6,10],[],[2,6,10],[],[2,6,10],[],[2,6,10]]),(18,[[],[],[],[],[],[],[],[],[4,7],[],[],[],[],[4,7],[],[],[1,4,7]]),(24,[[],[],[],[],[],[],[],[],[],[],[5,9],[],[],[5,9],[],[],[1,5,9]]),(26,[[],[],[],[],[],[],[],[],[4,7],[],[],[],[],[],[],[],[4,7],[],[],[1,4,7]]),(801,[[100000],[100004],[100008]]),(818,[[100002],[100012]]),(824,[[100003],[100012]]),(826,[[100002],[100015]]),(1201,[[300000,300004,300008,200007]]),(2,[[1]]),(27,[[1]]),(1218,[[300002]]),(1224,[[300003]]),(1226,[[300002]])]) mixed (TblOk.cons ok_headOf (TblOk.cons ok_ZMod TblOk.nil)) Tryz.func16 (by kernel_rfl) (by rfl) (rs:=[.cell 8 31]) (by rfl) (by kernel_rfl) (by simp only [Tryz.ntmps16,yaz,yba];decide) (Nat.le_refl _) fun hcl hlt=>?_
    change aw _ _ _ (KI Tryz.prog [(54,Ent.pure p_headOf),(19,Ent.pure p_ZMod)] (aEnd Tryz.prog [.cell 8 31] H.nx _ _ (assoc [(1,[[],[],[],[2],[],[],[],[2,6],[],[],[],[2,6,10],[],[2,6,10],[],[2,6,10],[],[2,6,10]]),(18,[[],[],[],[],[],[],[],[],[4,7],[],[],[],[],[4,7],[],[],[1,4,7]]),(24,[[],[],[],[],[],[],[],[],[],[],[5,9],[],[],[5,9],[],[],[1,5,9]]),(26,[[],[],[],[],[],[],[],[],[4,7],[],[],[],[],[],[],[],[4,7],[],[],[1,4,7]]),(801,[[100000],[100004],[100008]]),(818,[[100002],[100012]]),(824,[[100003],[100012]]),(826,[[100002],[100015]]),(1201,[[300000,300004,300008,200007]]),(2,[[1]]),(27,[[1]]),(1218,[[300002]]),(1224,[[300003]]),(1226,[[300002]])])) []) _ _
    clear hlt
    simp only [Int.reduceEq,if_true,if_false] at hR
    obtain ⟨A,m,B,hAl,hAB⟩:=split_at (l:=S.tables) (i:=i) (by omega)
    have hup:R={ S with tables:=A++({ m with actions:=m.actions++[n] }:STable)::B }:=by
      rw [← hR,hAB,← hAl,updAt_app]
    rw [hup] at lS ⊢
    clear hup hR
    simp only [blkE,blkP,bhq,Nat.reduceMod,Nat.reduceDiv,stepH,stepM,toMs1,toMs,toMs0,strK,pubK,pubF,pubV,yaq,yar,yao,yap,go_sem,schC,ea,et,er,ybb]
    (repeat with_reducible refine And.intro (by first | decide | assumption | omega | (refine ⟨?_,?_,oa⟩<;>omega) | (refine ⟨?_,?_,ot⟩<;>omega) | (refine ⟨?_,?_,or'⟩<;>omega) | (refine ⟨?_,?_,of'⟩<;>omega) | (refine ⟨?_,?_,ox⟩<;>omega) | (refine ⟨?_,?_,os⟩<;>omega) | (refine ⟨?_,?_⟩<;>omega) | (refine ⟨?_,?_,?_⟩<;>omega) | exact nT | exact nA | exact nR | exact lt_flat lt_tableAV _ | exact lt_flat lt_actionAV _ | exact lt_flat lt_roleAV _ | (simp only [List.length_append,yaz];omega) | (simp [zik,zjs,zgl,zgm,zgn,zgo,zgp,zgt];done) | (simp [zik,zjs,zgl,zgm,zgn,zgo,zgp,zgt];omega)) ?_)
    refine weak_room (H.nx+1+1+1) (cs:=(S.tables.map tableAV).flatMap AV.cells) (by simp [zlb,heap_get_set,zky,zkz]) fun kk=>?_
    obtain ⟨C0,Z,hC,hfl,hrow⟩:=row_split agg_table (by decide) kk S.tables A B m hAB
    replace hrow:=hrow { m with actions:=m.actions++[n] }
    rw [hAl] at hC
    have hcl2:tableAV m=.agg ((tableAV m).cells):=rfl
    simp only [tableAV,zik] at hfl hrow
    have hC1:=hC.symm
    have hm9:=sc m (by rw [hAB];simp)
    have oz:∀ z∈List.map (AV.int .i64) m.actions,allOne z.cells=true:=fun z hz=>by
      obtain ⟨x,_,rfl⟩:=List.mem_map.1 hz;rfl
    cases hie:(List.map (AV.int .i64) m.actions).isEmpty
    · skip
      simp only [blkE,blkP,bhq,Nat.reduceMod,Nat.reduceDiv,stepH,stepM,toMs1,toMs,toMs0,strK,pubK,pubF,pubV,yaq,yar,yao,yap,go_sem,schC,ea,et,er,ybb,hfl,hie,List.isEmpty_cons,Int.toNat_natCast,hC1,splice_at0,getD_at0,yal,yak,p_headOf,p_ZMod,hi,hq,Int.reduceBEq,inL]
      (repeat with_reducible refine And.intro (by first | decide | assumption | omega | (refine ⟨?_,?_,oa⟩<;>omega) | (refine ⟨?_,?_,ot⟩<;>omega) | (refine ⟨?_,?_,or'⟩<;>omega) | (refine ⟨?_,?_,of'⟩<;>omega) | (refine ⟨?_,?_,ox⟩<;>omega) | (refine ⟨?_,?_,os⟩<;>omega) | (refine ⟨?_,?_⟩<;>omega) | (refine ⟨?_,?_,?_⟩<;>omega) | (refine ⟨?_,?_,oz⟩<;>omega) | exact nT | exact nA | exact nR | exact lt_flat lt_tableAV _ | exact lt_flat lt_actionAV _ | exact lt_flat lt_roleAV _ | (simp only [List.length_append,yaz];omega) | (simp [zik,zjs,zgl,zgm,zgn,zgo,zgp,zgt];done) | (simp [zik,zjs,zgl,zgm,zgn,zgo,zgp,zgt];omega)) ?_)
      try simp only [blkE,blkP,bhq,Nat.reduceMod,Nat.reduceDiv,stepH,stepM,toMs1,toMs,toMs0,strK,pubK,pubF,pubV,yaq,yar,yao,yap,go_sem,schC,ea,et,er,ybb,hfl,hie,List.isEmpty_cons,Int.toNat_natCast,hC1,splice_at0,getD_at0,yal,yak,p_headOf,p_ZMod,hi,hq,Int.reduceBEq,inL]
      refine weak_obj (H.nx+1+1+1) (cs:=C0++([.int .i64 m.id,.str m.name,.slice .any 3 (m.keys.map keyAV),.slice (.own (H.nx+1+1+1+1+1)) 1 (List.map (AV.int .i64) m.actions++[.int .i64 n]),.int .i64 m.dflt,.slice .any 2 (m.dargs.map vv),.int .i64 m.size,.str m.restr]++Z)) (C0++((tableAV { m with actions:=m.actions++[n] }).cells++Z)) (by first | rfl | (simp only [go_sem];done) | (simp only [go_sem];rfl)) (wkDL_app (wkDL_self _) (wkDL_app (by simp [tableAV,zik,wkDL_cons,wkDL_nil,wkD_int,wkD_str,wkD_slice,wkM,wkDR_same,paramAV,primAV,vc,inL,hiV_hi2,hiV_lo2,wkDR_same]) (wkDL_self _))) ?_
      simp only [tableAV,zik,inL]
      simp only [blkE,blkP,bhq,Nat.reduceMod,Nat.reduceDiv,stepH,stepM,toMs1,toMs,toMs0,strK,pubK,pubF,pubV,yaq,yar,yao,yap,go_sem,schC,ea,et,er,ybb,hfl,Int.toNat_natCast,hC1,splice_at0,getD_at0,yal,yak,p_headOf,p_ZMod,hi,hq,Int.reduceBEq,inL]
      try (repeat with_reducible refine And.intro (by first | decide | assumption | omega | (refine ⟨?_,?_,oa⟩<;>omega) | (refine ⟨?_,?_,ot⟩<;>omega) | (refine ⟨?_,?_,or'⟩<;>omega) | (refine ⟨?_,?_,of'⟩<;>omega) | (refine ⟨?_,?_,ox⟩<;>omega) | (refine ⟨?_,?_,os⟩<;>omega) | (refine ⟨?_,?_⟩<;>omega) | (refine ⟨?_,?_,?_⟩<;>omega) | (refine ⟨?_,?_,oz⟩<;>omega) | exact nT | exact nA | exact nR | exact lt_flat lt_tableAV _ | exact lt_flat lt_actionAV _ | exact lt_flat lt_roleAV _ | (simp only [List.length_append,yaz];omega) | (simp [zik,zjs,zgl,zgm,zgn,zgo,zgp,zgt];done) | (simp [zik,zjs,zgl,zgm,zgn,zgo,zgp,zgt];omega)) ?_)
      refine ⟨⟨.inl ⟨.inl rfl,rfl,rfl⟩,.inl ⟨.inl rfl,rfl,rfl⟩,.inl ⟨.inl rfl,rfl,rfl⟩,.inl ⟨.inl rfl,rfl,rfl⟩,wk_ms ?_ hrow (get_ge (by omega)),.inl ⟨.inl rfl,rfl,rfl⟩,.inl ⟨.inl rfl,rfl,rfl⟩,.inl ⟨.inl rfl,rfl,rfl⟩,rfl,rfl,trivial⟩,by repeat (first | exact AHeap.Le.refl _ | refine AHeap.Le.push ?_ _),hcl,lS⟩
      try simp only [go_sem,inL,splice_nil0]
    · skip
      simp only [blkE,blkP,bhq,Nat.reduceMod,Nat.reduceDiv,stepH,stepM,toMs1,toMs,toMs0,strK,pubK,pubF,pubV,yaq,yar,yao,yap,go_sem,schC,ea,et,er,ybb,hfl,hie,List.isEmpty_cons,Int.toNat_natCast,hC1,splice_at0,getD_at0,yal,yak,p_headOf,p_ZMod,hi,hq,Int.reduceBEq,inL]
      (repeat with_reducible refine And.intro (by first | decide | assumption | omega | (refine ⟨?_,?_,oa⟩<;>omega) | (refine ⟨?_,?_,ot⟩<;>omega) | (refine ⟨?_,?_,or'⟩<;>omega) | (refine ⟨?_,?_,of'⟩<;>omega) | (refine ⟨?_,?_,ox⟩<;>omega) | (refine ⟨?_,?_,os⟩<;>omega) | (refine ⟨?_,?_⟩<;>omega) | (refine ⟨?_,?_,?_⟩<;>omega) | (refine ⟨?_,?_,oz⟩<;>omega) | exact nT | exact nA | exact nR | exact lt_flat lt_tableAV _ | exact lt_flat lt_actionAV _ | exact lt_flat lt_roleAV _ | (simp only [List.length_append,yaz];omega) | (simp [zik,zjs,zgl,zgm,zgn,zgo,zgp,zgt];done) | (simp [zik,zjs,zgl,zgm,zgn,zgo,zgp,zgt];omega)) ?_)
      try simp only [blkE,blkP,bhq,Nat.reduceMod,Nat.reduceDiv,stepH,stepM,toMs1,toMs,toMs0,strK,pubK,pubF,pubV,yaq,yar,yao,yap,go_sem,schC,ea,et,er,ybb,hfl,hie,List.isEmpty_cons,Int.toNat_natCast,hC1,splice_at0,getD_at0,yal,yak,p_headOf,p_ZMod,hi,hq,Int.reduceBEq,inL]
      refine weak_obj (H.nx+1+1+1) (cs:=C0++([.int .i64 m.id,.str m.name,.slice .any 3 (m.keys.map keyAV),.slice (.own (H.nx+1+1+1+1+1+1)) 1 (List.map (AV.int .i64) m.actions++[.int .i64 n]),.int .i64 m.dflt,.slice .any 2 (m.dargs.map vv),.int .i64 m.size,.str m.restr]++Z)) (C0++((tableAV { m with actions:=m.actions++[n] }).cells++Z)) (by first | rfl | (simp only [go_sem];done) | (simp only [go_sem];rfl)) (wkDL_app (wkDL_self _) (wkDL_app (by simp [tableAV,zik,wkDL_cons,wkDL_nil,wkD_int,wkD_str,wkD_slice,wkM,wkDR_same,paramAV,primAV,vc,inL,hiV_hi2,hiV_lo2,wkDR_same]) (wkDL_self _))) ?_
      simp only [tableAV,zik,inL]
      simp only [blkE,blkP,bhq,Nat.reduceMod,Nat.reduceDiv,stepH,stepM,toMs1,toMs,toMs0,strK,pubK,pubF,pubV,yaq,yar,yao,yap,go_sem,schC,ea,et,er,ybb,hfl,Int.toNat_natCast,hC1,splice_at0,getD_at0,yal,yak,p_headOf,p_ZMod,hi,hq,Int.reduceBEq,inL]
      try (repeat with_reducible refine And.intro (by first | decide | assumption | omega | (refine ⟨?_,?_,oa⟩<;>omega) | (refine ⟨?_,?_,ot⟩<;>omega) | (refine ⟨?_,?_,or'⟩<;>omega) | (refine ⟨?_,?_,of'⟩<;>omega) | (refine ⟨?_,?_,ox⟩<;>omega) | (refine ⟨?_,?_,os⟩<;>omega) | (refine ⟨?_,?_⟩<;>omega) | (refine ⟨?_,?_,?_⟩<;>omega) | (refine ⟨?_,?_,oz⟩<;>omega) | exact nT | exact nA | exact nR | exact lt_flat lt_tableAV _ | exact lt_flat lt_actionAV _ | exact lt_flat lt_roleAV _ | (simp only [List.length_append,yaz];omega) | (simp [zik,zjs,zgl,zgm,zgn,zgo,zgp,zgt];done) | (simp [zik,zjs,zgl,zgm,zgn,zgo,zgp,zgt];omega)) ?_)
      refine ⟨⟨.inl ⟨.inl rfl,rfl,rfl⟩,.inl ⟨.inl rfl,rfl,rfl⟩,.inl ⟨.inl rfl,rfl,rfl⟩,.inl ⟨.inl rfl,rfl,rfl⟩,wk_ms ?_ hrow (get_ge (by omega)),.inl ⟨.inl rfl,rfl,rfl⟩,.inl ⟨.inl rfl,rfl,rfl⟩,.inl ⟨.inl rfl,rfl,rfl⟩,rfl,rfl,trivial⟩,by repeat (first | exact AHeap.Le.refl _ | refine AHeap.Le.push ?_ _),hcl,lS⟩
      try simp only [go_sem,inL,splice_nil0]
  skip
  · skip
    refine ACalls.of_aw (Ω:=[(54,Ent.pure p_headOf),(19,Ent.pure p_ZMod)]) (T:=assoc [(1,[[],[],[],[2],[],[],[],[2,6],[],[],[],[2,6,10],[],[2,6,10],[],[2,6,10],[],[2,6,10]]),(18,[[],[],[],[],[],[],[],[],[4,7],[],[],[],[],[4,7],[],[],[1,4,7]]),(24,[[],[],[],[],[],[],[],[],[],[],[5,9],[],[],[5,9],[],[],[1,5,9]]),(26,[[],[],[],[],[],[],[],[],[4,7],[],[],[],[],[],[],[],[4,7],[],[],[1,4,7]]),(801,[[100000],[100004],[100008]]),(818,[[100002],[100012]]),(824,[[100003],[100012]]),(826,[[100002],[100015]]),(1201,[[300000,300004,300008,200003]]),(2,[[1]]),(27,[[1]]),(1218,[[300002]]),(1224,[[300003]]),(1226,[[300002]])]) mixed (TblOk.cons ok_headOf (TblOk.cons ok_ZMod TblOk.nil)) Tryz.func16 (by kernel_rfl) (by rfl) (rs:=[.cell 8 31]) (by rfl) (by kernel_rfl) (by simp only [Tryz.ntmps16,yaz,yba];decide) (Nat.le_refl _) fun hcl hlt=>?_
    change aw _ _ _ (KI Tryz.prog [(54,Ent.pure p_headOf),(19,Ent.pure p_ZMod)] (aEnd Tryz.prog [.cell 8 31] H.nx _ _ (assoc [(1,[[],[],[],[2],[],[],[],[2,6],[],[],[],[2,6,10],[],[2,6,10],[],[2,6,10],[],[2,6,10]]),(18,[[],[],[],[],[],[],[],[],[4,7],[],[],[],[],[4,7],[],[],[1,4,7]]),(24,[[],[],[],[],[],[],[],[],[],[],[5,9],[],[],[5,9],[],[],[1,5,9]]),(26,[[],[],[],[],[],[],[],[],[4,7],[],[],[],[],[],[],[],[4,7],[],[],[1,4,7]]),(801,[[100000],[100004],[100008]]),(818,[[100002],[100012]]),(824,[[100003],[100012]]),(826,[[100002],[100015]]),(1201,[[300000,300004,300008,200003]]),(2,[[1]]),(27,[[1]]),(1218,[[300002]]),(1224,[[300003]]),(1226,[[300002]])])) []) _ _
    clear hlt
    simp only [Int.reduceEq,if_true,if_false] at hR
    obtain ⟨A,m,B,hAl,hAB⟩:=split_at (l:=S.actions) (i:=1) (by omega)
    have hup:R={ S with actions:=A++({ m with body:=m.body++[⟨n,0,0,0,hiV n⟩] }:SAction)::B }:=by
      rw [← hR,hAB,← hAl,updAt_app]
    rw [hup] at lS ⊢
    clear hup hR
    simp only [blkE,blkP,bhq,Nat.reduceMod,Nat.reduceDiv,stepH,stepM,toMs1,toMs,toMs0,strK,pubK,pubF,pubV,yaq,yar,yao,yap,go_sem,schC,ea,et,er,ybb]
    (repeat with_reducible refine And.intro (by first | decide | assumption | omega | (refine ⟨?_,?_,oa⟩<;>omega) | (refine ⟨?_,?_,ot⟩<;>omega) | (refine ⟨?_,?_,or'⟩<;>omega) | (refine ⟨?_,?_,of'⟩<;>omega) | (refine ⟨?_,?_,ox⟩<;>omega) | (refine ⟨?_,?_,os⟩<;>omega) | (refine ⟨?_,?_⟩<;>omega) | (refine ⟨?_,?_,?_⟩<;>omega) | exact nT | exact nA | exact nR | exact lt_flat lt_tableAV _ | exact lt_flat lt_actionAV _ | exact lt_flat lt_roleAV _ | (simp only [List.length_append,yaz];omega) | (simp [zik,zjs,zgl,zgm,zgn,zgo,zgp,zgt];done) | (simp [zik,zjs,zgl,zgm,zgn,zgo,zgp,zgt];omega)) ?_)
    refine weak_room (H.nx+1+1) (cs:=(S.actions.map actionAV).flatMap AV.cells) (by simp [zlb,heap_get_set,zky,zkz]) fun kk=>?_
    obtain ⟨C0,Z,hC,hfl,hrow⟩:=row_split agg_action (by decide) kk S.actions A B m hAB
    replace hrow:=hrow { m with body:=m.body++[⟨n,0,0,0,hiV n⟩] }
    rw [hAl] at hC
    have hcl2:actionAV m=.agg ((actionAV m).cells):=rfl
    simp only [actionAV,zik] at hfl hrow
    have hs1:∀ Y v,splice (C0++Y) 8 v=C0++splice Y 3 v:=fun Y v=>by have:=splice_at0 C0 Y 3 v;rw [hC] at this;exact this
    have hs2:∀ Y d,(C0++Y).getD 8 d=Y.getD 3 d:=fun Y d=>by have:=getD_at0 C0 Y 3 d;rw [hC] at this;exact this
    have hm9:=(sp m (by rw [hAB];simp)).2
    have oz:∀ z∈List.map primAV m.body,allOne z.cells=true:=fun z hz=>by
      obtain ⟨x,_,rfl⟩:=List.mem_map.1 hz;rfl
    cases hie:(List.map primAV m.body).isEmpty
    · skip
      simp only [blkE,blkP,bhq,Nat.reduceMod,Nat.reduceDiv,stepH,stepM,toMs1,toMs,toMs0,strK,pubK,pubF,pubV,yaq,yar,yao,yap,go_sem,schC,ea,et,er,ybb,hfl,hie,List.isEmpty_cons,hs1,hs2,yal,yak,p_headOf,p_ZMod,hi,hq,Int.reduceBEq,inL]
      (repeat with_reducible refine And.intro (by first | decide | assumption | omega | (refine ⟨?_,?_,oa⟩<;>omega) | (refine ⟨?_,?_,ot⟩<;>omega) | (refine ⟨?_,?_,or'⟩<;>omega) | (refine ⟨?_,?_,of'⟩<;>omega) | (refine ⟨?_,?_,ox⟩<;>omega) | (refine ⟨?_,?_,os⟩<;>omega) | (refine ⟨?_,?_⟩<;>omega) | (refine ⟨?_,?_,?_⟩<;>omega) | (refine ⟨?_,?_,oz⟩<;>omega) | exact nT | exact nA | exact nR | exact lt_flat lt_tableAV _ | exact lt_flat lt_actionAV _ | exact lt_flat lt_roleAV _ | (simp only [List.length_append,yaz];omega) | (simp [zik,zjs,zgl,zgm,zgn,zgo,zgp,zgt];done) | (simp [zik,zjs,zgl,zgm,zgn,zgo,zgp,zgt];omega)) ?_)
      try simp only [blkE,blkP,bhq,Nat.reduceMod,Nat.reduceDiv,stepH,stepM,toMs1,toMs,toMs0,strK,pubK,pubF,pubV,yaq,yar,yao,yap,go_sem,schC,ea,et,er,ybb,hfl,hie,List.isEmpty_cons,hs1,hs2,yal,yak,p_headOf,p_ZMod,hi,hq,Int.reduceBEq,inL]
      refine weak_obj (H.nx+1+1) (cs:=C0++([.int .i64 m.id,.str m.name,.slice .any 2 (m.params.map paramAV),.slice (.own (H.nx+1+1+1+1+1)) 6 (List.map primAV m.body++[.agg [.int .i64 n,.int .i64 0,.int .i64 0,.int .i64 0,.int .u64 (IntKind.u64.wrap n),.int .u64 0]]),.str m.restr]++Z)) (C0++((actionAV { m with body:=m.body++[⟨n,0,0,0,hiV n⟩] }).cells++Z)) (by first | rfl | (simp only [go_sem];done) | (simp only [go_sem];rfl)) (wkDL_app (wkDL_self _) (wkDL_app (by simp [actionAV,zik,wkDL_cons,wkDL_nil,wkD_int,wkD_str,wkD_slice,wkM,wkDR_same,paramAV,primAV,vc,inL,hiV_hi2,hiV_lo2,wkDR_same]) (wkDL_self _))) ?_
      simp only [actionAV,zik,inL]
      simp only [blkE,blkP,bhq,Nat.reduceMod,Nat.reduceDiv,stepH,stepM,toMs1,toMs,toMs0,strK,pubK,pubF,pubV,yaq,yar,yao,yap,go_sem,schC,ea,et,er,ybb,hfl,hs1,hs2,yal,yak,p_headOf,p_ZMod,hi,hq,Int.reduceBEq,inL]
      try (repeat with_reducible refine And.intro (by first | decide | assumption | omega | (refine ⟨?_,?_,oa⟩<;>omega) | (refine ⟨?_,?_,ot⟩<;>omega) | (refine ⟨?_,?_,or'⟩<;>omega) | (refine ⟨?_,?_,of'⟩<;>omega) | (refine ⟨?_,?_,ox⟩<;>omega) | (refine ⟨?_,?_,os⟩<;>omega) | (refine ⟨?_,?_⟩<;>omega) | (refine ⟨?_,?_,?_⟩<;>omega) | (refine ⟨?_,?_,oz⟩<;>omega) | exact nT | exact nA | exact nR | exact lt_flat lt_tableAV _ | exact lt_flat lt_actionAV _ | exact lt_flat lt_roleAV _ | (simp only [List.length_append,yaz];omega) | (simp [zik,zjs,zgl,zgm,zgn,zgo,zgp,zgt];done) | (simp [zik,zjs,zgl,zgm,zgn,zgo,zgp,zgt];omega)) ?_)
      refine ⟨⟨.inl ⟨.inl rfl,rfl,rfl⟩,.inl ⟨.inl rfl,rfl,rfl⟩,.inl ⟨.inl rfl,rfl,rfl⟩,wk_ms ?_ hrow (get_ge (by omega)),.inl ⟨.inl rfl,rfl,rfl⟩,.inl ⟨.inl rfl,rfl,rfl⟩,.inl ⟨.inl rfl,rfl,rfl⟩,.inl ⟨.inl rfl,rfl,rfl⟩,rfl,rfl,trivial⟩,by repeat (first | exact AHeap.Le.refl _ | refine AHeap.Le.push ?_ _),hcl,lS⟩
      try simp only [go_sem,inL,splice_nil0]
    · skip
      simp only [blkE,blkP,bhq,Nat.reduceMod,Nat.reduceDiv,stepH,stepM,toMs1,toMs,toMs0,strK,pubK,pubF,pubV,yaq,yar,yao,yap,go_sem,schC,ea,et,er,ybb,hfl,hie,List.isEmpty_cons,hs1,hs2,yal,yak,p_headOf,p_ZMod,hi,hq,Int.reduceBEq,inL]
      (repeat with_reducible refine And.intro (by first | decide | assumption | omega | (refine ⟨?_,?_,oa⟩<;>omega) | (refine ⟨?_,?_,ot⟩<;>omega) | (refine ⟨?_,?_,or'⟩<;>omega) | (refine ⟨?_,?_,of'⟩<;>omega) | (refine ⟨?_,?_,ox⟩<;>omega) | (refine ⟨?_,?_,os⟩<;>omega) | (refine ⟨?_,?_⟩<;>omega) | (refine ⟨?_,?_,?_⟩<;>omega) | (refine ⟨?_,?_,oz⟩<;>omega) | exact nT | exact nA | exact nR | exact lt_flat lt_tableAV _ | exact lt_flat lt_actionAV _ | exact lt_flat lt_roleAV _ | (simp only [List.length_append,yaz];omega) | (simp [zik,zjs,zgl,zgm,zgn,zgo,zgp,zgt];done) | (simp [zik,zjs,zgl,zgm,zgn,zgo,zgp,zgt];omega)) ?_)
      try simp only [blkE,blkP,bhq,Nat.reduceMod,Nat.reduceDiv,stepH,stepM,toMs1,toMs,toMs0,strK,pubK,pubF,pubV,yaq,yar,yao,yap,go_sem,schC,ea,et,er,ybb,hfl,hie,List.isEmpty_cons,hs1,hs2,yal,yak,p_headOf,p_ZMod,hi,hq,Int.reduceBEq,inL]
      refine weak_obj (H.nx+1+1) (cs:=C0++([.int .i64 m.id,.str m.name,.slice .any 2 (m.params.map paramAV),.slice (.own (H.nx+1+1+1+1+1+1)) 6 (List.map primAV m.body++[.agg [.int .i64 n,.int .i64 0,.int .i64 0,.int .i64 0,.int .u64 (IntKind.u64.wrap n),.int .u64 0]]),.str m.restr]++Z)) (C0++((actionAV { m with body:=m.body++[⟨n,0,0,0,hiV n⟩] }).cells++Z)) (by first | rfl | (simp only [go_sem];done) | (simp only [go_sem];rfl)) (wkDL_app (wkDL_self _) (wkDL_app (by simp [actionAV,zik,wkDL_cons,wkDL_nil,wkD_int,wkD_str,wkD_slice,wkM,wkDR_same,paramAV,primAV,vc,inL,hiV_hi2,hiV_lo2,wkDR_same]) (wkDL_self _))) ?_
      simp only [actionAV,zik,inL]
      simp only [blkE,blkP,bhq,Nat.reduceMod,Nat.reduceDiv,stepH,stepM,toMs1,toMs,toMs0,strK,pubK,pubF,pubV,yaq,yar,yao,yap,go_sem,schC,ea,et,er,ybb,hfl,hs1,hs2,yal,yak,p_headOf,p_ZMod,hi,hq,Int.reduceBEq,inL]
      try (repeat with_reducible refine And.intro (by first | decide | assumption | omega | (refine ⟨?_,?_,oa⟩<;>omega) | (refine ⟨?_,?_,ot⟩<;>omega) | (refine ⟨?_,?_,or'⟩<;>omega) | (refine ⟨?_,?_,of'⟩<;>omega) | (refine ⟨?_,?_,ox⟩<;>omega) | (refine ⟨?_,?_,os⟩<;>omega) | (refine ⟨?_,?_⟩<;>omega) | (refine ⟨?_,?_,?_⟩<;>omega) | (refine ⟨?_,?_,oz⟩<;>omega) | exact nT | exact nA | exact nR | exact lt_flat lt_tableAV _ | exact lt_flat lt_actionAV _ | exact lt_flat lt_roleAV _ | (simp only [List.length_append,yaz];omega) | (simp [zik,zjs,zgl,zgm,zgn,zgo,zgp,zgt];done) | (simp [zik,zjs,zgl,zgm,zgn,zgo,zgp,zgt];omega)) ?_)
      refine ⟨⟨.inl ⟨.inl rfl,rfl,rfl⟩,.inl ⟨.inl rfl,rfl,rfl⟩,.inl ⟨.inl rfl,rfl,rfl⟩,wk_ms ?_ hrow (get_ge (by omega)),.inl ⟨.inl rfl,rfl,rfl⟩,.inl ⟨.inl rfl,rfl,rfl⟩,.inl ⟨.inl rfl,rfl,rfl⟩,.inl ⟨.inl rfl,rfl,rfl⟩,rfl,rfl,trivial⟩,by repeat (first | exact AHeap.Le.refl _ | refine AHeap.Le.push ?_ _),hcl,lS⟩
      try simp only [go_sem,inL,splice_nil0]
  skip
  · skip
    refine ACalls.of_aw (Ω:=[(54,Ent.pure p_headOf),(19,Ent.pure p_ZMod)]) (T:=assoc [(1,[[],[],[],[2],[],[],[],[2,6],[],[],[],[2,6,10],[],[2,6,10],[],[2,6,10],[],[2,6,10]]),(18,[[],[],[],[],[],[],[],[],[4,7],[],[],[],[],[4,7],[],[],[1,4,7]]),(24,[[],[],[],[],[],[],[],[],[],[],[5,9],[],[],[5,9],[],[],[1,5,9]]),(26,[[],[],[],[],[],[],[],[],[4,7],[],[],[],[],[],[],[],[4,7],[],[],[1,4,7]]),(801,[[100000],[100004],[100008]]),(818,[[100002],[100012]]),(824,[[100003],[100012]]),(826,[[100002],[100015]]),(1201,[[300000,300004,300008]]),(1218,[[300002]]),(1224,[[300003]]),(1226,[[300002]])]) mixed (TblOk.cons ok_headOf (TblOk.cons ok_ZMod TblOk.nil)) Tryz.func16 (by kernel_rfl) (by rfl) (rs:=[.cell 8 31]) (by rfl) (by kernel_rfl) (by simp only [Tryz.ntmps16,yaz,yba];decide) (Nat.le_refl _) fun hcl hlt=>?_
    change aw _ _ _ (KI Tryz.prog [(54,Ent.pure p_headOf),(19,Ent.pure p_ZMod)] (aEnd Tryz.prog [.cell 8 31] H.nx _ _ (assoc [(1,[[],[],[],[2],[],[],[],[2,6],[],[],[],[2,6,10],[],[2,6,10],[],[2,6,10],[],[2,6,10]]),(18,[[],[],[],[],[],[],[],[],[4,7],[],[],[],[],[4,7],[],[],[1,4,7]]),(24,[[],[],[],[],[],[],[],[],[],[],[5,9],[],[],[5,9],[],[],[1,5,9]]),(26,[[],[],[],[],[],[],[],[],[4,7],[],[],[],[],[],[],[],[4,7],[],[],[1,4,7]]),(801,[[100000],[100004],[100008]]),(818,[[100002],[100012]]),(824,[[100003],[100012]]),(826,[[100002],[100015]]),(1201,[[300000,300004,300008]]),(1218,[[300002]]),(1224,[[300003]]),(1226,[[300002]])])) []) _ _
    clear hlt
    simp only [Int.reduceEq,if_true,if_false] at hR
    subst hR
    simp only [blkE,blkP,bhq,Nat.reduceMod,Nat.reduceDiv,stepH,stepM,toMs1,toMs,toMs0,strK,pubK,pubF,pubV,yaq,yar,yao,yap,go_sem,schC,ea,et,er,ybb,p_headOf,p_ZMod,hi,hq,Int.reduceBEq]
    (repeat with_reducible refine And.intro (by first | decide | assumption | omega | (refine ⟨?_,?_,oa⟩<;>omega) | (refine ⟨?_,?_,ot⟩<;>omega) | (refine ⟨?_,?_,or'⟩<;>omega) | (refine ⟨?_,?_,of'⟩<;>omega) | (refine ⟨?_,?_,ox⟩<;>omega) | (refine ⟨?_,?_,os⟩<;>omega) | (refine ⟨?_,?_⟩<;>omega) | (refine ⟨?_,?_,?_⟩<;>omega) | exact nT | exact nA | exact nR | exact lt_flat lt_tableAV _ | exact lt_flat lt_actionAV _ | exact lt_flat lt_roleAV _ | (simp only [List.length_append,yaz];omega) | (simp [zik,zjs,zgl,zgm,zgn,zgo,zgp,zgt];done) | (simp [zik,zjs,zgl,zgm,zgn,zgo,zgp,zgt];omega)) ?_)
    refine ⟨?_,by repeat (first | exact AHeap.Le.refl _ | refine AHeap.Le.push ?_ _),hcl,lS⟩
    simp [schAV,schC,wk,wk2,wkL,wk1,wkM,fieldAV,refAV,stageAV]
end Go.AL


open Go Go.AL Go.Proofs
namespace Go.AL
set_option linter.all false
set_option maxRecDepth 10000

/-! ### How long an encoding can be -/
theorem wValue_len3 {v:Nat} (h:v<2^128):(wValue v).length≤17:=by
  unfold wValue
  rw [yaz,vBytes_len]
  have:=vLen_le h
  omega
theorem lenNum (n w:Int):(eNum n w).b.length≤4:=wUint_len n w
theorem lenTxt (s:List UInt8) (m:Int):(eTxt s m).b.length≤65537:=wBytes_len s
theorem lenVal {v:Nat} (h:okVal v):(eVal v).b.length≤17:=wValue_len3 h
theorem lenTru (x:Bool):(eTru x).b.length≤1:=by simp [eTru]
theorem lenAll {α:Type} {g:α→Enc} {B:Nat}:∀ {l:List α},(∀ a∈l,(g a).b.length≤B)→(eAll g l).b.length≤l.length*B
  | [],_=>Nat.zero_le _
  | x::l,h=>by
    rw [eAll,enc_len,yaz,Nat.succ_mul]
    have:=h x List.mem_cons_self
    have:=lenAll (l:=l) fun a ha=>h a (List.mem_cons_of_mem _ ha)
    omega
theorem lenList {α:Type} {g:α→Enc} {m:Int} {n B:Nat} {l:List α} (hl:l.length≤n) (h:∀ a∈l,(g a).b.length≤B):(eList g m l).b.length≤4+n*B:=by
  unfold eList eCnt
  rw [enc_len]
  have h1:=lenAll h
  have h2:=wUint_len (l.length:Int) 2
  have h3:l.length*B≤n*B:=Nat.mul_le_mul_right _ hl
  dsimp only
  omega
/-- a schema whose lists are not too long -/
structure SmP (N R:Nat) (x:Sch):Prop where
  f:x.fields.length≤N∧∀ a∈x.fields,okTx a.name
  h:x.headers.length≤N∧∀ a∈x.headers,okTx a.name∧a.fields.length≤R
  s:x.states.length≤N∧∀ a∈x.states,a.cases.length≤R∧∀ c∈a.cases,okCase c
  a:x.actions.length≤N∧∀ a∈x.actions,okAction a∧a.params.length≤R∧a.body.length≤R
  t:x.tables.length≤N∧∀ a∈x.tables,okTable a∧a.keys.length≤R∧a.actions.length≤R∧a.dargs.length≤R
  g:x.stages.length≤R
  r:x.roles.length≤N∧∀ a∈x.roles,okTx a.name∧a.grants.length≤R∧a.actions.length≤R∧∀ q∈a.grants,q.keys.length≤R
  x:x.refs.length≤R
theorem SmP.ok {N R:Nat} {x:Sch} (h:SmP N R x):OkSch x :=
  ⟨h.f.2,fun a ha=>(h.h.2 a ha).1,fun a ha=>(h.s.2 a ha).2,fun a ha=>(h.a.2 a ha).1,fun a ha=>(h.t.2 a ha).1,fun a ha=>(h.r.2 a ha).1⟩
theorem SmP.mono {N R N' R':Nat} {x:Sch} (h:SmP N R x) (hN:N≤N') (hR:R≤R'):SmP N' R' x where
  f:=⟨Nat.le_trans h.f.1 hN,h.f.2⟩
  h:=⟨Nat.le_trans h.h.1 hN,fun a ha=>⟨(h.h.2 a ha).1,Nat.le_trans (h.h.2 a ha).2 hR⟩⟩
  s:=⟨Nat.le_trans h.s.1 hN,fun a ha=>⟨Nat.le_trans (h.s.2 a ha).1 hR,(h.s.2 a ha).2⟩⟩
  a:=⟨Nat.le_trans h.a.1 hN,fun a ha=>⟨(h.a.2 a ha).1,Nat.le_trans (h.a.2 a ha).2.1 hR,Nat.le_trans (h.a.2 a ha).2.2 hR⟩⟩
  t:=⟨Nat.le_trans h.t.1 hN,fun a ha=>⟨(h.t.2 a ha).1,Nat.le_trans (h.t.2 a ha).2.1 hR,Nat.le_trans (h.t.2 a ha).2.2.1 hR,Nat.le_trans (h.t.2 a ha).2.2.2 hR⟩⟩
  g:=Nat.le_trans h.g hR
  r:=⟨Nat.le_trans h.r.1 hN,fun a ha=>⟨(h.r.2 a ha).1,Nat.le_trans (h.r.2 a ha).2.1 hR,Nat.le_trans (h.r.2 a ha).2.2.1 hR,fun q hq=>Nat.le_trans ((h.r.2 a ha).2.2.2 q hq) hR⟩⟩
  x:=Nat.le_trans h.x hR
theorem SmP.len {x:Sch} (h:SmP 50 1100000 x):(eSch x).b.length≤encMax:=by
  have e1:(eList eField 32 x.fields).b.length≤4+50*65545:=lenList h.f.1 fun a _=>by
    unfold eField;rw [enc_len,enc_len]
    have:=lenNum a.id 2;have:=lenTxt a.name 24;have:=lenNum a.bits 1;omega
  have e2:(eList eHeader 8 x.headers).b.length≤4+50*(65545+1100000*4):=lenList h.h.1 fun a ha=>by
    unfold eHeader;rw [enc_len,enc_len]
    have:=lenNum a.id 2;have:=lenTxt a.name 24
    have:=lenList (g:=eInt) (m:=32) (h.h.2 a ha).2 (B:=4) fun n _=>lenNum n 2
    omega
  have e3:(eList eState 12 x.states).b.length≤4+50*(20+1100000*38):=lenList h.s.1 fun a ha=>by
    unfold eState;rw [enc_len,enc_len,enc_len,enc_len]
    have:=lenNum a.id 2;have:=lenNum a.header 2;have:=lenNum a.select 2;have:=lenNum a.dflt 2
    have:=lenList (g:=eCase) (m:=6) (h.s.2 a ha).1 (B:=38) fun c hc=>by
      unfold eCase;rw [enc_len,enc_len]
      have:=lenVal ((h.s.2 a ha).2 c hc).1;have:=lenVal ((h.s.2 a ha).2 c hc).2;have:=lenNum c.next 2;omega
    omega
  have e4:(eList eAction 12 x.actions).b.length≤4+50*(131086+1100000*65541+1100000*33):=lenList h.a.1 fun a ha=>by
    unfold eAction;rw [enc_len,enc_len,enc_len,enc_len]
    obtain ⟨h1,h2,h3⟩:=h.a.2 a ha
    have:=lenNum a.id 2;have:=lenTxt a.name 24;have:=lenTxt a.restr 400
    have:=lenList (g:=eParam) (m:=4) h2 (B:=65541) fun c hc=>by
      unfold eParam;rw [enc_len]
      have:=lenTxt c.name 24;have:=lenNum c.bits 1;omega
    have:=lenList (g:=ePrim) (m:=12) h3 (B:=33) fun c hc=>by
      unfold ePrim;rw [enc_len,enc_len,enc_len,enc_len]
      have:=lenNum c.op 1;have:=lenNum c.dst 2;have:=lenNum c.kind 1;have:=lenNum c.n 2;have:=lenVal (h1.2.2.1 c hc);omega
    omega
  have e5:(eList eTable 8 x.tables).b.length≤4+50*(131098+1100000*65545+1100000*4+1100000*17):=lenList h.t.1 fun a ha=>by
    unfold eTable;simp only [enc_len]
    obtain ⟨h1,h2,h3,h4⟩:=h.t.2 a ha
    have:=lenNum a.id 2;have:=lenTxt a.name 24;have:=lenTxt a.restr 400;have:=lenNum a.dflt 2;have:=lenNum a.size 2
    have:=lenList (g:=eKey) (m:=4) h2 (B:=65545) fun c hc=>by
      unfold eKey;rw [enc_len,enc_len]
      have:=lenTxt c.name 24;have:=lenNum c.field 2;have:=lenNum c.kind 1;omega
    have:=lenList (g:=eInt) (m:=12) h3 (B:=4) fun n _=>lenNum n 2
    have:=lenList (g:=eVal) (m:=4) h4 (B:=17) fun v hv=>lenVal (h1.2.2.1 v hv)
    omega
  have e6:(eList eStage 12 x.stages).b.length≤4+1100000*8:=lenList h.g fun a _=>by
    unfold eStage;rw [enc_len]
    have:=lenNum a.table 2;have:=lenNum a.header 2;omega
  have e7:(eList eRole 6 x.roles).b.length≤4+50*(65560+1100000*(10+1100000*1)+1100000*4):=lenList h.r.1 fun a ha=>by
    unfold eRole;simp only [enc_len]
    obtain ⟨h1,h2,h3,h4⟩:=h.r.2 a ha
    have:=lenNum a.id 2;have:=lenTxt a.name 24;have:=lenNum a.quota 2;have:=lenTru a.audit
    have:=lenList (g:=eGrant) (m:=8) h2 (B:=10+1100000*1) fun c hc=>by
      unfold eGrant;simp only [enc_len]
      have:=lenNum c.table 2;have:=lenTru c.read;have:=lenTru c.write
      have:=lenList (g:=eTru) (m:=4) (h4 c hc) (B:=1) fun y _=>lenTru y
      omega
    have:=lenList (g:=eInt) (m:=12) h3 (B:=4) fun n _=>lenNum n 2
    omega
  have e8:(eList eRef 8 x.refs).b.length≤4+1100000*24:=lenList h.x fun a _=>by
    unfold eRef;simp only [enc_len]
    have:=lenNum a.table 2;have:=lenNum a.key 1;have:=lenNum a.action 2;have:=lenNum a.param 1;have:=lenNum a.toTable 2;have:=lenNum a.toKey 1;omega
  unfold eSch ePacket
  simp only [enc_len]
  rw [encMax_eq]
  have:=lenNum x.maxBatch 2;have:=lenNum x.budget 2
  omega
/-! ### What is generated, and what is bent -/
theorem updAt_mem {α:Type} {f:α→α}:∀ {k:Nat} {l:List α} {a:α},a∈updAt f k l→a∈l∨∃ b∈l,a=f b
  | _,[],a,h=>by simp [updAt] at h
  | 0,x::l,a,h=>by
    rcases List.mem_cons.1 (show a∈f x::l from h) with rfl | h
    · exact .inr ⟨x,List.mem_cons_self,rfl⟩
    · exact .inl (List.mem_cons_of_mem _ h)
  | k+1,x::l,a,h=>by
    rcases List.mem_cons.1 (show a∈x::updAt f k l from h) with rfl | h
    · exact .inl List.mem_cons_self
    · rcases updAt_mem h with h | ⟨b,hb,e⟩
      · exact .inl (List.mem_cons_of_mem _ h)
      · exact .inr ⟨b,List.mem_cons_of_mem _ hb,e⟩
theorem updAt_len {α:Type} {f:α→α}:∀ {k:Nat} {l:List α},(updAt f k l).length=l.length
  | 0,[]=>rfl
  | k+1,[]=>rfl
  | 0,x::l=>rfl
  | k+1,x::l=>by show (updAt f k l).length+1=_;rw [updAt_len];rfl
theorem hiV_lt (n:Int):hiV n<2^128:=by
  have h:=wrap_u64_range n
  unfold hiV
  omega
theorem ite_ind {P:Sch→Prop} {c:Prop} {i:Decidable c} {a b:Sch} (h1:P a) (h2:P b):P (@ite _ c i a b):=by
  by_cases h:c
  · rw [if_pos h];exact h1
  · rw [if_neg h];exact h2
theorem SmP.bent {N R:Nat} {x:Sch} (h:SmP N R x) (w n:Int) {t:List UInt8} (ht:t.length≤500):SmP (N+1) (R+1) (bentS x w n t):=by
  have h':SmP (N+1) (R+1) x:=h.mono (by omega) (by omega)
  have htx:okTx t:=by unfold okTx;rw [encMax_eq];omega
  unfold bentS
  dsimp only
  refine ite_ind ?_ (ite_ind ?_ (ite_ind ?_ (ite_ind ?_ (ite_ind ?_ (ite_ind ?_ (ite_ind ?_ (ite_ind ?_ (ite_ind ?_ (ite_ind ?_ (ite_ind ?_ ?_))))))))))
  · exact ⟨h'.f,h'.h,h'.s,h'.a,h'.t,h'.g,h'.r,h'.x⟩
  · exact ⟨h'.f,h'.h,h'.s,h'.a,h'.t,h'.g,h'.r,h'.x⟩
  · refine ⟨⟨by have:=h.f.1;simp;omega,fun a ha=>?_⟩,h'.h,h'.s,h'.a,h'.t,h'.g,h'.r,h'.x⟩
    rcases List.mem_append.1 ha with ha | ha
    · exact h'.f.2 a ha
    · rw [List.mem_singleton] at ha;subst ha;exact htx
  · refine ⟨h'.f,h'.h,h'.s,h'.a,⟨by rw [updAt_len];exact h'.t.1,fun a ha=>?_⟩,h'.g,h'.r,h'.x⟩
    rcases updAt_mem ha with ha | ⟨b,hb,rfl⟩
    · exact h'.t.2 a ha
    · obtain ⟨⟨k1,k2,k3,k4⟩,k5⟩:=h'.t.2 b hb
      exact ⟨⟨k1,k2,k3,htx⟩,k5⟩
  · refine ⟨h'.f,h'.h,h'.s,h'.a,⟨by rw [updAt_len];exact h'.t.1,fun a ha=>?_⟩,h'.g,h'.r,h'.x⟩
    rcases updAt_mem ha with ha | ⟨b,hb,rfl⟩
    · exact h'.t.2 a ha
    · exact h'.t.2 b hb
  · refine ⟨h'.f,h'.h,h'.s,h'.a,⟨by rw [updAt_len];exact h'.t.1,fun a ha=>?_⟩,h'.g,h'.r,h'.x⟩
    rcases updAt_mem ha with ha | ⟨b,hb,rfl⟩
    · exact h'.t.2 a ha
    · obtain ⟨⟨k1,k2,k3,k4⟩,k5⟩:=h'.t.2 b hb
      exact ⟨⟨htx,k2,k3,k4⟩,k5⟩
  · refine ⟨h'.f,h'.h,h'.s,⟨by rw [updAt_len];exact h'.a.1,fun a ha=>?_⟩,h'.t,h'.g,h'.r,h'.x⟩
    rcases updAt_mem ha with ha | ⟨b,hb,rfl⟩
    · exact h'.a.2 a ha
    · obtain ⟨⟨k1,k2,k3,k4⟩,k5,k6⟩:=h.a.2 b hb
      refine ⟨⟨k1,fun p hp=>?_,k3,k4⟩,by dsimp only;rw [List.length_append,List.length_singleton];omega,by dsimp only;omega⟩
      rcases List.mem_append.1 hp with hp | hp
      · exact k2 p hp
      · rw [List.mem_singleton] at hp;subst hp;exact htx
  · refine ⟨h'.f,h'.h,h'.s,h'.a,h'.t,h'.g,⟨by rw [updAt_len];exact h'.r.1,fun a ha=>?_⟩,h'.x⟩
    rcases updAt_mem ha with ha | ⟨b,hb,rfl⟩
    · exact h'.r.2 a ha
    · exact h'.r.2 b hb
  · refine ⟨h'.f,h'.h,h'.s,h'.a,h'.t,h'.g,h'.r,?_⟩
    have:=h.x
    dsimp only;rw [List.length_append,List.length_singleton];omega
  · refine ⟨h'.f,h'.h,h'.s,h'.a,⟨by rw [updAt_len];exact h'.t.1,fun a ha=>?_⟩,h'.g,h'.r,h'.x⟩
    rcases updAt_mem ha with ha | ⟨b,hb,rfl⟩
    · exact h'.t.2 a ha
    · obtain ⟨k1,k2,k3,k4⟩:=h.t.2 b hb
      exact ⟨k1,by dsimp only;omega,by dsimp only;rw [List.length_append,List.length_singleton];omega,by dsimp only;omega⟩
  · refine ⟨h'.f,h'.h,h'.s,⟨by rw [updAt_len];exact h'.a.1,fun a ha=>?_⟩,h'.t,h'.g,h'.r,h'.x⟩
    rcases updAt_mem ha with ha | ⟨b,hb,rfl⟩
    · exact h'.a.2 a ha
    · obtain ⟨⟨k1,k2,k3,k4⟩,k5,k6⟩:=h.a.2 b hb
      refine ⟨⟨k1,k2,fun p hp=>?_,k4⟩,by dsimp only;omega,by dsimp only;rw [List.length_append,List.length_singleton];omega⟩
      rcases List.mem_append.1 hp with hp | hp
      · exact k3 p hp
      · rw [List.mem_singleton] at hp;subst hp;exact hiV_lt n
  · refine ⟨h'.f,h'.h,h'.s,h'.a,h'.t,?_,h'.r,h'.x⟩
    have:=h.g
    dsimp only;rw [List.length_append,List.length_singleton];omega
end Go.AL


open Go Go.AL Go.Proofs
namespace Go.AL
set_option linter.all false
set_option maxRecDepth 10000
theorem ti_schemas:ti Tryz.prog 39=some ⟨.slice 31,1,24,.slice .nil 1 []⟩:=by kernel_rfl
attribute [go_sem] ti_schemas
theorem okTx_of {s:List UInt8} (h:s.length≤1000):okTx s:=by unfold okTx;rw [encMax_eq];omega
theorem okVal_of {v:Nat} (h:v≤1000):okVal v:=by unfold okVal;omega
theorem gStates_small (b:List UInt8) (v:Nat):(gStates b v).1.length≤40∧∀ a∈(gStates b v).1,a.cases.length≤1000∧∀ c∈a.cases,okCase c:=by
  have h2:=cv_lt (b:=b) (v:=v+2) (n:=2) (by decide)
  have h6:=cv_lt (b:=b) (v:=v+6) (n:=3) (by decide)
  have h4:=cv_lt (b:=b) (v:=v+4) (n:=3) (by decide)
  unfold gStates
  (repeat' split)<;>refine ⟨by simp,fun a ha=>?_⟩<;>simp only [List.mem_cons,List.not_mem_nil,or_false] at ha<;>rcases ha with rfl | rfl | rfl<;>refine ⟨by simp,fun c hc=>?_⟩ <;>
    simp only [List.mem_cons,List.not_mem_nil,or_false] at hc <;>
    first
      | exact hc.elim
      | (subst hc;exact ⟨okVal_of (by dsimp only;omega),okVal_of (by dsimp only;omega)⟩)
      | (rcases hc with rfl | rfl<;>exact ⟨okVal_of (by dsimp only;omega),okVal_of (by dsimp only;omega)⟩)
      | (rcases hc with rfl | rfl | rfl<;>exact ⟨okVal_of (by dsimp only;omega),okVal_of (by dsimp only;omega)⟩)
theorem gActions_small (b:List UInt8) (v:Nat):(gActions b v).length=6∧∀ a∈gActions b v,okAction a∧a.params.length≤1000∧a.body.length≤1000:=by
  have h1:=cv_lt (b:=b) (v:=v+1) (n:=256) (by decide)
  refine ⟨rfl,fun a ha=>?_⟩
  simp only [gActions,List.mem_cons,List.not_mem_nil,or_false] at ha
  rcases ha with rfl | rfl | rfl | rfl | rfl | rfl<;>refine ⟨⟨okTx_of (by simp),fun p hp=>?_,fun p hp=>?_,okTx_of (by dsimp only;(try split)<;>simp)⟩,by simp,by simp⟩<;>simp only [List.mem_cons,List.not_mem_nil,or_false] at hp <;>
    first
      | exact hp.elim
      | (subst hp;first | exact okTx_of (by simp) | exact okVal_of (by dsimp only;omega))
      | (rcases hp with rfl | rfl<;>first | exact okTx_of (by simp) | exact okVal_of (by dsimp only;omega))
      | (rcases hp with rfl | rfl | rfl<;>first | exact okTx_of (by simp) | exact okVal_of (by dsimp only;omega))
theorem getD_small {L:List (List UInt8)} (h:∀ s∈L,s.length≤1000) (i:Nat):okTx (L.getD i []):=by
  rw [List.getD_eq_getElem?_getD]
  cases hi:L[i]? with
  | none=>exact okTx_of (by simp)
  | some s=>exact okTx_of (h s (List.mem_of_getElem? hi))
theorem gTables_small (b:List UInt8) (v:Nat):(gTables b v).length=4∧∀ a∈gTables b v,okTable a∧a.keys.length≤1000∧a.actions.length≤1000∧a.dargs.length≤1000:=by
  refine ⟨rfl,fun a ha=>?_⟩
  simp only [gTables,List.mem_cons,List.not_mem_nil,or_false] at ha
  rcases ha with rfl | rfl | rfl | rfl
  · refine ⟨⟨okTx_of (by simp [gTable0]),fun k hk=>?_,by simp [gTable0],getD_small (by decide) _⟩,by simp [gTable0],by simp [gTable0],by simp [gTable0]⟩
    simp only [gTable0,List.mem_cons,List.not_mem_nil,or_false] at hk
    subst hk;exact okTx_of (by simp)
  · refine ⟨⟨okTx_of (by simp [gTable1]),fun k hk=>?_,by simp [gTable1],getD_small (by decide) _⟩,by simp only [gTable1];split<;>simp,by simp [gTable1],by simp [gTable1]⟩
    simp only [gTable1] at hk
    split at hk<;>simp only [yal,yak,yaj,List.mem_cons,List.not_mem_nil,or_false] at hk
    · rcases hk with rfl | rfl<;>exact okTx_of (by simp)
    · subst hk;exact okTx_of (by simp)
  · refine ⟨⟨okTx_of (by simp [gTable2]),fun k hk=>?_,by simp [gTable2],getD_small (by decide) _⟩,by simp only [gTable2];split<;>simp,by simp [gTable2],by simp [gTable2]⟩
    simp only [gTable2] at hk
    split at hk<;>simp only [yal,yak,yaj,List.mem_cons,List.not_mem_nil,or_false] at hk
    · rcases hk with rfl | rfl | rfl<;>exact okTx_of (by simp)
    · rcases hk with rfl | rfl<;>exact okTx_of (by simp)
  · refine ⟨⟨okTx_of (by simp [gTable3]),fun k hk=>?_,fun x hx=>?_,getD_small (by decide) _⟩,by simp only [gTable3];split<;>simp,by simp [gTable3],by simp [gTable3]⟩
    · simp only [gTable3] at hk
      split at hk<;>simp only [yal,yak,yaj,List.mem_cons,List.not_mem_nil,or_false] at hk
      · rcases hk with rfl | rfl | rfl<;>exact okTx_of (by simp)
      · subst hk;exact okTx_of (by simp)
    · simp only [gTable3,List.mem_singleton] at hx
      subst hx;exact okVal_of (by omega)
def GrOk (n:Nat) (l:List SGrant):Prop:=l.length≤n∧∀ q∈l,q.keys.length≤1000
theorem GrOk.nil {n:Nat}:GrOk n []:=⟨Nat.zero_le _,fun q hq=>by cases hq⟩
theorem GrOk.cons {n:Nat} {l:List SGrant} {q:SGrant} (h:GrOk n l) (hq:q.keys.length≤1000):GrOk (n+1) (q::l) :=
  ⟨Nat.succ_le_succ h.1,fun x hx=>(List.mem_cons.1 hx).elim (fun e=>e ▸ hq) (h.2 x)⟩
theorem GrOk.up {n:Nat} {l:List SGrant} (h:GrOk n l):GrOk (n+1) l:=⟨Nat.le_succ_of_le h.1,h.2⟩
theorem gGrants_small (b:List UInt8):∀ (ts:List STable) (v:Nat),(∀ t∈ts,t.keys.length≤1000)→GrOk ts.length (gGrants b ts v).1.1∧GrOk ts.length (gGrants b ts v).1.2.1∧GrOk ts.length (gGrants b ts v).1.2.2
  | [],v,_=>⟨.nil,.nil,.nil⟩
  | t::ts,v,h=>by
    have ht:=h t List.mem_cons_self
    have hp:∀ v,(gPart b v t.keys.length).length≤1000:=fun v=>by simp [gPart];exact ht
    have hr:(List.replicate t.keys.length true).length≤1000:=by simp;exact ht
    simp only [gGrants]
    rw [yaz]
    split<;>split
    · obtain ⟨i1,i2,i3⟩:=gGrants_small b ts (v+t.keys.length+3+3) fun x hx=>h x (List.mem_cons_of_mem _ hx)
      exact ⟨i1.cons hr,i2.cons (hp _),i3.cons hr⟩
    · obtain ⟨i1,i2,i3⟩:=gGrants_small b ts (v+t.keys.length+3+1) fun x hx=>h x (List.mem_cons_of_mem _ hx)
      exact ⟨i1.cons hr,i2.cons (hp _),i3.up⟩
    · obtain ⟨i1,i2,i3⟩:=gGrants_small b ts (v+t.keys.length+1+3) fun x hx=>h x (List.mem_cons_of_mem _ hx)
      exact ⟨i1.cons hr,i2.up,i3.cons hr⟩
    · obtain ⟨i1,i2,i3⟩:=gGrants_small b ts (v+t.keys.length+1+1) fun x hx=>h x (List.mem_cons_of_mem _ hx)
      exact ⟨i1.cons hr,i2.up,i3.up⟩
theorem gS_small (b:List UInt8) (v:Nat):SmP 40 1000 (gSchema b v).1:=by
  unfold gSchema
  dsimp only
  obtain ⟨t1,t2⟩:=gTables_small b (cp (gStates b (cp v 2)).2 4)
  obtain ⟨a1,a2⟩:=gActions_small b (gStates b (cp v 2)).2
  refine ⟨⟨(by decide:gFields.length≤40),fun a ha=>?_⟩,⟨(by decide:gHeaders.length≤40),fun a ha=>?_⟩,gStates_small b _,⟨by dsimp only;omega,a2⟩,⟨by dsimp only;omega,t2⟩,?_,⟨by simp [gRoles],fun a ha=>?_⟩,?_⟩
  · simp only [gFields,List.mem_cons,List.not_mem_nil,or_false] at ha
    rcases ha with rfl | rfl | rfl | rfl | rfl | rfl | rfl | rfl | rfl<;>exact okTx_of (by simp)
  · simp only [gHeaders,List.mem_cons,List.not_mem_nil,or_false] at ha
    rcases ha with rfl | rfl | rfl<;>exact ⟨okTx_of (by simp),by simp⟩
  · split<;>simp
  · obtain ⟨g1,g2,g3⟩:=gGrants_small b (gTables b (cp (gStates b (cp v 2)).2 4)) (cp (gStates b (cp v 2)).2 16+4) fun t ht=>(t2 t ht).2.1
    rw [t1] at g1 g2 g3
    simp only [gRoles,List.mem_cons,List.not_mem_nil,or_false] at ha
    rcases ha with rfl | rfl | rfl
    · exact ⟨okTx_of (by simp),by have:=g1.1;dsimp only;omega,by simp,g1.2⟩
    · exact ⟨okTx_of (by simp),by have:=g2.1;dsimp only;omega,by simp,g2.2⟩
    · exact ⟨okTx_of (by simp),by have:=g3.1;dsimp only;omega,by simp,g3.2⟩
  · (repeat' split)<;>simp
theorem gS_bent (b:List UInt8) (v:Nat):BentOk (gSchema b v).1:=by
  have h:=gS_small b v
  have ea:(gSchema b v).1.actions.length=6:=by simp [gSchema,gActions]
  have et:(gSchema b v).1.tables.length=4:=by simp [gSchema,gTables]
  have er:(gSchema b v).1.roles.length=3:=by simp [gSchema,gRoles]
  exact ⟨by omega,by omega,by omega,by omega,by omega,by omega,by have:=h.f.1;omega,h.g,h.x,fun a ha=>⟨(h.a.2 a ha).2.1,(h.a.2 a ha).2.2⟩,fun a ha=>(h.t.2 a ha).2.2.1⟩
theorem zod_codV3 {b:List UInt8}:zod b 0=codV b (cp 0 0):=by
  unfold zod codV cp
  simp
end Go.AL

