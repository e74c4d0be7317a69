/- Contracts and plain laws, a part of the proof; no condition of its own. -/
import Derived.Test.YtcnkffeikmkeiaaGreatE06
set_option maxHeartbeats 32000000
open List renaming length_cons → yaz, length_nil → yba
open Go Go.AL Go.Proofs
namespace Go.AL
set_option linter.all false
set_option maxRecDepth 10000
def bN:Nat→Nat
 |0=>40
 |d+1=>2*bN d+5
def cD (_A:Prop) (d:Nat):List AV→AHeap→(AV→AHeap→Prop)→Prop
 |[.ptr id 0,.int .i64 n,.bool _],H,K=>∃ b a,(H.get id=some (cod b a)∧(0≤a∧a≤(b.length:Int))∧b.length≤140737488355328∧n=(d:Int)∧bN d≤1000000) ∧
   ∀ s a',s.length≤bN d→0≤a'→a'≤(b.length:Int)→K (.str s) (H.set id (cod b a'))
 |_,_,_=>False
def nms:List (List UInt8):=[[97],[98],[100,58,58,112,114,101,102,105,120,95,108,101,110,103,116,104],[101,58,58,109,97,115,107],[102,58,58,104,105,103,104],[112,114,105,111,114,105,116,121],[48],[49],[49,53],[48,120,102,102],[51,52,48,50,56,50,51,54,54,57,50,48,57,51,56,52,54,51,52,54,51,51,55,52,54,48,55,52,51,49,55,54,56,50,49,49,52,53,53],[120]]
theorem co:nms.length=12:=rfl
theorem Ed:∀ x∈nms,x.length≤40:=by decide
theorem eX:[AV.str [97],AV.str [98],AV.str [100,58,58,112,114,101,102,105,120,95,108,101,110,103,116,104],AV.str [101,58,58,109,97,115,107],AV.str [102,58,58,104,105,103,104],AV.str [112,114,105,111,114,105,116,121],AV.str [48],AV.str [49],AV.str [49,53],AV.str [48,120,102,102],AV.str [51,52,48,50,56,50,51,54,54,57,50,48,57,51,56,52,54,51,52,54,51,51,55,52,54,48,55,52,51,49,55,54,56,50,49,49,52,53,53],AV.str [120]]=sAV nms:=rfl
theorem nR {H:AHeap} {id:Nat} {b:List UInt8} {a a':Int}:(H.set id (cod b a)).set id (cod b a')=H.set id (cod b a'):=by
 simp only [AHeap.set];congr 1;funext j;split<;>rfl
theorem um {j:Nat} (hj:j<12):(sAV nms).getD j .junk=.str (nms.getD j [])∧(nms.getD j []).length≤40:=by
 refine ⟨j7 (by rw [co];exact hj),?_⟩
 rw [List.getD_eq_getElem?_getD,List.getElem?_eq_getElem (show j<nms.length by rw [co];exact hj)]
 exact Ed _ (List.getElem_mem _)
theorem qA (d:Nat):40≤bN d:=by
 induction d with
 |zero=>exact Nat.le_refl _
 |succ d ih=>unfold bN;omega
theorem bM {H X:AHeap} {K:AV→AHeap→Prop} {id:Nat} {b:List UInt8} {a':Int} {s:List UInt8} (hK:K (.str s) (H.set id (cod b a'))) (hid:id<H.nx) (hcl:H.Closed) (hle:(H.set id (cod b a')).Le X):nI H.nx K (.str s) X :=
 ⟨_,_,hK,Nat.le_refl _,by simp [zmk],hle,ah hcl (by simp [znq,znr,znb,zmo]),by simp [znd]⟩
theorem vD {A:Prop}:EntOk Tryz.prog 19 (Ent.some (cD A 0)):=by
 refine EntOk.some fun args H K h=>?_
 unfold cD at h
 split at h
 rotate_left
 ·exact h.elim
 rename_i id n w
 obtain ⟨b,a,⟨hg,⟨ha1,ha2⟩,hb,rfl,hbd⟩,hK⟩:=h
 have hid:=AHeap.get_lt hg
 have hne:(id=H.nx)=False:=eq_false (by omega)
 have hgi:∀ x,(H.set id (cod b x)).get id=some (cod b x):=fun x=>AHeap.get_set_same _ _ hid
 have hss:∀ x y,(H.set id (cod b x)).set id (cod b y)=H.set id (cod b y):=fun x y=>nR
 have hms:lj=9223372036854775807:=rfl
 have hb0:=qA 0
 refine ACallsP.of_aw (Ω:=[(18,Ent.some bD)]) (T:=au []) aA (TblOk.cons mi TblOk.nil) Tryz.func19 (by kernel_rfl) (by rfl) (rs:=[.tmp 6]) (by rfl) (by kernel_rfl) (by simp only [Tryz.ntmps19,yaz,yba];decide) fun hcl hlt=>?_
 change aw _ _ _ (KI Tryz.prog [(18,Ent.some bD)] (fa Tryz.prog [.tmp 6] H.nx _) []) _ _
 clear hlt
 have d0:(((0:Nat):Int)==0)=true:=rfl
 try simp only [go_sem,hne,hgi,hss,hg,ak,co,eX,Int.toNat_natCast,d0,bD]
 refine ⟨b,a,⟨rfl,⟨ha1,ha2⟩,hb,by omega,by omega⟩,fun r a9 hr1 hr2 ha1' ha2'=>?_⟩
 obtain ⟨j,rfl⟩:=Int.eq_ofNat_of_zero_le hr1
 obtain ⟨hgj,hpl⟩:=um (j:=j) (by omega)
 try simp only [aW,go_sem,hne,hgi,hss,hg,ak,co,eX,Int.toNat_natCast,hgj]
 refine ⟨by omega,?_⟩
 exact bM (hK _ a9 (by omega) ha1' ha2') hid hcl ((AHeap.Le.refl _).push _)
theorem vw {A:Prop} {d:Nat} (h_CNum:EntOk Tryz.prog 19 (Ent.some (cD A d))):EntOk Tryz.prog 19 (Ent.some (cD A (d+1))):=by
 refine EntOk.some fun args H K h=>?_
 unfold cD at h
 split at h
 rotate_left
 ·exact h.elim
 rename_i id n w
 obtain ⟨b,a,⟨hg,⟨ha1,ha2⟩,hb,rfl,hbd⟩,hK⟩:=h
 have hid:=AHeap.get_lt hg
 have hne:(id=H.nx)=False:=eq_false (by omega)
 have hgi:∀ x,(H.set id (cod b x)).get id=some (cod b x):=fun x=>AHeap.get_set_same _ _ hid
 have hss:∀ x y,(H.set id (cod b x)).set id (cod b y)=H.set id (cod b y):=fun x y=>nR
 have hms:lj=9223372036854775807:=rfl
 have hb0:=qA d
 have hbs:bN (d+1)=2*bN d+5:=rfl
 rw [hbs] at hbd
 have hdd:d≤1000000:=by
  have:∀ k,k≤bN k:=fun k=>by
   induction k with
   |zero=>exact Nat.zero_le _
   |succ k ih=>unfold bN;omega
  have:=this d
  omega
 refine ACallsP.of_aw (Ω:=[(18,Ent.some bD),(19,Ent.some (cD A d))]) (T:=au []) aA (TblOk.cons mi (TblOk.cons h_CNum TblOk.nil)) Tryz.func19 (by kernel_rfl) (by rfl) (rs:=[.tmp 6]) (by rfl) (by kernel_rfl) (by simp only [Tryz.ntmps19,yaz,yba];decide) fun hcl hlt=>?_
 change aw _ _ _ (KI Tryz.prog [(18,Ent.some bD),(19,Ent.some (cD A d))] (fa Tryz.prog [.tmp 6] H.nx _) []) _ _
 clear hlt
 have d0:(((d+1:Nat):Int)==0)=false:=by simp;omega
 have e1:IntKind.i64.wrap (((d+1:Nat):Int) - 1)=(d:Int):=by rw [wrap_i64]<;>omega
 try simp only [go_sem,hne,hgi,hss,hg,ak,co,eX,Int.toNat_natCast,d0,bD]
 refine ⟨b,a,⟨rfl,⟨ha1,ha2⟩,hb,by omega,by omega⟩,fun r0 a1 hr1 hr2 h11 h12=>?_⟩
 try simp only [aW,go_sem,hne,hgi,hss,hg,ak,co,eX,Int.toNat_natCast]
 refine aj (fun hc=>?_) (fun hc=>?_)
 ·simp only [go_sem,hne,hgi,hss,hg,ak,co,eX,Int.toNat_natCast,bD]
  refine ⟨b,a1,⟨rfl,⟨h11,h12⟩,hb,by omega,by omega⟩,fun r a9 hr1 hr2 ha1' ha2'=>?_⟩
  obtain ⟨j,rfl⟩:=Int.eq_ofNat_of_zero_le hr1
  obtain ⟨hgj,hpl⟩:=um (j:=j) (by omega)
  try simp only [aW,go_sem,hne,hgi,hss,hg,ak,co,eX,Int.toNat_natCast,hgj]
  refine ⟨by omega,?_⟩
  exact bM (hK _ a9 (by omega) ha1' ha2') hid hcl ((AHeap.Le.refl _).push _)
 try simp only [go_sem,hne,hgi,hss,hg,ak,co,eX,Int.toNat_natCast,bD]
 refine ⟨b,a1,⟨rfl,⟨h11,h12⟩,hb,by omega,by omega⟩,fun r1 a2 hr3 hr4 h21 h22=>?_⟩
 try simp only [aW,go_sem,hne,hgi,hss,hg,ak,co,eX,Int.toNat_natCast]
 refine aj (fun h0=>?_) (fun h0=>?_)
 ·simp only [go_sem,hne,hgi,hss,hg,ak,co,eX,Int.toNat_natCast,cD,e1]
  refine ⟨b,a2,⟨rfl,⟨h21,h22⟩,hb,by omega⟩,fun s a3 hs h31 h32=>?_⟩
  try simp only [aW,go_sem,hne,hgi,hss,hg,ak,co,eX,Int.toNat_natCast]
  refine ⟨by rw [hms];omega,?_⟩
  exact bM (hK _ a3 (by rw [hbs];simp;omega) h31 h32) hid hcl (AHeap.Le.refl _)
 try simp only [go_sem,hne,hgi,hss,hg,ak,co,eX,Int.toNat_natCast]
 refine aj (fun h0=>?_) (fun h0=>?_)
 ·simp only [go_sem,hne,hgi,hss,hg,ak,co,eX,Int.toNat_natCast,cD,e1]
  refine ⟨b,a2,⟨rfl,⟨h21,h22⟩,hb,by omega⟩,fun s a3 hs h31 h32=>?_⟩
  try simp only [aW,go_sem,hne,hgi,hss,hg,ak,co,eX,Int.toNat_natCast,List.length_append,yaz,yba]
  refine ⟨by rw [hms];omega,by rw [hms];omega,?_⟩
  exact bM (hK _ a3 (by rw [hbs];simp;omega) h31 h32) hid hcl (AHeap.Le.refl _)
 try simp only [go_sem,hne,hgi,hss,hg,ak,co,eX,Int.toNat_natCast]
 refine aj (fun h0=>?_) (fun h0=>?_)
 ·simp only [go_sem,hne,hgi,hss,hg,ak,co,eX,Int.toNat_natCast,cD,e1]
  refine ⟨b,a2,⟨rfl,⟨h21,h22⟩,hb,by omega⟩,fun s a3 hs h31 h32=>?_⟩
  try simp only [aW,go_sem,hne,hgi,hss,hg,ak,co,eX,Int.toNat_natCast,cD,e1,List.length_append,yaz,yba]
  refine ⟨by rw [hms];omega,b,a3,⟨rfl,⟨h31,h32⟩,hb,by omega⟩,fun s2 a4 hs2 h41 h42=>?_⟩
  try simp only [aW,go_sem,hne,hgi,hss,hg,ak,co,eX,Int.toNat_natCast]
  refine ⟨by (rw [hms];(try simp);omega),?_⟩
  exact bM (hK _ a4 (by rw [hbs];simp;omega) h41 h42) hid hcl (AHeap.Le.refl _)
 try simp only [go_sem,hne,hgi,hss,hg,ak,co,eX,Int.toNat_natCast,cD,e1]
 refine ⟨b,a2,⟨rfl,⟨h21,h22⟩,hb,by omega⟩,fun s a3 hs h31 h32=>?_⟩
 try simp only [aW,go_sem,hne,hgi,hss,hg,ak,co,eX,Int.toNat_natCast,cD,e1,List.length_append,yaz,yba]
 refine ⟨by rw [hms];omega,by rw [hms];omega,b,a3,⟨rfl,⟨h31,h32⟩,hb,by omega⟩,fun s2 a4 hs2 h41 h42=>?_⟩
 try simp only [aW,go_sem,hne,hgi,hss,hg,ak,co,eX,Int.toNat_natCast,List.length_append,yaz,yba]
 refine ⟨by rw [hms];omega,by rw [hms];omega,?_⟩
 exact bM (hK _ a4 (by rw [hbs];simp;omega) h41 h42) hid hcl (AHeap.Le.refl _)
theorem qp {A:Prop}:∀ d,EntOk Tryz.prog 19 (Ent.some (cD A d))
 |0=>vD
 |d+1=>vw (qp d)
end Go.AL
open Go Go.AL Go.Proofs
namespace Go.AL
set_option linter.all false
set_option maxRecDepth 10000
def dm (A:Prop) (_g:Nat) (args:List AV) (H:AHeap) (K:AV→AHeap→Prop):Prop:=∃ d,cD A d args H K
theorem od {A:Prop} {g:Nat}:EntOk Tryz.prog 19 (Ent.some (dm A g)):=EntOk.some fun args H K ⟨d,h⟩=>(qp d).2.2 _ rfl args H K h
def bS:Nat→Nat
 |0=>2*bN 1+bN 0+20
 |d+1=>2*bS d+2*bN 1+bN (d+1)+20
def bK (_A:Prop) (d:Nat):List AV→AHeap→(AV→AHeap→Prop)→Prop
 |[.ptr id 0,.int .i64 n,.bool _],H,K=>∃ b a,(H.get id=some (cod b a)∧(0≤a∧a≤(b.length:Int))∧b.length≤140737488355328∧n=(d:Int)∧bS d≤1000000) ∧
   ∀ s a',s.length≤bS d→0≤a'→a'≤(b.length:Int)→K (.str s) (H.set id (cod b a'))
 |_,_,_=>False
def cOpsL:List (List UInt8):=[[32,61,61,32],[32,33,61,32],[32,60,32],[60,61],[32,62,32],[62,61]]
theorem aG:[AV.str [32,61,61,32],AV.str [32,33,61,32],AV.str [32,60,32],AV.str [60,61],AV.str [32,62,32],AV.str [62,61]]=sAV cOpsL:=rfl
theorem ap:cOpsL.length=6:=rfl
theorem AA:∀ x∈cOpsL,x.length≤4:=by decide
def boolsL:List (List UInt8):=[[116,114,117,101],[102,97,108,115,101]]
theorem aB:[AV.str [116,114,117,101],AV.str [102,97,108,115,101]]=sAV boolsL:=rfl
theorem am:boolsL.length=2:=rfl
theorem yU:∀ x∈boolsL,x.length≤5:=by decide
theorem j6 {j:Nat} (hj:j<6):(sAV cOpsL).getD j .junk=.str (cOpsL.getD j [])∧(cOpsL.getD j []).length≤4:=by
 refine ⟨j7 (by rw [ap];exact hj),?_⟩
 rw [List.getD_eq_getElem?_getD,List.getElem?_eq_getElem (show j<cOpsL.length by rw [ap];exact hj)]
 exact AA _ (List.getElem_mem _)
theorem jc {j:Nat} (hj:j<2):(sAV boolsL).getD j .junk=.str (boolsL.getD j [])∧(boolsL.getD j []).length≤5:=by
 refine ⟨j7 (by rw [am];exact hj),?_⟩
 rw [List.getD_eq_getElem?_getD,List.getElem?_eq_getElem (show j<boolsL.length by rw [am];exact hj)]
 exact yU _ (List.getElem_mem _)
theorem Dv (d:Nat):2*bN 1+bN d+20≤bS d:=by
 cases d with
 |zero=>exact Nat.le_refl _
 |succ d=>unfold bS;omega
theorem Dn (d:Nat):d≤bS d:=by
 induction d with
 |zero=>exact Nat.zero_le _
 |succ d ih=>unfold bS;omega
theorem tA {A:Prop}:EntOk Tryz.prog 7 (Ent.some (bK A 0)):=by
 refine EntOk.some fun args H K h=>?_
 unfold bK at h
 split at h
 rotate_left
 ·exact h.elim
 rename_i id n w
 obtain ⟨b,a,⟨hg,⟨ha1,ha2⟩,hb,rfl,hbd⟩,hK⟩:=h
 have hid:=AHeap.get_lt hg
 have hne:(id=H.nx)=False:=eq_false (by omega)
 have hgi:∀ x,(H.set id (cod b x)).get id=some (cod b x):=fun x=>AHeap.get_set_same _ _ hid
 have hss:∀ x y,(H.set id (cod b x)).set id (cod b y)=H.set id (cod b y):=fun x y=>nR
 have hms:lj=9223372036854775807:=rfl
 have i1:=@Int.natCast_nonneg
 have f1:=bz hid
 have hb0:=Dv (0)
 have hb1:=qA 1
 have hb2:=qA (0)
 have hid2:=Dn (0)
 have h_CNumA:=od (A:=A) (g:=0)
 refine ACallsP.of_aw (Ω:=[(18,Ent.some bD),(19,Ent.some (dm A 0))]) (T:=au []) aA (TblOk.cons mi (TblOk.cons h_CNumA TblOk.nil)) Tryz.func7 (by kernel_rfl) (by rfl) (rs:=[.tmp 6]) (by rfl) (by kernel_rfl) (by simp only [Tryz.ntmps7,yaz,yba];decide) fun hcl hlt=>?_
 change aw _ _ _ (KI Tryz.prog [(18,Ent.some bD),(19,Ent.some (dm A 0))] (fa Tryz.prog [.tmp 6] H.nx _) []) _ _
 clear hlt
 have d0:(((0:Nat):Int)==0)=true:=rfl
 cases w with
 |true =>
  try simp only [aW,go_sem,hne,hgi,hss,hg,ak,aG,aB,ap,am,Int.toNat_natCast,i1,f1,List.length_append,yaz,yba,d0]
  try simp only [aW,go_sem,hne,hgi,hss,hg,ak,aG,aB,ap,am,Int.toNat_natCast,i1,f1,List.length_append,yaz,yba,bD]
  refine ⟨b,a,⟨rfl,⟨ha1,ha2⟩,hb,by omega,by omega⟩,fun r5 a5 hr51 hr52 h51 h52=>?_⟩
  obtain ⟨j,rfl⟩:=Int.eq_ofNat_of_zero_le hr51
  obtain ⟨hgj,hpl⟩:=j6 (j:=j) (by omega)
  generalize cOpsL.getD j []=op at hgj hpl
  try simp only [aW,go_sem,hne,hgi,hss,hg,ak,aG,aB,ap,am,Int.toNat_natCast,i1,f1,List.length_append,yaz,yba,hgj,bD]
  refine ⟨by omega,b,a5,⟨rfl,⟨h51,h52⟩,hb,by omega,by omega⟩,fun r6 a6 hr61 hr62 h61 h62=>?_⟩
  try simp only [aW,go_sem,hne,hgi,hss,hg,ak,aG,aB,ap,am,Int.toNat_natCast,i1,f1,List.length_append,yaz,yba]
  refine aj (fun hcb=>?_) (fun hcb=>?_)
  ·skip
   try simp only [aW,go_sem,hne,hgi,hss,hg,ak,aG,aB,ap,am,Int.toNat_natCast,i1,f1,List.length_append,yaz,yba,bD]
   refine ⟨b,a6,⟨rfl,⟨h61,h62⟩,hb,by omega,by omega⟩,fun r7 a7 hr71 hr72 h71 h72=>?_⟩
   obtain ⟨j2,rfl⟩:=Int.eq_ofNat_of_zero_le hr71
   obtain ⟨hgj2,hpl2⟩:=jc (j:=j2) (by omega)
   generalize boolsL.getD j2 []=bo at hgj2 hpl2
   try simp only [aW,go_sem,hne,hgi,hss,hg,ak,aG,aB,ap,am,Int.toNat_natCast,i1,f1,List.length_append,yaz,yba,hgj2]
   refine ⟨by omega,?_⟩
   exact bM (hK _ a7 (by first|omega|(simp only [List.length_append,yaz,yba];omega)) h71 h72) hid hcl (((AHeap.Le.refl _).push _).push _)
  try simp only [aW,go_sem,hne,hgi,hss,hg,ak,aG,aB,ap,am,Int.toNat_natCast,i1,f1,List.length_append,yaz,yba,dm,cD]
  refine ⟨1,b,a6,⟨rfl,⟨h61,h62⟩,hb,rfl,by omega⟩,fun s1 a7 hs1 h71 h72=>?_⟩
  try simp only [aW,go_sem,hne,hgi,hss,hg,ak,aG,aB,ap,am,Int.toNat_natCast,i1,f1,List.length_append,yaz,yba,dm,cD]
  refine ⟨by rw [hms];omega,1,b,a7,⟨rfl,⟨h71,h72⟩,hb,rfl,by omega⟩,fun s2 a8 hs2 h81 h82=>?_⟩
  try simp only [aW,go_sem,hne,hgi,hss,hg,ak,aG,aB,ap,am,Int.toNat_natCast,i1,f1,List.length_append,yaz,yba]
  refine ⟨by rw [hms];omega,?_⟩
  exact bM (hK _ a8 (by first|omega|(simp only [List.length_append,yaz,yba];omega)) h81 h82) hid hcl ((AHeap.Le.refl _).push _)
 |false =>
  try simp only [aW,go_sem,hne,hgi,hss,hg,ak,aG,aB,ap,am,Int.toNat_natCast,i1,f1,List.length_append,yaz,yba,d0,bD]
  refine ⟨b,a,⟨rfl,⟨ha1,ha2⟩,hb,by omega,by omega⟩,fun r0 a1 hr1 hr2 h11 h12=>?_⟩
  try simp only [aW,go_sem,hne,hgi,hss,hg,ak,aG,aB,ap,am,Int.toNat_natCast,i1,f1,List.length_append,yaz,yba,d0]
  refine aj (fun hc=>?_) (fun hc=>?_)
  ·skip
   try simp only [aW,go_sem,hne,hgi,hss,hg,ak,aG,aB,ap,am,Int.toNat_natCast,i1,f1,List.length_append,yaz,yba,dm,cD]
   refine ⟨0,b,a1,⟨rfl,⟨h11,h12⟩,hb,rfl,by omega⟩,fun s1 a7 hs1 h71 h72=>?_⟩
   try simp only [aW,go_sem,hne,hgi,hss,hg,ak,aG,aB,ap,am,Int.toNat_natCast,i1,f1,List.length_append,yaz,yba]
   exact bM (hK _ a7 (by first|omega|(simp only [List.length_append,yaz,yba];omega)) h71 h72) hid hcl (AHeap.Le.refl _)
  try simp only [aW,go_sem,hne,hgi,hss,hg,ak,aG,aB,ap,am,Int.toNat_natCast,i1,f1,List.length_append,yaz,yba,d0]
  try simp only [aW,go_sem,hne,hgi,hss,hg,ak,aG,aB,ap,am,Int.toNat_natCast,i1,f1,List.length_append,yaz,yba,bD]
  refine ⟨b,a1,⟨rfl,⟨h11,h12⟩,hb,by omega,by omega⟩,fun r5 a5 hr51 hr52 h51 h52=>?_⟩
  obtain ⟨j,rfl⟩:=Int.eq_ofNat_of_zero_le hr51
  obtain ⟨hgj,hpl⟩:=j6 (j:=j) (by omega)
  generalize cOpsL.getD j []=op at hgj hpl
  try simp only [aW,go_sem,hne,hgi,hss,hg,ak,aG,aB,ap,am,Int.toNat_natCast,i1,f1,List.length_append,yaz,yba,hgj,bD]
  refine ⟨by omega,b,a5,⟨rfl,⟨h51,h52⟩,hb,by omega,by omega⟩,fun r6 a6 hr61 hr62 h61 h62=>?_⟩
  try simp only [aW,go_sem,hne,hgi,hss,hg,ak,aG,aB,ap,am,Int.toNat_natCast,i1,f1,List.length_append,yaz,yba]
  refine aj (fun hcb=>?_) (fun hcb=>?_)
  ·skip
   try simp only [aW,go_sem,hne,hgi,hss,hg,ak,aG,aB,ap,am,Int.toNat_natCast,i1,f1,List.length_append,yaz,yba,bD]
   refine ⟨b,a6,⟨rfl,⟨h61,h62⟩,hb,by omega,by omega⟩,fun r7 a7 hr71 hr72 h71 h72=>?_⟩
   obtain ⟨j2,rfl⟩:=Int.eq_ofNat_of_zero_le hr71
   obtain ⟨hgj2,hpl2⟩:=jc (j:=j2) (by omega)
   generalize boolsL.getD j2 []=bo at hgj2 hpl2
   try simp only [aW,go_sem,hne,hgi,hss,hg,ak,aG,aB,ap,am,Int.toNat_natCast,i1,f1,List.length_append,yaz,yba,hgj2]
   refine ⟨by omega,?_⟩
   exact bM (hK _ a7 (by first|omega|(simp only [List.length_append,yaz,yba];omega)) h71 h72) hid hcl (((AHeap.Le.refl _).push _).push _)
  try simp only [aW,go_sem,hne,hgi,hss,hg,ak,aG,aB,ap,am,Int.toNat_natCast,i1,f1,List.length_append,yaz,yba,dm,cD]
  refine ⟨1,b,a6,⟨rfl,⟨h61,h62⟩,hb,rfl,by omega⟩,fun s1 a7 hs1 h71 h72=>?_⟩
  try simp only [aW,go_sem,hne,hgi,hss,hg,ak,aG,aB,ap,am,Int.toNat_natCast,i1,f1,List.length_append,yaz,yba,dm,cD]
  refine ⟨by rw [hms];omega,1,b,a7,⟨rfl,⟨h71,h72⟩,hb,rfl,by omega⟩,fun s2 a8 hs2 h81 h82=>?_⟩
  try simp only [aW,go_sem,hne,hgi,hss,hg,ak,aG,aB,ap,am,Int.toNat_natCast,i1,f1,List.length_append,yaz,yba]
  refine ⟨by rw [hms];omega,?_⟩
  exact bM (hK _ a8 (by first|omega|(simp only [List.length_append,yaz,yba];omega)) h81 h82) hid hcl ((AHeap.Le.refl _).push _)
theorem uE {A:Prop} {d:Nat} (h_CSent:EntOk Tryz.prog 7 (Ent.some (bK A d))):EntOk Tryz.prog 7 (Ent.some (bK A (d+1))):=by
 refine EntOk.some fun args H K h=>?_
 unfold bK at h
 split at h
 rotate_left
 ·exact h.elim
 rename_i id n w
 obtain ⟨b,a,⟨hg,⟨ha1,ha2⟩,hb,rfl,hbd⟩,hK⟩:=h
 have hid:=AHeap.get_lt hg
 have hne:(id=H.nx)=False:=eq_false (by omega)
 have hgi:∀ x,(H.set id (cod b x)).get id=some (cod b x):=fun x=>AHeap.get_set_same _ _ hid
 have hss:∀ x y,(H.set id (cod b x)).set id (cod b y)=H.set id (cod b y):=fun x y=>nR
 have hms:lj=9223372036854775807:=rfl
 have i1:=@Int.natCast_nonneg
 have f1:=bz hid
 have hb0:=Dv (d+1)
 have hb1:=qA 1
 have hb2:=qA (d+1)
 have hid2:=Dn (d+1)
 have h_CNumA:=od (A:=A) (g:=0)
 have hbs:bS (d+1)=2*bS d+2*bN 1+bN (d+1)+20:=rfl
 refine ACallsP.of_aw (Ω:=[(18,Ent.some bD),(19,Ent.some (dm A 0)),(7,Ent.some (bK A d))]) (T:=au []) aA (TblOk.cons mi (TblOk.cons h_CNumA (TblOk.cons h_CSent TblOk.nil))) Tryz.func7 (by kernel_rfl) (by rfl) (rs:=[.tmp 6]) (by rfl) (by kernel_rfl) (by simp only [Tryz.ntmps7,yaz,yba];decide) fun hcl hlt=>?_
 change aw _ _ _ (KI Tryz.prog [(18,Ent.some bD),(19,Ent.some (dm A 0)),(7,Ent.some (bK A d))] (fa Tryz.prog [.tmp 6] H.nx _) []) _ _
 clear hlt
 have d0:(((d+1:Nat):Int)==0)=false:=by simp;omega
 have e1:IntKind.i64.wrap (((d+1:Nat):Int) - 1)=(d:Int):=by rw [wrap_i64]<;>omega
 cases w with
 |true =>
  try simp only [aW,go_sem,hne,hgi,hss,hg,ak,aG,aB,ap,am,Int.toNat_natCast,i1,f1,List.length_append,yaz,yba,d0,bD]
  refine ⟨b,a,⟨rfl,⟨ha1,ha2⟩,hb,by omega,by omega⟩,fun r1 a2 hr3 hr4 h21 h22=>?_⟩
  try simp only [aW,go_sem,hne,hgi,hss,hg,ak,aG,aB,ap,am,Int.toNat_natCast,i1,f1,List.length_append,yaz,yba,d0]
  refine aj (fun hc2=>?_) (fun hc2=>?_)
  ·skip
   try simp only [aW,go_sem,hne,hgi,hss,hg,ak,aG,aB,ap,am,Int.toNat_natCast,i1,f1,List.length_append,yaz,yba,bD]
   refine ⟨b,a2,⟨rfl,⟨h21,h22⟩,hb,by omega,by omega⟩,fun r5 a5 hr51 hr52 h51 h52=>?_⟩
   obtain ⟨j,rfl⟩:=Int.eq_ofNat_of_zero_le hr51
   obtain ⟨hgj,hpl⟩:=j6 (j:=j) (by omega)
   generalize cOpsL.getD j []=op at hgj hpl
   try simp only [aW,go_sem,hne,hgi,hss,hg,ak,aG,aB,ap,am,Int.toNat_natCast,i1,f1,List.length_append,yaz,yba,hgj,bD]
   refine ⟨by omega,b,a5,⟨rfl,⟨h51,h52⟩,hb,by omega,by omega⟩,fun r6 a6 hr61 hr62 h61 h62=>?_⟩
   try simp only [aW,go_sem,hne,hgi,hss,hg,ak,aG,aB,ap,am,Int.toNat_natCast,i1,f1,List.length_append,yaz,yba]
   refine aj (fun hcb=>?_) (fun hcb=>?_)
   ·skip
    try simp only [aW,go_sem,hne,hgi,hss,hg,ak,aG,aB,ap,am,Int.toNat_natCast,i1,f1,List.length_append,yaz,yba,bD]
    refine ⟨b,a6,⟨rfl,⟨h61,h62⟩,hb,by omega,by omega⟩,fun r7 a7 hr71 hr72 h71 h72=>?_⟩
    obtain ⟨j2,rfl⟩:=Int.eq_ofNat_of_zero_le hr71
    obtain ⟨hgj2,hpl2⟩:=jc (j:=j2) (by omega)
    generalize boolsL.getD j2 []=bo at hgj2 hpl2
    try simp only [aW,go_sem,hne,hgi,hss,hg,ak,aG,aB,ap,am,Int.toNat_natCast,i1,f1,List.length_append,yaz,yba,hgj2]
    refine ⟨by omega,?_⟩
    exact bM (hK _ a7 (by first|omega|(simp only [List.length_append,yaz,yba];omega)) h71 h72) hid hcl (((AHeap.Le.refl _).push _).push _)
   try simp only [aW,go_sem,hne,hgi,hss,hg,ak,aG,aB,ap,am,Int.toNat_natCast,i1,f1,List.length_append,yaz,yba,dm,cD]
   refine ⟨1,b,a6,⟨rfl,⟨h61,h62⟩,hb,rfl,by omega⟩,fun s1 a7 hs1 h71 h72=>?_⟩
   try simp only [aW,go_sem,hne,hgi,hss,hg,ak,aG,aB,ap,am,Int.toNat_natCast,i1,f1,List.length_append,yaz,yba,dm,cD]
   refine ⟨by rw [hms];omega,1,b,a7,⟨rfl,⟨h71,h72⟩,hb,rfl,by omega⟩,fun s2 a8 hs2 h81 h82=>?_⟩
   try simp only [aW,go_sem,hne,hgi,hss,hg,ak,aG,aB,ap,am,Int.toNat_natCast,i1,f1,List.length_append,yaz,yba]
   refine ⟨by rw [hms];omega,?_⟩
   exact bM (hK _ a8 (by first|omega|(simp only [List.length_append,yaz,yba];omega)) h81 h82) hid hcl ((AHeap.Le.refl _).push _)
  try simp only [aW,go_sem,hne,hgi,hss,hg,ak,aG,aB,ap,am,Int.toNat_natCast,i1,f1,List.length_append,yaz,yba,bD]
  refine ⟨b,a2,⟨rfl,⟨h21,h22⟩,hb,by omega,by omega⟩,fun r3 A0 hr5 hr6 h01 h02=>?_⟩
  try simp only [aW,go_sem,hne,hgi,hss,hg,ak,aG,aB,ap,am,Int.toNat_natCast,i1,f1,List.length_append,yaz,yba]
  refine aj (fun hk0=>?_) (fun hk0=>?_)
  ·skip
   try simp only [aW,go_sem,hne,hgi,hss,hg,ak,aG,aB,ap,am,Int.toNat_natCast,i1,f1,List.length_append,yaz,yba,bK,e1]
   refine ⟨b,A0,⟨rfl,⟨h01,h02⟩,hb,by omega⟩,fun s1 a8 hs1 h81 h82=>?_⟩
   try simp only [aW,go_sem,hne,hgi,hss,hg,ak,aG,aB,ap,am,Int.toNat_natCast,i1,f1,List.length_append,yaz,yba]
   refine ⟨by rw [hms];omega,by rw [hms];omega,?_⟩
   exact bM (hK _ a8 (by first|omega|(simp only [List.length_append,yaz,yba];omega)) h81 h82) hid hcl (AHeap.Le.refl _)
  try simp only [aW,go_sem,hne,hgi,hss,hg,ak,aG,aB,ap,am,Int.toNat_natCast,i1,f1,List.length_append,yaz,yba]
  refine aj (fun hk1=>?_) (fun hk1=>?_)
  ·skip
   try simp only [aW,go_sem,hne,hgi,hss,hg,ak,aG,aB,ap,am,Int.toNat_natCast,i1,f1,List.length_append,yaz,yba,bK,e1]
   refine ⟨b,A0,⟨rfl,⟨h01,h02⟩,hb,by omega⟩,fun s1 a8 hs1 h81 h82=>?_⟩
   try simp only [aW,go_sem,hne,hgi,hss,hg,ak,aG,aB,ap,am,Int.toNat_natCast,i1,f1,List.length_append,yaz,yba,bK,e1]
   refine ⟨by rw [hms];omega,by rw [hms];omega,by rw [hms];omega,b,a8,⟨rfl,⟨h81,h82⟩,hb,by omega⟩,fun s2 a9 hs2 h91 h92=>?_⟩
   try simp only [aW,go_sem,hne,hgi,hss,hg,ak,aG,aB,ap,am,Int.toNat_natCast,i1,f1,List.length_append,yaz,yba]
   refine ⟨by rw [hms];omega,by rw [hms];omega,?_⟩
   exact bM (hK _ a9 (by first|omega|(simp only [List.length_append,yaz,yba];omega)) h91 h92) hid hcl (AHeap.Le.refl _)
  try simp only [aW,go_sem,hne,hgi,hss,hg,ak,aG,aB,ap,am,Int.toNat_natCast,i1,f1,List.length_append,yaz,yba]
  refine aj (fun hk2=>?_) (fun hk2=>?_)
  ·skip
   try simp only [aW,go_sem,hne,hgi,hss,hg,ak,aG,aB,ap,am,Int.toNat_natCast,i1,f1,List.length_append,yaz,yba,bK,e1]
   refine ⟨b,A0,⟨rfl,⟨h01,h02⟩,hb,by omega⟩,fun s1 a8 hs1 h81 h82=>?_⟩
   try simp only [aW,go_sem,hne,hgi,hss,hg,ak,aG,aB,ap,am,Int.toNat_natCast,i1,f1,List.length_append,yaz,yba,bK,e1]
   refine ⟨by rw [hms];omega,by rw [hms];omega,by rw [hms];omega,b,a8,⟨rfl,⟨h81,h82⟩,hb,by omega⟩,fun s2 a9 hs2 h91 h92=>?_⟩
   try simp only [aW,go_sem,hne,hgi,hss,hg,ak,aG,aB,ap,am,Int.toNat_natCast,i1,f1,List.length_append,yaz,yba]
   refine ⟨by rw [hms];omega,by rw [hms];omega,?_⟩
   exact bM (hK _ a9 (by first|omega|(simp only [List.length_append,yaz,yba];omega)) h91 h92) hid hcl (AHeap.Le.refl _)
  try simp only [aW,go_sem,hne,hgi,hss,hg,ak,aG,aB,ap,am,Int.toNat_natCast,i1,f1,List.length_append,yaz,yba]
  refine aj (fun hk3=>?_) (fun hk3=>?_)
  ·skip
   try simp only [aW,go_sem,hne,hgi,hss,hg,ak,aG,aB,ap,am,Int.toNat_natCast,i1,f1,List.length_append,yaz,yba,bK,e1]
   refine ⟨b,A0,⟨rfl,⟨h01,h02⟩,hb,by omega⟩,fun s1 a8 hs1 h81 h82=>?_⟩
   try simp only [aW,go_sem,hne,hgi,hss,hg,ak,aG,aB,ap,am,Int.toNat_natCast,i1,f1,List.length_append,yaz,yba,bK,e1]
   refine ⟨by rw [hms];omega,by rw [hms];omega,by rw [hms];omega,b,a8,⟨rfl,⟨h81,h82⟩,hb,by omega⟩,fun s2 a9 hs2 h91 h92=>?_⟩
   try simp only [aW,go_sem,hne,hgi,hss,hg,ak,aG,aB,ap,am,Int.toNat_natCast,i1,f1,List.length_append,yaz,yba]
   refine ⟨by rw [hms];omega,by rw [hms];omega,?_⟩
   exact bM (hK _ a9 (by first|omega|(simp only [List.length_append,yaz,yba];omega)) h91 h92) hid hcl (AHeap.Le.refl _)
  try simp only [aW,go_sem,hne,hgi,hss,hg,ak,aG,aB,ap,am,Int.toNat_natCast,i1,f1,List.length_append,yaz,yba]
  refine aj (fun hk4=>?_) (fun hk4=>?_)
  ·skip
   try simp only [aW,go_sem,hne,hgi,hss,hg,ak,aG,aB,ap,am,Int.toNat_natCast,i1,f1,List.length_append,yaz,yba,bK,e1]
   refine ⟨b,A0,⟨rfl,⟨h01,h02⟩,hb,by omega⟩,fun s1 a8 hs1 h81 h82=>?_⟩
   try simp only [aW,go_sem,hne,hgi,hss,hg,ak,aG,aB,ap,am,Int.toNat_natCast,i1,f1,List.length_append,yaz,yba,bK,e1]
   refine ⟨by rw [hms];omega,by rw [hms];omega,by rw [hms];omega,b,a8,⟨rfl,⟨h81,h82⟩,hb,by omega⟩,fun s2 a9 hs2 h91 h92=>?_⟩
   try simp only [aW,go_sem,hne,hgi,hss,hg,ak,aG,aB,ap,am,Int.toNat_natCast,i1,f1,List.length_append,yaz,yba]
   refine ⟨by rw [hms];omega,by rw [hms];omega,?_⟩
   exact bM (hK _ a9 (by first|omega|(simp only [List.length_append,yaz,yba];omega)) h91 h92) hid hcl (AHeap.Le.refl _)
  try simp only [aW,go_sem,hne,hgi,hss,hg,ak,aG,aB,ap,am,Int.toNat_natCast,i1,f1,List.length_append,yaz,yba]
  try simp only [aW,go_sem,hne,hgi,hss,hg,ak,aG,aB,ap,am,Int.toNat_natCast,i1,f1,List.length_append,yaz,yba,bK,e1]
  refine ⟨b,A0,⟨rfl,⟨h01,h02⟩,hb,by omega⟩,fun s1 a8 hs1 h81 h82=>?_⟩
  try simp only [aW,go_sem,hne,hgi,hss,hg,ak,aG,aB,ap,am,Int.toNat_natCast,i1,f1,List.length_append,yaz,yba]
  refine ⟨by rw [hms];omega,by rw [hms];omega,?_⟩
  exact bM (hK _ a8 (by first|omega|(simp only [List.length_append,yaz,yba];omega)) h81 h82) hid hcl (AHeap.Le.refl _)
 |false =>
  try simp only [aW,go_sem,hne,hgi,hss,hg,ak,aG,aB,ap,am,Int.toNat_natCast,i1,f1,List.length_append,yaz,yba,d0,bD]
  refine ⟨b,a,⟨rfl,⟨ha1,ha2⟩,hb,by omega,by omega⟩,fun r0 a1 hr1 hr2 h11 h12=>?_⟩
  try simp only [aW,go_sem,hne,hgi,hss,hg,ak,aG,aB,ap,am,Int.toNat_natCast,i1,f1,List.length_append,yaz,yba,d0]
  refine aj (fun hc=>?_) (fun hc=>?_)
  ·skip
   try simp only [aW,go_sem,hne,hgi,hss,hg,ak,aG,aB,ap,am,Int.toNat_natCast,i1,f1,List.length_append,yaz,yba,dm,cD]
   refine ⟨(d+1),b,a1,⟨rfl,⟨h11,h12⟩,hb,rfl,by omega⟩,fun s1 a7 hs1 h71 h72=>?_⟩
   try simp only [aW,go_sem,hne,hgi,hss,hg,ak,aG,aB,ap,am,Int.toNat_natCast,i1,f1,List.length_append,yaz,yba]
   exact bM (hK _ a7 (by first|omega|(simp only [List.length_append,yaz,yba];omega)) h71 h72) hid hcl (AHeap.Le.refl _)
  try simp only [aW,go_sem,hne,hgi,hss,hg,ak,aG,aB,ap,am,Int.toNat_natCast,i1,f1,List.length_append,yaz,yba,d0,bD]
  refine ⟨b,a1,⟨rfl,⟨h11,h12⟩,hb,by omega,by omega⟩,fun r1 a2 hr3 hr4 h21 h22=>?_⟩
  try simp only [aW,go_sem,hne,hgi,hss,hg,ak,aG,aB,ap,am,Int.toNat_natCast,i1,f1,List.length_append,yaz,yba,d0]
  refine aj (fun hc2=>?_) (fun hc2=>?_)
  ·skip
   try simp only [aW,go_sem,hne,hgi,hss,hg,ak,aG,aB,ap,am,Int.toNat_natCast,i1,f1,List.length_append,yaz,yba,bD]
   refine ⟨b,a2,⟨rfl,⟨h21,h22⟩,hb,by omega,by omega⟩,fun r5 a5 hr51 hr52 h51 h52=>?_⟩
   obtain ⟨j,rfl⟩:=Int.eq_ofNat_of_zero_le hr51
   obtain ⟨hgj,hpl⟩:=j6 (j:=j) (by omega)
   generalize cOpsL.getD j []=op at hgj hpl
   try simp only [aW,go_sem,hne,hgi,hss,hg,ak,aG,aB,ap,am,Int.toNat_natCast,i1,f1,List.length_append,yaz,yba,hgj,bD]
   refine ⟨by omega,b,a5,⟨rfl,⟨h51,h52⟩,hb,by omega,by omega⟩,fun r6 a6 hr61 hr62 h61 h62=>?_⟩
   try simp only [aW,go_sem,hne,hgi,hss,hg,ak,aG,aB,ap,am,Int.toNat_natCast,i1,f1,List.length_append,yaz,yba]
   refine aj (fun hcb=>?_) (fun hcb=>?_)
   ·skip
    try simp only [aW,go_sem,hne,hgi,hss,hg,ak,aG,aB,ap,am,Int.toNat_natCast,i1,f1,List.length_append,yaz,yba,bD]
    refine ⟨b,a6,⟨rfl,⟨h61,h62⟩,hb,by omega,by omega⟩,fun r7 a7 hr71 hr72 h71 h72=>?_⟩
    obtain ⟨j2,rfl⟩:=Int.eq_ofNat_of_zero_le hr71
    obtain ⟨hgj2,hpl2⟩:=jc (j:=j2) (by omega)
    generalize boolsL.getD j2 []=bo at hgj2 hpl2
    try simp only [aW,go_sem,hne,hgi,hss,hg,ak,aG,aB,ap,am,Int.toNat_natCast,i1,f1,List.length_append,yaz,yba,hgj2]
    refine ⟨by omega,?_⟩
    exact bM (hK _ a7 (by first|omega|(simp only [List.length_append,yaz,yba];omega)) h71 h72) hid hcl (((AHeap.Le.refl _).push _).push _)
   try simp only [aW,go_sem,hne,hgi,hss,hg,ak,aG,aB,ap,am,Int.toNat_natCast,i1,f1,List.length_append,yaz,yba,dm,cD]
   refine ⟨1,b,a6,⟨rfl,⟨h61,h62⟩,hb,rfl,by omega⟩,fun s1 a7 hs1 h71 h72=>?_⟩
   try simp only [aW,go_sem,hne,hgi,hss,hg,ak,aG,aB,ap,am,Int.toNat_natCast,i1,f1,List.length_append,yaz,yba,dm,cD]
   refine ⟨by rw [hms];omega,1,b,a7,⟨rfl,⟨h71,h72⟩,hb,rfl,by omega⟩,fun s2 a8 hs2 h81 h82=>?_⟩
   try simp only [aW,go_sem,hne,hgi,hss,hg,ak,aG,aB,ap,am,Int.toNat_natCast,i1,f1,List.length_append,yaz,yba]
   refine ⟨by rw [hms];omega,?_⟩
   exact bM (hK _ a8 (by first|omega|(simp only [List.length_append,yaz,yba];omega)) h81 h82) hid hcl ((AHeap.Le.refl _).push _)
  try simp only [aW,go_sem,hne,hgi,hss,hg,ak,aG,aB,ap,am,Int.toNat_natCast,i1,f1,List.length_append,yaz,yba,bD]
  refine ⟨b,a2,⟨rfl,⟨h21,h22⟩,hb,by omega,by omega⟩,fun r3 A0 hr5 hr6 h01 h02=>?_⟩
  try simp only [aW,go_sem,hne,hgi,hss,hg,ak,aG,aB,ap,am,Int.toNat_natCast,i1,f1,List.length_append,yaz,yba]
  refine aj (fun hk0=>?_) (fun hk0=>?_)
  ·skip
   try simp only [aW,go_sem,hne,hgi,hss,hg,ak,aG,aB,ap,am,Int.toNat_natCast,i1,f1,List.length_append,yaz,yba,bK,e1]
   refine ⟨b,A0,⟨rfl,⟨h01,h02⟩,hb,by omega⟩,fun s1 a8 hs1 h81 h82=>?_⟩
   try simp only [aW,go_sem,hne,hgi,hss,hg,ak,aG,aB,ap,am,Int.toNat_natCast,i1,f1,List.length_append,yaz,yba]
   refine ⟨by rw [hms];omega,by rw [hms];omega,?_⟩
   exact bM (hK _ a8 (by first|omega|(simp only [List.length_append,yaz,yba];omega)) h81 h82) hid hcl (AHeap.Le.refl _)
  try simp only [aW,go_sem,hne,hgi,hss,hg,ak,aG,aB,ap,am,Int.toNat_natCast,i1,f1,List.length_append,yaz,yba]
  refine aj (fun hk1=>?_) (fun hk1=>?_)
  ·skip
   try simp only [aW,go_sem,hne,hgi,hss,hg,ak,aG,aB,ap,am,Int.toNat_natCast,i1,f1,List.length_append,yaz,yba,bK,e1]
   refine ⟨b,A0,⟨rfl,⟨h01,h02⟩,hb,by omega⟩,fun s1 a8 hs1 h81 h82=>?_⟩
   try simp only [aW,go_sem,hne,hgi,hss,hg,ak,aG,aB,ap,am,Int.toNat_natCast,i1,f1,List.length_append,yaz,yba,bK,e1]
   refine ⟨by rw [hms];omega,by rw [hms];omega,by rw [hms];omega,b,a8,⟨rfl,⟨h81,h82⟩,hb,by omega⟩,fun s2 a9 hs2 h91 h92=>?_⟩
   try simp only [aW,go_sem,hne,hgi,hss,hg,ak,aG,aB,ap,am,Int.toNat_natCast,i1,f1,List.length_append,yaz,yba]
   refine ⟨by rw [hms];omega,by rw [hms];omega,?_⟩
   exact bM (hK _ a9 (by first|omega|(simp only [List.length_append,yaz,yba];omega)) h91 h92) hid hcl (AHeap.Le.refl _)
  try simp only [aW,go_sem,hne,hgi,hss,hg,ak,aG,aB,ap,am,Int.toNat_natCast,i1,f1,List.length_append,yaz,yba]
  refine aj (fun hk2=>?_) (fun hk2=>?_)
  ·skip
   try simp only [aW,go_sem,hne,hgi,hss,hg,ak,aG,aB,ap,am,Int.toNat_natCast,i1,f1,List.length_append,yaz,yba,bK,e1]
   refine ⟨b,A0,⟨rfl,⟨h01,h02⟩,hb,by omega⟩,fun s1 a8 hs1 h81 h82=>?_⟩
   try simp only [aW,go_sem,hne,hgi,hss,hg,ak,aG,aB,ap,am,Int.toNat_natCast,i1,f1,List.length_append,yaz,yba,bK,e1]
   refine ⟨by rw [hms];omega,by rw [hms];omega,by rw [hms];omega,b,a8,⟨rfl,⟨h81,h82⟩,hb,by omega⟩,fun s2 a9 hs2 h91 h92=>?_⟩
   try simp only [aW,go_sem,hne,hgi,hss,hg,ak,aG,aB,ap,am,Int.toNat_natCast,i1,f1,List.length_append,yaz,yba]
   refine ⟨by rw [hms];omega,by rw [hms];omega,?_⟩
   exact bM (hK _ a9 (by first|omega|(simp only [List.length_append,yaz,yba];omega)) h91 h92) hid hcl (AHeap.Le.refl _)
  try simp only [aW,go_sem,hne,hgi,hss,hg,ak,aG,aB,ap,am,Int.toNat_natCast,i1,f1,List.length_append,yaz,yba]
  refine aj (fun hk3=>?_) (fun hk3=>?_)
  ·skip
   try simp only [aW,go_sem,hne,hgi,hss,hg,ak,aG,aB,ap,am,Int.toNat_natCast,i1,f1,List.length_append,yaz,yba,bK,e1]
   refine ⟨b,A0,⟨rfl,⟨h01,h02⟩,hb,by omega⟩,fun s1 a8 hs1 h81 h82=>?_⟩
   try simp only [aW,go_sem,hne,hgi,hss,hg,ak,aG,aB,ap,am,Int.toNat_natCast,i1,f1,List.length_append,yaz,yba,bK,e1]
   refine ⟨by rw [hms];omega,by rw [hms];omega,by rw [hms];omega,b,a8,⟨rfl,⟨h81,h82⟩,hb,by omega⟩,fun s2 a9 hs2 h91 h92=>?_⟩
   try simp only [aW,go_sem,hne,hgi,hss,hg,ak,aG,aB,ap,am,Int.toNat_natCast,i1,f1,List.length_append,yaz,yba]
   refine ⟨by rw [hms];omega,by rw [hms];omega,?_⟩
   exact bM (hK _ a9 (by first|omega|(simp only [List.length_append,yaz,yba];omega)) h91 h92) hid hcl (AHeap.Le.refl _)
  try simp only [aW,go_sem,hne,hgi,hss,hg,ak,aG,aB,ap,am,Int.toNat_natCast,i1,f1,List.length_append,yaz,yba]
  refine aj (fun hk4=>?_) (fun hk4=>?_)
  ·skip
   try simp only [aW,go_sem,hne,hgi,hss,hg,ak,aG,aB,ap,am,Int.toNat_natCast,i1,f1,List.length_append,yaz,yba,bK,e1]
   refine ⟨b,A0,⟨rfl,⟨h01,h02⟩,hb,by omega⟩,fun s1 a8 hs1 h81 h82=>?_⟩
   try simp only [aW,go_sem,hne,hgi,hss,hg,ak,aG,aB,ap,am,Int.toNat_natCast,i1,f1,List.length_append,yaz,yba,bK,e1]
   refine ⟨by rw [hms];omega,by rw [hms];omega,by rw [hms];omega,b,a8,⟨rfl,⟨h81,h82⟩,hb,by omega⟩,fun s2 a9 hs2 h91 h92=>?_⟩
   try simp only [aW,go_sem,hne,hgi,hss,hg,ak,aG,aB,ap,am,Int.toNat_natCast,i1,f1,List.length_append,yaz,yba]
   refine ⟨by rw [hms];omega,by rw [hms];omega,?_⟩
   exact bM (hK _ a9 (by first|omega|(simp only [List.length_append,yaz,yba];omega)) h91 h92) hid hcl (AHeap.Le.refl _)
  try simp only [aW,go_sem,hne,hgi,hss,hg,ak,aG,aB,ap,am,Int.toNat_natCast,i1,f1,List.length_append,yaz,yba]
  try simp only [aW,go_sem,hne,hgi,hss,hg,ak,aG,aB,ap,am,Int.toNat_natCast,i1,f1,List.length_append,yaz,yba,bK,e1]
  refine ⟨b,A0,⟨rfl,⟨h01,h02⟩,hb,by omega⟩,fun s1 a8 hs1 h81 h82=>?_⟩
  try simp only [aW,go_sem,hne,hgi,hss,hg,ak,aG,aB,ap,am,Int.toNat_natCast,i1,f1,List.length_append,yaz,yba]
  refine ⟨by rw [hms];omega,by rw [hms];omega,?_⟩
  exact bM (hK _ a8 (by first|omega|(simp only [List.length_append,yaz,yba];omega)) h81 h82) hid hcl (AHeap.Le.refl _)
theorem pO {A:Prop}:∀ d,EntOk Tryz.prog 7 (Ent.some (bK A d))
 |0=>tA
 |d+1=>uE (pO d)
end Go.AL
