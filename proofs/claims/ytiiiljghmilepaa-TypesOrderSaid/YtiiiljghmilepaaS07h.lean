/- Contracts and plain laws, a part of the proof; no condition of its own. -/
import Derived.Test.YtiiiljghmilepaaE06
set_option maxHeartbeats 32000000
open List renaming length_cons → yaz, length_nil → yba
open Go Go.AL Go.Proofs
namespace Go.AL
set_option linter.all false
set_option maxRecDepth 10000
def bN:Nat→Nat
 |0=>40
 |d+1=>2*bN d+5
def bJ (_A:Prop) (d:Nat):List AV→AHeap→(AV→AHeap→Prop)→Prop
 |[.ptr id 0,.int .i64 n,.bool _],H,K=>∃ b a,(H.get id=some (cod b a)∧(0≤a∧a≤(b.length:Int))∧b.length≤140737488355328∧n=(d:Int)∧bN d≤1000000) ∧
   ∀ s a',s.length≤bN d→0≤a'→a'≤(b.length:Int)→K (.str s) (H.set id (cod b a'))
 |_,_,_=>False
def nms:List (List UInt8):=[[97],[98],[100,58,58,112,114,101,102,105,120,95,108,101,110,103,116,104],[101,58,58,109,97,115,107],[102,58,58,104,105,103,104],[112,114,105,111,114,105,116,121],[48],[49],[49,53],[48,120,102,102],[51,52,48,50,56,50,51,54,54,57,50,48,57,51,56,52,54,51,52,54,51,51,55,52,54,48,55,52,51,49,55,54,56,50,49,49,52,53,53],[120]]
theorem bz:nms.length=12:=rfl
theorem vB:∀ x∈nms,x.length≤40:=by decide
theorem dh:[AV.str [97],AV.str [98],AV.str [100,58,58,112,114,101,102,105,120,95,108,101,110,103,116,104],AV.str [101,58,58,109,97,115,107],AV.str [102,58,58,104,105,103,104],AV.str [112,114,105,111,114,105,116,121],AV.str [48],AV.str [49],AV.str [49,53],AV.str [48,120,102,102],AV.str [51,52,48,50,56,50,51,54,54,57,50,48,57,51,56,52,54,51,52,54,51,51,55,52,54,48,55,52,51,49,55,54,56,50,49,49,52,53,53],AV.str [120]]=sAV nms:=rfl
theorem jJ {H:AHeap} {id:Nat} {b:List UInt8} {a a':Int}:(H.set id (cod b a)).set id (cod b a')=H.set id (cod b a'):=by
 simp only [AHeap.set];congr 1;funext j;split<;>rfl
theorem ni {j:Nat} (hj:j<12):(sAV nms).getD j .junk=.str (nms.getD j [])∧(nms.getD j []).length≤40:=by
 refine ⟨iI (by rw [bz];exact hj),?_⟩
 rw [List.getD_eq_getElem?_getD,List.getElem?_eq_getElem (show j<nms.length by rw [bz];exact hj)]
 exact vB _ (List.getElem_mem _)
theorem lG (d:Nat):40≤bN d:=by
 induction d with
 |zero=>exact Nat.le_refl _
 |succ d ih=>unfold bN;omega
theorem bg {H X:AHeap} {K:AV→AHeap→Prop} {id:Nat} {b:List UInt8} {a':Int} {s:List UInt8} (hK:K (.str s) (H.set id (cod b a'))) (hid:id<H.nx) (hcl:H.Closed) (hle:(H.set id (cod b a')).Le X):mB H.nx K (.str s) X :=
 ⟨_,_,hK,Nat.le_refl _,by simp [zmi],hle,aj hcl (by simp [zno,znp,zmz,zmm]),by simp [znb]⟩
theorem ot {A:Prop}:EntOk Try.prog 29 (Ent.some (bJ A 0)):=by
 refine EntOk.some fun args H K h=>?_
 unfold bJ at h
 split at h
 rotate_left
 ·exact h.elim
 rename_i id n w
 obtain ⟨b,a,⟨hg,⟨ha1,ha2⟩,hb,rfl,hbd⟩,hK⟩:=h
 have hid:=AHeap.get_lt hg
 have hne:(id=H.nx)=False:=eq_false (by omega)
 have hgi:∀ x,(H.set id (cod b x)).get id=some (cod b x):=fun x=>AHeap.get_set_same _ _ hid
 have hss:∀ x y,(H.set id (cod b x)).set id (cod b y)=H.set id (cod b y):=fun x y=>jJ
 have hms:gY=9223372036854775807:=rfl
 have hb0:=lG 0
 refine ACallsP.of_aw (Ω:=[(28,Ent.some aZ)]) (T:=az []) aI (TblOk.cons iO TblOk.nil) Try.func29 (by kernel_rfl) (by rfl) (rs:=[.tmp 6]) (by rfl) (by kernel_rfl) (by simp only [Try.ntmps29,yaz,yba];decide) fun hcl hlt=>?_
 change aw _ _ _ (KI Try.prog [(28,Ent.some aZ)] (fH Try.prog [.tmp 6] H.nx _) []) _ _
 clear hlt
 have d0:(((0:Nat):Int)==0)=true:=rfl
 try simp only [go_sem,hne,hgi,hss,hg,aa,bz,dh,Int.toNat_natCast,d0,aZ]
 refine ⟨b,a,⟨rfl,⟨ha1,ha2⟩,hb,by omega,by omega⟩,fun r a9 hr1 hr2 ha1' ha2'=>?_⟩
 obtain ⟨j,rfl⟩:=Int.eq_ofNat_of_zero_le hr1
 obtain ⟨hgj,hpl⟩:=ni (j:=j) (by omega)
 try simp only [aF,go_sem,hne,hgi,hss,hg,aa,bz,dh,Int.toNat_natCast,hgj]
 refine ⟨by omega,?_⟩
 exact bg (hK _ a9 (by omega) ha1' ha2') hid hcl ((AHeap.Le.refl _).push _)
theorem ou {A:Prop} {d:Nat} (h_CNum:EntOk Try.prog 29 (Ent.some (bJ A d))):EntOk Try.prog 29 (Ent.some (bJ A (d+1))):=by
 refine EntOk.some fun args H K h=>?_
 unfold bJ at h
 split at h
 rotate_left
 ·exact h.elim
 rename_i id n w
 obtain ⟨b,a,⟨hg,⟨ha1,ha2⟩,hb,rfl,hbd⟩,hK⟩:=h
 have hid:=AHeap.get_lt hg
 have hne:(id=H.nx)=False:=eq_false (by omega)
 have hgi:∀ x,(H.set id (cod b x)).get id=some (cod b x):=fun x=>AHeap.get_set_same _ _ hid
 have hss:∀ x y,(H.set id (cod b x)).set id (cod b y)=H.set id (cod b y):=fun x y=>jJ
 have hms:gY=9223372036854775807:=rfl
 have hb0:=lG d
 have hbs:bN (d+1)=2*bN d+5:=rfl
 rw [hbs] at hbd
 have hdd:d≤1000000:=by
  have:∀ k,k≤bN k:=fun k=>by
   induction k with
   |zero=>exact Nat.zero_le _
   |succ k ih=>unfold bN;omega
  have:=this d
  omega
 refine ACallsP.of_aw (Ω:=[(28,Ent.some aZ),(29,Ent.some (bJ A d))]) (T:=az []) aI (TblOk.cons iO (TblOk.cons h_CNum TblOk.nil)) Try.func29 (by kernel_rfl) (by rfl) (rs:=[.tmp 6]) (by rfl) (by kernel_rfl) (by simp only [Try.ntmps29,yaz,yba];decide) fun hcl hlt=>?_
 change aw _ _ _ (KI Try.prog [(28,Ent.some aZ),(29,Ent.some (bJ A d))] (fH Try.prog [.tmp 6] H.nx _) []) _ _
 clear hlt
 have d0:(((d+1:Nat):Int)==0)=false:=by simp;omega
 have e1:IntKind.i64.wrap (((d+1:Nat):Int) - 1)=(d:Int):=by rw [wrap_i64]<;>omega
 try simp only [go_sem,hne,hgi,hss,hg,aa,bz,dh,Int.toNat_natCast,d0,aZ]
 refine ⟨b,a,⟨rfl,⟨ha1,ha2⟩,hb,by omega,by omega⟩,fun r0 a1 hr1 hr2 h11 h12=>?_⟩
 try simp only [aF,go_sem,hne,hgi,hss,hg,aa,bz,dh,Int.toNat_natCast]
 refine am (fun hc=>?_) (fun hc=>?_)
 ·simp only [go_sem,hne,hgi,hss,hg,aa,bz,dh,Int.toNat_natCast,aZ]
  refine ⟨b,a1,⟨rfl,⟨h11,h12⟩,hb,by omega,by omega⟩,fun r a9 hr1 hr2 ha1' ha2'=>?_⟩
  obtain ⟨j,rfl⟩:=Int.eq_ofNat_of_zero_le hr1
  obtain ⟨hgj,hpl⟩:=ni (j:=j) (by omega)
  try simp only [aF,go_sem,hne,hgi,hss,hg,aa,bz,dh,Int.toNat_natCast,hgj]
  refine ⟨by omega,?_⟩
  exact bg (hK _ a9 (by omega) ha1' ha2') hid hcl ((AHeap.Le.refl _).push _)
 try simp only [go_sem,hne,hgi,hss,hg,aa,bz,dh,Int.toNat_natCast,aZ]
 refine ⟨b,a1,⟨rfl,⟨h11,h12⟩,hb,by omega,by omega⟩,fun r1 a2 hr3 hr4 h21 h22=>?_⟩
 try simp only [aF,go_sem,hne,hgi,hss,hg,aa,bz,dh,Int.toNat_natCast]
 refine am (fun h0=>?_) (fun h0=>?_)
 ·simp only [go_sem,hne,hgi,hss,hg,aa,bz,dh,Int.toNat_natCast,bJ,e1]
  refine ⟨b,a2,⟨rfl,⟨h21,h22⟩,hb,by omega⟩,fun s a3 hs h31 h32=>?_⟩
  try simp only [aF,go_sem,hne,hgi,hss,hg,aa,bz,dh,Int.toNat_natCast]
  refine ⟨by rw [hms];omega,?_⟩
  exact bg (hK _ a3 (by rw [hbs];simp;omega) h31 h32) hid hcl (AHeap.Le.refl _)
 try simp only [go_sem,hne,hgi,hss,hg,aa,bz,dh,Int.toNat_natCast]
 refine am (fun h0=>?_) (fun h0=>?_)
 ·simp only [go_sem,hne,hgi,hss,hg,aa,bz,dh,Int.toNat_natCast,bJ,e1]
  refine ⟨b,a2,⟨rfl,⟨h21,h22⟩,hb,by omega⟩,fun s a3 hs h31 h32=>?_⟩
  try simp only [aF,go_sem,hne,hgi,hss,hg,aa,bz,dh,Int.toNat_natCast,List.length_append,yaz,yba]
  refine ⟨by rw [hms];omega,by rw [hms];omega,?_⟩
  exact bg (hK _ a3 (by rw [hbs];simp;omega) h31 h32) hid hcl (AHeap.Le.refl _)
 try simp only [go_sem,hne,hgi,hss,hg,aa,bz,dh,Int.toNat_natCast]
 refine am (fun h0=>?_) (fun h0=>?_)
 ·simp only [go_sem,hne,hgi,hss,hg,aa,bz,dh,Int.toNat_natCast,bJ,e1]
  refine ⟨b,a2,⟨rfl,⟨h21,h22⟩,hb,by omega⟩,fun s a3 hs h31 h32=>?_⟩
  try simp only [aF,go_sem,hne,hgi,hss,hg,aa,bz,dh,Int.toNat_natCast,bJ,e1,List.length_append,yaz,yba]
  refine ⟨by rw [hms];omega,b,a3,⟨rfl,⟨h31,h32⟩,hb,by omega⟩,fun s2 a4 hs2 h41 h42=>?_⟩
  try simp only [aF,go_sem,hne,hgi,hss,hg,aa,bz,dh,Int.toNat_natCast]
  refine ⟨by (rw [hms];(try simp);omega),?_⟩
  exact bg (hK _ a4 (by rw [hbs];simp;omega) h41 h42) hid hcl (AHeap.Le.refl _)
 try simp only [go_sem,hne,hgi,hss,hg,aa,bz,dh,Int.toNat_natCast,bJ,e1]
 refine ⟨b,a2,⟨rfl,⟨h21,h22⟩,hb,by omega⟩,fun s a3 hs h31 h32=>?_⟩
 try simp only [aF,go_sem,hne,hgi,hss,hg,aa,bz,dh,Int.toNat_natCast,bJ,e1,List.length_append,yaz,yba]
 refine ⟨by rw [hms];omega,by rw [hms];omega,b,a3,⟨rfl,⟨h31,h32⟩,hb,by omega⟩,fun s2 a4 hs2 h41 h42=>?_⟩
 try simp only [aF,go_sem,hne,hgi,hss,hg,aa,bz,dh,Int.toNat_natCast,List.length_append,yaz,yba]
 refine ⟨by rw [hms];omega,by rw [hms];omega,?_⟩
 exact bg (hK _ a4 (by rw [hbs];simp;omega) h41 h42) hid hcl (AHeap.Le.refl _)
theorem lr {A:Prop}:∀ d,EntOk Try.prog 29 (Ent.some (bJ A d))
 |0=>ot
 |d+1=>ou (lr d)
end Go.AL
open Go Go.AL Go.Proofs
namespace Go.AL
set_option linter.all false
set_option maxRecDepth 10000
def cr (A:Prop) (_g:Nat) (args:List AV) (H:AHeap) (K:AV→AHeap→Prop):Prop:=∃ d,bJ A d args H K
theorem j0 {A:Prop} {g:Nat}:EntOk Try.prog 29 (Ent.some (cr A g)):=EntOk.some fun args H K ⟨d,h⟩=>(lr d).2.2 _ rfl args H K h
def bS:Nat→Nat
 |0=>2*bN 1+bN 0+20
 |d+1=>2*bS d+2*bN 1+bN (d+1)+20
def bf (_A:Prop) (d:Nat):List AV→AHeap→(AV→AHeap→Prop)→Prop
 |[.ptr id 0,.int .i64 n,.bool _],H,K=>∃ b a,(H.get id=some (cod b a)∧(0≤a∧a≤(b.length:Int))∧b.length≤140737488355328∧n=(d:Int)∧bS d≤1000000) ∧
   ∀ s a',s.length≤bS d→0≤a'→a'≤(b.length:Int)→K (.str s) (H.set id (cod b a'))
 |_,_,_=>False
def cOpsL:List (List UInt8):=[[32,61,61,32],[32,33,61,32],[32,60,32],[60,61],[32,62,32],[62,61]]
theorem ar:[AV.str [32,61,61,32],AV.str [32,33,61,32],AV.str [32,60,32],AV.str [60,61],AV.str [32,62,32],AV.str [62,61]]=sAV cOpsL:=rfl
theorem ag:cOpsL.length=6:=rfl
theorem ro:∀ x∈cOpsL,x.length≤4:=by decide
def boolsL:List (List UInt8):=[[116,114,117,101],[102,97,108,115,101]]
theorem ak:[AV.str [116,114,117,101],AV.str [102,97,108,115,101]]=sAV boolsL:=rfl
theorem ae:boolsL.length=2:=rfl
theorem qS:∀ x∈boolsL,x.length≤5:=by decide
theorem gz {j:Nat} (hj:j<6):(sAV cOpsL).getD j .junk=.str (cOpsL.getD j [])∧(cOpsL.getD j []).length≤4:=by
 refine ⟨iI (by rw [ag];exact hj),?_⟩
 rw [List.getD_eq_getElem?_getD,List.getElem?_eq_getElem (show j<cOpsL.length by rw [ag];exact hj)]
 exact ro _ (List.getElem_mem _)
theorem fo {j:Nat} (hj:j<2):(sAV boolsL).getD j .junk=.str (boolsL.getD j [])∧(boolsL.getD j []).length≤5:=by
 refine ⟨iI (by rw [ae];exact hj),?_⟩
 rw [List.getD_eq_getElem?_getD,List.getElem?_eq_getElem (show j<boolsL.length by rw [ae];exact hj)]
 exact qS _ (List.getElem_mem _)
theorem uQ (d:Nat):2*bN 1+bN d+20≤bS d:=by
 cases d with
 |zero=>exact Nat.le_refl _
 |succ d=>unfold bS;omega
theorem uN (d:Nat):d≤bS d:=by
 induction d with
 |zero=>exact Nat.zero_le _
 |succ d ih=>unfold bS;omega
theorem n4 {A:Prop}:EntOk Try.prog 8 (Ent.some (bf A 0)):=by
 refine EntOk.some fun args H K h=>?_
 unfold bf at h
 split at h
 rotate_left
 ·exact h.elim
 rename_i id n w
 obtain ⟨b,a,⟨hg,⟨ha1,ha2⟩,hb,rfl,hbd⟩,hK⟩:=h
 have hid:=AHeap.get_lt hg
 have hne:(id=H.nx)=False:=eq_false (by omega)
 have hgi:∀ x,(H.set id (cod b x)).get id=some (cod b x):=fun x=>AHeap.get_set_same _ _ hid
 have hss:∀ x y,(H.set id (cod b x)).set id (cod b y)=H.set id (cod b y):=fun x y=>jJ
 have hms:gY=9223372036854775807:=rfl
 have i1:=@Int.natCast_nonneg
 have f1:=bT hid
 have hb0:=uQ (0)
 have hb1:=lG 1
 have hb2:=lG (0)
 have hid2:=uN (0)
 have h_CNumA:=j0 (A:=A) (g:=0)
 refine ACallsP.of_aw (Ω:=[(28,Ent.some aZ),(29,Ent.some (cr A 0))]) (T:=az []) aI (TblOk.cons iO (TblOk.cons h_CNumA TblOk.nil)) Try.func8 (by kernel_rfl) (by rfl) (rs:=[.tmp 6]) (by rfl) (by kernel_rfl) (by simp only [Try.ntmps8,yaz,yba];decide) fun hcl hlt=>?_
 change aw _ _ _ (KI Try.prog [(28,Ent.some aZ),(29,Ent.some (cr A 0))] (fH Try.prog [.tmp 6] H.nx _) []) _ _
 clear hlt
 have d0:(((0:Nat):Int)==0)=true:=rfl
 cases w with
 |true =>
  try simp only [aF,go_sem,hne,hgi,hss,hg,aa,ar,ak,ag,ae,Int.toNat_natCast,i1,f1,List.length_append,yaz,yba,d0]
  try simp only [aF,go_sem,hne,hgi,hss,hg,aa,ar,ak,ag,ae,Int.toNat_natCast,i1,f1,List.length_append,yaz,yba,aZ]
  refine ⟨b,a,⟨rfl,⟨ha1,ha2⟩,hb,by omega,by omega⟩,fun r5 a5 hr51 hr52 h51 h52=>?_⟩
  obtain ⟨j,rfl⟩:=Int.eq_ofNat_of_zero_le hr51
  obtain ⟨hgj,hpl⟩:=gz (j:=j) (by omega)
  generalize cOpsL.getD j []=op at hgj hpl
  try simp only [aF,go_sem,hne,hgi,hss,hg,aa,ar,ak,ag,ae,Int.toNat_natCast,i1,f1,List.length_append,yaz,yba,hgj,aZ]
  refine ⟨by omega,b,a5,⟨rfl,⟨h51,h52⟩,hb,by omega,by omega⟩,fun r6 a6 hr61 hr62 h61 h62=>?_⟩
  try simp only [aF,go_sem,hne,hgi,hss,hg,aa,ar,ak,ag,ae,Int.toNat_natCast,i1,f1,List.length_append,yaz,yba]
  refine am (fun hcb=>?_) (fun hcb=>?_)
  ·skip
   try simp only [aF,go_sem,hne,hgi,hss,hg,aa,ar,ak,ag,ae,Int.toNat_natCast,i1,f1,List.length_append,yaz,yba,aZ]
   refine ⟨b,a6,⟨rfl,⟨h61,h62⟩,hb,by omega,by omega⟩,fun r7 a7 hr71 hr72 h71 h72=>?_⟩
   obtain ⟨j2,rfl⟩:=Int.eq_ofNat_of_zero_le hr71
   obtain ⟨hgj2,hpl2⟩:=fo (j:=j2) (by omega)
   generalize boolsL.getD j2 []=bo at hgj2 hpl2
   try simp only [aF,go_sem,hne,hgi,hss,hg,aa,ar,ak,ag,ae,Int.toNat_natCast,i1,f1,List.length_append,yaz,yba,hgj2]
   refine ⟨by omega,?_⟩
   exact bg (hK _ a7 (by first|omega|(simp only [List.length_append,yaz,yba];omega)) h71 h72) hid hcl (((AHeap.Le.refl _).push _).push _)
  try simp only [aF,go_sem,hne,hgi,hss,hg,aa,ar,ak,ag,ae,Int.toNat_natCast,i1,f1,List.length_append,yaz,yba,cr,bJ]
  refine ⟨1,b,a6,⟨rfl,⟨h61,h62⟩,hb,rfl,by omega⟩,fun s1 a7 hs1 h71 h72=>?_⟩
  try simp only [aF,go_sem,hne,hgi,hss,hg,aa,ar,ak,ag,ae,Int.toNat_natCast,i1,f1,List.length_append,yaz,yba,cr,bJ]
  refine ⟨by rw [hms];omega,1,b,a7,⟨rfl,⟨h71,h72⟩,hb,rfl,by omega⟩,fun s2 a8 hs2 h81 h82=>?_⟩
  try simp only [aF,go_sem,hne,hgi,hss,hg,aa,ar,ak,ag,ae,Int.toNat_natCast,i1,f1,List.length_append,yaz,yba]
  refine ⟨by rw [hms];omega,?_⟩
  exact bg (hK _ a8 (by first|omega|(simp only [List.length_append,yaz,yba];omega)) h81 h82) hid hcl ((AHeap.Le.refl _).push _)
 |false =>
  try simp only [aF,go_sem,hne,hgi,hss,hg,aa,ar,ak,ag,ae,Int.toNat_natCast,i1,f1,List.length_append,yaz,yba,d0,aZ]
  refine ⟨b,a,⟨rfl,⟨ha1,ha2⟩,hb,by omega,by omega⟩,fun r0 a1 hr1 hr2 h11 h12=>?_⟩
  try simp only [aF,go_sem,hne,hgi,hss,hg,aa,ar,ak,ag,ae,Int.toNat_natCast,i1,f1,List.length_append,yaz,yba,d0]
  refine am (fun hc=>?_) (fun hc=>?_)
  ·skip
   try simp only [aF,go_sem,hne,hgi,hss,hg,aa,ar,ak,ag,ae,Int.toNat_natCast,i1,f1,List.length_append,yaz,yba,cr,bJ]
   refine ⟨0,b,a1,⟨rfl,⟨h11,h12⟩,hb,rfl,by omega⟩,fun s1 a7 hs1 h71 h72=>?_⟩
   try simp only [aF,go_sem,hne,hgi,hss,hg,aa,ar,ak,ag,ae,Int.toNat_natCast,i1,f1,List.length_append,yaz,yba]
   exact bg (hK _ a7 (by first|omega|(simp only [List.length_append,yaz,yba];omega)) h71 h72) hid hcl (AHeap.Le.refl _)
  try simp only [aF,go_sem,hne,hgi,hss,hg,aa,ar,ak,ag,ae,Int.toNat_natCast,i1,f1,List.length_append,yaz,yba,d0]
  try simp only [aF,go_sem,hne,hgi,hss,hg,aa,ar,ak,ag,ae,Int.toNat_natCast,i1,f1,List.length_append,yaz,yba,aZ]
  refine ⟨b,a1,⟨rfl,⟨h11,h12⟩,hb,by omega,by omega⟩,fun r5 a5 hr51 hr52 h51 h52=>?_⟩
  obtain ⟨j,rfl⟩:=Int.eq_ofNat_of_zero_le hr51
  obtain ⟨hgj,hpl⟩:=gz (j:=j) (by omega)
  generalize cOpsL.getD j []=op at hgj hpl
  try simp only [aF,go_sem,hne,hgi,hss,hg,aa,ar,ak,ag,ae,Int.toNat_natCast,i1,f1,List.length_append,yaz,yba,hgj,aZ]
  refine ⟨by omega,b,a5,⟨rfl,⟨h51,h52⟩,hb,by omega,by omega⟩,fun r6 a6 hr61 hr62 h61 h62=>?_⟩
  try simp only [aF,go_sem,hne,hgi,hss,hg,aa,ar,ak,ag,ae,Int.toNat_natCast,i1,f1,List.length_append,yaz,yba]
  refine am (fun hcb=>?_) (fun hcb=>?_)
  ·skip
   try simp only [aF,go_sem,hne,hgi,hss,hg,aa,ar,ak,ag,ae,Int.toNat_natCast,i1,f1,List.length_append,yaz,yba,aZ]
   refine ⟨b,a6,⟨rfl,⟨h61,h62⟩,hb,by omega,by omega⟩,fun r7 a7 hr71 hr72 h71 h72=>?_⟩
   obtain ⟨j2,rfl⟩:=Int.eq_ofNat_of_zero_le hr71
   obtain ⟨hgj2,hpl2⟩:=fo (j:=j2) (by omega)
   generalize boolsL.getD j2 []=bo at hgj2 hpl2
   try simp only [aF,go_sem,hne,hgi,hss,hg,aa,ar,ak,ag,ae,Int.toNat_natCast,i1,f1,List.length_append,yaz,yba,hgj2]
   refine ⟨by omega,?_⟩
   exact bg (hK _ a7 (by first|omega|(simp only [List.length_append,yaz,yba];omega)) h71 h72) hid hcl (((AHeap.Le.refl _).push _).push _)
  try simp only [aF,go_sem,hne,hgi,hss,hg,aa,ar,ak,ag,ae,Int.toNat_natCast,i1,f1,List.length_append,yaz,yba,cr,bJ]
  refine ⟨1,b,a6,⟨rfl,⟨h61,h62⟩,hb,rfl,by omega⟩,fun s1 a7 hs1 h71 h72=>?_⟩
  try simp only [aF,go_sem,hne,hgi,hss,hg,aa,ar,ak,ag,ae,Int.toNat_natCast,i1,f1,List.length_append,yaz,yba,cr,bJ]
  refine ⟨by rw [hms];omega,1,b,a7,⟨rfl,⟨h71,h72⟩,hb,rfl,by omega⟩,fun s2 a8 hs2 h81 h82=>?_⟩
  try simp only [aF,go_sem,hne,hgi,hss,hg,aa,ar,ak,ag,ae,Int.toNat_natCast,i1,f1,List.length_append,yaz,yba]
  refine ⟨by rw [hms];omega,?_⟩
  exact bg (hK _ a8 (by first|omega|(simp only [List.length_append,yaz,yba];omega)) h81 h82) hid hcl ((AHeap.Le.refl _).push _)
theorem m8 {A:Prop} {d:Nat} (h_CSent:EntOk Try.prog 8 (Ent.some (bf A d))):EntOk Try.prog 8 (Ent.some (bf A (d+1))):=by
 refine EntOk.some fun args H K h=>?_
 unfold bf at h
 split at h
 rotate_left
 ·exact h.elim
 rename_i id n w
 obtain ⟨b,a,⟨hg,⟨ha1,ha2⟩,hb,rfl,hbd⟩,hK⟩:=h
 have hid:=AHeap.get_lt hg
 have hne:(id=H.nx)=False:=eq_false (by omega)
 have hgi:∀ x,(H.set id (cod b x)).get id=some (cod b x):=fun x=>AHeap.get_set_same _ _ hid
 have hss:∀ x y,(H.set id (cod b x)).set id (cod b y)=H.set id (cod b y):=fun x y=>jJ
 have hms:gY=9223372036854775807:=rfl
 have i1:=@Int.natCast_nonneg
 have f1:=bT hid
 have hb0:=uQ (d+1)
 have hb1:=lG 1
 have hb2:=lG (d+1)
 have hid2:=uN (d+1)
 have h_CNumA:=j0 (A:=A) (g:=0)
 have hbs:bS (d+1)=2*bS d+2*bN 1+bN (d+1)+20:=rfl
 refine ACallsP.of_aw (Ω:=[(28,Ent.some aZ),(29,Ent.some (cr A 0)),(8,Ent.some (bf A d))]) (T:=az []) aI (TblOk.cons iO (TblOk.cons h_CNumA (TblOk.cons h_CSent TblOk.nil))) Try.func8 (by kernel_rfl) (by rfl) (rs:=[.tmp 6]) (by rfl) (by kernel_rfl) (by simp only [Try.ntmps8,yaz,yba];decide) fun hcl hlt=>?_
 change aw _ _ _ (KI Try.prog [(28,Ent.some aZ),(29,Ent.some (cr A 0)),(8,Ent.some (bf A d))] (fH Try.prog [.tmp 6] H.nx _) []) _ _
 clear hlt
 have d0:(((d+1:Nat):Int)==0)=false:=by simp;omega
 have e1:IntKind.i64.wrap (((d+1:Nat):Int) - 1)=(d:Int):=by rw [wrap_i64]<;>omega
 cases w with
 |true =>
  try simp only [aF,go_sem,hne,hgi,hss,hg,aa,ar,ak,ag,ae,Int.toNat_natCast,i1,f1,List.length_append,yaz,yba,d0,aZ]
  refine ⟨b,a,⟨rfl,⟨ha1,ha2⟩,hb,by omega,by omega⟩,fun r1 a2 hr3 hr4 h21 h22=>?_⟩
  try simp only [aF,go_sem,hne,hgi,hss,hg,aa,ar,ak,ag,ae,Int.toNat_natCast,i1,f1,List.length_append,yaz,yba,d0]
  refine am (fun hc2=>?_) (fun hc2=>?_)
  ·skip
   try simp only [aF,go_sem,hne,hgi,hss,hg,aa,ar,ak,ag,ae,Int.toNat_natCast,i1,f1,List.length_append,yaz,yba,aZ]
   refine ⟨b,a2,⟨rfl,⟨h21,h22⟩,hb,by omega,by omega⟩,fun r5 a5 hr51 hr52 h51 h52=>?_⟩
   obtain ⟨j,rfl⟩:=Int.eq_ofNat_of_zero_le hr51
   obtain ⟨hgj,hpl⟩:=gz (j:=j) (by omega)
   generalize cOpsL.getD j []=op at hgj hpl
   try simp only [aF,go_sem,hne,hgi,hss,hg,aa,ar,ak,ag,ae,Int.toNat_natCast,i1,f1,List.length_append,yaz,yba,hgj,aZ]
   refine ⟨by omega,b,a5,⟨rfl,⟨h51,h52⟩,hb,by omega,by omega⟩,fun r6 a6 hr61 hr62 h61 h62=>?_⟩
   try simp only [aF,go_sem,hne,hgi,hss,hg,aa,ar,ak,ag,ae,Int.toNat_natCast,i1,f1,List.length_append,yaz,yba]
   refine am (fun hcb=>?_) (fun hcb=>?_)
   ·skip
    try simp only [aF,go_sem,hne,hgi,hss,hg,aa,ar,ak,ag,ae,Int.toNat_natCast,i1,f1,List.length_append,yaz,yba,aZ]
    refine ⟨b,a6,⟨rfl,⟨h61,h62⟩,hb,by omega,by omega⟩,fun r7 a7 hr71 hr72 h71 h72=>?_⟩
    obtain ⟨j2,rfl⟩:=Int.eq_ofNat_of_zero_le hr71
    obtain ⟨hgj2,hpl2⟩:=fo (j:=j2) (by omega)
    generalize boolsL.getD j2 []=bo at hgj2 hpl2
    try simp only [aF,go_sem,hne,hgi,hss,hg,aa,ar,ak,ag,ae,Int.toNat_natCast,i1,f1,List.length_append,yaz,yba,hgj2]
    refine ⟨by omega,?_⟩
    exact bg (hK _ a7 (by first|omega|(simp only [List.length_append,yaz,yba];omega)) h71 h72) hid hcl (((AHeap.Le.refl _).push _).push _)
   try simp only [aF,go_sem,hne,hgi,hss,hg,aa,ar,ak,ag,ae,Int.toNat_natCast,i1,f1,List.length_append,yaz,yba,cr,bJ]
   refine ⟨1,b,a6,⟨rfl,⟨h61,h62⟩,hb,rfl,by omega⟩,fun s1 a7 hs1 h71 h72=>?_⟩
   try simp only [aF,go_sem,hne,hgi,hss,hg,aa,ar,ak,ag,ae,Int.toNat_natCast,i1,f1,List.length_append,yaz,yba,cr,bJ]
   refine ⟨by rw [hms];omega,1,b,a7,⟨rfl,⟨h71,h72⟩,hb,rfl,by omega⟩,fun s2 a8 hs2 h81 h82=>?_⟩
   try simp only [aF,go_sem,hne,hgi,hss,hg,aa,ar,ak,ag,ae,Int.toNat_natCast,i1,f1,List.length_append,yaz,yba]
   refine ⟨by rw [hms];omega,?_⟩
   exact bg (hK _ a8 (by first|omega|(simp only [List.length_append,yaz,yba];omega)) h81 h82) hid hcl ((AHeap.Le.refl _).push _)
  try simp only [aF,go_sem,hne,hgi,hss,hg,aa,ar,ak,ag,ae,Int.toNat_natCast,i1,f1,List.length_append,yaz,yba,aZ]
  refine ⟨b,a2,⟨rfl,⟨h21,h22⟩,hb,by omega,by omega⟩,fun r3 A0 hr5 hr6 h01 h02=>?_⟩
  try simp only [aF,go_sem,hne,hgi,hss,hg,aa,ar,ak,ag,ae,Int.toNat_natCast,i1,f1,List.length_append,yaz,yba]
  refine am (fun hk0=>?_) (fun hk0=>?_)
  ·skip
   try simp only [aF,go_sem,hne,hgi,hss,hg,aa,ar,ak,ag,ae,Int.toNat_natCast,i1,f1,List.length_append,yaz,yba,bf,e1]
   refine ⟨b,A0,⟨rfl,⟨h01,h02⟩,hb,by omega⟩,fun s1 a8 hs1 h81 h82=>?_⟩
   try simp only [aF,go_sem,hne,hgi,hss,hg,aa,ar,ak,ag,ae,Int.toNat_natCast,i1,f1,List.length_append,yaz,yba]
   refine ⟨by rw [hms];omega,by rw [hms];omega,?_⟩
   exact bg (hK _ a8 (by first|omega|(simp only [List.length_append,yaz,yba];omega)) h81 h82) hid hcl (AHeap.Le.refl _)
  try simp only [aF,go_sem,hne,hgi,hss,hg,aa,ar,ak,ag,ae,Int.toNat_natCast,i1,f1,List.length_append,yaz,yba]
  refine am (fun hk1=>?_) (fun hk1=>?_)
  ·skip
   try simp only [aF,go_sem,hne,hgi,hss,hg,aa,ar,ak,ag,ae,Int.toNat_natCast,i1,f1,List.length_append,yaz,yba,bf,e1]
   refine ⟨b,A0,⟨rfl,⟨h01,h02⟩,hb,by omega⟩,fun s1 a8 hs1 h81 h82=>?_⟩
   try simp only [aF,go_sem,hne,hgi,hss,hg,aa,ar,ak,ag,ae,Int.toNat_natCast,i1,f1,List.length_append,yaz,yba,bf,e1]
   refine ⟨by rw [hms];omega,by rw [hms];omega,by rw [hms];omega,b,a8,⟨rfl,⟨h81,h82⟩,hb,by omega⟩,fun s2 a9 hs2 h91 h92=>?_⟩
   try simp only [aF,go_sem,hne,hgi,hss,hg,aa,ar,ak,ag,ae,Int.toNat_natCast,i1,f1,List.length_append,yaz,yba]
   refine ⟨by rw [hms];omega,by rw [hms];omega,?_⟩
   exact bg (hK _ a9 (by first|omega|(simp only [List.length_append,yaz,yba];omega)) h91 h92) hid hcl (AHeap.Le.refl _)
  try simp only [aF,go_sem,hne,hgi,hss,hg,aa,ar,ak,ag,ae,Int.toNat_natCast,i1,f1,List.length_append,yaz,yba]
  refine am (fun hk2=>?_) (fun hk2=>?_)
  ·skip
   try simp only [aF,go_sem,hne,hgi,hss,hg,aa,ar,ak,ag,ae,Int.toNat_natCast,i1,f1,List.length_append,yaz,yba,bf,e1]
   refine ⟨b,A0,⟨rfl,⟨h01,h02⟩,hb,by omega⟩,fun s1 a8 hs1 h81 h82=>?_⟩
   try simp only [aF,go_sem,hne,hgi,hss,hg,aa,ar,ak,ag,ae,Int.toNat_natCast,i1,f1,List.length_append,yaz,yba,bf,e1]
   refine ⟨by rw [hms];omega,by rw [hms];omega,by rw [hms];omega,b,a8,⟨rfl,⟨h81,h82⟩,hb,by omega⟩,fun s2 a9 hs2 h91 h92=>?_⟩
   try simp only [aF,go_sem,hne,hgi,hss,hg,aa,ar,ak,ag,ae,Int.toNat_natCast,i1,f1,List.length_append,yaz,yba]
   refine ⟨by rw [hms];omega,by rw [hms];omega,?_⟩
   exact bg (hK _ a9 (by first|omega|(simp only [List.length_append,yaz,yba];omega)) h91 h92) hid hcl (AHeap.Le.refl _)
  try simp only [aF,go_sem,hne,hgi,hss,hg,aa,ar,ak,ag,ae,Int.toNat_natCast,i1,f1,List.length_append,yaz,yba]
  refine am (fun hk3=>?_) (fun hk3=>?_)
  ·skip
   try simp only [aF,go_sem,hne,hgi,hss,hg,aa,ar,ak,ag,ae,Int.toNat_natCast,i1,f1,List.length_append,yaz,yba,bf,e1]
   refine ⟨b,A0,⟨rfl,⟨h01,h02⟩,hb,by omega⟩,fun s1 a8 hs1 h81 h82=>?_⟩
   try simp only [aF,go_sem,hne,hgi,hss,hg,aa,ar,ak,ag,ae,Int.toNat_natCast,i1,f1,List.length_append,yaz,yba,bf,e1]
   refine ⟨by rw [hms];omega,by rw [hms];omega,by rw [hms];omega,b,a8,⟨rfl,⟨h81,h82⟩,hb,by omega⟩,fun s2 a9 hs2 h91 h92=>?_⟩
   try simp only [aF,go_sem,hne,hgi,hss,hg,aa,ar,ak,ag,ae,Int.toNat_natCast,i1,f1,List.length_append,yaz,yba]
   refine ⟨by rw [hms];omega,by rw [hms];omega,?_⟩
   exact bg (hK _ a9 (by first|omega|(simp only [List.length_append,yaz,yba];omega)) h91 h92) hid hcl (AHeap.Le.refl _)
  try simp only [aF,go_sem,hne,hgi,hss,hg,aa,ar,ak,ag,ae,Int.toNat_natCast,i1,f1,List.length_append,yaz,yba]
  refine am (fun hk4=>?_) (fun hk4=>?_)
  ·skip
   try simp only [aF,go_sem,hne,hgi,hss,hg,aa,ar,ak,ag,ae,Int.toNat_natCast,i1,f1,List.length_append,yaz,yba,bf,e1]
   refine ⟨b,A0,⟨rfl,⟨h01,h02⟩,hb,by omega⟩,fun s1 a8 hs1 h81 h82=>?_⟩
   try simp only [aF,go_sem,hne,hgi,hss,hg,aa,ar,ak,ag,ae,Int.toNat_natCast,i1,f1,List.length_append,yaz,yba,bf,e1]
   refine ⟨by rw [hms];omega,by rw [hms];omega,by rw [hms];omega,b,a8,⟨rfl,⟨h81,h82⟩,hb,by omega⟩,fun s2 a9 hs2 h91 h92=>?_⟩
   try simp only [aF,go_sem,hne,hgi,hss,hg,aa,ar,ak,ag,ae,Int.toNat_natCast,i1,f1,List.length_append,yaz,yba]
   refine ⟨by rw [hms];omega,by rw [hms];omega,?_⟩
   exact bg (hK _ a9 (by first|omega|(simp only [List.length_append,yaz,yba];omega)) h91 h92) hid hcl (AHeap.Le.refl _)
  try simp only [aF,go_sem,hne,hgi,hss,hg,aa,ar,ak,ag,ae,Int.toNat_natCast,i1,f1,List.length_append,yaz,yba]
  try simp only [aF,go_sem,hne,hgi,hss,hg,aa,ar,ak,ag,ae,Int.toNat_natCast,i1,f1,List.length_append,yaz,yba,bf,e1]
  refine ⟨b,A0,⟨rfl,⟨h01,h02⟩,hb,by omega⟩,fun s1 a8 hs1 h81 h82=>?_⟩
  try simp only [aF,go_sem,hne,hgi,hss,hg,aa,ar,ak,ag,ae,Int.toNat_natCast,i1,f1,List.length_append,yaz,yba]
  refine ⟨by rw [hms];omega,by rw [hms];omega,?_⟩
  exact bg (hK _ a8 (by first|omega|(simp only [List.length_append,yaz,yba];omega)) h81 h82) hid hcl (AHeap.Le.refl _)
 |false =>
  try simp only [aF,go_sem,hne,hgi,hss,hg,aa,ar,ak,ag,ae,Int.toNat_natCast,i1,f1,List.length_append,yaz,yba,d0,aZ]
  refine ⟨b,a,⟨rfl,⟨ha1,ha2⟩,hb,by omega,by omega⟩,fun r0 a1 hr1 hr2 h11 h12=>?_⟩
  try simp only [aF,go_sem,hne,hgi,hss,hg,aa,ar,ak,ag,ae,Int.toNat_natCast,i1,f1,List.length_append,yaz,yba,d0]
  refine am (fun hc=>?_) (fun hc=>?_)
  ·skip
   try simp only [aF,go_sem,hne,hgi,hss,hg,aa,ar,ak,ag,ae,Int.toNat_natCast,i1,f1,List.length_append,yaz,yba,cr,bJ]
   refine ⟨(d+1),b,a1,⟨rfl,⟨h11,h12⟩,hb,rfl,by omega⟩,fun s1 a7 hs1 h71 h72=>?_⟩
   try simp only [aF,go_sem,hne,hgi,hss,hg,aa,ar,ak,ag,ae,Int.toNat_natCast,i1,f1,List.length_append,yaz,yba]
   exact bg (hK _ a7 (by first|omega|(simp only [List.length_append,yaz,yba];omega)) h71 h72) hid hcl (AHeap.Le.refl _)
  try simp only [aF,go_sem,hne,hgi,hss,hg,aa,ar,ak,ag,ae,Int.toNat_natCast,i1,f1,List.length_append,yaz,yba,d0,aZ]
  refine ⟨b,a1,⟨rfl,⟨h11,h12⟩,hb,by omega,by omega⟩,fun r1 a2 hr3 hr4 h21 h22=>?_⟩
  try simp only [aF,go_sem,hne,hgi,hss,hg,aa,ar,ak,ag,ae,Int.toNat_natCast,i1,f1,List.length_append,yaz,yba,d0]
  refine am (fun hc2=>?_) (fun hc2=>?_)
  ·skip
   try simp only [aF,go_sem,hne,hgi,hss,hg,aa,ar,ak,ag,ae,Int.toNat_natCast,i1,f1,List.length_append,yaz,yba,aZ]
   refine ⟨b,a2,⟨rfl,⟨h21,h22⟩,hb,by omega,by omega⟩,fun r5 a5 hr51 hr52 h51 h52=>?_⟩
   obtain ⟨j,rfl⟩:=Int.eq_ofNat_of_zero_le hr51
   obtain ⟨hgj,hpl⟩:=gz (j:=j) (by omega)
   generalize cOpsL.getD j []=op at hgj hpl
   try simp only [aF,go_sem,hne,hgi,hss,hg,aa,ar,ak,ag,ae,Int.toNat_natCast,i1,f1,List.length_append,yaz,yba,hgj,aZ]
   refine ⟨by omega,b,a5,⟨rfl,⟨h51,h52⟩,hb,by omega,by omega⟩,fun r6 a6 hr61 hr62 h61 h62=>?_⟩
   try simp only [aF,go_sem,hne,hgi,hss,hg,aa,ar,ak,ag,ae,Int.toNat_natCast,i1,f1,List.length_append,yaz,yba]
   refine am (fun hcb=>?_) (fun hcb=>?_)
   ·skip
    try simp only [aF,go_sem,hne,hgi,hss,hg,aa,ar,ak,ag,ae,Int.toNat_natCast,i1,f1,List.length_append,yaz,yba,aZ]
    refine ⟨b,a6,⟨rfl,⟨h61,h62⟩,hb,by omega,by omega⟩,fun r7 a7 hr71 hr72 h71 h72=>?_⟩
    obtain ⟨j2,rfl⟩:=Int.eq_ofNat_of_zero_le hr71
    obtain ⟨hgj2,hpl2⟩:=fo (j:=j2) (by omega)
    generalize boolsL.getD j2 []=bo at hgj2 hpl2
    try simp only [aF,go_sem,hne,hgi,hss,hg,aa,ar,ak,ag,ae,Int.toNat_natCast,i1,f1,List.length_append,yaz,yba,hgj2]
    refine ⟨by omega,?_⟩
    exact bg (hK _ a7 (by first|omega|(simp only [List.length_append,yaz,yba];omega)) h71 h72) hid hcl (((AHeap.Le.refl _).push _).push _)
   try simp only [aF,go_sem,hne,hgi,hss,hg,aa,ar,ak,ag,ae,Int.toNat_natCast,i1,f1,List.length_append,yaz,yba,cr,bJ]
   refine ⟨1,b,a6,⟨rfl,⟨h61,h62⟩,hb,rfl,by omega⟩,fun s1 a7 hs1 h71 h72=>?_⟩
   try simp only [aF,go_sem,hne,hgi,hss,hg,aa,ar,ak,ag,ae,Int.toNat_natCast,i1,f1,List.length_append,yaz,yba,cr,bJ]
   refine ⟨by rw [hms];omega,1,b,a7,⟨rfl,⟨h71,h72⟩,hb,rfl,by omega⟩,fun s2 a8 hs2 h81 h82=>?_⟩
   try simp only [aF,go_sem,hne,hgi,hss,hg,aa,ar,ak,ag,ae,Int.toNat_natCast,i1,f1,List.length_append,yaz,yba]
   refine ⟨by rw [hms];omega,?_⟩
   exact bg (hK _ a8 (by first|omega|(simp only [List.length_append,yaz,yba];omega)) h81 h82) hid hcl ((AHeap.Le.refl _).push _)
  try simp only [aF,go_sem,hne,hgi,hss,hg,aa,ar,ak,ag,ae,Int.toNat_natCast,i1,f1,List.length_append,yaz,yba,aZ]
  refine ⟨b,a2,⟨rfl,⟨h21,h22⟩,hb,by omega,by omega⟩,fun r3 A0 hr5 hr6 h01 h02=>?_⟩
  try simp only [aF,go_sem,hne,hgi,hss,hg,aa,ar,ak,ag,ae,Int.toNat_natCast,i1,f1,List.length_append,yaz,yba]
  refine am (fun hk0=>?_) (fun hk0=>?_)
  ·skip
   try simp only [aF,go_sem,hne,hgi,hss,hg,aa,ar,ak,ag,ae,Int.toNat_natCast,i1,f1,List.length_append,yaz,yba,bf,e1]
   refine ⟨b,A0,⟨rfl,⟨h01,h02⟩,hb,by omega⟩,fun s1 a8 hs1 h81 h82=>?_⟩
   try simp only [aF,go_sem,hne,hgi,hss,hg,aa,ar,ak,ag,ae,Int.toNat_natCast,i1,f1,List.length_append,yaz,yba]
   refine ⟨by rw [hms];omega,by rw [hms];omega,?_⟩
   exact bg (hK _ a8 (by first|omega|(simp only [List.length_append,yaz,yba];omega)) h81 h82) hid hcl (AHeap.Le.refl _)
  try simp only [aF,go_sem,hne,hgi,hss,hg,aa,ar,ak,ag,ae,Int.toNat_natCast,i1,f1,List.length_append,yaz,yba]
  refine am (fun hk1=>?_) (fun hk1=>?_)
  ·skip
   try simp only [aF,go_sem,hne,hgi,hss,hg,aa,ar,ak,ag,ae,Int.toNat_natCast,i1,f1,List.length_append,yaz,yba,bf,e1]
   refine ⟨b,A0,⟨rfl,⟨h01,h02⟩,hb,by omega⟩,fun s1 a8 hs1 h81 h82=>?_⟩
   try simp only [aF,go_sem,hne,hgi,hss,hg,aa,ar,ak,ag,ae,Int.toNat_natCast,i1,f1,List.length_append,yaz,yba,bf,e1]
   refine ⟨by rw [hms];omega,by rw [hms];omega,by rw [hms];omega,b,a8,⟨rfl,⟨h81,h82⟩,hb,by omega⟩,fun s2 a9 hs2 h91 h92=>?_⟩
   try simp only [aF,go_sem,hne,hgi,hss,hg,aa,ar,ak,ag,ae,Int.toNat_natCast,i1,f1,List.length_append,yaz,yba]
   refine ⟨by rw [hms];omega,by rw [hms];omega,?_⟩
   exact bg (hK _ a9 (by first|omega|(simp only [List.length_append,yaz,yba];omega)) h91 h92) hid hcl (AHeap.Le.refl _)
  try simp only [aF,go_sem,hne,hgi,hss,hg,aa,ar,ak,ag,ae,Int.toNat_natCast,i1,f1,List.length_append,yaz,yba]
  refine am (fun hk2=>?_) (fun hk2=>?_)
  ·skip
   try simp only [aF,go_sem,hne,hgi,hss,hg,aa,ar,ak,ag,ae,Int.toNat_natCast,i1,f1,List.length_append,yaz,yba,bf,e1]
   refine ⟨b,A0,⟨rfl,⟨h01,h02⟩,hb,by omega⟩,fun s1 a8 hs1 h81 h82=>?_⟩
   try simp only [aF,go_sem,hne,hgi,hss,hg,aa,ar,ak,ag,ae,Int.toNat_natCast,i1,f1,List.length_append,yaz,yba,bf,e1]
   refine ⟨by rw [hms];omega,by rw [hms];omega,by rw [hms];omega,b,a8,⟨rfl,⟨h81,h82⟩,hb,by omega⟩,fun s2 a9 hs2 h91 h92=>?_⟩
   try simp only [aF,go_sem,hne,hgi,hss,hg,aa,ar,ak,ag,ae,Int.toNat_natCast,i1,f1,List.length_append,yaz,yba]
   refine ⟨by rw [hms];omega,by rw [hms];omega,?_⟩
   exact bg (hK _ a9 (by first|omega|(simp only [List.length_append,yaz,yba];omega)) h91 h92) hid hcl (AHeap.Le.refl _)
  try simp only [aF,go_sem,hne,hgi,hss,hg,aa,ar,ak,ag,ae,Int.toNat_natCast,i1,f1,List.length_append,yaz,yba]
  refine am (fun hk3=>?_) (fun hk3=>?_)
  ·skip
   try simp only [aF,go_sem,hne,hgi,hss,hg,aa,ar,ak,ag,ae,Int.toNat_natCast,i1,f1,List.length_append,yaz,yba,bf,e1]
   refine ⟨b,A0,⟨rfl,⟨h01,h02⟩,hb,by omega⟩,fun s1 a8 hs1 h81 h82=>?_⟩
   try simp only [aF,go_sem,hne,hgi,hss,hg,aa,ar,ak,ag,ae,Int.toNat_natCast,i1,f1,List.length_append,yaz,yba,bf,e1]
   refine ⟨by rw [hms];omega,by rw [hms];omega,by rw [hms];omega,b,a8,⟨rfl,⟨h81,h82⟩,hb,by omega⟩,fun s2 a9 hs2 h91 h92=>?_⟩
   try simp only [aF,go_sem,hne,hgi,hss,hg,aa,ar,ak,ag,ae,Int.toNat_natCast,i1,f1,List.length_append,yaz,yba]
   refine ⟨by rw [hms];omega,by rw [hms];omega,?_⟩
   exact bg (hK _ a9 (by first|omega|(simp only [List.length_append,yaz,yba];omega)) h91 h92) hid hcl (AHeap.Le.refl _)
  try simp only [aF,go_sem,hne,hgi,hss,hg,aa,ar,ak,ag,ae,Int.toNat_natCast,i1,f1,List.length_append,yaz,yba]
  refine am (fun hk4=>?_) (fun hk4=>?_)
  ·skip
   try simp only [aF,go_sem,hne,hgi,hss,hg,aa,ar,ak,ag,ae,Int.toNat_natCast,i1,f1,List.length_append,yaz,yba,bf,e1]
   refine ⟨b,A0,⟨rfl,⟨h01,h02⟩,hb,by omega⟩,fun s1 a8 hs1 h81 h82=>?_⟩
   try simp only [aF,go_sem,hne,hgi,hss,hg,aa,ar,ak,ag,ae,Int.toNat_natCast,i1,f1,List.length_append,yaz,yba,bf,e1]
   refine ⟨by rw [hms];omega,by rw [hms];omega,by rw [hms];omega,b,a8,⟨rfl,⟨h81,h82⟩,hb,by omega⟩,fun s2 a9 hs2 h91 h92=>?_⟩
   try simp only [aF,go_sem,hne,hgi,hss,hg,aa,ar,ak,ag,ae,Int.toNat_natCast,i1,f1,List.length_append,yaz,yba]
   refine ⟨by rw [hms];omega,by rw [hms];omega,?_⟩
   exact bg (hK _ a9 (by first|omega|(simp only [List.length_append,yaz,yba];omega)) h91 h92) hid hcl (AHeap.Le.refl _)
  try simp only [aF,go_sem,hne,hgi,hss,hg,aa,ar,ak,ag,ae,Int.toNat_natCast,i1,f1,List.length_append,yaz,yba]
  try simp only [aF,go_sem,hne,hgi,hss,hg,aa,ar,ak,ag,ae,Int.toNat_natCast,i1,f1,List.length_append,yaz,yba,bf,e1]
  refine ⟨b,A0,⟨rfl,⟨h01,h02⟩,hb,by omega⟩,fun s1 a8 hs1 h81 h82=>?_⟩
  try simp only [aF,go_sem,hne,hgi,hss,hg,aa,ar,ak,ag,ae,Int.toNat_natCast,i1,f1,List.length_append,yaz,yba]
  refine ⟨by rw [hms];omega,by rw [hms];omega,?_⟩
  exact bg (hK _ a8 (by first|omega|(simp only [List.length_append,yaz,yba];omega)) h81 h82) hid hcl (AHeap.Le.refl _)
theorem ks {A:Prop}:∀ d,EntOk Try.prog 8 (Ent.some (bf A d))
 |0=>n4
 |d+1=>m8 (ks d)
end Go.AL
