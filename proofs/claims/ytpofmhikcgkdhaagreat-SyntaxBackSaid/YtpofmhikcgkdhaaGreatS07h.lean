/- Lemmas of the proof; no condition. -/
import Derived.Test.YtpofmhikcgkdhaaGreatE06
set_option linter.all false
set_option maxRecDepth 10000
set_option maxHeartbeats 32000000
open List renaming length_cons → yaz, length_nil → yba
open Go Go.AL Go.Proofs
namespace Go.AL
def bN:Nat→Nat
 |0=>40
 |d+1=>2*bN d+5
def cM (_A:Prop) (d:Nat):List AV→AHeap→(AV→AHeap→Prop)→Prop
 |[.ptr id 0,.int .i64 n,.bool _],H,K=>∃ b a,(H.get id=some (cod b a)∧(0≤a∧a≤(b.length:Int))∧b.length≤140737488355328∧n=(d:Int)∧bN d≤1000000) ∧
   ∀ s a',s.length≤bN d→0≤a'→a'≤(b.length:Int)→K (.str s) (H.set id (cod b a'))
 |_,_,_=>False
def nms:List (List UInt8):=[[97],[98],[100,58,58,112,114,101,102,105,120,95,108,101,110,103,116,104],[101,58,58,109,97,115,107],[102,58,58,104,105,103,104],[112,114,105,111,114,105,116,121],[48],[49],[49,53],[48,120,102,102],[51,52,48,50,56,50,51,54,54,57,50,48,57,51,56,52,54,51,52,54,51,51,55,52,54,48,55,52,51,49,55,54,56,50,49,49,52,53,53],[120]]
theorem co:nms.length=12:=rfl
theorem C3:∀ x∈nms,x.length≤40:=by decide
theorem eN:[AV.str [97],AV.str [98],AV.str [100,58,58,112,114,101,102,105,120,95,108,101,110,103,116,104],AV.str [101,58,58,109,97,115,107],AV.str [102,58,58,104,105,103,104],AV.str [112,114,105,111,114,105,116,121],AV.str [48],AV.str [49],AV.str [49,53],AV.str [48,120,102,102],AV.str [51,52,48,50,56,50,51,54,54,57,50,48,57,51,56,52,54,51,52,54,51,51,55,52,54,48,55,52,51,49,55,54,56,50,49,49,52,53,53],AV.str [120]]=sAV nms:=rfl
theorem nU {H:AHeap} {id:Nat} {b:List UInt8} {a a':Int}:(H.set id (cod b a)).set id (cod b a')=H.set id (cod b a'):=by
 simp only [AHeap.set];congr 1;funext j;split<;>rfl
theorem ud {j:Nat} (hj:j<12):(sAV nms).getD j .junk=.str (nms.getD j [])∧(nms.getD j []).length≤40:=by
 refine ⟨my (by rw [co];exact hj),?_⟩
 rw [gEq,gQq (show j<nms.length by rw [co];exact hj)]
 exact C3 _ (gMq _)
theorem qZ (d:Nat):40≤bN d:=by
 induction d with
 |zero=>exact nrq _
 |succ d ih=>unfold bN;omega
theorem bM {H X:AHeap} {K:AV→AHeap→Prop} {id:Nat} {b:List UInt8} {a':Int} {s:List UInt8} (hK:K (.str s) (H.set id (cod b a'))) (hid:id<H.nx) (hcl:H.Closed) (hle:(H.set id (cod b a')).Le X):mv H.nx K (.str s) X :=
 ⟨_,_,hK,nrq _,by simp [zmo],hle,ai hcl (by simp [znu,znv,znf,zms]),by simp [znh]⟩
theorem vI {A:Prop}:EntOk Tryz.prog 17 (Ent.some (cM A 0)):=by
 refine EntOk.some fun args H K h=>?_
 unfold cM at h
 split at h
 rotate_left
 ·exact h.elim
 rename_i id n w
 obtain ⟨b,a,⟨hg,⟨ha1,ha2⟩,hb,rfl,hbd⟩,hK⟩:=h
 have hid:=glq hg
 have hne:(id=H.nx)=False:=eq_false (by omega)
 have hgi:∀ x,(H.set id (cod b x)).get id=some (cod b x):=fun x=>AHeap.get_set_same _ _ hid
 have hss:∀ x y,(H.set id (cod b x)).set id (cod b y)=H.set id (cod b y):=fun x y=>nU
 have hms:bZ=9223372036854775807:=rfl
 have hb0:=qZ 0
 refine ACallsP.fS aE (tCq l6 tNq) Tryz.func17 [.tmp 6] (T:=ay []) (h:=fun hcl=>?_)
 have d0:(((0:Nat):Int)==0)=true:=rfl
 try simp only [go_sem,hne,hgi,hss,hg,aj,co,eN,iNq,d0,cd]
 refine ⟨b,a,⟨rfl,⟨ha1,ha2⟩,hb,by omega,by omega⟩,fun r a9 hr1 hr2 ha1' ha2'=>?_⟩
 obtain ⟨j,rfl⟩:=Int.eq_ofNat_of_zero_le hr1
 obtain ⟨hgj,hpl⟩:=ud (j:=j) (by omega)
 try simp only [aS,go_sem,hne,hgi,hss,hg,aj,co,eN,iNq,hgj]
 refine ⟨by omega,?_⟩
 exact bM (hK _ a9 (by omega) ha1' ha2') hid hcl ((lRq _).push _)
theorem vF {A:Prop} {d:Nat} (h_CNum:EntOk Tryz.prog 17 (Ent.some (cM A d))):EntOk Tryz.prog 17 (Ent.some (cM A (d+1))):=by
 refine EntOk.some fun args H K h=>?_
 unfold cM at h
 split at h
 rotate_left
 ·exact h.elim
 rename_i id n w
 obtain ⟨b,a,⟨hg,⟨ha1,ha2⟩,hb,rfl,hbd⟩,hK⟩:=h
 have hid:=glq hg
 have hne:(id=H.nx)=False:=eq_false (by omega)
 have hgi:∀ x,(H.set id (cod b x)).get id=some (cod b x):=fun x=>AHeap.get_set_same _ _ hid
 have hss:∀ x y,(H.set id (cod b x)).set id (cod b y)=H.set id (cod b y):=fun x y=>nU
 have hms:bZ=9223372036854775807:=rfl
 have hb0:=qZ d
 have hbs:bN (d+1)=2*bN d+5:=rfl
 rw [hbs] at hbd
 have hdd:d≤1000000:=by
  have:∀ k,k≤bN k:=fun k=>by
   induction k with
   |zero=>exact Nat.zero_le _
   |succ k ih=>unfold bN;omega
  have:=this d
  omega
 refine ACallsP.fS aE (tCq l6 (tCq h_CNum tNq)) Tryz.func17 [.tmp 6] (T:=ay []) (h:=fun hcl=>?_)
 have d0:(((d+1:Nat):Int)==0)=false:=by simp;omega
 have e1:IntKind.i64.wrap (((d+1:Nat):Int) - 1)=(d:Int):=by rw [wrap_i64]<;>omega
 try simp only [go_sem,hne,hgi,hss,hg,aj,co,eN,iNq,d0,cd]
 refine ⟨b,a,⟨rfl,⟨ha1,ha2⟩,hb,by omega,by omega⟩,fun r0 a1 hr1 hr2 h11 h12=>?_⟩
 try simp only [aS,go_sem,hne,hgi,hss,hg,aj,co,eN,iNq]
 refine ah (fun hc=>?_) (fun hc=>?_)
 ·simp only [go_sem,hne,hgi,hss,hg,aj,co,eN,iNq,cd]
  refine ⟨b,a1,⟨rfl,⟨h11,h12⟩,hb,by omega,by omega⟩,fun r a9 hr1 hr2 ha1' ha2'=>?_⟩
  obtain ⟨j,rfl⟩:=Int.eq_ofNat_of_zero_le hr1
  obtain ⟨hgj,hpl⟩:=ud (j:=j) (by omega)
  try simp only [aS,go_sem,hne,hgi,hss,hg,aj,co,eN,iNq,hgj]
  refine ⟨by omega,?_⟩
  exact bM (hK _ a9 (by omega) ha1' ha2') hid hcl ((lRq _).push _)
 try simp only [go_sem,hne,hgi,hss,hg,aj,co,eN,iNq,cd]
 refine ⟨b,a1,⟨rfl,⟨h11,h12⟩,hb,by omega,by omega⟩,fun r1 a2 hr3 hr4 h21 h22=>?_⟩
 try simp only [aS,go_sem,hne,hgi,hss,hg,aj,co,eN,iNq]
 refine ah (fun h0=>?_) (fun h0=>?_)
 ·simp only [go_sem,hne,hgi,hss,hg,aj,co,eN,iNq,cM,e1]
  refine ⟨b,a2,⟨rfl,⟨h21,h22⟩,hb,by omega⟩,fun s a3 hs h31 h32=>?_⟩
  try simp only [aS,go_sem,hne,hgi,hss,hg,aj,co,eN,iNq]
  refine ⟨by rw [hms];omega,?_⟩
  exact bM (hK _ a3 (by rw [hbs];simp;omega) h31 h32) hid hcl (lRq _)
 try simp only [go_sem,hne,hgi,hss,hg,aj,co,eN,iNq]
 refine ah (fun h0=>?_) (fun h0=>?_)
 ·simp only [go_sem,hne,hgi,hss,hg,aj,co,eN,iNq,cM,e1]
  refine ⟨b,a2,⟨rfl,⟨h21,h22⟩,hb,by omega⟩,fun s a3 hs h31 h32=>?_⟩
  try simp only [aS,go_sem,hne,hgi,hss,hg,aj,co,eN,iNq,lAq,yaz,yba]
  refine ⟨by rw [hms];omega,by rw [hms];omega,?_⟩
  exact bM (hK _ a3 (by rw [hbs];simp;omega) h31 h32) hid hcl (lRq _)
 try simp only [go_sem,hne,hgi,hss,hg,aj,co,eN,iNq]
 refine ah (fun h0=>?_) (fun h0=>?_)
 ·simp only [go_sem,hne,hgi,hss,hg,aj,co,eN,iNq,cM,e1]
  refine ⟨b,a2,⟨rfl,⟨h21,h22⟩,hb,by omega⟩,fun s a3 hs h31 h32=>?_⟩
  try simp only [aS,go_sem,hne,hgi,hss,hg,aj,co,eN,iNq,cM,e1,lAq,yaz,yba]
  refine ⟨by rw [hms];omega,b,a3,⟨rfl,⟨h31,h32⟩,hb,by omega⟩,fun s2 a4 hs2 h41 h42=>?_⟩
  try simp only [aS,go_sem,hne,hgi,hss,hg,aj,co,eN,iNq]
  refine ⟨by (rw [hms];(try simp);omega),?_⟩
  exact bM (hK _ a4 (by rw [hbs];simp;omega) h41 h42) hid hcl (lRq _)
 try simp only [go_sem,hne,hgi,hss,hg,aj,co,eN,iNq,cM,e1]
 refine ⟨b,a2,⟨rfl,⟨h21,h22⟩,hb,by omega⟩,fun s a3 hs h31 h32=>?_⟩
 try simp only [aS,go_sem,hne,hgi,hss,hg,aj,co,eN,iNq,cM,e1,lAq,yaz,yba]
 refine ⟨by rw [hms];omega,by rw [hms];omega,b,a3,⟨rfl,⟨h31,h32⟩,hb,by omega⟩,fun s2 a4 hs2 h41 h42=>?_⟩
 try simp only [aS,go_sem,hne,hgi,hss,hg,aj,co,eN,iNq,lAq,yaz,yba]
 refine ⟨by rw [hms];omega,by rw [hms];omega,?_⟩
 exact bM (hK _ a4 (by rw [hbs];simp;omega) h41 h42) hid hcl (lRq _)
theorem qf {A:Prop}:∀ d,EntOk Tryz.prog 17 (Ent.some (cM A d))
 |0=>vI
 |d+1=>vF (qf d)
def fm (A:Prop) (_g:Nat) (args:List AV) (H:AHeap) (K:AV→AHeap→Prop):Prop:=∃ d,cM A d args H K
theorem pi {A:Prop} {g:Nat}:EntOk Tryz.prog 17 (Ent.some (fm A g)):=EntOk.some fun args H K ⟨d,h⟩=>(qf d).2.2 _ rfl args H K h
def bS:Nat→Nat
 |0=>2*bN 1+bN 0+20
 |d+1=>2*bS d+2*bN 1+bN (d+1)+20
def bV (_A:Prop) (d:Nat):List AV→AHeap→(AV→AHeap→Prop)→Prop
 |[.ptr id 0,.int .i64 n,.bool _],H,K=>∃ b a,(H.get id=some (cod b a)∧(0≤a∧a≤(b.length:Int))∧b.length≤140737488355328∧n=(d:Int)∧bS d≤1000000) ∧
   ∀ s a',s.length≤bS d→0≤a'→a'≤(b.length:Int)→K (.str s) (H.set id (cod b a'))
 |_,_,_=>False
def cOpsL:List (List UInt8):=[[32,61,61,32],[32,33,61,32],[32,60,32],[60,61],[32,62,32],[62,61]]
theorem aF:[AV.str [32,61,61,32],AV.str [32,33,61,32],AV.str [32,60,32],AV.str [60,61],AV.str [32,62,32],AV.str [62,61]]=sAV cOpsL:=rfl
theorem ap:cOpsL.length=6:=rfl
theorem y6:∀ x∈cOpsL,x.length≤4:=by decide
def boolsL:List (List UInt8):=[[116,114,117,101],[102,97,108,115,101]]
theorem av:[AV.str [116,114,117,101],AV.str [102,97,108,115,101]]=sAV boolsL:=rfl
theorem al:boolsL.length=2:=rfl
theorem yb:∀ x∈boolsL,x.length≤5:=by decide
theorem kh {j:Nat} (hj:j<6):(sAV cOpsL).getD j .junk=.str (cOpsL.getD j [])∧(cOpsL.getD j []).length≤4:=by
 refine ⟨my (by rw [ap];exact hj),?_⟩
 rw [gEq,gQq (show j<cOpsL.length by rw [ap];exact hj)]
 exact y6 _ (gMq _)
theorem ja {j:Nat} (hj:j<2):(sAV boolsL).getD j .junk=.str (boolsL.getD j [])∧(boolsL.getD j []).length≤5:=by
 refine ⟨my (by rw [al];exact hj),?_⟩
 rw [gEq,gQq (show j<boolsL.length by rw [al];exact hj)]
 exact yb _ (gMq _)
theorem BV (d:Nat):2*bN 1+bN d+20≤bS d:=by
 cases d with
 |zero=>exact nrq _
 |succ d=>unfold bS;omega
theorem BT (d:Nat):d≤bS d:=by
 induction d with
 |zero=>exact Nat.zero_le _
 |succ d ih=>unfold bS;omega
theorem tz {A:Prop}:EntOk Tryz.prog 5 (Ent.some (bV A 0)):=by
 refine EntOk.some fun args H K h=>?_
 unfold bV at h
 split at h
 rotate_left
 ·exact h.elim
 rename_i id n w
 obtain ⟨b,a,⟨hg,⟨ha1,ha2⟩,hb,rfl,hbd⟩,hK⟩:=h
 have hid:=glq hg
 have hne:(id=H.nx)=False:=eq_false (by omega)
 have hgi:∀ x,(H.set id (cod b x)).get id=some (cod b x):=fun x=>AHeap.get_set_same _ _ hid
 have hss:∀ x y,(H.set id (cod b x)).set id (cod b y)=H.set id (cod b y):=fun x y=>nU
 have hms:bZ=9223372036854775807:=rfl
 have i1:=@Int.natCast_nonneg
 have f1:=bw hid
 have hb0:=BV (0)
 have hb1:=qZ 1
 have hb2:=qZ (0)
 have hid2:=BT (0)
 have h_CNumA:=pi (A:=A) (g:=0)
 refine ACallsP.fS aE (tCq l6 (tCq h_CNumA tNq)) Tryz.func5 [.tmp 6] (T:=ay []) (h:=fun hcl=>?_)
 have d0:(((0:Nat):Int)==0)=true:=rfl
 cases w with
 |true =>
  try simp only [aS,go_sem,hne,hgi,hss,hg,aj,aF,av,ap,al,iNq,i1,f1,lAq,yaz,yba,d0]
  try simp only [aS,go_sem,hne,hgi,hss,hg,aj,aF,av,ap,al,iNq,i1,f1,lAq,yaz,yba,cd]
  refine ⟨b,a,⟨rfl,⟨ha1,ha2⟩,hb,by omega,by omega⟩,fun r5 a5 hr51 hr52 h51 h52=>?_⟩
  obtain ⟨j,rfl⟩:=Int.eq_ofNat_of_zero_le hr51
  obtain ⟨hgj,hpl⟩:=kh (j:=j) (by omega)
  generalize cOpsL.getD j []=op at hgj hpl
  try simp only [aS,go_sem,hne,hgi,hss,hg,aj,aF,av,ap,al,iNq,i1,f1,lAq,yaz,yba,hgj,cd]
  refine ⟨by omega,b,a5,⟨rfl,⟨h51,h52⟩,hb,by omega,by omega⟩,fun r6 a6 hr61 hr62 h61 h62=>?_⟩
  try simp only [aS,go_sem,hne,hgi,hss,hg,aj,aF,av,ap,al,iNq,i1,f1,lAq,yaz,yba]
  refine ah (fun hcb=>?_) (fun hcb=>?_)
  ·skip
   try simp only [aS,go_sem,hne,hgi,hss,hg,aj,aF,av,ap,al,iNq,i1,f1,lAq,yaz,yba,cd]
   refine ⟨b,a6,⟨rfl,⟨h61,h62⟩,hb,by omega,by omega⟩,fun r7 a7 hr71 hr72 h71 h72=>?_⟩
   obtain ⟨j2,rfl⟩:=Int.eq_ofNat_of_zero_le hr71
   obtain ⟨hgj2,hpl2⟩:=ja (j:=j2) (by omega)
   generalize boolsL.getD j2 []=bo at hgj2 hpl2
   try simp only [aS,go_sem,hne,hgi,hss,hg,aj,aF,av,ap,al,iNq,i1,f1,lAq,yaz,yba,hgj2]
   refine ⟨by omega,?_⟩
   exact bM (hK _ a7 (by first|omega|(simp only [lAq,yaz,yba];omega)) h71 h72) hid hcl (((lRq _).push _).push _)
  try simp only [aS,go_sem,hne,hgi,hss,hg,aj,aF,av,ap,al,iNq,i1,f1,lAq,yaz,yba,fm,cM]
  refine ⟨1,b,a6,⟨rfl,⟨h61,h62⟩,hb,rfl,by omega⟩,fun s1 a7 hs1 h71 h72=>?_⟩
  try simp only [aS,go_sem,hne,hgi,hss,hg,aj,aF,av,ap,al,iNq,i1,f1,lAq,yaz,yba,fm,cM]
  refine ⟨by rw [hms];omega,1,b,a7,⟨rfl,⟨h71,h72⟩,hb,rfl,by omega⟩,fun s2 a8 hs2 h81 h82=>?_⟩
  try simp only [aS,go_sem,hne,hgi,hss,hg,aj,aF,av,ap,al,iNq,i1,f1,lAq,yaz,yba]
  refine ⟨by rw [hms];omega,?_⟩
  exact bM (hK _ a8 (by first|omega|(simp only [lAq,yaz,yba];omega)) h81 h82) hid hcl ((lRq _).push _)
 |false =>
  try simp only [aS,go_sem,hne,hgi,hss,hg,aj,aF,av,ap,al,iNq,i1,f1,lAq,yaz,yba,d0,cd]
  refine ⟨b,a,⟨rfl,⟨ha1,ha2⟩,hb,by omega,by omega⟩,fun r0 a1 hr1 hr2 h11 h12=>?_⟩
  try simp only [aS,go_sem,hne,hgi,hss,hg,aj,aF,av,ap,al,iNq,i1,f1,lAq,yaz,yba,d0]
  refine ah (fun hc=>?_) (fun hc=>?_)
  ·skip
   try simp only [aS,go_sem,hne,hgi,hss,hg,aj,aF,av,ap,al,iNq,i1,f1,lAq,yaz,yba,fm,cM]
   refine ⟨0,b,a1,⟨rfl,⟨h11,h12⟩,hb,rfl,by omega⟩,fun s1 a7 hs1 h71 h72=>?_⟩
   try simp only [aS,go_sem,hne,hgi,hss,hg,aj,aF,av,ap,al,iNq,i1,f1,lAq,yaz,yba]
   exact bM (hK _ a7 (by first|omega|(simp only [lAq,yaz,yba];omega)) h71 h72) hid hcl (lRq _)
  try simp only [aS,go_sem,hne,hgi,hss,hg,aj,aF,av,ap,al,iNq,i1,f1,lAq,yaz,yba,d0]
  try simp only [aS,go_sem,hne,hgi,hss,hg,aj,aF,av,ap,al,iNq,i1,f1,lAq,yaz,yba,cd]
  refine ⟨b,a1,⟨rfl,⟨h11,h12⟩,hb,by omega,by omega⟩,fun r5 a5 hr51 hr52 h51 h52=>?_⟩
  obtain ⟨j,rfl⟩:=Int.eq_ofNat_of_zero_le hr51
  obtain ⟨hgj,hpl⟩:=kh (j:=j) (by omega)
  generalize cOpsL.getD j []=op at hgj hpl
  try simp only [aS,go_sem,hne,hgi,hss,hg,aj,aF,av,ap,al,iNq,i1,f1,lAq,yaz,yba,hgj,cd]
  refine ⟨by omega,b,a5,⟨rfl,⟨h51,h52⟩,hb,by omega,by omega⟩,fun r6 a6 hr61 hr62 h61 h62=>?_⟩
  try simp only [aS,go_sem,hne,hgi,hss,hg,aj,aF,av,ap,al,iNq,i1,f1,lAq,yaz,yba]
  refine ah (fun hcb=>?_) (fun hcb=>?_)
  ·skip
   try simp only [aS,go_sem,hne,hgi,hss,hg,aj,aF,av,ap,al,iNq,i1,f1,lAq,yaz,yba,cd]
   refine ⟨b,a6,⟨rfl,⟨h61,h62⟩,hb,by omega,by omega⟩,fun r7 a7 hr71 hr72 h71 h72=>?_⟩
   obtain ⟨j2,rfl⟩:=Int.eq_ofNat_of_zero_le hr71
   obtain ⟨hgj2,hpl2⟩:=ja (j:=j2) (by omega)
   generalize boolsL.getD j2 []=bo at hgj2 hpl2
   try simp only [aS,go_sem,hne,hgi,hss,hg,aj,aF,av,ap,al,iNq,i1,f1,lAq,yaz,yba,hgj2]
   refine ⟨by omega,?_⟩
   exact bM (hK _ a7 (by first|omega|(simp only [lAq,yaz,yba];omega)) h71 h72) hid hcl (((lRq _).push _).push _)
  try simp only [aS,go_sem,hne,hgi,hss,hg,aj,aF,av,ap,al,iNq,i1,f1,lAq,yaz,yba,fm,cM]
  refine ⟨1,b,a6,⟨rfl,⟨h61,h62⟩,hb,rfl,by omega⟩,fun s1 a7 hs1 h71 h72=>?_⟩
  try simp only [aS,go_sem,hne,hgi,hss,hg,aj,aF,av,ap,al,iNq,i1,f1,lAq,yaz,yba,fm,cM]
  refine ⟨by rw [hms];omega,1,b,a7,⟨rfl,⟨h71,h72⟩,hb,rfl,by omega⟩,fun s2 a8 hs2 h81 h82=>?_⟩
  try simp only [aS,go_sem,hne,hgi,hss,hg,aj,aF,av,ap,al,iNq,i1,f1,lAq,yaz,yba]
  refine ⟨by rw [hms];omega,?_⟩
  exact bM (hK _ a8 (by first|omega|(simp only [lAq,yaz,yba];omega)) h81 h82) hid hcl ((lRq _).push _)
theorem ui {A:Prop} {d:Nat} (h_CSent:EntOk Tryz.prog 5 (Ent.some (bV A d))):EntOk Tryz.prog 5 (Ent.some (bV A (d+1))):=by
 refine EntOk.some fun args H K h=>?_
 unfold bV at h
 split at h
 rotate_left
 ·exact h.elim
 rename_i id n w
 obtain ⟨b,a,⟨hg,⟨ha1,ha2⟩,hb,rfl,hbd⟩,hK⟩:=h
 have hid:=glq hg
 have hne:(id=H.nx)=False:=eq_false (by omega)
 have hgi:∀ x,(H.set id (cod b x)).get id=some (cod b x):=fun x=>AHeap.get_set_same _ _ hid
 have hss:∀ x y,(H.set id (cod b x)).set id (cod b y)=H.set id (cod b y):=fun x y=>nU
 have hms:bZ=9223372036854775807:=rfl
 have i1:=@Int.natCast_nonneg
 have f1:=bw hid
 have hb0:=BV (d+1)
 have hb1:=qZ 1
 have hb2:=qZ (d+1)
 have hid2:=BT (d+1)
 have h_CNumA:=pi (A:=A) (g:=0)
 have hbs:bS (d+1)=2*bS d+2*bN 1+bN (d+1)+20:=rfl
 refine ACallsP.fS aE (tCq l6 (tCq h_CNumA (tCq h_CSent tNq))) Tryz.func5 [.tmp 6] (T:=ay []) (h:=fun hcl=>?_)
 have d0:(((d+1:Nat):Int)==0)=false:=by simp;omega
 have e1:IntKind.i64.wrap (((d+1:Nat):Int) - 1)=(d:Int):=by rw [wrap_i64]<;>omega
 cases w with
 |true =>
  try simp only [aS,go_sem,hne,hgi,hss,hg,aj,aF,av,ap,al,iNq,i1,f1,lAq,yaz,yba,d0,cd]
  refine ⟨b,a,⟨rfl,⟨ha1,ha2⟩,hb,by omega,by omega⟩,fun r1 a2 hr3 hr4 h21 h22=>?_⟩
  try simp only [aS,go_sem,hne,hgi,hss,hg,aj,aF,av,ap,al,iNq,i1,f1,lAq,yaz,yba,d0]
  refine ah (fun hc2=>?_) (fun hc2=>?_)
  ·skip
   try simp only [aS,go_sem,hne,hgi,hss,hg,aj,aF,av,ap,al,iNq,i1,f1,lAq,yaz,yba,cd]
   refine ⟨b,a2,⟨rfl,⟨h21,h22⟩,hb,by omega,by omega⟩,fun r5 a5 hr51 hr52 h51 h52=>?_⟩
   obtain ⟨j,rfl⟩:=Int.eq_ofNat_of_zero_le hr51
   obtain ⟨hgj,hpl⟩:=kh (j:=j) (by omega)
   generalize cOpsL.getD j []=op at hgj hpl
   try simp only [aS,go_sem,hne,hgi,hss,hg,aj,aF,av,ap,al,iNq,i1,f1,lAq,yaz,yba,hgj,cd]
   refine ⟨by omega,b,a5,⟨rfl,⟨h51,h52⟩,hb,by omega,by omega⟩,fun r6 a6 hr61 hr62 h61 h62=>?_⟩
   try simp only [aS,go_sem,hne,hgi,hss,hg,aj,aF,av,ap,al,iNq,i1,f1,lAq,yaz,yba]
   refine ah (fun hcb=>?_) (fun hcb=>?_)
   ·skip
    try simp only [aS,go_sem,hne,hgi,hss,hg,aj,aF,av,ap,al,iNq,i1,f1,lAq,yaz,yba,cd]
    refine ⟨b,a6,⟨rfl,⟨h61,h62⟩,hb,by omega,by omega⟩,fun r7 a7 hr71 hr72 h71 h72=>?_⟩
    obtain ⟨j2,rfl⟩:=Int.eq_ofNat_of_zero_le hr71
    obtain ⟨hgj2,hpl2⟩:=ja (j:=j2) (by omega)
    generalize boolsL.getD j2 []=bo at hgj2 hpl2
    try simp only [aS,go_sem,hne,hgi,hss,hg,aj,aF,av,ap,al,iNq,i1,f1,lAq,yaz,yba,hgj2]
    refine ⟨by omega,?_⟩
    exact bM (hK _ a7 (by first|omega|(simp only [lAq,yaz,yba];omega)) h71 h72) hid hcl (((lRq _).push _).push _)
   try simp only [aS,go_sem,hne,hgi,hss,hg,aj,aF,av,ap,al,iNq,i1,f1,lAq,yaz,yba,fm,cM]
   refine ⟨1,b,a6,⟨rfl,⟨h61,h62⟩,hb,rfl,by omega⟩,fun s1 a7 hs1 h71 h72=>?_⟩
   try simp only [aS,go_sem,hne,hgi,hss,hg,aj,aF,av,ap,al,iNq,i1,f1,lAq,yaz,yba,fm,cM]
   refine ⟨by rw [hms];omega,1,b,a7,⟨rfl,⟨h71,h72⟩,hb,rfl,by omega⟩,fun s2 a8 hs2 h81 h82=>?_⟩
   try simp only [aS,go_sem,hne,hgi,hss,hg,aj,aF,av,ap,al,iNq,i1,f1,lAq,yaz,yba]
   refine ⟨by rw [hms];omega,?_⟩
   exact bM (hK _ a8 (by first|omega|(simp only [lAq,yaz,yba];omega)) h81 h82) hid hcl ((lRq _).push _)
  try simp only [aS,go_sem,hne,hgi,hss,hg,aj,aF,av,ap,al,iNq,i1,f1,lAq,yaz,yba,cd]
  refine ⟨b,a2,⟨rfl,⟨h21,h22⟩,hb,by omega,by omega⟩,fun r3 A0 hr5 hr6 h01 h02=>?_⟩
  try simp only [aS,go_sem,hne,hgi,hss,hg,aj,aF,av,ap,al,iNq,i1,f1,lAq,yaz,yba]
  refine ah (fun hk0=>?_) (fun hk0=>?_)
  ·skip
   try simp only [aS,go_sem,hne,hgi,hss,hg,aj,aF,av,ap,al,iNq,i1,f1,lAq,yaz,yba,bV,e1]
   refine ⟨b,A0,⟨rfl,⟨h01,h02⟩,hb,by omega⟩,fun s1 a8 hs1 h81 h82=>?_⟩
   try simp only [aS,go_sem,hne,hgi,hss,hg,aj,aF,av,ap,al,iNq,i1,f1,lAq,yaz,yba]
   refine ⟨by rw [hms];omega,by rw [hms];omega,?_⟩
   exact bM (hK _ a8 (by first|omega|(simp only [lAq,yaz,yba];omega)) h81 h82) hid hcl (lRq _)
  try simp only [aS,go_sem,hne,hgi,hss,hg,aj,aF,av,ap,al,iNq,i1,f1,lAq,yaz,yba]
  refine ah (fun hk1=>?_) (fun hk1=>?_)
  ·skip
   try simp only [aS,go_sem,hne,hgi,hss,hg,aj,aF,av,ap,al,iNq,i1,f1,lAq,yaz,yba,bV,e1]
   refine ⟨b,A0,⟨rfl,⟨h01,h02⟩,hb,by omega⟩,fun s1 a8 hs1 h81 h82=>?_⟩
   try simp only [aS,go_sem,hne,hgi,hss,hg,aj,aF,av,ap,al,iNq,i1,f1,lAq,yaz,yba,bV,e1]
   refine ⟨by rw [hms];omega,by rw [hms];omega,by rw [hms];omega,b,a8,⟨rfl,⟨h81,h82⟩,hb,by omega⟩,fun s2 a9 hs2 h91 h92=>?_⟩
   try simp only [aS,go_sem,hne,hgi,hss,hg,aj,aF,av,ap,al,iNq,i1,f1,lAq,yaz,yba]
   refine ⟨by rw [hms];omega,by rw [hms];omega,?_⟩
   exact bM (hK _ a9 (by first|omega|(simp only [lAq,yaz,yba];omega)) h91 h92) hid hcl (lRq _)
  try simp only [aS,go_sem,hne,hgi,hss,hg,aj,aF,av,ap,al,iNq,i1,f1,lAq,yaz,yba]
  refine ah (fun hk2=>?_) (fun hk2=>?_)
  ·skip
   try simp only [aS,go_sem,hne,hgi,hss,hg,aj,aF,av,ap,al,iNq,i1,f1,lAq,yaz,yba,bV,e1]
   refine ⟨b,A0,⟨rfl,⟨h01,h02⟩,hb,by omega⟩,fun s1 a8 hs1 h81 h82=>?_⟩
   try simp only [aS,go_sem,hne,hgi,hss,hg,aj,aF,av,ap,al,iNq,i1,f1,lAq,yaz,yba,bV,e1]
   refine ⟨by rw [hms];omega,by rw [hms];omega,by rw [hms];omega,b,a8,⟨rfl,⟨h81,h82⟩,hb,by omega⟩,fun s2 a9 hs2 h91 h92=>?_⟩
   try simp only [aS,go_sem,hne,hgi,hss,hg,aj,aF,av,ap,al,iNq,i1,f1,lAq,yaz,yba]
   refine ⟨by rw [hms];omega,by rw [hms];omega,?_⟩
   exact bM (hK _ a9 (by first|omega|(simp only [lAq,yaz,yba];omega)) h91 h92) hid hcl (lRq _)
  try simp only [aS,go_sem,hne,hgi,hss,hg,aj,aF,av,ap,al,iNq,i1,f1,lAq,yaz,yba]
  refine ah (fun hk3=>?_) (fun hk3=>?_)
  ·skip
   try simp only [aS,go_sem,hne,hgi,hss,hg,aj,aF,av,ap,al,iNq,i1,f1,lAq,yaz,yba,bV,e1]
   refine ⟨b,A0,⟨rfl,⟨h01,h02⟩,hb,by omega⟩,fun s1 a8 hs1 h81 h82=>?_⟩
   try simp only [aS,go_sem,hne,hgi,hss,hg,aj,aF,av,ap,al,iNq,i1,f1,lAq,yaz,yba,bV,e1]
   refine ⟨by rw [hms];omega,by rw [hms];omega,by rw [hms];omega,b,a8,⟨rfl,⟨h81,h82⟩,hb,by omega⟩,fun s2 a9 hs2 h91 h92=>?_⟩
   try simp only [aS,go_sem,hne,hgi,hss,hg,aj,aF,av,ap,al,iNq,i1,f1,lAq,yaz,yba]
   refine ⟨by rw [hms];omega,by rw [hms];omega,?_⟩
   exact bM (hK _ a9 (by first|omega|(simp only [lAq,yaz,yba];omega)) h91 h92) hid hcl (lRq _)
  try simp only [aS,go_sem,hne,hgi,hss,hg,aj,aF,av,ap,al,iNq,i1,f1,lAq,yaz,yba]
  refine ah (fun hk4=>?_) (fun hk4=>?_)
  ·skip
   try simp only [aS,go_sem,hne,hgi,hss,hg,aj,aF,av,ap,al,iNq,i1,f1,lAq,yaz,yba,bV,e1]
   refine ⟨b,A0,⟨rfl,⟨h01,h02⟩,hb,by omega⟩,fun s1 a8 hs1 h81 h82=>?_⟩
   try simp only [aS,go_sem,hne,hgi,hss,hg,aj,aF,av,ap,al,iNq,i1,f1,lAq,yaz,yba,bV,e1]
   refine ⟨by rw [hms];omega,by rw [hms];omega,by rw [hms];omega,b,a8,⟨rfl,⟨h81,h82⟩,hb,by omega⟩,fun s2 a9 hs2 h91 h92=>?_⟩
   try simp only [aS,go_sem,hne,hgi,hss,hg,aj,aF,av,ap,al,iNq,i1,f1,lAq,yaz,yba]
   refine ⟨by rw [hms];omega,by rw [hms];omega,?_⟩
   exact bM (hK _ a9 (by first|omega|(simp only [lAq,yaz,yba];omega)) h91 h92) hid hcl (lRq _)
  try simp only [aS,go_sem,hne,hgi,hss,hg,aj,aF,av,ap,al,iNq,i1,f1,lAq,yaz,yba]
  try simp only [aS,go_sem,hne,hgi,hss,hg,aj,aF,av,ap,al,iNq,i1,f1,lAq,yaz,yba,bV,e1]
  refine ⟨b,A0,⟨rfl,⟨h01,h02⟩,hb,by omega⟩,fun s1 a8 hs1 h81 h82=>?_⟩
  try simp only [aS,go_sem,hne,hgi,hss,hg,aj,aF,av,ap,al,iNq,i1,f1,lAq,yaz,yba]
  refine ⟨by rw [hms];omega,by rw [hms];omega,?_⟩
  exact bM (hK _ a8 (by first|omega|(simp only [lAq,yaz,yba];omega)) h81 h82) hid hcl (lRq _)
 |false =>
  try simp only [aS,go_sem,hne,hgi,hss,hg,aj,aF,av,ap,al,iNq,i1,f1,lAq,yaz,yba,d0,cd]
  refine ⟨b,a,⟨rfl,⟨ha1,ha2⟩,hb,by omega,by omega⟩,fun r0 a1 hr1 hr2 h11 h12=>?_⟩
  try simp only [aS,go_sem,hne,hgi,hss,hg,aj,aF,av,ap,al,iNq,i1,f1,lAq,yaz,yba,d0]
  refine ah (fun hc=>?_) (fun hc=>?_)
  ·skip
   try simp only [aS,go_sem,hne,hgi,hss,hg,aj,aF,av,ap,al,iNq,i1,f1,lAq,yaz,yba,fm,cM]
   refine ⟨(d+1),b,a1,⟨rfl,⟨h11,h12⟩,hb,rfl,by omega⟩,fun s1 a7 hs1 h71 h72=>?_⟩
   try simp only [aS,go_sem,hne,hgi,hss,hg,aj,aF,av,ap,al,iNq,i1,f1,lAq,yaz,yba]
   exact bM (hK _ a7 (by first|omega|(simp only [lAq,yaz,yba];omega)) h71 h72) hid hcl (lRq _)
  try simp only [aS,go_sem,hne,hgi,hss,hg,aj,aF,av,ap,al,iNq,i1,f1,lAq,yaz,yba,d0,cd]
  refine ⟨b,a1,⟨rfl,⟨h11,h12⟩,hb,by omega,by omega⟩,fun r1 a2 hr3 hr4 h21 h22=>?_⟩
  try simp only [aS,go_sem,hne,hgi,hss,hg,aj,aF,av,ap,al,iNq,i1,f1,lAq,yaz,yba,d0]
  refine ah (fun hc2=>?_) (fun hc2=>?_)
  ·skip
   try simp only [aS,go_sem,hne,hgi,hss,hg,aj,aF,av,ap,al,iNq,i1,f1,lAq,yaz,yba,cd]
   refine ⟨b,a2,⟨rfl,⟨h21,h22⟩,hb,by omega,by omega⟩,fun r5 a5 hr51 hr52 h51 h52=>?_⟩
   obtain ⟨j,rfl⟩:=Int.eq_ofNat_of_zero_le hr51
   obtain ⟨hgj,hpl⟩:=kh (j:=j) (by omega)
   generalize cOpsL.getD j []=op at hgj hpl
   try simp only [aS,go_sem,hne,hgi,hss,hg,aj,aF,av,ap,al,iNq,i1,f1,lAq,yaz,yba,hgj,cd]
   refine ⟨by omega,b,a5,⟨rfl,⟨h51,h52⟩,hb,by omega,by omega⟩,fun r6 a6 hr61 hr62 h61 h62=>?_⟩
   try simp only [aS,go_sem,hne,hgi,hss,hg,aj,aF,av,ap,al,iNq,i1,f1,lAq,yaz,yba]
   refine ah (fun hcb=>?_) (fun hcb=>?_)
   ·skip
    try simp only [aS,go_sem,hne,hgi,hss,hg,aj,aF,av,ap,al,iNq,i1,f1,lAq,yaz,yba,cd]
    refine ⟨b,a6,⟨rfl,⟨h61,h62⟩,hb,by omega,by omega⟩,fun r7 a7 hr71 hr72 h71 h72=>?_⟩
    obtain ⟨j2,rfl⟩:=Int.eq_ofNat_of_zero_le hr71
    obtain ⟨hgj2,hpl2⟩:=ja (j:=j2) (by omega)
    generalize boolsL.getD j2 []=bo at hgj2 hpl2
    try simp only [aS,go_sem,hne,hgi,hss,hg,aj,aF,av,ap,al,iNq,i1,f1,lAq,yaz,yba,hgj2]
    refine ⟨by omega,?_⟩
    exact bM (hK _ a7 (by first|omega|(simp only [lAq,yaz,yba];omega)) h71 h72) hid hcl (((lRq _).push _).push _)
   try simp only [aS,go_sem,hne,hgi,hss,hg,aj,aF,av,ap,al,iNq,i1,f1,lAq,yaz,yba,fm,cM]
   refine ⟨1,b,a6,⟨rfl,⟨h61,h62⟩,hb,rfl,by omega⟩,fun s1 a7 hs1 h71 h72=>?_⟩
   try simp only [aS,go_sem,hne,hgi,hss,hg,aj,aF,av,ap,al,iNq,i1,f1,lAq,yaz,yba,fm,cM]
   refine ⟨by rw [hms];omega,1,b,a7,⟨rfl,⟨h71,h72⟩,hb,rfl,by omega⟩,fun s2 a8 hs2 h81 h82=>?_⟩
   try simp only [aS,go_sem,hne,hgi,hss,hg,aj,aF,av,ap,al,iNq,i1,f1,lAq,yaz,yba]
   refine ⟨by rw [hms];omega,?_⟩
   exact bM (hK _ a8 (by first|omega|(simp only [lAq,yaz,yba];omega)) h81 h82) hid hcl ((lRq _).push _)
  try simp only [aS,go_sem,hne,hgi,hss,hg,aj,aF,av,ap,al,iNq,i1,f1,lAq,yaz,yba,cd]
  refine ⟨b,a2,⟨rfl,⟨h21,h22⟩,hb,by omega,by omega⟩,fun r3 A0 hr5 hr6 h01 h02=>?_⟩
  try simp only [aS,go_sem,hne,hgi,hss,hg,aj,aF,av,ap,al,iNq,i1,f1,lAq,yaz,yba]
  refine ah (fun hk0=>?_) (fun hk0=>?_)
  ·skip
   try simp only [aS,go_sem,hne,hgi,hss,hg,aj,aF,av,ap,al,iNq,i1,f1,lAq,yaz,yba,bV,e1]
   refine ⟨b,A0,⟨rfl,⟨h01,h02⟩,hb,by omega⟩,fun s1 a8 hs1 h81 h82=>?_⟩
   try simp only [aS,go_sem,hne,hgi,hss,hg,aj,aF,av,ap,al,iNq,i1,f1,lAq,yaz,yba]
   refine ⟨by rw [hms];omega,by rw [hms];omega,?_⟩
   exact bM (hK _ a8 (by first|omega|(simp only [lAq,yaz,yba];omega)) h81 h82) hid hcl (lRq _)
  try simp only [aS,go_sem,hne,hgi,hss,hg,aj,aF,av,ap,al,iNq,i1,f1,lAq,yaz,yba]
  refine ah (fun hk1=>?_) (fun hk1=>?_)
  ·skip
   try simp only [aS,go_sem,hne,hgi,hss,hg,aj,aF,av,ap,al,iNq,i1,f1,lAq,yaz,yba,bV,e1]
   refine ⟨b,A0,⟨rfl,⟨h01,h02⟩,hb,by omega⟩,fun s1 a8 hs1 h81 h82=>?_⟩
   try simp only [aS,go_sem,hne,hgi,hss,hg,aj,aF,av,ap,al,iNq,i1,f1,lAq,yaz,yba,bV,e1]
   refine ⟨by rw [hms];omega,by rw [hms];omega,by rw [hms];omega,b,a8,⟨rfl,⟨h81,h82⟩,hb,by omega⟩,fun s2 a9 hs2 h91 h92=>?_⟩
   try simp only [aS,go_sem,hne,hgi,hss,hg,aj,aF,av,ap,al,iNq,i1,f1,lAq,yaz,yba]
   refine ⟨by rw [hms];omega,by rw [hms];omega,?_⟩
   exact bM (hK _ a9 (by first|omega|(simp only [lAq,yaz,yba];omega)) h91 h92) hid hcl (lRq _)
  try simp only [aS,go_sem,hne,hgi,hss,hg,aj,aF,av,ap,al,iNq,i1,f1,lAq,yaz,yba]
  refine ah (fun hk2=>?_) (fun hk2=>?_)
  ·skip
   try simp only [aS,go_sem,hne,hgi,hss,hg,aj,aF,av,ap,al,iNq,i1,f1,lAq,yaz,yba,bV,e1]
   refine ⟨b,A0,⟨rfl,⟨h01,h02⟩,hb,by omega⟩,fun s1 a8 hs1 h81 h82=>?_⟩
   try simp only [aS,go_sem,hne,hgi,hss,hg,aj,aF,av,ap,al,iNq,i1,f1,lAq,yaz,yba,bV,e1]
   refine ⟨by rw [hms];omega,by rw [hms];omega,by rw [hms];omega,b,a8,⟨rfl,⟨h81,h82⟩,hb,by omega⟩,fun s2 a9 hs2 h91 h92=>?_⟩
   try simp only [aS,go_sem,hne,hgi,hss,hg,aj,aF,av,ap,al,iNq,i1,f1,lAq,yaz,yba]
   refine ⟨by rw [hms];omega,by rw [hms];omega,?_⟩
   exact bM (hK _ a9 (by first|omega|(simp only [lAq,yaz,yba];omega)) h91 h92) hid hcl (lRq _)
  try simp only [aS,go_sem,hne,hgi,hss,hg,aj,aF,av,ap,al,iNq,i1,f1,lAq,yaz,yba]
  refine ah (fun hk3=>?_) (fun hk3=>?_)
  ·skip
   try simp only [aS,go_sem,hne,hgi,hss,hg,aj,aF,av,ap,al,iNq,i1,f1,lAq,yaz,yba,bV,e1]
   refine ⟨b,A0,⟨rfl,⟨h01,h02⟩,hb,by omega⟩,fun s1 a8 hs1 h81 h82=>?_⟩
   try simp only [aS,go_sem,hne,hgi,hss,hg,aj,aF,av,ap,al,iNq,i1,f1,lAq,yaz,yba,bV,e1]
   refine ⟨by rw [hms];omega,by rw [hms];omega,by rw [hms];omega,b,a8,⟨rfl,⟨h81,h82⟩,hb,by omega⟩,fun s2 a9 hs2 h91 h92=>?_⟩
   try simp only [aS,go_sem,hne,hgi,hss,hg,aj,aF,av,ap,al,iNq,i1,f1,lAq,yaz,yba]
   refine ⟨by rw [hms];omega,by rw [hms];omega,?_⟩
   exact bM (hK _ a9 (by first|omega|(simp only [lAq,yaz,yba];omega)) h91 h92) hid hcl (lRq _)
  try simp only [aS,go_sem,hne,hgi,hss,hg,aj,aF,av,ap,al,iNq,i1,f1,lAq,yaz,yba]
  refine ah (fun hk4=>?_) (fun hk4=>?_)
  ·skip
   try simp only [aS,go_sem,hne,hgi,hss,hg,aj,aF,av,ap,al,iNq,i1,f1,lAq,yaz,yba,bV,e1]
   refine ⟨b,A0,⟨rfl,⟨h01,h02⟩,hb,by omega⟩,fun s1 a8 hs1 h81 h82=>?_⟩
   try simp only [aS,go_sem,hne,hgi,hss,hg,aj,aF,av,ap,al,iNq,i1,f1,lAq,yaz,yba,bV,e1]
   refine ⟨by rw [hms];omega,by rw [hms];omega,by rw [hms];omega,b,a8,⟨rfl,⟨h81,h82⟩,hb,by omega⟩,fun s2 a9 hs2 h91 h92=>?_⟩
   try simp only [aS,go_sem,hne,hgi,hss,hg,aj,aF,av,ap,al,iNq,i1,f1,lAq,yaz,yba]
   refine ⟨by rw [hms];omega,by rw [hms];omega,?_⟩
   exact bM (hK _ a9 (by first|omega|(simp only [lAq,yaz,yba];omega)) h91 h92) hid hcl (lRq _)
  try simp only [aS,go_sem,hne,hgi,hss,hg,aj,aF,av,ap,al,iNq,i1,f1,lAq,yaz,yba]
  try simp only [aS,go_sem,hne,hgi,hss,hg,aj,aF,av,ap,al,iNq,i1,f1,lAq,yaz,yba,bV,e1]
  refine ⟨b,A0,⟨rfl,⟨h01,h02⟩,hb,by omega⟩,fun s1 a8 hs1 h81 h82=>?_⟩
  try simp only [aS,go_sem,hne,hgi,hss,hg,aj,aF,av,ap,al,iNq,i1,f1,lAq,yaz,yba]
  refine ⟨by rw [hms];omega,by rw [hms];omega,?_⟩
  exact bM (hK _ a8 (by first|omega|(simp only [lAq,yaz,yba];omega)) h81 h82) hid hcl (lRq _)
theorem pI {A:Prop}:∀ d,EntOk Tryz.prog 5 (Ent.some (bV A d))
 |0=>tz
 |d+1=>ui (pI d)
end Go.AL
