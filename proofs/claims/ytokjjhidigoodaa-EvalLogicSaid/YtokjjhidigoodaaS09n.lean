/- Contracts and plain laws, a part of the proof; no condition of its own. -/
import Derived.Test.YtokjjhidigoodaaS07h
import Derived.Test.YtokjjhidigoodaaLLog2
set_option maxHeartbeats 32000000
open List renaming length_cons → yaz, length_nil → yba
open Go Go.AL Go.Proofs
namespace Go.AL
set_option linter.all false
set_option maxRecDepth 10000
def cJ (_A:Prop) (d:Nat):List AV→AHeap→(AV→AHeap→Prop)→Prop
 |[.ptr id 0,.int .i64 n,.bool _],H,K=>∃ b a,(H.get id=some (cod b a)∧(0≤a∧a≤(b.length:Int))∧b.length≤140737488355328∧n=(d:Int)∧bN d≤1000000) ∧
   ∀ s a',(s.length≤bN d∧TN s)→0≤a'→a'≤(b.length:Int)→K (.str s) (H.set id (cod b a'))
 |_,_,_=>False
theorem Ar:∀ x∈nms,TN x:=by
 intro x hx
 simp only [nms,List.mem_cons,List.not_mem_nil,or_false] at hx
 rcases hx with rfl|rfl|rfl|rfl|rfl|rfl|rfl|rfl|rfl|rfl|rfl|rfl
 ·exact lr (by decide) (by decide) (by decide) (by decide) (by decide)
 ·exact lr (by decide) (by decide) (by decide) (by decide) (by decide)
 ·exact si (c:=100) (w:=[]) (d:=112) (y:=[114,101,102,105,120,95,108,101,110,103,116,104]) (by decide) (by decide) (by decide) (by decide) (by decide) (by decide) (by decide) (by decide)
 ·exact si (c:=101) (w:=[]) (d:=109) (y:=[97,115,107]) (by decide) (by decide) (by decide) (by decide) (by decide) (by decide) (by decide) (by decide)
 ·exact si (c:=102) (w:=[]) (d:=104) (y:=[105,103,104]) (by decide) (by decide) (by decide) (by decide) (by decide) (by decide) (by decide) (by decide)
 ·exact lr (by decide) (by decide) (by decide) (by decide) (by decide)
 ·exact ma (by decide) (by decide) (by decide +kernel) (by decide)
 ·exact ma (by decide) (by decide) (by decide +kernel) (by decide)
 ·exact ma (by decide) (by decide) (by decide +kernel) (by decide)
 ·exact ma (by decide) (by decide) (by decide +kernel) (by decide)
 ·exact ma (by decide) (by decide) (by decide +kernel) (by decide)
 ·exact lr (by decide) (by decide) (by decide) (by decide) (by decide)
theorem nE {j:Nat} (hj:j<12):(sAV nms).getD j .junk=.str (nms.getD j [])∧(nms.getD j []).length≤40∧TN (nms.getD j []):=by
 obtain ⟨h1,h2⟩:=xy hj
 refine ⟨h1,h2,?_⟩
 rw [List.getD_eq_getElem?_getD,List.getElem?_eq_getElem (show j<nms.length by rw [bF];exact hj)]
 exact Ar _ (List.getElem_mem _)
theorem tg {s s2:List UInt8} (h:TN s) (k:TN s2):TN (s++[32,45,32]++[40]++s2++[41]):=by
 have:=AD h (sb k)
 simpa using this
theorem rU {A:Prop}:EntOk Try.prog 18 (Ent.some (cJ A 0)):=by
 refine EntOk.some fun args H K h=>?_
 unfold cJ at h
 split at h
 rotate_left
 ·exact h.elim
 rename_i id n w
 obtain ⟨b,a,⟨hg,⟨ha1,ha2⟩,hb,rfl,hbd⟩,hK⟩:=h
 have hid:=AHeap.get_lt hg
 have hne:(id=H.nx)=False:=eq_false (by omega)
 have hgi:∀ x,(H.set id (cod b x)).get id=some (cod b x):=fun x=>AHeap.get_set_same _ _ hid
 have hss:∀ x y,(H.set id (cod b x)).set id (cod b y)=H.set id (cod b y):=fun x y=>lG
 have hms:ij=9223372036854775807:=rfl
 have hb0:=nI 0
 refine ACallsP.of_aw (Ω:=[(17,Ent.some bK)]) (T:=ap []) ay (TblOk.cons jX TblOk.nil) Try.func18 (by kernel_rfl) (by rfl) (rs:=[.tmp 6]) (by rfl) (by kernel_rfl) (by simp only [Try.ntmps18,yaz,yba];decide) fun hcl hlt=>?_
 change aw _ _ _ (KI Try.prog [(17,Ent.some bK)] (gR Try.prog [.tmp 6] H.nx _) []) _ _
 clear hlt
 have d0:(((0:Nat):Int)==0)=true:=rfl
 try simp only [go_sem,hne,hgi,hss,hg,aj,bF,dB,Int.toNat_natCast,d0,bK]
 refine ⟨b,a,⟨rfl,⟨ha1,ha2⟩,hb,by omega,by omega⟩,fun r a9 hr1 hr2 ha1' ha2'=>?_⟩
 obtain ⟨j,rfl⟩:=Int.eq_ofNat_of_zero_le hr1
 obtain ⟨hgj,hpl,hTT⟩:=nE (j:=j) (by omega)
 try simp only [bH,go_sem,hne,hgi,hss,hg,aj,bF,dB,Int.toNat_natCast,hgj]
 refine ⟨by omega,?_⟩
 exact cy (hK _ a9 ⟨by omega,hTT⟩ ha1' ha2') hid hcl ((AHeap.Le.refl _).push _)
theorem sH {A:Prop} {d:Nat} (h_LNum:EntOk Try.prog 18 (Ent.some (cJ A d))):EntOk Try.prog 18 (Ent.some (cJ A (d+1))):=by
 refine EntOk.some fun args H K h=>?_
 unfold cJ at h
 split at h
 rotate_left
 ·exact h.elim
 rename_i id n w
 obtain ⟨b,a,⟨hg,⟨ha1,ha2⟩,hb,rfl,hbd⟩,hK⟩:=h
 have hid:=AHeap.get_lt hg
 have hne:(id=H.nx)=False:=eq_false (by omega)
 have hgi:∀ x,(H.set id (cod b x)).get id=some (cod b x):=fun x=>AHeap.get_set_same _ _ hid
 have hss:∀ x y,(H.set id (cod b x)).set id (cod b y)=H.set id (cod b y):=fun x y=>lG
 have hms:ij=9223372036854775807:=rfl
 have hb0:=nI d
 have hbs:bN (d+1)=2*bN d+5:=rfl
 rw [hbs] at hbd
 have hdd:d≤1000000:=by
  have:∀ k,k≤bN k:=fun k=>by
   induction k with
   |zero=>exact Nat.zero_le _
   |succ k ih=>unfold bN;omega
  have:=this d
  omega
 refine ACallsP.of_aw (Ω:=[(17,Ent.some bK),(18,Ent.some (cJ A d))]) (T:=ap []) ay (TblOk.cons jX (TblOk.cons h_LNum TblOk.nil)) Try.func18 (by kernel_rfl) (by rfl) (rs:=[.tmp 6]) (by rfl) (by kernel_rfl) (by simp only [Try.ntmps18,yaz,yba];decide) fun hcl hlt=>?_
 change aw _ _ _ (KI Try.prog [(17,Ent.some bK),(18,Ent.some (cJ A d))] (gR Try.prog [.tmp 6] H.nx _) []) _ _
 clear hlt
 have d0:(((d+1:Nat):Int)==0)=false:=by simp;omega
 have e1:IntKind.i64.wrap (((d+1:Nat):Int) - 1)=(d:Int):=by rw [wrap_i64]<;>omega
 try simp only [go_sem,hne,hgi,hss,hg,aj,bF,dB,Int.toNat_natCast,d0,bK]
 refine ⟨b,a,⟨rfl,⟨ha1,ha2⟩,hb,by omega,by omega⟩,fun r0 a1 hr1 hr2 h11 h12=>?_⟩
 try simp only [bH,go_sem,hne,hgi,hss,hg,aj,bF,dB,Int.toNat_natCast]
 refine al (fun hc=>?_) (fun hc=>?_)
 ·simp only [go_sem,hne,hgi,hss,hg,aj,bF,dB,Int.toNat_natCast,bK]
  refine ⟨b,a1,⟨rfl,⟨h11,h12⟩,hb,by omega,by omega⟩,fun r a9 hr1 hr2 ha1' ha2'=>?_⟩
  obtain ⟨j,rfl⟩:=Int.eq_ofNat_of_zero_le hr1
  obtain ⟨hgj,hpl,hTT⟩:=nE (j:=j) (by omega)
  try simp only [bH,go_sem,hne,hgi,hss,hg,aj,bF,dB,Int.toNat_natCast,hgj]
  refine ⟨by omega,?_⟩
  exact cy (hK _ a9 ⟨by omega,hTT⟩ ha1' ha2') hid hcl ((AHeap.Le.refl _).push _)
 try simp only [go_sem,hne,hgi,hss,hg,aj,bF,dB,Int.toNat_natCast,bK]
 refine ⟨b,a1,⟨rfl,⟨h11,h12⟩,hb,by omega,by omega⟩,fun r1 a2 hr3 hr4 h21 h22=>?_⟩
 try simp only [bH,go_sem,hne,hgi,hss,hg,aj,bF,dB,Int.toNat_natCast]
 refine al (fun h0=>?_) (fun h0=>?_)
 ·simp only [go_sem,hne,hgi,hss,hg,aj,bF,dB,Int.toNat_natCast,cJ,e1]
  refine ⟨b,a2,⟨rfl,⟨h21,h22⟩,hb,by omega⟩,fun s a3 ⟨hs,hT⟩ h31 h32=>?_⟩
  try simp only [bH,go_sem,hne,hgi,hss,hg,aj,bF,dB,Int.toNat_natCast]
  refine ⟨by rw [hms];omega,?_⟩
  exact cy (hK _ a3 ⟨by rw [hbs];simp;omega,by first|exact xt hT|simpa using xt hT⟩ h31 h32) hid hcl (AHeap.Le.refl _)
 try simp only [go_sem,hne,hgi,hss,hg,aj,bF,dB,Int.toNat_natCast]
 refine al (fun h0=>?_) (fun h0=>?_)
 ·simp only [go_sem,hne,hgi,hss,hg,aj,bF,dB,Int.toNat_natCast,cJ,e1]
  refine ⟨b,a2,⟨rfl,⟨h21,h22⟩,hb,by omega⟩,fun s a3 ⟨hs,hT⟩ h31 h32=>?_⟩
  try simp only [bH,go_sem,hne,hgi,hss,hg,aj,bF,dB,Int.toNat_natCast,List.length_append,yaz,yba]
  refine ⟨by rw [hms];omega,by rw [hms];omega,?_⟩
  exact cy (hK _ a3 ⟨by rw [hbs];simp;omega,by first|exact sb hT|simpa using sb hT⟩ h31 h32) hid hcl (AHeap.Le.refl _)
 try simp only [go_sem,hne,hgi,hss,hg,aj,bF,dB,Int.toNat_natCast]
 refine al (fun h0=>?_) (fun h0=>?_)
 ·simp only [go_sem,hne,hgi,hss,hg,aj,bF,dB,Int.toNat_natCast,cJ,e1]
  refine ⟨b,a2,⟨rfl,⟨h21,h22⟩,hb,by omega⟩,fun s a3 ⟨hs,hT⟩ h31 h32=>?_⟩
  try simp only [bH,go_sem,hne,hgi,hss,hg,aj,bF,dB,Int.toNat_natCast,cJ,e1,List.length_append,yaz,yba]
  refine ⟨by rw [hms];omega,b,a3,⟨rfl,⟨h31,h32⟩,hb,by omega⟩,fun s2 a4 ⟨hs2,hT2⟩ h41 h42=>?_⟩
  try simp only [bH,go_sem,hne,hgi,hss,hg,aj,bF,dB,Int.toNat_natCast]
  refine ⟨by (rw [hms];(try simp);omega),?_⟩
  exact cy (hK _ a4 ⟨by rw [hbs];simp;omega,by first|exact xz hT hT2|simpa using xz hT hT2⟩ h41 h42) hid hcl (AHeap.Le.refl _)
 try simp only [go_sem,hne,hgi,hss,hg,aj,bF,dB,Int.toNat_natCast,cJ,e1]
 refine ⟨b,a2,⟨rfl,⟨h21,h22⟩,hb,by omega⟩,fun s a3 ⟨hs,hT⟩ h31 h32=>?_⟩
 try simp only [bH,go_sem,hne,hgi,hss,hg,aj,bF,dB,Int.toNat_natCast,cJ,e1,List.length_append,yaz,yba]
 refine ⟨by rw [hms];omega,by rw [hms];omega,b,a3,⟨rfl,⟨h31,h32⟩,hb,by omega⟩,fun s2 a4 ⟨hs2,hT2⟩ h41 h42=>?_⟩
 try simp only [bH,go_sem,hne,hgi,hss,hg,aj,bF,dB,Int.toNat_natCast,List.length_append,yaz,yba]
 refine ⟨by rw [hms];omega,by rw [hms];omega,?_⟩
 exact cy (hK _ a4 ⟨by rw [hbs];simp;omega,by first|exact tg hT hT2|simpa using tg hT hT2⟩ h41 h42) hid hcl (AHeap.Le.refl _)
theorem ou {A:Prop}:∀ d,EntOk Try.prog 18 (Ent.some (cJ A d))
 |0=>rU
 |d+1=>sH (ou d)
end Go.AL
open Go Go.AL Go.Proofs
namespace Go.AL
set_option linter.all false
set_option maxRecDepth 10000
def eT (A:Prop) (_g:Nat) (args:List AV) (H:AHeap) (K:AV→AHeap→Prop):Prop:=∃ d,cJ A d args H K
theorem mu {A:Prop} {g:Nat}:EntOk Try.prog 18 (Ent.some (eT A g)):=EntOk.some fun args H K ⟨d,h⟩=>(ou d).2.2 _ rfl args H K h
def bV (_A:Prop) (d:Nat):List AV→AHeap→(AV→AHeap→Prop)→Prop
 |[.ptr id 0,.int .i64 n,.bool true],H,K=>∃ b a,(H.get id=some (cod b a)∧(0≤a∧a≤(b.length:Int))∧b.length≤140737488355328∧n=(d:Int)∧bS d≤1000000) ∧
   ∀ s a',(s.length≤bS d∧TS s)→0≤a'→a'≤(b.length:Int)→K (.str s) (H.set id (cod b a'))
 |_,_,_=>False
theorem mC {j:Nat} (hj:j<6):(sAV cOpsL).getD j .junk=.str (cTx j)∧(cTx j).length≤4:=by
 rcases (by omega:j=0∨j=1∨j=2∨j=3∨j=4∨j=5) with rfl|rfl|rfl|rfl|rfl|rfl<;>exact ⟨rfl,by decide⟩
theorem kI {j:Nat} (hj:j<2):∃ bo,(sAV boolsL).getD j .junk=.str bo∧bo.length≤5∧TS bo:=by
 rcases (by omega:j=0∨j=1) with rfl|rfl
 ·exact ⟨[116,114,117,101],rfl,by decide,zX true⟩
 ·exact ⟨[102,97,108,115,101],rfl,by decide,zX false⟩
theorem fK {c:Nat} (hc:c<4) {s s2:List UInt8} (h:TS s) (k:TS s2):TS ([40]++s++([41]++([32]++bTx c++[32]))++[40]++s2++[41]):=by
 have:=Bq hc h k
 simpa using this
theorem rC {A:Prop}:EntOk Try.prog 7 (Ent.some (bV A 0)):=by
 refine EntOk.some fun args H K h=>?_
 unfold bV at h
 split at h
 rotate_left
 ·exact h.elim
 rename_i id n
 obtain ⟨b,a,⟨hg,⟨ha1,ha2⟩,hb,rfl,hbd⟩,hK⟩:=h
 have hid:=AHeap.get_lt hg
 have hne:(id=H.nx)=False:=eq_false (by omega)
 have hgi:∀ x,(H.set id (cod b x)).get id=some (cod b x):=fun x=>AHeap.get_set_same _ _ hid
 have hss:∀ x y,(H.set id (cod b x)).set id (cod b y)=H.set id (cod b y):=fun x y=>lG
 have hms:ij=9223372036854775807:=rfl
 have i1:=@Int.natCast_nonneg
 have f1:=cj hid
 have hb0:=Af (0)
 have hb1:=nI 1
 have hb2:=nI (0)
 have hid2:=Ad (0)
 have h_LNumA:=mu (A:=A) (g:=0)
 refine ACallsP.of_aw (Ω:=[(17,Ent.some bK),(18,Ent.some (eT A 0))]) (T:=ap []) ay (TblOk.cons jX (TblOk.cons h_LNumA TblOk.nil)) Try.func7 (by kernel_rfl) (by rfl) (rs:=[.tmp 6]) (by rfl) (by kernel_rfl) (by simp only [Try.ntmps7,yaz,yba];decide) fun hcl hlt=>?_
 change aw _ _ _ (KI Try.prog [(17,Ent.some bK),(18,Ent.some (eT A 0))] (gR Try.prog [.tmp 6] H.nx _) []) _ _
 clear hlt
 have d0:(((0:Nat):Int)==0)=true:=rfl
 try simp only [bH,go_sem,hne,hgi,hss,hg,aj,bb,aL,az,aq,Int.toNat_natCast,i1,f1,List.length_append,yaz,yba,d0]
 try simp only [bH,go_sem,hne,hgi,hss,hg,aj,bb,aL,az,aq,Int.toNat_natCast,i1,f1,List.length_append,yaz,yba,bK]
 refine ⟨b,a,⟨rfl,⟨ha1,ha2⟩,hb,by omega,by omega⟩,fun r5 a5 hr51 hr52 h51 h52=>?_⟩
 obtain ⟨j,rfl⟩:=Int.eq_ofNat_of_zero_le hr51
 have hj6:j<6:=by omega
 obtain ⟨hgj,hpl⟩:=mC (j:=j) hj6
 have hTC:=fun (s s2:List UInt8) (h:TN s) (k:TN s2)=>wm hj6 h k
 generalize cTx j=op at hgj hpl hTC
 try simp only [bH,go_sem,hne,hgi,hss,hg,aj,bb,aL,az,aq,Int.toNat_natCast,i1,f1,List.length_append,yaz,yba,hgj,bK]
 refine ⟨by omega,b,a5,⟨rfl,⟨h51,h52⟩,hb,by omega,by omega⟩,fun r6 a6 hr61 hr62 h61 h62=>?_⟩
 try simp only [bH,go_sem,hne,hgi,hss,hg,aj,bb,aL,az,aq,Int.toNat_natCast,i1,f1,List.length_append,yaz,yba]
 refine al (fun hcb=>?_) (fun hcb=>?_)
 ·skip
  try simp only [bH,go_sem,hne,hgi,hss,hg,aj,bb,aL,az,aq,Int.toNat_natCast,i1,f1,List.length_append,yaz,yba,bK]
  refine ⟨b,a6,⟨rfl,⟨h61,h62⟩,hb,by omega,by omega⟩,fun r7 a7 hr71 hr72 h71 h72=>?_⟩
  obtain ⟨j2,rfl⟩:=Int.eq_ofNat_of_zero_le hr71
  obtain ⟨bo,hgj2,hpl2,hTB⟩:=kI (j:=j2) (by omega)
  try simp only [bH,go_sem,hne,hgi,hss,hg,aj,bb,aL,az,aq,Int.toNat_natCast,i1,f1,List.length_append,yaz,yba,hgj2]
  refine ⟨by omega,?_⟩
  exact cy (hK _ a7 ⟨(by first|omega|(simp only [List.length_append,yaz,yba];omega)),by first|exact hTB|simpa [bTx] using hTB⟩ h71 h72) hid hcl (((AHeap.Le.refl _).push _).push _)
 try simp only [bH,go_sem,hne,hgi,hss,hg,aj,bb,aL,az,aq,Int.toNat_natCast,i1,f1,List.length_append,yaz,yba,eT,cJ]
 refine ⟨1,b,a6,⟨rfl,⟨h61,h62⟩,hb,rfl,by omega⟩,fun s1 a7 ⟨hs1,hT1⟩ h71 h72=>?_⟩
 try simp only [bH,go_sem,hne,hgi,hss,hg,aj,bb,aL,az,aq,Int.toNat_natCast,i1,f1,List.length_append,yaz,yba,eT,cJ]
 refine ⟨by rw [hms];omega,1,b,a7,⟨rfl,⟨h71,h72⟩,hb,rfl,by omega⟩,fun s2 a8 ⟨hs2,hT2⟩ h81 h82=>?_⟩
 try simp only [bH,go_sem,hne,hgi,hss,hg,aj,bb,aL,az,aq,Int.toNat_natCast,i1,f1,List.length_append,yaz,yba]
 refine ⟨by rw [hms];omega,?_⟩
 exact cy (hK _ a8 ⟨(by first|omega|(simp only [List.length_append,yaz,yba];omega)),by first|exact hTC _ _ hT1 hT2|simpa [bTx] using hTC _ _ hT1 hT2⟩ h81 h82) hid hcl ((AHeap.Le.refl _).push _)
theorem qr {A:Prop} {d:Nat} (h_LSent:EntOk Try.prog 7 (Ent.some (bV A d))):EntOk Try.prog 7 (Ent.some (bV A (d+1))):=by
 refine EntOk.some fun args H K h=>?_
 unfold bV at h
 split at h
 rotate_left
 ·exact h.elim
 rename_i id n
 obtain ⟨b,a,⟨hg,⟨ha1,ha2⟩,hb,rfl,hbd⟩,hK⟩:=h
 have hid:=AHeap.get_lt hg
 have hne:(id=H.nx)=False:=eq_false (by omega)
 have hgi:∀ x,(H.set id (cod b x)).get id=some (cod b x):=fun x=>AHeap.get_set_same _ _ hid
 have hss:∀ x y,(H.set id (cod b x)).set id (cod b y)=H.set id (cod b y):=fun x y=>lG
 have hms:ij=9223372036854775807:=rfl
 have i1:=@Int.natCast_nonneg
 have f1:=cj hid
 have hb0:=Af (d+1)
 have hb1:=nI 1
 have hb2:=nI (d+1)
 have hid2:=Ad (d+1)
 have h_LNumA:=mu (A:=A) (g:=0)
 have hbs:bS (d+1)=2*bS d+2*bN 1+bN (d+1)+20:=rfl
 refine ACallsP.of_aw (Ω:=[(17,Ent.some bK),(18,Ent.some (eT A 0)),(7,Ent.some (bV A d))]) (T:=ap []) ay (TblOk.cons jX (TblOk.cons h_LNumA (TblOk.cons h_LSent TblOk.nil))) Try.func7 (by kernel_rfl) (by rfl) (rs:=[.tmp 6]) (by rfl) (by kernel_rfl) (by simp only [Try.ntmps7,yaz,yba];decide) fun hcl hlt=>?_
 change aw _ _ _ (KI Try.prog [(17,Ent.some bK),(18,Ent.some (eT A 0)),(7,Ent.some (bV A d))] (gR Try.prog [.tmp 6] H.nx _) []) _ _
 clear hlt
 have d0:(((d+1:Nat):Int)==0)=false:=by simp;omega
 have e1:IntKind.i64.wrap (((d+1:Nat):Int) - 1)=(d:Int):=by rw [wrap_i64]<;>omega
 try simp only [bH,go_sem,hne,hgi,hss,hg,aj,bb,aL,az,aq,Int.toNat_natCast,i1,f1,List.length_append,yaz,yba,d0,bK]
 refine ⟨b,a,⟨rfl,⟨ha1,ha2⟩,hb,by omega,by omega⟩,fun r1 a2 hr3 hr4 h21 h22=>?_⟩
 try simp only [bH,go_sem,hne,hgi,hss,hg,aj,bb,aL,az,aq,Int.toNat_natCast,i1,f1,List.length_append,yaz,yba,d0]
 refine al (fun hc2=>?_) (fun hc2=>?_)
 ·skip
  try simp only [bH,go_sem,hne,hgi,hss,hg,aj,bb,aL,az,aq,Int.toNat_natCast,i1,f1,List.length_append,yaz,yba,bK]
  refine ⟨b,a2,⟨rfl,⟨h21,h22⟩,hb,by omega,by omega⟩,fun r5 a5 hr51 hr52 h51 h52=>?_⟩
  obtain ⟨j,rfl⟩:=Int.eq_ofNat_of_zero_le hr51
  have hj6:j<6:=by omega
  obtain ⟨hgj,hpl⟩:=mC (j:=j) hj6
  have hTC:=fun (s s2:List UInt8) (h:TN s) (k:TN s2)=>wm hj6 h k
  generalize cTx j=op at hgj hpl hTC
  try simp only [bH,go_sem,hne,hgi,hss,hg,aj,bb,aL,az,aq,Int.toNat_natCast,i1,f1,List.length_append,yaz,yba,hgj,bK]
  refine ⟨by omega,b,a5,⟨rfl,⟨h51,h52⟩,hb,by omega,by omega⟩,fun r6 a6 hr61 hr62 h61 h62=>?_⟩
  try simp only [bH,go_sem,hne,hgi,hss,hg,aj,bb,aL,az,aq,Int.toNat_natCast,i1,f1,List.length_append,yaz,yba]
  refine al (fun hcb=>?_) (fun hcb=>?_)
  ·skip
   try simp only [bH,go_sem,hne,hgi,hss,hg,aj,bb,aL,az,aq,Int.toNat_natCast,i1,f1,List.length_append,yaz,yba,bK]
   refine ⟨b,a6,⟨rfl,⟨h61,h62⟩,hb,by omega,by omega⟩,fun r7 a7 hr71 hr72 h71 h72=>?_⟩
   obtain ⟨j2,rfl⟩:=Int.eq_ofNat_of_zero_le hr71
   obtain ⟨bo,hgj2,hpl2,hTB⟩:=kI (j:=j2) (by omega)
   try simp only [bH,go_sem,hne,hgi,hss,hg,aj,bb,aL,az,aq,Int.toNat_natCast,i1,f1,List.length_append,yaz,yba,hgj2]
   refine ⟨by omega,?_⟩
   exact cy (hK _ a7 ⟨(by first|omega|(simp only [List.length_append,yaz,yba];omega)),by first|exact hTB|simpa [bTx] using hTB⟩ h71 h72) hid hcl (((AHeap.Le.refl _).push _).push _)
  try simp only [bH,go_sem,hne,hgi,hss,hg,aj,bb,aL,az,aq,Int.toNat_natCast,i1,f1,List.length_append,yaz,yba,eT,cJ]
  refine ⟨1,b,a6,⟨rfl,⟨h61,h62⟩,hb,rfl,by omega⟩,fun s1 a7 ⟨hs1,hT1⟩ h71 h72=>?_⟩
  try simp only [bH,go_sem,hne,hgi,hss,hg,aj,bb,aL,az,aq,Int.toNat_natCast,i1,f1,List.length_append,yaz,yba,eT,cJ]
  refine ⟨by rw [hms];omega,1,b,a7,⟨rfl,⟨h71,h72⟩,hb,rfl,by omega⟩,fun s2 a8 ⟨hs2,hT2⟩ h81 h82=>?_⟩
  try simp only [bH,go_sem,hne,hgi,hss,hg,aj,bb,aL,az,aq,Int.toNat_natCast,i1,f1,List.length_append,yaz,yba]
  refine ⟨by rw [hms];omega,?_⟩
  exact cy (hK _ a8 ⟨(by first|omega|(simp only [List.length_append,yaz,yba];omega)),by first|exact hTC _ _ hT1 hT2|simpa [bTx] using hTC _ _ hT1 hT2⟩ h81 h82) hid hcl ((AHeap.Le.refl _).push _)
 try simp only [bH,go_sem,hne,hgi,hss,hg,aj,bb,aL,az,aq,Int.toNat_natCast,i1,f1,List.length_append,yaz,yba,bK]
 refine ⟨b,a2,⟨rfl,⟨h21,h22⟩,hb,by omega,by omega⟩,fun r3 A0 hr5 hr6 h01 h02=>?_⟩
 try simp only [bH,go_sem,hne,hgi,hss,hg,aj,bb,aL,az,aq,Int.toNat_natCast,i1,f1,List.length_append,yaz,yba]
 refine al (fun hk0=>?_) (fun hk0=>?_)
 ·skip
  try simp only [bH,go_sem,hne,hgi,hss,hg,aj,bb,aL,az,aq,Int.toNat_natCast,i1,f1,List.length_append,yaz,yba,bV,e1]
  refine ⟨b,A0,⟨rfl,⟨h01,h02⟩,hb,by omega⟩,fun s1 a8 ⟨hs1,hT1⟩ h81 h82=>?_⟩
  try simp only [bH,go_sem,hne,hgi,hss,hg,aj,bb,aL,az,aq,Int.toNat_natCast,i1,f1,List.length_append,yaz,yba]
  refine ⟨by rw [hms];omega,by rw [hms];omega,?_⟩
  exact cy (hK _ a8 ⟨(by first|omega|(simp only [List.length_append,yaz,yba];omega)),by first|exact xp hT1|simpa [bTx] using xp hT1⟩ h81 h82) hid hcl (AHeap.Le.refl _)
 try simp only [bH,go_sem,hne,hgi,hss,hg,aj,bb,aL,az,aq,Int.toNat_natCast,i1,f1,List.length_append,yaz,yba]
 refine al (fun hk1=>?_) (fun hk1=>?_)
 ·skip
  try simp only [bH,go_sem,hne,hgi,hss,hg,aj,bb,aL,az,aq,Int.toNat_natCast,i1,f1,List.length_append,yaz,yba,bV,e1]
  refine ⟨b,A0,⟨rfl,⟨h01,h02⟩,hb,by omega⟩,fun s1 a8 ⟨hs1,hT1⟩ h81 h82=>?_⟩
  try simp only [bH,go_sem,hne,hgi,hss,hg,aj,bb,aL,az,aq,Int.toNat_natCast,i1,f1,List.length_append,yaz,yba,bV,e1]
  refine ⟨by rw [hms];omega,by rw [hms];omega,by rw [hms];omega,b,a8,⟨rfl,⟨h81,h82⟩,hb,by omega⟩,fun s2 a9 ⟨hs2,hT2⟩ h91 h92=>?_⟩
  try simp only [bH,go_sem,hne,hgi,hss,hg,aj,bb,aL,az,aq,Int.toNat_natCast,i1,f1,List.length_append,yaz,yba]
  refine ⟨by rw [hms];omega,by rw [hms];omega,?_⟩
  exact cy (hK _ a9 ⟨(by first|omega|(simp only [List.length_append,yaz,yba];omega)),by first|exact fK (c:=0) (by decide) hT1 hT2|simpa [bTx] using fK (c:=0) (by decide) hT1 hT2⟩ h91 h92) hid hcl (AHeap.Le.refl _)
 try simp only [bH,go_sem,hne,hgi,hss,hg,aj,bb,aL,az,aq,Int.toNat_natCast,i1,f1,List.length_append,yaz,yba]
 refine al (fun hk2=>?_) (fun hk2=>?_)
 ·skip
  try simp only [bH,go_sem,hne,hgi,hss,hg,aj,bb,aL,az,aq,Int.toNat_natCast,i1,f1,List.length_append,yaz,yba,bV,e1]
  refine ⟨b,A0,⟨rfl,⟨h01,h02⟩,hb,by omega⟩,fun s1 a8 ⟨hs1,hT1⟩ h81 h82=>?_⟩
  try simp only [bH,go_sem,hne,hgi,hss,hg,aj,bb,aL,az,aq,Int.toNat_natCast,i1,f1,List.length_append,yaz,yba,bV,e1]
  refine ⟨by rw [hms];omega,by rw [hms];omega,by rw [hms];omega,b,a8,⟨rfl,⟨h81,h82⟩,hb,by omega⟩,fun s2 a9 ⟨hs2,hT2⟩ h91 h92=>?_⟩
  try simp only [bH,go_sem,hne,hgi,hss,hg,aj,bb,aL,az,aq,Int.toNat_natCast,i1,f1,List.length_append,yaz,yba]
  refine ⟨by rw [hms];omega,by rw [hms];omega,?_⟩
  exact cy (hK _ a9 ⟨(by first|omega|(simp only [List.length_append,yaz,yba];omega)),by first|exact fK (c:=1) (by decide) hT1 hT2|simpa [bTx] using fK (c:=1) (by decide) hT1 hT2⟩ h91 h92) hid hcl (AHeap.Le.refl _)
 try simp only [bH,go_sem,hne,hgi,hss,hg,aj,bb,aL,az,aq,Int.toNat_natCast,i1,f1,List.length_append,yaz,yba]
 refine al (fun hk3=>?_) (fun hk3=>?_)
 ·skip
  try simp only [bH,go_sem,hne,hgi,hss,hg,aj,bb,aL,az,aq,Int.toNat_natCast,i1,f1,List.length_append,yaz,yba,bV,e1]
  refine ⟨b,A0,⟨rfl,⟨h01,h02⟩,hb,by omega⟩,fun s1 a8 ⟨hs1,hT1⟩ h81 h82=>?_⟩
  try simp only [bH,go_sem,hne,hgi,hss,hg,aj,bb,aL,az,aq,Int.toNat_natCast,i1,f1,List.length_append,yaz,yba,bV,e1]
  refine ⟨by rw [hms];omega,by rw [hms];omega,by rw [hms];omega,b,a8,⟨rfl,⟨h81,h82⟩,hb,by omega⟩,fun s2 a9 ⟨hs2,hT2⟩ h91 h92=>?_⟩
  try simp only [bH,go_sem,hne,hgi,hss,hg,aj,bb,aL,az,aq,Int.toNat_natCast,i1,f1,List.length_append,yaz,yba]
  refine ⟨by rw [hms];omega,by rw [hms];omega,?_⟩
  exact cy (hK _ a9 ⟨(by first|omega|(simp only [List.length_append,yaz,yba];omega)),by first|exact fK (c:=2) (by decide) hT1 hT2|simpa [bTx] using fK (c:=2) (by decide) hT1 hT2⟩ h91 h92) hid hcl (AHeap.Le.refl _)
 try simp only [bH,go_sem,hne,hgi,hss,hg,aj,bb,aL,az,aq,Int.toNat_natCast,i1,f1,List.length_append,yaz,yba]
 refine al (fun hk4=>?_) (fun hk4=>?_)
 ·skip
  try simp only [bH,go_sem,hne,hgi,hss,hg,aj,bb,aL,az,aq,Int.toNat_natCast,i1,f1,List.length_append,yaz,yba,bV,e1]
  refine ⟨b,A0,⟨rfl,⟨h01,h02⟩,hb,by omega⟩,fun s1 a8 ⟨hs1,hT1⟩ h81 h82=>?_⟩
  try simp only [bH,go_sem,hne,hgi,hss,hg,aj,bb,aL,az,aq,Int.toNat_natCast,i1,f1,List.length_append,yaz,yba,bV,e1]
  refine ⟨by rw [hms];omega,by rw [hms];omega,by rw [hms];omega,b,a8,⟨rfl,⟨h81,h82⟩,hb,by omega⟩,fun s2 a9 ⟨hs2,hT2⟩ h91 h92=>?_⟩
  try simp only [bH,go_sem,hne,hgi,hss,hg,aj,bb,aL,az,aq,Int.toNat_natCast,i1,f1,List.length_append,yaz,yba]
  refine ⟨by rw [hms];omega,by rw [hms];omega,?_⟩
  exact cy (hK _ a9 ⟨(by first|omega|(simp only [List.length_append,yaz,yba];omega)),by first|exact fK (c:=3) (by decide) hT1 hT2|simpa [bTx] using fK (c:=3) (by decide) hT1 hT2⟩ h91 h92) hid hcl (AHeap.Le.refl _)
 try simp only [bH,go_sem,hne,hgi,hss,hg,aj,bb,aL,az,aq,Int.toNat_natCast,i1,f1,List.length_append,yaz,yba]
 try simp only [bH,go_sem,hne,hgi,hss,hg,aj,bb,aL,az,aq,Int.toNat_natCast,i1,f1,List.length_append,yaz,yba,bV,e1]
 refine ⟨b,A0,⟨rfl,⟨h01,h02⟩,hb,by omega⟩,fun s1 a8 ⟨hs1,hT1⟩ h81 h82=>?_⟩
 try simp only [bH,go_sem,hne,hgi,hss,hg,aj,bb,aL,az,aq,Int.toNat_natCast,i1,f1,List.length_append,yaz,yba]
 refine ⟨by rw [hms];omega,by rw [hms];omega,?_⟩
 exact cy (hK _ a8 ⟨(by first|omega|(simp only [List.length_append,yaz,yba];omega)),by first|exact ww hT1|simpa [bTx] using ww hT1⟩ h81 h82) hid hcl (AHeap.Le.refl _)
theorem m7 {A:Prop}:∀ d,EntOk Try.prog 7 (Ent.some (bV A d))
 |0=>rC
 |d+1=>qr (m7 d)
end Go.AL
