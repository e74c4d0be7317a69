/- Lemmas of the proof; no condition. -/
import Derived.Test.YthnlhjalhflgfaaGreatE04g
import Derived.Test.YthnlhjalhflgfaaGreatS08b
import Derived.Test.YthnlhjalhflgfaaGreatE04f
import Derived.Test.YthnlhjalhflgfaaGreatE06
set_option linter.all false
set_option maxRecDepth 10000
set_option maxHeartbeats 32000000
open List renaming length_cons → yaz, length_nil → yba, take_of_length_le → ybc, drop_append → ybd, take_append → ybe, drop_eq_nil_of_le → ybf, length_map → ybb, map_nil → yaf, append_nil → yaj
open Go Go.AL Go.Proofs
namespace Go.AL
theorem JK:ti Tryz.prog 300=some ⟨.map 344 4,1,8,.nilm⟩:=krf
theorem wV:ti Tryz.prog 344=some ⟨.struct [(0,9,false),(1,9,false)],2,32,.agg [.str [],.str []]⟩:=krf
attribute [go_sem] JK wV
theorem B3 {P:Program} {t s:TypeId} {n:Nat} (ht:(ti P t).map TI.desc=some (.struct [(0,s,false),(1,s,false)])) (hs:(ti P s).map TI.desc=some .string) (hk:P.keyType t=true) (hn:P.types.size=n+1)
 (hc:P.cellsOf t=2) (hcs:P.cellsOf s=1) {v:VN} (h1:v.1.length≤140737488355328) (h2:v.2.length≤140737488355328):iF P t (kW v):=by
 obtain ⟨a,b⟩:=v
 obtain ⟨d,i,hu,_,hd⟩:=iS ht
 obtain ⟨ds,is,hus,_,hds⟩:=iS hs
 cases d<;>simp [fJ] at hd
 rename_i fs
 cases ds<;>simp [fJ] at hds
 obtain ⟨l⟩:=fs
 match l,hd with
 |[],hd=>simp at hd
 |[_],hd=>simp at hd
 |_::_::_::_,hd=>simp at hd
 |[f,g],hd =>
  simp at hd
  obtain ⟨⟨f1,f2,f3⟩,g1,g2,g3⟩:=hd
  have hm:(140737488355328:Nat)≤maxLen:=by decide
  dsimp only at h1 h2
  unfold iF keyOf
  rw [hu,hn]
  have e1:(Value.agg #[Value.string ⟨a.toArray⟩,Value.string ⟨b.toArray⟩]).formed P t=true:=by
   simp [Value.formed,hu,hc]
  have la:(⟨a.toArray⟩:ByteArray).size≤maxLen:=by simp only [ByteArray.size,List.size_toArray];omega
  have lb:(⟨b.toArray⟩:ByteArray).size≤maxLen:=by simp only [ByteArray.size,List.size_toArray];omega
  have e2:P.keyLits (n+1+1) t [Value.string ⟨a.toArray⟩,Value.string ⟨b.toArray⟩]=some [.string a,.string b]:=by
   have k1:P.keyLits (n+1) s [Value.string ⟨a.toArray⟩]=some [.string a]:=by
    unfold Program.keyLits;simp only [hus,if_pos la]
   have k2:P.keyLits (n+1) s [Value.string ⟨b.toArray⟩]=some [.string b]:=by
    unfold Program.keyLits;simp only [hus,if_pos lb]
   unfold Program.keyLits
   simp [hu,hc,f1,f2,f3,g1,g2,g3,hcs,k1,k2]
  refine ⟨.string (keyBytes [.string a,.string b]),?_⟩
  have e3:dN (kW (a,b))=Value.agg #[Value.string ⟨a.toArray⟩,Value.string ⟨b.toArray⟩]:=rfl
  rw [e3]
  simp only [hk,e1,Bool.and_self,if_true]
  show (P.keyLits (n+1+1) t [Value.string ⟨a.toArray⟩,Value.string ⟨b.toArray⟩]).map _=_
  rw [e2];rfl
theorem B6:Maps.Keyed Tryz.prog 344:=Maps.Keyed.of_law (deep_law (m:=3) (by decide) (by kernel_rfl) (by kernel_rfl) (by kernel_rfl))
def gdV (v:VN):Prop:=v.1.length≤140737488355328∧v.2.length≤140737488355328
theorem zx (v:VN) (h:gdV v):iF Tryz.prog 344 (kW v) :=
 B3 (n:=Tryz.prog.types.size - 1) (by rw [wV];rfl) (by rw [Dj];rfl) (by kernel_rfl) (by kernel_rfl) (by kernel_rfl) (by kernel_rfl) h.1 h.2
def adS (k n:List UInt8) (s:List VN):Bool × List VN:=if s.contains (k,n) then (false,s) else (true,(k,n)::s)
def gdL (s:List VN):Prop:=∀ v∈s,gdV v
theorem ks {k n:List UInt8} {s:List VN} (h:gdL s) (hk:gdV (k,n)):gdL (adS k n s).2:=by
 unfold adS
 split
 ·exact h
 ·intro v hv
  rcases List.mem_cons.1 hv with rfl|hv
  ·exact hk
  ·exact h v hv
def qK:ECt
 |[.mapv id,.str k,.str n],H,K=>∃ sn:List VN,(H.get id=some (mpV sn)∧gdL sn∧gdV (k,n))∧K (.ret (.bool (adS k n sn).1)) (H.set id (mpV (adS k n sn).2))
 |_,_,_=>False
theorem rV:EEe 250 qK:=by
 refine Yef fun _ H K h=>?_
 unfold qK at h
 split at h<;>try exact h.elim
 rename_i id k n
 obtain ⟨sn,⟨hid,hsn,hkn⟩,hK⟩:=h
 refine ⟨_,_,hK,?_⟩
 clear hK
 have hl2:=glq hid
 have hne:(id=H.nx)=False:=eFo
 have hss:=fp hid
 have hmg:=@zK (k,n) sn
 have hsn':=iM zx hsn
 have hk1:=zx _ hkn
 unfold adS
 refine Yfv aC tNq Tryz.func250 [.tmp 6] fun hcl hlt=>?_
 have hc2:(H.set id (mpV ((k,n)::sn))).Closed:=aR hcl
 clear hlt
 cases hb:sn.contains (k,n) with
 |true =>
  rw [hb,if_pos rfl] at hmg
  simp only [if_true]
  rw [hss]
  simp only [go_sem,zix,hid,hne]
  refine ⟨⟨B6,hsn',hk1,rfl⟩,?_⟩
  have hmg':jK (dV kW sn) (.agg [.str k,.str n])=some (.bool true):=hmg
  try simp only [go_sem,hmg']
  exact Z1
 |false =>
  rw [hb,if_neg Bool.false_ne_true] at hmg
  have hmg':jK (dV kW sn) (.agg [.str k,.str n])=none:=hmg
  simp only [Bool.false_eq_true,if_false]
  simp only [go_sem,zix,ziy,hid,hne]
  refine ⟨⟨B6,hsn',hk1,rfl⟩,?_⟩
  try simp only [go_sem,hmg',ziy,hid,hne]
  refine ⟨⟨B6,hsn',hk1,rfl,rfl⟩,?_⟩
  have hrow:((AV.agg [.str k,.str n],AV.bool true)::dV kW sn)=dV kW ((k,n)::sn):=rfl
  try simp only [hrow]
  exact Z8
def kFld:List UInt8:=[102,105,101,108,100]
def kHdr:List UInt8:=[104,101,97,100,101,114]
def kAct:List UInt8:=[97,99,116,105,111,110]
def kTab:List UInt8:=[116,97,98,108,101]
def kRol:List UInt8:=[114,111,108,101]
def Lu:PCt
 |[x],_,K=>∃ t:SParam,x=aK t∧K (.str t.name)
 |_,_,_=>False
theorem ok_sn31:EPp 254 Lu:=by
 refine Ype fun _ H K h=>?_
 unfold Lu at h
 split at h<;>try exact h.elim
 rename_i x
 obtain ⟨t,rfl,hK⟩:=h
 refine ⟨_,hK,?_⟩
 clear hK
 unfold aK
 refine Yfu aC tNq Tryz.func254 [.tmp 2] fun hcl=>?_
 exact Y32
def Gp:PCt
 |[x],_,K=>∃ t:SKey,x=aY t∧K (.str t.name)
 |_,_,_=>False
theorem ok_sn41:EPp 257 Gp:=by
 refine Ype fun _ H K h=>?_
 unfold Gp at h
 split at h<;>try exact h.elim
 rename_i x
 obtain ⟨t,rfl,hK⟩:=h
 refine ⟨_,hK,?_⟩
 clear hK
 unfold aY
 refine Yfu aC tNq Tryz.func257 [.tmp 2] fun hcl=>?_
 exact Y32
def adA (t:SAction) (s:List VN):Bool × List VN:=((adS kAct t.name s).1&&dsF [] (t.params.map (·.name)),(adS kAct t.name s).2)
def adT (t:STable) (s:List VN):Bool × List VN:=((adS kTab t.name s).1&&dsF [] (t.keys.map (·.name)),(adS kTab t.name s).2)
def PU:ECt
 |[x,.ptr c 0],H,K=>∃ (t:SField) (id:Nat) (sn:List VN),(x=aH t∧H.get c=some (.cells [.mapv id])∧H.get id=some (mpV sn)∧gdL sn∧t.name.length≤140737488355328)∧K (.ret (.bool (adS kFld t.name sn).1)) (H.set id (mpV (adS kFld t.name sn).2))
 |_,_,_=>False
theorem ok_sn1:EEe 249 PU:=by
 refine Yef fun _ H K h=>?_
 unfold PU at h
 split at h<;>try exact h.elim
 rename_i x c
 obtain ⟨t,id,sn,⟨rfl,hg,hid,hsn,hnl⟩,hK⟩:=h
 refine ⟨_,_,hK,?_⟩
 clear hK
 have hl:=glq hg
 have hl2:=glq hid
 have hne:(c=H.nx)=False:=eFo
 have hne2:(id=H.nx)=False:=eFo
 have hcs:=aM hg
 have hkn:gdV (kFld,t.name):=⟨show kFld.length≤140737488355328 from by decide,hnl⟩
 skip
 have hc2:H.Closed→(H.set id (mpV (adS kFld t.name sn).2)).Closed:=fun h=>aR h
 unfold aH
 refine Yfv aC (tCq rV tNq) Tryz.func249 [.tmp 3] fun hcl hlt=>?_
 have hcc:=hc2 hcl
 clear hlt hc2
 simp only [go_sem,hcs,hne,hg,qK]
 refine ⟨sn,⟨by simp only [hne2,if_false];exact hid,hsn,hkn⟩,?_⟩
 rw [show ([102,105,101,108,100]:List UInt8)=kFld from rfl]
 generalize adS kFld t.name sn=R at *
 exact Y118
def PA:ECt
 |[x,.ptr c 0],H,K=>∃ (t:SHeader) (id:Nat) (sn:List VN),(x=az t∧H.get c=some (.cells [.mapv id])∧H.get id=some (mpV sn)∧gdL sn∧t.name.length≤140737488355328)∧K (.ret (.bool (adS kHdr t.name sn).1)) (H.set id (mpV (adS kHdr t.name sn).2))
 |_,_,_=>False
theorem ok_sn2:EEe 251 PA:=by
 refine Yef fun _ H K h=>?_
 unfold PA at h
 split at h<;>try exact h.elim
 rename_i x c
 obtain ⟨t,id,sn,⟨rfl,hg,hid,hsn,hnl⟩,hK⟩:=h
 refine ⟨_,_,hK,?_⟩
 clear hK
 have hl:=glq hg
 have hl2:=glq hid
 have hne:(c=H.nx)=False:=eFo
 have hne2:(id=H.nx)=False:=eFo
 have hcs:=aM hg
 have hkn:gdV (kHdr,t.name):=⟨show kHdr.length≤140737488355328 from by decide,hnl⟩
 skip
 have hc2:H.Closed→(H.set id (mpV (adS kHdr t.name sn).2)).Closed:=fun h=>aR h
 unfold az
 refine Yfv aC (tCq rV tNq) Tryz.func251 [.tmp 3] fun hcl hlt=>?_
 have hcc:=hc2 hcl
 clear hlt hc2
 simp only [go_sem,hcs,hne,hg,qK]
 refine ⟨sn,⟨by simp only [hne2,if_false];exact hid,hsn,hkn⟩,?_⟩
 rw [show ([104,101,97,100,101,114]:List UInt8)=kHdr from rfl]
 generalize adS kHdr t.name sn=R at *
 exact Y118
def PF:ECt
 |[x,.ptr c 0],H,K=>∃ (t:SAction) (id:Nat) (sn:List VN),(x=ap t∧H.get c=some (.cells [.mapv id])∧H.get id=some (mpV sn)∧gdL sn∧t.name.length≤140737488355328∧t.params.length≤1000000∧∀ p∈t.params,p.name.length≤140737488355328)∧K (.ret (.bool (adA t sn).1)) (H.set id (mpV (adA t sn).2))
 |_,_,_=>False
theorem ok_sn3:EEe 252 PF:=by
 refine Yef fun _ H K h=>?_
 unfold PF at h
 split at h<;>try exact h.elim
 rename_i x c
 obtain ⟨t,id,sn,⟨rfl,hg,hid,hsn,hnl,hpl,hpn⟩,hK⟩:=h
 refine ⟨_,_,hK,?_⟩
 clear hK
 have hl:=glq hg
 have hl2:=glq hid
 have hne:(c=H.nx)=False:=eFo
 have hne2:(id=H.nx)=False:=eFo
 have hcs:=aM hg
 have hkn:gdV (kAct,t.name):=⟨show kAct.length≤140737488355328 from by decide,hnl⟩
 unfold adA
 dsimp only
 have hc2:H.Closed→(H.set id (mpV (adS kAct t.name sn).2)).Closed:=fun h=>aR h
 unfold ap
 refine Yfv aC (tCq rV (tCq HQ tNq)) Tryz.func252 [.tmp 3] fun hcl hlt=>?_
 have hcc:=hc2 hcl
 clear hlt hc2
 simp only [go_sem,hcs,hne,hg,qK]
 refine ⟨sn,⟨by simp only [hne2,if_false];exact hid,hsn,hkn⟩,?_⟩
 rw [show ([97,99,116,105,111,110]:List UInt8)=kAct from rfl]
 generalize adS kAct t.name sn=R at *
 obtain ⟨r,s'⟩:=R
 cases r with
 |false =>
  exact Y118
 |true =>
  try simp only [bo,go_sem,hne2,ym]
  refine ⟨t.params,(·.name),⟨rfl,hpl,fun x hx=>⟨hpn x hx,fun H' hle hcl'=>?_⟩⟩,?_⟩
  ·obtain ⟨v,hv,hc⟩:=ok_sn31.1 rfl [aK x] H' (fun v=>v=.str x.name) ⟨x,rfl,rfl⟩
   subst hv
   exact hc
  ·try simp only [bo,aF,go_sem,hne2,Bool.true_and]
   exact Z12
def Pz:ECt
 |[x,.ptr c 0],H,K=>∃ (t:STable) (id:Nat) (sn:List VN),(x=ax t∧H.get c=some (.cells [.mapv id])∧H.get id=some (mpV sn)∧gdL sn∧t.name.length≤140737488355328∧t.keys.length≤1000000∧∀ p∈t.keys,p.name.length≤140737488355328)∧K (.ret (.bool (adT t sn).1)) (H.set id (mpV (adT t sn).2))
 |_,_,_=>False
theorem ok_sn4:EEe 255 Pz:=by
 refine Yef fun _ H K h=>?_
 unfold Pz at h
 split at h<;>try exact h.elim
 rename_i x c
 obtain ⟨t,id,sn,⟨rfl,hg,hid,hsn,hnl,hpl,hpn⟩,hK⟩:=h
 refine ⟨_,_,hK,?_⟩
 clear hK
 have hl:=glq hg
 have hl2:=glq hid
 have hne:(c=H.nx)=False:=eFo
 have hne2:(id=H.nx)=False:=eFo
 have hcs:=aM hg
 have hkn:gdV (kTab,t.name):=⟨show kTab.length≤140737488355328 from by decide,hnl⟩
 unfold adT
 dsimp only
 have hc2:H.Closed→(H.set id (mpV (adS kTab t.name sn).2)).Closed:=fun h=>aR h
 unfold ax
 refine Yfv aC (tCq rV (tCq Gu tNq)) Tryz.func255 [.tmp 3] fun hcl hlt=>?_
 have hcc:=hc2 hcl
 clear hlt hc2
 simp only [go_sem,hcs,hne,hg,qK]
 refine ⟨sn,⟨by simp only [hne2,if_false];exact hid,hsn,hkn⟩,?_⟩
 rw [show ([116,97,98,108,101]:List UInt8)=kTab from rfl]
 generalize adS kTab t.name sn=R at *
 obtain ⟨r,s'⟩:=R
 cases r with
 |false =>
  exact Y118
 |true =>
  try simp only [bo,go_sem,hne2,yG]
  refine ⟨t.keys,(·.name),⟨rfl,hpl,fun x hx=>⟨hpn x hx,fun H' hle hcl'=>?_⟩⟩,?_⟩
  ·obtain ⟨v,hv,hc⟩:=ok_sn41.1 rfl [aY x] H' (fun v=>v=.str x.name) ⟨x,rfl,rfl⟩
   subst hv
   exact hc
  ·try simp only [bo,aF,go_sem,hne2,Bool.true_and]
   exact Z12
def PE:ECt
 |[x,.ptr c 0],H,K=>∃ (t:SRole) (id:Nat) (sn:List VN),(x=aN t∧H.get c=some (.cells [.mapv id])∧H.get id=some (mpV sn)∧gdL sn∧t.name.length≤140737488355328)∧K (.ret (.bool (adS kRol t.name sn).1)) (H.set id (mpV (adS kRol t.name sn).2))
 |_,_,_=>False
theorem ok_sn5:EEe 258 PE:=by
 refine Yef fun _ H K h=>?_
 unfold PE at h
 split at h<;>try exact h.elim
 rename_i x c
 obtain ⟨t,id,sn,⟨rfl,hg,hid,hsn,hnl⟩,hK⟩:=h
 refine ⟨_,_,hK,?_⟩
 clear hK
 have hl:=glq hg
 have hl2:=glq hid
 have hne:(c=H.nx)=False:=eFo
 have hne2:(id=H.nx)=False:=eFo
 have hcs:=aM hg
 have hkn:gdV (kRol,t.name):=⟨show kRol.length≤140737488355328 from by decide,hnl⟩
 skip
 have hc2:H.Closed→(H.set id (mpV (adS kRol t.name sn).2)).Closed:=fun h=>aR h
 unfold aN
 refine Yfv aC (tCq rV tNq) Tryz.func258 [.tmp 3] fun hcl hlt=>?_
 have hcc:=hc2 hcl
 clear hlt hc2
 simp only [go_sem,hcs,hne,hg,qK]
 refine ⟨sn,⟨by simp only [hne2,if_false];exact hid,hsn,hkn⟩,?_⟩
 rw [show ([114,111,108,101]:List UInt8)=kRol from rfl]
 generalize adS kRol t.name sn=R at *
 exact Y118
theorem O0 {H:AHeap} {c id:Nat} {t:SField} (hg:H.get c=some (.cells [.mapv id])) (hl:id<H.nx) (hne:c≠id) (hc:t.name.length≤140737488355328):Stp Tryz.prog aH 249 [] [.ptr c 0] H id gdL (fun t=>adS kFld t.name) t:=by
 intro s hs
 refine ⟨ks hs ⟨show kFld.length≤140737488355328 from by decide,hc⟩,fun H' hle hcl'=>?_⟩
 have hgc:H'.get c=some (.cells [.mapv id]):=hle.get _ _ (by rw [aI,if_neg hne];exact hg)
 have hgi:H'.get id=some (mpV s):=hle.get _ _ (by rw [aI,if_pos rfl,if_pos hl])
 obtain ⟨v,H1,⟨hv,hH⟩,h⟩:=ok_sn1.2.1 rfl [aH t,.ptr c 0] H' (fun v H1=>v=.ret (.bool ((fun t=>adS kFld t.name) t s).1)∧H1=H'.set id (mpV ((fun t=>adS kFld t.name) t s).2)) ⟨t,id,s,⟨rfl,hgc,hgi,hs,hc⟩,rfl,rfl⟩
 subst hv hH
 exact h
theorem NA {H:AHeap} {c id:Nat} {t:SHeader} (hg:H.get c=some (.cells [.mapv id])) (hl:id<H.nx) (hne:c≠id) (hc:t.name.length≤140737488355328):Stp Tryz.prog az 251 [] [.ptr c 0] H id gdL (fun t=>adS kHdr t.name) t:=by
 intro s hs
 refine ⟨ks hs ⟨show kHdr.length≤140737488355328 from by decide,hc⟩,fun H' hle hcl'=>?_⟩
 have hgc:H'.get c=some (.cells [.mapv id]):=hle.get _ _ (by rw [aI,if_neg hne];exact hg)
 have hgi:H'.get id=some (mpV s):=hle.get _ _ (by rw [aI,if_pos rfl,if_pos hl])
 obtain ⟨v,H1,⟨hv,hH⟩,h⟩:=ok_sn2.2.1 rfl [az t,.ptr c 0] H' (fun v H1=>v=.ret (.bool ((fun t=>adS kHdr t.name) t s).1)∧H1=H'.set id (mpV ((fun t=>adS kHdr t.name) t s).2)) ⟨t,id,s,⟨rfl,hgc,hgi,hs,hc⟩,rfl,rfl⟩
 subst hv hH
 exact h
theorem NQ {H:AHeap} {c id:Nat} {t:SAction} (hg:H.get c=some (.cells [.mapv id])) (hl:id<H.nx) (hne:c≠id) (hc:t.name.length≤140737488355328∧t.params.length≤1000000∧∀ p∈t.params,p.name.length≤140737488355328):Stp Tryz.prog ap 252 [] [.ptr c 0] H id gdL adA t:=by
 intro s hs
 refine ⟨(show gdL (adA t s).2 from ks hs ⟨show kAct.length≤140737488355328 from by decide,hc.1⟩),fun H' hle hcl'=>?_⟩
 have hgc:H'.get c=some (.cells [.mapv id]):=hle.get _ _ (by rw [aI,if_neg hne];exact hg)
 have hgi:H'.get id=some (mpV s):=hle.get _ _ (by rw [aI,if_pos rfl,if_pos hl])
 obtain ⟨v,H1,⟨hv,hH⟩,h⟩:=ok_sn3.2.1 rfl [ap t,.ptr c 0] H' (fun v H1=>v=.ret (.bool (adA t s).1)∧H1=H'.set id (mpV (adA t s).2)) ⟨t,id,s,⟨rfl,hgc,hgi,hs,hc.1,hc.2.1,hc.2.2⟩,rfl,rfl⟩
 subst hv hH
 exact h
theorem Nz {H:AHeap} {c id:Nat} {t:STable} (hg:H.get c=some (.cells [.mapv id])) (hl:id<H.nx) (hne:c≠id) (hc:t.name.length≤140737488355328∧t.keys.length≤1000000∧∀ p∈t.keys,p.name.length≤140737488355328):Stp Tryz.prog ax 255 [] [.ptr c 0] H id gdL adT t:=by
 intro s hs
 refine ⟨(show gdL (adT t s).2 from ks hs ⟨show kTab.length≤140737488355328 from by decide,hc.1⟩),fun H' hle hcl'=>?_⟩
 have hgc:H'.get c=some (.cells [.mapv id]):=hle.get _ _ (by rw [aI,if_neg hne];exact hg)
 have hgi:H'.get id=some (mpV s):=hle.get _ _ (by rw [aI,if_pos rfl,if_pos hl])
 obtain ⟨v,H1,⟨hv,hH⟩,h⟩:=ok_sn4.2.1 rfl [ax t,.ptr c 0] H' (fun v H1=>v=.ret (.bool (adT t s).1)∧H1=H'.set id (mpV (adT t s).2)) ⟨t,id,s,⟨rfl,hgc,hgi,hs,hc.1,hc.2.1,hc.2.2⟩,rfl,rfl⟩
 subst hv hH
 exact h
theorem MN {H:AHeap} {c id:Nat} {t:SRole} (hg:H.get c=some (.cells [.mapv id])) (hl:id<H.nx) (hne:c≠id) (hc:t.name.length≤140737488355328):Stp Tryz.prog aN 258 [] [.ptr c 0] H id gdL (fun t=>adS kRol t.name) t:=by
 intro s hs
 refine ⟨ks hs ⟨show kRol.length≤140737488355328 from by decide,hc⟩,fun H' hle hcl'=>?_⟩
 have hgc:H'.get c=some (.cells [.mapv id]):=hle.get _ _ (by rw [aI,if_neg hne];exact hg)
 have hgi:H'.get id=some (mpV s):=hle.get _ _ (by rw [aI,if_pos rfl,if_pos hl])
 obtain ⟨v,H1,⟨hv,hH⟩,h⟩:=ok_sn5.2.1 rfl [aN t,.ptr c 0] H' (fun v H1=>v=.ret (.bool ((fun t=>adS kRol t.name) t s).1)∧H1=H'.set id (mpV ((fun t=>adS kRol t.name) t s).2)) ⟨t,id,s,⟨rfl,hgc,hgi,hs,hc⟩,rfl,rfl⟩
 subst hv hH
 exact h
def snB (S:Sch):Bool :=
 let a:=evS (fun (t:SField)=>adS kFld t.name) S.fields []
 let b:=evS (fun (t:SHeader)=>adS kHdr t.name) S.headers a.2
 let c:=evS adA S.actions b.2
 let d:=evS adT S.tables c.2
 let e:=evS (fun (t:SRole)=>adS kRol t.name) S.roles d.2
 a.1&&(b.1&&(c.1&&(d.1&&e.1)))
theorem pu {α:Type} {st:α→List VN→Bool × List VN} {g:List VN→Prop}:∀ {l:List α} {s:List VN},g s→(∀ x∈l,∀ s,g s→g (st x s).2)→g (evS st l s).2
 |[],s,h,_=>h
 |x::l,s,h,hx=>by
  unfold evS
  have h1:=hx x List.mem_cons_self s h
  split
  ·exact pu h1 fun y hy=>hx y (List.mem_cons_of_mem _ hy)
  ·exact h1
def mG:PCt
 |[.agg l],_,K=>∃ S:Sch,(l=aS S∧SB S)∧K (.bool (snB S))
 |_,_,_=>False
theorem Og:EPp 114 mG:=by
 refine Ype fun _ H K h=>?_
 unfold mG at h
 split at h<;>try exact h.elim
 rename_i l
 obtain ⟨S,⟨rfl,hS⟩,hK⟩:=h
 refine ⟨_,hK,?_⟩
 clear hK
 generalize hR:snB S=R
 unfold snB at hR
 have cF:∀ t∈S.fields,t.name.length≤140737488355328:=hS.fn
 have cH:∀ t∈S.headers,t.name.length≤140737488355328:=fun t ht=>(hS.hn t ht).1
 have cA:∀ t∈S.actions,t.name.length≤140737488355328∧t.params.length≤1000000∧∀ p∈t.params,p.name.length≤140737488355328:=fun t ht=>⟨(hS.an t ht).1,(hS.an t ht).2.1,(hS.an t ht).2.2.2⟩
 have cT:∀ t∈S.tables,t.name.length≤140737488355328∧t.keys.length≤1000000∧∀ p∈t.keys,p.name.length≤140737488355328:=fun t ht=>⟨(hS.tn t ht).1,(hS.tn t ht).2.1,(hS.tn t ht).2.2.2.2⟩
 have cR:∀ t∈S.roles,t.name.length≤140737488355328:=fun t ht=>(hS.rn t ht).1
 obtain ⟨a,ha⟩:∃ a,evS (fun (t:SField)=>adS kFld t.name) S.fields []=a:=⟨_,rfl⟩
 obtain ⟨b,hb⟩:∃ b,evS (fun (t:SHeader)=>adS kHdr t.name) S.headers a.2=b:=⟨_,rfl⟩
 obtain ⟨c,hc⟩:∃ c,evS adA S.actions b.2=c:=⟨_,rfl⟩
 obtain ⟨d,hd⟩:∃ d,evS adT S.tables c.2=d:=⟨_,rfl⟩
 obtain ⟨e,he⟩:∃ e,evS (fun (t:SRole)=>adS kRol t.name) S.roles d.2=e:=⟨_,rfl⟩
 have g0:gdL []:=fun v hv=>by cases hv
 have ga:gdL a.2:=ha ▸ pu g0 fun x hx s hs=>ks hs ⟨show kFld.length≤140737488355328 from by decide,cF x hx⟩
 have gb:gdL b.2:=hb ▸ pu ga fun x hx s hs=>ks hs ⟨show kHdr.length≤140737488355328 from by decide,cH x hx⟩
 have gc:gdL c.2:=hc ▸ pu gb fun x hx s hs=>(show gdL (adA x s).2 from ks hs ⟨show kAct.length≤140737488355328 from by decide,(cA x hx).1⟩)
 have gd:gdL d.2:=hd ▸ pu gc fun x hx s hs=>(show gdL (adT x s).2 from ks hs ⟨show kTab.length≤140737488355328 from by decide,(cT x hx).1⟩)
 simp only [ha,hb,hc,hd,he] at hR
 refine Yfu aC (tCq HE (tCq LE (tCq Jm (tCq La (tCq Ic tNq))))) Tryz.func114 [.tmp 2] fun hcl=>?_
 simp only [go_sem,aS,ziw,DC]
 refine ⟨S.fields,H.nx+1,[],(fun (t:SField)=>adS kFld t.name),gdL,⟨rfl,hS.sl.fl,(by (try simp only [go_sem]);first|done|rfl),g0,fun x hx=>O0 (by (try simp only [go_sem]);first|done|rfl) (by (try simp only [go_sem]);first|done|omega) (by omega) (cF x hx)⟩,?_⟩
 simp only [ha]
 cases qa:a.1 with
 |false =>
  simp only [qa,Bool.false_and,Bool.and_false,Bool.true_and] at hR
  subst hR
  try simp only [bo,go_sem,aS,qa]
  exact Z1
 |true =>
  simp only [bo,go_sem,aS,CZ,ha,qa]
  refine ⟨S.headers,H.nx+1,a.2,(fun (t:SHeader)=>adS kHdr t.name),gdL,⟨rfl,hS.sl.hl,(by (try simp only [go_sem]);first|done|rfl),ga,fun x hx=>NA (by (try simp only [go_sem]);first|done|rfl) (by (try simp only [go_sem]);first|done|omega) (by omega) (cH x hx)⟩,?_⟩
  simp only [hb]
  cases qb:b.1 with
  |false =>
   simp only [qb,Bool.false_and,Bool.and_false,qa,Bool.true_and] at hR
   subst hR
   try simp only [bo,go_sem,aS,ha,qa,qb]
   exact Z1
  |true =>
   simp only [bo,go_sem,aS,CW,ha,qa,hb,qb]
   refine ⟨S.actions,H.nx+1,b.2,adA,gdL,⟨rfl,hS.sl.al,(by (try simp only [go_sem]);first|done|rfl),gb,fun x hx=>NQ (by (try simp only [go_sem]);first|done|rfl) (by (try simp only [go_sem]);first|done|omega) (by omega) (cA x hx)⟩,?_⟩
   simp only [hc]
   cases qc:c.1 with
   |false =>
    simp only [qc,Bool.false_and,Bool.and_false,qa,qb,Bool.true_and] at hR
    subst hR
    try simp only [bo,go_sem,aS,ha,qa,hb,qb,qc]
    exact Z1
   |true =>
    simp only [bo,go_sem,aS,Eb,ha,qa,hb,qb,hc,qc]
    refine ⟨S.tables,H.nx+1,c.2,adT,gdL,⟨rfl,hS.sl.tl,(by (try simp only [go_sem]);first|done|rfl),gc,fun x hx=>Nz (by (try simp only [go_sem]);first|done|rfl) (by (try simp only [go_sem]);first|done|omega) (by omega) (cT x hx)⟩,?_⟩
    simp only [hd]
    cases qd:d.1 with
    |false =>
     simp only [qd,Bool.false_and,Bool.and_false,qa,qb,qc,Bool.true_and] at hR
     subst hR
     try simp only [bo,go_sem,aS,ha,qa,hb,qb,hc,qc,qd]
     exact Z1
    |true =>
     simp only [bo,go_sem,aS,Dk,ha,qa,hb,qb,hc,qc,hd,qd]
     refine ⟨S.roles,H.nx+1,d.2,(fun (t:SRole)=>adS kRol t.name),gdL,⟨rfl,hS.sl.rl,(by (try simp only [go_sem]);first|done|rfl),gd,fun x hx=>MN (by (try simp only [go_sem]);first|done|rfl) (by (try simp only [go_sem]);first|done|omega) (by omega) (cR x hx)⟩,?_⟩
     simp only [he]
     cases qe:e.1 with
     |false =>
      simp only [qe,Bool.false_and,Bool.and_false,qa,qb,qc,qd,Bool.true_and] at hR
      subst hR
      try simp only [bo,go_sem,aS,ha,qa,hb,qb,hc,qc,hd,qd,qe]
      exact Z1
     |true =>
      simp only [qa,qb,qc,qd,qe,Bool.true_and] at hR
      subst hR
      try simp only [bo,go_sem,aS,ha,qa,hb,qb,hc,qc,hd,qd,he,qe]
      exact Z1
structure SI (S:Sch):Prop where
 fi:∀ x∈S.fields,i64 x.id
 hi:∀ x∈S.headers,i64 x.id
 si:∀ x∈S.states,i64 x.id
 ai:∀ x∈S.actions,i64 x.id
 ti:∀ x∈S.tables,i64 x.id∧∀ a∈x.actions,i64 a
 ri:∀ x∈S.roles,i64 x.id∧(∀ a∈x.actions,i64 a)∧∀ g∈x.grants,i64 g.table
 ui:∀ n∈S.headers.flatMap (·.fields),i64 n
 ul:(S.headers.flatMap (·.fields)).length≤1000000
def Ec:PCt
 |[.int .i64 n],_,K=>K (.int .i64 n)
 |_,_,_=>False
theorem ok_eSame:EPp 116 Ec:=by
 refine Ype fun _ H K h=>?_
 unfold Ec at h
 split at h<;>try exact h.elim
 refine ⟨_,h,?_⟩
 clear h
 refine Yfu aC tNq Tryz.func116 [.tmp 2] fun hcl=>?_
 exact Y32
def PC:PCt
 |[x],_,K=>∃ t:SField,x=aH t∧K (.int .i64 t.id)
 |_,_,_=>False
theorem QT:EPp 103 PC:=by
 refine Ype fun _ H K h=>?_
 unfold PC at h
 split at h<;>try exact h.elim
 rename_i x
 obtain ⟨t,rfl,hK⟩:=h
 refine ⟨_,hK,?_⟩
 clear hK
 unfold aH
 refine Yfu aC tNq Tryz.func103 [.tmp 2] fun hcl=>?_
 exact Y32
def PS:PCt
 |[x],_,K=>∃ t:SHeader,x=az t∧K (.int .i64 t.id)
 |_,_,_=>False
theorem Rq:EPp 105 PS:=by
 refine Ype fun _ H K h=>?_
 unfold PS at h
 split at h<;>try exact h.elim
 rename_i x
 obtain ⟨t,rfl,hK⟩:=h
 refine ⟨_,hK,?_⟩
 clear hK
 unfold az
 refine Yfu aC tNq Tryz.func105 [.tmp 2] fun hcl=>?_
 exact Y32
def PK:PCt
 |[x],_,K=>∃ t:SState,x=aB t∧K (.int .i64 t.id)
 |_,_,_=>False
theorem Ra:EPp 107 PK:=by
 refine Ype fun _ H K h=>?_
 unfold PK at h
 split at h<;>try exact h.elim
 rename_i x
 obtain ⟨t,rfl,hK⟩:=h
 refine ⟨_,hK,?_⟩
 clear hK
 unfold aB
 refine Yfu aC tNq Tryz.func107 [.tmp 2] fun hcl=>?_
 exact Y32
def P0:PCt
 |[x],_,K=>∃ t:SAction,x=ap t∧K (.int .i64 t.id)
 |_,_,_=>False
theorem Qd:EPp 109 P0:=by
 refine Ype fun _ H K h=>?_
 unfold P0 at h
 split at h<;>try exact h.elim
 rename_i x
 obtain ⟨t,rfl,hK⟩:=h
 refine ⟨_,hK,?_⟩
 clear hK
 unfold ap
 refine Yfu aC tNq Tryz.func109 [.tmp 2] fun hcl=>?_
 exact Y32
def PV:PCt
 |[x],_,K=>∃ t:STable,x=ax t∧K (.int .i64 t.id)
 |_,_,_=>False
theorem Qc:EPp 111 PV:=by
 refine Ype fun _ H K h=>?_
 unfold PV at h
 split at h<;>try exact h.elim
 rename_i x
 obtain ⟨t,rfl,hK⟩:=h
 refine ⟨_,hK,?_⟩
 clear hK
 unfold ax
 refine Yfu aC tNq Tryz.func111 [.tmp 2] fun hcl=>?_
 exact Y32
def PP:PCt
 |[x],_,K=>∃ t:SRole,x=aN t∧K (.int .i64 t.id)
 |_,_,_=>False
theorem QQ:EPp 113 PP:=by
 refine Ype fun _ H K h=>?_
 unfold PP at h
 split at h<;>try exact h.elim
 rename_i x
 obtain ⟨t,rfl,hK⟩:=h
 refine ⟨_,hK,?_⟩
 clear hK
 unfold aN
 refine Yfu aC tNq Tryz.func113 [.tmp 2] fun hcl=>?_
 exact Y32
def KG:PCt
 |[x],_,K=>∃ t:SGrant,x=aJ t∧K (.int .i64 t.table)
 |_,_,_=>False
theorem L8:EPp 120 KG:=by
 refine Ype fun _ H K h=>?_
 unfold KG at h
 split at h<;>try exact h.elim
 rename_i x
 obtain ⟨t,rfl,hK⟩:=h
 refine ⟨_,hK,?_⟩
 clear hK
 unfold aJ
 refine Yfu aC tNq Tryz.func120 [.tmp 2] fun hcl=>?_
 exact Y32
def Py:PCt
 |[x],H,K=>∃ t:STable,(x=ax t∧t.actions.length≤1000000∧∀ a∈t.actions,i64 a)∧K (.bool (dsF [] (t.actions.map fun n=>n)))
 |_,_,_=>False
theorem Rp:EPp 117 Py:=by
 refine Ype fun _ H K h=>?_
 unfold Py at h
 split at h<;>try exact h.elim
 rename_i x
 obtain ⟨t,⟨rfl,hc⟩,hK⟩:=h
 refine ⟨_,hK,?_⟩
 clear hK
 generalize hR:(dsF [] (t.actions.map fun n=>n))=R
 unfold ax
 refine Yfu aC (tCq uX tNq) Tryz.func117 [.tmp 2] fun hcl=>?_
 simp only [go_sem,ic]
 refine ⟨t.actions,(fun n=>n),⟨rfl,hc.1,fun x hx=>⟨hc.2 x hx,fun H' hle' hcl'=>by
  obtain ⟨v,hv,hc'⟩:=ok_eSame.1 rfl [.int .i64 x] H' (fun v=>v=.int .i64 x) rfl
  subst hv
  exact hc'⟩⟩,?_⟩
 cases c0:dsF [] (t.actions.map fun n=>n) with
 |false =>
  rw [c0] at hR
  subst hR
  try simp only [go_sem,ic,c0]
  exact Y8
 |true =>
 rw [c0] at hR
 subst hR
 try simp only [go_sem,ic,c0]
 exact Y8
def rlB (t:SRole):Bool:=dsF [] (t.actions.map fun n=>n)&&dsF [] (t.grants.map (·.table))
def Ps:PCt
 |[x],H,K=>∃ t:SRole,(x=aN t∧(t.actions.length≤1000000∧t.grants.length≤1000000∧(∀ a∈t.actions,i64 a)∧∀ g∈t.grants,i64 g.table))∧K (.bool (rlB t))
 |_,_,_=>False
theorem Q3:EPp 118 Ps:=by
 refine Ype fun _ H K h=>?_
 unfold Ps at h
 split at h<;>try exact h.elim
 rename_i x
 obtain ⟨t,⟨rfl,hc⟩,hK⟩:=h
 refine ⟨_,hK,?_⟩
 clear hK
 generalize hR:(rlB t)=R
 unfold aN
 refine Yfu aC (tCq uX (tCq Lp tNq)) Tryz.func118 [.tmp 2] fun hcl=>?_
 unfold rlB at hR
 simp only [go_sem,ic]
 refine ⟨t.actions,(fun n=>n),⟨rfl,hc.1,fun x hx=>⟨hc.2.2.1 x hx,fun H' hle' hcl'=>by
  obtain ⟨v,hv,hc'⟩:=ok_eSame.1 rfl [.int .i64 x] H' (fun v=>v=.int .i64 x) rfl
  subst hv
  exact hc'⟩⟩,?_⟩
 cases c0:dsF [] (t.actions.map fun n=>n) with
 |false =>
  rw [c0,Bool.false_and] at hR
  subst hR
  try simp only [go_sem,ic,c0]
  exact Y8
 |true =>
 rw [c0,Bool.true_and] at hR
 try simp only [go_sem,ic,rk,c0]
 refine ⟨t.grants,(·.table),⟨rfl,hc.2.1,fun x hx=>⟨hc.2.2.2 x hx,fun H' hle' hcl'=>clB L8 ⟨x,rfl,rfl⟩⟩⟩,?_⟩
 cases c1:dsF [] (t.grants.map (·.table)) with
 |false =>
  rw [c1] at hR
  subst hR
  try simp only [go_sem,ic,rk,c0,c1]
  exact Y8
 |true =>
 rw [c1] at hR
 subst hR
 try simp only [go_sem,ic,rk,c0,c1]
 exact Y8
def pb (S:Sch):Bool:=dsF [] (S.fields.map (·.id))&&(dsF [] (S.headers.map (·.id))&&(dsF [] (S.states.map (·.id))&&(dsF [] (S.actions.map (·.id))&&(dsF [] (S.tables.map (·.id))&&(dsF [] (S.roles.map (·.id))&&(snB S&&(dsF [] ((S.headers.flatMap (·.fields)).map fun n=>n)&&(S.tables.all (fun t=>dsF [] (t.actions.map fun n=>n))&&(S.roles.all rlB)))))))))
def m7:PCt
 |[.agg l],_,K=>∃ S:Sch,(l=aS S∧SB S∧SI S)∧K (.bool (pb S))
 |_,_,_=>False
theorem JX:EPp 33 m7:=by
 refine Ype fun _ H K h=>?_
 unfold m7 at h
 split at h<;>try exact h.elim
 rename_i l
 obtain ⟨S,⟨rfl,hS,hI⟩,hK⟩:=h
 refine ⟨_,hK,?_⟩
 clear hK
 generalize hR:pb S=R
 unfold pb at hR
 have hul:=hI.ul
 have hui:=hI.ui
 generalize hU:S.headers.flatMap (·.fields)=U at *
 have hhl:=hS.sl.hl
 have hrun:∀ Hc m,(H.push (.cells (aS S))).Le Hc→Hc.Closed→AV.lt Hc.nx (.slice m 1 (inL U))→True:=fun _ _ _ _ _=>trivial
 refine Yfv aC (tCq KY (tCq II (tCq KU (tCq Lt (tCq Lw (tCq HO (tCq Og (tCq uX (tCq nS (tCq pt tNq)))))))))) Tryz.func33 [.tmp 2] fun hcl hlt=>?_
 have hx:=AV.lt_mono (Nat.le_succ H.nx) _ (hlt _ List.mem_cons_self)
 have hm:∀ n',H.nx≤n'→AV.lt n' (.slice .any 3 (S.headers.map az)):=fun n' hn=>AV.lt_mono hn _ (by have h1:=hlt _ List.mem_cons_self;simp only [znr,aS,znu] at h1;exact h1.2.1)
 clear hlt hrun
 simp only [znr] at hx
 have hcp:=ah hcl hx
 have hg0:(H.push (.cells (aS S))).get H.nx=some (.cells (aS S)):=AHeap.get_push_new _ _
 obtain ⟨Hb,hHb⟩:∃ Hb,H.push (.cells (aS S))=Hb:=⟨_,rfl⟩
 have hnb:Hb.nx=H.nx+1:=by rw [← hHb];rfl
 have hHle:H.Le Hb:=by rw [← hHb];exact (lRq _).push _
 rw [hHb] at hcp hg0
 unfold aS at hHb hg0 ⊢
 have hne0:(H.nx=Hb.nx)=False:=eFo
 have hlo:∀ n' (L':List Int),H.nx+1<n'→AV.lt n' (.slice (.own (H.nx+1)) 1 (inL L')):=fun n' L' h=>by
  exact Y80
 have hcs0:=aM hg0
 simp only [go_sem,hHb,ybb,hne0,hcs0]
 try simp only [go_sem,ybb]
 refine aD (A:=Nat × List Int × AHeap) (fun a=>[(1,.ptr H.nx 0),(3,.slice (.own Hb.nx) 1 (inL a.2.1)),(7,.slice .any 3 (S.headers.map az)),(8,.int .i64 (S.headers.length:Int)),(9,.int .i64 (a.1:Int))]) (fun a=>a.2.2)
  (fun a=>a.1≤S.headers.length∧a.2.1++(S.headers.drop a.1).flatMap (·.fields)=U∧Hb.Le a.2.2∧a.2.2.Closed∧a.2.2.get Hb.nx=some (.buf 1 a.2.1.length)) (fun a=>S.headers.length - a.1) (0,[],Hb.push (.buf 1 0)) ⟨Nat.zero_le _,hU,(lRq _).push _,bg hcp,AHeap.get_push_new _ _⟩ ?_ fun a ha=>?_
 ·have hcb:=@bg Hb 1 0 hcp
  simp only [inL,yaf]
  (simp only [bkq,enterW,bn,ltF,ne_eq,Nat.reduceEqDiff,reduceCtorEq,hm,hnb,hcb];try simp (disch:=first|exact Zd|omega) [↓zmo,beq,ybc,ybd,ybe,ag,wk,wk2,wk1,wkM,wkL,au,ybf,byq,biq,ep,hcl,hm,hnb,hcb];try (repeat' (first|assumption|omega|exact True.intro|refine And.intro ?_ ?_|refine bg ?_|refine bm ?_|refine ah ?_ ?_|refine bI ?_ ?_|refine dr ?_|exact lRq _|refine lPq ?_ _|refine AHeap.Le.del ?_ ?_|(simp only [bt,and_true,true_and,hm,hnb,hcb];first|done|omega|(simp;done)))))
 obtain ⟨k,L,Hc⟩:=a
 obtain ⟨hk,hL,hle,hcc,hid⟩:=ha
 dsimp only at hk hL hle hcc hid ⊢
 have hlen:L.length≤U.length:=by rw [← hL,lAq];omega
 have hlnx:Hb.nx<Hc.nx:=glq hid
 refine Tq15 ?_
 refine ay (fun hc=>?_) (fun hc=>?_)
 ·have hk':k<S.headers.length:=sHc
  obtain ⟨x,hx⟩:∃ x,x=S.headers[k]:=⟨_,rfl⟩
  have hd:S.headers.drop k=x::S.headers.drop (k+1):=by rw [hx];exact dcq hk'
  have hg':=aV (f:=az) (l:=S.headers) (k:=k) (x:=x) (by rw [gQq hk',hx])
  have e5:=Yk5 k
  have hcs:az x=.agg [.int .i64 x.id,.str x.name,.slice .any 1 (inL x.fields)]:=rfl
  rw [hcs] at hg'
  rw [hd,List.flatMap_cons,← List.append_assoc] at hL
  simp only [go_sem,iNq,ybb,hg',e5]
  have hln:(inL L).length=L.length:=by simp [inL]
  have hlx:(inL x.fields).length=x.fields.length:=by simp [inL]
  have hlx2:L.length+x.fields.length≤U.length:=by rw [← hL];simp only [lAq];omega
  have hin:inL L++inL x.fields=inL (L++x.fields):=by simp [inL]
  refine ⟨⟨by omega,by omega⟩,⟨by rw [if_neg (by omega),hln];exact hid,by rw [hln,hlx];omega,by rw [hln,hlx];omega,fun z hz=>?_⟩,(k+1,L++x.fields,Hc.set Hb.nx (.buf 1 (L++x.fields).length)),⟨by dsimp only;omega,hL,cD hle (nrq _),bm hcc,?_⟩,by dsimp only;omega,?_⟩
  ·simp only [inL,List.mem_map] at hz
   obtain ⟨n,_,rfl⟩:=hz
   rfl
  ·dsimp only
   rw [aI,if_pos rfl,if_pos hlnx]
  ·have hcb:=@bm Hc Hb.nx 1 (L++x.fields).length hcc
   have hne1:(Hb.nx=Hc.nx)=False:=eFo
   have hll:(inL L).length+(inL x.fields).length=(L++x.fields).length:=by rw [hln,hlx,lAq]
   simp only [hin,hll,hne1,if_false]
   (simp only [bkq,enterW,bn,ltF,ne_eq,Nat.reduceEqDiff,reduceCtorEq,hm,hnb,hcb];try simp (disch:=first|exact Zd|omega) [↓zmo,beq,ybc,ybd,ybe,ag,wk,wk2,wk1,wkM,wkL,au,ybf,byq,biq,ep,hcl,hm,hnb,hcb];try (repeat' (first|assumption|omega|exact True.intro|refine And.intro ?_ ?_|refine bg ?_|refine bm ?_|refine ah ?_ ?_|refine bI ?_ ?_|refine dr ?_|exact lRq _|refine lPq ?_ _|refine AHeap.Le.del ?_ ?_|(simp only [bt,and_true,true_and,hm,hnb,hcb];first|done|omega|(simp;done)))))
   exact hlo _ _ (by omega)
 ·have hk':k=S.headers.length:=sHc
  subst hk'
  rw [List.drop_length,List.flatMap_nil,yaj] at hL
  subst hL
  have hgc:=hle.get _ _ hg0
  have hcs1:=aM hgc
  have hne1:(H.nx=Hc.nx)=False:=eFo
  skip
  have hHl:=hHle.trans hle
  clear hHb hg0 hcs0 hcp hx hm hlo
  simp only [go_sem,hgc,hcs1,hne1,hnb,fL]
  refine ⟨S.fields,(·.id),⟨rfl,hS.sl.fl,fun x hx=>⟨hI.fi x hx,fun H' hle' hcl'=>clB QT ⟨x,rfl,rfl⟩⟩⟩,?_⟩
  cases c0:dsF [] (S.fields.map (·.id)) with
  |false =>
   rw [c0,Bool.false_and] at hR
   subst hR
   try simp only [go_sem,hgc,hcs1,hne1,hnb,fL,c0]
   exact Y51
  |true =>
  rw [c0,Bool.true_and] at hR
  try simp only [go_sem,hgc,hcs1,hne1,hnb,fL,gr,c0]
  refine ⟨S.headers,(·.id),⟨rfl,hS.sl.hl,fun x hx=>⟨hI.hi x hx,fun H' hle' hcl'=>clB Rq ⟨x,rfl,rfl⟩⟩⟩,?_⟩
  cases c1:dsF [] (S.headers.map (·.id)) with
  |false =>
   rw [c1,Bool.false_and] at hR
   subst hR
   try simp only [go_sem,hgc,hcs1,hne1,hnb,fL,gr,c0,c1]
   exact Y51
  |true =>
  rw [c1,Bool.true_and] at hR
  try simp only [go_sem,hgc,hcs1,hne1,hnb,fL,gr,gR,c0,c1]
  refine ⟨S.states,(·.id),⟨rfl,hS.sl.sl,fun x hx=>⟨hI.si x hx,fun H' hle' hcl'=>clB Ra ⟨x,rfl,rfl⟩⟩⟩,?_⟩
  cases c2:dsF [] (S.states.map (·.id)) with
  |false =>
   rw [c2,Bool.false_and] at hR
   subst hR
   try simp only [go_sem,hgc,hcs1,hne1,hnb,fL,gr,gR,c0,c1,c2]
   exact Y51
  |true =>
  rw [c2,Bool.true_and] at hR
  try simp only [go_sem,hgc,hcs1,hne1,hnb,fL,gr,gR,im,c0,c1,c2]
  refine ⟨S.actions,(·.id),⟨rfl,hS.sl.al,fun x hx=>⟨hI.ai x hx,fun H' hle' hcl'=>clB Qd ⟨x,rfl,rfl⟩⟩⟩,?_⟩
  cases c3:dsF [] (S.actions.map (·.id)) with
  |false =>
   rw [c3,Bool.false_and] at hR
   subst hR
   try simp only [go_sem,hgc,hcs1,hne1,hnb,fL,gr,gR,im,c0,c1,c2,c3]
   exact Y51
  |true =>
  rw [c3,Bool.true_and] at hR
  try simp only [go_sem,hgc,hcs1,hne1,hnb,fL,gr,gR,im,jd,c0,c1,c2,c3]
  refine ⟨S.tables,(·.id),⟨rfl,hS.sl.tl,fun x hx=>⟨(hI.ti x hx).1,fun H' hle' hcl'=>clB Qc ⟨x,rfl,rfl⟩⟩⟩,?_⟩
  cases c4:dsF [] (S.tables.map (·.id)) with
  |false =>
   rw [c4,Bool.false_and] at hR
   subst hR
   try simp only [go_sem,hgc,hcs1,hne1,hnb,fL,gr,gR,im,jd,c0,c1,c2,c3,c4]
   exact Y51
  |true =>
  rw [c4,Bool.true_and] at hR
  try simp only [go_sem,hgc,hcs1,hne1,hnb,fL,gr,gR,im,jd,jC,c0,c1,c2,c3,c4]
  refine ⟨S.roles,(·.id),⟨rfl,hS.sl.rl,fun x hx=>⟨(hI.ri x hx).1,fun H' hle' hcl'=>clB QQ ⟨x,rfl,rfl⟩⟩⟩,?_⟩
  cases c5:dsF [] (S.roles.map (·.id)) with
  |false =>
   rw [c5,Bool.false_and] at hR
   subst hR
   try simp only [go_sem,hgc,hcs1,hne1,hnb,fL,gr,gR,im,jd,jC,c0,c1,c2,c3,c4,c5]
   exact Y51
  |true =>
  rw [c5,Bool.true_and] at hR
  try simp only [go_sem,hgc,hcs1,hne1,hnb,fL,gr,gR,im,jd,jC,mG,c0,c1,c2,c3,c4,c5]
  refine ⟨S,⟨rfl,hS⟩,?_⟩
  cases c6:snB S with
  |false =>
   rw [c6,Bool.false_and] at hR
   subst hR
   try simp only [go_sem,hgc,hcs1,hne1,hnb,fL,gr,gR,im,jd,jC,mG,c0,c1,c2,c3,c4,c5,c6]
   exact Y51
  |true =>
  rw [c6,Bool.true_and] at hR
  try simp only [go_sem,hgc,hcs1,hne1,hnb,fL,gr,gR,im,jd,jC,mG,ic,c0,c1,c2,c3,c4,c5,c6]
  refine ⟨L,(fun n=>n),⟨rfl,hul,fun x hx=>⟨hui x hx,fun H' hle' hcl'=>by
   obtain ⟨v,hv,hc'⟩:=ok_eSame.1 rfl [.int .i64 x] H' (fun v=>v=.int .i64 x) rfl
   subst hv
   exact hc'⟩⟩,?_⟩
  cases c7:dsF [] (L.map fun n=>n) with
  |false =>
   rw [c7,Bool.false_and] at hR
   subst hR
   try simp only [go_sem,hgc,hcs1,hne1,hnb,fL,gr,gR,im,jd,jC,mG,ic,c0,c1,c2,c3,c4,c5,c6,c7]
   exact Y51
  |true =>
  rw [c7,Bool.true_and] at hR
  try simp only [go_sem,hgc,hcs1,hne1,hnb,fL,gr,gR,im,jd,jC,mG,ic,b6,c0,c1,c2,c3,c4,c5,c6,c7]
  refine ⟨S.tables,(fun t=>dsF [] (t.actions.map fun n=>n)),⟨rfl,hS.sl.tl,fun x hx H' hle' hcl'=>clB Rp ⟨x,⟨rfl,⟨(hS.tn x hx).2.2.1,(hI.ti x hx).2⟩⟩,rfl⟩⟩,?_⟩
  cases c8:S.tables.all (fun t=>dsF [] (t.actions.map fun n=>n)) with
  |false =>
   rw [c8,Bool.false_and] at hR
   subst hR
   try simp only [go_sem,hgc,hcs1,hne1,hnb,fL,gr,gR,im,jd,jC,mG,ic,b6,c0,c1,c2,c3,c4,c5,c6,c7,c8]
   exact Y51
  |true =>
  rw [c8,Bool.true_and] at hR
  try simp only [go_sem,hgc,hcs1,hne1,hnb,fL,gr,gR,im,jd,jC,mG,ic,b6,cE,c0,c1,c2,c3,c4,c5,c6,c7,c8]
  refine ⟨S.roles,rlB,⟨rfl,hS.sl.rl,fun x hx H' hle' hcl'=>clB Q3 ⟨x,⟨rfl,⟨(hS.rn x hx).2.2.1,(hS.rn x hx).2.1,(hI.ri x hx).2.1,(hI.ri x hx).2.2⟩⟩,rfl⟩⟩,?_⟩
  cases c9:S.roles.all rlB with
  |false =>
   rw [c9] at hR
   subst hR
   refine Tq76 ?_
   exact Y51
  |true =>
  rw [c9] at hR
  subst hR
  refine Tq76 ?_
  exact Y51
end Go.AL
