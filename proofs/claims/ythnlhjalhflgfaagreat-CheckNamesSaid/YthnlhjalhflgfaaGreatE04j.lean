/- Lemmas of the proof; no condition. -/
import Derived.Test.YthnlhjalhflgfaaGreatE04g
import Derived.Test.YthnlhjalhflgfaaGreatS08b
import Derived.Test.YthnlhjalhflgfaaGreatE04f
import Derived.Test.YthnlhjalhflgfaaGreatE06
set_option linter.all false
set_option maxRecDepth 10000
set_option maxHeartbeats 32000000
open List renaming length_cons → yaz, length_nil → yba, take_of_length_le → ybc, drop_append → ybd, take_append → ybe, drop_eq_nil_of_le → ybf, length_map → ybb, map_nil → yaf, append_nil → yaj
open Go Go.AL Go.Proofs
namespace Go.AL
theorem GP:ti Tryz.prog 300=some ⟨.map 344 4,1,8,.nilm⟩:=by kernel_rfl
theorem tF:ti Tryz.prog 344=some ⟨.struct [(0,9,false),(1,9,false)],2,32,.agg [.str [],.str []]⟩:=by kernel_rfl
attribute [go_sem] GP tF
theorem yH {P:Program} {t s:TypeId} {n:Nat} (ht:(ti P t).map TI.desc=some (.struct [(0,s,false),(1,s,false)])) (hs:(ti P s).map TI.desc=some .string) (hk:P.keyType t=true) (hn:P.types.size=n+1)
 (hc:P.cellsOf t=2) (hcs:P.cellsOf s=1) {v:VN} (h1:v.1.length≤140737488355328) (h2:v.2.length≤140737488355328):fy P t (iV v):=by
 obtain ⟨a,b⟩:=v
 obtain ⟨d,i,hu,_,hd⟩:=fN ht
 obtain ⟨ds,is,hus,_,hds⟩:=fN hs
 cases d<;>simp [dq] at hd
 rename_i fs
 cases ds<;>simp [dq] at hds
 obtain ⟨l⟩:=fs
 match l,hd with
 |[],hd=>simp at hd
 |[_],hd=>simp at hd
 |_::_::_::_,hd=>simp at hd
 |[f,g],hd =>
  simp at hd
  obtain ⟨⟨f1,f2,f3⟩,g1,g2,g3⟩:=hd
  have hm:(140737488355328:Nat)≤maxLen:=by decide
  dsimp only at h1 h2
  unfold fy keyOf
  rw [hu,hn]
  have e1:(Value.agg #[Value.string ⟨a.toArray⟩,Value.string ⟨b.toArray⟩]).formed P t=true:=by
   simp [Value.formed,hu,hc]
  have la:(⟨a.toArray⟩:ByteArray).size≤maxLen:=by simp only [ByteArray.size,List.size_toArray];omega
  have lb:(⟨b.toArray⟩:ByteArray).size≤maxLen:=by simp only [ByteArray.size,List.size_toArray];omega
  have e2:P.keyLits (n+1+1) t [Value.string ⟨a.toArray⟩,Value.string ⟨b.toArray⟩]=some [.string a,.string b]:=by
   have k1:P.keyLits (n+1) s [Value.string ⟨a.toArray⟩]=some [.string a]:=by
    unfold Program.keyLits;simp only [hus,if_pos la]
   have k2:P.keyLits (n+1) s [Value.string ⟨b.toArray⟩]=some [.string b]:=by
    unfold Program.keyLits;simp only [hus,if_pos lb]
   unfold Program.keyLits
   simp [hu,hc,f1,f2,f3,g1,g2,g3,hcs,k1,k2]
  refine ⟨.string (keyBytes [.string a,.string b]),?_⟩
  have e3:cu (iV (a,b))=Value.agg #[Value.string ⟨a.toArray⟩,Value.string ⟨b.toArray⟩]:=rfl
  rw [e3]
  simp only [hk,e1,Bool.and_self,if_true]
  show (P.keyLits (n+1+1) t [Value.string ⟨a.toArray⟩,Value.string ⟨b.toArray⟩]).map _=_
  rw [e2];rfl
theorem yB:Maps.Keyed Tryz.prog 344:=Maps.Keyed.of_law (deep_law (m:=3) (by decide) (by kernel_rfl) (by kernel_rfl) (by kernel_rfl))
def gdV (v:VN):Prop:=v.1.length≤140737488355328∧v.2.length≤140737488355328
theorem we (v:VN) (h:gdV v):fy Tryz.prog 344 (iV v) :=
 yH (n:=Tryz.prog.types.size - 1) (by rw [tF];rfl) (by rw [zM];rfl) (by kernel_rfl) (by kernel_rfl) (by kernel_rfl) (by kernel_rfl) h.1 h.2
def adS (k n:List UInt8) (s:List VN):Bool × List VN:=if s.contains (k,n) then (false,s) else (true,(k,n)::s)
def gdL (s:List VN):Prop:=∀ v∈s,gdV v
theorem iD {k n:List UInt8} {s:List VN} (h:gdL s) (hk:gdV (k,n)):gdL (adS k n s).2:=by
 unfold adS
 split
 ·exact h
 ·intro v hv
  rcases List.mem_cons.1 hv with rfl|hv
  ·exact hk
  ·exact h v hv
def nS:List AV→AHeap→(AEnd→AHeap→Prop)→Prop
 |[.mapv id,.str k,.str n],H,K=>∃ sn:List VN,(H.get id=some (mpV sn)∧gdL sn∧gdV (k,n))∧K (.ret (.bool (adS k n sn).1)) (H.set id (mpV (adS k n sn).2))
 |_,_,_=>False
theorem pe:EntOk Tryz.prog 250 (Ent.effect nS):=by
 refine EntOk.effect fun args H K h=>?_
 unfold nS at h
 split at h
 rotate_left
 ·exact h.elim
 rename_i id k n
 obtain ⟨sn,⟨hid,hsn,hkn⟩,hK⟩:=h
 refine ⟨_,_,hK,?_⟩
 clear hK
 have hl2:=glq hid
 have hne:(id=H.nx)=False:=eq_false (by omega)
 have hss:=dr hid
 have hmg:=@wW (k,n) sn
 have hsn':=fE we hsn
 have hk1:=we _ hkn
 unfold adS
 refine ACalls.fW ap tNq Tryz.func250 [.tmp 6] (nrq _) (T:=aj []) (h:=fun hcl hlt=>?_)
 have hc2:(H.set id (mpV ((k,n)::sn))).Closed:=aB hcl
 clear hlt
 cases hb:sn.contains (k,n) with
 |true =>
  rw [hb,if_pos rfl] at hmg
  simp only [if_true]
  rw [hss]
  simp only [go_sem,zix,hid,hne]
  refine ⟨⟨yB,hsn',hk1,rfl⟩,?_⟩
  have hmg':gJ (cy iV sn) (.agg [.str k,.str n])=some (.bool true):=hmg
  try simp only [go_sem,hmg']
  exact Z1
 |false =>
  rw [hb,if_neg Bool.false_ne_true] at hmg
  have hmg':gJ (cy iV sn) (.agg [.str k,.str n])=none:=hmg
  simp only [Bool.false_eq_true,if_false]
  simp only [go_sem,zix,ziy,hid,hne]
  refine ⟨⟨yB,hsn',hk1,rfl⟩,?_⟩
  try simp only [go_sem,hmg',ziy,hid,hne]
  refine ⟨⟨yB,hsn',hk1,rfl,rfl⟩,?_⟩
  have hrow:((AV.agg [.str k,.str n],AV.bool true)::cy iV sn)=cy iV ((k,n)::sn):=rfl
  try simp only [hrow]
  exact Z7
def kFld:List UInt8:=[102,105,101,108,100]
def kHdr:List UInt8:=[104,101,97,100,101,114]
def kAct:List UInt8:=[97,99,116,105,111,110]
def kTab:List UInt8:=[116,97,98,108,101]
def kRol:List UInt8:=[114,111,108,101]
def E5:List AV→AHeap→(AV→Prop)→Prop
 |[x],_,K=>∃ t:SParam,x=bv t∧K (.str t.name)
 |_,_,_=>False
theorem ok_sn31:EntOk Tryz.prog 254 (Ent.pure E5):=by
 refine Ype fun _ H K h=>?_
 unfold E5 at h
 split at h
 rotate_left
 ·exact h.elim
 rename_i x
 obtain ⟨t,rfl,hK⟩:=h
 refine ⟨_,hK,?_⟩
 clear hK
 unfold bv
 refine ACalls.fW ap tNq Tryz.func254 [.tmp 2] (nrq _) (T:=aj []) (h:=fun hcl hlt=>?_)
 clear hlt
 simp only [go_sem]
 exact Z1
def Gq:List AV→AHeap→(AV→Prop)→Prop
 |[x],_,K=>∃ t:SKey,x=bE t∧K (.str t.name)
 |_,_,_=>False
theorem ok_sn41:EntOk Tryz.prog 257 (Ent.pure Gq):=by
 refine Ype fun _ H K h=>?_
 unfold Gq at h
 split at h
 rotate_left
 ·exact h.elim
 rename_i x
 obtain ⟨t,rfl,hK⟩:=h
 refine ⟨_,hK,?_⟩
 clear hK
 unfold bE
 refine ACalls.fW ap tNq Tryz.func257 [.tmp 2] (nrq _) (T:=aj []) (h:=fun hcl hlt=>?_)
 clear hlt
 simp only [go_sem]
 exact Z1
def adA (t:SAction) (s:List VN):Bool × List VN:=((adS kAct t.name s).1&&dsF [] (t.params.map (·.name)),(adS kAct t.name s).2)
def adT (t:STable) (s:List VN):Bool × List VN:=((adS kTab t.name s).1&&dsF [] (t.keys.map (·.name)),(adS kTab t.name s).2)
def LT:List AV→AHeap→(AEnd→AHeap→Prop)→Prop
 |[x,.ptr c 0],H,K=>∃ (t:SField) (id:Nat) (sn:List VN),(x=aX t∧H.get c=some (.cells [.mapv id])∧H.get id=some (mpV sn)∧gdL sn∧t.name.length≤140737488355328)∧K (.ret (.bool (adS kFld t.name sn).1)) (H.set id (mpV (adS kFld t.name sn).2))
 |_,_,_=>False
theorem ok_sn1:EntOk Tryz.prog 249 (Ent.effect LT):=by
 refine EntOk.effect fun args H K h=>?_
 unfold LT at h
 split at h
 rotate_left
 ·exact h.elim
 rename_i x c
 obtain ⟨t,id,sn,⟨rfl,hg,hid,hsn,hnl⟩,hK⟩:=h
 refine ⟨_,_,hK,?_⟩
 clear hK
 have hl:=glq hg
 have hl2:=glq hid
 have hne:(c=H.nx)=False:=eq_false (by omega)
 have hne2:(id=H.nx)=False:=eq_false (by omega)
 have hcs:=ag hg
 have hkn:gdV (kFld,t.name):=⟨show kFld.length≤140737488355328 from by decide,hnl⟩
 skip
 have hc2:H.Closed→(H.set id (mpV (adS kFld t.name sn).2)).Closed:=fun h=>aB h
 unfold aX
 refine ACalls.fW ap (tCq pe tNq) Tryz.func249 [.tmp 3] (nrq _) (T:=aj []) (h:=fun hcl hlt=>?_)
 have hcc:=hc2 hcl
 clear hlt hc2
 simp only [go_sem,hcs,hne,hg,nS]
 refine ⟨sn,⟨by simp only [hne2,if_false];exact hid,hsn,hkn⟩,?_⟩
 rw [show ([102,105,101,108,100]:List UInt8)=kFld from rfl]
 generalize adS kFld t.name sn=R at *
 try simp only [aE,go_sem,hne2]
 exact Z11
def LE:List AV→AHeap→(AEnd→AHeap→Prop)→Prop
 |[x,.ptr c 0],H,K=>∃ (t:SHeader) (id:Nat) (sn:List VN),(x=aH t∧H.get c=some (.cells [.mapv id])∧H.get id=some (mpV sn)∧gdL sn∧t.name.length≤140737488355328)∧K (.ret (.bool (adS kHdr t.name sn).1)) (H.set id (mpV (adS kHdr t.name sn).2))
 |_,_,_=>False
theorem ok_sn2:EntOk Tryz.prog 251 (Ent.effect LE):=by
 refine EntOk.effect fun args H K h=>?_
 unfold LE at h
 split at h
 rotate_left
 ·exact h.elim
 rename_i x c
 obtain ⟨t,id,sn,⟨rfl,hg,hid,hsn,hnl⟩,hK⟩:=h
 refine ⟨_,_,hK,?_⟩
 clear hK
 have hl:=glq hg
 have hl2:=glq hid
 have hne:(c=H.nx)=False:=eq_false (by omega)
 have hne2:(id=H.nx)=False:=eq_false (by omega)
 have hcs:=ag hg
 have hkn:gdV (kHdr,t.name):=⟨show kHdr.length≤140737488355328 from by decide,hnl⟩
 skip
 have hc2:H.Closed→(H.set id (mpV (adS kHdr t.name sn).2)).Closed:=fun h=>aB h
 unfold aH
 refine ACalls.fW ap (tCq pe tNq) Tryz.func251 [.tmp 3] (nrq _) (T:=aj []) (h:=fun hcl hlt=>?_)
 have hcc:=hc2 hcl
 clear hlt hc2
 simp only [go_sem,hcs,hne,hg,nS]
 refine ⟨sn,⟨by simp only [hne2,if_false];exact hid,hsn,hkn⟩,?_⟩
 rw [show ([104,101,97,100,101,114]:List UInt8)=kHdr from rfl]
 generalize adS kHdr t.name sn=R at *
 try simp only [aE,go_sem,hne2]
 exact Z11
def L5:List AV→AHeap→(AEnd→AHeap→Prop)→Prop
 |[x,.ptr c 0],H,K=>∃ (t:SAction) (id:Nat) (sn:List VN),(x=aA t∧H.get c=some (.cells [.mapv id])∧H.get id=some (mpV sn)∧gdL sn∧t.name.length≤140737488355328∧t.params.length≤1000000∧∀ p∈t.params,p.name.length≤140737488355328)∧K (.ret (.bool (adA t sn).1)) (H.set id (mpV (adA t sn).2))
 |_,_,_=>False
theorem ok_sn3:EntOk Tryz.prog 252 (Ent.effect L5):=by
 refine EntOk.effect fun args H K h=>?_
 unfold L5 at h
 split at h
 rotate_left
 ·exact h.elim
 rename_i x c
 obtain ⟨t,id,sn,⟨rfl,hg,hid,hsn,hnl,hpl,hpn⟩,hK⟩:=h
 refine ⟨_,_,hK,?_⟩
 clear hK
 have hl:=glq hg
 have hl2:=glq hid
 have hne:(c=H.nx)=False:=eq_false (by omega)
 have hne2:(id=H.nx)=False:=eq_false (by omega)
 have hcs:=ag hg
 have hkn:gdV (kAct,t.name):=⟨show kAct.length≤140737488355328 from by decide,hnl⟩
 unfold adA
 dsimp only
 have hc2:H.Closed→(H.set id (mpV (adS kAct t.name sn).2)).Closed:=fun h=>aB h
 unfold aA
 refine ACalls.fW ap (tCq pe (tCq CU tNq)) Tryz.func252 [.tmp 3] (nrq _) (T:=aj []) (h:=fun hcl hlt=>?_)
 have hcc:=hc2 hcl
 clear hlt hc2
 simp only [go_sem,hcs,hne,hg,nS]
 refine ⟨sn,⟨by simp only [hne2,if_false];exact hid,hsn,hkn⟩,?_⟩
 rw [show ([97,99,116,105,111,110]:List UInt8)=kAct from rfl]
 generalize adS kAct t.name sn=R at *
 obtain ⟨r,s'⟩:=R
 cases r with
 |false =>
  try simp only [aE,go_sem,hne2]
  exact Z11
 |true =>
  try simp only [aE,go_sem,hne2,vy]
  refine ⟨t.params,(·.name),⟨rfl,hpl,fun x hx=>⟨hpn x hx,fun H' hle hcl'=>?_⟩⟩,?_⟩
  ·obtain ⟨v,hv,hc⟩:=ok_sn31.1 rfl [bv x] H' (fun v=>v=.str x.name) ⟨x,rfl,rfl⟩
   subst hv
   exact hc
  ·try simp only [aE,ah,go_sem,hne2,Bool.true_and]
   exact Z11
def L3:List AV→AHeap→(AEnd→AHeap→Prop)→Prop
 |[x,.ptr c 0],H,K=>∃ (t:STable) (id:Nat) (sn:List VN),(x=aC t∧H.get c=some (.cells [.mapv id])∧H.get id=some (mpV sn)∧gdL sn∧t.name.length≤140737488355328∧t.keys.length≤1000000∧∀ p∈t.keys,p.name.length≤140737488355328)∧K (.ret (.bool (adT t sn).1)) (H.set id (mpV (adT t sn).2))
 |_,_,_=>False
theorem ok_sn4:EntOk Tryz.prog 255 (Ent.effect L3):=by
 refine EntOk.effect fun args H K h=>?_
 unfold L3 at h
 split at h
 rotate_left
 ·exact h.elim
 rename_i x c
 obtain ⟨t,id,sn,⟨rfl,hg,hid,hsn,hnl,hpl,hpn⟩,hK⟩:=h
 refine ⟨_,_,hK,?_⟩
 clear hK
 have hl:=glq hg
 have hl2:=glq hid
 have hne:(c=H.nx)=False:=eq_false (by omega)
 have hne2:(id=H.nx)=False:=eq_false (by omega)
 have hcs:=ag hg
 have hkn:gdV (kTab,t.name):=⟨show kTab.length≤140737488355328 from by decide,hnl⟩
 unfold adT
 dsimp only
 have hc2:H.Closed→(H.set id (mpV (adS kTab t.name sn).2)).Closed:=fun h=>aB h
 unfold aC
 refine ACalls.fW ap (tCq pe (tCq CO tNq)) Tryz.func255 [.tmp 3] (nrq _) (T:=aj []) (h:=fun hcl hlt=>?_)
 have hcc:=hc2 hcl
 clear hlt hc2
 simp only [go_sem,hcs,hne,hg,nS]
 refine ⟨sn,⟨by simp only [hne2,if_false];exact hid,hsn,hkn⟩,?_⟩
 rw [show ([116,97,98,108,101]:List UInt8)=kTab from rfl]
 generalize adS kTab t.name sn=R at *
 obtain ⟨r,s'⟩:=R
 cases r with
 |false =>
  try simp only [aE,go_sem,hne2]
  exact Z11
 |true =>
  try simp only [aE,go_sem,hne2,uJ]
  refine ⟨t.keys,(·.name),⟨rfl,hpl,fun x hx=>⟨hpn x hx,fun H' hle hcl'=>?_⟩⟩,?_⟩
  ·obtain ⟨v,hv,hc⟩:=ok_sn41.1 rfl [bE x] H' (fun v=>v=.str x.name) ⟨x,rfl,rfl⟩
   subst hv
   exact hc
  ·try simp only [aE,ah,go_sem,hne2,Bool.true_and]
   exact Z11
def LD:List AV→AHeap→(AEnd→AHeap→Prop)→Prop
 |[x,.ptr c 0],H,K=>∃ (t:SRole) (id:Nat) (sn:List VN),(x=bc t∧H.get c=some (.cells [.mapv id])∧H.get id=some (mpV sn)∧gdL sn∧t.name.length≤140737488355328)∧K (.ret (.bool (adS kRol t.name sn).1)) (H.set id (mpV (adS kRol t.name sn).2))
 |_,_,_=>False
theorem ok_sn5:EntOk Tryz.prog 258 (Ent.effect LD):=by
 refine EntOk.effect fun args H K h=>?_
 unfold LD at h
 split at h
 rotate_left
 ·exact h.elim
 rename_i x c
 obtain ⟨t,id,sn,⟨rfl,hg,hid,hsn,hnl⟩,hK⟩:=h
 refine ⟨_,_,hK,?_⟩
 clear hK
 have hl:=glq hg
 have hl2:=glq hid
 have hne:(c=H.nx)=False:=eq_false (by omega)
 have hne2:(id=H.nx)=False:=eq_false (by omega)
 have hcs:=ag hg
 have hkn:gdV (kRol,t.name):=⟨show kRol.length≤140737488355328 from by decide,hnl⟩
 skip
 have hc2:H.Closed→(H.set id (mpV (adS kRol t.name sn).2)).Closed:=fun h=>aB h
 unfold bc
 refine ACalls.fW ap (tCq pe tNq) Tryz.func258 [.tmp 3] (nrq _) (T:=aj []) (h:=fun hcl hlt=>?_)
 have hcc:=hc2 hcl
 clear hlt hc2
 simp only [go_sem,hcs,hne,hg,nS]
 refine ⟨sn,⟨by simp only [hne2,if_false];exact hid,hsn,hkn⟩,?_⟩
 rw [show ([114,111,108,101]:List UInt8)=kRol from rfl]
 generalize adS kRol t.name sn=R at *
 try simp only [aE,go_sem,hne2]
 exact Z11
theorem KP {H:AHeap} {c id:Nat} {t:SField} (hg:H.get c=some (.cells [.mapv id])) (hl:id<H.nx) (hne:c≠id) (hc:t.name.length≤140737488355328):Stp Tryz.prog aX 249 [] [.ptr c 0] H id gdL (fun t=>adS kFld t.name) t:=by
 intro s hs
 refine ⟨iD hs ⟨show kFld.length≤140737488355328 from by decide,hc⟩,fun H' hle hcl'=>?_⟩
 have hgc:H'.get c=some (.cells [.mapv id]):=hle.get _ _ (by rw [aG,if_neg hne];exact hg)
 have hgi:H'.get id=some (mpV s):=hle.get _ _ (by rw [aG,if_pos rfl,if_pos hl])
 obtain ⟨v,H1,⟨hv,hH⟩,h⟩:=ok_sn1.2.1 rfl [aX t,.ptr c 0] H' (fun v H1=>v=.ret (.bool ((fun t=>adS kFld t.name) t s).1)∧H1=H'.set id (mpV ((fun t=>adS kFld t.name) t s).2)) ⟨t,id,s,⟨rfl,hgc,hgi,hs,hc⟩,rfl,rfl⟩
 subst hv hH
 exact h
theorem Kv {H:AHeap} {c id:Nat} {t:SHeader} (hg:H.get c=some (.cells [.mapv id])) (hl:id<H.nx) (hne:c≠id) (hc:t.name.length≤140737488355328):Stp Tryz.prog aH 251 [] [.ptr c 0] H id gdL (fun t=>adS kHdr t.name) t:=by
 intro s hs
 refine ⟨iD hs ⟨show kHdr.length≤140737488355328 from by decide,hc⟩,fun H' hle hcl'=>?_⟩
 have hgc:H'.get c=some (.cells [.mapv id]):=hle.get _ _ (by rw [aG,if_neg hne];exact hg)
 have hgi:H'.get id=some (mpV s):=hle.get _ _ (by rw [aG,if_pos rfl,if_pos hl])
 obtain ⟨v,H1,⟨hv,hH⟩,h⟩:=ok_sn2.2.1 rfl [aH t,.ptr c 0] H' (fun v H1=>v=.ret (.bool ((fun t=>adS kHdr t.name) t s).1)∧H1=H'.set id (mpV ((fun t=>adS kHdr t.name) t s).2)) ⟨t,id,s,⟨rfl,hgc,hgi,hs,hc⟩,rfl,rfl⟩
 subst hv hH
 exact h
theorem Iz {H:AHeap} {c id:Nat} {t:SAction} (hg:H.get c=some (.cells [.mapv id])) (hl:id<H.nx) (hne:c≠id) (hc:t.name.length≤140737488355328∧t.params.length≤1000000∧∀ p∈t.params,p.name.length≤140737488355328):Stp Tryz.prog aA 252 [] [.ptr c 0] H id gdL adA t:=by
 intro s hs
 refine ⟨(show gdL (adA t s).2 from iD hs ⟨show kAct.length≤140737488355328 from by decide,hc.1⟩),fun H' hle hcl'=>?_⟩
 have hgc:H'.get c=some (.cells [.mapv id]):=hle.get _ _ (by rw [aG,if_neg hne];exact hg)
 have hgi:H'.get id=some (mpV s):=hle.get _ _ (by rw [aG,if_pos rfl,if_pos hl])
 obtain ⟨v,H1,⟨hv,hH⟩,h⟩:=ok_sn3.2.1 rfl [aA t,.ptr c 0] H' (fun v H1=>v=.ret (.bool (adA t s).1)∧H1=H'.set id (mpV (adA t s).2)) ⟨t,id,s,⟨rfl,hgc,hgi,hs,hc.1,hc.2.1,hc.2.2⟩,rfl,rfl⟩
 subst hv hH
 exact h
theorem Kq {H:AHeap} {c id:Nat} {t:STable} (hg:H.get c=some (.cells [.mapv id])) (hl:id<H.nx) (hne:c≠id) (hc:t.name.length≤140737488355328∧t.keys.length≤1000000∧∀ p∈t.keys,p.name.length≤140737488355328):Stp Tryz.prog aC 255 [] [.ptr c 0] H id gdL adT t:=by
 intro s hs
 refine ⟨(show gdL (adT t s).2 from iD hs ⟨show kTab.length≤140737488355328 from by decide,hc.1⟩),fun H' hle hcl'=>?_⟩
 have hgc:H'.get c=some (.cells [.mapv id]):=hle.get _ _ (by rw [aG,if_neg hne];exact hg)
 have hgi:H'.get id=some (mpV s):=hle.get _ _ (by rw [aG,if_pos rfl,if_pos hl])
 obtain ⟨v,H1,⟨hv,hH⟩,h⟩:=ok_sn4.2.1 rfl [aC t,.ptr c 0] H' (fun v H1=>v=.ret (.bool (adT t s).1)∧H1=H'.set id (mpV (adT t s).2)) ⟨t,id,s,⟨rfl,hgc,hgi,hs,hc.1,hc.2.1,hc.2.2⟩,rfl,rfl⟩
 subst hv hH
 exact h
theorem Ku {H:AHeap} {c id:Nat} {t:SRole} (hg:H.get c=some (.cells [.mapv id])) (hl:id<H.nx) (hne:c≠id) (hc:t.name.length≤140737488355328):Stp Tryz.prog bc 258 [] [.ptr c 0] H id gdL (fun t=>adS kRol t.name) t:=by
 intro s hs
 refine ⟨iD hs ⟨show kRol.length≤140737488355328 from by decide,hc⟩,fun H' hle hcl'=>?_⟩
 have hgc:H'.get c=some (.cells [.mapv id]):=hle.get _ _ (by rw [aG,if_neg hne];exact hg)
 have hgi:H'.get id=some (mpV s):=hle.get _ _ (by rw [aG,if_pos rfl,if_pos hl])
 obtain ⟨v,H1,⟨hv,hH⟩,h⟩:=ok_sn5.2.1 rfl [bc t,.ptr c 0] H' (fun v H1=>v=.ret (.bool ((fun t=>adS kRol t.name) t s).1)∧H1=H'.set id (mpV ((fun t=>adS kRol t.name) t s).2)) ⟨t,id,s,⟨rfl,hgc,hgi,hs,hc⟩,rfl,rfl⟩
 subst hv hH
 exact h
def snB (S:Sch):Bool :=
 let a:=evS (fun (t:SField)=>adS kFld t.name) S.fields []
 let b:=evS (fun (t:SHeader)=>adS kHdr t.name) S.headers a.2
 let c:=evS adA S.actions b.2
 let d:=evS adT S.tables c.2
 let e:=evS (fun (t:SRole)=>adS kRol t.name) S.roles d.2
 a.1&&(b.1&&(c.1&&(d.1&&e.1)))
theorem md {α:Type} {st:α→List VN→Bool × List VN} {g:List VN→Prop}:∀ {l:List α} {s:List VN},g s→(∀ x∈l,∀ s,g s→g (st x s).2)→g (evS st l s).2
 |[],s,h,_=>h
 |x::l,s,h,hx=>by
  unfold evS
  have h1:=hx x List.mem_cons_self s h
  split
  ·exact md h1 fun y hy=>hx y (List.mem_cons_of_mem _ hy)
  ·exact h1
def jY:List AV→AHeap→(AV→Prop)→Prop
 |[.agg l],_,K=>∃ S:Sch,(l=aS S∧SB S)∧K (.bool (snB S))
 |_,_,_=>False
theorem KU:EntOk Tryz.prog 114 (Ent.pure jY):=by
 refine Ype fun _ H K h=>?_
 unfold jY at h
 split at h
 rotate_left
 ·exact h.elim
 rename_i l
 obtain ⟨S,⟨rfl,hS⟩,hK⟩:=h
 refine ⟨_,hK,?_⟩
 clear hK
 generalize hR:snB S=R
 unfold snB at hR
 have cF:∀ t∈S.fields,t.name.length≤140737488355328:=hS.fn
 have cH:∀ t∈S.headers,t.name.length≤140737488355328:=fun t ht=>(hS.hn t ht).1
 have cA:∀ t∈S.actions,t.name.length≤140737488355328∧t.params.length≤1000000∧∀ p∈t.params,p.name.length≤140737488355328:=fun t ht=>⟨(hS.an t ht).1,(hS.an t ht).2.1,(hS.an t ht).2.2.2⟩
 have cT:∀ t∈S.tables,t.name.length≤140737488355328∧t.keys.length≤1000000∧∀ p∈t.keys,p.name.length≤140737488355328:=fun t ht=>⟨(hS.tn t ht).1,(hS.tn t ht).2.1,(hS.tn t ht).2.2.2.2⟩
 have cR:∀ t∈S.roles,t.name.length≤140737488355328:=fun t ht=>(hS.rn t ht).1
 obtain ⟨a,ha⟩:∃ a,evS (fun (t:SField)=>adS kFld t.name) S.fields []=a:=⟨_,rfl⟩
 obtain ⟨b,hb⟩:∃ b,evS (fun (t:SHeader)=>adS kHdr t.name) S.headers a.2=b:=⟨_,rfl⟩
 obtain ⟨c,hc⟩:∃ c,evS adA S.actions b.2=c:=⟨_,rfl⟩
 obtain ⟨d,hd⟩:∃ d,evS adT S.tables c.2=d:=⟨_,rfl⟩
 obtain ⟨e,he⟩:∃ e,evS (fun (t:SRole)=>adS kRol t.name) S.roles d.2=e:=⟨_,rfl⟩
 have g0:gdL []:=fun v hv=>by cases hv
 have ga:gdL a.2:=ha ▸ md g0 fun x hx s hs=>iD hs ⟨show kFld.length≤140737488355328 from by decide,cF x hx⟩
 have gb:gdL b.2:=hb ▸ md ga fun x hx s hs=>iD hs ⟨show kHdr.length≤140737488355328 from by decide,cH x hx⟩
 have gc:gdL c.2:=hc ▸ md gb fun x hx s hs=>(show gdL (adA x s).2 from iD hs ⟨show kAct.length≤140737488355328 from by decide,(cA x hx).1⟩)
 have gd:gdL d.2:=hd ▸ md gc fun x hx s hs=>(show gdL (adT x s).2 from iD hs ⟨show kTab.length≤140737488355328 from by decide,(cT x hx).1⟩)
 simp only [ha,hb,hc,hd,he] at hR
 refine ACalls.fW ap (tCq FG (tCq CR (tCq HT (tCq Di (tCq FH tNq))))) Tryz.func114 [.tmp 2] (nrq _) (T:=aj []) (h:=fun hcl hlt=>?_)
 clear hlt
 simp only [go_sem,aS,ziw,zj]
 refine ⟨S.fields,H.nx+1,[],(fun (t:SField)=>adS kFld t.name),gdL,⟨rfl,hS.sl.fl,(by (try simp only [go_sem]);first|done|rfl),g0,fun x hx=>KP (by (try simp only [go_sem]);first|done|rfl) (by (try simp only [go_sem]);first|done|omega) (by omega) (cF x hx)⟩,?_⟩
 simp only [ha]
 cases qa:a.1 with
 |false =>
  simp only [qa,Bool.false_and,Bool.and_false,Bool.true_and] at hR
  subst hR
  try simp only [aE,go_sem,aS,qa]
  exact Z1
 |true =>
  simp only [aE,go_sem,aS,zY,ha,qa]
  refine ⟨S.headers,H.nx+1,a.2,(fun (t:SHeader)=>adS kHdr t.name),gdL,⟨rfl,hS.sl.hl,(by (try simp only [go_sem]);first|done|rfl),ga,fun x hx=>Kv (by (try simp only [go_sem]);first|done|rfl) (by (try simp only [go_sem]);first|done|omega) (by omega) (cH x hx)⟩,?_⟩
  simp only [hb]
  cases qb:b.1 with
  |false =>
   simp only [qb,Bool.false_and,Bool.and_false,qa,Bool.true_and] at hR
   subst hR
   try simp only [aE,go_sem,aS,ha,qa,qb]
   exact Z1
  |true =>
   simp only [aE,go_sem,aS,zl,ha,qa,hb,qb]
   refine ⟨S.actions,H.nx+1,b.2,adA,gdL,⟨rfl,hS.sl.al,(by (try simp only [go_sem]);first|done|rfl),gb,fun x hx=>Iz (by (try simp only [go_sem]);first|done|rfl) (by (try simp only [go_sem]);first|done|omega) (by omega) (cA x hx)⟩,?_⟩
   simp only [hc]
   cases qc:c.1 with
   |false =>
    simp only [qc,Bool.false_and,Bool.and_false,qa,qb,Bool.true_and] at hR
    subst hR
    try simp only [aE,go_sem,aS,ha,qa,hb,qb,qc]
    exact Z1
   |true =>
    simp only [aE,go_sem,aS,zu,ha,qa,hb,qb,hc,qc]
    refine ⟨S.tables,H.nx+1,c.2,adT,gdL,⟨rfl,hS.sl.tl,(by (try simp only [go_sem]);first|done|rfl),gc,fun x hx=>Kq (by (try simp only [go_sem]);first|done|rfl) (by (try simp only [go_sem]);first|done|omega) (by omega) (cT x hx)⟩,?_⟩
    simp only [hd]
    cases qd:d.1 with
    |false =>
     simp only [qd,Bool.false_and,Bool.and_false,qa,qb,qc,Bool.true_and] at hR
     subst hR
     try simp only [aE,go_sem,aS,ha,qa,hb,qb,hc,qc,qd]
     exact Z1
    |true =>
     simp only [aE,go_sem,aS,zS,ha,qa,hb,qb,hc,qc,hd,qd]
     refine ⟨S.roles,H.nx+1,d.2,(fun (t:SRole)=>adS kRol t.name),gdL,⟨rfl,hS.sl.rl,(by (try simp only [go_sem]);first|done|rfl),gd,fun x hx=>Ku (by (try simp only [go_sem]);first|done|rfl) (by (try simp only [go_sem]);first|done|omega) (by omega) (cR x hx)⟩,?_⟩
     simp only [he]
     cases qe:e.1 with
     |false =>
      simp only [qe,Bool.false_and,Bool.and_false,qa,qb,qc,qd,Bool.true_and] at hR
      subst hR
      try simp only [aE,go_sem,aS,ha,qa,hb,qb,hc,qc,hd,qd,qe]
      exact Z1
     |true =>
      simp only [qa,qb,qc,qd,qe,Bool.true_and] at hR
      subst hR
      try simp only [aE,go_sem,aS,ha,qa,hb,qb,hc,qc,hd,qd,he,qe]
      exact Z1
structure SI (S:Sch):Prop where
 fi:∀ x∈S.fields,i64 x.id
 hi:∀ x∈S.headers,i64 x.id
 si:∀ x∈S.states,i64 x.id
 ai:∀ x∈S.actions,i64 x.id
 ti:∀ x∈S.tables,i64 x.id∧∀ a∈x.actions,i64 a
 ri:∀ x∈S.roles,i64 x.id∧(∀ a∈x.actions,i64 a)∧∀ g∈x.grants,i64 g.table
 ui:∀ n∈S.headers.flatMap (·.fields),i64 n
 ul:(S.headers.flatMap (·.fields)).length≤1000000
def za:List AV→AHeap→(AV→Prop)→Prop
 |[.int .i64 n],_,K=>K (.int .i64 n)
 |_,_,_=>False
theorem ok_eSame:EntOk Tryz.prog 116 (Ent.pure za):=by
 refine Ype fun _ H K h=>?_
 unfold za at h
 split at h
 rotate_left
 ·exact h.elim
 refine ⟨_,h,?_⟩
 clear h
 refine ACalls.fW ap tNq Tryz.func116 [.tmp 2] (nrq _) (T:=aj []) (h:=fun hcl hlt=>?_)
 clear hlt
 simp only [go_sem]
 exact Z1
def LZ:List AV→AHeap→(AV→Prop)→Prop
 |[x],_,K=>∃ t:SField,x=aX t∧K (.int .i64 t.id)
 |_,_,_=>False
theorem MJ:EntOk Tryz.prog 103 (Ent.pure LZ):=by
 refine Ype fun _ H K h=>?_
 unfold LZ at h
 split at h
 rotate_left
 ·exact h.elim
 rename_i x
 obtain ⟨t,rfl,hK⟩:=h
 refine ⟨_,hK,?_⟩
 clear hK
 unfold aX
 refine ACalls.fW ap tNq Tryz.func103 [.tmp 2] (nrq _) (T:=aj []) (h:=fun hcl hlt=>?_)
 clear hlt
 simp only [go_sem]
 exact Z1
def L6:List AV→AHeap→(AV→Prop)→Prop
 |[x],_,K=>∃ t:SHeader,x=aH t∧K (.int .i64 t.id)
 |_,_,_=>False
theorem MP:EntOk Tryz.prog 105 (Ent.pure L6):=by
 refine Ype fun _ H K h=>?_
 unfold L6 at h
 split at h
 rotate_left
 ·exact h.elim
 rename_i x
 obtain ⟨t,rfl,hK⟩:=h
 refine ⟨_,hK,?_⟩
 clear hK
 unfold aH
 refine ACalls.fW ap tNq Tryz.func105 [.tmp 2] (nrq _) (T:=aj []) (h:=fun hcl hlt=>?_)
 clear hlt
 simp only [go_sem]
 exact Z1
def LY:List AV→AHeap→(AV→Prop)→Prop
 |[x],_,K=>∃ t:SState,x=aO t∧K (.int .i64 t.id)
 |_,_,_=>False
theorem Mr:EntOk Tryz.prog 107 (Ent.pure LY):=by
 refine Ype fun _ H K h=>?_
 unfold LY at h
 split at h
 rotate_left
 ·exact h.elim
 rename_i x
 obtain ⟨t,rfl,hK⟩:=h
 refine ⟨_,hK,?_⟩
 clear hK
 unfold aO
 refine ACalls.fW ap tNq Tryz.func107 [.tmp 2] (nrq _) (T:=aj []) (h:=fun hcl hlt=>?_)
 clear hlt
 simp only [go_sem]
 exact Z1
def LM:List AV→AHeap→(AV→Prop)→Prop
 |[x],_,K=>∃ t:SAction,x=aA t∧K (.int .i64 t.id)
 |_,_,_=>False
theorem Md:EntOk Tryz.prog 109 (Ent.pure LM):=by
 refine Ype fun _ H K h=>?_
 unfold LM at h
 split at h
 rotate_left
 ·exact h.elim
 rename_i x
 obtain ⟨t,rfl,hK⟩:=h
 refine ⟨_,hK,?_⟩
 clear hK
 unfold aA
 refine ACalls.fW ap tNq Tryz.func109 [.tmp 2] (nrq _) (T:=aj []) (h:=fun hcl hlt=>?_)
 clear hlt
 simp only [go_sem]
 exact Z1
def LQ:List AV→AHeap→(AV→Prop)→Prop
 |[x],_,K=>∃ t:STable,x=aC t∧K (.int .i64 t.id)
 |_,_,_=>False
theorem Mj:EntOk Tryz.prog 111 (Ent.pure LQ):=by
 refine Ype fun _ H K h=>?_
 unfold LQ at h
 split at h
 rotate_left
 ·exact h.elim
 rename_i x
 obtain ⟨t,rfl,hK⟩:=h
 refine ⟨_,hK,?_⟩
 clear hK
 unfold aC
 refine ACalls.fW ap tNq Tryz.func111 [.tmp 2] (nrq _) (T:=aj []) (h:=fun hcl hlt=>?_)
 clear hlt
 simp only [go_sem]
 exact Z1
def LR:List AV→AHeap→(AV→Prop)→Prop
 |[x],_,K=>∃ t:SRole,x=bc t∧K (.int .i64 t.id)
 |_,_,_=>False
theorem M7:EntOk Tryz.prog 113 (Ent.pure LR):=by
 refine Ype fun _ H K h=>?_
 unfold LR at h
 split at h
 rotate_left
 ·exact h.elim
 rename_i x
 obtain ⟨t,rfl,hK⟩:=h
 refine ⟨_,hK,?_⟩
 clear hK
 unfold bc
 refine ACalls.fW ap tNq Tryz.func113 [.tmp 2] (nrq _) (T:=aj []) (h:=fun hcl hlt=>?_)
 clear hlt
 simp only [go_sem]
 exact Z1
def Gw:List AV→AHeap→(AV→Prop)→Prop
 |[x],_,K=>∃ t:SGrant,x=bj t∧K (.int .i64 t.table)
 |_,_,_=>False
theorem IU:EntOk Tryz.prog 120 (Ent.pure Gw):=by
 refine Ype fun _ H K h=>?_
 unfold Gw at h
 split at h
 rotate_left
 ·exact h.elim
 rename_i x
 obtain ⟨t,rfl,hK⟩:=h
 refine ⟨_,hK,?_⟩
 clear hK
 unfold bj
 refine ACalls.fW ap tNq Tryz.func120 [.tmp 2] (nrq _) (T:=aj []) (h:=fun hcl hlt=>?_)
 clear hlt
 simp only [go_sem]
 exact Z1
def LS:List AV→AHeap→(AV→Prop)→Prop
 |[x],H,K=>∃ t:STable,(x=aC t∧t.actions.length≤1000000∧∀ a∈t.actions,i64 a)∧K (.bool (dsF [] (t.actions.map fun n=>n)))
 |_,_,_=>False
theorem M6:EntOk Tryz.prog 117 (Ent.pure LS):=by
 refine Ype fun _ H K h=>?_
 unfold LS at h
 split at h
 rotate_left
 ·exact h.elim
 rename_i x
 obtain ⟨t,⟨rfl,hc⟩,hK⟩:=h
 refine ⟨_,hK,?_⟩
 clear hK
 generalize hR:(dsF [] (t.actions.map fun n=>n))=R
 unfold aC
 refine ACalls.fW ap (tCq qY tNq) Tryz.func117 [.tmp 2] (nrq _) (T:=aj []) (h:=fun hcl hlt=>?_)
 clear hlt
 simp only [go_sem,eX]
 refine ⟨t.actions,(fun n=>n),⟨rfl,hc.1,fun x hx=>⟨hc.2 x hx,fun H' hle' hcl'=>by
  obtain ⟨v,hv,hc'⟩:=ok_eSame.1 rfl [.int .i64 x] H' (fun v=>v=.int .i64 x) rfl
  subst hv
  exact hc'⟩⟩,?_⟩
 cases c0:dsF [] (t.actions.map fun n=>n) with
 |false =>
  rw [c0] at hR
  subst hR
  try simp only [go_sem,eX,c0]
  try (repeat with_reducible refine Yq ?_)
  exact Z1
 |true =>
 rw [c0] at hR
 subst hR
 try simp only [go_sem,eX,c0]
 try (repeat with_reducible refine Yq ?_)
 exact Z1
def rlB (t:SRole):Bool:=dsF [] (t.actions.map fun n=>n)&&dsF [] (t.grants.map (·.table))
def LX:List AV→AHeap→(AV→Prop)→Prop
 |[x],H,K=>∃ t:SRole,(x=bc t∧(t.actions.length≤1000000∧t.grants.length≤1000000∧(∀ a∈t.actions,i64 a)∧∀ g∈t.grants,i64 g.table))∧K (.bool (rlB t))
 |_,_,_=>False
theorem MV:EntOk Tryz.prog 118 (Ent.pure LX):=by
 refine Ype fun _ H K h=>?_
 unfold LX at h
 split at h
 rotate_left
 ·exact h.elim
 rename_i x
 obtain ⟨t,⟨rfl,hc⟩,hK⟩:=h
 refine ⟨_,hK,?_⟩
 clear hK
 generalize hR:(rlB t)=R
 unfold bc
 refine ACalls.fW ap (tCq qY (tCq El tNq)) Tryz.func118 [.tmp 2] (nrq _) (T:=aj []) (h:=fun hcl hlt=>?_)
 clear hlt
 unfold rlB at hR
 simp only [go_sem,eX]
 refine ⟨t.actions,(fun n=>n),⟨rfl,hc.1,fun x hx=>⟨hc.2.2.1 x hx,fun H' hle' hcl'=>by
  obtain ⟨v,hv,hc'⟩:=ok_eSame.1 rfl [.int .i64 x] H' (fun v=>v=.int .i64 x) rfl
  subst hv
  exact hc'⟩⟩,?_⟩
 cases c0:dsF [] (t.actions.map fun n=>n) with
 |false =>
  rw [c0,Bool.false_and] at hR
  subst hR
  try simp only [go_sem,eX,c0]
  try (repeat with_reducible refine Yq ?_)
  exact Z1
 |true =>
 rw [c0,Bool.true_and] at hR
 try simp only [go_sem,eX,pb,c0]
 refine ⟨t.grants,(·.table),⟨rfl,hc.2.1,fun x hx=>⟨hc.2.2.2 x hx,fun H' hle' hcl'=>clB IU ⟨x,rfl,rfl⟩⟩⟩,?_⟩
 cases c1:dsF [] (t.grants.map (·.table)) with
 |false =>
  rw [c1] at hR
  subst hR
  try simp only [go_sem,eX,pb,c0,c1]
  try (repeat with_reducible refine Yq ?_)
  exact Z1
 |true =>
 rw [c1] at hR
 subst hR
 try simp only [go_sem,eX,pb,c0,c1]
 try (repeat with_reducible refine Yq ?_)
 exact Z1
def nB (S:Sch):Bool:=dsF [] (S.fields.map (·.id))&&(dsF [] (S.headers.map (·.id))&&(dsF [] (S.states.map (·.id))&&(dsF [] (S.actions.map (·.id))&&(dsF [] (S.tables.map (·.id))&&(dsF [] (S.roles.map (·.id))&&(snB S&&(dsF [] ((S.headers.flatMap (·.fields)).map fun n=>n)&&(S.tables.all (fun t=>dsF [] (t.actions.map fun n=>n))&&(S.roles.all rlB)))))))))
def ky:List AV→AHeap→(AV→Prop)→Prop
 |[.agg l],_,K=>∃ S:Sch,(l=aS S∧SB S∧SI S)∧K (.bool (nB S))
 |_,_,_=>False
theorem C9:EntOk Tryz.prog 33 (Ent.pure ky):=by
 refine Ype fun _ H K h=>?_
 unfold ky at h
 split at h
 rotate_left
 ·exact h.elim
 rename_i l
 obtain ⟨S,⟨rfl,hS,hI⟩,hK⟩:=h
 refine ⟨_,hK,?_⟩
 clear hK
 generalize hR:nB S=R
 unfold nB at hR
 have hul:=hI.ul
 have hui:=hI.ui
 generalize hU:S.headers.flatMap (·.fields)=U at *
 have hhl:=hS.sl.hl
 have hrun:∀ Hc m,(H.push (.cells (aS S))).Le Hc→Hc.Closed→AV.lt Hc.nx (.slice m 1 (inL U))→True:=fun _ _ _ _ _=>trivial
 refine ACalls.fW ap (tCq E9 (tCq Fk (tCq Hs (tCq ER (tCq Dy (tCq FR (tCq KU (tCq qY (tCq kT (tCq mD tNq)))))))))) Tryz.func33 [.tmp 2] (nrq _) (T:=aj []) (h:=fun hcl hlt=>?_)
 have hx:=AV.lt_mono (Nat.le_succ H.nx) _ (hlt _ List.mem_cons_self)
 have hm:∀ n',H.nx≤n'→AV.lt n' (.slice .any 3 (S.headers.map aH)):=fun n' hn=>AV.lt_mono hn _ (by have h1:=hlt _ List.mem_cons_self;simp only [znr,aS,znu] at h1;exact h1.2.1)
 clear hlt hrun
 simp only [znr] at hx
 have hcp:=af hcl hx
 have hg0:(H.push (.cells (aS S))).get H.nx=some (.cells (aS S)):=AHeap.get_push_new _ _
 obtain ⟨Hb,hHb⟩:∃ Hb,H.push (.cells (aS S))=Hb:=⟨_,rfl⟩
 have hnb:Hb.nx=H.nx+1:=by rw [← hHb];rfl
 have hHle:H.Le Hb:=by rw [← hHb];exact (lRq _).push _
 rw [hHb] at hcp hg0
 unfold aS at hHb hg0 ⊢
 have hne0:(H.nx=Hb.nx)=False:=eq_false (by omega)
 have hlo:∀ n' (L':List Int),H.nx+1<n'→AV.lt n' (.slice (.own (H.nx+1)) 1 (inL L')):=fun n' L' h=>by
  rw [AV.lt]
  exact ⟨fun id e=>by cases e;exact h,fun j hj=>by simp only [inL,List.getElem_map,znf]⟩
 have hcs0:=ag hg0
 simp only [go_sem,hHb,ybb,hne0,hcs0]
 try simp only [go_sem,ybb]
 refine aD (A:=Nat × List Int × AHeap) (fun a=>[(1,.ptr H.nx 0),(3,.slice (.own Hb.nx) 1 (inL a.2.1)),(7,.slice .any 3 (S.headers.map aH)),(8,.int .i64 (S.headers.length:Int)),(9,.int .i64 (a.1:Int))]) (fun a=>a.2.2)
  (fun a=>a.1≤S.headers.length∧a.2.1++(S.headers.drop a.1).flatMap (·.fields)=U∧Hb.Le a.2.2∧a.2.2.Closed∧a.2.2.get Hb.nx=some (.buf 1 a.2.1.length)) (fun a=>S.headers.length - a.1) (0,[],Hb.push (.buf 1 0)) ⟨Nat.zero_le _,hU,(lRq _).push _,aY hcp,AHeap.get_push_new _ _⟩ ?_ fun a ha=>?_
 ·have hcb:=@aY Hb 1 0 hcp
  simp only [inL,yaf]
  (simp only [bkq,enterW,bk,ltF,ne_eq,Nat.reduceEqDiff,reduceCtorEq,hm,hnb,hcb];try simp (disch:=first|exact Zd|omega) [↓zmo,beq,ybc,ybd,ybe,aa,wk,wk2,wk1,wkM,wkL,ae,ybf,byq,biq,cB,hcl,hm,hnb,hcb];try (repeat' (first|assumption|omega|exact True.intro|refine And.intro ?_ ?_|refine aY ?_|refine bh ?_|refine af ?_ ?_|refine ba ?_ ?_|refine ck ?_|exact lRq _|refine lPq ?_ _|refine AHeap.Le.del ?_ ?_|(simp only [bt,and_true,true_and,hm,hnb,hcb];first|done|omega|(simp;done)))))
 obtain ⟨k,L,Hc⟩:=a
 obtain ⟨hk,hL,hle,hcc,hid⟩:=ha
 dsimp only at hk hL hle hcc hid ⊢
 have hlen:L.length≤U.length:=by rw [← hL,lAq];omega
 have hlnx:Hb.nx<Hc.nx:=glq hid
 simp only [go_sem]
 refine ak (fun hc=>?_) (fun hc=>?_)
 ·have hk':k<S.headers.length:=by simp at hc;omega
  obtain ⟨x,hx⟩:∃ x,x=S.headers[k]:=⟨_,rfl⟩
  have hd:S.headers.drop k=x::S.headers.drop (k+1):=by rw [hx];exact dcq hk'
  have hg':=a0 (f:=aH) (l:=S.headers) (k:=k) (x:=x) (by rw [gQq hk',hx])
  have e5:=Yk5 k
  have hcs:aH x=.agg [.int .i64 x.id,.str x.name,.slice .any 1 (inL x.fields)]:=rfl
  rw [hcs] at hg'
  rw [hd,List.flatMap_cons,← List.append_assoc] at hL
  simp only [go_sem,iNq,ybb,hg',e5]
  have hln:(inL L).length=L.length:=by simp [inL]
  have hlx:(inL x.fields).length=x.fields.length:=by simp [inL]
  have hlx2:L.length+x.fields.length≤U.length:=by rw [← hL];simp only [lAq];omega
  have hin:inL L++inL x.fields=inL (L++x.fields):=by simp [inL]
  refine ⟨⟨by omega,by omega⟩,⟨by rw [if_neg (by omega),hln];exact hid,by rw [hln,hlx];omega,by rw [hln,hlx];omega,fun z hz=>?_⟩,(k+1,L++x.fields,Hc.set Hb.nx (.buf 1 (L++x.fields).length)),⟨by dsimp only;omega,hL,dT hle (nrq _),bh hcc,?_⟩,by dsimp only;omega,?_⟩
  ·simp only [inL,List.mem_map] at hz
   obtain ⟨n,_,rfl⟩:=hz
   rfl
  ·dsimp only
   rw [aG,if_pos rfl,if_pos hlnx]
  ·have hcb:=@bh Hc Hb.nx 1 (L++x.fields).length hcc
   have hne1:(Hb.nx=Hc.nx)=False:=eq_false (by omega)
   have hll:(inL L).length+(inL x.fields).length=(L++x.fields).length:=by rw [hln,hlx,lAq]
   simp only [hin,hll,hne1,if_false]
   (simp only [bkq,enterW,bk,ltF,ne_eq,Nat.reduceEqDiff,reduceCtorEq,hm,hnb,hcb];try simp (disch:=first|exact Zd|omega) [↓zmo,beq,ybc,ybd,ybe,aa,wk,wk2,wk1,wkM,wkL,ae,ybf,byq,biq,cB,hcl,hm,hnb,hcb];try (repeat' (first|assumption|omega|exact True.intro|refine And.intro ?_ ?_|refine aY ?_|refine bh ?_|refine af ?_ ?_|refine ba ?_ ?_|refine ck ?_|exact lRq _|refine lPq ?_ _|refine AHeap.Le.del ?_ ?_|(simp only [bt,and_true,true_and,hm,hnb,hcb];first|done|omega|(simp;done)))))
   exact hlo _ _ (by omega)
 ·have hk':k=S.headers.length:=by simp at hc;omega
  subst hk'
  rw [List.drop_length,List.flatMap_nil,yaj] at hL
  subst hL
  have hgc:=hle.get _ _ hg0
  have hcs1:=ag hgc
  have hne1:(H.nx=Hc.nx)=False:=eq_false (by omega)
  skip
  have hHl:=hHle.trans hle
  clear hHb hg0 hcs0 hcp hx hm hlo
  simp only [go_sem,hgc,hcs1,hne1,hnb,dt]
  refine ⟨S.fields,(·.id),⟨rfl,hS.sl.fl,fun x hx=>⟨hI.fi x hx,fun H' hle' hcl'=>clB MJ ⟨x,rfl,rfl⟩⟩⟩,?_⟩
  cases c0:dsF [] (S.fields.map (·.id)) with
  |false =>
   rw [c0,Bool.false_and] at hR
   subst hR
   try simp only [go_sem,hgc,hcs1,hne1,hnb,dt,c0]
   try (repeat with_reducible refine Yq ?_)
   exact Z12
  |true =>
  rw [c0,Bool.true_and] at hR
  try simp only [go_sem,hgc,hcs1,hne1,hnb,dt,dV,c0]
  refine ⟨S.headers,(·.id),⟨rfl,hS.sl.hl,fun x hx=>⟨hI.hi x hx,fun H' hle' hcl'=>clB MP ⟨x,rfl,rfl⟩⟩⟩,?_⟩
  cases c1:dsF [] (S.headers.map (·.id)) with
  |false =>
   rw [c1,Bool.false_and] at hR
   subst hR
   try simp only [go_sem,hgc,hcs1,hne1,hnb,dt,dV,c0,c1]
   try (repeat with_reducible refine Yq ?_)
   exact Z12
  |true =>
  rw [c1,Bool.true_and] at hR
  try simp only [go_sem,hgc,hcs1,hne1,hnb,dt,dV,eJ,c0,c1]
  refine ⟨S.states,(·.id),⟨rfl,hS.sl.sl,fun x hx=>⟨hI.si x hx,fun H' hle' hcl'=>clB Mr ⟨x,rfl,rfl⟩⟩⟩,?_⟩
  cases c2:dsF [] (S.states.map (·.id)) with
  |false =>
   rw [c2,Bool.false_and] at hR
   subst hR
   try simp only [go_sem,hgc,hcs1,hne1,hnb,dt,dV,eJ,c0,c1,c2]
   try (repeat with_reducible refine Yq ?_)
   exact Z12
  |true =>
  rw [c2,Bool.true_and] at hR
  try simp only [go_sem,hgc,hcs1,hne1,hnb,dt,dV,eJ,fg,c0,c1,c2]
  refine ⟨S.actions,(·.id),⟨rfl,hS.sl.al,fun x hx=>⟨hI.ai x hx,fun H' hle' hcl'=>clB Md ⟨x,rfl,rfl⟩⟩⟩,?_⟩
  cases c3:dsF [] (S.actions.map (·.id)) with
  |false =>
   rw [c3,Bool.false_and] at hR
   subst hR
   try simp only [go_sem,hgc,hcs1,hne1,hnb,dt,dV,eJ,fg,c0,c1,c2,c3]
   try (repeat with_reducible refine Yq ?_)
   exact Z12
  |true =>
  rw [c3,Bool.true_and] at hR
  try simp only [go_sem,hgc,hcs1,hne1,hnb,dt,dV,eJ,fg,fO,c0,c1,c2,c3]
  refine ⟨S.tables,(·.id),⟨rfl,hS.sl.tl,fun x hx=>⟨(hI.ti x hx).1,fun H' hle' hcl'=>clB Mj ⟨x,rfl,rfl⟩⟩⟩,?_⟩
  cases c4:dsF [] (S.tables.map (·.id)) with
  |false =>
   rw [c4,Bool.false_and] at hR
   subst hR
   try simp only [go_sem,hgc,hcs1,hne1,hnb,dt,dV,eJ,fg,fO,c0,c1,c2,c3,c4]
   try (repeat with_reducible refine Yq ?_)
   exact Z12
  |true =>
  rw [c4,Bool.true_and] at hR
  try simp only [go_sem,hgc,hcs1,hne1,hnb,dt,dV,eJ,fg,fO,gD,c0,c1,c2,c3,c4]
  refine ⟨S.roles,(·.id),⟨rfl,hS.sl.rl,fun x hx=>⟨(hI.ri x hx).1,fun H' hle' hcl'=>clB M7 ⟨x,rfl,rfl⟩⟩⟩,?_⟩
  cases c5:dsF [] (S.roles.map (·.id)) with
  |false =>
   rw [c5,Bool.false_and] at hR
   subst hR
   try simp only [go_sem,hgc,hcs1,hne1,hnb,dt,dV,eJ,fg,fO,gD,c0,c1,c2,c3,c4,c5]
   try (repeat with_reducible refine Yq ?_)
   exact Z12
  |true =>
  rw [c5,Bool.true_and] at hR
  try simp only [go_sem,hgc,hcs1,hne1,hnb,dt,dV,eJ,fg,fO,gD,jY,c0,c1,c2,c3,c4,c5]
  refine ⟨S,⟨rfl,hS⟩,?_⟩
  cases c6:snB S with
  |false =>
   rw [c6,Bool.false_and] at hR
   subst hR
   try simp only [go_sem,hgc,hcs1,hne1,hnb,dt,dV,eJ,fg,fO,gD,jY,c0,c1,c2,c3,c4,c5,c6]
   try (repeat with_reducible refine Yq ?_)
   exact Z12
  |true =>
  rw [c6,Bool.true_and] at hR
  try simp only [go_sem,hgc,hcs1,hne1,hnb,dt,dV,eJ,fg,fO,gD,jY,eX,c0,c1,c2,c3,c4,c5,c6]
  refine ⟨L,(fun n=>n),⟨rfl,hul,fun x hx=>⟨hui x hx,fun H' hle' hcl'=>by
   obtain ⟨v,hv,hc'⟩:=ok_eSame.1 rfl [.int .i64 x] H' (fun v=>v=.int .i64 x) rfl
   subst hv
   exact hc'⟩⟩,?_⟩
  cases c7:dsF [] (L.map fun n=>n) with
  |false =>
   rw [c7,Bool.false_and] at hR
   subst hR
   try simp only [go_sem,hgc,hcs1,hne1,hnb,dt,dV,eJ,fg,fO,gD,jY,eX,c0,c1,c2,c3,c4,c5,c6,c7]
   try (repeat with_reducible refine Yq ?_)
   exact Z12
  |true =>
  rw [c7,Bool.true_and] at hR
  try simp only [go_sem,hgc,hcs1,hne1,hnb,dt,dV,eJ,fg,fO,gD,jY,eX,bn,c0,c1,c2,c3,c4,c5,c6,c7]
  refine ⟨S.tables,(fun t=>dsF [] (t.actions.map fun n=>n)),⟨rfl,hS.sl.tl,fun x hx H' hle' hcl'=>clB M6 ⟨x,⟨rfl,⟨(hS.tn x hx).2.2.1,(hI.ti x hx).2⟩⟩,rfl⟩⟩,?_⟩
  cases c8:S.tables.all (fun t=>dsF [] (t.actions.map fun n=>n)) with
  |false =>
   rw [c8,Bool.false_and] at hR
   subst hR
   try simp only [go_sem,hgc,hcs1,hne1,hnb,dt,dV,eJ,fg,fO,gD,jY,eX,bn,c0,c1,c2,c3,c4,c5,c6,c7,c8]
   try (repeat with_reducible refine Yq ?_)
   exact Z12
  |true =>
  rw [c8,Bool.true_and] at hR
  try simp only [go_sem,hgc,hcs1,hne1,hnb,dt,dV,eJ,fg,fO,gD,jY,eX,bn,bD,c0,c1,c2,c3,c4,c5,c6,c7,c8]
  refine ⟨S.roles,rlB,⟨rfl,hS.sl.rl,fun x hx H' hle' hcl'=>clB MV ⟨x,⟨rfl,⟨(hS.rn x hx).2.2.1,(hS.rn x hx).2.1,(hI.ri x hx).2.1,(hI.ri x hx).2.2⟩⟩,rfl⟩⟩,?_⟩
  cases c9:S.roles.all rlB with
  |false =>
   rw [c9] at hR
   subst hR
   try simp only [go_sem,hgc,hcs1,hne1,hnb,dt,dV,eJ,fg,fO,gD,jY,eX,bn,bD,c0,c1,c2,c3,c4,c5,c6,c7,c8,c9]
   try (repeat with_reducible refine Yq ?_)
   exact Z12
  |true =>
  rw [c9] at hR
  subst hR
  try simp only [go_sem,hgc,hcs1,hne1,hnb,dt,dV,eJ,fg,fO,gD,jY,eX,bn,bD,c0,c1,c2,c3,c4,c5,c6,c7,c8,c9]
  try (repeat with_reducible refine Yq ?_)
  exact Z12
end Go.AL
