/- Lemmas of the proof; no condition. -/
import Derived.Test.YtjffcopmhkcejaaGreatE04g
import Derived.Test.YtjffcopmhkcejaaGreatS08b
import Derived.Test.YtjffcopmhkcejaaGreatE04f
import Derived.Test.YtjffcopmhkcejaaGreatE06
set_option linter.all false
set_option maxRecDepth 10000
set_option maxHeartbeats 32000000
open Go Go.AL Go.Proofs
namespace Go.AL
theorem Iz:ti Tryz.prog 294=some ⟨.map 339 4,1,8,.nilm⟩:=krf
theorem yJ:ti Tryz.prog 339=some ⟨.struct [(0,9,false),(1,9,false)],2,32,.agg [.str [],.str []]⟩:=krf
attribute [go_sem] Iz yJ
def Dh{P:Program}{t s:TypeId}{n:Nat}(ht:(ti P t).map TI.desc=some (.struct [(0,s,false),(1,s,false)]))(hs:(ti P s).map TI.desc=some .string)(hk:P.keyType t=true)(hn:P.types.size=n+1)
 (hc:P.cellsOf t=2) (hcs:P.cellsOf s=1) {v:VN} (h1:v.1.length≤140737488355328) (h2:v.2.length≤140737488355328):iZ P t (lL v):=by
 obtain⟨a,b⟩:=v
 obtain⟨d,i,hu,_,hd⟩:=jD ht
 obtain⟨ds,is,hus,_,hds⟩:=jD hs
 cases d<;>simp[gv]at hd
 rename_i fs
 cases ds<;>simp[gv]at hds
 obtain⟨l⟩:=fs
 match l,hd with
 |[],hd=>simp at hd
 |[_],hd=>simp at hd
 |_::_::_::_,hd=>simp at hd
 |[f,g],hd =>
  simp at hd
  obtain⟨⟨f1,f2,f3⟩,g1,g2,g3⟩:=hd
  have hm:(140737488355328:Nat)≤maxLen:=Xb
  dsimp only at h1 h2
  unfold iZ keyOf
  rw[hu,hn]
  have e1:(Value.agg #[Value.string ⟨a.toArray⟩,Value.string ⟨b.toArray⟩]).formed P t=true:=by
   simp[Value.formed,hu,hc]
  have la:(⟨a.toArray⟩:ByteArray).size≤maxLen:=by simp only[ByteArray.size,List.size_toArray];omega
  have lb:(⟨b.toArray⟩:ByteArray).size≤maxLen:=by simp only[ByteArray.size,List.size_toArray];omega
  have e2:P.keyLits (n+1+1) t [Value.string ⟨a.toArray⟩,Value.string ⟨b.toArray⟩]=some [.string a,.string b]:=by
   have k1:P.keyLits (n+1) s [Value.string ⟨a.toArray⟩]=some [.string a]:=by
    unfold Program.keyLits;simp only[hus,if_pos la]
   have k2:P.keyLits (n+1) s [Value.string ⟨b.toArray⟩]=some [.string b]:=by
    unfold Program.keyLits;simp only[hus,if_pos lb]
   unfold Program.keyLits
   simp[hu,hc,f1,f2,f3,g1,g2,g3,hcs,k1,k2]
  refine⟨.string (keyBytes [.string a,.string b]),?_⟩
  have e3:dY (lL (a,b))=Value.agg #[Value.string ⟨a.toArray⟩,Value.string ⟨b.toArray⟩]:=rfl
  rw[e3]
  simp only[hk,e1,Bool.and_self,if_true]
  show(P.keyLits (n+1+1) t [Value.string ⟨a.toArray⟩,Value.string ⟨b.toArray⟩]).map _=_
  rw[e2];rfl
def Cx:Maps.Keyed Tryz.prog 339:=Maps.Keyed.of_law (deep_law (m:=3) Xb Xj Xj Xj)
def gdV(v:VN):Prop:=v.1.length≤140737488355328∧v.2.length≤140737488355328
def Ae(v:VN)(h:gdV v):iZ Tryz.prog 339 (lL v) :=
 Dh (n:=Tryz.prog.types.size-1) (by rw[yJ];rfl) (by rw[DU];rfl) Xj Xj Xj Xj h.1 h.2
def adS(k n:By)(s:List VN):Bool × List VN:=if s.contains (k,n)then(false,s)else(true,(k,n)::s)
def gdL(s:List VN):Prop:=∀ v∈s,gdV v
def kX{k n:By}{s:List VN}(h:gdL s)(hk:gdV (k,n)):gdL (adS k n s).2:=by
 unfold adS
 split
 ·exact h
 ·intro v hv
  rcases List.mem_cons.1 hv with rfl|hv
  ·exact hk
  ·exact h v hv
def rN:ECt
 |[.mapv id,.str k,.str n],H,K=>∃ sn:List VN,(H.get id=some (mpV sn)∧gdL sn∧gdV (k,n))∧K (.ret (.bool (adS k n sn).1)) (H.set id (mpV (adS k n sn).2))
 |_,_,_=>False
def s6:EEe 239 rN:=by
 refine Yef fun _ H K h=>?_
 unfold rN at h
 split at h<;>try exact h.elim
 rename_i id k n
 obtain⟨sn,⟨hid,hsn,hkn⟩,hK⟩:=h
 refine⟨_,_,hK,?_⟩
 clear hK
 have hl2:=glq hid
 have hne:(id=H.nx)=False:=eFo
 have hss:=fN hid
 have hmg:=@A0 (k,n) sn
 have hsn':=ja Ae hsn
 have hk1:=Ae _ hkn
 unfold adS
 refine Yfv aD tNq Tryz.func239 [.tmp 6] fun hcl hlt=>?_
 have hc2:(H.set id (mpV ((k,n)::sn))).Closed:=aV hcl
 clear hlt
 cases hb:sn.contains (k,n)with
 |true=>
  rw[hb,if_pos rfl]at hmg
  simp only[if_true]
  rw[hss]
  simp only[go_sem,zix,hid,hne]
  refine⟨⟨Cx,hsn',hk1,rfl⟩,?_⟩
  have hmg':ki (d9 lL sn) (.agg [.str k,.str n])=some (.bool true):=hmg
  try simp only[go_sem,hmg']
  exact Z1
 |_=>
  rw[hb,if_neg Bool.false_ne_true]at hmg
  have hmg':ki (d9 lL sn) (.agg [.str k,.str n])=none:=hmg
  simp only[Bool.false_eq_true,if_false]
  simp only[go_sem,zix,ziy,hid,hne]
  refine⟨⟨Cx,hsn',hk1,rfl⟩,?_⟩
  try simp only[go_sem,hmg',ziy,hid,hne]
  refine⟨⟨Cx,hsn',hk1,rfl,rfl⟩,?_⟩
  have hrow:((AV.agg [.str k,.str n],AV.bool true)::d9 lL sn)=d9 lL ((k,n)::sn):=rfl
  try simp only[hrow]
  exact Z8
def kFld:By:=[102,105,101,108,100]
def kHdr:By:=[104,101,97,100,101,114]
def kAct:By:=[97,99,116,105,111,110]
def kTab:By:=[116,97,98,108,101]
def kRol:By:=[114,111,108,101]
def Km:PCt
 |[x],_,K=>∃ t:SParam,x=aL t∧K (.str t.name)
 |_,_,_=>False
def ok_sn31:EPp 243 Km:=by
 refine Ype fun _ H K h=>?_
 unfold Km at h
 split at h<;>try exact h.elim
 rename_i x
 obtain⟨t,rfl,hK⟩:=h
 refine⟨_,hK,?_⟩
 clear hK
 unfold aL
 refine Yfu aD tNq Tryz.func243 [.tmp 2] fun hcl=>?_
 exact Y32
def Jq:PCt
 |[x],_,K=>∃ t:SKey,x=aZ t∧K (.str t.name)
 |_,_,_=>False
def ok_sn41:EPp 246 Jq:=by
 refine Ype fun _ H K h=>?_
 unfold Jq at h
 split at h<;>try exact h.elim
 rename_i x
 obtain⟨t,rfl,hK⟩:=h
 refine⟨_,hK,?_⟩
 clear hK
 unfold aZ
 refine Yfu aD tNq Tryz.func246 [.tmp 2] fun hcl=>?_
 exact Y32
def adA(t:SAction)(s:List VN):Bool × List VN:=((adS kAct t.name s).1&&dsF [] (t.params.map (·.name)),(adS kAct t.name s).2)
def adT(t:STable)(s:List VN):Bool × List VN:=((adS kTab t.name s).1&&dsF [] (t.keys.map (·.name)),(adS kTab t.name s).2)
def Re:ECt
 |[x,.ptr c 0],H,K=>∃ (t:SField) (id:Nat) (sn:List VN),(x=aJ t∧H.get c=some (.cells [.mapv id])∧H.get id=some (mpV sn)∧gdL sn∧t.name.length≤140737488355328)∧K (.ret (.bool (adS kFld t.name sn).1)) (H.set id (mpV (adS kFld t.name sn).2))
 |_,_,_=>False
def ok_sn1:EEe 238 Re:=by
 refine Yef fun _ H K h=>?_
 unfold Re at h
 split at h<;>try exact h.elim
 rename_i x c
 obtain⟨t,id,sn,⟨rfl,hg,hid,hsn,hnl⟩,hK⟩:=h
 refine⟨_,_,hK,?_⟩
 clear hK
 have hl:=glq hg
 have hl2:=glq hid
 have hne:(c=H.nx)=False:=eFo
 have hne2:(id=H.nx)=False:=eFo
 have hcs:=aB hg
 have hkn:gdV (kFld,t.name):=⟨show kFld.length≤140737488355328 from by decide,hnl⟩
 skip
 have hc2:H.Closed→(H.set id (mpV (adS kFld t.name sn).2)).Closed:=fun h=>aV h
 unfold aJ
 refine Yfv aD (tCq s6 tNq) Tryz.func238 [.tmp 3] fun hcl hlt=>?_
 have hcc:=hc2 hcl
 clear hlt hc2
 simp only[go_sem,hcs,hne,hg,rN]
 refine⟨sn,⟨by simp only[hne2,if_false];exact hid,hsn,hkn⟩,?_⟩
 rw[show([102,105,101,108,100]:By)=kFld from rfl]
 generalize adS kFld t.name sn=R at *
 exact Y119
def Q7:ECt
 |[x,.ptr c 0],H,K=>∃ (t:SHeader) (id:Nat) (sn:List VN),(x=az t∧H.get c=some (.cells [.mapv id])∧H.get id=some (mpV sn)∧gdL sn∧t.name.length≤140737488355328)∧K (.ret (.bool (adS kHdr t.name sn).1)) (H.set id (mpV (adS kHdr t.name sn).2))
 |_,_,_=>False
def ok_sn2:EEe 240 Q7:=by
 refine Yef fun _ H K h=>?_
 unfold Q7 at h
 split at h<;>try exact h.elim
 rename_i x c
 obtain⟨t,id,sn,⟨rfl,hg,hid,hsn,hnl⟩,hK⟩:=h
 refine⟨_,_,hK,?_⟩
 clear hK
 have hl:=glq hg
 have hl2:=glq hid
 have hne:(c=H.nx)=False:=eFo
 have hne2:(id=H.nx)=False:=eFo
 have hcs:=aB hg
 have hkn:gdV (kHdr,t.name):=⟨show kHdr.length≤140737488355328 from by decide,hnl⟩
 skip
 have hc2:H.Closed→(H.set id (mpV (adS kHdr t.name sn).2)).Closed:=fun h=>aV h
 unfold az
 refine Yfv aD (tCq s6 tNq) Tryz.func240 [.tmp 3] fun hcl hlt=>?_
 have hcc:=hc2 hcl
 clear hlt hc2
 simp only[go_sem,hcs,hne,hg,rN]
 refine⟨sn,⟨by simp only[hne2,if_false];exact hid,hsn,hkn⟩,?_⟩
 rw[show([104,101,97,100,101,114]:By)=kHdr from rfl]
 generalize adS kHdr t.name sn=R at *
 exact Y119
def Rc:ECt
 |[x,.ptr c 0],H,K=>∃ (t:SAction) (id:Nat) (sn:List VN),(x=ap t∧H.get c=some (.cells [.mapv id])∧H.get id=some (mpV sn)∧gdL sn∧t.name.length≤140737488355328∧t.params.length≤1000000∧∀ p∈t.params,p.name.length≤140737488355328)∧K (.ret (.bool (adA t sn).1)) (H.set id (mpV (adA t sn).2))
 |_,_,_=>False
def ok_sn3:EEe 241 Rc:=by
 refine Yef fun _ H K h=>?_
 unfold Rc at h
 split at h<;>try exact h.elim
 rename_i x c
 obtain⟨t,id,sn,⟨rfl,hg,hid,hsn,hnl,hpl,hpn⟩,hK⟩:=h
 refine⟨_,_,hK,?_⟩
 clear hK
 have hl:=glq hg
 have hl2:=glq hid
 have hne:(c=H.nx)=False:=eFo
 have hne2:(id=H.nx)=False:=eFo
 have hcs:=aB hg
 have hkn:gdV (kAct,t.name):=⟨show kAct.length≤140737488355328 from by decide,hnl⟩
 unfold adA
 dsimp only
 have hc2:H.Closed→(H.set id (mpV (adS kAct t.name sn).2)).Closed:=fun h=>aV h
 unfold ap
 refine Yfv aD (tCq s6 (tCq I6 tNq)) Tryz.func241 [.tmp 3] fun hcl hlt=>?_
 have hcc:=hc2 hcl
 clear hlt hc2
 simp only[go_sem,hcs,hne,hg,rN]
 refine⟨sn,⟨by simp only[hne2,if_false];exact hid,hsn,hkn⟩,?_⟩
 rw[show([97,99,116,105,111,110]:By)=kAct from rfl]
 generalize adS kAct t.name sn=R at *
 obtain⟨r,s'⟩:=R
 cases r with
 |false=>
  exact Y119
 |true=>
  try simp only[aX,go_sem,hne2,zY]
  refine⟨t.params,(·.name),⟨rfl,hpl,fun x hx=>⟨hpn x hx,fun H' hle hcl'=>?_⟩⟩,?_⟩
  ·obtain⟨v,hv,hc⟩:=ok_sn31.1 rfl [aL x] H' (fun v=>v=.str x.name) ⟨x,rfl,rfl⟩
   subst hv
   exact hc
  ·try simp only[aX,aA,go_sem,hne2,Bool.true_and]
   exact Z12
def RC:ECt
 |[x,.ptr c 0],H,K=>∃ (t:STable) (id:Nat) (sn:List VN),(x=au t∧H.get c=some (.cells [.mapv id])∧H.get id=some (mpV sn)∧gdL sn∧t.name.length≤140737488355328∧t.keys.length≤1000000∧∀ p∈t.keys,p.name.length≤140737488355328)∧K (.ret (.bool (adT t sn).1)) (H.set id (mpV (adT t sn).2))
 |_,_,_=>False
def ok_sn4:EEe 244 RC:=by
 refine Yef fun _ H K h=>?_
 unfold RC at h
 split at h<;>try exact h.elim
 rename_i x c
 obtain⟨t,id,sn,⟨rfl,hg,hid,hsn,hnl,hpl,hpn⟩,hK⟩:=h
 refine⟨_,_,hK,?_⟩
 clear hK
 have hl:=glq hg
 have hl2:=glq hid
 have hne:(c=H.nx)=False:=eFo
 have hne2:(id=H.nx)=False:=eFo
 have hcs:=aB hg
 have hkn:gdV (kTab,t.name):=⟨show kTab.length≤140737488355328 from by decide,hnl⟩
 unfold adT
 dsimp only
 have hc2:H.Closed→(H.set id (mpV (adS kTab t.name sn).2)).Closed:=fun h=>aV h
 unfold au
 refine Yfv aD (tCq s6 (tCq HR tNq)) Tryz.func244 [.tmp 3] fun hcl hlt=>?_
 have hcc:=hc2 hcl
 clear hlt hc2
 simp only[go_sem,hcs,hne,hg,rN]
 refine⟨sn,⟨by simp only[hne2,if_false];exact hid,hsn,hkn⟩,?_⟩
 rw[show([116,97,98,108,101]:By)=kTab from rfl]
 generalize adS kTab t.name sn=R at *
 obtain⟨r,s'⟩:=R
 cases r with
 |false=>
  exact Y119
 |true=>
  try simp only[aX,go_sem,hne2,zD]
  refine⟨t.keys,(·.name),⟨rfl,hpl,fun x hx=>⟨hpn x hx,fun H' hle hcl'=>?_⟩⟩,?_⟩
  ·obtain⟨v,hv,hc⟩:=ok_sn41.1 rfl [aZ x] H' (fun v=>v=.str x.name) ⟨x,rfl,rfl⟩
   subst hv
   exact hc
  ·try simp only[aX,aA,go_sem,hne2,Bool.true_and]
   exact Z12
def Rb:ECt
 |[x,.ptr c 0],H,K=>∃ (t:SRole) (id:Nat) (sn:List VN),(x=aP t∧H.get c=some (.cells [.mapv id])∧H.get id=some (mpV sn)∧gdL sn∧t.name.length≤140737488355328)∧K (.ret (.bool (adS kRol t.name sn).1)) (H.set id (mpV (adS kRol t.name sn).2))
 |_,_,_=>False
def ok_sn5:EEe 247 Rb:=by
 refine Yef fun _ H K h=>?_
 unfold Rb at h
 split at h<;>try exact h.elim
 rename_i x c
 obtain⟨t,id,sn,⟨rfl,hg,hid,hsn,hnl⟩,hK⟩:=h
 refine⟨_,_,hK,?_⟩
 clear hK
 have hl:=glq hg
 have hl2:=glq hid
 have hne:(c=H.nx)=False:=eFo
 have hne2:(id=H.nx)=False:=eFo
 have hcs:=aB hg
 have hkn:gdV (kRol,t.name):=⟨show kRol.length≤140737488355328 from by decide,hnl⟩
 skip
 have hc2:H.Closed→(H.set id (mpV (adS kRol t.name sn).2)).Closed:=fun h=>aV h
 unfold aP
 refine Yfv aD (tCq s6 tNq) Tryz.func247 [.tmp 3] fun hcl hlt=>?_
 have hcc:=hc2 hcl
 clear hlt hc2
 simp only[go_sem,hcs,hne,hg,rN]
 refine⟨sn,⟨by simp only[hne2,if_false];exact hid,hsn,hkn⟩,?_⟩
 rw[show([114,111,108,101]:By)=kRol from rfl]
 generalize adS kRol t.name sn=R at *
 exact Y119
def Qe{H:AHeap}{c id:Nat}{t:SField}(hg:H.get c=some (.cells [.mapv id]))(hl:id<H.nx)(hne:c≠id)(hc:t.name.length≤140737488355328):Stp Tryz.prog aJ 238 [] [.ptr c 0] H id gdL (fun t=>adS kFld t.name) t:=by
 intro s hs
 refine⟨kX hs ⟨show kFld.length≤140737488355328 from by decide,hc⟩,fun H' hle hcl'=>?_⟩
 have hgc:H'.get c=some (.cells [.mapv id]):=hle.get _ _ (by rw[aF,if_neg hne];exact hg)
 have hgi:H'.get id=some (mpV s):=hle.get _ _ (by rw[aF,if_pos rfl,if_pos hl])
 obtain⟨v,H1,⟨hv,hH⟩,h⟩:=ok_sn1.2.1 rfl [aJ t,.ptr c 0] H' (fun v H1=>v=.ret (.bool ((fun t=>adS kFld t.name) t s).1)∧H1=H'.set id (mpV ((fun t=>adS kFld t.name) t s).2)) ⟨t,id,s,⟨rfl,hgc,hgi,hs,hc⟩,rfl,rfl⟩
 subst hv hH
 exact h
def NQ{H:AHeap}{c id:Nat}{t:SHeader}(hg:H.get c=some (.cells [.mapv id]))(hl:id<H.nx)(hne:c≠id)(hc:t.name.length≤140737488355328):Stp Tryz.prog az 240 [] [.ptr c 0] H id gdL (fun t=>adS kHdr t.name) t:=by
 intro s hs
 refine⟨kX hs ⟨show kHdr.length≤140737488355328 from by decide,hc⟩,fun H' hle hcl'=>?_⟩
 have hgc:H'.get c=some (.cells [.mapv id]):=hle.get _ _ (by rw[aF,if_neg hne];exact hg)
 have hgi:H'.get id=some (mpV s):=hle.get _ _ (by rw[aF,if_pos rfl,if_pos hl])
 obtain⟨v,H1,⟨hv,hH⟩,h⟩:=ok_sn2.2.1 rfl [az t,.ptr c 0] H' (fun v H1=>v=.ret (.bool ((fun t=>adS kHdr t.name) t s).1)∧H1=H'.set id (mpV ((fun t=>adS kHdr t.name) t s).2)) ⟨t,id,s,⟨rfl,hgc,hgi,hs,hc⟩,rfl,rfl⟩
 subst hv hH
 exact h
def NK{H:AHeap}{c id:Nat}{t:SAction}(hg:H.get c=some (.cells [.mapv id]))(hl:id<H.nx)(hne:c≠id)(hc:t.name.length≤140737488355328∧t.params.length≤1000000∧∀ p∈t.params,p.name.length≤140737488355328):Stp Tryz.prog ap 241 [] [.ptr c 0] H id gdL adA t:=by
 intro s hs
 refine⟨(show gdL (adA t s).2 from kX hs ⟨show kAct.length≤140737488355328 from by decide,hc.1⟩),fun H' hle hcl'=>?_⟩
 have hgc:H'.get c=some (.cells [.mapv id]):=hle.get _ _ (by rw[aF,if_neg hne];exact hg)
 have hgi:H'.get id=some (mpV s):=hle.get _ _ (by rw[aF,if_pos rfl,if_pos hl])
 obtain⟨v,H1,⟨hv,hH⟩,h⟩:=ok_sn3.2.1 rfl [ap t,.ptr c 0] H' (fun v H1=>v=.ret (.bool (adA t s).1)∧H1=H'.set id (mpV (adA t s).2)) ⟨t,id,s,⟨rfl,hgc,hgi,hs,hc.1,hc.2.1,hc.2.2⟩,rfl,rfl⟩
 subst hv hH
 exact h
def NP{H:AHeap}{c id:Nat}{t:STable}(hg:H.get c=some (.cells [.mapv id]))(hl:id<H.nx)(hne:c≠id)(hc:t.name.length≤140737488355328∧t.keys.length≤1000000∧∀ p∈t.keys,p.name.length≤140737488355328):Stp Tryz.prog au 244 [] [.ptr c 0] H id gdL adT t:=by
 intro s hs
 refine⟨(show gdL (adT t s).2 from kX hs ⟨show kTab.length≤140737488355328 from by decide,hc.1⟩),fun H' hle hcl'=>?_⟩
 have hgc:H'.get c=some (.cells [.mapv id]):=hle.get _ _ (by rw[aF,if_neg hne];exact hg)
 have hgi:H'.get id=some (mpV s):=hle.get _ _ (by rw[aF,if_pos rfl,if_pos hl])
 obtain⟨v,H1,⟨hv,hH⟩,h⟩:=ok_sn4.2.1 rfl [au t,.ptr c 0] H' (fun v H1=>v=.ret (.bool (adT t s).1)∧H1=H'.set id (mpV (adT t s).2)) ⟨t,id,s,⟨rfl,hgc,hgi,hs,hc.1,hc.2.1,hc.2.2⟩,rfl,rfl⟩
 subst hv hH
 exact h
def OX{H:AHeap}{c id:Nat}{t:SRole}(hg:H.get c=some (.cells [.mapv id]))(hl:id<H.nx)(hne:c≠id)(hc:t.name.length≤140737488355328):Stp Tryz.prog aP 247 [] [.ptr c 0] H id gdL (fun t=>adS kRol t.name) t:=by
 intro s hs
 refine⟨kX hs ⟨show kRol.length≤140737488355328 from by decide,hc⟩,fun H' hle hcl'=>?_⟩
 have hgc:H'.get c=some (.cells [.mapv id]):=hle.get _ _ (by rw[aF,if_neg hne];exact hg)
 have hgi:H'.get id=some (mpV s):=hle.get _ _ (by rw[aF,if_pos rfl,if_pos hl])
 obtain⟨v,H1,⟨hv,hH⟩,h⟩:=ok_sn5.2.1 rfl [aP t,.ptr c 0] H' (fun v H1=>v=.ret (.bool ((fun t=>adS kRol t.name) t s).1)∧H1=H'.set id (mpV ((fun t=>adS kRol t.name) t s).2)) ⟨t,id,s,⟨rfl,hgc,hgi,hs,hc⟩,rfl,rfl⟩
 subst hv hH
 exact h
def snB(S:Sch):Bool :=
 let a:=evS (fun(t:SField)=>adS kFld t.name) S.fields []
 let b:=evS (fun(t:SHeader)=>adS kHdr t.name) S.headers a.2
 let c:=evS adA S.actions b.2
 let d:=evS adT S.tables c.2
 let e:=evS (fun(t:SRole)=>adS kRol t.name) S.roles d.2
 a.1&&(b.1&&(c.1&&(d.1&&e.1)))
theorem qG{α:Type}{st:α→List VN→Bool × List VN}{g:List VN→Prop}:∀{l:List α}{s:List VN},g s→(∀ x∈l,∀ s,g s→g (st x s).2)→g (evS st l s).2
 |[],s,h,_=>h
 |x::l,s,h,hx=>by
  unfold evS
  have h1:=hx x List.mem_cons_self s h
  split
  ·exact qG h1 fun y hy=>hx y (List.mem_cons_of_mem _ hy)
  ·exact h1
def nk:PCt
 |[.agg l],_,K=>∃ S:Sch,(l=aR S∧SB S)∧K (.bool (snB S))
 |_,_,_=>False
def Qf:EPp 103 nk:=by
 refine Ype fun _ H K h=>?_
 unfold nk at h
 split at h<;>try exact h.elim
 rename_i l
 obtain⟨S,⟨rfl,hS⟩,hK⟩:=h
 refine⟨_,hK,?_⟩
 clear hK
 generalize hR:snB S=R
 unfold snB at hR
 have cF:∀ t∈S.fields,t.name.length≤140737488355328:=hS.fn
 have cH:∀ t∈S.headers,t.name.length≤140737488355328:=fun t ht=>(hS.hn t ht).1
 have cA:∀ t∈S.actions,t.name.length≤140737488355328∧t.params.length≤1000000∧∀ p∈t.params,p.name.length≤140737488355328:=fun t ht=>⟨(hS.an t ht).1,(hS.an t ht).2.1,(hS.an t ht).2.2.2⟩
 have cT:∀ t∈S.tables,t.name.length≤140737488355328∧t.keys.length≤1000000∧∀ p∈t.keys,p.name.length≤140737488355328:=fun t ht=>⟨(hS.tn t ht).1,(hS.tn t ht).2.1,(hS.tn t ht).2.2.2.2⟩
 have cR:∀ t∈S.roles,t.name.length≤140737488355328:=fun t ht=>(hS.rn t ht).1
 obtain⟨a,ha⟩:∃ a,evS (fun(t:SField)=>adS kFld t.name) S.fields []=a:=⟨_,rfl⟩
 obtain⟨b,hb⟩:∃ b,evS (fun(t:SHeader)=>adS kHdr t.name) S.headers a.2=b:=⟨_,rfl⟩
 obtain⟨c,hc⟩:∃ c,evS adA S.actions b.2=c:=⟨_,rfl⟩
 obtain⟨d,hd⟩:∃ d,evS adT S.tables c.2=d:=⟨_,rfl⟩
 obtain⟨e,he⟩:∃ e,evS (fun(t:SRole)=>adS kRol t.name) S.roles d.2=e:=⟨_,rfl⟩
 have g0:gdL []:=fun v hv=>by cases hv
 have ga:gdL a.2:=ha▸qG g0 fun x hx s hs=>kX hs ⟨show kFld.length≤140737488355328 from by decide,cF x hx⟩
 have gb:gdL b.2:=hb▸qG ga fun x hx s hs=>kX hs ⟨show kHdr.length≤140737488355328 from by decide,cH x hx⟩
 have gc:gdL c.2:=hc▸qG gb fun x hx s hs=>(show gdL (adA x s).2 from kX hs ⟨show kAct.length≤140737488355328 from by decide,(cA x hx).1⟩)
 have gd:gdL d.2:=hd▸qG gc fun x hx s hs=>(show gdL (adT x s).2 from kX hs ⟨show kTab.length≤140737488355328 from by decide,(cT x hx).1⟩)
 simp only[ha,hb,hc,hd,he]at hR
 refine Yfu aD (tCq J8 (tCq Hz (tCq L9 (tCq Ni (tCq Ma tNq))))) Tryz.func103 [.tmp 2] fun hcl=>?_
 simp only[go_sem,aR,ziw,ER]
 refine⟨S.fields,H.nx+1,[],(fun(t:SField)=>adS kFld t.name),gdL,⟨rfl,hS.sl.fl,Xl,g0,fun x hx=>Qe Xl X5 Xa (cF x hx)⟩,?_⟩
 simp only[ha]
 cases qa:a.1 with
 |false=>
  simp only[qa,Bool.false_and,Bool.and_false,Bool.true_and]at hR
  subst hR
  try simp only[aX,go_sem,aR,qa]
  exact Z1
 |true=>
  simp only[aX,go_sem,aR,DW,ha,qa]
  refine⟨S.headers,H.nx+1,a.2,(fun(t:SHeader)=>adS kHdr t.name),gdL,⟨rfl,hS.sl.hl,Xl,ga,fun x hx=>NQ Xl X5 Xa (cH x hx)⟩,?_⟩
  simp only[hb]
  cases qb:b.1 with
  |false=>
   simp only[qb,Bool.false_and,Bool.and_false,qa,Bool.true_and]at hR
   subst hR
   try simp only[aX,go_sem,aR,ha,qa,qb]
   exact Z1
  |true=>
   simp only[aX,go_sem,aR,DE,ha,qa,hb,qb]
   refine⟨S.actions,H.nx+1,b.2,adA,gdL,⟨rfl,hS.sl.al,Xl,gb,fun x hx=>NK Xl X5 Xa (cA x hx)⟩,?_⟩
   simp only[hc]
   cases qc:c.1 with
   |false=>
    simp only[qc,Bool.false_and,Bool.and_false,qa,qb,Bool.true_and]at hR
    subst hR
    try simp only[aX,go_sem,aR,ha,qa,hb,qb,qc]
    exact Z1
   |true=>
    simp only[aX,go_sem,aR,D5,ha,qa,hb,qb,hc,qc]
    refine⟨S.tables,H.nx+1,c.2,adT,gdL,⟨rfl,hS.sl.tl,Xl,gc,fun x hx=>NP Xl X5 Xa (cT x hx)⟩,?_⟩
    simp only[hd]
    cases qd:d.1 with
    |false=>
     simp only[qd,Bool.false_and,Bool.and_false,qa,qb,qc,Bool.true_and]at hR
     subst hR
     try simp only[aX,go_sem,aR,ha,qa,hb,qb,hc,qc,qd]
     exact Z1
    |true=>
     simp only[aX,go_sem,aR,Et,ha,qa,hb,qb,hc,qc,hd,qd]
     refine⟨S.roles,H.nx+1,d.2,(fun(t:SRole)=>adS kRol t.name),gdL,⟨rfl,hS.sl.rl,Xl,gd,fun x hx=>OX Xl X5 Xa (cR x hx)⟩,?_⟩
     simp only[he]
     cases qe:e.1 with
     |false=>
      simp only[qe,Bool.false_and,Bool.and_false,qa,qb,qc,qd,Bool.true_and]at hR
      subst hR
      try simp only[aX,go_sem,aR,ha,qa,hb,qb,hc,qc,hd,qd,qe]
      exact Z1
     |true=>
      simp only[qa,qb,qc,qd,qe,Bool.true_and]at hR
      subst hR
      try simp only[aX,go_sem,aR,ha,qa,hb,qb,hc,qc,hd,qd,he,qe]
      exact Z1
structure SI(S:Sch):Prop where
 fi:∀ x∈S.fields,i64 x.id
 hi:∀ x∈S.headers,i64 x.id
 si:∀ x∈S.states,i64 x.id
 ai:∀ x∈S.actions,i64 x.id
 ti:∀ x∈S.tables,i64 x.id∧∀ a∈x.actions,i64 a
 ri:∀ x∈S.roles,i64 x.id∧(∀ a∈x.actions,i64 a)∧∀ g∈x.grants,i64 g.table
 ui:∀ n∈S.headers.flatMap (·.fields),i64 n
 ul:(S.headers.flatMap (·.fields)).length≤1000000
def D2:PCt
 |[.int .i64 n],_,K=>K (.int .i64 n)
 |_,_,_=>False
def ok_eSame:EPp 105 D2:=by
 refine Ype fun _ H K h=>?_
 unfold D2 at h
 split at h<;>try exact h.elim
 refine⟨_,h,?_⟩
 clear h
 refine Yfu aD tNq Tryz.func105 [.tmp 2] fun hcl=>?_
 exact Y32
def Ro:PCt
 |[x],_,K=>∃ t:SField,x=aJ t∧K (.int .i64 t.id)
 |_,_,_=>False
def RK:EPp 92 Ro:=by
 refine Ype fun _ H K h=>?_
 unfold Ro at h
 split at h<;>try exact h.elim
 rename_i x
 obtain⟨t,rfl,hK⟩:=h
 refine⟨_,hK,?_⟩
 clear hK
 unfold aJ
 refine Yfu aD tNq Tryz.func92 [.tmp 2] fun hcl=>?_
 exact Y32
def Ru:PCt
 |[x],_,K=>∃ t:SHeader,x=az t∧K (.int .i64 t.id)
 |_,_,_=>False
def Sj:EPp 94 Ru:=by
 refine Ype fun _ H K h=>?_
 unfold Ru at h
 split at h<;>try exact h.elim
 rename_i x
 obtain⟨t,rfl,hK⟩:=h
 refine⟨_,hK,?_⟩
 clear hK
 unfold az
 refine Yfu aD tNq Tryz.func94 [.tmp 2] fun hcl=>?_
 exact Y32
def RI:PCt
 |[x],_,K=>∃ t:SState,x=aE t∧K (.int .i64 t.id)
 |_,_,_=>False
def R4:EPp 96 RI:=by
 refine Ype fun _ H K h=>?_
 unfold RI at h
 split at h<;>try exact h.elim
 rename_i x
 obtain⟨t,rfl,hK⟩:=h
 refine⟨_,hK,?_⟩
 clear hK
 unfold aE
 refine Yfu aD tNq Tryz.func96 [.tmp 2] fun hcl=>?_
 exact Y32
def Q8:PCt
 |[x],_,K=>∃ t:SAction,x=ap t∧K (.int .i64 t.id)
 |_,_,_=>False
def RM:EPp 98 Q8:=by
 refine Ype fun _ H K h=>?_
 unfold Q8 at h
 split at h<;>try exact h.elim
 rename_i x
 obtain⟨t,rfl,hK⟩:=h
 refine⟨_,hK,?_⟩
 clear hK
 unfold ap
 refine Yfu aD tNq Tryz.func98 [.tmp 2] fun hcl=>?_
 exact Y32
def RB:PCt
 |[x],_,K=>∃ t:STable,x=au t∧K (.int .i64 t.id)
 |_,_,_=>False
def SY:EPp 100 RB:=by
 refine Ype fun _ H K h=>?_
 unfold RB at h
 split at h<;>try exact h.elim
 rename_i x
 obtain⟨t,rfl,hK⟩:=h
 refine⟨_,hK,?_⟩
 clear hK
 unfold au
 refine Yfu aD tNq Tryz.func100 [.tmp 2] fun hcl=>?_
 exact Y32
def Q5:PCt
 |[x],_,K=>∃ t:SRole,x=aP t∧K (.int .i64 t.id)
 |_,_,_=>False
def SF:EPp 102 Q5:=by
 refine Ype fun _ H K h=>?_
 unfold Q5 at h
 split at h<;>try exact h.elim
 rename_i x
 obtain⟨t,rfl,hK⟩:=h
 refine⟨_,hK,?_⟩
 clear hK
 unfold aP
 refine Yfu aD tNq Tryz.func102 [.tmp 2] fun hcl=>?_
 exact Y32
def Iq:PCt
 |[x],_,K=>∃ t:SGrant,x=aK t∧K (.int .i64 t.table)
 |_,_,_=>False
def Ph:EPp 109 Iq:=by
 refine Ype fun _ H K h=>?_
 unfold Iq at h
 split at h<;>try exact h.elim
 rename_i x
 obtain⟨t,rfl,hK⟩:=h
 refine⟨_,hK,?_⟩
 clear hK
 unfold aK
 refine Yfu aD tNq Tryz.func109 [.tmp 2] fun hcl=>?_
 exact Y32
def Rp:PCt
 |[x],H,K=>∃ t:STable,(x=au t∧t.actions.length≤1000000∧∀ a∈t.actions,i64 a)∧K (.bool (dsF [] (t.actions.map fun n=>n)))
 |_,_,_=>False
def Td:EPp 106 Rp:=by
 refine Ype fun _ H K h=>?_
 unfold Rp at h
 split at h<;>try exact h.elim
 rename_i x
 obtain⟨t,⟨rfl,hc⟩,hK⟩:=h
 refine⟨_,hK,?_⟩
 clear hK
 generalize hR:(dsF [] (t.actions.map fun n=>n))=R
 unfold au
 refine Yfu aD (tCq wd tNq) Tryz.func106 [.tmp 2] fun hcl=>?_
 simp only[go_sem,iL]
 refine⟨t.actions,(fun n=>n),⟨rfl,hc.1,fun x hx=>⟨hc.2 x hx,fun H' hle' hcl'=>by
  obtain⟨v,hv,hc'⟩:=ok_eSame.1 rfl [.int .i64 x] H' (fun v=>v=.int .i64 x) rfl
  subst hv
  exact hc'⟩⟩,?_⟩
 cases c0:dsF [] (t.actions.map fun n=>n)with
 |false=>
  rw[c0]at hR
  subst hR
  try simp only[go_sem,iL,c0]
  exact Y8
 |true=>
 rw[c0]at hR
 subst hR
 try simp only[go_sem,iL,c0]
 exact Y8
def rlB(t:SRole):Bool:=dsF [] (t.actions.map fun n=>n)&&dsF [] (t.grants.map (·.table))
def Rz:PCt
 |[x],H,K=>∃ t:SRole,(x=aP t∧(t.actions.length≤1000000∧t.grants.length≤1000000∧(∀ a∈t.actions,i64 a)∧∀ g∈t.grants,i64 g.table))∧K (.bool (rlB t))
 |_,_,_=>False
def RL:EPp 107 Rz:=by
 refine Ype fun _ H K h=>?_
 unfold Rz at h
 split at h<;>try exact h.elim
 rename_i x
 obtain⟨t,⟨rfl,hc⟩,hK⟩:=h
 refine⟨_,hK,?_⟩
 clear hK
 generalize hR:(rlB t)=R
 unfold aP
 refine Yfu aD (tCq wd (tCq KG tNq)) Tryz.func107 [.tmp 2] fun hcl=>?_
 unfold rlB at hR
 simp only[go_sem,iL]
 refine⟨t.actions,(fun n=>n),⟨rfl,hc.1,fun x hx=>⟨hc.2.2.1 x hx,fun H' hle' hcl'=>by
  obtain⟨v,hv,hc'⟩:=ok_eSame.1 rfl [.int .i64 x] H' (fun v=>v=.int .i64 x) rfl
  subst hv
  exact hc'⟩⟩,?_⟩
 cases c0:dsF [] (t.actions.map fun n=>n)with
 |false=>
  rw[c0,Bool.false_and]at hR
  subst hR
  try simp only[go_sem,iL,c0]
  exact Y8
 |true=>
 rw[c0,Bool.true_and]at hR
 try simp only[go_sem,iL,sP,c0]
 refine⟨t.grants,(·.table),⟨rfl,hc.2.1,fun x hx=>⟨hc.2.2.2 x hx,fun H' hle' hcl'=>clB Ph ⟨x,rfl,rfl⟩⟩⟩,?_⟩
 cases c1:dsF [] (t.grants.map (·.table))with
 |false=>
  rw[c1]at hR
  subst hR
  try simp only[go_sem,iL,sP,c0,c1]
  exact Y8
 |true=>
 rw[c1]at hR
 subst hR
 try simp only[go_sem,iL,sP,c0,c1]
 exact Y8
def oL(S:Sch):Bool:=dsF [] (S.fields.map (·.id))&&(dsF [] (S.headers.map (·.id))&&(dsF [] (S.states.map (·.id))&&(dsF [] (S.actions.map (·.id))&&(dsF [] (S.tables.map (·.id))&&(dsF [] (S.roles.map (·.id))&&(snB S&&(dsF [] ((S.headers.flatMap (·.fields)).map fun n=>n)&&(S.tables.all (fun t=>dsF [] (t.actions.map fun n=>n))&&(S.roles.all rlB)))))))))
def nM:PCt
 |[.agg l],_,K=>∃ S:Sch,(l=aR S∧SB S∧SI S)∧K (.bool (oL S))
 |_,_,_=>False
def M1:EPp 26 nM:=by
 refine Ype fun _ H K h=>?_
 unfold nM at h
 split at h<;>try exact h.elim
 rename_i l
 obtain⟨S,⟨rfl,hS,hI⟩,hK⟩:=h
 refine⟨_,hK,?_⟩
 clear hK
 generalize hR:oL S=R
 unfold oL at hR
 have hul:=hI.ul
 have hui:=hI.ui
 generalize hU:S.headers.flatMap (·.fields)=U at *
 have hhl:=hS.sl.hl
 have hrun:∀ Hc m,(H.push (.cells (aR S))).Le Hc→Hc.Closed→AV.lt Hc.nx (.slice m 1 (inL U))→True:=fun _ _ _ _ _=>trivial
 refine Yfv aD (tCq It (tCq Jx (tCq K8 (tCq MW (tCq Mu (tCq Ip (tCq Qf (tCq wd (tCq oI (tCq qK tNq)))))))))) Tryz.func26 [.tmp 2] fun hcl hlt=>?_
 have hx:=AV.lt_mono (Nat.le_succ H.nx) _ (hlt _ List.mem_cons_self)
 have hm:∀ n',H.nx≤n'→AV.lt n' (.slice .any 3 (S.headers.map az)):=fun n' hn=>AV.lt_mono hn _ (by have h1:=hlt _ List.mem_cons_self;simp only[znp,aR,zns]at h1;exact h1.2.1)
 clear hlt hrun
 simp only[znp]at hx
 have hcp:=ah hcl hx
 have hg0:(H.push (.cells (aR S))).get H.nx=some (.cells (aR S)):=AHeap.get_push_new _ _
 obtain⟨Hb,hHb⟩:∃ Hb,H.push (.cells (aR S))=Hb:=⟨_,rfl⟩
 have hnb:Hb.nx=H.nx+1:=by rw[← hHb];rfl
 have hHle:H.Le Hb:=by rw[← hHb];exact(lRq _).push _
 rw[hHb]at hcp hg0
 unfold aR at hHb hg0 ⊢
 have hne0:(H.nx=Hb.nx)=False:=eFo
 have hlo:∀ n' (L':List Int),H.nx+1<n'→AV.lt n' (.slice (.own (H.nx+1)) 1 (inL L')):=fun n' L' h=>by
  exact Y83
 have hcs0:=aB hg0
 simp only[go_sem,hHb,ybb,hne0,hcs0]
 try simp only[go_sem,ybb]
 refine aG (A:=Nat × List Int × AHeap) (fun a=>[(1,.ptr H.nx 0),(3,.slice (.own Hb.nx) 1 (inL a.2.1)),(7,.slice .any 3 (S.headers.map az)),(8,.int .i64 (S.headers.length:Int)),(9,.int .i64 (a.1:Int))]) (fun a=>a.2.2)
  (fun a=>a.1≤S.headers.length∧a.2.1++(S.headers.drop a.1).flatMap (·.fields)=U∧Hb.Le a.2.2∧a.2.2.Closed∧a.2.2.get Hb.nx=some (.buf 1 a.2.1.length)) (fun a=>S.headers.length-a.1) (0,[],Hb.push (.buf 1 0)) ⟨Nat.zero_le _,hU,(lRq _).push _,aY hcp,AHeap.get_push_new _ _⟩ ?_ fun a ha=>?_
 ·have hcb:=@aY Hb 1 0 hcp
  simp only[inL,yaf]
  (simp only[bkq,enterW,bg,ltF,ne_eq,Nat.reduceEqDiff,reduceCtorEq,hm,hnb,hcb];try simp (disch:=first|exact Zd|omega) [↓zmm,beq,ybc,ybd,ybe,ag,wk,wk2,wk1,wkM,wkL,ay,ybf,byq,biq,eN,hcl,hm,hnb,hcb];try(repeat' (first|assumption|omega|exact True.intro|refine And.intro ?_ ?_|refine aY ?_|refine bf ?_|refine ah ?_ ?_|refine bA ?_ ?_|refine dJ ?_|exact lRq _|refine lPq ?_ _|refine AHeap.Le.del ?_ ?_|(simp only[bt,and_true,true_and,hm,hnb,hcb];first|done|omega|(simp;done)))))
 obtain⟨k,L,Hc⟩:=a
 obtain⟨hk,hL,hle,hcc,hid⟩:=ha
 dsimp only at hk hL hle hcc hid ⊢
 have hlen:L.length≤U.length:=by rw[← hL,lAq];omega
 have hlnx:Hb.nx<Hc.nx:=glq hid
 refine Tq20 ?_
 refine ax (fun hc=>?_) (fun hc=>?_)
 ·have hk':k<S.headers.length:=sHc
  obtain⟨x,hx⟩:∃ x,x=S.headers[k]:=⟨_,rfl⟩
  have hd:S.headers.drop k=x::S.headers.drop (k+1):=by rw[hx];exact dcq hk'
  have hg':=a9 (f:=az) (l:=S.headers) (k:=k) (x:=x) (by rw[gQq hk',hx])
  have e5:=Yk5 k
  have hcs:az x=.agg [.int .i64 x.id,.str x.name,.slice .any 1 (inL x.fields)]:=rfl
  rw[hcs]at hg'
  rw[hd,List.flatMap_cons,← List.append_assoc]at hL
  simp only[go_sem,iNq,ybb,hg',e5]
  have hln:(inL L).length=L.length:=Xp
  have hlx:(inL x.fields).length=x.fields.length:=Xp
  have hlx2:L.length+x.fields.length≤U.length:=by rw[← hL];simp only[lAq];omega
  have hin:inL L++inL x.fields=inL (L++x.fields):=Xp
  refine⟨⟨Xa,Xa⟩,⟨by rw[if_neg (by omega),hln];exact hid,by rw[hln,hlx];omega,by rw[hln,hlx];omega,fun z hz=>?_⟩,(k+1,L++x.fields,Hc.set Hb.nx (.buf 1 (L++x.fields).length)),⟨Xd,hL,cJ hle (nrq _),bf hcc,?_⟩,Xd,?_⟩
  ·simp only[inL,List.mem_map]at hz
   obtain⟨n,_,rfl⟩:=hz
   rfl
  ·dsimp only
   rw[aF,if_pos rfl,if_pos hlnx]
  ·have hcb:=@bf Hc Hb.nx 1 (L++x.fields).length hcc
   have hne1:(Hb.nx=Hc.nx)=False:=eFo
   have hll:(inL L).length+(inL x.fields).length=(L++x.fields).length:=by rw[hln,hlx,lAq]
   simp only[hin,hll,hne1,if_false]
   (simp only[bkq,enterW,bg,ltF,ne_eq,Nat.reduceEqDiff,reduceCtorEq,hm,hnb,hcb];try simp (disch:=first|exact Zd|omega) [↓zmm,beq,ybc,ybd,ybe,ag,wk,wk2,wk1,wkM,wkL,ay,ybf,byq,biq,eN,hcl,hm,hnb,hcb];try(repeat' (first|assumption|omega|exact True.intro|refine And.intro ?_ ?_|refine aY ?_|refine bf ?_|refine ah ?_ ?_|refine bA ?_ ?_|refine dJ ?_|exact lRq _|refine lPq ?_ _|refine AHeap.Le.del ?_ ?_|(simp only[bt,and_true,true_and,hm,hnb,hcb];first|done|omega|(simp;done)))))
   exact hlo _ _ Xa
 ·have hk':k=S.headers.length:=sHc
  subst hk'
  rw[List.drop_length,List.flatMap_nil,yaj]at hL
  subst hL
  have hgc:=hle.get _ _ hg0
  have hcs1:=aB hgc
  have hne1:(H.nx=Hc.nx)=False:=eFo
  skip
  have hHl:=hHle.trans hle
  clear hHb hg0 hcs0 hcp hx hm hlo
  simp only[go_sem,hgc,hcs1,hne1,hnb,gm]
  refine⟨S.fields,(·.id),⟨rfl,hS.sl.fl,fun x hx=>⟨hI.fi x hx,fun H' hle' hcl'=>clB RK ⟨x,rfl,rfl⟩⟩⟩,?_⟩
  cases c0:dsF [] (S.fields.map (·.id))with
  |false=>
   rw[c0,Bool.false_and]at hR
   subst hR
   try simp only[go_sem,hgc,hcs1,hne1,hnb,gm,c0]
   exact Y52
  |true=>
  rw[c0,Bool.true_and]at hR
  try simp only[go_sem,hgc,hcs1,hne1,hnb,gm,gE,c0]
  refine⟨S.headers,(·.id),⟨rfl,hS.sl.hl,fun x hx=>⟨hI.hi x hx,fun H' hle' hcl'=>clB Sj ⟨x,rfl,rfl⟩⟩⟩,?_⟩
  cases c1:dsF [] (S.headers.map (·.id))with
  |false=>
   rw[c1,Bool.false_and]at hR
   subst hR
   try simp only[go_sem,hgc,hcs1,hne1,hnb,gm,gE,c0,c1]
   exact Y52
  |true=>
  rw[c1,Bool.true_and]at hR
  try simp only[go_sem,hgc,hcs1,hne1,hnb,gm,gE,hY,c0,c1]
  refine⟨S.states,(·.id),⟨rfl,hS.sl.sl,fun x hx=>⟨hI.si x hx,fun H' hle' hcl'=>clB R4 ⟨x,rfl,rfl⟩⟩⟩,?_⟩
  cases c2:dsF [] (S.states.map (·.id))with
  |false=>
   rw[c2,Bool.false_and]at hR
   subst hR
   try simp only[go_sem,hgc,hcs1,hne1,hnb,gm,gE,hY,c0,c1,c2]
   exact Y52
  |true=>
  rw[c2,Bool.true_and]at hR
  try simp only[go_sem,hgc,hcs1,hne1,hnb,gm,gE,hY,iI,c0,c1,c2]
  refine⟨S.actions,(·.id),⟨rfl,hS.sl.al,fun x hx=>⟨hI.ai x hx,fun H' hle' hcl'=>clB RM ⟨x,rfl,rfl⟩⟩⟩,?_⟩
  cases c3:dsF [] (S.actions.map (·.id))with
  |false=>
   rw[c3,Bool.false_and]at hR
   subst hR
   try simp only[go_sem,hgc,hcs1,hne1,hnb,gm,gE,hY,iI,c0,c1,c2,c3]
   exact Y52
  |true=>
  rw[c3,Bool.true_and]at hR
  try simp only[go_sem,hgc,hcs1,hne1,hnb,gm,gE,hY,iI,js,c0,c1,c2,c3]
  refine⟨S.tables,(·.id),⟨rfl,hS.sl.tl,fun x hx=>⟨(hI.ti x hx).1,fun H' hle' hcl'=>clB SY ⟨x,rfl,rfl⟩⟩⟩,?_⟩
  cases c4:dsF [] (S.tables.map (·.id))with
  |false=>
   rw[c4,Bool.false_and]at hR
   subst hR
   try simp only[go_sem,hgc,hcs1,hne1,hnb,gm,gE,hY,iI,js,c0,c1,c2,c3,c4]
   exact Y52
  |true=>
  rw[c4,Bool.true_and]at hR
  try simp only[go_sem,hgc,hcs1,hne1,hnb,gm,gE,hY,iI,js,j9,c0,c1,c2,c3,c4]
  refine⟨S.roles,(·.id),⟨rfl,hS.sl.rl,fun x hx=>⟨(hI.ri x hx).1,fun H' hle' hcl'=>clB SF ⟨x,rfl,rfl⟩⟩⟩,?_⟩
  cases c5:dsF [] (S.roles.map (·.id))with
  |false=>
   rw[c5,Bool.false_and]at hR
   subst hR
   try simp only[go_sem,hgc,hcs1,hne1,hnb,gm,gE,hY,iI,js,j9,c0,c1,c2,c3,c4,c5]
   exact Y52
  |true=>
  rw[c5,Bool.true_and]at hR
  try simp only[go_sem,hgc,hcs1,hne1,hnb,gm,gE,hY,iI,js,j9,nk,c0,c1,c2,c3,c4,c5]
  refine⟨S,⟨rfl,hS⟩,?_⟩
  cases c6:snB S with
  |false=>
   rw[c6,Bool.false_and]at hR
   subst hR
   try simp only[go_sem,hgc,hcs1,hne1,hnb,gm,gE,hY,iI,js,j9,nk,c0,c1,c2,c3,c4,c5,c6]
   exact Y52
  |true=>
  rw[c6,Bool.true_and]at hR
  try simp only[go_sem,hgc,hcs1,hne1,hnb,gm,gE,hY,iI,js,j9,nk,iL,c0,c1,c2,c3,c4,c5,c6]
  refine⟨L,(fun n=>n),⟨rfl,hul,fun x hx=>⟨hui x hx,fun H' hle' hcl'=>by
   obtain⟨v,hv,hc'⟩:=ok_eSame.1 rfl [.int .i64 x] H' (fun v=>v=.int .i64 x) rfl
   subst hv
   exact hc'⟩⟩,?_⟩
  cases c7:dsF [] (L.map fun n=>n)with
  |false=>
   rw[c7,Bool.false_and]at hR
   subst hR
   try simp only[go_sem,hgc,hcs1,hne1,hnb,gm,gE,hY,iI,js,j9,nk,iL,c0,c1,c2,c3,c4,c5,c6,c7]
   exact Y52
  |true=>
  rw[c7,Bool.true_and]at hR
  try simp only[go_sem,hgc,hcs1,hne1,hnb,gm,gE,hY,iI,js,j9,nk,iL,bW,c0,c1,c2,c3,c4,c5,c6,c7]
  refine⟨S.tables,(fun t=>dsF [] (t.actions.map fun n=>n)),⟨rfl,hS.sl.tl,fun x hx H' hle' hcl'=>clB Td ⟨x,⟨rfl,⟨(hS.tn x hx).2.2.1,(hI.ti x hx).2⟩⟩,rfl⟩⟩,?_⟩
  cases c8:S.tables.all (fun t=>dsF [] (t.actions.map fun n=>n))with
  |false=>
   rw[c8,Bool.false_and]at hR
   subst hR
   try simp only[go_sem,hgc,hcs1,hne1,hnb,gm,gE,hY,iI,js,j9,nk,iL,bW,c0,c1,c2,c3,c4,c5,c6,c7,c8]
   exact Y52
  |true=>
  rw[c8,Bool.true_and]at hR
  try simp only[go_sem,hgc,hcs1,hne1,hnb,gm,gE,hY,iI,js,j9,nk,iL,bW,cL,c0,c1,c2,c3,c4,c5,c6,c7,c8]
  refine⟨S.roles,rlB,⟨rfl,hS.sl.rl,fun x hx H' hle' hcl'=>clB RL ⟨x,⟨rfl,⟨(hS.rn x hx).2.2.1,(hS.rn x hx).2.1,(hI.ri x hx).2.1,(hI.ri x hx).2.2⟩⟩,rfl⟩⟩,?_⟩
  cases c9:S.roles.all rlB with
  |false=>
   rw[c9]at hR
   subst hR
   refine Tq76 ?_
   exact Y52
  |true=>
  rw[c9]at hR
  subst hR
  refine Tq76 ?_
  exact Y52
end Go.AL
