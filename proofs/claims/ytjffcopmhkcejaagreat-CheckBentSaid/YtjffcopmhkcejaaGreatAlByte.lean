/- Lemmas of the proof; no condition. -/
import Derived.Test.YtjffcopmhkcejaaGreatAlSimp
import Derived.Test.YtjffcopmhkcejaaGreatAlSound17
set_option linter.all false
namespace Go.AL
theorem zac{P:Program}{Ω:Tbl}{K:Conts}{fr:Fr}{H:AHeap}{c:Code}:aw P Ω (.scope c) K fr H=aw P Ω c K fr H:=(rfl)
@[congr] theorem Tw{P:Program}{Ω:Tbl}{c:Code}{K:Conts}{fr:Fr}{H:AHeap}:aw P Ω c K fr H=aw P Ω c K fr H:=(rfl)
@[congr] theorem RD{P:Program}{Ω:Tbl}{ops:Array Oper}{rest:List Oper}{K:Vz}{Kp:Fr→AV→AHeap→Prop}{fr:Fr}{H:AHeap}:cC P Ω ops rest K Kp fr H=cC P Ω ops rest K Kp fr H:=(rfl)
@[congr] theorem Ts{P:Program}{Ω:Tbl}{ops:Array Oper}{rest:List Oper}{hs:HS}{ps:List (Nat × (AHeap→Prop))}{K:Vz}{fr:Fr}{H:AHeap}:awD P Ω ops rest hs ps K fr H=awD P Ω ops rest hs ps K fr H:=(rfl)
@[congr] theorem RQ{t:Bool}{A B A' B':Prop}{t':Bool}(h:t=t')(h1:A=A')(h2:B=B'):pV t A B=pV t' A' B':=by rw[h,h1,h2]
theorem zlc{H:AHeap}{o:AObj}:(H.push o).nx=H.nx+1:=(rfl)
theorem zld{H:AHeap}{i:Nat}{o:AObj}:(H.set i o).nx=H.nx:=(rfl)
def zlf{H:AHeap}{o:AObj}{i:Nat}:(H.push o).get i=if i=H.nx then some o else H.get i:=by
 unfold AHeap.get AHeap.push
 by_cases h:i=H.nx
 ·subst h;simp
 ·by_cases h2:i<H.nx
  ·simp[h,h2,Nat.lt_succ_of_lt h2]
  ·simp only[h,if_false,h2];split<;>first|omega|rfl
def zlg{H:AHeap}{o o':AObj}{i:Nat}:(H.push o).set i o'=if i=H.nx then H.push o' else(H.set i o').push o:=by
 split
 ·rename_i h;subst h
  unfold AHeap.set AHeap.push;congr 1;funext j;by_cases hj:j=H.nx<;>simp[hj]
 ·rename_i h
  unfold AHeap.set AHeap.push;congr 1;funext j
  simp only
  by_cases h1:j=i
  ·subst h1;simp[h]
  ·simp[h1]
def zlh{H:AHeap}{i:Nat}{o o':AObj}:(H.set i o).set i o'=H.set i o':=by
 unfold AHeap.set;congr 1;funext j;simp only;split<;>rfl
def aF{H:AHeap}{i j:Nat}{o:AObj}:(H.set i o).get j=if j=i then(if i<H.nx then some o else none)else H.get j:=by
 unfold AHeap.get AHeap.set
 by_cases h:j=i
 ·subst h;simp
 ·simp[h]
def aB{H:AHeap}{id:Nat}{cs:Wz}(h:H.get id=some (.cells cs)):a8 H id=some cs:=by simp[a8,h]
def zle{H:AHeap}{o:AObj}{i:Nat}:a8 (H.push o) i=if i=H.nx then(match o with|.cells cs=>some cs|_=>none)else a8 H i:=by
 unfold a8
 rw[zlf]
 by_cases h:i=H.nx
 ·simp only[h,if_true];cases o<;>rfl
 ·simp only[h,if_false]
def tM{H:AHeap}{i j:Nat}{cs:Wz}(hi:i<H.nx):a8 (H.set i (.cells cs)) j=if j=i then some cs else a8 H j:=by
 unfold a8
 rw[aF]
 by_cases h:j=i
 ·simp only[h,if_true,hi]
 ·simp only[h,if_false]
theorem zmu{H:AHeap}:H.Le H=True:=eq_true (AHeap.Le.refl H)
theorem zmv{H:AHeap}{o1:AObj}:H.Le (H.push o1)=True:=eq_true ((AHeap.Le.refl H).push _)
theorem zmw{H:AHeap}{o1 o2:AObj}:H.Le ((H.push o1).push o2)=True:=eq_true (((AHeap.Le.refl H).push _).push _)
theorem zmx{H:AHeap}{o1 o2 o3:AObj}:H.Le (((H.push o1).push o2).push o3)=True:=eq_true ((((AHeap.Le.refl H).push _).push _).push _)
theorem zmy{H:AHeap}{o1 o2 o3 o4:AObj}:H.Le ((((H.push o1).push o2).push o3).push o4)=True:=eq_true (((((AHeap.Le.refl H).push _).push _).push _).push _)
theorem zmz{H:AHeap}{o1 o2 o3 o4 o5:AObj}:H.Le (((((H.push o1).push o2).push o3).push o4).push o5)=True:=eq_true ((((((AHeap.Le.refl H).push _).push _).push _).push _).push _)
theorem zna{H:AHeap}{o1 o2 o3 o4 o5 o6:AObj}:H.Le ((((((H.push o1).push o2).push o3).push o4).push o5).push o6)=True:=eq_true (((((((AHeap.Le.refl H).push _).push _).push _).push _).push _).push _)
theorem znb{H:AHeap}{o1 o2 o3 o4 o5 o6 o7:AObj}:H.Le (((((((H.push o1).push o2).push o3).push o4).push o5).push o6).push o7)=True:=eq_true ((((((((AHeap.Le.refl H).push _).push _).push _).push _).push _).push _).push _)
theorem znc{H:AHeap}{o1 o2 o3 o4 o5 o6 o7 o8:AObj}:H.Le ((((((((H.push o1).push o2).push o3).push o4).push o5).push o6).push o7).push o8)=True:=eq_true (((((((((AHeap.Le.refl H).push _).push _).push _).push _).push _).push _).push _).push _)
theorem zny{H:AHeap}{q1 o1:AObj}:(H.push q1).Le ((H.push q1).push o1)=True:=eq_true ((AHeap.Le.refl (H.push q1)).push _)
theorem znz{H:AHeap}{q1 q2 o1:AObj}:((H.push q1).push q2).Le (((H.push q1).push q2).push o1)=True:=eq_true ((AHeap.Le.refl ((H.push q1).push q2)).push _)
theorem zoa{H:AHeap}{q1 o1 o2:AObj}:(H.push q1).Le (((H.push q1).push o1).push o2)=True:=eq_true (((AHeap.Le.refl (H.push q1)).push _).push _)
theorem zob{H:AHeap}{q1 q2 o1 o2:AObj}:((H.push q1).push q2).Le ((((H.push q1).push q2).push o1).push o2)=True:=eq_true (((AHeap.Le.refl ((H.push q1).push q2)).push _).push _)
theorem zoc{H:AHeap}{q1 o1 o2 o3:AObj}:(H.push q1).Le ((((H.push q1).push o1).push o2).push o3)=True:=eq_true ((((AHeap.Le.refl (H.push q1)).push _).push _).push _)
theorem zOd{H:AHeap}{q1 q2 o1 o2 o3:AObj}:((H.push q1).push q2).Le (((((H.push q1).push q2).push o1).push o2).push o3)=True:=eq_true ((((AHeap.Le.refl ((H.push q1).push q2)).push _).push _).push _)
theorem zoe{H:AHeap}{q1 o1 o2 o3 o4:AObj}:(H.push q1).Le (((((H.push q1).push o1).push o2).push o3).push o4)=True:=eq_true (((((AHeap.Le.refl (H.push q1)).push _).push _).push _).push _)
theorem zof{H:AHeap}{q1 q2 o1 o2 o3 o4:AObj}:((H.push q1).push q2).Le ((((((H.push q1).push q2).push o1).push o2).push o3).push o4)=True:=eq_true (((((AHeap.Le.refl ((H.push q1).push q2)).push _).push _).push _).push _)
theorem zog{H:AHeap}{q1 o1 o2 o3 o4 o5:AObj}:(H.push q1).Le ((((((H.push q1).push o1).push o2).push o3).push o4).push o5)=True:=eq_true ((((((AHeap.Le.refl (H.push q1)).push _).push _).push _).push _).push _)
theorem zoh{H:AHeap}{q1 q2 o1 o2 o3 o4 o5:AObj}:((H.push q1).push q2).Le (((((((H.push q1).push q2).push o1).push o2).push o3).push o4).push o5)=True:=eq_true ((((((AHeap.Le.refl ((H.push q1).push q2)).push _).push _).push _).push _).push _)
def zmt{H:AHeap}{i:Nat}(h:H.nx≤i):H.get i=none:=by
 unfold AHeap.get;rw[if_neg (Xa)]
section
variable {P:Program} {rs:List ResultVar} {n0:Nat} {e:AEnd} {H1 H:AHeap} {fr:Fr} {x:AV} {s t u:Nat}
theorem zkm{Q:By1}{T:Nat→List (List Nat)}:(wI P rs n0 Q T).r fr H=kc P rs n0 Q fr H:=(rfl)
theorem zkn{Q:By1}{T:Nat→List (List Nat)}:(wI P rs n0 Q T).n fr H=kc P rs n0 Q fr H:=(rfl)
theorem zko{Q:By1}{T:Nat→List (List Nat)}:(wI P rs n0 Q T).n0=n0:=(rfl)
theorem zeh{Q:By1}{T:Nat→List (List Nat)}:(wI P rs n0 Q T).T=T:=(rfl)
def zU(n0:Nat)(Q:By1)(v:AV)(H:AHeap):Prop:=∃ x H1,Q x H1∧n0≤H1.nx∧ag H v H1 x
def zkp{Q:By1}:kc P [] n0 Q fr H=zU n0 Q (.tup []) H:=by simp[kc,n8,one,zU]
def zkq{Q:By1}:kc P [.tmp t] n0 Q fr H=zU n0 Q (Fr.get fr t) H:=by simp[kc,n8,rP,one,zU]
def zkr{Q:By1}:kc P [.tmp t,.tmp s] n0 Q fr H=zU n0 Q (.tup [Fr.get fr t,Fr.get fr s]) H:=by simp[kc,n8,rP,one,zU]
def zks{Q:By1}{ty:TypeId}:kc P [.cell t ty] n0 Q fr H=match zjg P ty (Fr.get fr t) H with|some r=>r.c∧zU n0 Q r.v H|none=>False:=by
 simp only[kc,n8,rP]
 cases zjg P ty (Fr.get fr t) H with
 |none=>rfl
 |some r=>simp[one,zU]
theorem zeg{T:Nat→List (List Nat)}:(sQ P rs n0 e H1 T).T=T:=(rfl)
theorem zkk{T:Nat→List (List Nat)}:(sQ P rs n0 e H1 T).r fr H=iF P rs e H1 fr H:=(rfl)
theorem zkt{T:Nat→List (List Nat)}:(sQ P rs n0 e H1 T).n0=n0:=(rfl)
theorem zkl{T:Nat→List (List Nat)}:(sQ P rs n0 e H1 T).n fr H=iF P rs e H1 fr H:=(rfl)
theorem zku{T:Nat→List (List Nat)}{y:AV}{fr:Fr}:(sQ P rs n0 (.panic x) H1 T).p fr y H=ag H y H1 x:=(rfl)
theorem zkv{T:Nat→List (List Nat)}{y:AV}{fr:Fr}:(sQ P rs n0 (.ret x) H1 T).p fr y H=False:=(rfl)
def zkw:iF P [] (.ret x) H1 fr H=ag H (.tup []) H1 x:=by simp[iF,n8,one]
def zkx:iF P [.tmp t] (.ret x) H1 fr H=ag H (Fr.get fr t) H1 x:=by simp[iF,n8,rP,one]
def zky:iF P [.tmp t,.tmp s] (.ret x) H1 fr H=ag H (.tup [Fr.get fr t,Fr.get fr s]) H1 x:=by simp[iF,n8,rP,one]
def zkz:iF P [.tmp t,.tmp s,.tmp u] (.ret x) H1 fr H=ag H (.tup [Fr.get fr t,Fr.get fr s,Fr.get fr u]) H1 x:=by simp[iF,n8,rP,one]
def zla{ty:TypeId}:iF P [.cell t ty] (.ret x) H1 fr H=match zjg P ty (Fr.get fr t) H with|some r=>r.c∧ag H r.v H1 x|none=>False:=by
 exact W40
end
section
variable {k:IntKind} {n:Int} {b:Bool} {s:By} {i j l:Nat} {cs:Wz} {m:Mark} {t:TypeId} {v:AV} {f:Fn}
theorem zgr:dp []=true:=(rfl)
theorem zgq:dp (v::cs)=(v.one&&dp cs):=(rfl)
theorem zgs:(AV.int k n).one=true:=(rfl)
theorem zgt:(AV.bool b).one=true:=(rfl)
theorem zgu:(AV.str s).one=true:=(rfl)
theorem zgv:(AV.ptr i j).one=true:=(rfl)
theorem zgw:(AV.cptr cs).one=true:=(rfl)
theorem zgx:AV.nilp.one=true:=(rfl)
theorem zgy:(AV.slice m i cs).one=true:=(rfl)
theorem zgz:(AV.ms i j l t).one=true:=(rfl)
theorem zha:(AV.mapv i).one=true:=(rfl)
theorem zhb:AV.nilm.one=true:=(rfl)
theorem zhc{as bs:Wz}:(AV.func f as bs).one=true:=(rfl)
theorem zhd:AV.nilf.one=true:=(rfl)
theorem zhe:(AV.iface t v).one=true:=(rfl)
theorem zhf:AV.nili.one=true:=(rfl)
theorem zjw:(AV.int k n).cells=[.int k n]:=(rfl)
theorem zjx:(AV.bool b).cells=[.bool b]:=(rfl)
theorem zjy:(AV.str s).cells=[.str s]:=(rfl)
theorem zjz:(AV.ptr i j).cells=[.ptr i j]:=(rfl)
theorem zka:(AV.cptr cs).cells=[.cptr cs]:=(rfl)
theorem zkb:AV.nilp.cells=[.nilp]:=(rfl)
theorem zkc:(AV.slice m i cs).cells=[.slice m i cs]:=(rfl)
theorem zkd:(AV.ms i j l t).cells=[.ms i j l t]:=(rfl)
theorem zke:(AV.mapv i).cells=[.mapv i]:=(rfl)
theorem zkf:AV.nilm.cells=[.nilm]:=(rfl)
theorem zkg{as bs:Wz}:(AV.func f as bs).cells=[.func f as bs]:=(rfl)
theorem zkh:AV.nilf.cells=[.nilf]:=(rfl)
theorem zki:(AV.iface t v).cells=[.iface t v]:=(rfl)
theorem zkj:AV.nili.cells=[.nili]:=(rfl)
theorem ziq:(AV.agg cs).cells=cs:=(rfl)
end
theorem jK{P:Program}{Ω:Tbl}{B:Conts}:∀{k:List KItem},(KI P Ω B k).n0=B.n0
 |[]=>rfl
 |.code c::k=>jK (k:=k)
 |.blk id::k=>jK (k:=k)
 |.back R::k=>jK (k:=k)
def jr{P:Program}{Ω:Tbl}{B:Conts}{k:List KItem}{c:Code}{fr:Fr}{H:AHeap}{A:Type}(F:A→Fr)(G:A→AHeap)(I:A→Prop)(μ:A→Nat)(x0:A)(h0:I x0)
 (he:enter B.n0 fr H (F x0) (G x0))
 (hb:∀ a,I a→aw P Ω c (KI P Ω B (.back (fun fr' H'=>∃ a',I a'∧μ a'<μ a∧enter B.n0 fr' H' (F a') (G a'))::k)) (F a) (G a)) :
 aw P Ω (.loop c) (KI P Ω B k) fr H:=by
 refine⟨some false,A,F,G,I,μ,⟨x0,h0,by rw[jK];exact he⟩,fun a ha=>?_⟩
 have:=hb a ha
 rw[← jK (P:=P) (Ω:=Ω) (k:=k)]at this
 exact this
def aG{P:Program}{Ω:Tbl}{B:Conts}{k:List KItem}{c:Code}{fr:Fr}{H:AHeap}{A:Type}(F:A→Fr)(G:A→AHeap)(I:A→Prop)(μ:A→Nat)(x0:A)(h0:I x0)
 (he:enterW B.n0 fr H (F x0) (G x0))
 (hb:∀ a,I a→aw P Ω c (KI P Ω B (.back (fun fr' H'=>∃ a',I a'∧μ a'<μ a∧enterW B.n0 fr' H' (F a') (G a'))::k)) (F a) (G a)) :
 aw P Ω (.loop c) (KI P Ω B k) fr H:=by
 refine⟨some true,A,F,G,I,μ,⟨x0,h0,by rw[jK];exact he⟩,fun a ha=>?_⟩
 have:=hb a ha
 rw[← jK (P:=P) (Ω:=Ω) (k:=k)]at this
 exact this
section
variable {k:IntKind} {n m i j l:Nat} {z:Int} {b:Bool} {s:By} {v:AV} {t:TypeId} {vs:Wz}
theorem znd:(AV.int k z).lt m=True:=eq_true Xm
theorem zne:(AV.bool b).lt m=True:=eq_true Xm
theorem znf:(AV.str s).lt m=True:=eq_true Xm
theorem zng:AV.nilp.lt m=True:=eq_true Xm
theorem znh:AV.nilm.lt m=True:=eq_true Xm
theorem zni:AV.nilf.lt m=True:=eq_true Xm
theorem znj:AV.nili.lt m=True:=eq_true Xm
theorem znk:AV.junk.lt m=True:=eq_true Xm
def znl:(AV.ptr i j).lt m=(i<m):=by rw[AV.lt]
def znm:(AV.mapv i).lt m=(i<m):=by rw[AV.lt]
def znn:(AV.ms i j l n).lt m=(i<m):=by rw[AV.lt]
def zno:(AV.iface t v).lt m=v.lt m:=by rw[AV.lt]
def ltL(m:Nat):Wz→Prop
 |[]=>True
 |v::vs=>v.lt m∧ltL m vs
theorem ltL_iff{m:Nat}:∀{vs:Wz},ltL m vs↔∀(j:Nat)(hj:j<vs.length),(vs[j]).lt m
 |[]=>⟨fun _ j hj=>absurd hj Xc,fun _=>trivial⟩
 |v::vs=>⟨fun h j hj=>by
   cases j with
   |zero=>exact h.1
   |succ j=>exact ltL_iff.1 h.2 j (by simpa using hj),fun h=>⟨h 0 Xc,ltL_iff.2 fun j hj=>h (j+1) (by simpa using hj)⟩⟩
def znp:(AV.agg vs).lt m=ltL m vs:=by rw[AV.lt];exact propext ltL_iff.symm
def znq:(AV.tup vs).lt m=ltL m vs:=by rw[AV.lt];exact propext ltL_iff.symm
def znr:(AV.cptr vs).lt m=ltL m vs:=by rw[AV.lt];exact propext ltL_iff.symm
theorem zns:ltL m (v::vs)=(v.lt m∧ltL m vs):=(rfl)
theorem znt:ltL m []=True:=(rfl)
end
def cI{n sz:Nat}{m:Mark}{xs:Wz}:(AV.slice m sz xs).lt n=((∀ id,m=.own id→id<n)∧ltL n xs):=by
 rw[AV.lt];exact propext ⟨fun h=>⟨h.1,ltL_iff.2 h.2⟩,fun h=>⟨h.1,ltL_iff.1 h.2⟩⟩
def aY{H:AHeap}{a b:Nat}(h:H.Closed):(H.push (.buf a b)).Closed:=by
 intro i cs hi j hj
 rw[zlf]at hi
 split at hi
 ·cases hi
 ·exact AV.lt_mono (by rw[zlc];omega) _ (h i cs hi j hj)
def ah{H:AHeap}{cs:Wz}(h:H.Closed)(hc:ltL (H.nx+1) cs):(H.push (.cells cs)).Closed:=by
 intro i cs' hi j hj
 rw[zlf]at hi
 split at hi
 ·cases hi;exact ltL_iff.1 hc j hj
 ·exact AV.lt_mono (by rw[zlc];omega) _ (h i cs' hi j hj)
def bf{H:AHeap}{i a b:Nat}(h:H.Closed):(H.set i (.buf a b)).Closed:=by
 intro k cs hi j hj
 rw[aF]at hi
 split at hi
 ·split at hi<;>cases hi
 ·exact h k cs hi j hj
def bA{H:AHeap}{i:Nat}{cs:Wz}(h:H.Closed)(hc:ltL H.nx cs):(H.set i (.cells cs)).Closed:=by
 intro k cs' hi j hj
 rw[aF]at hi
 split at hi
 ·split at hi
  ·cases hi;exact ltL_iff.1 hc j hj
  ·cases hi
 ·exact h k cs' hi j hj
theorem znu{H:AHeap}{a b:Nat}(h:H.Closed):(H.push (.buf a b)).Closed=True:=eq_true (aY h)
theorem znv{H:AHeap}{a b c d:Nat}(h:H.Closed):((H.push (.buf a b)).push (.buf c d)).Closed=True:=eq_true (aY (aY h))
theorem znw{H:AHeap}{a b c d e f:Nat}(h:H.Closed):(((H.push (.buf a b)).push (.buf c d)).push (.buf e f)).Closed=True:=eq_true (aY (aY (aY h)))
theorem TR{H:AHeap}{i a b:Nat}(h:H.Closed):(H.set i (.buf a b)).Closed=True:=eq_true (bf h)
theorem znx{H:AHeap}{i:Nat}{cs:Wz}(h:H.Closed)(hc:ltL H.nx cs):(H.set i (.cells cs)).Closed=True:=eq_true (bA h hc)
theorem zmd{H:AHeap}{cs:Wz}(h:H.Closed)(hc:ltL (H.nx+1) cs):(H.push (.cells cs)).Closed=True:=eq_true (ah h hc)
theorem zme{H:AHeap}{cs ds:Wz}(h:H.Closed)(hc:ltL (H.nx+1) cs)(hd:ltL (H.nx+1+1) ds):((H.push (.cells cs)).push (.cells ds)).Closed=True:=eq_true (ah (ah h hc) hd)
theorem zmf{H:AHeap}{cs ds es:Wz}(h:H.Closed)(hc:ltL (H.nx+1) cs)(hd:ltL (H.nx+1+1) ds)(he:ltL (H.nx+1+1+1) es):(((H.push (.cells cs)).push (.cells ds)).push (.cells es)).Closed=True:=eq_true (ah (ah (ah h hc) hd) he)
theorem zmg{H:AHeap}{cs:Wz}{a b:Nat}(h:H.Closed)(hc:ltL (H.nx+1) cs):((H.push (.cells cs)).push (.buf a b)).Closed=True:=eq_true (aY (ah h hc))
theorem zmh{H:AHeap}{q1 q2 q3 o1:AObj}:(((H.push q1).push q2).push q3).Le ((((H.push q1).push q2).push q3).push o1)=True:=eq_true ((AHeap.Le.refl (((H.push q1).push q2).push q3)).push _)
theorem zmi{H:AHeap}{q1 q2 q3 o1 o2:AObj}:(((H.push q1).push q2).push q3).Le (((((H.push q1).push q2).push q3).push o1).push o2)=True:=eq_true (((AHeap.Le.refl (((H.push q1).push q2).push q3)).push _).push _)
theorem zmj{H:AHeap}{q1 q2 q3 o1 o2 o3:AObj}:(((H.push q1).push q2).push q3).Le ((((((H.push q1).push q2).push q3).push o1).push o2).push o3)=True:=eq_true ((((AHeap.Le.refl (((H.push q1).push q2).push q3)).push _).push _).push _)
theorem AHeap.Le.del{H H':AHeap}(h:H.Le H'){i:Nat}(hi:H.nx≤i):H.Le (H'.del i):=⟨h.nx,fun j x hj=>by
 have hlt:=AHeap.get_lt hj
 rw[qO,if_neg (Xa)];exact h.get j x hj⟩
theorem kS{H:AHeap}{i:Nat}:(H.del i).nx=H.nx:=(rfl)
def mR{H:AHeap}{i j:Nat}:(H.del i).get j=if j=i then none else H.get j:=qO H i j
def xJ{H:AHeap}{i j:Nat}:a8 (H.del i) j=if j=i then none else a8 H j:=by
 unfold a8
 rw[mR]
 by_cases h:j=i
 ·simp[h]
 ·simp[h]
def dJ{H:AHeap}{i:Nat}(h:H.Closed):(H.del i).Closed:=by
 intro k cs hk j hj
 rw[mR]at hk
 split at hk
 ·cases hk
 ·exact h k cs hk j hj
def fN{H:AHeap}{i:Nat}{o:AObj}(h:H.get i=some o):H.set i o=H:=by
 have hlt:=AHeap.get_lt h
 unfold AHeap.get at h
 rw[if_pos hlt]at h
 cases H with
 |mk nx f =>
  unfold AHeap.set
  congr 1
  funext j
  dsimp only at h ⊢
  split
  ·rename_i e;rw[e,h]
  ·rfl
def cS{i n:Nat}(h:i<n):(i=n)=False∧(n=i)=False∧(i=n+1)=False∧(n+1=i)=False∧(i=n+1+1)=False∧(n+1+1=i)=False∧(i=n+1+1+1)=False∧(n+1+1+1=i)=False∧(i=n+1+1+1+1)=False∧(n+1+1+1+1=i)=False∧(i=n+1+1+1+1+1)=False∧(n+1+1+1+1+1=i)=False∧(i=n+1+1+1+1+1+1)=False∧(n+1+1+1+1+1+1=i)=False∧(i=n+1+1+1+1+1+1+1)=False∧(n+1+1+1+1+1+1+1=i)=False∧(i=n+1+1+1+1+1+1+1+1)=False∧(n+1+1+1+1+1+1+1+1=i)=False:=by
 refine⟨?_,?_,?_,?_,?_,?_,?_,?_,?_,?_,?_,?_,?_,?_,?_,?_,?_,?_⟩<;>exact eq_false Xa
def bys(l:By):Wz:=l.map bC
def zli{l:By}:(bys l).length=l.length:=by simp[bys]
def unb(l:Wz):By:=l.map byteOf
def isB(l:Wz):Prop:=l=bys (unb l)
theorem zlj:bys []=[]:=rfl
def zlk{l:By}{n:Nat}:(bys l).take n=bys (l.take n):=by simp[bys]
def zll{l:By}{n:Nat}:(bys l).drop n=bys (l.drop n):=by simp[bys]
def zlm{l m:By}:bys l++bys m=bys (l++m):=by simp[bys]
theorem zln{b:UInt8}{l:By}:bC b::bys l=bys (b::l):=rfl
theorem zlo{b:UInt8}:[bC b]=bys [b]:=rfl
theorem zlq{l:By}:(bys l).isEmpty=l.isEmpty:=by cases l<;>rfl
def zmr{l:By}:(bys l=[])=(l=[]):=by cases l<;>simp[bys]
def zms{l m:By}:(bys l=bys m)=(l=m):=by
 refine propext ⟨fun h=>?_,fun h=>by rw[h]⟩
 have h2:=congrArg (List.map byteOf) h
 simp only[bys,List.map_map]at h2
 have:byteOf∘bC=id:=funext fun b=>by simp[byteOf,bC]
 rwa[this,List.map_id,List.map_id]at h2
def zlr{l:By}:(bys l).flatMap AV.cells=bys l:=by
 unfold bys
 induction l with
 |nil=>rfl
 |cons a l ih=>simp only[List.map_cons,List.flatMap_cons,ih];rfl
def zls{n:Nat}:(List.replicate n [AV.int .u8 0]).flatten=bys (List.replicate n (0:UInt8)):=by
 unfold bys
 induction n with
 |zero=>rfl
 |succ n ih=>simp only[List.replicate_succ,List.flatten_cons,ih];rfl
theorem zlt{l:By}:(∀ z∈bys l,dp z.cells=true)=True:=eq_true fun z hz=>by
 obtain⟨b,_,rfl⟩:=List.mem_map.1 hz
 rfl
def zlp{l:By}:dp (bys l)=true:=by
 unfold bys dp
 rw[List.all_map]
 exact List.all_eq_true.2 fun x _=>rfl
theorem zlu{l:By}:(∀ z∈bys l,BW z)=True:=eq_true fun z hz=>by
 obtain⟨b,_,rfl⟩:=List.mem_map.1 hz
 exact⟨_,rfl⟩
def xg{b:UInt8}:byteOf (bC b)=b:=by simp[byteOf,bC]
def zlv{l:By}:(bys l).map byteOf=l:=by
 unfold bys
 rw[List.map_map]
 have:byteOf∘bC=id:=funext fun b=>xg
 rw[this,List.map_id]
def zlx{l:By}:unb (bys l)=l:=zlv
theorem zly:unb []=[]:=rfl
theorem zlz{l:By}:isB (bys l)=True:=eq_true (by show bys l=bys (unb (bys l));rw[zlx])
theorem zma:isB []=True:=eq_true rfl
def iW{l:Wz}(h:isB l):∃ xs,l=bys xs:=⟨_,h⟩
theorem zlw{l:By}:l.map bC=bys l:=rfl
def u5{l:By}{i:Nat}(h:i<l.length):(bys l).getD i .junk=bC (l.getD i 0):=by
 simp[bys,List.getD_eq_getElem?_getD,h]
def zmq{n:Nat}{m:Mark}{l:By}:(AV.slice m 1 (bys l)).lt n=∀ id,m=.own id→id<n:=by
 rw[AV.lt]
 refine propext ⟨fun h=>h.1,fun h=>⟨h,fun j hj=>?_⟩⟩
 simp only[bys,List.getElem_map,bC]
 rw[AV.lt]<;>simp
theorem zmc{b:UInt8}:(bC b).one=true:=rfl
theorem zmb{b:UInt8}:(bC b).cells=[bC b]:=rfl
def mc(xs vs:Wz):∀(n:Nat),n+vs.length≤xs.length→splice xs n vs=xs.take n++vs++xs.drop (n+vs.length):=by
 induction xs generalizing vs with
 |nil =>
  intro n h
  simp only[List.length_nil,Nat.le_zero,Nat.add_eq_zero_iff,List.length_eq_zero_iff]at h
  obtain⟨rfl,rfl⟩:=h;rfl
 |cons a xs ih =>
  intro n h
  cases n with
  |zero =>
   cases vs with
   |nil=>simp[splice]
   |cons v vs =>
    simp only[splice]
    rw[ih vs 0 (by simp at h ⊢;omega)]
    simp
  |succ n =>
   simp only[splice]
   rw[ih vs n (by simp at h ⊢;omega)]
   simp[Nat.add_right_comm]
def zmo{xs ys:By}{n:Nat}(h:n+ys.length≤xs.length):splice (bys xs) n (bys ys)=bys (xs.take n++ys++xs.drop (n+ys.length)):=by
 rw[mc _ _ _ (by simpa[bys]using h)];simp[bys]
def zmp{n:Nat}{l:By}(h:n≤l.length):dh 1 n (bys l)=bys (l.take n):=by
 unfold bys
 induction n generalizing l with
 |zero=>simp[dh]
 |succ n ih =>
  cases l with
  |nil=>simp at h
  |cons a l =>
   simp only[dh,if_true,List.map_cons,List.drop_succ_cons,List.drop_zero,List.take_succ_cons]
   rw[ih (by simpa using h)]
   rfl
def wrap_i64{n:Int}(h : -9223372036854775808≤n)(h2:n<9223372036854775808):IntKind.wrap .i64 n=n:=Ff h Xa
def ku{n:Int}(h:0≤n)(h2:n<18446744073709551616):IntKind.wrap .u64 n=n:=by
 have:IntKind.wrap .u64 n=n%18446744073709551616:=by simp[IntKind.wrap,IntKind.signed,IntKind.bits]
 rw[this];omega
def zF{n:Int}:AV.int .u8 (IntKind.wrap .u8 n)=bC (UInt8.ofNat (n%256).toNat):=by
 unfold bC
 congr 1
 have h:IntKind.wrap .u8 n=n%256:=by simp[IntKind.wrap,IntKind.signed,IntKind.bits]
 rw[h]
 have h1:0≤n%256:=Int.emod_nonneg _ Xb
 have h2:n%256<256:=Int.emod_lt_of_pos _ Xb
 rw[UInt8.toNat_ofNat_of_lt' (by simp[UInt8.size];omega)]
 omega
theorem EntOk.pure{P:Program}{f:FuncId}{p:Wz→AHeap→(AV→Prop)→Prop}(h:∀ args H K,p args H K→∃ x,K x∧ACalls P f args H (.ret x) H):EntOk P f (Ent.pure p) :=
 ⟨fun _=>h,fun h=>(by cases h),fun q h=>(by cases h)⟩
theorem EntOk.effect{P:Program}{f:FuncId}{e:Wz→AHeap→(AEnd→AHeap→Prop)→Prop}(h:∀ args H K,e args H K→∃ x H1,K x H1∧ACalls P f args H x H1):EntOk P f (Ent.effect e) :=
 ⟨fun h=>(by cases h),fun _=>h,fun q h=>(by cases h)⟩
theorem EntOk.some{P:Program}{f:FuncId}{q:Wz→AHeap→(By1)→Prop}(h:∀ args H K,q args H K→ACallsP P f args H K):EntOk P f (Ent.some q) :=
 ⟨fun h=>(by cases h),fun _ _ _ _ h=>h.elim,fun q' h'=>by cases h';exact h⟩
theorem TblOk.nil{P:Program}:TblOk P []:=fun f e h=>by cases h
theorem TblOk.cons{P:Program}{Ω:Tbl}{f:FuncId}{e:Ent}(h:EntOk P f e)(k:TblOk P Ω):TblOk P ((f,e)::Ω):=fun g x hg=>by
 unfold qD at hg
 split at hg
 ·rename_i he;cases hg;subst he;exact h
 ·exact k g x hg
theorem UM{a:Nat}:(a=a+1+1)=False:=eq_false Xa
theorem UR{a:Nat}:(a+1+1=a)=False:=eq_false Xa
theorem Ux{a:Nat}:(a=a+1+1+1)=False:=eq_false Xa
theorem Uq{a:Nat}:(a+1+1+1=a)=False:=eq_false Xa
theorem Uu{a:Nat}:(a=a+1+1+1+1)=False:=eq_false Xa
theorem US{a:Nat}:(a+1+1+1+1=a)=False:=eq_false Xa
theorem Uo{a:Nat}:(a=a+1+1+1+1+1)=False:=eq_false Xa
theorem UC{a:Nat}:(a+1+1+1+1+1=a)=False:=eq_false Xa
theorem UO{a:Nat}:(a=a+1+1+1+1+1+1)=False:=eq_false Xa
theorem UQ{a:Nat}:(a+1+1+1+1+1+1=a)=False:=eq_false Xa
theorem UB{a:Nat}:(a=a+1+1+1+1+1+1+1)=False:=eq_false Xa
theorem Uw{a:Nat}:(a+1+1+1+1+1+1+1=a)=False:=eq_false Xa
theorem Ut{a:Nat}:(a=a+1+1+1+1+1+1+1+1)=False:=eq_false Xa
theorem Us{a:Nat}:(a+1+1+1+1+1+1+1+1=a)=False:=eq_false Xa
theorem UK{a:Nat}:(a=a+1+1+1+1+1+1+1+1+1)=False:=eq_false Xa
theorem UL{a:Nat}:(a+1+1+1+1+1+1+1+1+1=a)=False:=eq_false Xa
theorem zik{a:Nat}:(a=a+1+1+1+1+1+1+1+1+1+1)=False:=eq_false Xa
theorem zil{a:Nat}:(a+1+1+1+1+1+1+1+1+1+1=a)=False:=eq_false Xa
theorem zim{a:Nat}:(a=a+1+1+1+1+1+1+1+1+1+1+1)=False:=eq_false Xa
theorem zin{a:Nat}:(a+1+1+1+1+1+1+1+1+1+1+1=a)=False:=eq_false Xa
theorem zio{a:Nat}:(a=a+1+1+1+1+1+1+1+1+1+1+1+1)=False:=eq_false Xa
theorem zip{a:Nat}:(a+1+1+1+1+1+1+1+1+1+1+1+1=a)=False:=eq_false Xa
def AO{H' H1:AHeap}(v:AV):wk1 H' H1 v v:=by
 cases v<;>first|rfl|skip
 exact .inl ⟨.inr rfl,rfl,rfl⟩
theorem gr{H' H1:AHeap}:∀(vs:Wz),wkL H' H1 vs vs
 |[]=>trivial
 |v::vs=>⟨AO v,gr vs⟩
def Ag{H' H1:AHeap}(v:AV):wk2 H' H1 v v:=by
 cases v<;>first|exact gr _|(simp only[wk2];exact AO _)
theorem yv{H' H1:AHeap}:∀(vs:Wz),ay H' H1 vs vs
 |[]=>trivial
 |v::vs=>⟨Ag v,yv vs⟩
theorem zmm{H' H1:AHeap}{v:AV}:wk H' H1 v v=True:=eq_true (by cases v<;>first|exact yv _|(simp only[wk];exact Ag _))
theorem zmn{n:Nat}{l:By}:ltL n (bys l)=True:=eq_true (ltL_iff.2 fun j hj=>by
 simp only[bys,List.getElem_map,bC]
 rw[AV.lt]<;>simp)
theorem zoi:((0:Nat):Int)=0:=rfl
def zml{m:Mark}{sz n:Nat}:(AV.slice m sz []).lt n=∀ id,m=.own id→id<n:=by
 rw[AV.lt];exact propext ⟨fun h=>h.1,fun h=>⟨h,fun j hj=>absurd hj Xc⟩⟩
def zlb{P:Program}{H1 H:AHeap}{fr:Fr}{x:AV}{t s:Nat}{ty:TypeId}:iF P [.cell t ty,.tmp s] (.ret x) H1 fr H=match zjg P ty (Fr.get fr t) H with|some r=>r.c∧ag H (.tup [r.v,Fr.get fr s]) H1 x|none=>False:=by
 exact W40
def Xe{p:Prop}(h:p:=by rw[wrap_i64]<;>omega):p:=h
def Xk{p:Prop}(h:p:=by simp only[zlc,zld];omega):p:=h
def Xt{p:Prop}(h:p:=by rw[ku]<;>omega):p:=h
def Xv{p:Prop}(h:p:=by simp[zlf,aF,zlc,zld]):p:=h
def Xy{p:Prop}(h:p:=by(try simp only[zko,zkt,zlc,zld]);omega):p:=h
def Xz{p:Prop}(h:p:=by simp[bg,wk2,wk1,wkM,Fr.get,gr]):p:=h
end Go.AL
