/- Contracts and plain laws, a part of the proof; no condition of its own. -/
import Derived.Test.YtokjjhidigoodaaAlByte
import Derived.Laws.Externs
/- The abstract layer: rows of small numbers. -/
namespace Go.AL
set_option linter.all false
/-- a row of numbers -/
def eQ (l:List Nat):List AV:=l.map fun (d:Nat)=>.int .i64 (d:Int)
def zF (x:AV):Nat:=match x with|.int _ n=>n.toNat|_=>0
def uni (l:List AV):List Nat:=l.map zF
def isI (l:List AV):Prop:=l=eQ (uni l)
theorem nk {l:List Nat}:(eQ l).length=l.length:=by simp [eQ]
theorem tC:eQ []=[]:=rfl
theorem qL {l:List Nat} {n:Nat}:(eQ l).take n=eQ (l.take n):=by simp [eQ]
theorem qS {l:List Nat} {n:Nat}:(eQ l).drop n=eQ (l.drop n):=by simp [eQ]
theorem nj {l m:List Nat}:eQ l++eQ m=eQ (l++m):=by simp [eQ]
theorem qN {l:List Nat} {n:Nat}:eQ l++[AV.int .i64 (n:Int)]=eQ (l++[n]):=by simp [eQ]
theorem tP {k:IntKind} {n:Int}:(∀ z∈[AV.int k n],aW z.cells=true)=True:=eq_true fun z hz=>by
 simp at hz;subst hz;rfl
theorem iA {l:List Nat}:uni (eQ l)=l:=by
 unfold uni eQ
 rw [List.map_map]
 have:(zF ∘ fun d=>AV.int .i64 ((d:Nat):Int))=id:=funext fun d=>by simp [zF]
 rw [this,List.map_id]
theorem vS:uni []=[]:=rfl
theorem og {l:List Nat}:isI (eQ l)=True:=eq_true (by show eQ l=eQ (uni (eQ l));rw [iA])
theorem vN:isI []=True:=eq_true rfl
theorem tF {l m:List Nat}:(eQ l=eQ m)=(l=m):=propext ⟨fun h=>by have:=congrArg uni h;rwa [iA,iA] at this,fun h=>by rw [h]⟩
theorem qU {l:List Nat}:(∀ z∈eQ l,aW z.cells=true)=True:=eq_true fun z hz=>by
 obtain ⟨b,_,rfl⟩:=List.mem_map.1 hz
 rfl
theorem zmi {n:Nat} {m:Mark} {l:List Nat}:(AV.slice m 1 (eQ l)).lt n=∀ id,m=.own id→id<n:=by
 rw [AV.lt]
 refine propext ⟨fun h=>h.1,fun h=>⟨h,fun j hj=>?_⟩⟩
 simp only [eQ,List.getElem_map]
 rw [AV.lt]<;>simp
theorem nt {l:List Nat}:(eQ l=[])=(l=[]):=by cases l<;>simp [eQ]
end Go.AL
/- The abstract layer: calls of functions for which the model stands in. -/
namespace Go.AL
set_option linter.all false
set_option linter.unusedSectionVars false
theorem xI {w:World} {γ:aT} {H:AHeap} {k:IntKind} {x y z:Int} {vs:Array Value} (h:RelA w γ H [.int k x,.int k y,.int k z] vs):vs=#[.int k x,.int k y,.int k z]:=by
 obtain ⟨h1,h2⟩:=h
 have h1':vs.size=3:=h1
 obtain ⟨u0,e0,r0⟩:=h2 0 (by simp)
 obtain ⟨u1,e1,r1⟩:=h2 1 (by simp)
 obtain ⟨u2,e2,r2⟩:=h2 2 (by simp)
 simp only [List.getElem_cons_zero,List.getElem_cons_succ] at r0 r1 r2
 rw [Rel] at r0 r1 r2
 subst r0 r1 r2
 obtain ⟨l⟩:=vs
 match l,h1' with
 |[a,b,c],_=>simp at e0 e1 e2;simp [e0,e1,e2]
theorem q7 {P : Program} {f : FuncId} {fn : Func} (hf : P.funcs[f]? = some fn) (hname : (fn.name == "runtime.NumGoroutine") = false) (hb : fn.body.isNone = true) (hn : Extern.findNext fn = none)
 (he:Extern.find fn=some add64Entry) {x y c:Int} (hx:0≤x) (hy:0≤y) (hc0:0≤c) (hc:c≤1) {H:AHeap} :
 ACalls P f [.int .u64 x,.int .u64 y,.int .u64 c] H (.ret (.tup [.int .u64 ((x+y+c) % 18446744073709551616),.int .u64 ((x+y+c)/18446744073709551616)])) H:=by
 intro w γ vs hs hr
 rw [xI hr,run_callFunc_extern hf hname hb hn he,run_add64 x y c hx hy hc0 hc]
 refine ⟨γ,hs,Ext.refl _ _ _,?_⟩
 show Rel w γ H _ _
 rw [Rel]
 refine ⟨_,rfl,rfl,fun j hj=>?_⟩
 match j,hj with
 |0,_=>exact ⟨_,rfl,by simp only [List.getElem_cons_zero];rw [Rel];rfl⟩
 |1,_=>exact ⟨_,rfl,by simp only [List.getElem_cons_zero,List.getElem_cons_succ];rw [Rel];rfl⟩
end Go.AL
/- The abstract layer: simp rules in bundles. -/
open Go Go.AL
namespace Go.AL
set_option linter.all false
theorem byq:(type_of% @zlg)∧(type_of% @zlh)∧(type_of% @zli)∧(type_of% @zlj)∧(type_of% @zlk)∧(type_of% @zll)∧(type_of% @zlm)∧(type_of% @zln)∧(type_of% @zlo)∧(type_of% @zlp)∧(type_of% @zlq)∧(type_of% @zlr)∧(type_of% @zls)∧(type_of% @zlt)∧(type_of% @zlu)∧(type_of% @zlv)∧(type_of% @zlw)∧(type_of% @zlx)∧(type_of% @zly)∧(type_of% @zlz)∧(type_of% @zma)∧(type_of% @Int.toNat_natCast) :=
 ⟨@zlg,@zlh,@zli,@zlj,@zlk,@zll,@zlm,@zln,@zlo,@zlp,@zlq,@zlr,@zls,@zlt,@zlu,@zlv,@zlw,@zlx,@zly,@zlz,@zma,@Int.toNat_natCast⟩
theorem beq:(type_of% @zmb)∧(type_of% @zmc)∧(type_of% @zmd)∧(type_of% @zme)∧(type_of% @zmf)∧(type_of% @zmg)∧(type_of% @zmh)∧(type_of% @zmi)∧(type_of% @zmj)∧(type_of% @zml)∧(type_of% @zmm)∧(type_of% @zmn)∧(type_of% @zmo)∧(type_of% @zmp)∧(type_of% @zmq)∧(type_of% @zlc)∧(type_of% @zla)∧(type_of% @zlb)∧(type_of% @zmr)∧(type_of% @zms)∧(type_of% @zmt)∧(type_of% @zmu)∧(type_of% @zmv)∧(type_of% @zmw)∧(type_of% @zmx)∧(type_of% @zmy)∧(type_of% @zmz)∧(type_of% @zna)∧(type_of% @znb)∧(type_of% @znc)∧(type_of% @znd)∧(type_of% @zne)∧(type_of% @znf)∧(type_of% @zng)∧(type_of% @znh)∧(type_of% @zni)∧(type_of% @znj)∧(type_of% @znk)∧(type_of% @znl)∧(type_of% @znm)∧(type_of% @znn)∧(type_of% @zno)∧(type_of% @znp)∧(type_of% @znq)∧(type_of% @znr)∧(type_of% @zns)∧(type_of% @znt)∧(type_of% @znu)∧(type_of% @EC)∧(type_of% @znv)∧(type_of% @znw)∧(type_of% @znx)∧(type_of% @zny)∧(type_of% @znz)∧(type_of% @zoa)∧(type_of% @zob)∧(type_of% @zoc)∧(type_of% @zOd)∧(type_of% @zoe)∧(type_of% @zof) :=
 ⟨@zmb,@zmc,@zmd,@zme,@zmf,@zmg,@zmh,@zmi,@zmj,@zml,@zmm,@zmn,@zmo,@zmp,@zmq,@zlc,@zla,@zlb,@zmr,@zms,@zmt,@zmu,@zmv,@zmw,@zmx,@zmy,@zmz,@zna,@znb,@znc,@znd,@zne,@znf,@zng,@znh,@zni,@znj,@znk,@znl,@znm,@znn,@zno,@znp,@znq,@znr,@zns,@znt,@znu,@EC,@znv,@znw,@znx,@zny,@znz,@zoa,@zob,@zoc,@zOd,@zoe,@zof⟩
theorem bnq:(type_of% @zog)∧(type_of% @zgk)∧(type_of% @zgl)∧(type_of% @zkr)∧(type_of% @zkm)∧(type_of% @not_false_eq_true)∧(type_of% @true_and)∧(type_of% @and_true) :=
 ⟨@zog,@zgk,@zgl,@zkr,@zkm,@not_false_eq_true,@true_and,@and_true⟩
theorem biq:(type_of% @nk)∧(type_of% @qU)∧(type_of% @qN)∧(type_of% @tP)∧(type_of% @nj)∧(type_of% @qL)∧(type_of% @qS)∧(type_of% @og)∧(type_of% @iA)∧(type_of% @tC)∧(type_of% @vN)∧(type_of% @vS)∧(type_of% @tF)∧(type_of% @nt)∧(type_of% @Int.toNat_natCast) :=
 ⟨@nk,@qU,@qN,@tP,@nj,@qL,@qS,@og,@iA,@tC,@vN,@vS,@tF,@nt,@Int.toNat_natCast⟩
theorem bhq:(type_of% @fZ)∧(type_of% @qT)∧(type_of% @tO)∧(type_of% @th)∧(type_of% @vQ)∧(type_of% @true_and) :=
 ⟨@fZ,@qT,@tO,@th,@vQ,@true_and⟩
theorem bkq:(type_of% @zog)∧(type_of% @zgk)∧(type_of% @zgl)∧(type_of% @zkr)∧(type_of% @zkm)∧(type_of% @not_false_eq_true)∧(type_of% @true_and)∧(type_of% @and_true) :=
 ⟨@zog,@zgk,@zgl,@zkr,@zkm,@not_false_eq_true,@true_and,@and_true⟩
attribute [go_sem ↓] zaa zab zac zad zae zag zah zai zaj zak zal zam zan zao zap zaq zar EY EZ zas zaw zax zay zaz zba zbb zbc zbd zbe zbf zbg zbh zbi zbj zbk zbl zbm zbn zbo zbp zbu zbv zbw zbx zby zbz zca zcb zcc zcd zce zcf zcg zch zci zcj zck zcl zcm zcn zco zcp zcq zcr zcs zct zcu zcv zcw zcx zcy zcz zda zdb zdc zdd zde zdf zdg zdh zdi zdj zdk zdl zdm zdn zdo zdp zdq zdr zds zdt zdu zdv zeh zei zey zez zfa zfi zfj zfl zfm zft zfu zga zgb zgc zgd zge zgf zgg zgh zgi zgj zgk zgl zoh zoi zoj zok zol zom zon zoo zop zoq
attribute [go_sem] zaf zat zau zbq zbr zbs zbt zdw zdx zdy zdz zea zeb Ed zec zed zee zef zeg zej zek zel zem zen ES zeo zep EX zeq zer zes zet zeu zev zew List.tail_nil List.tail_cons List.headD_nil List.headD_cons zex zfb zfc zfd zfe zff zfg zfh zfk zfn zfo zfp zfq zfr zfs zfv zfw zfx zfy zfz ne_eq not_false_eq_true Nat.mul_one Nat.one_mul Nat.zero_mul Nat.zero_add Nat.add_zero zgm zgn zgo zgp zgq zgr zgs zgt zgu zgv zgw zgx zgy zgz zha zhb Bool.and_true Bool.and_self Nat.left_eq_add Nat.add_eq_left Nat.add_right_cancel_iff Nat.add_left_cancel_iff Nat.succ_ne_self Nat.one_ne_zero List.map_cons List.map_nil Option.map_some Option.map_none Option.elim_some if_true if_false true_and and_true true_or or_true false_or or_false Bool.false_eq_true Bool.true_eq_false Bool.not_true Bool.not_false List.append_nil List.nil_append zhc zhd zhe zhf zhg zhh zhi zhj zhk zhl zhm zhn zho zhp zhq zhr zhs zht zhu zhv zhw zhx zhy zhz zia zib zic zid zie zif rEq List.cons_append E2 EP EO E1 E4 ER EK EL EU E0 EJ E3 E5 ET EQ EV zig zih zii zij zik zil List.getElem?_cons_zero List.getElem?_cons_succ TD.agg List.drop_succ_cons List.drop_zero List.take_succ_cons List.take_zero List.take_nil List.drop_nil List.getD_cons_zero List.getD_cons_succ splice zim zin zio Option.isSome_some Option.isSome_none List.getElem?_nil Nat.zero_lt_succ Nat.lt_add_one zip ziq xT kw wW yn rUn zir zis zit ziu B4 ziv ziw zix ziy yL ziz zja zjb zjc zjd zje zjf zjg zjh zji zjj zjk zjl zjm zjn zjo zjp zjq zjr zjs zjt fX pL yx ss room List.length_cons List.length_nil zju zjv zjw zjx zjy zjz zka zkb zkc zkd zke zkf zkg zkh zki zkj zkk zkl zkm zkn zko zkp zkq zkr zks zkt zku zkv zkw zkx zky zkz zla zlb zlc zld zle zlf List.length_map mI
theorem bt:(type_of% @znq)∧(type_of% @znr)∧(type_of% @znb)∧(type_of% @znc)∧(type_of% @znd)∧(type_of% @zne)∧(type_of% @zng)∧(type_of% @znh)∧(type_of% @znf)∧(type_of% @zni)∧(type_of% @znj)∧(type_of% @znk)∧(type_of% @znl)∧(type_of% @znn)∧(type_of% @zno)∧(type_of% @znp)∧(type_of% @znm)∧(type_of% @zmo)∧(type_of% @zmi)∧(type_of% @zmj)∧(type_of% @zla)∧(type_of% @zlb)∧(type_of% @fZ) :=
 ⟨@znq,@znr,@znb,@znc,@znd,@zne,@zng,@znh,@znf,@zni,@znj,@znk,@znl,@znn,@zno,@znp,@znm,@zmo,@zmi,@zmj,@zla,@zlb,@fZ⟩
attribute [go_sem_proc] reduceCtorEq Nat.reduceEqDiff Nat.reduceAdd Nat.reduceMul Nat.reduceSub Nat.reduceLeDiff Nat.reduceLT Int.reduceMul Int.reduceAdd Int.reduceSub Int.reduceToNat
end Go.AL
