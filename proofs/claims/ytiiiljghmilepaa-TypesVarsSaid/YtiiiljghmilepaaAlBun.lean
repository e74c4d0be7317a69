/- Contracts and plain laws, a part of the proof; no condition of its own. -/
import Derived.Test.YtiiiljghmilepaaAlByte
import Derived.Laws.Externs
/- The abstract layer: rows of small numbers. -/
namespace Go.AL
set_option linter.all false
/-- a row of numbers -/
def dB (l:List Nat):List AV:=l.map fun (d:Nat)=>.int .i64 (d:Int)
def um (x:AV):Nat:=match x with|.int _ n=>n.toNat|_=>0
def uni (l:List AV):List Nat:=l.map um
def isI (l:List AV):Prop:=l=dB (uni l)
theorem kH {l:List Nat}:(dB l).length=l.length:=by simp [dB]
theorem pH:dB []=[]:=rfl
theorem mQ {l:List Nat} {n:Nat}:(dB l).take n=dB (l.take n):=by simp [dB]
theorem nq {l:List Nat} {n:Nat}:(dB l).drop n=dB (l.drop n):=by simp [dB]
theorem kN {l m:List Nat}:dB l++dB m=dB (l++m):=by simp [dB]
theorem nC {l:List Nat} {n:Nat}:dB l++[AV.int .i64 (n:Int)]=dB (l++[n]):=by simp [dB]
theorem pd {k:IntKind} {n:Int}:(∀ z∈[AV.int k n],aJ z.cells=true)=True:=eq_true fun z hz=>by
 simp at hz;subst hz;rfl
theorem gl {l:List Nat}:uni (dB l)=l:=by
 unfold uni dB
 rw [List.map_map]
 have:(um ∘ fun d=>AV.int .i64 ((d:Nat):Int))=id:=funext fun d=>by simp [um]
 rw [this,List.map_id]
theorem rJ:uni []=[]:=rfl
theorem lx {l:List Nat}:isI (dB l)=True:=eq_true (by show dB l=dB (uni (dB l));rw [gl])
theorem rB:isI []=True:=eq_true rfl
theorem pM {l m:List Nat}:(dB l=dB m)=(l=m):=propext ⟨fun h=>by have:=congrArg uni h;rwa [gl,gl] at this,fun h=>by rw [h]⟩
theorem nj {l:List Nat}:(∀ z∈dB l,aJ z.cells=true)=True:=eq_true fun z hz=>by
 obtain ⟨b,_,rfl⟩:=List.mem_map.1 hz
 rfl
theorem zmg {n:Nat} {m:Mark} {l:List Nat}:(AV.slice m 1 (dB l)).lt n=∀ id,m=.own id→id<n:=by
 rw [AV.lt]
 refine propext ⟨fun h=>h.1,fun h=>⟨h,fun j hj=>?_⟩⟩
 simp only [dB,List.getElem_map]
 rw [AV.lt]<;>simp
theorem kP {l:List Nat}:(dB l=[])=(l=[]):=by cases l<;>simp [dB]
end Go.AL
/- The abstract layer: calls of functions for which the model stands in. -/
namespace Go.AL
set_option linter.all false
set_option linter.unusedSectionVars false
theorem tC {w:World} {γ:aG} {H:AHeap} {k:IntKind} {x y z:Int} {vs:Array Value} (h:RelA w γ H [.int k x,.int k y,.int k z] vs):vs=#[.int k x,.int k y,.int k z]:=by
 obtain ⟨h1,h2⟩:=h
 have h1':vs.size=3:=h1
 obtain ⟨u0,e0,r0⟩:=h2 0 (by simp)
 obtain ⟨u1,e1,r1⟩:=h2 1 (by simp)
 obtain ⟨u2,e2,r2⟩:=h2 2 (by simp)
 simp only [List.getElem_cons_zero,List.getElem_cons_succ] at r0 r1 r2
 rw [Rel] at r0 r1 r2
 subst r0 r1 r2
 obtain ⟨l⟩:=vs
 match l,h1' with
 |[a,b,c],_=>simp at e0 e1 e2;simp [e0,e1,e2]
theorem nT {P : Program} {f : FuncId} {fn : Func} (hf : P.funcs[f]? = some fn) (hname : (fn.name == "runtime.NumGoroutine") = false) (hb : fn.body.isNone = true) (hn : Extern.findNext fn = none)
 (he:Extern.find fn=some add64Entry) {x y c:Int} (hx:0≤x) (hy:0≤y) (hc0:0≤c) (hc:c≤1) {H:AHeap} :
 ACalls P f [.int .u64 x,.int .u64 y,.int .u64 c] H (.ret (.tup [.int .u64 ((x+y+c) % 18446744073709551616),.int .u64 ((x+y+c)/18446744073709551616)])) H:=by
 intro w γ vs hs hr
 rw [tC hr,run_callFunc_extern hf hname hb hn he,run_add64 x y c hx hy hc0 hc]
 refine ⟨γ,hs,Ext.refl _ _ _,?_⟩
 show Rel w γ H _ _
 rw [Rel]
 refine ⟨_,rfl,rfl,fun j hj=>?_⟩
 match j,hj with
 |0,_=>exact ⟨_,rfl,by simp only [List.getElem_cons_zero];rw [Rel];rfl⟩
 |1,_=>exact ⟨_,rfl,by simp only [List.getElem_cons_zero,List.getElem_cons_succ];rw [Rel];rfl⟩
end Go.AL
/- The abstract layer: simp rules in bundles. -/
open Go Go.AL
namespace Go.AL
set_option linter.all false
theorem byq:(type_of% @zle)∧(type_of% @zlf)∧(type_of% @zlg)∧(type_of% @zlh)∧(type_of% @zli)∧(type_of% @zlj)∧(type_of% @zlk)∧(type_of% @zll)∧(type_of% @zlm)∧(type_of% @zln)∧(type_of% @zlo)∧(type_of% @zlp)∧(type_of% @zlq)∧(type_of% @zlr)∧(type_of% @zls)∧(type_of% @zlt)∧(type_of% @zlu)∧(type_of% @zlv)∧(type_of% @zlw)∧(type_of% @zlx)∧(type_of% @zly)∧(type_of% @Int.toNat_natCast) :=
 ⟨@zle,@zlf,@zlg,@zlh,@zli,@zlj,@zlk,@zll,@zlm,@zln,@zlo,@zlp,@zlq,@zlr,@zls,@zlt,@zlu,@zlv,@zlw,@zlx,@zly,@Int.toNat_natCast⟩
theorem beq:(type_of% @zlz)∧(type_of% @zma)∧(type_of% @zmb)∧(type_of% @zmc)∧(type_of% @zmd)∧(type_of% @zme)∧(type_of% @zmf)∧(type_of% @zmg)∧(type_of% @zmh)∧(type_of% @zmj)∧(type_of% @zmk)∧(type_of% @zml)∧(type_of% @zmm)∧(type_of% @zmn)∧(type_of% @zmo)∧(type_of% @zla)∧(type_of% @zky)∧(type_of% @zkz)∧(type_of% @zmp)∧(type_of% @zmq)∧(type_of% @zmr)∧(type_of% @zms)∧(type_of% @zmt)∧(type_of% @zmu)∧(type_of% @zmv)∧(type_of% @zmw)∧(type_of% @zmx)∧(type_of% @zmy)∧(type_of% @zmz)∧(type_of% @zna)∧(type_of% @znb)∧(type_of% @znc)∧(type_of% @znd)∧(type_of% @zne)∧(type_of% @znf)∧(type_of% @zng)∧(type_of% @znh)∧(type_of% @zni)∧(type_of% @znj)∧(type_of% @znk)∧(type_of% @znl)∧(type_of% @znm)∧(type_of% @znn)∧(type_of% @zno)∧(type_of% @znp)∧(type_of% @znq)∧(type_of% @znr)∧(type_of% @zns)∧(type_of% @yG)∧(type_of% @znt)∧(type_of% @znu)∧(type_of% @znv)∧(type_of% @znw)∧(type_of% @znx)∧(type_of% @zny)∧(type_of% @znz)∧(type_of% @zoa)∧(type_of% @zob)∧(type_of% @zoc)∧(type_of% @zOd) :=
 ⟨@zlz,@zma,@zmb,@zmc,@zmd,@zme,@zmf,@zmg,@zmh,@zmj,@zmk,@zml,@zmm,@zmn,@zmo,@zla,@zky,@zkz,@zmp,@zmq,@zmr,@zms,@zmt,@zmu,@zmv,@zmw,@zmx,@zmy,@zmz,@zna,@znb,@znc,@znd,@zne,@znf,@zng,@znh,@zni,@znj,@znk,@znl,@znm,@znn,@zno,@znp,@znq,@znr,@zns,@yG,@znt,@znu,@znv,@znw,@znx,@zny,@znz,@zoa,@zob,@zoc,@zOd⟩
theorem biq:(type_of% @kH)∧(type_of% @nj)∧(type_of% @nC)∧(type_of% @pd)∧(type_of% @kN)∧(type_of% @mQ)∧(type_of% @nq)∧(type_of% @lx)∧(type_of% @gl)∧(type_of% @pH)∧(type_of% @rB)∧(type_of% @rJ)∧(type_of% @pM)∧(type_of% @kP)∧(type_of% @Int.toNat_natCast) :=
 ⟨@kH,@nj,@nC,@pd,@kN,@mQ,@nq,@lx,@gl,@pH,@rB,@rJ,@pM,@kP,@Int.toNat_natCast⟩
theorem bhq:(type_of% @eR)∧(type_of% @nF)∧(type_of% @qf)∧(type_of% @pP)∧(type_of% @rz)∧(type_of% @true_and) :=
 ⟨@eR,@nF,@qf,@pP,@rz,@true_and⟩
theorem bkq:(type_of% @zoe)∧(type_of% @zgj)∧(type_of% @zgk)∧(type_of% @zkp)∧(type_of% @zkk)∧(type_of% @not_false_eq_true)∧(type_of% @true_and)∧(type_of% @and_true) :=
 ⟨@zoe,@zgj,@zgk,@zkp,@zkk,@not_false_eq_true,@true_and,@and_true⟩
attribute [go_sem ↓] zaa zab zac zad zae zag zah zai zaj zak zal zam zan zao zap zaq zar zb zg zas zaw zax zay zaz zba zbb zbc zbd zbe zbf zbg zbh zbi zbj zbk zbl zbm zbn zbo zbp zbu zbv zbw zbx zby zbz zca zcb zcc zcd zce zcf zcg zch zci zcj zck zcl zcm zcn zco zcp zcq zcr zcs zct zcu zcv zcw zcx zcy zcz zda zdb zdc zdd zde zdf zdg zdh zdi zdj zdk zdl zdm zdn zdo zdp zdq zdr zds zdt zdu zeg zeh zex zey zez zfh zfi zfk zfl zfs zft zfz zga zgb zgc zgd zge zgf zgg zgh zgi zgj zgk zof zog zoh zoi zoj zok zol zom zon zoo
attribute [go_sem] zaf zat zau zbq zbr zbs zbt zdv zdw zdx zdy zdz zea yY zeb zec zed zee zef zei zej zek zel zem zm zen zeo y9 zep zeq zer zes zet zeu zev List.tail_nil List.tail_cons List.headD_nil List.headD_cons zew zfa zfb zfc zfd zfe zff zfg zfj zfm zfn zfo zfp zfq zfr zfu zfv zfw zfx zfy ne_eq not_false_eq_true Nat.mul_one Nat.one_mul Nat.zero_mul Nat.zero_add Nat.add_zero zgl zgm zgn zgo zgp zgq zgr zgs zgt zgu zgv zgw zgx zgy zgz zha Bool.and_true Bool.and_self Nat.left_eq_add Nat.add_eq_left Nat.add_right_cancel_iff Nat.add_left_cancel_iff Nat.succ_ne_self Nat.one_ne_zero List.map_cons List.map_nil Option.map_some Option.map_none Option.elim_some if_true if_false true_and and_true true_or or_true false_or or_false Bool.false_eq_true Bool.true_eq_false Bool.not_true Bool.not_false List.append_nil List.nil_append zhb zhc zhd zhe zhf zhg zhh zhi zhj zhk zhl zhm zhn zho zhp zhq zhr zhs zht zhu zhv zhw zhx zhy zhz zia zib zic zid rEq List.cons_append za zp zf zd zr zc zj zu zh zt zq zk zo zi zl zv zie zif zig zih zii zij List.getElem?_cons_zero List.getElem?_cons_succ TD.agg List.drop_succ_cons List.drop_zero List.take_succ_cons List.take_zero List.take_nil List.drop_nil List.getD_cons_zero List.getD_cons_succ splice zik zil zim Option.isSome_some Option.isSome_none List.getElem?_nil Nat.zero_lt_succ Nat.lt_add_one zin zio sD iV sJ tB rUn zip ziq zir zis wH zit ziu ziv ziw si zix ziy ziz zja zjb zjc zjd zje zjf zjg zjh zji zjj zjk zjl zjm zjn zjo zjp zjq zjr eU mE sF oS room List.length_cons List.length_nil zjs zjt zju zjv zjw zjx zjy zjz zka zkb zkc zkd zke zkf zkg zkh zki zkj zkk zkl zkm zkn zko zkp zkq zkr zks zkt zku zkv zkw zkx zky zkz zla zlb zlc zld List.length_map j6
theorem bt:(type_of% @zno)∧(type_of% @znp)∧(type_of% @zmz)∧(type_of% @zna)∧(type_of% @znb)∧(type_of% @znc)∧(type_of% @zne)∧(type_of% @znf)∧(type_of% @znd)∧(type_of% @zng)∧(type_of% @znh)∧(type_of% @zni)∧(type_of% @znj)∧(type_of% @znl)∧(type_of% @znm)∧(type_of% @znn)∧(type_of% @znk)∧(type_of% @zmm)∧(type_of% @zmg)∧(type_of% @zmh)∧(type_of% @zky)∧(type_of% @zkz)∧(type_of% @eR) :=
 ⟨@zno,@znp,@zmz,@zna,@znb,@znc,@zne,@znf,@znd,@zng,@znh,@zni,@znj,@znl,@znm,@znn,@znk,@zmm,@zmg,@zmh,@zky,@zkz,@eR⟩
attribute [go_sem_proc] reduceCtorEq Nat.reduceEqDiff Nat.reduceAdd Nat.reduceMul Nat.reduceSub Nat.reduceLeDiff Nat.reduceLT Int.reduceMul Int.reduceAdd Int.reduceSub Int.reduceToNat
end Go.AL
