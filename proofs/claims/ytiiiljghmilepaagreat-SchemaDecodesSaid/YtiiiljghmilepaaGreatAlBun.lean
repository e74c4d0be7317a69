/- Contracts and plain laws, a part of the proof; no condition of its own. -/
import Derived.Test.YtiiiljghmilepaaGreatAlByte
import Derived.Laws.Externs
/- The abstract layer: rows of small numbers. -/
namespace Go.AL
set_option linter.all false
/-- a row of numbers -/
def HH (l:List Nat):List AV:=l.map fun (d:Nat)=>.int .i64 (d:Int)
theorem zmg {n:Nat} {m:Mark} {l:List Nat}:(AV.slice m 1 (HH l)).lt n=∀ id,m=.own id→id<n:=by
 rw [AV.lt]
 refine propext ⟨fun h=>h.1,fun h=>⟨h,fun j hj=>?_⟩⟩
 simp only [HH,List.getElem_map]
 rw [AV.lt]<;>simp
end Go.AL
/- The abstract layer: calls of functions for which the model stands in. -/
namespace Go.AL
set_option linter.all false
set_option linter.unusedSectionVars false
end Go.AL
/- The abstract layer: simp rules in bundles. -/
open Go Go.AL
namespace Go.AL
set_option linter.all false
theorem byq:(type_of% @zle)∧(type_of% @zlf)∧(type_of% @zlg)∧(type_of% @zlh)∧(type_of% @zli)∧(type_of% @zlj)∧(type_of% @zlk)∧(type_of% @zll)∧(type_of% @zlm)∧(type_of% @zln)∧(type_of% @zlo)∧(type_of% @zlp)∧(type_of% @zlq)∧(type_of% @zlr)∧(type_of% @zls)∧(type_of% @zlt)∧(type_of% @zlu)∧(type_of% @zlv)∧(type_of% @zlw)∧(type_of% @zlx)∧(type_of% @zly)∧(type_of% @Int.toNat_natCast) :=
 ⟨@zle,@zlf,@zlg,@zlh,@zli,@zlj,@zlk,@zll,@zlm,@zln,@zlo,@zlp,@zlq,@zlr,@zls,@zlt,@zlu,@zlv,@zlw,@zlx,@zly,@Int.toNat_natCast⟩
theorem beq:(type_of% @zlz)∧(type_of% @zma)∧(type_of% @zmb)∧(type_of% @zmc)∧(type_of% @zmd)∧(type_of% @zme)∧(type_of% @zmf)∧(type_of% @zmg)∧(type_of% @zmh)∧(type_of% @zmj)∧(type_of% @zmk)∧(type_of% @zml)∧(type_of% @zmm)∧(type_of% @zmn)∧(type_of% @zmo)∧(type_of% @zla)∧(type_of% @zky)∧(type_of% @zkz)∧(type_of% @zmp)∧(type_of% @zmq)∧(type_of% @zmr)∧(type_of% @zms)∧(type_of% @zmt)∧(type_of% @zmu)∧(type_of% @zmv)∧(type_of% @zmw)∧(type_of% @zmx)∧(type_of% @zmy)∧(type_of% @zmz)∧(type_of% @zna)∧(type_of% @znb)∧(type_of% @znc)∧(type_of% @znd)∧(type_of% @zne)∧(type_of% @znf)∧(type_of% @zng)∧(type_of% @znh)∧(type_of% @zni)∧(type_of% @znj)∧(type_of% @znk)∧(type_of% @znl)∧(type_of% @znm)∧(type_of% @znn)∧(type_of% @zno)∧(type_of% @znp)∧(type_of% @znq)∧(type_of% @znr)∧(type_of% @zns)∧(type_of% @HN)∧(type_of% @znt)∧(type_of% @znu)∧(type_of% @znv)∧(type_of% @znw)∧(type_of% @znx)∧(type_of% @zny)∧(type_of% @znz)∧(type_of% @zoa)∧(type_of% @zob)∧(type_of% @zoc)∧(type_of% @zOd) :=
 ⟨@zlz,@zma,@zmb,@zmc,@zmd,@zme,@zmf,@zmg,@zmh,@zmj,@zmk,@zml,@zmm,@zmn,@zmo,@zla,@zky,@zkz,@zmp,@zmq,@zmr,@zms,@zmt,@zmu,@zmv,@zmw,@zmx,@zmy,@zmz,@zna,@znb,@znc,@znd,@zne,@znf,@zng,@znh,@zni,@znj,@znk,@znl,@znm,@znn,@zno,@znp,@znq,@znr,@zns,@HN,@znt,@znu,@znv,@znw,@znx,@zny,@znz,@zoa,@zob,@zoc,@zOd⟩
theorem bnq:(type_of% @zoe)∧(type_of% @zgj)∧(type_of% @zgk)∧(type_of% @zkp)∧(type_of% @zkk)∧(type_of% @not_false_eq_true)∧(type_of% @true_and)∧(type_of% @and_true) :=
 ⟨@zoe,@zgj,@zgk,@zkp,@zkk,@not_false_eq_true,@true_and,@and_true⟩
theorem bhq:(type_of% @iq)∧(type_of% @tH)∧(type_of% @vT)∧(type_of% @vW)∧(type_of% @zm)∧(type_of% @true_and) :=
 ⟨@iq,@tH,@vT,@vW,@zm,@true_and⟩
attribute [go_sem ↓] zaa zab zac zad zae zag zah zai zaj zak zal zam zan zao zap zaq zar Im Ie zas zaw zax zay zaz zba zbb zbc zbd zbe zbf zbg zbh zbi zbj zbk zbl zbm zbn zbo zbp zbu zbv zbw zbx zby zbz zca zcb zcc zcd zce zcf zcg zch zci zcj zck zcl zcm zcn zco zcp zcq zcr zcs zct zcu zcv zcw zcx zcy zcz zda zdb zdc zdd zde zdf zdg zdh zdi zdj zdk zdl zdm zdn zdo zdp zdq zdr zds zdt zdu zeg zeh zex zey zez zfh zfi zfk zfl zfs zft zfz zga zgb zgc zgd zge zgf zgg zgh zgi zgj zgk zof zog zoh zoi zoj zok zol zom zon zoo
attribute [go_sem] zaf zat zau zbq zbr zbs zbt zdv zdw zdx zdy zdz zea HC zeb zec zed zee zef zei zej zek zel zem H9 zen zeo H6 zep zeq zer zes zet zeu zev List.tail_nil List.tail_cons List.headD_nil List.headD_cons zew zfa zfb zfc zfd zfe zff zfg zfj zfm zfn zfo zfp zfq zfr zfu zfv zfw zfx zfy ne_eq not_false_eq_true Nat.mul_one Nat.one_mul Nat.zero_mul Nat.zero_add Nat.add_zero zgl zgm zgn zgo zgp zgq zgr zgs zgt zgu zgv zgw zgx zgy zgz zha Bool.and_true Bool.and_self Nat.left_eq_add Nat.add_eq_left Nat.add_right_cancel_iff Nat.add_left_cancel_iff Nat.succ_ne_self Nat.one_ne_zero List.map_cons List.map_nil Option.map_some Option.map_none Option.elim_some if_true if_false true_and and_true true_or or_true false_or or_false Bool.false_eq_true Bool.true_eq_false Bool.not_true Bool.not_false List.append_nil List.nil_append zhb zhc zhd zhe zhf zhg zhh zhi zhj zhk zhl zhm zhn zho zhp zhq zhr zhs zht zhu zhv zhw zhx zhy zhz zia zib zic zid rEq List.cons_append Iq Ib Ig Ij H8 Ip Ik Ih H4 Io Ii Ir H5 Ia HZ Is zie zif zig zih zii zij List.getElem?_cons_zero List.getElem?_cons_succ TD.agg List.drop_succ_cons List.drop_zero List.take_succ_cons List.take_zero List.take_nil List.drop_nil List.getD_cons_zero List.getD_cons_succ splice zik zil zim Option.isSome_some Option.isSome_none List.getElem?_nil Nat.zero_lt_succ Nat.lt_add_one zin zio zA np zH zM rUn zip ziq zir zis Fz zit ziu ziv ziw zJ zix ziy ziz zja zjb zjc zjd zje zjf zjg zjh zji zjj zjk zjl zjm zjn zjo zjp zjq zjr j7 sH Ao uh room List.length_cons List.length_nil zjs zjt zju zjv zjw zjx zjy zjz zka zkb zkc zkd zke zkf zkg zkh zki zkj zkk zkl zkm zkn zko zkp zkq zkr zks zkt zku zkv zkw zkx zky zkz zla zlb zlc zld List.length_map sI
theorem bt:(type_of% @zno)∧(type_of% @znp)∧(type_of% @zmz)∧(type_of% @zna)∧(type_of% @znb)∧(type_of% @znc)∧(type_of% @zne)∧(type_of% @znf)∧(type_of% @znd)∧(type_of% @zng)∧(type_of% @znh)∧(type_of% @zni)∧(type_of% @znj)∧(type_of% @znl)∧(type_of% @znm)∧(type_of% @znn)∧(type_of% @znk)∧(type_of% @zmm)∧(type_of% @zmg)∧(type_of% @zmh)∧(type_of% @zky)∧(type_of% @zkz)∧(type_of% @iq) :=
 ⟨@zno,@znp,@zmz,@zna,@znb,@znc,@zne,@znf,@znd,@zng,@znh,@zni,@znj,@znl,@znm,@znn,@znk,@zmm,@zmg,@zmh,@zky,@zkz,@iq⟩
attribute [go_sem_proc] reduceCtorEq Nat.reduceEqDiff Nat.reduceAdd Nat.reduceMul Nat.reduceSub Nat.reduceLeDiff Nat.reduceLT Int.reduceMul Int.reduceAdd Int.reduceSub Int.reduceToNat
end Go.AL
