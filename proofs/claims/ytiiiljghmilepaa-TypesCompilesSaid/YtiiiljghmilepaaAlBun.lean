/- Contracts and plain laws, a part of the proof; no condition of its own. -/
import Derived.Test.YtiiiljghmilepaaAlByte
import Derived.Laws.Externs
/- The abstract layer: rows of cV numbers. -/
namespace Go.AL
set_option linter.all false
/-- a row of numbers -/
def bK (l:List Nat):List AV:=l.map fun (d:Nat)=>.int .i64 (d:Int)
def xT (x:AV):Nat:=match x with|.int _ n=>n.toNat|_=>0
def uni (l:List AV):List Nat:=l.map xT
def isI (l:List AV):Prop:=l=bK (uni l)
theorem ca {l:List Nat}:(bK l).length=l.length:=by simp [bK]
theorem cy:bK []=[]:=rfl
theorem oN {l:List Nat} {n:Nat}:(bK l).take n=bK (l.take n):=by simp [bK]
theorem nZ {l:List Nat} {n:Nat}:(bK l).drop n=bK (l.drop n):=by simp [bK]
theorem lF {l m:List Nat}:bK l++bK m=bK (l++m):=by simp [bK]
theorem pf {l:List Nat} {n:Nat}:bK l++[AV.int .i64 (n:Int)]=bK (l++[n]):=by simp [bK]
theorem qT {k:IntKind} {n:Int}:(∀ z∈[AV.int k n],aX z.cells=true)=True:=eq_true fun z hz=>by
 simp at hz;subst hz;rfl
theorem c9 {l:List Nat}:uni (bK l)=l:=by
 unfold uni bK
 rw [List.map_map]
 have:(xT ∘ fun d=>AV.int .i64 ((d:Nat):Int))=id:=funext fun d=>by simp [xT]
 rw [this,List.map_id]
theorem tM:uni []=[]:=rfl
theorem mW {l:List Nat}:isI (bK l)=True:=eq_true (by show bK l=bK (uni (bK l));rw [c9])
theorem tO:isI []=True:=eq_true rfl
theorem yv {l:List AV} (h:isI l):∃ xs,l=bK xs:=⟨_,h⟩
theorem qt {l m:List Nat}:(bK l=bK m)=(l=m):=propext ⟨fun h=>by have:=congrArg uni h;rwa [c9,c9] at this,fun h=>by rw [h]⟩
theorem fL {l:List Nat} {i:Nat} (h:i<l.length):(bK l).getD i .junk=.int .i64 (l.getD i 0:Nat):=by
 simp [bK,List.getD_eq_getElem?_getD,h]
theorem nY {l:List Nat}:(∀ z∈bK l,aX z.cells=true)=True:=eq_true fun z hz=>by
 obtain ⟨b,_,rfl⟩:=List.mem_map.1 hz
 rfl
theorem zmg {n:Nat} {m:Mark} {l:List Nat}:(AV.slice m 1 (bK l)).lt n=∀ id,m=.own id→id<n:=by
 rw [AV.lt]
 refine propext ⟨fun h=>h.1,fun h=>⟨h,fun j hj=>?_⟩⟩
 simp only [bK,List.getElem_map]
 rw [AV.lt]<;>simp
theorem lU {l:List Nat}:(bK l=[])=(l=[]):=by cases l<;>simp [bK]
/-- what is read of a row of numbers -/
theorem dZ {l:List Nat} {i:Nat} (h:i<l.length):((bK l).getD i .junk).cells=[.int .i64 (l.getD i 0:Nat)]:=by rw [fL h];rfl
end Go.AL
/- The abstract layer: calls of functions for which the model stands in. -/
namespace Go.AL
set_option linter.all false
set_option linter.unusedSectionVars false
theorem t6 {w:World} {γ:aW} {H:AHeap} {k:IntKind} {x y z:Int} {vs:Array Value} (h:RelA w γ H [.int k x,.int k y,.int k z] vs):vs=#[.int k x,.int k y,.int k z]:=by
 obtain ⟨h1,h2⟩:=h
 have h1':vs.size=3:=h1
 obtain ⟨u0,e0,r0⟩:=h2 0 (by simp)
 obtain ⟨u1,e1,r1⟩:=h2 1 (by simp)
 obtain ⟨u2,e2,r2⟩:=h2 2 (by simp)
 simp only [List.getElem_cons_zero,List.getElem_cons_succ] at r0 r1 r2
 rw [Rel] at r0 r1 r2
 subst r0 r1 r2
 obtain ⟨l⟩:=vs
 match l,h1' with
 |[a,b,c],_=>simp at e0 e1 e2;simp [e0,e1,e2]
theorem p5 {P : Program} {f : FuncId} {fn : Func} (hf : P.funcs[f]? = some fn) (hname : (fn.name == "runtime.NumGoroutine") = false) (hb : fn.body.isNone = true) (hn : Extern.findNext fn = none)
 (he:Extern.find fn=some add64Entry) {x y c:Int} (hx:0≤x) (hy:0≤y) (hc0:0≤c) (hc:c≤1) {H:AHeap} :
 ACalls P f [.int .u64 x,.int .u64 y,.int .u64 c] H (.ret (.tup [.int .u64 ((x+y+c) % 18446744073709551616),.int .u64 ((x+y+c)/18446744073709551616)])) H:=by
 intro w γ vs hs hr
 rw [t6 hr,run_callFunc_extern hf hname hb hn he,run_add64 x y c hx hy hc0 hc]
 refine ⟨γ,hs,Ext.refl _ _ _,?_⟩
 show Rel w γ H _ _
 rw [Rel]
 refine ⟨_,rfl,rfl,fun j hj=>?_⟩
 match j,hj with
 |0,_=>exact ⟨_,rfl,by simp only [List.getElem_cons_zero];rw [Rel];rfl⟩
 |1,_=>exact ⟨_,rfl,by simp only [List.getElem_cons_zero,List.getElem_cons_succ];rw [Rel];rfl⟩
end Go.AL
/- The abstract layer: simp rules in bundles. -/
open Go Go.AL
namespace Go.AL
set_option linter.all false
theorem byq:(type_of% @zle)∧(type_of% @zlf)∧(type_of% @zlg)∧(type_of% @zlh)∧(type_of% @zli)∧(type_of% @zlj)∧(type_of% @zlk)∧(type_of% @zll)∧(type_of% @zlm)∧(type_of% @zln)∧(type_of% @zlo)∧(type_of% @zlp)∧(type_of% @zlq)∧(type_of% @zlr)∧(type_of% @zls)∧(type_of% @zlt)∧(type_of% @zlu)∧(type_of% @zlv)∧(type_of% @zlw)∧(type_of% @zlx)∧(type_of% @zly)∧(type_of% @Int.toNat_natCast) :=
 ⟨@zle,@zlf,@zlg,@zlh,@zli,@zlj,@zlk,@zll,@zlm,@zln,@zlo,@zlp,@zlq,@zlr,@zls,@zlt,@zlu,@zlv,@zlw,@zlx,@zly,@Int.toNat_natCast⟩
theorem beq:(type_of% @zlz)∧(type_of% @zma)∧(type_of% @zmb)∧(type_of% @zmc)∧(type_of% @zmd)∧(type_of% @zme)∧(type_of% @zmf)∧(type_of% @zmg)∧(type_of% @zmh)∧(type_of% @zmj)∧(type_of% @zmk)∧(type_of% @zml)∧(type_of% @zmm)∧(type_of% @zmn)∧(type_of% @zmo)∧(type_of% @zla)∧(type_of% @zky)∧(type_of% @zkz)∧(type_of% @zmp)∧(type_of% @zmq)∧(type_of% @zmr)∧(type_of% @zms)∧(type_of% @zmt)∧(type_of% @zmu)∧(type_of% @zmv)∧(type_of% @zmw)∧(type_of% @zmx)∧(type_of% @zmy)∧(type_of% @zmz)∧(type_of% @zna)∧(type_of% @znb)∧(type_of% @znc)∧(type_of% @znd)∧(type_of% @zne)∧(type_of% @znf)∧(type_of% @zng)∧(type_of% @znh)∧(type_of% @zni)∧(type_of% @znj)∧(type_of% @znk)∧(type_of% @znl)∧(type_of% @znm)∧(type_of% @znn)∧(type_of% @zno)∧(type_of% @znp)∧(type_of% @znq)∧(type_of% @znr)∧(type_of% @zns)∧(type_of% @Au)∧(type_of% @znt)∧(type_of% @znu)∧(type_of% @znv)∧(type_of% @znw)∧(type_of% @znx)∧(type_of% @zny)∧(type_of% @znz)∧(type_of% @zoa)∧(type_of% @zob)∧(type_of% @zoc)∧(type_of% @zOd) :=
 ⟨@zlz,@zma,@zmb,@zmc,@zmd,@zme,@zmf,@zmg,@zmh,@zmj,@zmk,@zml,@zmm,@zmn,@zmo,@zla,@zky,@zkz,@zmp,@zmq,@zmr,@zms,@zmt,@zmu,@zmv,@zmw,@zmx,@zmy,@zmz,@zna,@znb,@znc,@znd,@zne,@znf,@zng,@znh,@zni,@znj,@znk,@znl,@znm,@znn,@zno,@znp,@znq,@znr,@zns,@Au,@znt,@znu,@znv,@znw,@znx,@zny,@znz,@zoa,@zob,@zoc,@zOd⟩
theorem bnq:(type_of% @zoe)∧(type_of% @zgj)∧(type_of% @zgk)∧(type_of% @zkp)∧(type_of% @zkk)∧(type_of% @not_false_eq_true)∧(type_of% @true_and)∧(type_of% @and_true) :=
 ⟨@zoe,@zgj,@zgk,@zkp,@zkk,@not_false_eq_true,@true_and,@and_true⟩
theorem biq:(type_of% @ca)∧(type_of% @nY)∧(type_of% @pf)∧(type_of% @qT)∧(type_of% @lF)∧(type_of% @oN)∧(type_of% @nZ)∧(type_of% @mW)∧(type_of% @c9)∧(type_of% @cy)∧(type_of% @tO)∧(type_of% @tM)∧(type_of% @qt)∧(type_of% @lU)∧(type_of% @Int.toNat_natCast) :=
 ⟨@ca,@nY,@pf,@qT,@lF,@oN,@nZ,@mW,@c9,@cy,@tO,@tM,@qt,@lU,@Int.toNat_natCast⟩
theorem bhq:(type_of% @fj)∧(type_of% @oG)∧(type_of% @qI)∧(type_of% @rq)∧(type_of% @tx)∧(type_of% @true_and) :=
 ⟨@fj,@oG,@qI,@rq,@tx,@true_and⟩
theorem bkq:(type_of% @zoe)∧(type_of% @zgj)∧(type_of% @zgk)∧(type_of% @zkp)∧(type_of% @zkk)∧(type_of% @not_false_eq_true)∧(type_of% @true_and)∧(type_of% @and_true) :=
 ⟨@zoe,@zgj,@zgk,@zkp,@zkk,@not_false_eq_true,@true_and,@and_true⟩
attribute [go_sem ↓] zaa zab zac zad zae zag zah zai zaj zak zal zam zan zao zap zaq zar A5 A4 zas zaw zax zay zaz zba zbb zbc zbd zbe zbf zbg zbh zbi zbj zbk zbl zbm zbn zbo zbp zbu zbv zbw zbx zby zbz zca zcb zcc zcd zce zcf zcg zch zci zcj zck zcl zcm zcn zco zcp zcq zcr zcs zct zcu zcv zcw zcx zcy zcz zda zdb zdc zdd zde zdf zdg zdh zdi zdj zdk zdl zdm zdn zdo zdp zdq zdr zds zdt zdu zeg zeh zex zey zez zfh zfi zfk zfl zfs zft zfz zga zgb zgc zgd zge zgf zgg zgh zgi zgj zgk zof zog zoh zoi zoj zok zol zom zon zoo
attribute [go_sem] zaf zat zau zbq zbr zbs zbt zdv zdw zdx zdy zdz zea AB zeb zec zed zee zef zei zej zek zel zem Bg zen zeo A8 zep zeq zer zes zet zeu zev List.tail_nil List.tail_cons List.headD_nil List.headD_cons zew zfa zfb zfc zfd zfe zff zfg zfj zfm zfn zfo zfp zfq zfr zfu zfv zfw zfx zfy ne_eq not_false_eq_true Nat.mul_one Nat.one_mul Nat.zero_mul Nat.zero_add Nat.add_zero zgl zgm zgn zgo zgp zgq zgr zgs zgt zgu zgv zgw zgx zgy zgz zha Bool.and_true Bool.and_self Nat.left_eq_add Nat.add_eq_left Nat.add_right_cancel_iff Nat.add_left_cancel_iff Nat.succ_ne_self Nat.one_ne_zero List.map_cons List.map_nil Option.map_some Option.map_none Option.elim_some if_true if_false true_and and_true true_or or_true false_or or_false Bool.false_eq_true Bool.true_eq_false Bool.not_true Bool.not_false List.append_nil List.nil_append zhb zhc zhd zhe zhf zhg zhh zhi zhj zhk zhl zhm zhn zho zhp zhq zhr zhs zht zhu zhv zhw zhx zhy zhz zia zib zic zid rEq List.cons_append A3 Bh A7 Bc Bk A2 Bi Bf Bj Bl Bd AZ Ba A9 A1 Bb zie zif zig zih zii zij List.getElem?_cons_zero List.getElem?_cons_succ TD.agg List.drop_succ_cons List.drop_zero List.take_succ_cons List.take_zero List.take_nil List.drop_nil List.getD_cons_zero List.getD_cons_succ splice zik zil zim Option.isSome_some Option.isSome_none List.getElem?_nil Nat.zero_lt_succ Nat.lt_add_one zin zio u6 jC uk vg rUn zip ziq zir zis yi zit ziu ziv ziw uV zix ziy ziz zja zjb zjc zjd zje zjf zjg zjh zji zjj zjk zjl zjm zjn zjo zjp zjq zjr fk nK vy pH room List.length_cons List.length_nil zjs zjt zju zjv zjw zjx zjy zjz zka zkb zkc zkd zke zkf zkg zkh zki zkj zkk zkl zkm zkn zko zkp zkq zkr zks zkt zku zkv zkw zkx zky zkz zla zlb zlc zld List.length_map lq
theorem bt:(type_of% @zno)∧(type_of% @znp)∧(type_of% @zmz)∧(type_of% @zna)∧(type_of% @znb)∧(type_of% @znc)∧(type_of% @zne)∧(type_of% @znf)∧(type_of% @znd)∧(type_of% @zng)∧(type_of% @znh)∧(type_of% @zni)∧(type_of% @znj)∧(type_of% @znl)∧(type_of% @znm)∧(type_of% @znn)∧(type_of% @znk)∧(type_of% @zmm)∧(type_of% @zmg)∧(type_of% @zmh)∧(type_of% @zky)∧(type_of% @zkz)∧(type_of% @fj) :=
 ⟨@zno,@znp,@zmz,@zna,@znb,@znc,@zne,@znf,@znd,@zng,@znh,@zni,@znj,@znl,@znm,@znn,@znk,@zmm,@zmg,@zmh,@zky,@zkz,@fj⟩
attribute [go_sem_proc] reduceCtorEq Nat.reduceEqDiff Nat.reduceAdd Nat.reduceMul Nat.reduceSub Nat.reduceLeDiff Nat.reduceLT Int.reduceMul Int.reduceAdd Int.reduceSub Int.reduceToNat
end Go.AL
