/- Contracts and plain laws, a part of the proof; no condition of its own. -/
import Derived.Test.YtiiiljghmilepaaAlByte
import Derived.Laws.Externs
/- The abstract layer: rows of cT numbers. -/
namespace Go.AL
set_option linter.all false
/-- a row of numbers -/
def bE (l:List Nat):List AV:=l.map fun (d:Nat)=>.int .i64 (d:Int)
def wx (x:AV):Nat:=match x with|.int _ n=>n.toNat|_=>0
def uni (l:List AV):List Nat:=l.map wx
def isI (l:List AV):Prop:=l=bE (uni l)
theorem b7 {l:List Nat}:(bE l).length=l.length:=by simp [bE]
theorem cy:bE []=[]:=rfl
theorem oP {l:List Nat} {n:Nat}:(bE l).take n=bE (l.take n):=by simp [bE]
theorem oH {l:List Nat} {n:Nat}:(bE l).drop n=bE (l.drop n):=by simp [bE]
theorem lR {l m:List Nat}:bE l++bE m=bE (l++m):=by simp [bE]
theorem oN {l:List Nat} {n:Nat}:bE l++[AV.int .i64 (n:Int)]=bE (l++[n]):=by simp [bE]
theorem rk {k:IntKind} {n:Int}:(∀ z∈[AV.int k n],aX z.cells=true)=True:=eq_true fun z hz=>by
 simp at hz;subst hz;rfl
theorem c8 {l:List Nat}:uni (bE l)=l:=by
 unfold uni bE
 rw [List.map_map]
 have:(wx ∘ fun d=>AV.int .i64 ((d:Nat):Int))=id:=funext fun d=>by simp [wx]
 rw [this,List.map_id]
theorem tQ:uni []=[]:=rfl
theorem m9 {l:List Nat}:isI (bE l)=True:=eq_true (by show bE l=bE (uni (bE l));rw [c8])
theorem tp:isI []=True:=eq_true rfl
theorem xS {l:List AV} (h:isI l):∃ xs,l=bE xs:=⟨_,h⟩
theorem qk {l m:List Nat}:(bE l=bE m)=(l=m):=propext ⟨fun h=>by have:=congrArg uni h;rwa [c8,c8] at this,fun h=>by rw [h]⟩
theorem fM {l:List Nat} {i:Nat} (h:i<l.length):(bE l).getD i .junk=.int .i64 (l.getD i 0:Nat):=by
 simp [bE,List.getD_eq_getElem?_getD,h]
theorem nR {l:List Nat}:(∀ z∈bE l,aX z.cells=true)=True:=eq_true fun z hz=>by
 obtain ⟨b,_,rfl⟩:=List.mem_map.1 hz
 rfl
theorem zmg {n:Nat} {m:Mark} {l:List Nat}:(AV.slice m 1 (bE l)).lt n=∀ id,m=.own id→id<n:=by
 rw [AV.lt]
 refine propext ⟨fun h=>h.1,fun h=>⟨h,fun j hj=>?_⟩⟩
 simp only [bE,List.getElem_map]
 rw [AV.lt]<;>simp
theorem lL {l:List Nat}:(bE l=[])=(l=[]):=by cases l<;>simp [bE]
/-- what is read of a row of numbers -/
theorem dY {l:List Nat} {i:Nat} (h:i<l.length):((bE l).getD i .junk).cells=[.int .i64 (l.getD i 0:Nat)]:=by rw [fM h];rfl
end Go.AL
/- The abstract layer: calls of functions for which the model stands in. -/
namespace Go.AL
set_option linter.all false
set_option linter.unusedSectionVars false
theorem uk {w:World} {γ:aW} {H:AHeap} {k:IntKind} {x y z:Int} {vs:Array Value} (h:RelA w γ H [.int k x,.int k y,.int k z] vs):vs=#[.int k x,.int k y,.int k z]:=by
 obtain ⟨h1,h2⟩:=h
 have h1':vs.size=3:=h1
 obtain ⟨u0,e0,r0⟩:=h2 0 (by simp)
 obtain ⟨u1,e1,r1⟩:=h2 1 (by simp)
 obtain ⟨u2,e2,r2⟩:=h2 2 (by simp)
 simp only [List.getElem_cons_zero,List.getElem_cons_succ] at r0 r1 r2
 rw [Rel] at r0 r1 r2
 subst r0 r1 r2
 obtain ⟨l⟩:=vs
 match l,h1' with
 |[a,b,c],_=>simp at e0 e1 e2;simp [e0,e1,e2]
theorem pb {P : Program} {f : FuncId} {fn : Func} (hf : P.funcs[f]? = some fn) (hname : (fn.name == "runtime.NumGoroutine") = false) (hb : fn.body.isNone = true) (hn : Extern.findNext fn = none)
 (he:Extern.find fn=some add64Entry) {x y c:Int} (hx:0≤x) (hy:0≤y) (hc0:0≤c) (hc:c≤1) {H:AHeap} :
 ACalls P f [.int .u64 x,.int .u64 y,.int .u64 c] H (.ret (.tup [.int .u64 ((x+y+c) % 18446744073709551616),.int .u64 ((x+y+c)/18446744073709551616)])) H:=by
 intro w γ vs hs hr
 rw [uk hr,run_callFunc_extern hf hname hb hn he,run_add64 x y c hx hy hc0 hc]
 refine ⟨γ,hs,Ext.refl _ _ _,?_⟩
 show Rel w γ H _ _
 rw [Rel]
 refine ⟨_,rfl,rfl,fun j hj=>?_⟩
 match j,hj with
 |0,_=>exact ⟨_,rfl,by simp only [List.getElem_cons_zero];rw [Rel];rfl⟩
 |1,_=>exact ⟨_,rfl,by simp only [List.getElem_cons_zero,List.getElem_cons_succ];rw [Rel];rfl⟩
end Go.AL
/- The abstract layer: simp rules in bundles. -/
open Go Go.AL
namespace Go.AL
set_option linter.all false
theorem byq:(type_of% @zle)∧(type_of% @zlf)∧(type_of% @zlg)∧(type_of% @zlh)∧(type_of% @zli)∧(type_of% @zlj)∧(type_of% @zlk)∧(type_of% @zll)∧(type_of% @zlm)∧(type_of% @zln)∧(type_of% @zlo)∧(type_of% @zlp)∧(type_of% @zlq)∧(type_of% @zlr)∧(type_of% @zls)∧(type_of% @zlt)∧(type_of% @zlu)∧(type_of% @zlv)∧(type_of% @zlw)∧(type_of% @zlx)∧(type_of% @zly)∧(type_of% @Int.toNat_natCast) :=
 ⟨@zle,@zlf,@zlg,@zlh,@zli,@zlj,@zlk,@zll,@zlm,@zln,@zlo,@zlp,@zlq,@zlr,@zls,@zlt,@zlu,@zlv,@zlw,@zlx,@zly,@Int.toNat_natCast⟩
theorem beq:(type_of% @zlz)∧(type_of% @zma)∧(type_of% @zmb)∧(type_of% @zmc)∧(type_of% @zmd)∧(type_of% @zme)∧(type_of% @zmf)∧(type_of% @zmg)∧(type_of% @zmh)∧(type_of% @zmj)∧(type_of% @zmk)∧(type_of% @zml)∧(type_of% @zmm)∧(type_of% @zmn)∧(type_of% @zmo)∧(type_of% @zla)∧(type_of% @zky)∧(type_of% @zkz)∧(type_of% @zmp)∧(type_of% @zmq)∧(type_of% @zmr)∧(type_of% @zms)∧(type_of% @zmt)∧(type_of% @zmu)∧(type_of% @zmv)∧(type_of% @zmw)∧(type_of% @zmx)∧(type_of% @zmy)∧(type_of% @zmz)∧(type_of% @zna)∧(type_of% @znb)∧(type_of% @znc)∧(type_of% @znd)∧(type_of% @zne)∧(type_of% @znf)∧(type_of% @zng)∧(type_of% @znh)∧(type_of% @zni)∧(type_of% @znj)∧(type_of% @znk)∧(type_of% @znl)∧(type_of% @znm)∧(type_of% @znn)∧(type_of% @zno)∧(type_of% @znp)∧(type_of% @znq)∧(type_of% @znr)∧(type_of% @zns)∧(type_of% @Ax)∧(type_of% @znt)∧(type_of% @znu)∧(type_of% @znv)∧(type_of% @znw)∧(type_of% @znx)∧(type_of% @zny)∧(type_of% @znz)∧(type_of% @zoa)∧(type_of% @zob)∧(type_of% @zoc)∧(type_of% @zOd) :=
 ⟨@zlz,@zma,@zmb,@zmc,@zmd,@zme,@zmf,@zmg,@zmh,@zmj,@zmk,@zml,@zmm,@zmn,@zmo,@zla,@zky,@zkz,@zmp,@zmq,@zmr,@zms,@zmt,@zmu,@zmv,@zmw,@zmx,@zmy,@zmz,@zna,@znb,@znc,@znd,@zne,@znf,@zng,@znh,@zni,@znj,@znk,@znl,@znm,@znn,@zno,@znp,@znq,@znr,@zns,@Ax,@znt,@znu,@znv,@znw,@znx,@zny,@znz,@zoa,@zob,@zoc,@zOd⟩
theorem bnq:(type_of% @zoe)∧(type_of% @zgj)∧(type_of% @zgk)∧(type_of% @zkp)∧(type_of% @zkk)∧(type_of% @not_false_eq_true)∧(type_of% @true_and)∧(type_of% @and_true) :=
 ⟨@zoe,@zgj,@zgk,@zkp,@zkk,@not_false_eq_true,@true_and,@and_true⟩
theorem biq:(type_of% @b7)∧(type_of% @nR)∧(type_of% @oN)∧(type_of% @rk)∧(type_of% @lR)∧(type_of% @oP)∧(type_of% @oH)∧(type_of% @m9)∧(type_of% @c8)∧(type_of% @cy)∧(type_of% @tp)∧(type_of% @tQ)∧(type_of% @qk)∧(type_of% @lL)∧(type_of% @Int.toNat_natCast) :=
 ⟨@b7,@nR,@oN,@rk,@lR,@oP,@oH,@m9,@c8,@cy,@tp,@tQ,@qk,@lL,@Int.toNat_natCast⟩
theorem bhq:(type_of% @fh)∧(type_of% @oQ)∧(type_of% @rp)∧(type_of% @ri)∧(type_of% @tz)∧(type_of% @true_and) :=
 ⟨@fh,@oQ,@rp,@ri,@tz,@true_and⟩
theorem bkq:(type_of% @zoe)∧(type_of% @zgj)∧(type_of% @zgk)∧(type_of% @zkp)∧(type_of% @zkk)∧(type_of% @not_false_eq_true)∧(type_of% @true_and)∧(type_of% @and_true) :=
 ⟨@zoe,@zgj,@zgk,@zkp,@zkk,@not_false_eq_true,@true_and,@and_true⟩
attribute [go_sem ↓] zaa zab zac zad zae zag zah zai zaj zak zal zam zan zao zap zaq zar AO AJ zas zaw zax zay zaz zba zbb zbc zbd zbe zbf zbg zbh zbi zbj zbk zbl zbm zbn zbo zbp zbu zbv zbw zbx zby zbz zca zcb zcc zcd zce zcf zcg zch zci zcj zck zcl zcm zcn zco zcp zcq zcr zcs zct zcu zcv zcw zcx zcy zcz zda zdb zdc zdd zde zdf zdg zdh zdi zdj zdk zdl zdm zdn zdo zdp zdq zdr zds zdt zdu zeg zeh zex zey zez zfh zfi zfk zfl zfs zft zfz zga zgb zgc zgd zge zgf zgg zgh zgi zgj zgk zof zog zoh zoi zoj zok zol zom zon zoo
attribute [go_sem] zaf zat zau zbq zbr zbs zbt zdv zdw zdx zdy zdz zea At zeb zec zed zee zef zei zej zek zel zem AZ zen zeo A4 zep zeq zer zes zet zeu zev List.tail_nil List.tail_cons List.headD_nil List.headD_cons zew zfa zfb zfc zfd zfe zff zfg zfj zfm zfn zfo zfp zfq zfr zfu zfv zfw zfx zfy ne_eq not_false_eq_true Nat.mul_one Nat.one_mul Nat.zero_mul Nat.zero_add Nat.add_zero zgl zgm zgn zgo zgp zgq zgr zgs zgt zgu zgv zgw zgx zgy zgz zha Bool.and_true Bool.and_self Nat.left_eq_add Nat.add_eq_left Nat.add_right_cancel_iff Nat.add_left_cancel_iff Nat.succ_ne_self Nat.one_ne_zero List.map_cons List.map_nil Option.map_some Option.map_none Option.elim_some if_true if_false true_and and_true true_or or_true false_or or_false Bool.false_eq_true Bool.true_eq_false Bool.not_true Bool.not_false List.append_nil List.nil_append zhb zhc zhd zhe zhf zhg zhh zhi zhj zhk zhl zhm zhn zho zhp zhq zhr zhs zht zhu zhv zhw zhx zhy zhz zia zib zic zid rEq List.cons_append AP A7 AX A5 AN AK A3 AR A6 A2 AS AQ AW AU AM A1 zie zif zig zih zii zij List.getElem?_cons_zero List.getElem?_cons_succ TD.agg List.drop_succ_cons List.drop_zero List.take_succ_cons List.take_zero List.take_nil List.drop_nil List.getD_cons_zero List.getD_cons_succ splice zik zil zim Option.isSome_some Option.isSome_none List.getElem?_nil Nat.zero_lt_succ Nat.lt_add_one zin zio vg ju tV uA rUn zip ziq zir zis yS zit ziu ziv ziw uz zix ziy ziz zja zjb zjc zjd zje zjf zjg zjh zji zjj zjk zjl zjm zjn zjo zjp zjq zjr e9 nA uT pw room List.length_cons List.length_nil zjs zjt zju zjv zjw zjx zjy zjz zka zkb zkc zkd zke zkf zkg zkh zki zkj zkk zkl zkm zkn zko zkp zkq zkr zks zkt zku zkv zkw zkx zky zkz zla zlb zlc zld List.length_map k7
theorem bt:(type_of% @zno)∧(type_of% @znp)∧(type_of% @zmz)∧(type_of% @zna)∧(type_of% @znb)∧(type_of% @znc)∧(type_of% @zne)∧(type_of% @znf)∧(type_of% @znd)∧(type_of% @zng)∧(type_of% @znh)∧(type_of% @zni)∧(type_of% @znj)∧(type_of% @znl)∧(type_of% @znm)∧(type_of% @znn)∧(type_of% @znk)∧(type_of% @zmm)∧(type_of% @zmg)∧(type_of% @zmh)∧(type_of% @zky)∧(type_of% @zkz)∧(type_of% @fh) :=
 ⟨@zno,@znp,@zmz,@zna,@znb,@znc,@zne,@znf,@znd,@zng,@znh,@zni,@znj,@znl,@znm,@znn,@znk,@zmm,@zmg,@zmh,@zky,@zkz,@fh⟩
attribute [go_sem_proc] reduceCtorEq Nat.reduceEqDiff Nat.reduceAdd Nat.reduceMul Nat.reduceSub Nat.reduceLeDiff Nat.reduceLT Int.reduceMul Int.reduceAdd Int.reduceSub Int.reduceToNat
end Go.AL
