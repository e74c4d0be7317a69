/- Contracts and plain laws, a part of the proof; no condition of its own. -/
import Derived.Test.YtiiiljghmilepaaAlByte
import Derived.Laws.Externs
/- The abstract layer: rows of small numbers. -/
namespace Go.AL
set_option linter.all false
/-- a row of numbers -/
def c6 (l:List Nat):List AV:=l.map fun (d:Nat)=>.int .i64 (d:Int)
def s9 (x:AV):Nat:=match x with|.int _ n=>n.toNat|_=>0
def uni (l:List AV):List Nat:=l.map s9
def isI (l:List AV):Prop:=l=c6 (uni l)
theorem jw {l:List Nat}:(c6 l).length=l.length:=by simp [c6]
theorem nd:c6 []=[]:=rfl
theorem li {l:List Nat} {n:Nat}:(c6 l).take n=c6 (l.take n):=by simp [c6]
theorem lz {l:List Nat} {n:Nat}:(c6 l).drop n=c6 (l.drop n):=by simp [c6]
theorem jk {l m:List Nat}:c6 l++c6 m=c6 (l++m):=by simp [c6]
theorem lf {l:List Nat} {n:Nat}:c6 l++[AV.int .i64 (n:Int)]=c6 (l++[n]):=by simp [c6]
theorem nq {k:IntKind} {n:Int}:(∀ z∈[AV.int k n],aJ z.cells=true)=True:=eq_true fun z hz=>by
 simp at hz;subst hz;rfl
theorem fa {l:List Nat}:uni (c6 l)=l:=by
 unfold uni c6
 rw [List.map_map]
 have:(s9 ∘ fun d=>AV.int .i64 ((d:Nat):Int))=id:=funext fun d=>by simp [s9]
 rw [this,List.map_id]
theorem py:uni []=[]:=rfl
theorem jP {l:List Nat}:isI (c6 l)=True:=eq_true (by show c6 l=c6 (uni (c6 l));rw [fa])
theorem pL:isI []=True:=eq_true rfl
theorem nX {l m:List Nat}:(c6 l=c6 m)=(l=m):=propext ⟨fun h=>by have:=congrArg uni h;rwa [fa,fa] at this,fun h=>by rw [h]⟩
theorem lC {l:List Nat}:(∀ z∈c6 l,aJ z.cells=true)=True:=eq_true fun z hz=>by
 obtain ⟨b,_,rfl⟩:=List.mem_map.1 hz
 rfl
theorem zmg {n:Nat} {m:Mark} {l:List Nat}:(AV.slice m 1 (c6 l)).lt n=∀ id,m=.own id→id<n:=by
 rw [AV.lt]
 refine propext ⟨fun h=>h.1,fun h=>⟨h,fun j hj=>?_⟩⟩
 simp only [c6,List.getElem_map]
 rw [AV.lt]<;>simp
theorem ji {l:List Nat}:(c6 l=[])=(l=[]):=by cases l<;>simp [c6]
end Go.AL
/- The abstract layer: calls of functions for which the model stands in. -/
namespace Go.AL
set_option linter.all false
set_option linter.unusedSectionVars false
theorem qN {w:World} {γ:aH} {H:AHeap} {k:IntKind} {x y z:Int} {vs:Array Value} (h:RelA w γ H [.int k x,.int k y,.int k z] vs):vs=#[.int k x,.int k y,.int k z]:=by
 obtain ⟨h1,h2⟩:=h
 have h1':vs.size=3:=h1
 obtain ⟨u0,e0,r0⟩:=h2 0 (by simp)
 obtain ⟨u1,e1,r1⟩:=h2 1 (by simp)
 obtain ⟨u2,e2,r2⟩:=h2 2 (by simp)
 simp only [List.getElem_cons_zero,List.getElem_cons_succ] at r0 r1 r2
 rw [Rel] at r0 r1 r2
 subst r0 r1 r2
 obtain ⟨l⟩:=vs
 match l,h1' with
 |[a,b,c],_=>simp at e0 e1 e2;simp [e0,e1,e2]
theorem l5 {P : Program} {f : FuncId} {fn : Func} (hf : P.funcs[f]? = some fn) (hname : (fn.name == "runtime.NumGoroutine") = false) (hb : fn.body.isNone = true) (hn : Extern.findNext fn = none)
 (he:Extern.find fn=some add64Entry) {x y c:Int} (hx:0≤x) (hy:0≤y) (hc0:0≤c) (hc:c≤1) {H:AHeap} :
 ACalls P f [.int .u64 x,.int .u64 y,.int .u64 c] H (.ret (.tup [.int .u64 ((x+y+c) % 18446744073709551616),.int .u64 ((x+y+c)/18446744073709551616)])) H:=by
 intro w γ vs hs hr
 rw [qN hr,run_callFunc_extern hf hname hb hn he,run_add64 x y c hx hy hc0 hc]
 refine ⟨γ,hs,Ext.refl _ _ _,?_⟩
 show Rel w γ H _ _
 rw [Rel]
 refine ⟨_,rfl,rfl,fun j hj=>?_⟩
 match j,hj with
 |0,_=>exact ⟨_,rfl,by simp only [List.getElem_cons_zero];rw [Rel];rfl⟩
 |1,_=>exact ⟨_,rfl,by simp only [List.getElem_cons_zero,List.getElem_cons_succ];rw [Rel];rfl⟩
end Go.AL
/- The abstract layer: simp rules in bundles. -/
open Go Go.AL
namespace Go.AL
set_option linter.all false
theorem byq:(type_of% @zle)∧(type_of% @zlf)∧(type_of% @zlg)∧(type_of% @zlh)∧(type_of% @zli)∧(type_of% @zlj)∧(type_of% @zlk)∧(type_of% @zll)∧(type_of% @zlm)∧(type_of% @zln)∧(type_of% @zlo)∧(type_of% @zlp)∧(type_of% @zlq)∧(type_of% @zlr)∧(type_of% @zls)∧(type_of% @zlt)∧(type_of% @zlu)∧(type_of% @zlv)∧(type_of% @zlw)∧(type_of% @zlx)∧(type_of% @zly)∧(type_of% @Int.toNat_natCast) :=
 ⟨@zle,@zlf,@zlg,@zlh,@zli,@zlj,@zlk,@zll,@zlm,@zln,@zlo,@zlp,@zlq,@zlr,@zls,@zlt,@zlu,@zlv,@zlw,@zlx,@zly,@Int.toNat_natCast⟩
theorem beq:(type_of% @zlz)∧(type_of% @zma)∧(type_of% @zmb)∧(type_of% @zmc)∧(type_of% @zmd)∧(type_of% @zme)∧(type_of% @zmf)∧(type_of% @zmg)∧(type_of% @zmh)∧(type_of% @zmj)∧(type_of% @zmk)∧(type_of% @zml)∧(type_of% @zmm)∧(type_of% @zmn)∧(type_of% @zmo)∧(type_of% @zla)∧(type_of% @zky)∧(type_of% @zkz)∧(type_of% @zmp)∧(type_of% @zmq)∧(type_of% @zmr)∧(type_of% @zms)∧(type_of% @zmt)∧(type_of% @zmu)∧(type_of% @zmv)∧(type_of% @zmw)∧(type_of% @zmx)∧(type_of% @zmy)∧(type_of% @zmz)∧(type_of% @zna)∧(type_of% @znb)∧(type_of% @znc)∧(type_of% @znd)∧(type_of% @zne)∧(type_of% @znf)∧(type_of% @zng)∧(type_of% @znh)∧(type_of% @zni)∧(type_of% @znj)∧(type_of% @znk)∧(type_of% @znl)∧(type_of% @znm)∧(type_of% @znn)∧(type_of% @zno)∧(type_of% @znp)∧(type_of% @znq)∧(type_of% @znr)∧(type_of% @zns)∧(type_of% @v8)∧(type_of% @znt)∧(type_of% @znu)∧(type_of% @znv)∧(type_of% @znw)∧(type_of% @znx)∧(type_of% @zny)∧(type_of% @znz)∧(type_of% @zoa)∧(type_of% @zob)∧(type_of% @zoc)∧(type_of% @zOd) :=
 ⟨@zlz,@zma,@zmb,@zmc,@zmd,@zme,@zmf,@zmg,@zmh,@zmj,@zmk,@zml,@zmm,@zmn,@zmo,@zla,@zky,@zkz,@zmp,@zmq,@zmr,@zms,@zmt,@zmu,@zmv,@zmw,@zmx,@zmy,@zmz,@zna,@znb,@znc,@znd,@zne,@znf,@zng,@znh,@zni,@znj,@znk,@znl,@znm,@znn,@zno,@znp,@znq,@znr,@zns,@v8,@znt,@znu,@znv,@znw,@znx,@zny,@znz,@zoa,@zob,@zoc,@zOd⟩
theorem biq:(type_of% @jw)∧(type_of% @lC)∧(type_of% @lf)∧(type_of% @nq)∧(type_of% @jk)∧(type_of% @li)∧(type_of% @lz)∧(type_of% @jP)∧(type_of% @fa)∧(type_of% @nd)∧(type_of% @pL)∧(type_of% @py)∧(type_of% @nX)∧(type_of% @ji)∧(type_of% @Int.toNat_natCast) :=
 ⟨@jw,@lC,@lf,@nq,@jk,@li,@lz,@jP,@fa,@nd,@pL,@py,@nX,@ji,@Int.toNat_natCast⟩
theorem bhq:(type_of% @dW)∧(type_of% @lR)∧(type_of% @nH)∧(type_of% @nM)∧(type_of% @pV)∧(type_of% @true_and) :=
 ⟨@dW,@lR,@nH,@nM,@pV,@true_and⟩
theorem bkq:(type_of% @zoe)∧(type_of% @zgj)∧(type_of% @zgk)∧(type_of% @zkp)∧(type_of% @zkk)∧(type_of% @not_false_eq_true)∧(type_of% @true_and)∧(type_of% @and_true) :=
 ⟨@zoe,@zgj,@zgk,@zkp,@zkk,@not_false_eq_true,@true_and,@and_true⟩
attribute [go_sem ↓] zaa zab zac zad zae zag zah zai zaj zak zal zam zan zao zap zaq zar wN wx zas zaw zax zay zaz zba zbb zbc zbd zbe zbf zbg zbh zbi zbj zbk zbl zbm zbn zbo zbp zbu zbv zbw zbx zby zbz zca zcb zcc zcd zce zcf zcg zch zci zcj zck zcl zcm zcn zco zcp zcq zcr zcs zct zcu zcv zcw zcx zcy zcz zda zdb zdc zdd zde zdf zdg zdh zdi zdj zdk zdl zdm zdn zdo zdp zdq zdr zds zdt zdu zeg zeh zex zey zez zfh zfi zfk zfl zfs zft zfz zga zgb zgc zgd zge zgf zgg zgh zgi zgj zgk zof zog zoh zoi zoj zok zol zom zon zoo
attribute [go_sem] zaf zat zau zbq zbr zbs zbt zdv zdw zdx zdy zdz zea wh zeb zec zed zee zef zei zej zek zel zem wO zen zeo wv zep zeq zer zes zet zeu zev List.tail_nil List.tail_cons List.headD_nil List.headD_cons zew zfa zfb zfc zfd zfe zff zfg zfj zfm zfn zfo zfp zfq zfr zfu zfv zfw zfx zfy ne_eq not_false_eq_true Nat.mul_one Nat.one_mul Nat.zero_mul Nat.zero_add Nat.add_zero zgl zgm zgn zgo zgp zgq zgr zgs zgt zgu zgv zgw zgx zgy zgz zha Bool.and_true Bool.and_self Nat.left_eq_add Nat.add_eq_left Nat.add_right_cancel_iff Nat.add_left_cancel_iff Nat.succ_ne_self Nat.one_ne_zero List.map_cons List.map_nil Option.map_some Option.map_none Option.elim_some if_true if_false true_and and_true true_or or_true false_or or_false Bool.false_eq_true Bool.true_eq_false Bool.not_true Bool.not_false List.append_nil List.nil_append zhb zhc zhd zhe zhf zhg zhh zhi zhj zhk zhl zhm zhn zho zhp zhq zhr zhs zht zhu zhv zhw zhx zhy zhz zia zib zic zid rEq List.cons_append wC wu wM wy wt wL wz ww wK wE wJ wI wF wB wG wD zie zif zig zih zii zij List.getElem?_cons_zero List.getElem?_cons_succ TD.agg List.drop_succ_cons List.drop_zero List.take_succ_cons List.take_zero List.take_nil List.drop_nil List.getD_cons_zero List.getD_cons_succ splice zik zil zim Option.isSome_some Option.isSome_none List.getElem?_nil Nat.zero_lt_succ Nat.lt_add_one zin zio qu gJ qH p9 rUn zip ziq zir zis uu zit ziu ziv ziw qh zix ziy ziz zja zjb zjc zjd zje zjf zjg zjh zji zjj zjk zjl zjm zjn zjo zjp zjq zjr dV kI q9 l6 room List.length_cons List.length_nil zjs zjt zju zjv zjw zjx zjy zjz zka zkb zkc zkd zke zkf zkg zkh zki zkj zkk zkl zkm zkn zko zkp zkq zkr zks zkt zku zkv zkw zkx zky zkz zla zlb zlc zld List.length_map iQ
theorem bt:(type_of% @zno)∧(type_of% @znp)∧(type_of% @zmz)∧(type_of% @zna)∧(type_of% @znb)∧(type_of% @znc)∧(type_of% @zne)∧(type_of% @znf)∧(type_of% @znd)∧(type_of% @zng)∧(type_of% @znh)∧(type_of% @zni)∧(type_of% @znj)∧(type_of% @znl)∧(type_of% @znm)∧(type_of% @znn)∧(type_of% @znk)∧(type_of% @zmm)∧(type_of% @zmg)∧(type_of% @zmh)∧(type_of% @zky)∧(type_of% @zkz)∧(type_of% @dW) :=
 ⟨@zno,@znp,@zmz,@zna,@znb,@znc,@zne,@znf,@znd,@zng,@znh,@zni,@znj,@znl,@znm,@znn,@znk,@zmm,@zmg,@zmh,@zky,@zkz,@dW⟩
attribute [go_sem_proc] reduceCtorEq Nat.reduceEqDiff Nat.reduceAdd Nat.reduceMul Nat.reduceSub Nat.reduceLeDiff Nat.reduceLT Int.reduceMul Int.reduceAdd Int.reduceSub Int.reduceToNat
end Go.AL
