/- Lemmas of the proof; no condition. -/
import Derived.Test.YtpbnggedofiinaaGreatAlByte
import Derived.Laws.Externs
set_option linter.all false
set_option linter.unusedSectionVars false
namespace Go.AL
def H6 (l:List Nat):List AV:=l.map fun (d:Nat)=>.int .i64 (d:Int)
theorem zmm {n:Nat} {m:Mark} {l:List Nat}:(AV.slice m 1 (H6 l)).lt n=∀ id,m=.own id→id<n:=by
 rw [AV.lt]
 refine propext ⟨fun h=>h.1,fun h=>⟨h,fun j hj=>?_⟩⟩
 simp only [H6,List.getElem_map]
 rw [AV.lt]<;>simp
end Go.AL
open Go Go.AL
namespace Go.AL
theorem byq:(type_of% @zlk)∧(type_of% @zll)∧(type_of% @zlm)∧(type_of% @zln)∧(type_of% @zlo)∧(type_of% @zlp)∧(type_of% @zlq)∧(type_of% @zlr)∧(type_of% @zls)∧(type_of% @zlt)∧(type_of% @zlu)∧(type_of% @zlv)∧(type_of% @zlw)∧(type_of% @zlx)∧(type_of% @zly)∧(type_of% @zlz)∧(type_of% @zma)∧(type_of% @zmb)∧(type_of% @zmc)∧(type_of% @zmd)∧(type_of% @zme)∧(type_of% @Int.toNat_natCast) :=
 ⟨@zlk,@zll,@zlm,@zln,@zlo,@zlp,@zlq,@zlr,@zls,@zlt,@zlu,@zlv,@zlw,@zlx,@zly,@zlz,@zma,@zmb,@zmc,@zmd,@zme,@Int.toNat_natCast⟩
theorem beq:(type_of% @zmf)∧(type_of% @zmg)∧(type_of% @zmh)∧(type_of% @zmi)∧(type_of% @zmj)∧(type_of% @zmk)∧(type_of% @zml)∧(type_of% @zmm)∧(type_of% @zmn)∧(type_of% @zmp)∧(type_of% @zmq)∧(type_of% @zmr)∧(type_of% @zms)∧(type_of% @zmt)∧(type_of% @zmu)∧(type_of% @zlg)∧(type_of% @zle)∧(type_of% @zlf)∧(type_of% @zmv)∧(type_of% @zmw)∧(type_of% @zmx)∧(type_of% @zmy)∧(type_of% @zmz)∧(type_of% @zna)∧(type_of% @znb)∧(type_of% @znc)∧(type_of% @znd)∧(type_of% @zne)∧(type_of% @znf)∧(type_of% @zng)∧(type_of% @znh)∧(type_of% @zni)∧(type_of% @znj)∧(type_of% @znk)∧(type_of% @znl)∧(type_of% @znm)∧(type_of% @znn)∧(type_of% @zno)∧(type_of% @znp)∧(type_of% @znq)∧(type_of% @znr)∧(type_of% @zns)∧(type_of% @znt)∧(type_of% @znu)∧(type_of% @znv)∧(type_of% @znw)∧(type_of% @znx)∧(type_of% @zny)∧(type_of% @HG)∧(type_of% @znz)∧(type_of% @zoa)∧(type_of% @zob)∧(type_of% @zoc)∧(type_of% @zOd)∧(type_of% @zoe)∧(type_of% @zof)∧(type_of% @zog)∧(type_of% @zoh)∧(type_of% @zoi)∧(type_of% @zoj) :=
 ⟨@zmf,@zmg,@zmh,@zmi,@zmj,@zmk,@zml,@zmm,@zmn,@zmp,@zmq,@zmr,@zms,@zmt,@zmu,@zlg,@zle,@zlf,@zmv,@zmw,@zmx,@zmy,@zmz,@zna,@znb,@znc,@znd,@zne,@znf,@zng,@znh,@zni,@znj,@znk,@znl,@znm,@znn,@zno,@znp,@znq,@znr,@zns,@znt,@znu,@znv,@znw,@znx,@zny,@HG,@znz,@zoa,@zob,@zoc,@zOd,@zoe,@zof,@zog,@zoh,@zoi,@zoj⟩
theorem bnq:(type_of% @zok)∧(type_of% @zgo)∧(type_of% @zgp)∧(type_of% @zkv)∧(type_of% @zkq)∧(type_of% @not_false_eq_true)∧(type_of% @true_and)∧(type_of% @and_true) :=
 ⟨@zok,@zgo,@zgp,@zkv,@zkq,@not_false_eq_true,@true_and,@and_true⟩
theorem bhq:(type_of% @gI)∧(type_of% @vP)∧(type_of% @xX)∧(type_of% @xG)∧(type_of% @A7)∧(type_of% @true_and) :=
 ⟨@gI,@vP,@xX,@xG,@A7,@true_and⟩
attribute [go_sem ↓] zaa zab zac zad zae zag zah zai zaj zak zal zam zan zao zap zaq zar IC Il zas zaw zax zay zaz zba zbb zbc zbd zbe zbf zbg zbh zbi zbj zbk zbl zbm zbn zbo zbp zbu zbv zbw zbx zby zbz zca zcb zcc zcd zce zcf zcg zch zci zcj zck zcl zcm zcn zco zcp zcq zcr zcs zct zcu zcv zcw zcx zcy zcz zda zdb zdc zdd zde zdf zdg zdh zdi zdj zdk zdl zdm zdn zdo zdp zdq zdr zds zdt zdu zdv zdw zdx zdy zdz zel zem zfc zfd zfe zfm zfn zfp zfq zfx zfy zge zgf zgg zgh zgi zgj zgk zgl zgm zgn zgo zgp zol zom zon zoo zop zoq zor zos zot z6 zou
attribute [go_sem] zaf zat zau zbq zbr zbs zbt zea zeb zec zed zee zef HT zeg zeh zei zej zek zen zeo zep zeq zer Ih zes zet Ij zeu zev zew zex zey zez zfa List.tail_nil List.tail_cons List.headD_nil List.headD_cons zfb zff zfg zfh zfi zfj zfk zfl zfo zfr zfs zft zfu zfv zfw zfz zga zgb zgc zgd ne_eq not_false_eq_true Nat.mul_one Nat.one_mul Nat.zero_mul Nat.zero_add Nat.add_zero zgq zgr zgs zgt zgu zgv zgw zgx zgy zgz zha zhb zhc zhd zhe zhf Bool.and_true Bool.and_self Nat.left_eq_add Nat.add_eq_left Nat.add_right_cancel_iff Nat.add_left_cancel_iff Nat.succ_ne_self Nat.one_ne_zero List.map_cons List.map_nil Option.map_some Option.map_none Option.elim_some if_true if_false true_and and_true true_or or_true false_or or_false Bool.false_eq_true Bool.true_eq_false Bool.not_true Bool.not_false List.append_nil List.nil_append zhg zhh zhi zhj zhk zhl zhm zhn zho zhp zhq zhr zhs zht zhu zhv zhw zhx zhy zhz zia zib zic zid zie zif zig zih zii zij rEq List.cons_append Ip Io Iw Im Id Ic Ib Iq Ik ID IB Ir Iu Ig Is Iy zik zil zim zin zio zip List.getElem?_cons_zero List.getElem?_cons_succ TD.agg List.drop_succ_cons List.drop_zero List.take_succ_cons List.take_zero List.take_nil List.drop_nil List.getD_cons_zero List.getD_cons_succ splice ziq zir zis Option.isSome_some Option.isSome_none List.getElem?_nil Nat.zero_lt_succ Nat.lt_add_one zit ziu Db oy Cv Ce rUn ziv ziw zix ziy uN ziz zja zjb zjc CH zjd zje zjf zjg zjh zji zjj zjk zjl zjm zjn zjo zjp zjq zjr zjs zjt zju zjv zjw zjx jN sR yI xq room List.length_cons List.length_nil zjy zjz zka zkb zkc zkd zke zkf zkg zkh zki zkj zkk zkl zkm zkn zko zkp zkq zkr zks zkt zku zkv zkw zkx zky zkz zla zlb zlc zld zle zlf zlg zlh zli zlj List.length_map qu
theorem bt:(type_of% @znu)∧(type_of% @znv)∧(type_of% @znf)∧(type_of% @zng)∧(type_of% @znh)∧(type_of% @zni)∧(type_of% @znk)∧(type_of% @znl)∧(type_of% @znj)∧(type_of% @znm)∧(type_of% @znn)∧(type_of% @zno)∧(type_of% @znp)∧(type_of% @znr)∧(type_of% @zns)∧(type_of% @znt)∧(type_of% @znq)∧(type_of% @zms)∧(type_of% @zmm)∧(type_of% @zmn)∧(type_of% @zle)∧(type_of% @zlf)∧(type_of% @gI) :=
 ⟨@znu,@znv,@znf,@zng,@znh,@zni,@znk,@znl,@znj,@znm,@znn,@zno,@znp,@znr,@zns,@znt,@znq,@zms,@zmm,@zmn,@zle,@zlf,@gI⟩
attribute [go_sem_proc] reduceCtorEq Nat.reduceEqDiff Nat.reduceAdd Nat.reduceMul Nat.reduceSub Nat.reduceLeDiff Nat.reduceLT Int.reduceMul Int.reduceAdd Int.reduceSub Int.reduceToNat
theorem Zd {p:Prop} (h:p:=by first|assumption|omega|(simp;done)|(simp;omega)|(simp only [bt,and_true];first|done|omega|(simp;done))):p:=h
theorem Z0 {p:Prop} (h:p:=by simp (disch:=first|exact Zd|omega) [↓zmo,beq,List.take_of_length_le,List.drop_append,List.take_append,ag,wk,wk2,wk1,wkM,wkL,ak,List.drop_eq_nil_of_le,hcl]):p:=h
theorem Z1 {p:Prop} (h:p:=by simp [Fr.get,cE,h1',h2',gy,pt,gY,cp,hvs,jv,fP,fK,gH,fM,gC,jw,jR,jB,wkM,ziq]):p:=h
theorem Z2 {p:Prop} (h:p:=by simp (disch:=first|exact Zd|omega) [↓zmo,beq,ybc,ybd,ybe,ag,wk,wk2,wk1,wkM,wkL,ak,ybf,hcl]):p:=h
theorem Z3 {p:Prop} (h:p:=by simp only [bnq,enter,pC,ltF,ne_eq,Nat.reduceEqDiff,reduceCtorEq,true_or,and_self]):p:=h
theorem Z4 {p:Prop} (h:p:=by simp (disch:=first|exact Zd|omega) [↓zmo,beq,ybc,ybd,ybe,ag,wk,wk2,wk1,wkM,wkL,ak,ybf,hcl,hle,zmb,zlk]):p:=h
theorem Z5 {p:Prop} (h:p:=by simp (disch:=first|exact Zd|omega) [↓zmo,beq,ybc,ybd,ybe,ag,wk,wk2,wk1,wkM,wkL,ak,ybf,hss,hl0,hcl,hc1,hle]):p:=h
theorem Z6 {p:Prop} (h:p:=by simp (disch:=first|exact Zd|omega) [↓zmo,beq,ybc,ybd,ybe,ag,wk,wk2,wk1,wkM,wkL,ak,ybf,hcl1,hlb]):p:=h
theorem Z7 {p:Prop} (h:p:=by simp (disch:=first|exact Zd|omega) [↓zmo,beq,ybc,ybd,ybe,ag,wk,wk2,wk1,wkM,wkL,ak,ybf,hcl,qd]):p:=h
theorem Z8 {p:Prop} (h:p:=by simp (disch:=first|exact Zd|omega) [↓zmo,beq,ybc,ybd,ybe,ag,wk,wk2,wk1,wkM,wkL,ak,ybf,hcl3]):p:=h
theorem iNq {n:Nat}:(n:Int).toNat=n:=rfl
abbrev tCq:=@TblOk.cons
abbrev tNq:=@TblOk.nil
theorem lAq {α:Type _} {a b:List α}:(a++b).length=a.length+b.length:=List.length_append
theorem gEq {α:Type _} {l:List α} {i:Nat} {a:α}:l.getD i a=(l[i]?).getD a:=List.getD_eq_getElem?_getD
theorem nFq:(¬False)=True:=not_false_eq_true
abbrev lRq:=@AHeap.Le.refl
abbrev nrq:=@Nat.le_refl
abbrev gQq:=@List.getElem?_eq_getElem
abbrev gMq:=@List.getElem_mem
abbrev gPq:=@AHeap.get_push_lt
abbrev lPq:=@AHeap.Le.push
abbrev gNq:=@List.getElem?_eq_none
theorem nzq (n:Nat):0+n=n:=Nat.zero_add n
abbrev glq:=@AHeap.get_lt
abbrev dfq:=@decide_eq_false
abbrev dtq:=@decide_eq_true
abbrev dcq:=@List.drop_eq_getElem_cons
theorem Yq {p q:Prop} (k:q) (h:p:=by first|exact True.intro|decide|omega|(simp [ziq,zgq,zgr,zgs,zgu,zgt,zgy];first|done|omega)):p∧q:=⟨h,k⟩
abbrev Ype:=@EntOk.pure
theorem Yk5 (k:Nat) (h:k+1<9223372036854775808:=by omega):IntKind.i64.wrap ((k:Int)+1)=((k+1:Nat):Int):=by rw [wrap_i64]<;>omega
end Go.AL
