/- Lemmas of the proof; no condition. -/
import Derived.Test.YthnlhjalhflgfaaGreatAlByte
import Derived.Laws.Externs
set_option linter.all false
set_option linter.unusedSectionVars false
namespace Go.AL
def ic (l:List Nat):List AV:=l.map fun (d:Nat)=>.int .i64 (d:Int)
def DH (x:AV):Nat:=match x with|.int _ n=>n.toNat|_=>0
def uni (l:List AV):List Nat:=l.map DH
def isI (l:List AV):Prop:=l=ic (uni l)
theorem qr {l:List Nat}:(ic l).length=l.length:=by simp [ic]
theorem vS:ic []=[]:=rfl
theorem tY {l:List Nat} {n:Nat}:(ic l).take n=ic (l.take n):=by simp [ic]
theorem t6 {l:List Nat} {n:Nat}:(ic l).drop n=ic (l.drop n):=by simp [ic]
theorem qj {l m:List Nat}:ic l++ic m=ic (l++m):=by simp [ic]
theorem tL {l:List Nat} {n:Nat}:ic l++[AV.int .i64 (n:Int)]=ic (l++[n]):=by simp [ic]
theorem wV {k:IntKind} {n:Int}:(∀ z∈[AV.int k n],cg z.cells=true)=True:=eq_true fun z hz=>by
 simp at hz;subst hz;rfl
theorem kZ {l:List Nat}:uni (ic l)=l:=by
 unfold uni ic
 rw [List.map_map]
 have:(DH ∘ fun d=>AV.int .i64 ((d:Nat):Int))=id:=funext fun d=>by simp [DH]
 rw [this,List.map_id]
theorem zq:uni []=[]:=rfl
theorem r9 {l:List Nat}:isI (ic l)=True:=eq_true (by show ic l=ic (uni (ic l));rw [kZ])
theorem zL:isI []=True:=eq_true rfl
theorem wT {l m:List Nat}:(ic l=ic m)=(l=m):=propext ⟨fun h=>by have:=congrArg uni h;rwa [kZ,kZ] at this,fun h=>by rw [h]⟩
theorem tZ {l:List Nat}:(∀ z∈ic l,cg z.cells=true)=True:=eq_true fun z hz=>by
 obtain ⟨b,_,rfl⟩:=List.mem_map.1 hz
 rfl
theorem zmm {n:Nat} {m:Mark} {l:List Nat}:(AV.slice m 1 (ic l)).lt n=∀ id,m=.own id→id<n:=by
 rw [AV.lt]
 refine propext ⟨fun h=>h.1,fun h=>⟨h,fun j hj=>?_⟩⟩
 simp only [ic,List.getElem_map]
 rw [AV.lt]<;>simp
theorem qn {l:List Nat}:(ic l=[])=(l=[]):=by cases l<;>simp [ic]
end Go.AL
open Go Go.AL
namespace Go.AL
theorem byq:(type_of% @zlk)∧(type_of% @zll)∧(type_of% @zlm)∧(type_of% @zln)∧(type_of% @zlo)∧(type_of% @zlp)∧(type_of% @zlq)∧(type_of% @zlr)∧(type_of% @zls)∧(type_of% @zlt)∧(type_of% @zlu)∧(type_of% @zlv)∧(type_of% @zlw)∧(type_of% @zlx)∧(type_of% @zly)∧(type_of% @zlz)∧(type_of% @zma)∧(type_of% @zmb)∧(type_of% @zmc)∧(type_of% @zmd)∧(type_of% @zme)∧(type_of% @Int.toNat_natCast) :=
 ⟨@zlk,@zll,@zlm,@zln,@zlo,@zlp,@zlq,@zlr,@zls,@zlt,@zlu,@zlv,@zlw,@zlx,@zly,@zlz,@zma,@zmb,@zmc,@zmd,@zme,@Int.toNat_natCast⟩
theorem beq:(type_of% @zmf)∧(type_of% @zmg)∧(type_of% @zmh)∧(type_of% @zmi)∧(type_of% @zmj)∧(type_of% @zmk)∧(type_of% @zml)∧(type_of% @zmm)∧(type_of% @zmn)∧(type_of% @zmp)∧(type_of% @zmq)∧(type_of% @zmr)∧(type_of% @zms)∧(type_of% @zmt)∧(type_of% @zmu)∧(type_of% @zlg)∧(type_of% @zle)∧(type_of% @zlf)∧(type_of% @zmv)∧(type_of% @zmw)∧(type_of% @zmx)∧(type_of% @zmy)∧(type_of% @zmz)∧(type_of% @zna)∧(type_of% @znb)∧(type_of% @znc)∧(type_of% @znd)∧(type_of% @zne)∧(type_of% @znf)∧(type_of% @zng)∧(type_of% @znh)∧(type_of% @zni)∧(type_of% @znj)∧(type_of% @znk)∧(type_of% @znl)∧(type_of% @znm)∧(type_of% @znn)∧(type_of% @zno)∧(type_of% @znp)∧(type_of% @znq)∧(type_of% @znr)∧(type_of% @zns)∧(type_of% @znt)∧(type_of% @znu)∧(type_of% @znv)∧(type_of% @znw)∧(type_of% @znx)∧(type_of% @zny)∧(type_of% @Oc)∧(type_of% @znz)∧(type_of% @zoa)∧(type_of% @zob)∧(type_of% @zoc)∧(type_of% @zOd)∧(type_of% @zoe)∧(type_of% @zof)∧(type_of% @zog)∧(type_of% @zoh)∧(type_of% @zoi)∧(type_of% @zoj) :=
 ⟨@zmf,@zmg,@zmh,@zmi,@zmj,@zmk,@zml,@zmm,@zmn,@zmp,@zmq,@zmr,@zms,@zmt,@zmu,@zlg,@zle,@zlf,@zmv,@zmw,@zmx,@zmy,@zmz,@zna,@znb,@znc,@znd,@zne,@znf,@zng,@znh,@zni,@znj,@znk,@znl,@znm,@znn,@zno,@znp,@znq,@znr,@zns,@znt,@znu,@znv,@znw,@znx,@zny,@Oc,@znz,@zoa,@zob,@zoc,@zOd,@zoe,@zof,@zog,@zoh,@zoi,@zoj⟩
theorem bnq:(type_of% @zok)∧(type_of% @zgo)∧(type_of% @zgp)∧(type_of% @zkv)∧(type_of% @zkq)∧(type_of% @not_false_eq_true)∧(type_of% @true_and)∧(type_of% @and_true) :=
 ⟨@zok,@zgo,@zgp,@zkv,@zkq,@not_false_eq_true,@true_and,@and_true⟩
theorem biq:(type_of% @qr)∧(type_of% @tZ)∧(type_of% @tL)∧(type_of% @wV)∧(type_of% @qj)∧(type_of% @tY)∧(type_of% @t6)∧(type_of% @r9)∧(type_of% @kZ)∧(type_of% @vS)∧(type_of% @zL)∧(type_of% @zq)∧(type_of% @wT)∧(type_of% @qn)∧(type_of% @Int.toNat_natCast) :=
 ⟨@qr,@tZ,@tL,@wV,@qj,@tY,@t6,@r9,@kZ,@vS,@zL,@zq,@wT,@qn,@Int.toNat_natCast⟩
theorem bhq:(type_of% @ij)∧(type_of% @tC)∧(type_of% @vR)∧(type_of% @vO)∧(type_of% @zE)∧(type_of% @true_and) :=
 ⟨@ij,@tC,@vR,@vO,@zE,@true_and⟩
theorem bkq:(type_of% @zok)∧(type_of% @zgo)∧(type_of% @zgp)∧(type_of% @zkv)∧(type_of% @zkq)∧(type_of% @not_false_eq_true)∧(type_of% @true_and)∧(type_of% @and_true) :=
 ⟨@zok,@zgo,@zgp,@zkv,@zkq,@not_false_eq_true,@true_and,@and_true⟩
attribute [go_sem ↓] zaa zab zac zad zae zag zah zai zaj zak zal zam zan zao zap zaq zar Ou OH zas zaw zax zay zaz zba zbb zbc zbd zbe zbf zbg zbh zbi zbj zbk zbl zbm zbn zbo zbp zbu zbv zbw zbx zby zbz zca zcb zcc zcd zce zcf zcg zch zci zcj zck zcl zcm zcn zco zcp zcq zcr zcs zct zcu zcv zcw zcx zcy zcz zda zdb zdc zdd zde zdf zdg zdh zdi zdj zdk zdl zdm zdn zdo zdp zdq zdr zds zdt zdu zdv zdw zdx zdy zdz zel zem zfc zfd zfe zfm zfn zfp zfq zfx zfy zge zgf zgg zgh zgi zgj zgk zgl zgm zgn zgo zgp zol zom zon zoo zop zoq zor zos zot zou
attribute [go_sem] zaf zat zau zbq zbr zbs zbt zea zeb zec zed zee zef NH zeg zeh zei zej zek zen zeo zep zeq zer OQ zes zet Ov zeu zev zew zex zey zez zfa List.tail_nil List.tail_cons List.headD_nil List.headD_cons zfb zff zfg zfh zfi zfj zfk zfl zfo zfr zfs zft zfu zfv zfw zfz zga zgb zgc zgd ne_eq not_false_eq_true Nat.mul_one Nat.one_mul Nat.zero_mul Nat.zero_add Nat.add_zero zgq zgr zgs zgt zgu zgv zgw zgx zgy zgz zha zhb zhc zhd zhe zhf Bool.and_true Bool.and_self Nat.left_eq_add Nat.add_eq_left Nat.add_right_cancel_iff Nat.add_left_cancel_iff Nat.succ_ne_self Nat.one_ne_zero List.map_cons List.map_nil Option.map_some Option.map_none Option.elim_some if_true if_false true_and and_true true_or or_true false_or or_false Bool.false_eq_true Bool.true_eq_false Bool.not_true Bool.not_false List.append_nil List.nil_append zhg zhh zhi zhj zhk zhl zhm zhn zho zhp zhq zhr zhs zht zhu zhv zhw zhx zhy zhz zia zib zic zid zie zif zig zih zii zij rEq List.cons_append ON OP OK OB Ow OS Oy Oq Ox Oz On OC OV OE OI OO zik zil zim zin zio zip List.getElem?_cons_zero List.getElem?_cons_succ TD.agg List.drop_succ_cons List.drop_zero List.take_succ_cons List.take_zero List.take_nil List.drop_nil List.getD_cons_zero List.getD_cons_succ splice ziq zir zis Option.isSome_some Option.isSome_none List.getElem?_nil Nat.zero_lt_succ Nat.lt_add_one zit ziu B3 ns BZ Cr rUn ziv ziw zix ziy oP ziz zja zjb zjc Bj zjd zje zjf zjg zjh zji zjj zjk zjl zjm zjn zjo zjp zjq zjr zjs zjt zju zjv zjw zjx jy tj AU u4 room List.length_cons List.length_nil zjy zjz zka zkb zkc zkd zke zkf zkg zkh zki zkj zkk zkl zkm zkn zko zkp zkq zkr zks zkt zku zkv zkw zkx zky zkz zla zlb zlc zld zle zlf zlg zlh zli zlj List.length_map pt
theorem bt:(type_of% @znu)∧(type_of% @znv)∧(type_of% @znf)∧(type_of% @zng)∧(type_of% @znh)∧(type_of% @zni)∧(type_of% @znk)∧(type_of% @znl)∧(type_of% @znj)∧(type_of% @znm)∧(type_of% @znn)∧(type_of% @zno)∧(type_of% @znp)∧(type_of% @znr)∧(type_of% @zns)∧(type_of% @znt)∧(type_of% @znq)∧(type_of% @zms)∧(type_of% @zmm)∧(type_of% @zmn)∧(type_of% @zle)∧(type_of% @zlf)∧(type_of% @ij) :=
 ⟨@znu,@znv,@znf,@zng,@znh,@zni,@znk,@znl,@znj,@znm,@znn,@zno,@znp,@znr,@zns,@znt,@znq,@zms,@zmm,@zmn,@zle,@zlf,@ij⟩
attribute [go_sem_proc] reduceCtorEq Nat.reduceEqDiff Nat.reduceAdd Nat.reduceMul Nat.reduceSub Nat.reduceLeDiff Nat.reduceLT Int.reduceMul Int.reduceAdd Int.reduceSub Int.reduceToNat
theorem Zd {p:Prop} (h:p:=by first|assumption|omega|(simp;done)|(simp;omega)|(simp only [bt,and_true];first|done|omega|(simp;done))):p:=h
theorem Z0 {p:Prop} (h:p:=by simp (disch:=first|exact Zd|omega) [↓zmo,beq,ybc,ybd,ybe,aa,wk,wk2,wk1,wkM,wkL,ae,ybf,byq,hcl]):p:=h
theorem Z1 {p:Prop} (h:p:=by simp (disch:=first|exact Zd|omega) [↓zmo,beq,ybc,ybd,ybe,aa,wk,wk2,wk1,wkM,wkL,ae,ybf,hcl]):p:=h
theorem Z2 {p:Prop} (h:p:=by simp (disch:=first|exact Zd|omega) [↓zmo,beq,List.take_of_length_le,List.drop_append,List.take_append,aa,wk,wk2,wk1,wkM,wkL,ae,List.drop_eq_nil_of_le,hcl]):p:=h
theorem Z3 {p:Prop} (h:p:=by simp [Fr.get,bL,h1',h2',aO,cI,l8,cp,hvs,kB,dd,dc,dK,gh,gN,kz,jJ,jp,wkM,ziq]):p:=h
theorem Z4 {p:Prop} (h:p:=by simp (disch:=first|exact Zd|omega) [↓zmo,beq,ybc,ybd,ybe,aa,wk,wk2,wk1,wkM,wkL,ae,ybf,hcl,hle,hlp]):p:=h
theorem Z5 {p:Prop} (h:p:=by (simp only [bkq,enterW,bk,ltF,ne_eq,Nat.reduceEqDiff,reduceCtorEq,hm,hf,hmu'];try simp (disch:=first|exact Zd|omega) [↓zmo,beq,ybc,ybd,ybe,aa,wk,wk2,wk1,wkM,wkL,ae,ybf,byq,biq,cB,hcl,hm,hf,hmu'];try (repeat' (first|assumption|omega|exact True.intro|refine And.intro ?_ ?_|refine aY ?_|refine bh ?_|refine af ?_ ?_|refine ba ?_ ?_|refine ck ?_|exact AHeap.Le.refl _|refine AHeap.Le.push ?_ _|refine AHeap.Le.del ?_ ?_|(simp only [bt,and_true,true_and,hm,hf,hmu'];first|done|omega|(simp;done)))))):p:=h
theorem Z6 {p:Prop} (h:p:=by simp (disch:=first|exact Zd|omega) [↓zmo,beq,ybc,ybd,ybe,aa,wk,wk2,wk1,wkM,wkL,ae,ybf,hcl,hle]):p:=h
theorem Z7 {p:Prop} (h:p:=by simp (disch:=first|exact Zd|omega) [↓zmo,beq,ybc,ybd,ybe,aa,wk,wk2,wk1,wkM,wkL,ae,ybf,hcl,hc2]):p:=h
theorem Z8 {p:Prop} (h:p:=by simp (disch:=first|exact Zd|omega) [↓zmo,beq,ybc,ybd,ybe,aa,wk,wk2,wk1,wkM,wkL,ae,ybf,hcc]):p:=h
theorem Z9 {p:Prop} (h:p:=by simp (disch:=first|exact Zd|omega) [↓zmo,beq,ybc,ybd,ybe,aa,wk,wk2,wk1,wkM,wkL,ae,ybf,hcl,hcc]):p:=h
theorem Z10 {p:Prop} (h:p:=by simp (disch:=first|exact Zd|omega) [↓zmo,beq,ybc,ybd,ybe,aa,wk,wk2,wk1,wkM,wkL,ae,ybf,hcl,hc2,hne2]):p:=h
theorem Z11 {p:Prop} (h:p:=by simp (disch:=first|exact Zd|omega) [↓zmo,beq,ybc,ybd,ybe,aa,wk,wk2,wk1,wkM,wkL,ae,ybf,hcl,hcc,hne2]):p:=h
theorem Z12 {p:Prop} (h:p:=by simp (disch:=first|exact Zd|omega) [↓zmo,beq,ybc,ybd,ybe,aa,wk,wk2,wk1,wkM,wkL,ae,ybf,hcl,hHl]):p:=h
theorem Z13 {p:Prop} (h:p:=by simp (disch:=first|exact Zd|omega) [↓zmo,beq,ybc,ybd,ybe,aa,wk,wk2,wk1,wkM,wkL,ae,ybf,hcl,hHle]):p:=h
theorem Z14 {p:Prop} (h:p:=by simp (disch:=first|exact Zd|omega) [↓zmo,beq,ybc,ybd,ybe,aa,wk,wk2,wk1,wkM,wkL,ae,ybf,hcl1,hlb]):p:=h
theorem Z15 {p:Prop} (h:p:=by simp (disch:=first|exact Zd|omega) [↓zmo,beq,ybc,ybd,ybe,aa,wk,wk2,wk1,wkM,wkL,ae,ybf,hcl1]):p:=h
theorem Z16 {p:Prop} (h:p:=by simp (disch:=first|exact Zd|omega) [↓zmo,beq,ybc,ybd,ybe,aa,wk,wk2,wk1,wkM,wkL,ae,ybf,hcl,dZ]):p:=h
theorem Z17 {p:Prop} (h:p:=by simp [ltF,znf,znn,aZ kU,aZ nc,aZ gf,aZ iF,aZ qR,aZ lc,aZ lg,aZ p8,aZ eb,aZ rA,aZ j3,aZ lN,aZ vG,zlf];omega):p:=h
theorem iNq {n:Nat}:(n:Int).toNat=n:=rfl
abbrev tCq:=@TblOk.cons
abbrev tNq:=@TblOk.nil
theorem lAq {α:Type _} {a b:List α}:(a++b).length=a.length+b.length:=List.length_append
theorem gEq {α:Type _} {l:List α} {i:Nat} {a:α}:l.getD i a=(l[i]?).getD a:=List.getD_eq_getElem?_getD
theorem nFq:(¬False)=True:=not_false_eq_true
abbrev lRq:=@AHeap.Le.refl
abbrev nrq:=@Nat.le_refl
abbrev gQq:=@List.getElem?_eq_getElem
abbrev gMq:=@List.getElem_mem
abbrev gPq:=@AHeap.get_push_lt
abbrev lPq:=@AHeap.Le.push
abbrev gNq:=@List.getElem?_eq_none
theorem nzq (n:Nat):0+n=n:=Nat.zero_add n
abbrev glq:=@AHeap.get_lt
abbrev dfq:=@decide_eq_false
abbrev dtq:=@decide_eq_true
abbrev dcq:=@List.drop_eq_getElem_cons
theorem Yq {p q:Prop} (k:q) (h:p:=by first|exact True.intro|decide|omega|(simp [ziq,zgq,zgr,zgs,zgu,zgt,zgy];first|done|omega)):p∧q:=⟨h,k⟩
abbrev Ype:=@EntOk.pure
theorem Yk5 (k:Nat) (h:k+1<9223372036854775808:=by omega):IntKind.i64.wrap ((k:Int)+1)=((k+1:Nat):Int):=by rw [wrap_i64]<;>omega
end Go.AL
