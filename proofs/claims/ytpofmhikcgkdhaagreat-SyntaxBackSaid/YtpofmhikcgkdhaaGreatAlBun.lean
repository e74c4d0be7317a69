/- Lemmas of the proof; no condition. -/
import Derived.Test.YtpofmhikcgkdhaaGreatAlByte
import Derived.Laws.Externs
set_option linter.all false
set_option linter.unusedSectionVars false
namespace Go.AL
def bK (l:List Nat):List AV:=l.map fun (d:Nat)=>.int .i64 (d:Int)
def Ab (x:AV):Nat:=match x with|.int _ n=>n.toNat|_=>0
def uni (l:List AV):List Nat:=l.map Ab
def isI (l:List AV):Prop:=l=bK (uni l)
theorem ck {l:List Nat}:(bK l).length=l.length:=by simp [bK]
theorem cL:bK []=[]:=rfl
theorem qq {l:List Nat} {n:Nat}:(bK l).take n=bK (l.take n):=by simp [bK]
theorem qK {l:List Nat} {n:Nat}:(bK l).drop n=bK (l.drop n):=by simp [bK]
theorem nn {l m:List Nat}:bK l++bK m=bK (l++m):=by simp [bK]
theorem rc {l:List Nat} {n:Nat}:bK l++[AV.int .i64 (n:Int)]=bK (l++[n]):=by simp [bK]
theorem tW {k:IntKind} {n:Int}:(∀ z∈[AV.int k n],aY z.cells=true)=True:=eq_true fun z hz=>by
 simp at hz;subst hz;rfl
theorem dr {l:List Nat}:uni (bK l)=l:=by
 unfold uni bK
 rw [List.map_map]
 have:(Ab ∘ fun d=>AV.int .i64 ((d:Nat):Int))=id:=funext fun d=>by simp [Ab]
 rw [this,List.map_id]
theorem w6:uni []=[]:=rfl
theorem pg {l:List Nat}:isI (bK l)=True:=eq_true (by show bK l=bK (uni (bK l));rw [dr])
theorem wE:isI []=True:=eq_true rfl
theorem A8 {l:List AV} (h:isI l):∃ xs,l=bK xs:=⟨_,h⟩
theorem tc {l m:List Nat}:(bK l=bK m)=(l=m):=propext ⟨fun h=>by have:=congrArg uni h;rwa [dr,dr] at this,fun h=>by rw [h]⟩
theorem fJ {l:List Nat} {i:Nat} (h:i<l.length):(bK l).getD i .junk=.int .i64 (l.getD i 0:Nat):=by
 simp [bK,List.getD_eq_getElem?_getD,h]
theorem qF {l:List Nat}:(∀ z∈bK l,aY z.cells=true)=True:=eq_true fun z hz=>by
 obtain ⟨b,_,rfl⟩:=List.mem_map.1 hz
 rfl
theorem zmm {n:Nat} {m:Mark} {l:List Nat}:(AV.slice m 1 (bK l)).lt n=∀ id,m=.own id→id<n:=by
 rw [AV.lt]
 refine propext ⟨fun h=>h.1,fun h=>⟨h,fun j hj=>?_⟩⟩
 simp only [bK,List.getElem_map]
 rw [AV.lt]<;>simp
theorem nB {l:List Nat}:(bK l=[])=(l=[]):=by cases l<;>simp [bK]
theorem dU {l:List Nat} {i:Nat} (h:i<l.length):((bK l).getD i .junk).cells=[.int .i64 (l.getD i 0:Nat)]:=by rw [fJ h];rfl
theorem xM {w:World} {γ:bb} {H:AHeap} {k:IntKind} {x y z:Int} {vs:Array Value} (h:RelA w γ H [.int k x,.int k y,.int k z] vs):vs=#[.int k x,.int k y,.int k z]:=by
 obtain ⟨h1,h2⟩:=h
 have h1':vs.size=3:=h1
 obtain ⟨u0,e0,r0⟩:=h2 0 (by simp)
 obtain ⟨u1,e1,r1⟩:=h2 1 (by simp)
 obtain ⟨u2,e2,r2⟩:=h2 2 (by simp)
 simp only [List.getElem_cons_zero,List.getElem_cons_succ] at r0 r1 r2
 rw [Rel] at r0 r1 r2
 subst r0 r1 r2
 obtain ⟨l⟩:=vs
 match l,h1' with
 |[a,b,c],_=>simp at e0 e1 e2;simp [e0,e1,e2]
theorem sj {P : Program} {f : FuncId} {fn : Func} (hf : P.funcs[f]? = some fn) (hname : (fn.name == "runtime.NumGoroutine") = false) (hb : fn.body.isNone = true) (hn : Extern.findNext fn = none)
 (he:Extern.find fn=some add64Entry) {x y c:Int} (hx:0≤x) (hy:0≤y) (hc0:0≤c) (hc:c≤1) {H:AHeap} :
 ACalls P f [.int .u64 x,.int .u64 y,.int .u64 c] H (.ret (.tup [.int .u64 ((x+y+c) % 18446744073709551616),.int .u64 ((x+y+c)/18446744073709551616)])) H:=by
 intro w γ vs hs hr
 rw [xM hr,run_callFunc_extern hf hname hb hn he,run_add64 x y c hx hy hc0 hc]
 refine ⟨γ,hs,Ext.refl _ _ _,?_⟩
 show Rel w γ H _ _
 rw [Rel]
 refine ⟨_,rfl,rfl,fun j hj=>?_⟩
 match j,hj with
 |0,_=>exact ⟨_,rfl,by simp only [List.getElem_cons_zero];rw [Rel];rfl⟩
 |1,_=>exact ⟨_,rfl,by simp only [List.getElem_cons_zero,List.getElem_cons_succ];rw [Rel];rfl⟩
end Go.AL
open Go Go.AL
namespace Go.AL
theorem byq:(type_of% @zlk)∧(type_of% @zll)∧(type_of% @zlm)∧(type_of% @zln)∧(type_of% @zlo)∧(type_of% @zlp)∧(type_of% @zlq)∧(type_of% @zlr)∧(type_of% @zls)∧(type_of% @zlt)∧(type_of% @zlu)∧(type_of% @zlv)∧(type_of% @zlw)∧(type_of% @zlx)∧(type_of% @zly)∧(type_of% @zlz)∧(type_of% @zma)∧(type_of% @zmb)∧(type_of% @zmc)∧(type_of% @zmd)∧(type_of% @zme)∧(type_of% @Int.toNat_natCast) :=
 ⟨@zlk,@zll,@zlm,@zln,@zlo,@zlp,@zlq,@zlr,@zls,@zlt,@zlu,@zlv,@zlw,@zlx,@zly,@zlz,@zma,@zmb,@zmc,@zmd,@zme,@Int.toNat_natCast⟩
theorem beq:(type_of% @zmf)∧(type_of% @zmg)∧(type_of% @zmh)∧(type_of% @zmi)∧(type_of% @zmj)∧(type_of% @zmk)∧(type_of% @zml)∧(type_of% @zmm)∧(type_of% @zmn)∧(type_of% @zmp)∧(type_of% @zmq)∧(type_of% @zmr)∧(type_of% @zms)∧(type_of% @zmt)∧(type_of% @zmu)∧(type_of% @zlg)∧(type_of% @zle)∧(type_of% @zlf)∧(type_of% @zmv)∧(type_of% @zmw)∧(type_of% @zmx)∧(type_of% @zmy)∧(type_of% @zmz)∧(type_of% @zna)∧(type_of% @znb)∧(type_of% @znc)∧(type_of% @znd)∧(type_of% @zne)∧(type_of% @znf)∧(type_of% @zng)∧(type_of% @znh)∧(type_of% @zni)∧(type_of% @znj)∧(type_of% @znk)∧(type_of% @znl)∧(type_of% @znm)∧(type_of% @znn)∧(type_of% @zno)∧(type_of% @znp)∧(type_of% @znq)∧(type_of% @znr)∧(type_of% @zns)∧(type_of% @znt)∧(type_of% @znu)∧(type_of% @znv)∧(type_of% @znw)∧(type_of% @znx)∧(type_of% @zny)∧(type_of% @D1)∧(type_of% @znz)∧(type_of% @zoa)∧(type_of% @zob)∧(type_of% @zoc)∧(type_of% @zOd)∧(type_of% @zoe)∧(type_of% @zof)∧(type_of% @zog)∧(type_of% @zoh)∧(type_of% @zoi)∧(type_of% @zoj) :=
 ⟨@zmf,@zmg,@zmh,@zmi,@zmj,@zmk,@zml,@zmm,@zmn,@zmp,@zmq,@zmr,@zms,@zmt,@zmu,@zlg,@zle,@zlf,@zmv,@zmw,@zmx,@zmy,@zmz,@zna,@znb,@znc,@znd,@zne,@znf,@zng,@znh,@zni,@znj,@znk,@znl,@znm,@znn,@zno,@znp,@znq,@znr,@zns,@znt,@znu,@znv,@znw,@znx,@zny,@D1,@znz,@zoa,@zob,@zoc,@zOd,@zoe,@zof,@zog,@zoh,@zoi,@zoj⟩
theorem bnq:(type_of% @zok)∧(type_of% @zgo)∧(type_of% @zgp)∧(type_of% @zkv)∧(type_of% @zkq)∧(type_of% @not_false_eq_true)∧(type_of% @true_and)∧(type_of% @and_true) :=
 ⟨@zok,@zgo,@zgp,@zkv,@zkq,@not_false_eq_true,@true_and,@and_true⟩
theorem biq:(type_of% @ck)∧(type_of% @qF)∧(type_of% @rc)∧(type_of% @tW)∧(type_of% @nn)∧(type_of% @qq)∧(type_of% @qK)∧(type_of% @pg)∧(type_of% @dr)∧(type_of% @cL)∧(type_of% @wE)∧(type_of% @w6)∧(type_of% @tc)∧(type_of% @nB)∧(type_of% @Int.toNat_natCast) :=
 ⟨@ck,@qF,@rc,@tW,@nn,@qq,@qK,@pg,@dr,@cL,@wE,@w6,@tc,@nB,@Int.toNat_natCast⟩
theorem bhq:(type_of% @ij)∧(type_of% @q0)∧(type_of% @tp)∧(type_of% @tS)∧(type_of% @wK)∧(type_of% @true_and) :=
 ⟨@ij,@q0,@tp,@tS,@wK,@true_and⟩
theorem bkq:(type_of% @zok)∧(type_of% @zgo)∧(type_of% @zgp)∧(type_of% @zkv)∧(type_of% @zkq)∧(type_of% @not_false_eq_true)∧(type_of% @true_and)∧(type_of% @and_true) :=
 ⟨@zok,@zgo,@zgp,@zkv,@zkq,@not_false_eq_true,@true_and,@and_true⟩
attribute [go_sem ↓] zaa zab zac zad zae zag zah zai zaj zak zal zam zan zao zap zaq zar Ei Eg zas zaw zax zay zaz zba zbb zbc zbd zbe zbf zbg zbh zbi zbj zbk zbl zbm zbn zbo zbp zbu zbv zbw zbx zby zbz zca zcb zcc zcd zce zcf zcg zch zci zcj zck zcl zcm zcn zco zcp zcq zcr zcs zct zcu zcv zcw zcx zcy zcz zda zdb zdc zdd zde zdf zdg zdh zdi zdj zdk zdl zdm zdn zdo zdp zdq zdr zds zdt zdu zdv zdw zdx zdy zdz zel zem zfc zfd zfe zfm zfn zfp zfq zfx zfy zge zgf zgg zgh zgi zgj zgk zgl zgm zgn zgo zgp zol zom zon zoo zop zoq zor zos zot vw zou
attribute [go_sem] zaf zat zau zbq zbr zbs zbt zea zeb zec zed zee zef DM zeg zeh zei zej zek zen zeo zep zeq zer Ef zes zet Eb zeu zev zew zex zey zez zfa List.tail_nil List.tail_cons List.headD_nil List.headD_cons zfb zff zfg zfh zfi zfj zfk zfl zfo zfr zfs zft zfu zfv zfw zfz zga zgb zgc zgd ne_eq not_false_eq_true Nat.mul_one Nat.one_mul Nat.zero_mul Nat.zero_add Nat.add_zero zgq zgr zgs zgt zgu zgv zgw zgx zgy zgz zha zhb zhc zhd zhe zhf Bool.and_true Bool.and_self Nat.left_eq_add Nat.add_eq_left Nat.add_right_cancel_iff Nat.add_left_cancel_iff Nat.succ_ne_self Nat.one_ne_zero List.map_cons List.map_nil Option.map_some Option.map_none Option.elim_some if_true if_false true_and and_true true_or or_true false_or or_false Bool.false_eq_true Bool.true_eq_false Bool.not_true Bool.not_false List.append_nil List.nil_append zhg zhh zhi zhj zhk zhl zhm zhn zho zhp zhq zhr zhs zht zhu zhv zhw zhx zhy zhz zia zib zic zid zie zif zig zih zii zij rEq List.cons_append D7 Ea El Eq Ek Ec Ep Ee En Eh D3 Eo D4 D9 Ed D6 zik zil zim zin zio zip List.getElem?_cons_zero List.getElem?_cons_succ TD.agg List.drop_succ_cons List.drop_zero List.take_succ_cons List.take_zero List.take_nil List.drop_nil List.getD_cons_zero List.getD_cons_succ splice ziq zir zis Option.isSome_some Option.isSome_none List.getElem?_nil Nat.zero_lt_succ Nat.lt_add_one zit ziu yf kF xz xN rUn ziv ziw zix ziy pT ziz zja zjb zjc xO zjd zje zjf zjg zjh zji zjj zjk zjl zjm zjn zjo zjp zjq zjr zjs zjt zju zjv zjw zjx fQ oH t8 sg room List.length_cons List.length_nil zjy zjz zka zkb zkc zkd zke zkf zkg zkh zki zkj zkk zkl zkm zkn zko zkp zkq zkr zks zkt zku zkv zkw zkx zky zkz zla zlb zlc zld zle zlf zlg zlh zli zlj List.length_map lJ
theorem bt:(type_of% @znu)∧(type_of% @znv)∧(type_of% @znf)∧(type_of% @zng)∧(type_of% @znh)∧(type_of% @zni)∧(type_of% @znk)∧(type_of% @znl)∧(type_of% @znj)∧(type_of% @znm)∧(type_of% @znn)∧(type_of% @zno)∧(type_of% @znp)∧(type_of% @znr)∧(type_of% @zns)∧(type_of% @znt)∧(type_of% @znq)∧(type_of% @zms)∧(type_of% @zmm)∧(type_of% @zmn)∧(type_of% @zle)∧(type_of% @zlf)∧(type_of% @ij) :=
 ⟨@znu,@znv,@znf,@zng,@znh,@zni,@znk,@znl,@znj,@znm,@znn,@zno,@znp,@znr,@zns,@znt,@znq,@zms,@zmm,@zmn,@zle,@zlf,@ij⟩
attribute [go_sem_proc] reduceCtorEq Nat.reduceEqDiff Nat.reduceAdd Nat.reduceMul Nat.reduceSub Nat.reduceLeDiff Nat.reduceLT Int.reduceMul Int.reduceAdd Int.reduceSub Int.reduceToNat
theorem Zd {p:Prop} (h:p:=by first|assumption|omega|(simp;done)|(simp;omega)|(simp only [bt,and_true];first|done|omega|(simp;done))):p:=h
theorem Z0 {p:Prop} (h:p:=by simp (disch:=first|exact Zd|omega) [↓zmo,beq,ybc,ybd,ybe,af,wk,wk2,wk1,wkM,wkL,am,ybf,hcl]):p:=h
theorem Z1 {p:Prop} (h:p:=by (simp only [bkq,enterW,aU,ltF,ne_eq,Nat.reduceEqDiff,reduceCtorEq];try simp (disch:=first|exact Zd|omega) [↓zmo,beq,ybc,ybd,ybe,af,wk,wk2,wk1,wkM,wkL,am,ybf,byq,biq,ae,hcl];try (repeat' (first|assumption|omega|exact True.intro|refine And.intro ?_ ?_|refine ag ?_|refine ac ?_|refine aa ?_ ?_|refine ai ?_ ?_|refine ak ?_|exact AHeap.Le.refl _|refine AHeap.Le.push ?_ _|refine AHeap.Le.del ?_ ?_|(simp only [bt,and_true,true_and];first|done|omega|(simp;done)))))):p:=h
theorem Z2 {p:Prop} (h:p:=by (simp only [bkq,enterW,aU,ltF,ne_eq,Nat.reduceEqDiff,reduceCtorEq,h2'];try simp (disch:=first|exact Zd|omega) [↓zmo,beq,ybc,ybd,ybe,af,wk,wk2,wk1,wkM,wkL,am,ybf,byq,biq,ae,hcl,h2'];try (repeat' (first|assumption|omega|exact True.intro|refine And.intro ?_ ?_|refine ag ?_|refine ac ?_|refine aa ?_ ?_|refine ai ?_ ?_|refine ak ?_|exact AHeap.Le.refl _|refine AHeap.Le.push ?_ _|refine AHeap.Le.del ?_ ?_|(simp only [bt,and_true,true_and,h2'];first|done|omega|(simp;done)))))):p:=h
theorem Z3 {p:Prop} (h:p:=by simp only [bnq,enter,fZ,ltF,ne_eq,Nat.reduceEqDiff,reduceCtorEq,true_or,and_true]):p:=h
theorem Z4 {p:Prop} (h:p:=by (simp only [bkq,enterW,aU,ltF,ne_eq,Nat.reduceEqDiff,reduceCtorEq,e0];try simp (disch:=first|exact Zd|omega) [↓zmo,beq,ybc,ybd,ybe,af,wk,wk2,wk1,wkM,wkL,am,ybf,byq,biq,ae,hcl,e0];try (repeat' (first|assumption|omega|exact True.intro|refine And.intro ?_ ?_|refine ag ?_|refine ac ?_|refine aa ?_ ?_|refine ai ?_ ?_|refine ak ?_|exact AHeap.Le.refl _|refine AHeap.Le.push ?_ _|refine AHeap.Le.del ?_ ?_|(simp only [bt,and_true,true_and,e0];first|done|omega|(simp;done)))))):p:=h
theorem Z5 {p:Prop} (h:p:=by (simp only [bkq,enterW,aU,ltF,ne_eq,Nat.reduceEqDiff,reduceCtorEq,if_pos hs];try simp (disch:=first|exact Zd|omega) [↓zmo,beq,ybc,ybd,ybe,af,wk,wk2,wk1,wkM,wkL,am,ybf,byq,biq,ae,hcl,if_pos hs];try (repeat' (first|assumption|omega|exact True.intro|refine And.intro ?_ ?_|refine ag ?_|refine ac ?_|refine aa ?_ ?_|refine ai ?_ ?_|refine ak ?_|exact AHeap.Le.refl _|refine AHeap.Le.push ?_ _|refine AHeap.Le.del ?_ ?_|(simp only [bt,and_true,true_and,if_pos hs];first|done|omega|(simp;done)))))):p:=h
theorem Z6 {p:Prop} (h:p:=by simp (disch:=first|exact Zd|omega) [↓zmo,beq,ybc,ybd,ybe,af,wk,wk2,wk1,wkM,wkL,am,ybf,byq,hcl]):p:=h
theorem Z7 {p:Prop} (h:p:=by (simp only [bkq,enterW,aU,ltF,ne_eq,Nat.reduceEqDiff,reduceCtorEq,cu];try simp (disch:=first|exact Zd|omega) [↓zmo,beq,ybc,ybd,ybe,af,wk,wk2,wk1,wkM,wkL,am,ybf,byq,biq,ae,hcl,cu];try (repeat' (first|assumption|omega|exact True.intro|refine And.intro ?_ ?_|refine ag ?_|refine ac ?_|refine aa ?_ ?_|refine ai ?_ ?_|refine ak ?_|exact AHeap.Le.refl _|refine AHeap.Le.push ?_ _|refine AHeap.Le.del ?_ ?_|(simp only [bt,and_true,true_and,cu];first|done|omega|(simp;done)))))):p:=h
theorem Z8 {p:Prop} (h:p:=by (simp only [bkq,enterW,aU,ltF,ne_eq,Nat.reduceEqDiff,reduceCtorEq,jL];try simp (disch:=first|exact Zd|omega) [↓zmo,beq,ybc,ybd,ybe,af,wk,wk2,wk1,wkM,wkL,am,ybf,byq,biq,ae,hcl,jL];try (repeat' (first|assumption|omega|exact True.intro|refine And.intro ?_ ?_|refine ag ?_|refine ac ?_|refine aa ?_ ?_|refine ai ?_ ?_|refine ak ?_|exact AHeap.Le.refl _|refine AHeap.Le.push ?_ _|refine AHeap.Le.del ?_ ?_|(simp only [bt,and_true,true_and,jL];first|done|omega|(simp;done)))))):p:=h
theorem Z9 {p:Prop} (h:p:=by (simp only [bkq,enterW,aU,ltF,ne_eq,Nat.reduceEqDiff,reduceCtorEq,z1,z2,z3];try simp (disch:=first|exact Zd|omega) [↓zmo,beq,ybc,ybd,ybe,af,wk,wk2,wk1,wkM,wkL,am,ybf,byq,biq,ae,hcl,z1,z2,z3];try (repeat' (first|assumption|omega|exact True.intro|refine And.intro ?_ ?_|refine ag ?_|refine ac ?_|refine aa ?_ ?_|refine ai ?_ ?_|refine ak ?_|exact AHeap.Le.refl _|refine AHeap.Le.push ?_ _|refine AHeap.Le.del ?_ ?_|(simp only [bt,and_true,true_and,z1,z2,z3];first|done|omega|(simp;done)))))):p:=h
theorem Z10 {p:Prop} (h:p:=by (simp only [bkq,enterW,aU,ltF,ne_eq,Nat.reduceEqDiff,reduceCtorEq,hz2];try simp (disch:=first|exact Zd|omega) [↓zmo,beq,ybc,ybd,ybe,af,wk,wk2,wk1,wkM,wkL,am,ybf,byq,biq,ae,hcl,hz2];try (repeat' (first|assumption|omega|exact True.intro|refine And.intro ?_ ?_|refine ag ?_|refine ac ?_|refine aa ?_ ?_|refine ai ?_ ?_|refine ak ?_|exact AHeap.Le.refl _|refine AHeap.Le.push ?_ _|refine AHeap.Le.del ?_ ?_|(simp only [bt,and_true,true_and,hz2];first|done|omega|(simp;done)))))):p:=h
theorem Z11 {p:Prop} (h:p:=by (simp only [bkq,enterW,aU,ltF,ne_eq,Nat.reduceEqDiff,reduceCtorEq,aQ,Int.natAbs_zero];try simp (disch:=first|exact Zd|omega) [↓zmo,beq,ybc,ybd,ybe,af,wk,wk2,wk1,wkM,wkL,am,ybf,byq,biq,ae,hcl,aQ,Int.natAbs_zero];try (repeat' (first|assumption|omega|exact True.intro|refine And.intro ?_ ?_|refine ag ?_|refine ac ?_|refine aa ?_ ?_|refine ai ?_ ?_|refine ak ?_|exact AHeap.Le.refl _|refine AHeap.Le.push ?_ _|refine AHeap.Le.del ?_ ?_|(simp only [bt,and_true,true_and,aQ,Int.natAbs_zero];first|done|omega|(simp;done)))))):p:=h
theorem Z12 {p:Prop} (h:p:=by (simp only [bkq,enterW,aU,ltF,ne_eq,Nat.reduceEqDiff,reduceCtorEq,aQ,Int.natAbs_zero,Nat.mul_zero];try simp (disch:=first|exact Zd|omega) [↓zmo,beq,ybc,ybd,ybe,af,wk,wk2,wk1,wkM,wkL,am,ybf,byq,biq,ae,hcl,aQ,Int.natAbs_zero,Nat.mul_zero];try (repeat' (first|assumption|omega|exact True.intro|refine And.intro ?_ ?_|refine ag ?_|refine ac ?_|refine aa ?_ ?_|refine ai ?_ ?_|refine ak ?_|exact AHeap.Le.refl _|refine AHeap.Le.push ?_ _|refine AHeap.Le.del ?_ ?_|(simp only [bt,and_true,true_and,aQ,Int.natAbs_zero,Nat.mul_zero];first|done|omega|(simp;done)))))):p:=h
theorem Z13 {p:Prop} (h:p:=by simp (disch:=first|exact Zd|omega) [↓zmo,beq,ybc,ybd,ybe,af,wk,wk2,wk1,wkM,wkL,am,ybf,hcl,aQ,cL]):p:=h
theorem Z14 {p:Prop} (h:p:=by (simp only [bkq,enterW,aU,ltF,ne_eq,Nat.reduceEqDiff,reduceCtorEq,cn];try simp (disch:=first|exact Zd|omega) [↓zmo,beq,ybc,ybd,ybe,af,wk,wk2,wk1,wkM,wkL,am,ybf,byq,biq,ae,hcl,cn];try (repeat' (first|assumption|omega|exact True.intro|refine And.intro ?_ ?_|refine ag ?_|refine ac ?_|refine aa ?_ ?_|refine ai ?_ ?_|refine ak ?_|exact AHeap.Le.refl _|refine AHeap.Le.push ?_ _|refine AHeap.Le.del ?_ ?_|(simp only [bt,and_true,true_and,cn];first|done|omega|(simp;done)))))):p:=h
theorem Z15 {p:Prop} (h:p:=by simp (disch:=first|exact Zd|omega) [↓zmo,beq,ybc,ybd,ybe,af,wk,wk2,wk1,wkM,wkL,am,ybf,hcl,eW]):p:=h
theorem Z16 {p:Prop} (h:p:=by (simp only [bkq,enterW,aU,ltF,ne_eq,Nat.reduceEqDiff,reduceCtorEq,c7];try simp (disch:=first|exact Zd|omega) [↓zmo,beq,ybc,ybd,ybe,af,wk,wk2,wk1,wkM,wkL,am,ybf,byq,biq,ae,hcl,c7];try (repeat' (first|assumption|omega|exact True.intro|refine And.intro ?_ ?_|refine ag ?_|refine ac ?_|refine aa ?_ ?_|refine ai ?_ ?_|refine ak ?_|exact AHeap.Le.refl _|refine AHeap.Le.push ?_ _|refine AHeap.Le.del ?_ ?_|(simp only [bt,and_true,true_and,c7];first|done|omega|(simp;done)))))):p:=h
theorem Z17 {p:Prop} (h:p:=by simp (disch:=first|exact Zd|omega) [↓zmo,beq,ybc,ybd,ybe,af,wk,wk2,wk1,wkM,wkL,am,ybf,hcc,hle,wm,hcl]):p:=h
theorem Z18 {p:Prop} (h:p:=by simp (disch:=first|exact Zd|omega) [↓zmo,beq,List.take_of_length_le,List.drop_append,List.take_append,af,wk,wk2,wk1,wkM,wkL,am,List.drop_eq_nil_of_le,hcl]):p:=h
theorem Z19 {p:Prop} (h:p:=by simp (disch:=first|exact Zd|omega) [↓zmo,beq,ybc,ybd,ybe,af,wk,wk2,wk1,wkM,wkL,am,ybf,hcl1]):p:=h
theorem Z20 {p:Prop} (h:p:=by simp (disch:=first|exact Zd|omega) [↓zmo,beq,ybc,ybd,ybe,af,wk,wk2,wk1,wkM,wkL,am,ybf,hcl,cJ]):p:=h
theorem Z21 {p:Prop} (h:p:=by (simp only [bkq,enterW,aU,ltF,ne_eq,Nat.reduceEqDiff,reduceCtorEq,cJ,hid];try simp (disch:=first|exact Zd|omega) [↓zmo,beq,ybc,ybd,ybe,af,wk,wk2,wk1,wkM,wkL,am,ybf,byq,biq,ae,hcl,cJ,hid];try (repeat' (first|assumption|omega|exact True.intro|refine And.intro ?_ ?_|refine ag ?_|refine ac ?_|refine aa ?_ ?_|refine ai ?_ ?_|refine ak ?_|exact AHeap.Le.refl _|refine AHeap.Le.push ?_ _|refine AHeap.Le.del ?_ ?_|(simp only [bt,and_true,true_and,cJ,hid];first|done|omega|(simp;done)))))):p:=h
theorem Z22 {p:Prop} (h:p:=by simp (disch:=first|exact Zd|omega) [↓zmo,beq,ybc,ybd,ybe,af,wk,wk2,wk1,wkM,wkL,am,ybf,hcl,dX]):p:=h
theorem Z23 {p:Prop} (h:p:=by simp (disch:=first|exact Zd|omega) [↓zmo,beq,ybc,ybd,ybe,af,wk,wk2,wk1,wkM,wkL,am,ybf,hcl2]):p:=h
theorem Z24 {p:Prop} (h:p:=by simp (disch:=first|exact Zd|omega) [↓zmo,beq,ybc,ybd,ybe,af,wk,wk2,wk1,wkM,wkL,am,ybf,fb hcl,zmw,eC,dd_le1,dm]):p:=h
theorem Z25 {p:Prop} (h:p:=by simp (disch:=first|exact Zd|omega) [↓zmo,beq,ybc,ybd,ybe,af,wk,wk2,wk1,wkM,wkL,am,ybf,hc3]):p:=h
theorem Z26 {p:Prop} (h:p:=by (simp only [bkq,enterW,aU,ltF,ne_eq,Nat.reduceEqDiff,reduceCtorEq,hcl2,hid];try simp (disch:=first|exact Zd|omega) [↓zmo,beq,ybc,ybd,ybe,af,wk,wk2,wk1,wkM,wkL,am,ybf,byq,biq,ae,hcl,hcl2,hid];try (repeat' (first|assumption|omega|exact True.intro|refine And.intro ?_ ?_|refine ag ?_|refine ac ?_|refine aa ?_ ?_|refine ai ?_ ?_|refine ak ?_|exact AHeap.Le.refl _|refine AHeap.Le.push ?_ _|refine AHeap.Le.del ?_ ?_|(simp only [bt,and_true,true_and,hcl2,hid];first|done|omega|(simp;done)))))):p:=h
theorem Z27 {p:Prop} (h:p:=by (simp only [bkq,enterW,aU,ltF,ne_eq,Nat.reduceEqDiff,reduceCtorEq,hc3,hid];try simp (disch:=first|exact Zd|omega) [↓zmo,beq,ybc,ybd,ybe,af,wk,wk2,wk1,wkM,wkL,am,ybf,byq,biq,ae,hcl,hc3,hid];try (repeat' (first|assumption|omega|exact True.intro|refine And.intro ?_ ?_|refine ag ?_|refine ac ?_|refine aa ?_ ?_|refine ai ?_ ?_|refine ak ?_|exact AHeap.Le.refl _|refine AHeap.Le.push ?_ _|refine AHeap.Le.del ?_ ?_|(simp only [bt,and_true,true_and,hc3,hid];first|done|omega|(simp;done)))))):p:=h
theorem Z28 {p:Prop} (h:p:=by (simp only [bkq,enterW,aU,ltF,ne_eq,Nat.reduceEqDiff,reduceCtorEq,hcl2,hid,cn];try simp (disch:=first|exact Zd|omega) [↓zmo,beq,ybc,ybd,ybe,af,wk,wk2,wk1,wkM,wkL,am,ybf,byq,biq,ae,hcl,hcl2,hid,cn];try (repeat' (first|assumption|omega|exact True.intro|refine And.intro ?_ ?_|refine ag ?_|refine ac ?_|refine aa ?_ ?_|refine ai ?_ ?_|refine ak ?_|exact AHeap.Le.refl _|refine AHeap.Le.push ?_ _|refine AHeap.Le.del ?_ ?_|(simp only [bt,and_true,true_and,hcl2,hid,cn];first|done|omega|(simp;done)))))):p:=h
theorem Z29 {p:Prop} (h:p:=by (simp only [bkq,enterW,aU,ltF,ne_eq,Nat.reduceEqDiff,reduceCtorEq,cy,hm];try simp (disch:=first|exact Zd|omega) [↓zmo,beq,ybc,ybd,ybe,af,wk,wk2,wk1,wkM,wkL,am,ybf,byq,biq,ae,hcl,cy,hm];try (repeat' (first|assumption|omega|exact True.intro|refine And.intro ?_ ?_|refine ag ?_|refine ac ?_|refine aa ?_ ?_|refine ai ?_ ?_|refine ak ?_|exact AHeap.Le.refl _|refine AHeap.Le.push ?_ _|refine AHeap.Le.del ?_ ?_|(simp only [bt,and_true,true_and,cy,hm];first|done|omega|(simp;done)))))):p:=h
theorem Z30 {p:Prop} (h:p:=by simp (disch:=first|exact Zd|omega) [↓zmo,beq,ybc,ybd,ybe,af,wk,wk2,wk1,wkM,wkL,am,ybf,hcl,hcl1]):p:=h
theorem Z31 {p:Prop} (h:p:=by (simp only [bkq,enterW,aU,ltF,ne_eq,Nat.reduceEqDiff,reduceCtorEq,hm,e0];try simp (disch:=first|exact Zd|omega) [↓zmo,beq,ybc,ybd,ybe,af,wk,wk2,wk1,wkM,wkL,am,ybf,byq,biq,ae,hcl,hm,e0];try (repeat' (first|assumption|omega|exact True.intro|refine And.intro ?_ ?_|refine ag ?_|refine ac ?_|refine aa ?_ ?_|refine ai ?_ ?_|refine ak ?_|exact AHeap.Le.refl _|refine AHeap.Le.push ?_ _|refine AHeap.Le.del ?_ ?_|(simp only [bt,and_true,true_and,hm,e0];first|done|omega|(simp;done)))))):p:=h
theorem Z32 {p:Prop} (h:p:=by (simp only [bkq,enterW,aU,ltF,ne_eq,Nat.reduceEqDiff,reduceCtorEq,hm,cZ];try simp (disch:=first|exact Zd|omega) [↓zmo,beq,ybc,ybd,ybe,af,wk,wk2,wk1,wkM,wkL,am,ybf,byq,biq,ae,hcl,hm,cZ];try (repeat' (first|assumption|omega|exact True.intro|refine And.intro ?_ ?_|refine ag ?_|refine ac ?_|refine aa ?_ ?_|refine ai ?_ ?_|refine ak ?_|exact AHeap.Le.refl _|refine AHeap.Le.push ?_ _|refine AHeap.Le.del ?_ ?_|(simp only [bt,and_true,true_and,hm,cZ];first|done|omega|(simp;done)))))):p:=h
theorem Z33 {p:Prop} (h:p:=by (simp only [bkq,enterW,aU,ltF,ne_eq,Nat.reduceEqDiff,reduceCtorEq,hm,hm'];try simp (disch:=first|exact Zd|omega) [↓zmo,beq,List.take_of_length_le,List.drop_append,List.take_append,af,wk,wk2,wk1,wkM,wkL,am,List.drop_eq_nil_of_le,byq,biq,ae,hcl,hm,hm'];try (repeat' (first|assumption|omega|exact True.intro|refine And.intro ?_ ?_|refine ag ?_|refine ac ?_|refine aa ?_ ?_|refine ai ?_ ?_|refine ak ?_|exact AHeap.Le.refl _|refine AHeap.Le.push ?_ _|refine AHeap.Le.del ?_ ?_|(simp only [bt,and_true,true_and,hm,hm'];first|done|omega|(simp;done)))))):p:=h
theorem Z34 {p:Prop} (h:p:=by simp (disch:=first|exact Zd|omega) [↓zmo,beq,ybc,ybd,ybe,af,wk,wk2,wk1,wkM,wkL,am,ybf,hcl,cP,ey]):p:=h
theorem Z35 {p:Prop} (h:p:=by (simp only [bkq,enterW,aU,ltF,ne_eq,Nat.reduceEqDiff,reduceCtorEq,hm,eJ];try simp (disch:=first|exact Zd|omega) [↓zmo,beq,ybc,ybd,ybe,af,wk,wk2,wk1,wkM,wkL,am,ybf,byq,biq,ae,hcl,hm,eJ];try (repeat' (first|assumption|omega|exact True.intro|refine And.intro ?_ ?_|refine ag ?_|refine ac ?_|refine aa ?_ ?_|refine ai ?_ ?_|refine ak ?_|exact AHeap.Le.refl _|refine AHeap.Le.push ?_ _|refine AHeap.Le.del ?_ ?_|(simp only [bt,and_true,true_and,hm,eJ];first|done|omega|(simp;done)))))):p:=h
theorem Z36 {p:Prop} (h:p:=by (simp only [bkq,enterW,aU,ltF,ne_eq,Nat.reduceEqDiff,reduceCtorEq,hm',hid];try simp (disch:=first|exact Zd|omega) [↓zmo,beq,ybc,ybd,ybe,af,wk,wk2,wk1,wkM,wkL,am,ybf,byq,biq,ae,hcl,hm',hid];try (repeat' (first|assumption|omega|exact True.intro|refine And.intro ?_ ?_|refine ag ?_|refine ac ?_|refine aa ?_ ?_|refine ai ?_ ?_|refine ak ?_|exact AHeap.Le.refl _|refine AHeap.Le.push ?_ _|refine AHeap.Le.del ?_ ?_|(simp only [bt,and_true,true_and,hm',hid];first|done|omega|(simp;done)))))):p:=h
theorem iNq {n:Nat}:(n:Int).toNat=n:=rfl
abbrev tCq:=@TblOk.cons
abbrev tNq:=@TblOk.nil
theorem lAq {α:Type _} {a b:List α}:(a++b).length=a.length+b.length:=List.length_append
theorem gEq {α:Type _} {l:List α} {i:Nat} {a:α}:l.getD i a=(l[i]?).getD a:=List.getD_eq_getElem?_getD
theorem nFq:(¬False)=True:=not_false_eq_true
abbrev lRq:=@AHeap.Le.refl
abbrev nrq:=@Nat.le_refl
abbrev gQq:=@List.getElem?_eq_getElem
abbrev gMq:=@List.getElem_mem
abbrev gPq:=@AHeap.get_push_lt
abbrev lPq:=@AHeap.Le.push
abbrev gNq:=@List.getElem?_eq_none
theorem nzq (n:Nat):0+n=n:=Nat.zero_add n
abbrev glq:=@AHeap.get_lt
abbrev dfq:=@decide_eq_false
abbrev dtq:=@decide_eq_true
abbrev dcq:=@List.drop_eq_getElem_cons
theorem Yq {p q:Prop} (k:q) (h:p:=by first|exact True.intro|decide|omega|(simp [ziq,zgq,zgr,zgs,zgu,zgt,zgy];first|done|omega)):p∧q:=⟨h,k⟩
abbrev Ype:=@EntOk.pure
theorem Yk5 (k:Nat) (h:k+1<9223372036854775808:=by omega):IntKind.i64.wrap ((k:Int)+1)=((k+1:Nat):Int):=by rw [wrap_i64]<;>omega
end Go.AL
