/- Contracts and plain laws, a part of the proof; no condition of its own. -/
import Derived.Test.YtokjjhidigoodaaGreatAlByte
import Derived.Laws.Externs
/- The abstract layer: rows of ep numbers. -/
namespace Go.AL
set_option linter.all false
/-- a row of numbers -/
def cB (l:List Nat):List AV:=l.map fun (d:Nat)=>.int .i64 (d:Int)
def Gh (x:AV):Nat:=match x with|.int _ n=>n.toNat|_=>0
def uni (l:List AV):List Nat:=l.map Gh
def isI (l:List AV):Prop:=l=cB (uni l)
theorem dl {l:List Nat}:(cB l).length=l.length:=by simp [cB]
theorem ey:cB []=[]:=rfl
theorem vF {l:List Nat} {n:Nat}:(cB l).take n=cB (l.take n):=by simp [cB]
theorem vP {l:List Nat} {n:Nat}:(cB l).drop n=cB (l.drop n):=by simp [cB]
theorem rZ {l m:List Nat}:cB l++cB m=cB (l++m):=by simp [cB]
theorem wC {l:List Nat} {n:Nat}:cB l++[AV.int .i64 (n:Int)]=cB (l++[n]):=by simp [cB]
theorem zu {k:IntKind} {n:Int}:(∀ z∈[AV.int k n],bI z.cells=true)=True:=eq_true fun z hz=>by
 simp at hz;subst hz;rfl
theorem fF {l:List Nat}:uni (cB l)=l:=by
 unfold uni cB
 rw [List.map_map]
 have:(Gh ∘ fun d=>AV.int .i64 ((d:Nat):Int))=id:=funext fun d=>by simp [Gh]
 rw [this,List.map_id]
theorem BZ:uni []=[]:=rfl
theorem tI {l:List Nat}:isI (cB l)=True:=eq_true (by show cB l=cB (uni (cB l));rw [fF])
theorem B9:isI []=True:=eq_true rfl
theorem IX {l:List AV} (h:isI l):∃ xs,l=cB xs:=⟨_,h⟩
theorem zJ {l m:List Nat}:(cB l=cB m)=(l=m):=propext ⟨fun h=>by have:=congrArg uni h;rwa [fF,fF] at this,fun h=>by rw [h]⟩
theorem kc {l:List Nat} {i:Nat} (h:i<l.length):(cB l).getD i .junk=.int .i64 (l.getD i 0:Nat):=by
 simp [cB,List.getD_eq_getElem?_getD,h]
theorem vB {l:List Nat}:(∀ z∈cB l,bI z.cells=true)=True:=eq_true fun z hz=>by
 obtain ⟨b,_,rfl⟩:=List.mem_map.1 hz
 rfl
theorem zmi {n:Nat} {m:Mark} {l:List Nat}:(AV.slice m 1 (cB l)).lt n=∀ id,m=.own id→id<n:=by
 rw [AV.lt]
 refine propext ⟨fun h=>h.1,fun h=>⟨h,fun j hj=>?_⟩⟩
 simp only [cB,List.getElem_map]
 rw [AV.lt]<;>simp
theorem rW {l:List Nat}:(cB l=[])=(l=[]):=by cases l<;>simp [cB]
/-- what is read of a row of numbers -/
theorem gZ {l:List Nat} {i:Nat} (h:i<l.length):((cB l).getD i .junk).cells=[.int .i64 (l.getD i 0:Nat)]:=by rw [kc h];rfl
end Go.AL
/- The abstract layer: calls of functions for which the model stands in. -/
namespace Go.AL
set_option linter.all false
set_option linter.unusedSectionVars false
theorem Df {w:World} {γ:bH} {H:AHeap} {k:IntKind} {x y z:Int} {vs:Array Value} (h:RelA w γ H [.int k x,.int k y,.int k z] vs):vs=#[.int k x,.int k y,.int k z]:=by
 obtain ⟨h1,h2⟩:=h
 have h1':vs.size=3:=h1
 obtain ⟨u0,e0,r0⟩:=h2 0 (by simp)
 obtain ⟨u1,e1,r1⟩:=h2 1 (by simp)
 obtain ⟨u2,e2,r2⟩:=h2 2 (by simp)
 simp only [List.getElem_cons_zero,List.getElem_cons_succ] at r0 r1 r2
 rw [Rel] at r0 r1 r2
 subst r0 r1 r2
 obtain ⟨l⟩:=vs
 match l,h1' with
 |[a,b,c],_=>simp at e0 e1 e2;simp [e0,e1,e2]
theorem xj {P : Program} {f : FuncId} {fn : Func} (hf : P.funcs[f]? = some fn) (hname : (fn.name == "runtime.NumGoroutine") = false) (hb : fn.body.isNone = true) (hn : Extern.findNext fn = none)
 (he:Extern.find fn=some add64Entry) {x y c:Int} (hx:0≤x) (hy:0≤y) (hc0:0≤c) (hc:c≤1) {H:AHeap} :
 ACalls P f [.int .u64 x,.int .u64 y,.int .u64 c] H (.ret (.tup [.int .u64 ((x+y+c) % 18446744073709551616),.int .u64 ((x+y+c)/18446744073709551616)])) H:=by
 intro w γ vs hs hr
 rw [Df hr,run_callFunc_extern hf hname hb hn he,run_add64 x y c hx hy hc0 hc]
 refine ⟨γ,hs,Ext.refl _ _ _,?_⟩
 show Rel w γ H _ _
 rw [Rel]
 refine ⟨_,rfl,rfl,fun j hj=>?_⟩
 match j,hj with
 |0,_=>exact ⟨_,rfl,by simp only [List.getElem_cons_zero];rw [Rel];rfl⟩
 |1,_=>exact ⟨_,rfl,by simp only [List.getElem_cons_zero,List.getElem_cons_succ];rw [Rel];rfl⟩
end Go.AL
/- The abstract layer: simp rules in bundles. -/
open Go Go.AL
namespace Go.AL
set_option linter.all false
theorem byq:(type_of% @zlg)∧(type_of% @zlh)∧(type_of% @zli)∧(type_of% @zlj)∧(type_of% @zlk)∧(type_of% @zll)∧(type_of% @zlm)∧(type_of% @zln)∧(type_of% @zlo)∧(type_of% @zlp)∧(type_of% @zlq)∧(type_of% @zlr)∧(type_of% @zls)∧(type_of% @zlt)∧(type_of% @zlu)∧(type_of% @zlv)∧(type_of% @zlw)∧(type_of% @zlx)∧(type_of% @zly)∧(type_of% @zlz)∧(type_of% @zma)∧(type_of% @Int.toNat_natCast) :=
 ⟨@zlg,@zlh,@zli,@zlj,@zlk,@zll,@zlm,@zln,@zlo,@zlp,@zlq,@zlr,@zls,@zlt,@zlu,@zlv,@zlw,@zlx,@zly,@zlz,@zma,@Int.toNat_natCast⟩
theorem beq:(type_of% @zmb)∧(type_of% @zmc)∧(type_of% @zmd)∧(type_of% @zme)∧(type_of% @zmf)∧(type_of% @zmg)∧(type_of% @zmh)∧(type_of% @zmi)∧(type_of% @zmj)∧(type_of% @zml)∧(type_of% @zmm)∧(type_of% @zmn)∧(type_of% @zmo)∧(type_of% @zmp)∧(type_of% @zmq)∧(type_of% @zlc)∧(type_of% @zla)∧(type_of% @zlb)∧(type_of% @zmr)∧(type_of% @zms)∧(type_of% @zmt)∧(type_of% @zmu)∧(type_of% @zmv)∧(type_of% @zmw)∧(type_of% @zmx)∧(type_of% @zmy)∧(type_of% @zmz)∧(type_of% @zna)∧(type_of% @znb)∧(type_of% @znc)∧(type_of% @znd)∧(type_of% @zne)∧(type_of% @znf)∧(type_of% @zng)∧(type_of% @znh)∧(type_of% @zni)∧(type_of% @znj)∧(type_of% @znk)∧(type_of% @znl)∧(type_of% @znm)∧(type_of% @znn)∧(type_of% @zno)∧(type_of% @znp)∧(type_of% @znq)∧(type_of% @znr)∧(type_of% @zns)∧(type_of% @znt)∧(type_of% @znu)∧(type_of% @LI)∧(type_of% @znv)∧(type_of% @znw)∧(type_of% @znx)∧(type_of% @zny)∧(type_of% @znz)∧(type_of% @zoa)∧(type_of% @zob)∧(type_of% @zoc)∧(type_of% @zOd)∧(type_of% @zoe)∧(type_of% @zof) :=
 ⟨@zmb,@zmc,@zmd,@zme,@zmf,@zmg,@zmh,@zmi,@zmj,@zml,@zmm,@zmn,@zmo,@zmp,@zmq,@zlc,@zla,@zlb,@zmr,@zms,@zmt,@zmu,@zmv,@zmw,@zmx,@zmy,@zmz,@zna,@znb,@znc,@znd,@zne,@znf,@zng,@znh,@zni,@znj,@znk,@znl,@znm,@znn,@zno,@znp,@znq,@znr,@zns,@znt,@znu,@LI,@znv,@znw,@znx,@zny,@znz,@zoa,@zob,@zoc,@zOd,@zoe,@zof⟩
theorem bnq:(type_of% @zog)∧(type_of% @zgk)∧(type_of% @zgl)∧(type_of% @zkr)∧(type_of% @zkm)∧(type_of% @not_false_eq_true)∧(type_of% @true_and)∧(type_of% @and_true) :=
 ⟨@zog,@zgk,@zgl,@zkr,@zkm,@not_false_eq_true,@true_and,@and_true⟩
theorem biq:(type_of% @dl)∧(type_of% @vB)∧(type_of% @wC)∧(type_of% @zu)∧(type_of% @rZ)∧(type_of% @vF)∧(type_of% @vP)∧(type_of% @tI)∧(type_of% @fF)∧(type_of% @ey)∧(type_of% @B9)∧(type_of% @BZ)∧(type_of% @zJ)∧(type_of% @rW)∧(type_of% @Int.toNat_natCast) :=
 ⟨@dl,@vB,@wC,@zu,@rZ,@vF,@vP,@tI,@fF,@ey,@B9,@BZ,@zJ,@rW,@Int.toNat_natCast⟩
theorem bhq:(type_of% @jn)∧(type_of% @vS)∧(type_of% @zb)∧(type_of% @zG)∧(type_of% @Cn)∧(type_of% @true_and) :=
 ⟨@jn,@vS,@zb,@zG,@Cn,@true_and⟩
theorem bkq:(type_of% @zog)∧(type_of% @zgk)∧(type_of% @zgl)∧(type_of% @zkr)∧(type_of% @zkm)∧(type_of% @not_false_eq_true)∧(type_of% @true_and)∧(type_of% @and_true) :=
 ⟨@zog,@zgk,@zgl,@zkr,@zkm,@not_false_eq_true,@true_and,@and_true⟩
attribute [go_sem ↓] zaa zab zac zad zae zag zah zai zaj zak zal zam zan zao zap zaq zar LQ LX zas zaw zax zay zaz zba zbb zbc zbd zbe zbf zbg zbh zbi zbj zbk zbl zbm zbn zbo zbp zbu zbv zbw zbx zby zbz zca zcb zcc zcd zce zcf zcg zch zci zcj zck zcl zcm zcn zco zcp zcq zcr zcs zct zcu zcv zcw zcx zcy zcz zda zdb zdc zdd zde zdf zdg zdh zdi zdj zdk zdl zdm zdn zdo zdp zdq zdr zds zdt zdu zdv zeh zei zey zez zfa zfi zfj zfl zfm zft zfu zga zgb zgc zgd zge zgf zgg zgh zgi zgj zgk zgl zoh zoi zoj zok zol zom zon zoo zop zoq
attribute [go_sem] zaf zat zau zbq zbr zbs zbt zdw zdx zdy zdz zea zeb Lj zec zed zee zef zeg zej zek zel zem zen L8 zeo zep LT zeq zer zes zet zeu zev zew List.tail_nil List.tail_cons List.headD_nil List.headD_cons zex zfb zfc zfd zfe zff zfg zfh zfk zfn zfo zfp zfq zfr zfs zfv zfw zfx zfy zfz ne_eq not_false_eq_true Nat.mul_one Nat.one_mul Nat.zero_mul Nat.zero_add Nat.add_zero zgm zgn zgo zgp zgq zgr zgs zgt zgu zgv zgw zgx zgy zgz zha zhb Bool.and_true Bool.and_self Nat.left_eq_add Nat.add_eq_left Nat.add_right_cancel_iff Nat.add_left_cancel_iff Nat.succ_ne_self Nat.one_ne_zero List.map_cons List.map_nil Option.map_some Option.map_none Option.elim_some if_true if_false true_and and_true true_or or_true false_or or_false Bool.false_eq_true Bool.true_eq_false Bool.not_true Bool.not_false List.append_nil List.nil_append zhc zhd zhe zhf zhg zhh zhi zhj zhk zhl zhm zhn zho zhp zhq zhr zhs zht zhu zhv zhw zhx zhy zhz zia zib zic zid zie zif rEq List.cons_append LV L6 L2 L1 LS L9 LU L7 LY L3 LW LZ LP L4 L0 Mb zig zih zii zij zik zil List.getElem?_cons_zero List.getElem?_cons_succ TD.agg List.drop_succ_cons List.drop_zero List.take_succ_cons List.take_zero List.take_nil List.drop_nil List.getD_cons_zero List.getD_cons_succ splice zim zin zio Option.isSome_some Option.isSome_none List.getElem?_nil Nat.zero_lt_succ Nat.lt_add_one zip ziq Et n7 CN CQ rUn zir zis zit ziu IO ziv ziw zix ziy Eb ziz zja zjb zjc zjd zje zjf zjg zjh zji zjj zjk zjl zjm zjn zjo zjp zjq zjr zjs zjt jl u5 EI xx room List.length_cons List.length_nil zju zjv zjw zjx zjy zjz zka zkb zkc zkd zke zkf zkg zkh zki zkj zkk zkl zkm zkn zko zkp zkq zkr zks zkt zku zkv zkw zkx zky zkz zla zlb zlc zld zle zlf List.length_map rc
theorem bt:(type_of% @znq)∧(type_of% @znr)∧(type_of% @znb)∧(type_of% @znc)∧(type_of% @znd)∧(type_of% @zne)∧(type_of% @zng)∧(type_of% @znh)∧(type_of% @znf)∧(type_of% @zni)∧(type_of% @znj)∧(type_of% @znk)∧(type_of% @znl)∧(type_of% @znn)∧(type_of% @zno)∧(type_of% @znp)∧(type_of% @znm)∧(type_of% @zmo)∧(type_of% @zmi)∧(type_of% @zmj)∧(type_of% @zla)∧(type_of% @zlb)∧(type_of% @jn) :=
 ⟨@znq,@znr,@znb,@znc,@znd,@zne,@zng,@znh,@znf,@zni,@znj,@znk,@znl,@znn,@zno,@znp,@znm,@zmo,@zmi,@zmj,@zla,@zlb,@jn⟩
attribute [go_sem_proc] reduceCtorEq Nat.reduceEqDiff Nat.reduceAdd Nat.reduceMul Nat.reduceSub Nat.reduceLeDiff Nat.reduceLT Int.reduceMul Int.reduceAdd Int.reduceSub Int.reduceToNat
theorem Zd {p:Prop} (h:p:=by first|assumption|omega|(simp;done)|(simp;omega)|(simp only [bt,and_true];first|done|omega|(simp;done))):p:=h
theorem Z0 {p:Prop} (h:p:=by simp (disch:=first|exact Zd|omega) [↓zmk,beq,ybc,ybd,ybe,ag,wk,wk2,wk1,wkM,wkL,au,ybf,hcl]):p:=h
theorem Z1 {p:Prop} (h:p:=by (simp only [bkq,enterW,aI,ltF,ne_eq,Nat.reduceEqDiff,reduceCtorEq];try simp (disch:=first|exact Zd|omega) [↓zmk,beq,ybc,ybd,ybe,ag,wk,wk2,wk1,wkM,wkL,au,ybf,byq,biq,ah,hcl];try (repeat' (first|assumption|omega|exact True.intro|refine And.intro ?_ ?_|refine af ?_|refine aa ?_|refine ae ?_ ?_|refine ai ?_ ?_|refine aj ?_|exact AHeap.Le.refl _|refine AHeap.Le.push ?_ _|refine AHeap.Le.del ?_ ?_|(simp only [bt,and_true,true_and];first|done|omega|(simp;done)))))):p:=h
theorem Z2 {p:Prop} (h:p:=by (simp only [bkq,enterW,aI,ltF,ne_eq,Nat.reduceEqDiff,reduceCtorEq,h2'];try simp (disch:=first|exact Zd|omega) [↓zmk,beq,ybc,ybd,ybe,ag,wk,wk2,wk1,wkM,wkL,au,ybf,byq,biq,ah,hcl,h2'];try (repeat' (first|assumption|omega|exact True.intro|refine And.intro ?_ ?_|refine af ?_|refine aa ?_|refine ae ?_ ?_|refine ai ?_ ?_|refine aj ?_|exact AHeap.Le.refl _|refine AHeap.Le.push ?_ _|refine AHeap.Le.del ?_ ?_|(simp only [bt,and_true,true_and,h2'];first|done|omega|(simp;done)))))):p:=h
theorem Z3 {p:Prop} (h:p:=by simp only [bnq,enter,iX,ltF,ne_eq,Nat.reduceEqDiff,reduceCtorEq,true_or,and_true]):p:=h
theorem Z4 {p:Prop} (h:p:=by (simp only [bkq,enterW,aI,ltF,ne_eq,Nat.reduceEqDiff,reduceCtorEq,if_pos hs];try simp (disch:=first|exact Zd|omega) [↓zmk,beq,ybc,ybd,ybe,ag,wk,wk2,wk1,wkM,wkL,au,ybf,byq,biq,ah,hcl,if_pos hs];try (repeat' (first|assumption|omega|exact True.intro|refine And.intro ?_ ?_|refine af ?_|refine aa ?_|refine ae ?_ ?_|refine ai ?_ ?_|refine aj ?_|exact AHeap.Le.refl _|refine AHeap.Le.push ?_ _|refine AHeap.Le.del ?_ ?_|(simp only [bt,and_true,true_and,if_pos hs];first|done|omega|(simp;done)))))):p:=h
theorem Z5 {p:Prop} (h:p:=by simp (disch:=first|exact Zd|omega) [↓zmk,beq,ybc,ybd,ybe,ag,wk,wk2,wk1,wkM,wkL,au,ybf,jm,h1',h2',hcl]):p:=h
theorem Z6 {p:Prop} (h:p:=by (simp only [bkq,enterW,aI,ltF,ne_eq,Nat.reduceEqDiff,reduceCtorEq,dB];try simp (disch:=first|exact Zd|omega) [↓zmk,beq,ybc,ybd,ybe,ag,wk,wk2,wk1,wkM,wkL,au,ybf,byq,biq,ah,hcl,dB];try (repeat' (first|assumption|omega|exact True.intro|refine And.intro ?_ ?_|refine af ?_|refine aa ?_|refine ae ?_ ?_|refine ai ?_ ?_|refine aj ?_|exact AHeap.Le.refl _|refine AHeap.Le.push ?_ _|refine AHeap.Le.del ?_ ?_|(simp only [bt,and_true,true_and,dB];first|done|omega|(simp;done)))))):p:=h
theorem Z7 {p:Prop} (h:p:=by (simp only [bkq,enterW,aI,ltF,ne_eq,Nat.reduceEqDiff,reduceCtorEq,my];try simp (disch:=first|exact Zd|omega) [↓zmk,beq,ybc,ybd,ybe,ag,wk,wk2,wk1,wkM,wkL,au,ybf,byq,biq,ah,hcl,my];try (repeat' (first|assumption|omega|exact True.intro|refine And.intro ?_ ?_|refine af ?_|refine aa ?_|refine ae ?_ ?_|refine ai ?_ ?_|refine aj ?_|exact AHeap.Le.refl _|refine AHeap.Le.push ?_ _|refine AHeap.Le.del ?_ ?_|(simp only [bt,and_true,true_and,my];first|done|omega|(simp;done)))))):p:=h
theorem Z8 {p:Prop} (h:p:=by (simp only [bkq,enterW,aI,ltF,ne_eq,Nat.reduceEqDiff,reduceCtorEq,z1,z2,z3];try simp (disch:=first|exact Zd|omega) [↓zmk,beq,ybc,ybd,ybe,ag,wk,wk2,wk1,wkM,wkL,au,ybf,byq,biq,ah,hcl,z1,z2,z3];try (repeat' (first|assumption|omega|exact True.intro|refine And.intro ?_ ?_|refine af ?_|refine aa ?_|refine ae ?_ ?_|refine ai ?_ ?_|refine aj ?_|exact AHeap.Le.refl _|refine AHeap.Le.push ?_ _|refine AHeap.Le.del ?_ ?_|(simp only [bt,and_true,true_and,z1,z2,z3];first|done|omega|(simp;done)))))):p:=h
theorem Z9 {p:Prop} (h:p:=by (simp only [bkq,enterW,aI,ltF,ne_eq,Nat.reduceEqDiff,reduceCtorEq,hz2];try simp (disch:=first|exact Zd|omega) [↓zmk,beq,ybc,ybd,ybe,ag,wk,wk2,wk1,wkM,wkL,au,ybf,byq,biq,ah,hcl,hz2];try (repeat' (first|assumption|omega|exact True.intro|refine And.intro ?_ ?_|refine af ?_|refine aa ?_|refine ae ?_ ?_|refine ai ?_ ?_|refine aj ?_|exact AHeap.Le.refl _|refine AHeap.Le.push ?_ _|refine AHeap.Le.del ?_ ?_|(simp only [bt,and_true,true_and,hz2];first|done|omega|(simp;done)))))):p:=h
theorem Z10 {p:Prop} (h:p:=by (simp only [bkq,enterW,aI,ltF,ne_eq,Nat.reduceEqDiff,reduceCtorEq,bq,Int.natAbs_zero];try simp (disch:=first|exact Zd|omega) [↓zmk,beq,ybc,ybd,ybe,ag,wk,wk2,wk1,wkM,wkL,au,ybf,byq,biq,ah,hcl,bq,Int.natAbs_zero];try (repeat' (first|assumption|omega|exact True.intro|refine And.intro ?_ ?_|refine af ?_|refine aa ?_|refine ae ?_ ?_|refine ai ?_ ?_|refine aj ?_|exact AHeap.Le.refl _|refine AHeap.Le.push ?_ _|refine AHeap.Le.del ?_ ?_|(simp only [bt,and_true,true_and,bq,Int.natAbs_zero];first|done|omega|(simp;done)))))):p:=h
theorem Z11 {p:Prop} (h:p:=by (simp only [bkq,enterW,aI,ltF,ne_eq,Nat.reduceEqDiff,reduceCtorEq,bq,Int.natAbs_zero,Nat.mul_zero];try simp (disch:=first|exact Zd|omega) [↓zmk,beq,ybc,ybd,ybe,ag,wk,wk2,wk1,wkM,wkL,au,ybf,byq,biq,ah,hcl,bq,Int.natAbs_zero,Nat.mul_zero];try (repeat' (first|assumption|omega|exact True.intro|refine And.intro ?_ ?_|refine af ?_|refine aa ?_|refine ae ?_ ?_|refine ai ?_ ?_|refine aj ?_|exact AHeap.Le.refl _|refine AHeap.Le.push ?_ _|refine AHeap.Le.del ?_ ?_|(simp only [bt,and_true,true_and,bq,Int.natAbs_zero,Nat.mul_zero];first|done|omega|(simp;done)))))):p:=h
theorem Z12 {p:Prop} (h:p:=by simp (disch:=first|exact Zd|omega) [↓zmk,beq,ybc,ybd,ybe,ag,wk,wk2,wk1,wkM,wkL,au,ybf,hcl,bq,ey]):p:=h
theorem Z13 {p:Prop} (h:p:=by (simp only [bkq,enterW,aI,ltF,ne_eq,Nat.reduceEqDiff,reduceCtorEq,cK];try simp (disch:=first|exact Zd|omega) [↓zmk,beq,ybc,ybd,ybe,ag,wk,wk2,wk1,wkM,wkL,au,ybf,byq,biq,ah,hcl,cK];try (repeat' (first|assumption|omega|exact True.intro|refine And.intro ?_ ?_|refine af ?_|refine aa ?_|refine ae ?_ ?_|refine ai ?_ ?_|refine aj ?_|exact AHeap.Le.refl _|refine AHeap.Le.push ?_ _|refine AHeap.Le.del ?_ ?_|(simp only [bt,and_true,true_and,cK];first|done|omega|(simp;done)))))):p:=h
theorem Z14 {p:Prop} (h:p:=by simp (disch:=first|exact Zd|omega) [↓zmk,beq,ybc,ybd,ybe,ag,wk,wk2,wk1,wkM,wkL,au,ybf,hcl,iw]):p:=h
theorem Z15 {p:Prop} (h:p:=by (simp only [bkq,enterW,aI,ltF,ne_eq,Nat.reduceEqDiff,reduceCtorEq,eY];try simp (disch:=first|exact Zd|omega) [↓zmk,beq,ybc,ybd,ybe,ag,wk,wk2,wk1,wkM,wkL,au,ybf,byq,biq,ah,hcl,eY];try (repeat' (first|assumption|omega|exact True.intro|refine And.intro ?_ ?_|refine af ?_|refine aa ?_|refine ae ?_ ?_|refine ai ?_ ?_|refine aj ?_|exact AHeap.Le.refl _|refine AHeap.Le.push ?_ _|refine AHeap.Le.del ?_ ?_|(simp only [bt,and_true,true_and,eY];first|done|omega|(simp;done)))))):p:=h
theorem Z16 {p:Prop} (h:p:=by simp (disch:=first|exact Zd|omega) [↓zmk,beq,ybc,ybd,ybe,ag,wk,wk2,wk1,wkM,wkL,au,ybf,hcc,hle,BU,hcl]):p:=h
theorem Z17 {p:Prop} (h:p:=by simp (disch:=first|exact Zd|omega) [↓zmk,beq,List.take_of_length_le,List.drop_append,List.take_append,ag,wk,wk2,wk1,wkM,wkL,au,List.drop_eq_nil_of_le,hcl]):p:=h
theorem Z18 {p:Prop} (h:p:=by simp only [bnq,enter,iX,ltF,ne_eq,Nat.reduceEqDiff,reduceCtorEq,Nat.pow_zero,Nat.mod_one,true_or,and_true]):p:=h
theorem Z19 {p:Prop} (h:p:=by simp only [bnq,enter,iX,ltF,ne_eq,Nat.reduceEqDiff,reduceCtorEq,true_or,and_self]):p:=h
theorem Z20 {p:Prop} (h:p:=by simp only [bnq,enter,iX,ltF,ne_eq,Nat.reduceEqDiff,reduceCtorEq,o1,true_or,and_self]):p:=h
theorem Z21 {p:Prop} (h:p:=by simp only [bnq,enter,iX,ltF,ne_eq,Nat.reduceEqDiff,reduceCtorEq,o2,true_or,and_self]):p:=h
theorem Z22 {p:Prop} (h:p:=by simp only [bnq,enter,iX,ltF,ne_eq,Nat.reduceEqDiff,reduceCtorEq,o1,o2,true_or,and_self]):p:=h
theorem Z23 {p:Prop} (h:p:=by simp (disch:=first|exact Zd|omega) [↓zmk,beq,ybc,ybd,ybe,ag,wk,wk2,wk1,wkM,wkL,au,ybf,hcl2]):p:=h
theorem Z24 {p:Prop} (h:p:=by simp [Fr.get,cd,h1',h2',cV,oW,gI,cp,hvs,jG,cn,ck,cH,eW,cG,i8,jN,jk,wkM,zim]):p:=h
theorem Z25 {p:Prop} (h:p:=by simp (disch:=first|exact Zd|omega) [↓zmk,beq,ybc,ybd,ybe,ag,wk,wk2,wk1,wkM,wkL,au,ybf,hcl1]):p:=h
theorem Z26 {p:Prop} (h:p:=by simp (disch:=first|exact Zd|omega) [↓zmk,beq,ybc,ybd,ybe,ag,wk,wk2,wk1,wkM,wkL,au,ybf,hcl,eB]):p:=h
theorem Z27 {p:Prop} (h:p:=by (simp only [bkq,enterW,aI,ltF,ne_eq,Nat.reduceEqDiff,reduceCtorEq,eB,hid];try simp (disch:=first|exact Zd|omega) [↓zmk,beq,ybc,ybd,ybe,ag,wk,wk2,wk1,wkM,wkL,au,ybf,byq,biq,ah,hcl,eB,hid];try (repeat' (first|assumption|omega|exact True.intro|refine And.intro ?_ ?_|refine af ?_|refine aa ?_|refine ae ?_ ?_|refine ai ?_ ?_|refine aj ?_|exact AHeap.Le.refl _|refine AHeap.Le.push ?_ _|refine AHeap.Le.del ?_ ?_|(simp only [bt,and_true,true_and,eB,hid];first|done|omega|(simp;done)))))):p:=h
theorem Z28 {p:Prop} (h:p:=by simp (disch:=first|exact Zd|omega) [↓zmk,beq,ybc,ybd,ybe,ag,wk,wk2,wk1,wkM,wkL,au,ybf,hcl,ge]):p:=h
theorem Z29 {p:Prop} (h:p:=by simp (disch:=first|exact Zd|omega) [↓zmk,beq,ybc,ybd,ybe,ag,wk,wk2,wk1,wkM,wkL,au,ybf,ip hcl,zms,gJ,dd_le1,fw]):p:=h
theorem Z30 {p:Prop} (h:p:=by simp (disch:=first|exact Zd|omega) [↓zmk,beq,ybc,ybd,ybe,ag,wk,wk2,wk1,wkM,wkL,au,ybf,hc3]):p:=h
theorem Z31 {p:Prop} (h:p:=by (simp only [bkq,enterW,aI,ltF,ne_eq,Nat.reduceEqDiff,reduceCtorEq,hcl2,hid];try simp (disch:=first|exact Zd|omega) [↓zmk,beq,ybc,ybd,ybe,ag,wk,wk2,wk1,wkM,wkL,au,ybf,byq,biq,ah,hcl,hcl2,hid];try (repeat' (first|assumption|omega|exact True.intro|refine And.intro ?_ ?_|refine af ?_|refine aa ?_|refine ae ?_ ?_|refine ai ?_ ?_|refine aj ?_|exact AHeap.Le.refl _|refine AHeap.Le.push ?_ _|refine AHeap.Le.del ?_ ?_|(simp only [bt,and_true,true_and,hcl2,hid];first|done|omega|(simp;done)))))):p:=h
theorem Z32 {p:Prop} (h:p:=by (simp only [bkq,enterW,aI,ltF,ne_eq,Nat.reduceEqDiff,reduceCtorEq,hc3,hid];try simp (disch:=first|exact Zd|omega) [↓zmk,beq,ybc,ybd,ybe,ag,wk,wk2,wk1,wkM,wkL,au,ybf,byq,biq,ah,hcl,hc3,hid];try (repeat' (first|assumption|omega|exact True.intro|refine And.intro ?_ ?_|refine af ?_|refine aa ?_|refine ae ?_ ?_|refine ai ?_ ?_|refine aj ?_|exact AHeap.Le.refl _|refine AHeap.Le.push ?_ _|refine AHeap.Le.del ?_ ?_|(simp only [bt,and_true,true_and,hc3,hid];first|done|omega|(simp;done)))))):p:=h
theorem Z33 {p:Prop} (h:p:=by (simp only [bkq,enterW,aI,ltF,ne_eq,Nat.reduceEqDiff,reduceCtorEq,hcl2,hid,cK];try simp (disch:=first|exact Zd|omega) [↓zmk,beq,ybc,ybd,ybe,ag,wk,wk2,wk1,wkM,wkL,au,ybf,byq,biq,ah,hcl,hcl2,hid,cK];try (repeat' (first|assumption|omega|exact True.intro|refine And.intro ?_ ?_|refine af ?_|refine aa ?_|refine ae ?_ ?_|refine ai ?_ ?_|refine aj ?_|exact AHeap.Le.refl _|refine AHeap.Le.push ?_ _|refine AHeap.Le.del ?_ ?_|(simp only [bt,and_true,true_and,hcl2,hid,cK];first|done|omega|(simp;done)))))):p:=h
theorem Z34 {p:Prop} (h:p:=by (simp only [bkq,enterW,aI,ltF,ne_eq,Nat.reduceEqDiff,reduceCtorEq,dY,hm];try simp (disch:=first|exact Zd|omega) [↓zmk,beq,ybc,ybd,ybe,ag,wk,wk2,wk1,wkM,wkL,au,ybf,byq,biq,ah,hcl,dY,hm];try (repeat' (first|assumption|omega|exact True.intro|refine And.intro ?_ ?_|refine af ?_|refine aa ?_|refine ae ?_ ?_|refine ai ?_ ?_|refine aj ?_|exact AHeap.Le.refl _|refine AHeap.Le.push ?_ _|refine AHeap.Le.del ?_ ?_|(simp only [bt,and_true,true_and,dY,hm];first|done|omega|(simp;done)))))):p:=h
theorem Z35 {p:Prop} (h:p:=by simp (disch:=first|exact Zd|omega) [↓zmk,beq,ybc,ybd,ybe,ag,wk,wk2,wk1,wkM,wkL,au,ybf,hcl,hcl1]):p:=h
theorem Z36 {p:Prop} (h:p:=by (simp only [bkq,enterW,aI,ltF,ne_eq,Nat.reduceEqDiff,reduceCtorEq,hm,cY];try simp (disch:=first|exact Zd|omega) [↓zmk,beq,ybc,ybd,ybe,ag,wk,wk2,wk1,wkM,wkL,au,ybf,byq,biq,ah,hcl,hm,cY];try (repeat' (first|assumption|omega|exact True.intro|refine And.intro ?_ ?_|refine af ?_|refine aa ?_|refine ae ?_ ?_|refine ai ?_ ?_|refine aj ?_|exact AHeap.Le.refl _|refine AHeap.Le.push ?_ _|refine AHeap.Le.del ?_ ?_|(simp only [bt,and_true,true_and,hm,cY];first|done|omega|(simp;done)))))):p:=h
theorem Z37 {p:Prop} (h:p:=by simp (disch:=first|exact Zd|omega) [↓zmk,beq,ybc,ybd,ybe,ag,wk,wk2,wk1,wkM,wkL,au,ybf,hcl,its,aM,znq,znr,znb]):p:=h
theorem Z38 {p:Prop} (h:p:=by (simp only [bkq,enterW,aI,ltF,ne_eq,Nat.reduceEqDiff,reduceCtorEq,hm,hcc,hnx];try simp (disch:=first|exact Zd|omega) [↓zmk,beq,ybc,ybd,ybe,ag,wk,wk2,wk1,wkM,wkL,au,ybf,byq,biq,ah,hcl,hm,hcc,hnx];try (repeat' (first|assumption|omega|exact True.intro|refine And.intro ?_ ?_|refine af ?_|refine aa ?_|refine ae ?_ ?_|refine ai ?_ ?_|refine aj ?_|exact AHeap.Le.refl _|refine AHeap.Le.push ?_ _|refine AHeap.Le.del ?_ ?_|(simp only [bt,and_true,true_and,hm,hcc,hnx];first|done|omega|(simp;done)))))):p:=h
theorem Z39 {p:Prop} (h:p:=by simp (disch:=first|exact Zd|omega) [↓zmk,beq,ybc,ybd,ybe,ag,wk,wk2,wk1,wkM,wkL,au,ybf,hcl,hle,hle.push _]):p:=h
theorem Z40 {p:Prop} (h:p:=by (simp only [bkq,enterW,aI,ltF,ne_eq,Nat.reduceEqDiff,reduceCtorEq,hm2];try simp (disch:=first|exact Zd|omega) [↓zmk,beq,ybc,ybd,ybe,ag,wk,wk2,wk1,wkM,wkL,au,ybf,byq,biq,ah,hcl,hm2];try (repeat' (first|assumption|omega|exact True.intro|refine And.intro ?_ ?_|refine af ?_|refine aa ?_|refine ae ?_ ?_|refine ai ?_ ?_|refine aj ?_|exact AHeap.Le.refl _|refine AHeap.Le.push ?_ _|refine AHeap.Le.del ?_ ?_|(simp only [bt,and_true,true_and,hm2];first|done|omega|(simp;done)))))):p:=h
theorem Z41 {p:Prop} (h:p:=by (simp only [bkq,enterW,aI,ltF,ne_eq,Nat.reduceEqDiff,reduceCtorEq,hm,hm2];try simp (disch:=first|exact Zd|omega) [↓zmk,beq,ybc,ybd,ybe,ag,wk,wk2,wk1,wkM,wkL,au,ybf,byq,biq,ah,hcl,hm,hm2];try (repeat' (first|assumption|omega|exact True.intro|refine And.intro ?_ ?_|refine af ?_|refine aa ?_|refine ae ?_ ?_|refine ai ?_ ?_|refine aj ?_|exact AHeap.Le.refl _|refine AHeap.Le.push ?_ _|refine AHeap.Le.del ?_ ?_|(simp only [bt,and_true,true_and,hm,hm2];first|done|omega|(simp;done)))))):p:=h
theorem Z42 {p:Prop} (h:p:=by simp (disch:=first|exact Zd|omega) [↓zmk,beq,ybc,ybd,ybe,ag,wk,wk2,wk1,wkM,wkL,au,ybf,hcl,fA,oneT,nds,jD,zno,aM,znn,znb,znd,znq,znr]):p:=h
theorem Z43 {p:Prop} (h:p:=by simp (disch:=first|exact Zd|omega) [↓zmk,beq,ybc,ybd,ybe,ag,wk,wk2,wk1,wkM,wkL,au,ybf,hcl,fA,zno,jx,znb,znq,znr]):p:=h
theorem Z44 {p:Prop} (h:p:=by simp (disch:=first|exact Zd|omega) [↓zmk,beq,ybc,ybd,ybe,ag,wk,wk2,wk1,wkM,wkL,au,ybf,hcl,fA,nds,zno,aM,znb,znq,znr]):p:=h
theorem Z45 {p:Prop} (h:p:=by simp (disch:=first|exact Zd|omega) [↓zmk,beq,ybc,ybd,ybe,ag,wk,wk2,wk1,wkM,wkL,au,ybf,hcl,sAV,aM,znq,znr,znd]):p:=h
theorem Z46 {p:Prop} (h:p:=by simp (disch:=first|exact Zd|omega) [↓zmk,beq,ybc,ybd,ybe,ag,wk,wk2,wk1,wkM,wkL,au,ybf,hcl,hle3,aD]):p:=h
theorem Z47 {p:Prop} (h:p:=by (simp only [bkq,enterW,aI,ltF,ne_eq,Nat.reduceEqDiff,reduceCtorEq,hcs,hm,aD,hnn];try simp (disch:=first|exact Zd|omega) [↓zmk,beq,ybc,ybd,ybe,ag,wk,wk2,wk1,wkM,wkL,au,ybf,byq,biq,ah,hcl,hcs,hm,aD,hnn];try (repeat' (first|assumption|omega|exact True.intro|refine And.intro ?_ ?_|refine af ?_|refine aa ?_|refine ae ?_ ?_|refine ai ?_ ?_|refine aj ?_|exact AHeap.Le.refl _|refine AHeap.Le.push ?_ _|refine AHeap.Le.del ?_ ?_|(simp only [bt,and_true,true_and,hcs,hm,aD,hnn];first|done|omega|(simp;done)))))):p:=h
theorem Z48 {p:Prop} (h:p:=by simp (disch:=first|exact Zd|omega) [↓zmk,beq,ybc,ybd,ybe,ag,wk,wk2,wk1,wkM,wkL,au,ybf,hcl,hle,aD]):p:=h
theorem Z49 {p:Prop} (h:p:=by (simp only [bkq,enterW,aI,ltF,ne_eq,Nat.reduceEqDiff,reduceCtorEq,hm];try simp (disch:=first|exact Zd|omega) [↓zmk,beq,ybc,ybd,ybe,ag,wk,wk2,wk1,wkM,wkL,au,ybf,byq,biq,ah,hcl,hm];try (repeat' (first|assumption|omega|exact True.intro|refine And.intro ?_ ?_|refine af ?_|refine aa ?_|refine ae ?_ ?_|refine ai ?_ ?_|refine aj ?_|exact AHeap.Le.refl _|refine AHeap.Le.push ?_ _|refine AHeap.Le.del ?_ ?_|(simp only [bt,and_true,true_and,hm];first|done|omega|(simp;done)))))):p:=h
theorem Z50 {p:Prop} (h:p:=by (simp only [bkq,enterW,aI,ltF,ne_eq,Nat.reduceEqDiff,reduceCtorEq,hm,hm2,hF,hcH];try simp (disch:=first|exact Zd|omega) [↓zmk,beq,ybc,ybd,ybe,ag,wk,wk2,wk1,wkM,wkL,au,ybf,byq,biq,ah,hcl,hm,hm2,hF,hcH];try (repeat' (first|assumption|omega|exact True.intro|refine And.intro ?_ ?_|refine af ?_|refine aa ?_|refine ae ?_ ?_|refine ai ?_ ?_|refine aj ?_|exact AHeap.Le.refl _|refine AHeap.Le.push ?_ _|refine AHeap.Le.del ?_ ?_|(simp only [bt,and_true,true_and,hm,hm2,hF,hcH];first|done|omega|(simp;done)))))):p:=h
theorem Z51 {p:Prop} (h:p:=by simp (disch:=first|exact Zd|omega) [↓zmk,beq,ybc,ybd,ybe,ag,wk,wk2,wk1,wkM,wkL,au,ybf,hcl,hcH]):p:=h
theorem Z52 {p:Prop} (h:p:=by simp (disch:=first|exact Zd|omega) [↓zmk,beq,ybc,ybd,ybe,ag,wk,wk2,wk1,wkM,wkL,au,ybf,hcl,hx1]):p:=h
theorem Z53 {p:Prop} (h:p:=by (simp only [bkq,enterW,aI,ltF,ne_eq,Nat.reduceEqDiff,reduceCtorEq,hcs,hm,ax,aD,hnn];try simp (disch:=first|exact Zd|omega) [↓zmk,beq,ybc,ybd,ybe,ag,wk,wk2,wk1,wkM,wkL,au,ybf,byq,biq,ah,hcl,hcs,hm,ax,aD,hnn];try (repeat' (first|assumption|omega|exact True.intro|refine And.intro ?_ ?_|refine af ?_|refine aa ?_|refine ae ?_ ?_|refine ai ?_ ?_|refine aj ?_|exact AHeap.Le.refl _|refine AHeap.Le.push ?_ _|refine AHeap.Le.del ?_ ?_|(simp only [bt,and_true,true_and,hcs,hm,ax,aD,hnn];first|done|omega|(simp;done)))))):p:=h
theorem Z54 {p:Prop} (h:p:=by simp (disch:=first|exact Zd|omega) [↓zmk,beq,ybc,ybd,ybe,ag,wk,wk2,wk1,wkM,wkL,au,ybf,hcl,hle3,ax]):p:=h
theorem Z55 {p:Prop} (h:p:=by (simp only [bkq,enterW,aI,ltF,ne_eq,Nat.reduceEqDiff,reduceCtorEq,hcs,hm,hm2,ax,aD,hnn];try simp (disch:=first|exact Zd|omega) [↓zmk,beq,ybc,ybd,ybe,ag,wk,wk2,wk1,wkM,wkL,au,ybf,byq,biq,ah,hcl,hcs,hm,hm2,ax,aD,hnn];try (repeat' (first|assumption|omega|exact True.intro|refine And.intro ?_ ?_|refine af ?_|refine aa ?_|refine ae ?_ ?_|refine ai ?_ ?_|refine aj ?_|exact AHeap.Le.refl _|refine AHeap.Le.push ?_ _|refine AHeap.Le.del ?_ ?_|(simp only [bt,and_true,true_and,hcs,hm,hm2,ax,aD,hnn];first|done|omega|(simp;done)))))):p:=h
theorem Z56 {p:Prop} (h:p:=by simp (disch:=first|exact Zd|omega) [↓zmk,beq,ybc,ybd,ybe,ag,wk,wk2,wk1,wkM,wkL,au,ybf,hcl,hle,ax]):p:=h
theorem Z57 {p:Prop} (h:p:=by (simp only [bkq,enterW,aI,ltF,ne_eq,Nat.reduceEqDiff,reduceCtorEq,hcs,hm,ax,hnn];try simp (disch:=first|exact Zd|omega) [↓zmk,beq,ybc,ybd,ybe,ag,wk,wk2,wk1,wkM,wkL,au,ybf,byq,biq,ah,hcl,hcs,hm,ax,hnn];try (repeat' (first|assumption|omega|exact True.intro|refine And.intro ?_ ?_|refine af ?_|refine aa ?_|refine ae ?_ ?_|refine ai ?_ ?_|refine aj ?_|exact AHeap.Le.refl _|refine AHeap.Le.push ?_ _|refine AHeap.Le.del ?_ ?_|(simp only [bt,and_true,true_and,hcs,hm,ax,hnn];first|done|omega|(simp;done)))))):p:=h
theorem Z58 {p:Prop} (h:p:=by (simp only [bkq,enterW,aI,ltF,ne_eq,Nat.reduceEqDiff,reduceCtorEq,hcc,hm,ax,hnn];try simp (disch:=first|exact Zd|omega) [↓zmk,beq,ybc,ybd,ybe,ag,wk,wk2,wk1,wkM,wkL,au,ybf,byq,biq,ah,hcl,hcc,hm,ax,hnn];try (repeat' (first|assumption|omega|exact True.intro|refine And.intro ?_ ?_|refine af ?_|refine aa ?_|refine ae ?_ ?_|refine ai ?_ ?_|refine aj ?_|exact AHeap.Le.refl _|refine AHeap.Le.push ?_ _|refine AHeap.Le.del ?_ ?_|(simp only [bt,and_true,true_and,hcc,hm,ax,hnn];first|done|omega|(simp;done)))))):p:=h
end Go.AL
