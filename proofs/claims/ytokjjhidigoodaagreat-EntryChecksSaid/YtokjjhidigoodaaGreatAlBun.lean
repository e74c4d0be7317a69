/- Lemmas of the proof; no condition. -/
import Derived.Test.YtokjjhidigoodaaGreatAlByte
import Derived.Laws.Externs
set_option linter.all false
set_option linter.unusedSectionVars false
namespace Go.AL
def cO (l:List Nat):List AV:=l.map fun (d:Nat)=>.int .i64 (d:Int)
def Jk (x:AV):Nat:=match x with|.int _ n=>n.toNat|_=>0
def uni (l:List AV):List Nat:=l.map Jk
def isI (l:List AV):Prop:=l=cO (uni l)
theorem dN {l:List Nat}:(cO l).length=l.length:=by simp [cO]
theorem fa:cO []=[]:=rfl
theorem yP {l:List Nat} {n:Nat}:(cO l).take n=cO (l.take n):=by simp [cO]
theorem yF {l:List Nat} {n:Nat}:(cO l).drop n=cO (l.drop n):=by simp [cO]
theorem t6 {l m:List Nat}:cO l++cO m=cO (l++m):=by simp [cO]
theorem yj {l:List Nat} {n:Nat}:cO l++[AV.int .i64 (n:Int)]=cO (l++[n]):=by simp [cO]
theorem BZ {k:IntKind} {n:Int}:(∀ z∈[AV.int k n],bM z.cells=true)=True:=eq_true fun z hz=>by
 simp at hz;subst hz;rfl
theorem gC {l:List Nat}:uni (cO l)=l:=by
 unfold uni cO
 rw [List.map_map]
 have:(Jk ∘ fun d=>AV.int .i64 ((d:Nat):Int))=id:=funext fun d=>by simp [Jk]
 rw [this,List.map_id]
theorem Er:uni []=[]:=rfl
theorem wx {l:List Nat}:isI (cO l)=True:=eq_true (by show cO l=cO (uni (cO l));rw [gC])
theorem EN:isI []=True:=eq_true rfl
theorem Lk {l:List AV} (h:isI l):∃ xs,l=cO xs:=⟨_,h⟩
theorem BL {l m:List Nat}:(cO l=cO m)=(l=m):=propext ⟨fun h=>by have:=congrArg uni h;rwa [gC,gC] at this,fun h=>by rw [h]⟩
theorem lg {l:List Nat} {i:Nat} (h:i<l.length):(cO l).getD i .junk=.int .i64 (l.getD i 0:Nat):=by
 simp [cO,List.getD_eq_getElem?_getD,h]
theorem yh {l:List Nat}:(∀ z∈cO l,bM z.cells=true)=True:=eq_true fun z hz=>by
 obtain ⟨b,_,rfl⟩:=List.mem_map.1 hz
 rfl
theorem zmi {n:Nat} {m:Mark} {l:List Nat}:(AV.slice m 1 (cO l)).lt n=∀ id,m=.own id→id<n:=by
 rw [AV.lt]
 refine propext ⟨fun h=>h.1,fun h=>⟨h,fun j hj=>?_⟩⟩
 simp only [cO,List.getElem_map]
 rw [AV.lt]<;>simp
theorem uq {l:List Nat}:(cO l=[])=(l=[]):=by cases l<;>simp [cO]
theorem iR {l:List Nat} {i:Nat} (h:i<l.length):((cO l).getD i .junk).cells=[.int .i64 (l.getD i 0:Nat)]:=by rw [lg h];rfl
theorem FH {w:World} {γ:bU} {H:AHeap} {k:IntKind} {x y z:Int} {vs:Array Value} (h:RelA w γ H [.int k x,.int k y,.int k z] vs):vs=#[.int k x,.int k y,.int k z]:=by
 obtain ⟨h1,h2⟩:=h
 have h1':vs.size=3:=h1
 obtain ⟨u0,e0,r0⟩:=h2 0 (by simp)
 obtain ⟨u1,e1,r1⟩:=h2 1 (by simp)
 obtain ⟨u2,e2,r2⟩:=h2 2 (by simp)
 simp only [List.getElem_cons_zero,List.getElem_cons_succ] at r0 r1 r2
 rw [Rel] at r0 r1 r2
 subst r0 r1 r2
 obtain ⟨l⟩:=vs
 match l,h1' with
 |[a,b,c],_=>simp at e0 e1 e2;simp [e0,e1,e2]
theorem y7 {P : Program} {f : FuncId} {fn : Func} (hf : P.funcs[f]? = some fn) (hname : (fn.name == "runtime.NumGoroutine") = false) (hb : fn.body.isNone = true) (hn : Extern.findNext fn = none)
 (he:Extern.find fn=some add64Entry) {x y c:Int} (hx:0≤x) (hy:0≤y) (hc0:0≤c) (hc:c≤1) {H:AHeap} :
 ACalls P f [.int .u64 x,.int .u64 y,.int .u64 c] H (.ret (.tup [.int .u64 ((x+y+c) % 18446744073709551616),.int .u64 ((x+y+c)/18446744073709551616)])) H:=by
 intro w γ vs hs hr
 rw [FH hr,run_callFunc_extern hf hname hb hn he,run_add64 x y c hx hy hc0 hc]
 refine ⟨γ,hs,Ext.refl _ _ _,?_⟩
 show Rel w γ H _ _
 rw [Rel]
 refine ⟨_,rfl,rfl,fun j hj=>?_⟩
 match j,hj with
 |0,_=>exact ⟨_,rfl,by simp only [List.getElem_cons_zero];rw [Rel];rfl⟩
 |1,_=>exact ⟨_,rfl,by simp only [List.getElem_cons_zero,List.getElem_cons_succ];rw [Rel];rfl⟩
end Go.AL
open Go Go.AL
namespace Go.AL
theorem byq:(type_of% @zlg)∧(type_of% @zlh)∧(type_of% @zli)∧(type_of% @zlj)∧(type_of% @zlk)∧(type_of% @zll)∧(type_of% @zlm)∧(type_of% @zln)∧(type_of% @zlo)∧(type_of% @zlp)∧(type_of% @zlq)∧(type_of% @zlr)∧(type_of% @zls)∧(type_of% @zlt)∧(type_of% @zlu)∧(type_of% @zlv)∧(type_of% @zlw)∧(type_of% @zlx)∧(type_of% @zly)∧(type_of% @zlz)∧(type_of% @zma)∧(type_of% @Int.toNat_natCast) :=
 ⟨@zlg,@zlh,@zli,@zlj,@zlk,@zll,@zlm,@zln,@zlo,@zlp,@zlq,@zlr,@zls,@zlt,@zlu,@zlv,@zlw,@zlx,@zly,@zlz,@zma,@Int.toNat_natCast⟩
theorem beq:(type_of% @zmb)∧(type_of% @zmc)∧(type_of% @zmd)∧(type_of% @zme)∧(type_of% @zmf)∧(type_of% @zmg)∧(type_of% @zmh)∧(type_of% @zmi)∧(type_of% @zmj)∧(type_of% @zml)∧(type_of% @zmm)∧(type_of% @zmn)∧(type_of% @zmo)∧(type_of% @zmp)∧(type_of% @zmq)∧(type_of% @zlc)∧(type_of% @zla)∧(type_of% @zlb)∧(type_of% @zmr)∧(type_of% @zms)∧(type_of% @zmt)∧(type_of% @zmu)∧(type_of% @zmv)∧(type_of% @zmw)∧(type_of% @zmx)∧(type_of% @zmy)∧(type_of% @zmz)∧(type_of% @zna)∧(type_of% @znb)∧(type_of% @znc)∧(type_of% @znd)∧(type_of% @zne)∧(type_of% @znf)∧(type_of% @zng)∧(type_of% @znh)∧(type_of% @zni)∧(type_of% @znj)∧(type_of% @znk)∧(type_of% @znl)∧(type_of% @znm)∧(type_of% @znn)∧(type_of% @zno)∧(type_of% @znp)∧(type_of% @znq)∧(type_of% @znr)∧(type_of% @zns)∧(type_of% @znt)∧(type_of% @znu)∧(type_of% @Ox)∧(type_of% @znv)∧(type_of% @znw)∧(type_of% @znx)∧(type_of% @zny)∧(type_of% @znz)∧(type_of% @zoa)∧(type_of% @zob)∧(type_of% @zoc)∧(type_of% @zOd)∧(type_of% @zoe)∧(type_of% @zof) :=
 ⟨@zmb,@zmc,@zmd,@zme,@zmf,@zmg,@zmh,@zmi,@zmj,@zml,@zmm,@zmn,@zmo,@zmp,@zmq,@zlc,@zla,@zlb,@zmr,@zms,@zmt,@zmu,@zmv,@zmw,@zmx,@zmy,@zmz,@zna,@znb,@znc,@znd,@zne,@znf,@zng,@znh,@zni,@znj,@znk,@znl,@znm,@znn,@zno,@znp,@znq,@znr,@zns,@znt,@znu,@Ox,@znv,@znw,@znx,@zny,@znz,@zoa,@zob,@zoc,@zOd,@zoe,@zof⟩
theorem bnq:(type_of% @zog)∧(type_of% @zgk)∧(type_of% @zgl)∧(type_of% @zkr)∧(type_of% @zkm)∧(type_of% @not_false_eq_true)∧(type_of% @true_and)∧(type_of% @and_true) :=
 ⟨@zog,@zgk,@zgl,@zkr,@zkm,@not_false_eq_true,@true_and,@and_true⟩
theorem biq:(type_of% @dN)∧(type_of% @yh)∧(type_of% @yj)∧(type_of% @BZ)∧(type_of% @t6)∧(type_of% @yP)∧(type_of% @yF)∧(type_of% @wx)∧(type_of% @gC)∧(type_of% @fa)∧(type_of% @EN)∧(type_of% @Er)∧(type_of% @BL)∧(type_of% @uq)∧(type_of% @Int.toNat_natCast) :=
 ⟨@dN,@yh,@yj,@BZ,@t6,@yP,@yF,@wx,@gC,@fa,@EN,@Er,@BL,@uq,@Int.toNat_natCast⟩
theorem bhq:(type_of% @kc)∧(type_of% @yD)∧(type_of% @Bt)∧(type_of% @Bx)∧(type_of% @EW)∧(type_of% @true_and) :=
 ⟨@kc,@yD,@Bt,@Bx,@EW,@true_and⟩
theorem bkq:(type_of% @zog)∧(type_of% @zgk)∧(type_of% @zgl)∧(type_of% @zkr)∧(type_of% @zkm)∧(type_of% @not_false_eq_true)∧(type_of% @true_and)∧(type_of% @and_true) :=
 ⟨@zog,@zgk,@zgl,@zkr,@zkm,@not_false_eq_true,@true_and,@and_true⟩
attribute [go_sem ↓] zaa zab zac zad zae zag zah zai zaj zak zal zam zan zao zap zaq zar O8 Pe zas zaw zax zay zaz zba zbb zbc zbd zbe zbf zbg zbh zbi zbj zbk zbl zbm zbn zbo zbp zbu zbv zbw zbx zby zbz zca zcb zcc zcd zce zcf zcg zch zci zcj zck zcl zcm zcn zco zcp zcq zcr zcs zct zcu zcv zcw zcx zcy zcz zda zdb zdc zdd zde zdf zdg zdh zdi zdj zdk zdl zdm zdn zdo zdp zdq zdr zds zdt zdu zdv zeh zei zey zez zfa zfi zfj zfl zfm zft zfu zga zgb zgc zgd zge zgf zgg zgh zgi zgj zgk zgl zoh zoi zoj zok zol zom zon zoo zop zoq
attribute [go_sem] zaf zat zau zbq zbr zbs zbt zdw zdx zdy zdz zea zeb OM zec zed zee zef zeg zej zek zel zem zen Pb zeo zep Pa zeq zer zes zet zeu zev zew List.tail_nil List.tail_cons List.headD_nil List.headD_cons zex zfb zfc zfd zfe zff zfg zfh zfk zfn zfo zfp zfq zfr zfs zfv zfw zfx zfy zfz ne_eq not_false_eq_true Nat.mul_one Nat.one_mul Nat.zero_mul Nat.zero_add Nat.add_zero zgm zgn zgo zgp zgq zgr zgs zgt zgu zgv zgw zgx zgy zgz zha zhb Bool.and_true Bool.and_self Nat.left_eq_add Nat.add_eq_left Nat.add_right_cancel_iff Nat.add_left_cancel_iff Nat.succ_ne_self Nat.one_ne_zero List.map_cons List.map_nil Option.map_some Option.map_none Option.elim_some if_true if_false true_and and_true true_or or_true false_or or_false Bool.false_eq_true Bool.true_eq_false Bool.not_true Bool.not_false List.append_nil List.nil_append zhc zhd zhe zhf zhg zhh zhi zhj zhk zhl zhm zhn zho zhp zhq zhr zhs zht zhu zhv zhw zhx zhy zhz zia zib zic zid zie zif rEq List.cons_append O9 O6 Pg OX O7 OU OZ O4 Pf OW O5 OV Pi Pc O3 OY zig zih zii zij zik zil List.getElem?_cons_zero List.getElem?_cons_succ TD.agg List.drop_succ_cons List.drop_zero List.take_succ_cons List.take_zero List.take_nil List.drop_nil List.getD_cons_zero List.getD_cons_succ splice zim zin zio Option.isSome_some Option.isSome_none List.getElem?_nil Nat.zero_lt_succ Nat.lt_add_one zip ziq Gv p6 Hf Hq rUn zir zis zit ziu Lh ziv ziw zix ziy F3 ziz zja zjb zjc zjd zje zjf zjg zjh zji zjj zjk zjl zjm zjn zjo zjp zjq zjr zjs zjt kp xx Gi zy room List.length_cons List.length_nil zju zjv zjw zjx zjy zjz zka zkb zkc zkd zke zkf zkg zkh zki zkj zkk zkl zkm zkn zko zkp zkq zkr zks zkt zku zkv zkw zkx zky zkz zla zlb zlc zld zle zlf List.length_map tg
theorem bt:(type_of% @znq)∧(type_of% @znr)∧(type_of% @znb)∧(type_of% @znc)∧(type_of% @znd)∧(type_of% @zne)∧(type_of% @zng)∧(type_of% @znh)∧(type_of% @znf)∧(type_of% @zni)∧(type_of% @znj)∧(type_of% @znk)∧(type_of% @znl)∧(type_of% @znn)∧(type_of% @zno)∧(type_of% @znp)∧(type_of% @znm)∧(type_of% @zmo)∧(type_of% @zmi)∧(type_of% @zmj)∧(type_of% @zla)∧(type_of% @zlb)∧(type_of% @kc) :=
 ⟨@znq,@znr,@znb,@znc,@znd,@zne,@zng,@znh,@znf,@zni,@znj,@znk,@znl,@znn,@zno,@znp,@znm,@zmo,@zmi,@zmj,@zla,@zlb,@kc⟩
attribute [go_sem_proc] reduceCtorEq Nat.reduceEqDiff Nat.reduceAdd Nat.reduceMul Nat.reduceSub Nat.reduceLeDiff Nat.reduceLT Int.reduceMul Int.reduceAdd Int.reduceSub Int.reduceToNat
theorem Zd {p:Prop} (h:p:=by first|assumption|omega|(simp;done)|(simp;omega)|(simp only [bt,and_true];first|done|omega|(simp;done))):p:=h
theorem Z0 {p:Prop} (h:p:=by simp (disch:=first|exact Zd|omega) [↓zmk,beq,ybc,ybd,ybe,af,wk,wk2,wk1,wkM,wkL,aj,ybf,hcl]):p:=h
theorem Z1 {p:Prop} (h:p:=by (simp only [bkq,enterW,aK,ltF,ne_eq,Nat.reduceEqDiff,reduceCtorEq];try simp (disch:=first|exact Zd|omega) [↓zmk,beq,ybc,ybd,ybe,af,wk,wk2,wk1,wkM,wkL,aj,ybf,byq,biq,ah,hcl];try (repeat' (first|assumption|omega|exact True.intro|refine And.intro ?_ ?_|refine ag ?_|refine aa ?_|refine ae ?_ ?_|refine ai ?_ ?_|refine aq ?_|exact AHeap.Le.refl _|refine AHeap.Le.push ?_ _|refine AHeap.Le.del ?_ ?_|(simp only [bt,and_true,true_and];first|done|omega|(simp;done)))))):p:=h
theorem Z2 {p:Prop} (h:p:=by (simp only [bkq,enterW,aK,ltF,ne_eq,Nat.reduceEqDiff,reduceCtorEq,h2'];try simp (disch:=first|exact Zd|omega) [↓zmk,beq,ybc,ybd,ybe,af,wk,wk2,wk1,wkM,wkL,aj,ybf,byq,biq,ah,hcl,h2'];try (repeat' (first|assumption|omega|exact True.intro|refine And.intro ?_ ?_|refine ag ?_|refine aa ?_|refine ae ?_ ?_|refine ai ?_ ?_|refine aq ?_|exact AHeap.Le.refl _|refine AHeap.Le.push ?_ _|refine AHeap.Le.del ?_ ?_|(simp only [bt,and_true,true_and,h2'];first|done|omega|(simp;done)))))):p:=h
theorem Z3 {p:Prop} (h:p:=by simp only [bnq,enter,gA,ltF,ne_eq,Nat.reduceEqDiff,reduceCtorEq,true_or,and_true]):p:=h
theorem Z4 {p:Prop} (h:p:=by (simp only [bkq,enterW,aK,ltF,ne_eq,Nat.reduceEqDiff,reduceCtorEq,if_pos hs];try simp (disch:=first|exact Zd|omega) [↓zmk,beq,ybc,ybd,ybe,af,wk,wk2,wk1,wkM,wkL,aj,ybf,byq,biq,ah,hcl,if_pos hs];try (repeat' (first|assumption|omega|exact True.intro|refine And.intro ?_ ?_|refine ag ?_|refine aa ?_|refine ae ?_ ?_|refine ai ?_ ?_|refine aq ?_|exact AHeap.Le.refl _|refine AHeap.Le.push ?_ _|refine AHeap.Le.del ?_ ?_|(simp only [bt,and_true,true_and,if_pos hs];first|done|omega|(simp;done)))))):p:=h
theorem Z5 {p:Prop} (h:p:=by simp (disch:=first|exact Zd|omega) [↓zmk,beq,ybc,ybd,ybe,af,wk,wk2,wk1,wkM,wkL,aj,ybf,ki,h1',h2',hcl]):p:=h
theorem Z6 {p:Prop} (h:p:=by simp only [bnq,enter,gA,ltF,ne_eq,Nat.reduceEqDiff,reduceCtorEq,hst,true_or,and_self]):p:=h
theorem Z7 {p:Prop} (h:p:=by simp (disch:=first|exact Zd|omega) [↓zmk,beq,ybc,ybd,ybe,af,wk,wk2,wk1,wkM,wkL,aj,ybf,hcl,dV]):p:=h
theorem Z8 {p:Prop} (h:p:=by (simp only [bkq,enterW,aK,ltF,ne_eq,Nat.reduceEqDiff,reduceCtorEq,dV];try simp (disch:=first|exact Zd|omega) [↓zmk,beq,ybc,ybd,ybe,af,wk,wk2,wk1,wkM,wkL,aj,ybf,byq,biq,ah,hcl,dV];try (repeat' (first|assumption|omega|exact True.intro|refine And.intro ?_ ?_|refine ag ?_|refine aa ?_|refine ae ?_ ?_|refine ai ?_ ?_|refine aq ?_|exact AHeap.Le.refl _|refine AHeap.Le.push ?_ _|refine AHeap.Le.del ?_ ?_|(simp only [bt,and_true,true_and,dV];first|done|omega|(simp;done)))))):p:=h
theorem Z9 {p:Prop} (h:p:=by (simp only [bkq,enterW,aK,ltF,ne_eq,Nat.reduceEqDiff,reduceCtorEq,og];try simp (disch:=first|exact Zd|omega) [↓zmk,beq,ybc,ybd,ybe,af,wk,wk2,wk1,wkM,wkL,aj,ybf,byq,biq,ah,hcl,og];try (repeat' (first|assumption|omega|exact True.intro|refine And.intro ?_ ?_|refine ag ?_|refine aa ?_|refine ae ?_ ?_|refine ai ?_ ?_|refine aq ?_|exact AHeap.Le.refl _|refine AHeap.Le.push ?_ _|refine AHeap.Le.del ?_ ?_|(simp only [bt,and_true,true_and,og];first|done|omega|(simp;done)))))):p:=h
theorem Z10 {p:Prop} (h:p:=by (simp only [bkq,enterW,aK,ltF,ne_eq,Nat.reduceEqDiff,reduceCtorEq,z1,z2,z3];try simp (disch:=first|exact Zd|omega) [↓zmk,beq,ybc,ybd,ybe,af,wk,wk2,wk1,wkM,wkL,aj,ybf,byq,biq,ah,hcl,z1,z2,z3];try (repeat' (first|assumption|omega|exact True.intro|refine And.intro ?_ ?_|refine ag ?_|refine aa ?_|refine ae ?_ ?_|refine ai ?_ ?_|refine aq ?_|exact AHeap.Le.refl _|refine AHeap.Le.push ?_ _|refine AHeap.Le.del ?_ ?_|(simp only [bt,and_true,true_and,z1,z2,z3];first|done|omega|(simp;done)))))):p:=h
theorem Z11 {p:Prop} (h:p:=by (simp only [bkq,enterW,aK,ltF,ne_eq,Nat.reduceEqDiff,reduceCtorEq,hz2];try simp (disch:=first|exact Zd|omega) [↓zmk,beq,ybc,ybd,ybe,af,wk,wk2,wk1,wkM,wkL,aj,ybf,byq,biq,ah,hcl,hz2];try (repeat' (first|assumption|omega|exact True.intro|refine And.intro ?_ ?_|refine ag ?_|refine aa ?_|refine ae ?_ ?_|refine ai ?_ ?_|refine aq ?_|exact AHeap.Le.refl _|refine AHeap.Le.push ?_ _|refine AHeap.Le.del ?_ ?_|(simp only [bt,and_true,true_and,hz2];first|done|omega|(simp;done)))))):p:=h
theorem Z12 {p:Prop} (h:p:=by (simp only [bkq,enterW,aK,ltF,ne_eq,Nat.reduceEqDiff,reduceCtorEq,bK,Int.natAbs_zero];try simp (disch:=first|exact Zd|omega) [↓zmk,beq,ybc,ybd,ybe,af,wk,wk2,wk1,wkM,wkL,aj,ybf,byq,biq,ah,hcl,bK,Int.natAbs_zero];try (repeat' (first|assumption|omega|exact True.intro|refine And.intro ?_ ?_|refine ag ?_|refine aa ?_|refine ae ?_ ?_|refine ai ?_ ?_|refine aq ?_|exact AHeap.Le.refl _|refine AHeap.Le.push ?_ _|refine AHeap.Le.del ?_ ?_|(simp only [bt,and_true,true_and,bK,Int.natAbs_zero];first|done|omega|(simp;done)))))):p:=h
theorem Z13 {p:Prop} (h:p:=by (simp only [bkq,enterW,aK,ltF,ne_eq,Nat.reduceEqDiff,reduceCtorEq,bK,Int.natAbs_zero,Nat.mul_zero];try simp (disch:=first|exact Zd|omega) [↓zmk,beq,ybc,ybd,ybe,af,wk,wk2,wk1,wkM,wkL,aj,ybf,byq,biq,ah,hcl,bK,Int.natAbs_zero,Nat.mul_zero];try (repeat' (first|assumption|omega|exact True.intro|refine And.intro ?_ ?_|refine ag ?_|refine aa ?_|refine ae ?_ ?_|refine ai ?_ ?_|refine aq ?_|exact AHeap.Le.refl _|refine AHeap.Le.push ?_ _|refine AHeap.Le.del ?_ ?_|(simp only [bt,and_true,true_and,bK,Int.natAbs_zero,Nat.mul_zero];first|done|omega|(simp;done)))))):p:=h
theorem Z14 {p:Prop} (h:p:=by simp (disch:=first|exact Zd|omega) [↓zmk,beq,ybc,ybd,ybe,af,wk,wk2,wk1,wkM,wkL,aj,ybf,hcl,bK,fa]):p:=h
theorem Z15 {p:Prop} (h:p:=by (simp only [bkq,enterW,aK,ltF,ne_eq,Nat.reduceEqDiff,reduceCtorEq,cY];try simp (disch:=first|exact Zd|omega) [↓zmk,beq,ybc,ybd,ybe,af,wk,wk2,wk1,wkM,wkL,aj,ybf,byq,biq,ah,hcl,cY];try (repeat' (first|assumption|omega|exact True.intro|refine And.intro ?_ ?_|refine ag ?_|refine aa ?_|refine ae ?_ ?_|refine ai ?_ ?_|refine aq ?_|exact AHeap.Le.refl _|refine AHeap.Le.push ?_ _|refine AHeap.Le.del ?_ ?_|(simp only [bt,and_true,true_and,cY];first|done|omega|(simp;done)))))):p:=h
theorem Z16 {p:Prop} (h:p:=by simp (disch:=first|exact Zd|omega) [↓zmk,beq,ybc,ybd,ybe,af,wk,wk2,wk1,wkM,wkL,aj,ybf,hcl,jf]):p:=h
theorem Z17 {p:Prop} (h:p:=by (simp only [bkq,enterW,aK,ltF,ne_eq,Nat.reduceEqDiff,reduceCtorEq,fS];try simp (disch:=first|exact Zd|omega) [↓zmk,beq,ybc,ybd,ybe,af,wk,wk2,wk1,wkM,wkL,aj,ybf,byq,biq,ah,hcl,fS];try (repeat' (first|assumption|omega|exact True.intro|refine And.intro ?_ ?_|refine ag ?_|refine aa ?_|refine ae ?_ ?_|refine ai ?_ ?_|refine aq ?_|exact AHeap.Le.refl _|refine AHeap.Le.push ?_ _|refine AHeap.Le.del ?_ ?_|(simp only [bt,and_true,true_and,fS];first|done|omega|(simp;done)))))):p:=h
theorem Z18 {p:Prop} (h:p:=by simp (disch:=first|exact Zd|omega) [↓zmk,beq,ybc,ybd,ybe,af,wk,wk2,wk1,wkM,wkL,aj,ybf,hcc,hle,EV,hcl]):p:=h
theorem Z19 {p:Prop} (h:p:=by simp only [bnq,enter,gA,ltF,ne_eq,Nat.reduceEqDiff,reduceCtorEq,true_or,and_self]):p:=h
theorem Z20 {p:Prop} (h:p:=by simp only [bnq,enter,gA,ltF,ne_eq,Nat.reduceEqDiff,reduceCtorEq,Nat.pow_zero,Nat.mod_one,true_or,and_true]):p:=h
theorem Z21 {p:Prop} (h:p:=by simp only [bnq,enter,gA,ltF,ne_eq,Nat.reduceEqDiff,reduceCtorEq,o1,true_or,and_self]):p:=h
theorem Z22 {p:Prop} (h:p:=by simp only [bnq,enter,gA,ltF,ne_eq,Nat.reduceEqDiff,reduceCtorEq,o2,true_or,and_self]):p:=h
theorem Z23 {p:Prop} (h:p:=by simp only [bnq,enter,gA,ltF,ne_eq,Nat.reduceEqDiff,reduceCtorEq,o1,o2,true_or,and_self]):p:=h
theorem Z24 {p:Prop} (h:p:=by simp (disch:=first|exact Zd|omega) [↓zmk,beq,List.take_of_length_le,List.drop_append,List.take_append,af,wk,wk2,wk1,wkM,wkL,aj,List.drop_eq_nil_of_le,hcl]):p:=h
theorem Z25 {p:Prop} (h:p:=by simp (disch:=first|exact Zd|omega) [↓zmk,beq,ybc,ybd,ybe,af,wk,wk2,wk1,wkM,wkL,aj,ybf,hcl2]):p:=h
theorem Z26 {p:Prop} (h:p:=by simp [Fr.get,cr,h1',h2',cS,qH,iB,cp,hvs,j6,cw,cx,cQ,fu,cP,jg,kM,jk,wkM,zim]):p:=h
theorem Z27 {p:Prop} (h:p:=by simp (disch:=first|exact Zd|omega) [↓zmk,beq,ybc,ybd,ybe,af,wk,wk2,wk1,wkM,wkL,aj,ybf,hcl1]):p:=h
theorem Z28 {p:Prop} (h:p:=by simp (disch:=first|exact Zd|omega) [↓zmk,beq,ybc,ybd,ybe,af,wk,wk2,wk1,wkM,wkL,aj,ybf,hcl,fg]):p:=h
theorem Z29 {p:Prop} (h:p:=by (simp only [bkq,enterW,aK,ltF,ne_eq,Nat.reduceEqDiff,reduceCtorEq,fg,hid];try simp (disch:=first|exact Zd|omega) [↓zmk,beq,ybc,ybd,ybe,af,wk,wk2,wk1,wkM,wkL,aj,ybf,byq,biq,ah,hcl,fg,hid];try (repeat' (first|assumption|omega|exact True.intro|refine And.intro ?_ ?_|refine ag ?_|refine aa ?_|refine ae ?_ ?_|refine ai ?_ ?_|refine aq ?_|exact AHeap.Le.refl _|refine AHeap.Le.push ?_ _|refine AHeap.Le.del ?_ ?_|(simp only [bt,and_true,true_and,fg,hid];first|done|omega|(simp;done)))))):p:=h
theorem Z30 {p:Prop} (h:p:=by simp (disch:=first|exact Zd|omega) [↓zmk,beq,ybc,ybd,ybe,af,wk,wk2,wk1,wkM,wkL,aj,ybf,hcl,g7]):p:=h
theorem Z31 {p:Prop} (h:p:=by simp (disch:=first|exact Zd|omega) [↓zmk,beq,ybc,ybd,ybe,af,wk,wk2,wk1,wkM,wkL,aj,ybf,jw hcl,zms,iI,dd_le1,gk]):p:=h
theorem Z32 {p:Prop} (h:p:=by simp (disch:=first|exact Zd|omega) [↓zmk,beq,ybc,ybd,ybe,af,wk,wk2,wk1,wkM,wkL,aj,ybf,hc3]):p:=h
theorem Z33 {p:Prop} (h:p:=by (simp only [bkq,enterW,aK,ltF,ne_eq,Nat.reduceEqDiff,reduceCtorEq,hcl2,hid];try simp (disch:=first|exact Zd|omega) [↓zmk,beq,ybc,ybd,ybe,af,wk,wk2,wk1,wkM,wkL,aj,ybf,byq,biq,ah,hcl,hcl2,hid];try (repeat' (first|assumption|omega|exact True.intro|refine And.intro ?_ ?_|refine ag ?_|refine aa ?_|refine ae ?_ ?_|refine ai ?_ ?_|refine aq ?_|exact AHeap.Le.refl _|refine AHeap.Le.push ?_ _|refine AHeap.Le.del ?_ ?_|(simp only [bt,and_true,true_and,hcl2,hid];first|done|omega|(simp;done)))))):p:=h
theorem Z34 {p:Prop} (h:p:=by (simp only [bkq,enterW,aK,ltF,ne_eq,Nat.reduceEqDiff,reduceCtorEq,hc3,hid];try simp (disch:=first|exact Zd|omega) [↓zmk,beq,ybc,ybd,ybe,af,wk,wk2,wk1,wkM,wkL,aj,ybf,byq,biq,ah,hcl,hc3,hid];try (repeat' (first|assumption|omega|exact True.intro|refine And.intro ?_ ?_|refine ag ?_|refine aa ?_|refine ae ?_ ?_|refine ai ?_ ?_|refine aq ?_|exact AHeap.Le.refl _|refine AHeap.Le.push ?_ _|refine AHeap.Le.del ?_ ?_|(simp only [bt,and_true,true_and,hc3,hid];first|done|omega|(simp;done)))))):p:=h
theorem Z35 {p:Prop} (h:p:=by (simp only [bkq,enterW,aK,ltF,ne_eq,Nat.reduceEqDiff,reduceCtorEq,hcl2,hid,cY];try simp (disch:=first|exact Zd|omega) [↓zmk,beq,ybc,ybd,ybe,af,wk,wk2,wk1,wkM,wkL,aj,ybf,byq,biq,ah,hcl,hcl2,hid,cY];try (repeat' (first|assumption|omega|exact True.intro|refine And.intro ?_ ?_|refine ag ?_|refine aa ?_|refine ae ?_ ?_|refine ai ?_ ?_|refine aq ?_|exact AHeap.Le.refl _|refine AHeap.Le.push ?_ _|refine AHeap.Le.del ?_ ?_|(simp only [bt,and_true,true_and,hcl2,hid,cY];first|done|omega|(simp;done)))))):p:=h
theorem Z36 {p:Prop} (h:p:=by (simp only [bkq,enterW,aK,ltF,ne_eq,Nat.reduceEqDiff,reduceCtorEq,eN,hm];try simp (disch:=first|exact Zd|omega) [↓zmk,beq,ybc,ybd,ybe,af,wk,wk2,wk1,wkM,wkL,aj,ybf,byq,biq,ah,hcl,eN,hm];try (repeat' (first|assumption|omega|exact True.intro|refine And.intro ?_ ?_|refine ag ?_|refine aa ?_|refine ae ?_ ?_|refine ai ?_ ?_|refine aq ?_|exact AHeap.Le.refl _|refine AHeap.Le.push ?_ _|refine AHeap.Le.del ?_ ?_|(simp only [bt,and_true,true_and,eN,hm];first|done|omega|(simp;done)))))):p:=h
theorem Z37 {p:Prop} (h:p:=by simp (disch:=first|exact Zd|omega) [↓zmk,beq,ybc,ybd,ybe,af,wk,wk2,wk1,wkM,wkL,aj,ybf,hcl,hcl1]):p:=h
theorem Z38 {p:Prop} (h:p:=by (simp only [bkq,enterW,aK,ltF,ne_eq,Nat.reduceEqDiff,reduceCtorEq,hm,du];try simp (disch:=first|exact Zd|omega) [↓zmk,beq,ybc,ybd,ybe,af,wk,wk2,wk1,wkM,wkL,aj,ybf,byq,biq,ah,hcl,hm,du];try (repeat' (first|assumption|omega|exact True.intro|refine And.intro ?_ ?_|refine ag ?_|refine aa ?_|refine ae ?_ ?_|refine ai ?_ ?_|refine aq ?_|exact AHeap.Le.refl _|refine AHeap.Le.push ?_ _|refine AHeap.Le.del ?_ ?_|(simp only [bt,and_true,true_and,hm,du];first|done|omega|(simp;done)))))):p:=h
theorem Z39 {p:Prop} (h:p:=by simp (disch:=first|exact Zd|omega) [↓zmk,beq,ybc,ybd,ybe,af,wk,wk2,wk1,wkM,wkL,aj,ybf,hcl,its,aS,znq,znr,znb]):p:=h
theorem Z40 {p:Prop} (h:p:=by (simp only [bkq,enterW,aK,ltF,ne_eq,Nat.reduceEqDiff,reduceCtorEq,hm,hcc,hnx];try simp (disch:=first|exact Zd|omega) [↓zmk,beq,ybc,ybd,ybe,af,wk,wk2,wk1,wkM,wkL,aj,ybf,byq,biq,ah,hcl,hm,hcc,hnx];try (repeat' (first|assumption|omega|exact True.intro|refine And.intro ?_ ?_|refine ag ?_|refine aa ?_|refine ae ?_ ?_|refine ai ?_ ?_|refine aq ?_|exact AHeap.Le.refl _|refine AHeap.Le.push ?_ _|refine AHeap.Le.del ?_ ?_|(simp only [bt,and_true,true_and,hm,hcc,hnx];first|done|omega|(simp;done)))))):p:=h
theorem Z41 {p:Prop} (h:p:=by simp (disch:=first|exact Zd|omega) [↓zmk,beq,ybc,ybd,ybe,af,wk,wk2,wk1,wkM,wkL,aj,ybf,hcl,hle,hle.push _]):p:=h
theorem Z42 {p:Prop} (h:p:=by (simp only [bkq,enterW,aK,ltF,ne_eq,Nat.reduceEqDiff,reduceCtorEq,hm2];try simp (disch:=first|exact Zd|omega) [↓zmk,beq,ybc,ybd,ybe,af,wk,wk2,wk1,wkM,wkL,aj,ybf,byq,biq,ah,hcl,hm2];try (repeat' (first|assumption|omega|exact True.intro|refine And.intro ?_ ?_|refine ag ?_|refine aa ?_|refine ae ?_ ?_|refine ai ?_ ?_|refine aq ?_|exact AHeap.Le.refl _|refine AHeap.Le.push ?_ _|refine AHeap.Le.del ?_ ?_|(simp only [bt,and_true,true_and,hm2];first|done|omega|(simp;done)))))):p:=h
theorem Z43 {p:Prop} (h:p:=by (simp only [bkq,enterW,aK,ltF,ne_eq,Nat.reduceEqDiff,reduceCtorEq,hm,hm2];try simp (disch:=first|exact Zd|omega) [↓zmk,beq,ybc,ybd,ybe,af,wk,wk2,wk1,wkM,wkL,aj,ybf,byq,biq,ah,hcl,hm,hm2];try (repeat' (first|assumption|omega|exact True.intro|refine And.intro ?_ ?_|refine ag ?_|refine aa ?_|refine ae ?_ ?_|refine ai ?_ ?_|refine aq ?_|exact AHeap.Le.refl _|refine AHeap.Le.push ?_ _|refine AHeap.Le.del ?_ ?_|(simp only [bt,and_true,true_and,hm,hm2];first|done|omega|(simp;done)))))):p:=h
theorem Z44 {p:Prop} (h:p:=by simp (disch:=first|exact Zd|omega) [↓zmk,beq,ybc,ybd,ybe,af,wk,wk2,wk1,wkM,wkL,aj,ybf,hcl,gJ,oneT,nds,kL,zno,aS,znn,znb,znd,znq,znr]):p:=h
theorem Z45 {p:Prop} (h:p:=by simp (disch:=first|exact Zd|omega) [↓zmk,beq,ybc,ybd,ybe,af,wk,wk2,wk1,wkM,wkL,aj,ybf,hcl,gJ,zno,kE,znb,znq,znr]):p:=h
theorem Z46 {p:Prop} (h:p:=by simp (disch:=first|exact Zd|omega) [↓zmk,beq,ybc,ybd,ybe,af,wk,wk2,wk1,wkM,wkL,aj,ybf,hcl,gJ,nds,zno,aS,znb,znq,znr]):p:=h
theorem Z47 {p:Prop} (h:p:=by simp (disch:=first|exact Zd|omega) [↓zmk,beq,ybc,ybd,ybe,af,wk,wk2,wk1,wkM,wkL,aj,ybf,hcl,sAV,aS,znq,znr,znd]):p:=h
theorem Z48 {p:Prop} (h:p:=by simp (disch:=first|exact Zd|omega) [↓zmk,beq,ybc,ybd,ybe,af,wk,wk2,wk1,wkM,wkL,aj,ybf,hcl,hle3,aH]):p:=h
theorem Z49 {p:Prop} (h:p:=by (simp only [bkq,enterW,aK,ltF,ne_eq,Nat.reduceEqDiff,reduceCtorEq,hcs,hm,aH,hnn];try simp (disch:=first|exact Zd|omega) [↓zmk,beq,ybc,ybd,ybe,af,wk,wk2,wk1,wkM,wkL,aj,ybf,byq,biq,ah,hcl,hcs,hm,aH,hnn];try (repeat' (first|assumption|omega|exact True.intro|refine And.intro ?_ ?_|refine ag ?_|refine aa ?_|refine ae ?_ ?_|refine ai ?_ ?_|refine aq ?_|exact AHeap.Le.refl _|refine AHeap.Le.push ?_ _|refine AHeap.Le.del ?_ ?_|(simp only [bt,and_true,true_and,hcs,hm,aH,hnn];first|done|omega|(simp;done)))))):p:=h
theorem Z50 {p:Prop} (h:p:=by simp (disch:=first|exact Zd|omega) [↓zmk,beq,ybc,ybd,ybe,af,wk,wk2,wk1,wkM,wkL,aj,ybf,hcl,hle,aH]):p:=h
theorem Z51 {p:Prop} (h:p:=by (simp only [bkq,enterW,aK,ltF,ne_eq,Nat.reduceEqDiff,reduceCtorEq,hm];try simp (disch:=first|exact Zd|omega) [↓zmk,beq,ybc,ybd,ybe,af,wk,wk2,wk1,wkM,wkL,aj,ybf,byq,biq,ah,hcl,hm];try (repeat' (first|assumption|omega|exact True.intro|refine And.intro ?_ ?_|refine ag ?_|refine aa ?_|refine ae ?_ ?_|refine ai ?_ ?_|refine aq ?_|exact AHeap.Le.refl _|refine AHeap.Le.push ?_ _|refine AHeap.Le.del ?_ ?_|(simp only [bt,and_true,true_and,hm];first|done|omega|(simp;done)))))):p:=h
theorem Z52 {p:Prop} (h:p:=by (simp only [bkq,enterW,aK,ltF,ne_eq,Nat.reduceEqDiff,reduceCtorEq,hm,hm2,hF,hcH];try simp (disch:=first|exact Zd|omega) [↓zmk,beq,ybc,ybd,ybe,af,wk,wk2,wk1,wkM,wkL,aj,ybf,byq,biq,ah,hcl,hm,hm2,hF,hcH];try (repeat' (first|assumption|omega|exact True.intro|refine And.intro ?_ ?_|refine ag ?_|refine aa ?_|refine ae ?_ ?_|refine ai ?_ ?_|refine aq ?_|exact AHeap.Le.refl _|refine AHeap.Le.push ?_ _|refine AHeap.Le.del ?_ ?_|(simp only [bt,and_true,true_and,hm,hm2,hF,hcH];first|done|omega|(simp;done)))))):p:=h
theorem Z53 {p:Prop} (h:p:=by simp (disch:=first|exact Zd|omega) [↓zmk,beq,ybc,ybd,ybe,af,wk,wk2,wk1,wkM,wkL,aj,ybf,hcl,hcH]):p:=h
theorem Z54 {p:Prop} (h:p:=by simp (disch:=first|exact Zd|omega) [↓zmk,beq,ybc,ybd,ybe,af,wk,wk2,wk1,wkM,wkL,aj,ybf,hcl,hx1]):p:=h
theorem Z55 {p:Prop} (h:p:=by (simp only [bkq,enterW,aK,ltF,ne_eq,Nat.reduceEqDiff,reduceCtorEq,hcs,hm,aA,aH,hnn];try simp (disch:=first|exact Zd|omega) [↓zmk,beq,ybc,ybd,ybe,af,wk,wk2,wk1,wkM,wkL,aj,ybf,byq,biq,ah,hcl,hcs,hm,aA,aH,hnn];try (repeat' (first|assumption|omega|exact True.intro|refine And.intro ?_ ?_|refine ag ?_|refine aa ?_|refine ae ?_ ?_|refine ai ?_ ?_|refine aq ?_|exact AHeap.Le.refl _|refine AHeap.Le.push ?_ _|refine AHeap.Le.del ?_ ?_|(simp only [bt,and_true,true_and,hcs,hm,aA,aH,hnn];first|done|omega|(simp;done)))))):p:=h
theorem Z56 {p:Prop} (h:p:=by simp (disch:=first|exact Zd|omega) [↓zmk,beq,ybc,ybd,ybe,af,wk,wk2,wk1,wkM,wkL,aj,ybf,hcl,hle3,aA]):p:=h
theorem Z57 {p:Prop} (h:p:=by (simp only [bkq,enterW,aK,ltF,ne_eq,Nat.reduceEqDiff,reduceCtorEq,hcs,hm,hm2,aA,aH,hnn];try simp (disch:=first|exact Zd|omega) [↓zmk,beq,ybc,ybd,ybe,af,wk,wk2,wk1,wkM,wkL,aj,ybf,byq,biq,ah,hcl,hcs,hm,hm2,aA,aH,hnn];try (repeat' (first|assumption|omega|exact True.intro|refine And.intro ?_ ?_|refine ag ?_|refine aa ?_|refine ae ?_ ?_|refine ai ?_ ?_|refine aq ?_|exact AHeap.Le.refl _|refine AHeap.Le.push ?_ _|refine AHeap.Le.del ?_ ?_|(simp only [bt,and_true,true_and,hcs,hm,hm2,aA,aH,hnn];first|done|omega|(simp;done)))))):p:=h
theorem Z58 {p:Prop} (h:p:=by simp (disch:=first|exact Zd|omega) [↓zmk,beq,ybc,ybd,ybe,af,wk,wk2,wk1,wkM,wkL,aj,ybf,hcl,hle,aA]):p:=h
theorem Z59 {p:Prop} (h:p:=by (simp only [bkq,enterW,aK,ltF,ne_eq,Nat.reduceEqDiff,reduceCtorEq,hcs,hm,aA,hnn];try simp (disch:=first|exact Zd|omega) [↓zmk,beq,ybc,ybd,ybe,af,wk,wk2,wk1,wkM,wkL,aj,ybf,byq,biq,ah,hcl,hcs,hm,aA,hnn];try (repeat' (first|assumption|omega|exact True.intro|refine And.intro ?_ ?_|refine ag ?_|refine aa ?_|refine ae ?_ ?_|refine ai ?_ ?_|refine aq ?_|exact AHeap.Le.refl _|refine AHeap.Le.push ?_ _|refine AHeap.Le.del ?_ ?_|(simp only [bt,and_true,true_and,hcs,hm,aA,hnn];first|done|omega|(simp;done)))))):p:=h
theorem Z60 {p:Prop} (h:p:=by (simp only [bkq,enterW,aK,ltF,ne_eq,Nat.reduceEqDiff,reduceCtorEq,hcc,hm,aA,hnn];try simp (disch:=first|exact Zd|omega) [↓zmk,beq,ybc,ybd,ybe,af,wk,wk2,wk1,wkM,wkL,aj,ybf,byq,biq,ah,hcl,hcc,hm,aA,hnn];try (repeat' (first|assumption|omega|exact True.intro|refine And.intro ?_ ?_|refine ag ?_|refine aa ?_|refine ae ?_ ?_|refine ai ?_ ?_|refine aq ?_|exact AHeap.Le.refl _|refine AHeap.Le.push ?_ _|refine AHeap.Le.del ?_ ?_|(simp only [bt,and_true,true_and,hcc,hm,aA,hnn];first|done|omega|(simp;done)))))):p:=h
theorem Z61 {p:Prop} (h:p:=by simp only [List.mem_cons,List.not_mem_nil,or_false] at this ⊢;omega):p:=h
theorem iNq {n:Nat}:(n:Int).toNat=n:=rfl
abbrev tCq:=@TblOk.cons
abbrev tNq:=@TblOk.nil
theorem lAq {α:Type _} {a b:List α}:(a++b).length=a.length+b.length:=List.length_append
theorem gEq {α:Type _} {l:List α} {i:Nat} {a:α}:l.getD i a=(l[i]?).getD a:=List.getD_eq_getElem?_getD
theorem nFq:(¬False)=True:=not_false_eq_true
abbrev lRq:=@AHeap.Le.refl
abbrev nrq:=@Nat.le_refl
abbrev gQq:=@List.getElem?_eq_getElem
abbrev gMq:=@List.getElem_mem
abbrev gPq:=@AHeap.get_push_lt
abbrev lPq:=@AHeap.Le.push
abbrev gNq:=@List.getElem?_eq_none
theorem nzq (n:Nat):0+n=n:=Nat.zero_add n
abbrev glq:=@AHeap.get_lt
abbrev dfq:=@decide_eq_false
abbrev dtq:=@decide_eq_true
abbrev dcq:=@List.drop_eq_getElem_cons
theorem Yq {p q:Prop} (k:q) (h:p:=by first|exact True.intro|decide|omega|(simp [zim,zgm,zgn,zgo,zgq,zgp,zgu];first|done|omega)):p∧q:=⟨h,k⟩
theorem Yfv {P : Program} (hm : P.follows .mixedOrders = true) {Ω : Tbl} (hΩ : TblOk P Ω) {f : FuncId} {fn : Func} {c : Code} (hf : P.funcs[f]? = some fn) (rs : List ResultVar) {args : List AV} {H : AHeap} {e : AEnd}
 (h : H.Closed → (∀ x ∈ args, x.lt H.nx) → aw P Ω c (KI P Ω (uG P rs H.nx e H (av [])) []) (tg 0 args) H)
 (hname : (fn.name == "runtime.NumGoroutine") = false := by kernel_rfl) (hb : fn.body = some c := by rfl) (hrs : fn.results.toList = rs := by rfl) (hok : g8 P Ω (av []) fn.ntmps c = true := by kernel_rfl)
 (ha : Nat.ble args.length fn.ntmps = true := by rfl) : ACalls P f args H e H :=
 ACalls.fW hm hΩ hf rs (nrq _) hname hb hrs hok ha h
abbrev Ype:=@EntOk.pure
theorem Yk5 (k:Nat) (h:k+1<9223372036854775808:=by omega):IntKind.i64.wrap ((k:Int)+1)=((k+1:Nat):Int):=by rw [wrap_i64]<;>omega
theorem Y0 {p:Prop} (h:p:=by
 try simp only [go_sem,fX,ja,iNq,List.take_length,zau]
 refine ⟨by omega,?_⟩
 have hl':(s).length≤140737488355328:=by exact hl
 rw [hr]
 clear hr hl
 generalize s=b at *
 refine az (A:=Nat × Nat) (fun x=>[(0,.str b),(2,.ptr H.nx 0),(4,.int .i64 10),(5,.ptr (H.nx+1) 0),(6,.int .i64 (x.1:Int))])
  (fun x=>(H.push (.cells [.bool false,.slice .nil 1 []])).push (.cells [.bool (decide ((x.2:Int)<0)),.slice .any 1 (cO (cG ((x.2:Int)).natAbs))]))
  (fun x=>x.1≤b.length∧x.2<2^128∧fB 10 0 b=fB 10 x.2 (b.drop x.1)) (fun x=>b.length - x.1) (0,0) ⟨by omega,by decide,rfl⟩ ?_ fun x hI=>?_
 ·exact Z12
 obtain ⟨k,n⟩:=x
 obtain ⟨hk,hn,hl2⟩:=hI
 dsimp only at *
 simp only [go_sem,byq]
 refine au (fun h2=>?_) (fun h2=>?_)
 ·have h2':k<b.length:=by simpa using h2
  rw [dcq h2'] at hl2
  have hg:AV.int .u8 ((b.getD k 0).toNat:Int)=bZ b[k]:=by simp [gEq,h2',bZ]
  have e5:=Yk5 k
  have hbn:b≠[]:=by intro h;subst h;simp at h2'
  simp only [fB] at hl2
  generalize b[k]=c at *
  have hc:dg c≤99:=by unfold dg;have:=UInt8.toNat_lt c;split<;>(try split)<;>omega
  simp only [go_sem,byq,hg,kv,fX,ja]
  refine ⟨by omega,c,rfl,?_⟩
  simp only [go_sem,byq]
  refine au (fun h3=>?_) (fun h3=>?_)
  ·have hd:¬ dg c<10:=by simp at h3;omega
   rw [if_neg hd] at hl2
   simp only [go_sem,byq,fX,ja,hl2,if_neg hbn,rm]
   refine ⟨by omega,?_⟩
   exact Z0
  ·have hd:dg c<10:=by simp at h3;omega
   rw [if_pos hd] at hl2
   simp only [go_sem,byq,fX,ja]
   refine ⟨by omega,?_⟩
   refine az (A:=Nat) (fun j=>[(0,.str b),(2,.ptr H.nx 0),(4,.int .i64 10),(5,.ptr (H.nx+1) 0),(6,.int .i64 (k:Int)),(7,.ptr (H.nx+1+1) 0),(8,.int .i64 (j:Int))])
    (fun j=>((H.push (.cells [.bool false,.slice .nil 1 []])).push (.cells [.bool (decide ((n:Int)<0)),.slice .any 1 (cO (cG ((n:Int)).natAbs))])).push (.cells [.bool (decide (((n*j:Nat):Int)<0)),.slice .any 1 (cO (cG (((n*j:Nat):Int)).natAbs))]))
    (fun j=>j≤10) (fun j=>10 - j) 0 (by omega) ?_ fun j hj=>?_
   ·exact Z13
   have hnj:n*j<2^133:=by
    have:n*j≤n*16:=Nat.mul_le_mul_left n (by omega)
    omega
   have hsj:fe ((n*j:Nat):Int):=fc 60 (by rw [Int.natAbs_natCast];omega) (by decide)
   have hsn:fe (n:Int):=fc 60 (by rw [Int.natAbs_natCast];omega) (by decide)
   simp only [go_sem,byq]
   refine au (fun h4=>?_) (fun h4=>?_)
   ·have h4':j<10:=by simp at h4;omega
    have ej:IntKind.i64.wrap ((j:Int)+1)=((j+1:Nat):Int):=by rw [wrap_i64]<;>omega
    have en:((n*j:Nat):Int)+(n:Int)=((n*(j+1):Nat):Int):=by rw [Nat.mul_add];omega
    simp only [go_sem,byq,jr]
    refine ⟨((n*j:Nat):Int),(n:Int),⟨rfl,rfl,hsj,hsn⟩,?_⟩
    simp only [go_sem,byq,zAV,en,ej]
    refine ⟨j+1,by omega,by omega,?_⟩
    exact Z1
   ·have h4':j=10:=by simp at h4;omega
    subst h4'
    have en:((n*10:Nat):Int)+((dg c:Nat):Int)=((n*10+dg c:Nat):Int):=by omega
    have hsd:fe ((dg c:Nat):Int):=fc 10 (by rw [Int.natAbs_natCast];omega) (by decide)
    have hsf:fe ((n*10+dg c:Nat):Int):=fc 60 (by rw [Int.natAbs_natCast];omega) (by decide)
    obtain ⟨z,hz2⟩:∃ z:Int,z=((n*10+dg c:Nat):Int):=⟨_,rfl⟩
    rw [← hz2] at en hsf
    obtain ⟨y,hy⟩:∃ y:Int,y=((dg c:Nat):Int):=⟨_,rfl⟩
    simp only [go_sem,byq,jr,kv,fX,hg]
    refine ⟨by omega,c,rfl,?_⟩
    simp only [go_sem,byq,fX,jr]
    refine ⟨by omega,((n*10:Nat):Int),((dg c:Nat):Int),⟨rfl,rfl,hsj,hsd⟩,?_⟩
    refine lw (a:=n*10+dg c) (b:=2^128) (fun hf=>?_) (fun hf=>?_)
    ·rw [if_pos hf] at hl2
     have hft:decide (0≤z∧z<2^128)=true:=dtq (by omega)
     simp only [go_sem,byq,zAV,en,lW]
     refine ⟨z,⟨rfl,hsf⟩,?_⟩
     simp only [go_sem,byq,zau,hft,e5]
     refine ⟨(k+1,n*10+dg c),⟨by omega,hf,hl2⟩,by omega,?_⟩
     exact Z11
    ·rw [if_neg (Nat.not_lt.2 hf)] at hl2
     have hft:decide (0≤z∧z<2^128)=false:=dfq (by omega)
     simp only [go_sem,byq,zAV,en,lW]
     refine ⟨z,⟨rfl,hsf⟩,?_⟩
     simp only [go_sem,byq,zat,hft,fX,ja,hl2,if_neg hbn,rm]
     refine ⟨by omega,?_⟩
     exact Z0
 ·have h2':k=b.length:=by simp at h2;omega
  subst h2'
  rw [List.drop_length] at hl2
  simp only [fB] at hl2
  simp only [go_sem,byq]
  by_cases hbn:b=[]
  ·subst hbn
   have hn0:n=0:=by simp only [fB] at hl2;exact (Option.some.inj hl2).symm
   subst hn0
   have hb0:(([]:List UInt8)==[])=true:=rfl
   simp only [go_sem,byq,if_pos,rm,ja,hb0]
   exact Z14
  ·have hb0:(b==[])=false:=by simp [hbn]
   simp only [go_sem,byq,if_neg hbn,rm,hl2,zAV,hb0]
   exact Z0):p:=h
theorem Y1 {p:Prop} (h:p:=by
 refine ⟨⟨by omega,by omega,fun z hz=>by
  rcases List.mem_cons.1 hz with rfl|hz
  ·rfl
  ·rw [List.mem_singleton.1 hz];rfl⟩,(k+1,Hc.set (H.nx+1+1+1+1) (.buf 4 (LL.length+2))),⟨by dsimp only;omega,bF hle (by omega),aa hcc,?_,?_,?_⟩,by dsimp only;omega,?_⟩
 ·dsimp only
  rw [aB,if_neg (by omega)];exact g1
 ·dsimp only
  rw [aB,if_neg (by omega)];exact g2
 ·dsimp only
  rw [aB,if_pos rfl,if_pos nx3,hln]
 ·have hnn:H.nx≤Hc.nx:=by omega
  have hcs:=@aa Hc (H.nx+1+1+1+1) 4 (LL.length+2) hcc
  dsimp only
  try simp only [hrow]
  exact Z59):p:=h
theorem Y2 {p:Prop} (h:p:=by
 have hx:=AV.lt_mono (Nat.le_succ H.nx) _ (hlt (.agg [a1,a2,.slice m 2 (keys.map bS),a3,a4]) (by simp))
 have hm:∀ n',H.nx≤n'→AV.lt n' (.slice m 2 (keys.map bS)):=fun n' hn=>AV.lt_mono hn _ (by have h1:=hlt (.agg [a1,a2,.slice m 2 (keys.map bS),a3,a4]) (by simp);rw [znn] at h1;exact h1.2.2.1)
 simp only [znn] at hx
 clear hlt
 simp only [go_sem,nF]
 refine az (A:=Nat × AHeap) (fun a=>[(3,.slice (.own (H.nx+1+1)) 2 (bz (eC (keys.take a.1)))),(7,.slice m 2 (keys.map bS)),(8,.int .i64 (keys.length:Int)),(9,.int .i64 (a.1:Int))]) (fun a=>a.2)
  (fun a=>a.1≤keys.length∧H.Le a.2∧a.2.Closed∧a.2.get (H.nx+1+1)=some (.buf 2 (eC (keys.take a.1)).length)) (fun a=>keys.length - a.1)
  (0,((H.push (.cells [a1,a2,.slice m 2 (keys.map bS),a3,a4])).push (.buf 2 0)).push (.buf 2 0)) ⟨Nat.zero_le _,(((lRq _).push _).push _).push _,ag (ag (ae hcl hx)),AHeap.get_push_new _ _⟩ ?_ fun a ha=>?_
 ·have hc0:=ag (a:=2) (b:=0) (ag (a:=2) (b:=0) (ae hcl hx))
  (simp only [bkq,enterW,aK,ltF,ne_eq,Nat.reduceEqDiff,reduceCtorEq,hc0,hm,aH];try simp (disch:=first|exact Zd|omega) [↓zmk,beq,ybc,ybd,ybe,af,wk,wk2,wk1,wkM,wkL,aj,ybf,byq,biq,ah,hcl,hc0,hm,aH];try (repeat' (first|assumption|omega|exact True.intro|refine And.intro ?_ ?_|refine ag ?_|refine aa ?_|refine ae ?_ ?_|refine ai ?_ ?_|refine aq ?_|exact lRq _|refine lPq ?_ _|refine AHeap.Le.del ?_ ?_|(simp only [bt,and_true,true_and,hc0,hm,aH];first|done|omega|(simp;done)))))
  simp [bz,eC]
 obtain ⟨k,Hc⟩:=a
 obtain ⟨hk,hle,hcc,hid⟩:=ha
 dsimp only at hk hle hcc hid ⊢
 have hnx:=glq hid
 simp only [go_sem]
 refine au (fun hc=>?_) (fun hc=>?_)
 ·have hk1:k<keys.length:=by simp at hc;omega
  have e5:=Yk5 k
  have hfl:(eC (keys.take k)).length≤2*k:=by simp only [eC,ybb,List.length_take];omega
  have n1:(Hc.nx=H.nx+1+1)=False:=eq_false (by omega)
  have n2:(H.nx+1+1=Hc.nx)=False:=eq_false (by omega)
  have n3:(H.nx+1+1=Hc.nx+1)=False:=eq_false (by omega)
  obtain ⟨LL,hLL⟩:∃ LL,(eC (keys.take k))=LL:=⟨_,rfl⟩
  rw [hLL] at hid hfl ⊢
  have hnn:H.nx≤Hc.nx:=by omega
  have hln:eC (keys.take (k+1))=LL++[(keys[k].name,[])]:=by rw [← hLL,← List.take_append_getElem hk1];simp only [eC,List.map_append,yae,yaf]
  have hsn:bz LL++[.agg [.str keys[k].name,.str []]]=bz (LL++[(keys[k].name,[])]):=by simp [bz,gg]
  simp only [go_sem,nF,wv hk1,iNq,hid,bH,n1,n2,n3,e5]
  refine ⟨by omega,⟨by omega,by omega,fun z hz=>by simp only [List.mem_cons,List.not_mem_nil,or_false] at hz;(try rcases hz with rfl|rfl)<;>(try subst hz)<;>rfl⟩,(k+1,Hc.set (H.nx+1+1) (.buf 2 (LL.length+1))),⟨by dsimp only;omega,bF hle (by omega),aa hcc,?_⟩,by dsimp only;omega,?_⟩
  ·dsimp only
   rw [aB,if_pos rfl,if_pos hnx,hln];simp
  ·have hcs:=@aa Hc (H.nx+1+1) 2 (LL.length+1) hcc
   dsimp only
   rw [hln]
   try rw [hsn]
   exact Z49
 ·have hk1:k=keys.length:=by simp at hc;omega
  subst hk1
  rw [List.take_length] at hid
  rw [List.take_length]
  simp only [go_sem]
  exact Z50):p:=h
theorem Y3 {p:Prop} (h:p:=by
 split at h
 rotate_left
 ·exact h.elim
 rename_i hi lo
 obtain ⟨⟨h0,h1,h2,h3⟩,hK⟩:=h
 refine ⟨_,hK,?_⟩
 obtain ⟨x,rfl⟩:=bj h0
 obtain ⟨y,rfl⟩:=bj h2
 clear hK h0 h2
 rw [iNq,iNq]
 have hx:x<2^64:=by omega
 have hy:y<2^64:=by omega
 refine Yfv ax tNq Tryz.func299 [.cell 2 215] fun hcl hlt=>?_
 clear hlt
 have hv:=kB hx hy
 have blo:∀ i,i<64→y.testBit i=(vOf x y).testBit i:=fun i hi=>by rw [jt hy,if_pos hi]
 have bhi:∀ i,x.testBit i=(vOf x y).testBit (i+64):=fun i=>by rw [jt hy,if_neg (by omega),Nat.add_sub_cancel]
 generalize hvo:vOf x y=v at hv blo bhi ⊢
 simp only [go_sem,byq]
 refine eJ (A:=Nat) (fun k=>[(4,.int .i64 (k:Int)),(3,.ptr (H.nx+1+1) 0),(1,.ptr H.nx 0),(2,.ptr (H.nx+1) 0)])
  (fun k=>((H.push (.cells [.int .u64 (x:Int),.int .u64 (y:Int)])).push (.cells (List.replicate 128 (.bool false)))).push (.cells (cC v fun j=>decide (j % 64<k)))) (fun k=>k≤64) (fun k=>64 - k) 0 (by omega) ?_ fun k hk=>?_
 ·have e:cC v (fun j=>decide (j % 64<0))=List.replicate 128 (.bool false):=lS _ _ fun j _=>by simp
  simp only [bnq,enter,gA,ltF,ne_eq,Nat.reduceEqDiff,reduceCtorEq,e,true_or,and_true]
  all_goals rfl
 simp only [go_sem,byq]
 refine au (fun hc=>?_) (fun hc=>?_)
 ·have hk:k<64:=by simp at hc;omega
  have e1:IntKind.i64.wrap ((k:Int)+64)=((k+64:Nat):Int):=by rw [wrap_i64]<;>omega
  have e2:IntKind.u64.wrap (k:Int)=(k:Int):=by rw [cV]<;>omega
  have e3:IntKind.i64.wrap ((k:Int)+1)=((k+1:Nat):Int):=by rw [wrap_i64]<;>omega
  have s1:y >>> k<2^64:=mu hy
  have s2:x >>> k<2^64:=mu hx
  simp only [go_sem,byq,e1,e2,e3,iD y k hy,iD x k hx,sy _ s1,sy _ s2,Fl,iNq,nzq,fF,nA,blo k hk,bhi k,List.length_set]
  have hst:((cC v fun j=>decide (j % 64<k)).set k (.bool (v.testBit k))).set (k+64) (.bool (v.testBit (k+64)))=cC v fun j=>decide (j % 64<k+1):=by
   rw [jK v _ (fun j=>decide (j % 64<k)||decide (j=k)) k (fun j hj=>by simp [hj]) (by simp),
    jK v _ (fun j=>decide (j % 64<k)||decide (j=k)||decide (j=k+64)) (k+64) (fun j hj=>by simp [hj]) (by simp)]
   unfold cC
   refine List.map_congr_left fun j hj=>?_
   have:j<128:=List.mem_range.1 hj
   congr 2
   rw [Bool.eq_iff_iff];simp;omega
  refine ⟨by omega,by omega,by omega,by omega,by omega,by omega,k+1,by omega,by omega,?_⟩
  exact Z6
 ·have hk:k=64:=by simp at hc;omega
  subst hk
  have e:cC v (fun j=>decide (j % 64<64))=bits v:=nM _ _ fun j _=>by simp;omega
  have et:List.take 128 (bits v)=bits v:=ybc (by rw [bJ];omega)
  have es:splice (List.replicate 128 (.bool false)) 0 (bits v)=bits v:=dY (y:=.junk) (bJ v)
  simp only [go_sem,byq,e,et,es,bJ,eS]
  refine ⟨by simp,?_⟩
  exact Z7):p:=h
theorem Y4 {p:Prop} (h:p:=by
 refine fw J () trivial ⟨by simp only [zla,zkr,zkm,iC,hnB];omega,by rw [← hHB];repeat first|exact .refl _|refine .push ?_ _,by rw [← hHB];exact hcl1,?_,?_⟩
 ·(simp [ltF,zla,znj,hnB];try omega)
 ·simp [aK,wk2,wk1,wkM,Fr.get]):p:=h
theorem Y5 {p:Prop} (h:p:=by
 obtain ⟨k,Hc⟩:=a
 obtain ⟨hk,hle,hcc,g1⟩:=ha
 dsimp only at hk hle hcc g1 ⊢
 have nx1:=glq g1
 simp only [go_sem]
 refine au (fun hc=>?_) (fun hc=>?_)
 ·have hk1:k<ps.length:=by simp at hc;omega
  have e5:=Yk5 k
  have hkv:k<(eC ps).length:=by rw [hal];exact hk1
  have gv:=jR hkv
  have gw:(eC ps)[k]=(ps[k].name,[]):=by simp [eC]
  rw [gw] at gv
  have gp:=bC (f:=bS) (l:=ps) (k:=k) (x:=ps[k]) (gQq hk1)
  have hgd:(ps.map (·.name)).getD k []=ps[k].name:=by simp [gEq,hk1]
  have r1:((H.nx+1+1)=Hc.nx)=False:=eq_false (by omega)
  have r3:(H.nx=Hc.nx)=False:=eq_false (by omega)
  have r2:((H.nx+1+1)=Hc.nx+1)=False:=eq_false (by omega)
  have hsn:∀ v,ws.getD k 0=v→aU (iG ps ws k)++[.agg [.str ps[k].name,.str [],.int .u64 ((v/2^64:Nat):Int),.int .u64 ((v % 2^64:Nat):Int)]]=aU (iG ps ws (k+1)):=by
   intro v hv
   rw [iG,hgd,hv,ii]
  have hgl:=@pA ps ws k
  by_cases hkw:k<ws.length
  ·have hvg:ws.getD k 0=ws[k]:=by simp [gEq,hkw]
   have d1:decide ((k:Int)<(ws.length:Int))=true:=dtq (by omega)
   obtain rfl:zs=2:=by
    rcases hzs with h|h
    ·exact h
    ·rw [h] at hkw;exact absurd hkw (by simp)
   simp only [go_sem,bH,hal,ybb,gv,gp,bS,j4,vY hkw,d1,iNq,e5,r1,r2,r3,if_false,hsn _ hvg,aC,hgl,g1]
   refine ⟨by omega,by omega,⟨by omega,by omega,fun z hz=>by rw [List.mem_singleton.1 hz];rfl⟩,(k+1,Hc.set (H.nx+1+1) (.buf 4 (k+1))),⟨by dsimp only;omega,bF hle (by omega),aa hcc,?_⟩,by dsimp only;omega,?_⟩
   ·dsimp only
    rw [aB,if_pos rfl,if_pos nx1]
   ·have hnn:H.nx≤Hc.nx:=by omega
    have hcs:=@aa Hc (H.nx+1+1) 4 (k+1) hcc
    exact Z57
  ·have hvg:ws.getD k 0=0:=by rw [gEq,gNq (by omega)];rfl
   have d1:decide ((k:Int)<(ws.length:Int))=false:=dfq (by omega)
   have hs0:=hsn _ hvg
   simp only [go_sem,bH,hal,ybb,gv,gp,bS,j4,d1,iNq,e5,r1,r2,r3,if_false,aC,hgl,g1]
   refine ⟨by omega,⟨by omega,by omega,fun z hz=>by rw [List.mem_singleton.1 hz];rfl⟩,(k+1,Hc.set (H.nx+1+1) (.buf 4 (k+1))),⟨by dsimp only;omega,bF hle (by omega),aa hcc,?_⟩,by dsimp only;omega,?_⟩
   ·dsimp only
    rw [aB,if_pos rfl,if_pos nx1]
   ·have hnn:H.nx≤Hc.nx:=by omega
    have hcs:=@aa Hc (H.nx+1+1) 4 (k+1) hcc
    exact Z57
 ·have hk1:k=ps.length:=by simp at hc;omega
  subst hk1
  simp only [go_sem]
  exact Z58):p:=h
theorem Y6 {p:Prop} (h:p:=by
 refine az (A:=Nat) (fun k=>[(4,.ptr H.nx 0),(7,.ptr (H.nx+1) 0),(8,.ptr (H.nx+1+1) 0),(127,.int .i64 (e.args.length:Int)),(128,.int .i64 (k:Int))]) (fun k=>HL ((List.replicate k v).flatMap vc++((e.args.drop k).flatMap vc++J))) (fun k=>k≤e.args.length) (fun k=>e.args.length - k) 0 (by omega) ?_ fun k hk=>?_
 ·rw [hHL]
  refine ⟨by simp only [zla,zkm,zkr];omega,lRq _,by have:=hclL 0 (Nat.zero_le _);rw [hHL] at this;exact this,?_,?_⟩
  ·simp [ltF,zla,znj,znb]
   try omega
  ·simp [aK,wk2,wk1,wkM,Fr.get]
 simp only [go_sem]
 refine au (fun hc=>?_) (fun hc=>?_)
 ·have hk':k<e.args.length:=by simp at hc;omega
  have e5:=Yk5 k
  obtain ⟨x,hx⟩:∃ x,x=e.args[k]:=⟨_,rfl⟩
  have hd:e.args.drop k=x::e.args.drop (k+1):=by rw [hx];exact dcq hk'
  have hC:k*2=((List.replicate k v).flatMap vc).length:=by rw [oH,List.length_replicate]
  have hcl1:=hclL (k+1) (by omega)
  have hrep:(List.replicate (k+1) v).flatMap vc=(List.replicate k v).flatMap vc++vc v:=by
   rw [List.replicate_succ',List.flatMap_append,List.flatMap_cons,List.flatMap_nil,yaj]
  rw [hHL]
  rw [hHL] at hcl1
  dsimp only at hcl1 ⊢
  rw [hrep] at hcl1
  rw [hd,List.flatMap_cons]
  have hlen:((List.replicate k v).flatMap vc).length+2≤((List.replicate k v).flatMap vc++(vc x++(e.args.drop (k+1)).flatMap vc++J)).length:=by simp only [lAq,vc,yaz,yba];omega
  generalize (List.replicate k v).flatMap vc=C0 at *
  generalize hD0:(e.args.drop (k+1)).flatMap vc=D0 at *
  simp only [go_sem,iNq,hC,lD,oS,vc,yal,yak,lz,e5]
  (repeat with_reducible refine And.intro (by first|assumption|decide|omega|(simp only [lAq,yaz];omega)) ?_)
  simp only [List.append_assoc,vc,yal,yak] at hcl1
  refine ⟨k+1,by omega,by omega,by simp only [zla];omega,?_,?_,?_,?_⟩
  ·rw [hrep,hD0];simp only [List.append_assoc,vc,yal,yak];exact lRq _
  ·rw [hrep,hD0];simp only [List.append_assoc,vc,yal,yak];exact hcl1
  ·simp [ltF,zla,znj,znb]
   try omega
  ·simp [aK,wk2,wk1,wkM,Fr.get]
 ·have hk':k=e.args.length:=by simp at hc;omega
  subst hk'
  rw [hHL]
  simp only [go_sem,List.drop_length,List.flatMap_nil,yak]
  have hrw:=AN J (List.replicate e.args.length v)
  rw [List.length_replicate] at hrw
  refine ⟨⟨rfl,.inl ⟨.inl rfl,rfl,rfl⟩,rfl,rfl,Im ?_ hrw (CV (by omega)),trivial⟩,by repeat first|exact .refl _|refine .push ?_ _,hcl,gE _⟩
  simp only [go_sem]):p:=h
theorem Y7 {p:Prop} (h:p:=by
 have hk:k<64:=by simp at hc;omega
 have e1:IntKind.i64.wrap ((k:Int)+64)=((k+64:Nat):Int):=by rw [wrap_i64]<;>omega
 have e2:IntKind.u64.wrap (k:Int)=(k:Int):=by rw [cV]<;>omega
 have e3:IntKind.i64.wrap ((k:Int)+1)=((k+1:Nat):Int):=by rw [wrap_i64]<;>omega
 have g1:=gF v k (by omega)
 have g2:=gF v (k+64) (by omega)
 have e4:xt .u64 1 (k:Int)=(((1 <<< k) % 2^64:Nat):Int):=nd 1 k
 have lx:x % 2^k<2^64:=Nat.lt_of_le_of_lt (Nat.mod_le _ _) hx
 have ly:y % 2^k<2^64:=Nat.lt_of_le_of_lt (Nat.mod_le _ _) hy
 have l1:(1 <<< k) % 2^64<2^64:=Nat.mod_lt _ (by decide)
 have o1:=nE _ _ lx l1
 have o2:=nE _ _ ly l1
 have hb1:=hbl k hk
 have hb2:=hbh k
 by_cases c1:v.testBit k=true<;>by_cases c2:v.testBit (k+64)=true
 ·rw [c1] at hb1 g1;rw [c2] at hb2 g2
  rw [lR x k hk hb2] at o1
  rw [lR y k hk hb1] at o2
  simp only [go_sem,zav,byq,e1,e2,e3,e4,iNq,nzq,Nat.mul_one,bJ,g1,g2,o1,o2]
  refine ⟨by omega,by omega,by omega,by omega,by omega,by omega,k+1,by omega,by omega,?_⟩
  exact Z19
 ·have c2:v.testBit (k+64)=false:=by simpa using c2
  rw [c1] at hb1 g1;rw [c2] at hb2 g2
  have o1:=iZ x k hb2
  rw [lR y k hk hb1] at o2
  simp only [go_sem,zav,byq,e1,e2,e3,e4,iNq,nzq,Nat.mul_one,bJ,g1,g2,o2]
  refine ⟨by omega,by omega,by omega,by omega,by omega,k+1,by omega,by omega,?_⟩
  exact Z21
 ·have c1:v.testBit k=false:=by simpa using c1
  rw [c1] at hb1 g1;rw [c2] at hb2 g2
  have o2:=iZ y k hb1
  rw [lR x k hk hb2] at o1
  simp only [go_sem,zav,byq,e1,e2,e3,e4,iNq,nzq,Nat.mul_one,bJ,g1,g2,o1]
  refine ⟨by omega,by omega,by omega,by omega,by omega,k+1,by omega,by omega,?_⟩
  exact Z22
 ·have c1:v.testBit k=false:=by simpa using c1
  have c2:v.testBit (k+64)=false:=by simpa using c2
  rw [c1] at hb1 g1;rw [c2] at hb2 g2
  have o1:=iZ x k hb2
  have o2:=iZ y k hb1
  simp only [go_sem,zav,byq,e1,e2,e3,e4,iNq,nzq,Nat.mul_one,bJ,g1,g2]
  refine ⟨by omega,by omega,by omega,by omega,k+1,by omega,by omega,?_⟩
  exact Z23):p:=h
theorem Y8 {p:Prop} (h:p:=by
 refine ACalls.fW ax (tCq fD (tCq cj (tCq eo (tCq eZ (tCq cl tNq))))) Tryz.func69 [.tmp 6] (nrq _) (T:=av [(5,[[],[],[],[],[],[],[],[],[],[],[],[],[],[],[],[1,5,14],[1,5,11,14,15]]),(7,[[],[],[],[],[],[],[],[],[],[1,6,8]]),(9,[[],[],[],[],[],[],[],[],[1]])]) (h:=fun hcl hlt=>?_)
 clear hlt
 simp only [go_sem,fZ,fL,i2,i3,i4,i5,i6,iNq,bD,d1,d2,d3,beq_self_eq_true,cF,cE,Bool.bne_false,z2,z3,bt1,bf1,kF,jo,eY,p2V,vv,fo,eu,fm,c2,c3,g1,q]
 (repeat with_reducible refine Yq ?_)
 exact Z0):p:=h
theorem Y9 {p:Prop} (h:p:=by
 simp only [go_sem,bR,j8 hk1,iNq,hkd,Int.reduceBEq,hid,bH,n1,n2,n3,e5]
 refine ⟨by omega,⟨by omega,by omega,fun z hz=>by simp only [List.mem_cons,List.not_mem_nil,or_false] at hz;(try rcases hz with rfl|rfl)<;>(try subst hz)<;>rfl⟩,(k+1,Hc.set (H.nx+1+1) (.buf 2 (LL.length+2))),⟨by dsimp only;omega,bF hle (by omega),aa hcc,?_⟩,by dsimp only;omega,?_⟩
 ·dsimp only
  rw [aB,if_pos rfl,if_pos hnx,hln];simp
 ·have hcs:=@aa Hc (H.nx+1+1) 2 (LL.length+2) hcc
  dsimp only
  rw [hln]
  try rw [hsn]
  exact Z49):p:=h
theorem Y10 {p:Prop} (h:p:=by
 simp [aK,wk2,wk1,wkM,Fr.get]):p:=h
theorem Y11 {p:Prop} (h:p:=by
 simp only [go_sem,hkg,bR,iNq,g1,ay g1,g2,ay g2,g3,r1,r2,r3,r4,r5,r6,r7,r8,r9,r10,r11,r12,if_false,d1,ybb,e5,hgm,aQ,bE,vc,yal,yak,List.append_assoc,hpres,c1,c2,c3,c4,hs10,ht10,hle10,aC]
 refine ⟨by omega,by omega,⟨by omega,by omega,fun z hz=>by
  rcases List.mem_cons.1 hz with rfl|hz
  ·rfl
  ·rw [List.mem_singleton.1 hz];rfl⟩,(k+1,Hc.set (H.nx+1+1+1+1) (.buf 4 (LL.length+2))),⟨by dsimp only;omega,bF hle (by omega),aa hcc,?_,?_,?_⟩,by dsimp only;omega,?_⟩
 ·dsimp only
  rw [aB,if_neg (by omega)];exact g1
 ·dsimp only
  rw [aB,if_neg (by omega)];exact g2
 ·dsimp only
  rw [aB,if_pos rfl,if_pos nx3,hln]
 ·have hnn:H.nx≤Hc.nx:=by omega
  have hcs:=@aa Hc (H.nx+1+1+1+1) 4 (LL.length+2) hcc
  dsimp only
  try simp only [hrow]
  exact Z59):p:=h
theorem Y12 {p:Prop} (h:p:=by
 simp (disch:=first|exact Zd|omega) [↓zmk,beq,ybc,ybd,ybe,af,wk,wk2,wk1,wkM,wkL,aj,ybf,hcl]
 first|done|repeat first|exact .refl _|refine .push ?_ _):p:=h
theorem Y13 {p:Prop} (h:p:=by
 refine ACalls.fW ax (tCq dW (tCq dM (tCq fA (tCq c8 tNq)))) Tryz.func73 [.tmp 6] (nrq _) (T:=av [(8,[[],[],[],[],[],[],[],[],[],[],[],[],[],[],[],[1,5,14],[1,5,11,14,15]])]) (h:=fun hcl hlt=>?_)
 clear hlt
 simp only [go_sem,fZ,cH,ef,p2V,vv,i2,i3,i4,i5,i6,w1,w2,w3,bt1,bf1,iNq,bD,d1,d2,d3,beq_self_eq_true,cF,cE,Bool.bne_false,z2,z3,j7,fG,fo,eu,fm,c2,c3,g1,q]
 (repeat with_reducible refine Yq ?_)
 exact Z0):p:=h
theorem Y14 {p:Prop} (h:p:=by
 cases A<;>cases B <;>
 ·simp [jv,hna,hnb,h] at hE
  subst hE
  simp only [go_sem,hi,Int.reduceBEq,Bool.bne_false,Bool.bne_true,bqs,Bool.not_true,Bool.not_false]
  exact Z0):p:=h
theorem Y15 {p:Prop} (h:p:=by
 cases r with
 |bad q=>obtain ⟨m1,m2⟩:=this;exact ⟨m1,by omega⟩
 |ok b q u =>
  obtain ⟨m1,m2,m3,m4,m5,m6⟩:=this
  simp only [Rl.isL,if_true] at m4
  exact ⟨m1,m2,by omega,by simp [Rl.isL];omega,m5,by omega⟩):p:=h
theorem Y16 {p:Prop} (h:p:=by
 cases r with
 |ok a q u =>
  rw [aP] at hK
  simp only [go_sem,hfree,f1,f2,hgi,hgt',hsi,hst,aL,aI,aP,aO,bq,aN,aW,hne,ne_eq,hne',hl5,iNq,aY,aX,i1,Int.reduceLE,eq_self,nFq,Bool.not_true,Bool.not_false,Bool.true_and,Bool.false_and,lAq,yaz,yba,nzq]
  exact cA hK (hnx _ _) (lRq _) (hcl2 _ _ _)
 |bad q =>
  rw [aI] at hK
  simp only [go_sem,hfree,f1,f2,hgi,hgt',hsi,hst,aL,aI,aP,aO,bq,aN,aW,hne,ne_eq,hne',hl5,iNq,aY,aX,i1,Int.reduceLE,eq_self,nFq,Bool.not_true,Bool.not_false,Bool.true_and,Bool.false_and,lAq,yaz,yba,nzq]
  intro a t' hb
  try simp only [lA,go_sem,hfree,f1,f2,hgi,hgt',hsi,hst,aL,aI,aP,aO,bq,aN,aW,hne,ne_eq,hne',hl5,iNq,aY,aX,i1,Int.reduceLE,eq_self,nFq,Bool.not_true,Bool.not_false,Bool.true_and,Bool.false_and,lAq,yaz,yba,nzq]
  exact cA (hK a t' hb) (hnx _ _) (lRq _) (hcl2 _ _ _)):p:=h
theorem Y17 {p:Prop} (h:p:=by
 refine ⟨by omega,by (try simp only [lAq,yaz,yba]);omega,by (try simp only [lAq,yaz,yba]);omega,by (try simp only [lAq,yaz,yba]);omega,?_,?_,?_,i4⟩
 ·simpa [ep,Nat.add_assoc] using i1
 ·simpa [ep,Nat.add_assoc] using i2
 ·simpa [ep,Nat.add_assoc] using i3):p:=h
theorem Y18 {p:Prop} (h:p:=by
 first|done|repeat first|exact .refl _|refine .push ?_ _):p:=h
theorem Y19 {p:Prop} (h:p:=by
 have hj1:j=V.length:=by simp at hc;omega
 subst hj1
 simp only [go_sem,e5]
 rw [ybc (by rw [hkb];exact nrq _),← hkt] at q3
 rw [ybc (by rw [hkb];exact nrq _),← hkt]
 refine ⟨(k+1,Hd),⟨by dsimp only;omega,hle2,hcd,q1,q2,q3⟩,by dsimp only;omega,?_⟩
 have hnn:H.nx≤Hd.nx:=by omega
 (simp only [bkq,enterW,aK,ltF,ne_eq,Nat.reduceEqDiff,reduceCtorEq,hcd,hm,aA,hnn];try simp (disch:=first|exact Zd|omega) [↓zmk,beq,ybc,ybd,ybe,af,wk,wk2,wk1,wkM,wkL,aj,ybf,byq,biq,ah,hcl,hcd,hm,aA,hnn];try (repeat' (first|assumption|omega|exact True.intro|refine And.intro ?_ ?_|refine ag ?_|refine aa ?_|refine ae ?_ ?_|refine ai ?_ ?_|refine aq ?_|exact lRq _|refine lPq ?_ _|refine AHeap.Le.del ?_ ?_|(simp only [bt,and_true,true_and,hcd,hm,aA,hnn];first|done|omega|(simp;done)))))
 all_goals rfl):p:=h
theorem Y20 {p:Prop} (h:p:=by
 rw [e]
 simp only [go_sem,bhq,Nat.reduceMod,Nat.reduceDiv,aD,aE,aF,bf,aG,bc,aZ,bb,a9,yaq,yar,yao,yap]
 simp (disch:=first|exact Zd|omega) [↓zmk,beq,ybc,ybd,ybe,af,wk,wk2,wk1,wkM,wkL,aj,ybf,hcl2]
 first|exact bw fU|exact ⟨by repeat first|exact .refl _|refine .push ?_ _,bw fU⟩):p:=h
theorem Y21 {p:Prop} (h:p:=by
 simp only [cx,cQ,and_true]
 refine ⟨?_,?_,?_,?_,?_,?_⟩
 all_goals first|exact jC|(rw [hnl];exact jC (l:=[]))|(rw [cw];exact .inl ⟨.inr rfl,rfl,by rw [cP];trivial⟩)):p:=h
theorem Y22 {p:Prop} (h:p:=by
 rw [hk',List.take_length]
 simp only [cx,cQ,and_true]
 refine ⟨?_,?_,?_,?_,?_,?_⟩
 all_goals first|exact jC|(rw [cw];exact .inl ⟨.inr rfl,rfl,by rw [cP];trivial⟩)):p:=h
theorem Y23 {p:Prop} (h:p:=by
 generalize decide (m=gr m k)=b at *
 refine Yfv ax tNq Tryz.func72 [.tmp 4] fun hcl hlt=>?_
 clear hlt
 subst hR
 cases b<;>(simp only [go_sem,fZ,hp,c2,c3,c4,hT,gZ,bt1,bf1];try simp (disch:=first|exact Zd|omega) [↓zmk,beq,ybc,ybd,ybe,af,wk,wk2,wk1,wkM,wkL,aj,ybf,hcl])):p:=h
theorem Y24 {p:Prop} (h:p:=by
 dsimp only at hbd x1 x3 x7 ⊢
 subst hbd
 rw [x1,aI] at hK
 simp only [go_sem,hfree,f1,f2,hgi,hgt',hsi,hst,aL,aI,aP,aO,bq,aN,aW,hne,ne_eq,hne',hl5,iNq,aY,aX,i1,Int.reduceLE,eq_self,nFq,Bool.not_true,Bool.not_false,Bool.true_and,Bool.false_and,lAq,yaz,yba,nzq,x3,if_false]
 exact cA (hK a' t' x7) (hnx _ _) (lRq _) (hcl2 _ _ _)):p:=h
theorem Y25 {p:Prop} (h:p:=by
 simp only [bp,aM,bhq,Nat.reduceMod,Nat.reduceDiv,aD,aE,aF,bf,aG,bc,aZ,bb,a9,yaq,yar,yao,yap,go_sem,dn1,dn2]
 exact Z0):p:=h
theorem Y26 {p:Prop} (h:p:=by
 have hk1:k=keys.length:=by simp at hc;omega
 subst hk1
 rw [List.take_length] at hid
 rw [List.take_length]
 have hfl:=@lv keys keys.length
 rw [List.take_length] at hfl
 have n1:(H.nx+1+1=Hc.nx)=False:=eq_false (by omega)
 have htab:mK keys=(keys.flatMap fun k=>eO k.name k.kind)++[nW]:=rfl
 rw [htab]
 clear htab
 generalize (keys.flatMap fun k=>eO k.name k.kind)=G at *
 have hsn:bz G++[.agg [.str [112,114,105,111,114,105,116,121],.str []]]=bz (G++[nW]):=ol (v:=nW)
 simp only [go_sem,hid,n1,bH]
 refine ⟨⟨by omega,by omega,fun z hz=>by rw [List.mem_singleton.1 hz];rfl⟩,?_⟩
 rw [hsn]
 have hle3:=(bF hle (show H.nx≤H.nx+1+1 by omega) (o:=.buf 2 (G.length+1))).push (.buf 2 1)
 exact Z48):p:=h
theorem Y27 {p:Prop} (h:p:=by
 rw [vg hk1 hc] at hr
 simp only [go_sem,e5]
 refine ⟨(k+1,pre,id,Hc),⟨⟨by dsimp only;omega,by dsimp only;omega,hr⟩,hle,hcc,hid,hst⟩,by dsimp only;omega,?_⟩
 (simp only [bkq,enterW,aK,ltF,ne_eq,Nat.reduceEqDiff,reduceCtorEq,hcc,hnx,hid2];try simp (disch:=first|exact Zd|omega) [↓zmk,beq,ybc,ybd,ybe,af,wk,wk2,wk1,wkM,wkL,aj,ybf,byq,biq,ah,hcl,hcc,hnx,hid2];try (repeat' (first|assumption|omega|exact True.intro|refine And.intro ?_ ?_|refine ag ?_|refine aa ?_|refine ae ?_ ?_|refine ai ?_ ?_|refine aq ?_|exact lRq _|refine lPq ?_ _|refine AHeap.Le.del ?_ ?_|(simp only [bt,and_true,true_and,hcc,hnx,hid2];first|done|omega|(simp;done)))))
 exact od hid2):p:=h
theorem Y28 {p:Prop} (h:p:=by
 have hnn:H.nx≤Hc.nx:=by omega
 have hmi:min V.length (bz (V++[nW])).length=V.length:=by rw [bH,lAq];omega
 (simp only [bkq,enterW,aK,ltF,ne_eq,Nat.reduceEqDiff,reduceCtorEq,hcq,hm,aA,aH,hnn];try simp (disch:=first|exact Zd|omega) [↓zmk,beq,ybc,ybd,ybe,af,wk,wk2,wk1,wkM,wkL,aj,ybf,byq,biq,ah,hcl,hcq,hm,aA,aH,hnn];try (repeat' (first|assumption|omega|exact True.intro|refine And.intro ?_ ?_|refine ag ?_|refine aa ?_|refine ae ?_ ?_|refine ai ?_ ?_|refine aq ?_|exact lRq _|refine lPq ?_ _|refine AHeap.Le.del ?_ ?_|(simp only [bt,and_true,true_and,hcq,hm,aA,aH,hnn];first|done|omega|(simp;done)))))
 all_goals rw [hmi]):p:=h
theorem Y29 {p:Prop} (h:p:=by
 refine ⟨⟨by rw [aC],by rw [aC];omega,by rw [aC];omega,fun z hz=>by rw [List.mem_singleton.1 hz];rfl⟩,(j+1,Hd.set (H.nx+1+1+1+1) (.buf 4 (LL.length+1))),⟨by dsimp only;omega,bF hle2 (by omega),aa hcd,?_,?_,?_,?_,?_⟩,by dsimp only;omega,?_⟩
 ·dsimp only
  rw [aB,if_neg (by omega)];exact q1
 ·dsimp only
  rw [aB,if_neg (by omega)];exact q2
 ·dsimp only
  rw [aB,if_pos rfl,if_pos p3,hln];simp
 ·dsimp only
  rw [aB,if_neg (by omega)];exact q4
 ·dsimp only
  rw [aB,if_neg (by omega)];exact q5
 ·have hnn:H.nx≤Hd.nx:=by omega
  have hcs:=@aa Hd (H.nx+1+1+1+1) 4 (LL.length+1) hcd
  dsimp only
  rw [hln,hsn]
  simp only [aC]
  exact Z55):p:=h
theorem Y30 {p:Prop} (h:p:=by
 simp only [go_sem,aJ,iNq,hkn,hop,zat,zau,b1,b2,b3,b4,b5,b16,hil,w1,zY,e5,hsn _ hv]
 refine ⟨⟨by omega,by omega,by simp [bM,AV.cells,AV.one]⟩,k+1,by omega,by omega,?_⟩
 exact Z38):p:=h
theorem Y31 {p:Prop} (h:p:=by
 have hc0:=ag (a:=2) (b:=0) (ag (a:=2) (b:=0) (ae hcl hx))
 (simp only [bkq,enterW,aK,ltF,ne_eq,Nat.reduceEqDiff,reduceCtorEq,hc0,hm,aH];try simp (disch:=first|exact Zd|omega) [↓zmk,beq,ybc,ybd,ybe,af,wk,wk2,wk1,wkM,wkL,aj,ybf,byq,biq,ah,hcl,hc0,hm,aH];try (repeat' (first|assumption|omega|exact True.intro|refine And.intro ?_ ?_|refine ag ?_|refine aa ?_|refine ae ?_ ?_|refine ai ?_ ?_|refine aq ?_|exact lRq _|refine lPq ?_ _|refine AHeap.Le.del ?_ ?_|(simp only [bt,and_true,true_and,hc0,hm,aH];first|done|omega|(simp;done)))))
 simp [bz]):p:=h
theorem Y32 {p:Prop} (h:p:=by
 refine ⟨⟨by omega,by omega,by simp [bM,AV.cells,AV.one]⟩,k+1,by omega,by omega,?_⟩
 exact Z38):p:=h
theorem Y33 {p:Prop} (h:p:=by
 cases hfb:wb t k
 ·have hz:jB (bV vs) t t[k]=12:=by unfold jB;rw [if_neg hx,← hf,hfb];rfl
  rw [hz,if_neg (by decide)] at hq
  subst hq
  refine ⟨t,k,⟨rfl,rfl,hk1,hg,hl⟩,?_⟩
  simp only [go_sem,aJ,c7 hk1,iNq,zit,hid,hne,hmg,kP,e5,d3,hfb]
  exact Z41
 ·have hz:jB (bV vs) t t[k]=0:=by unfold jB;rw [if_neg hx,← hf,hfb];rfl
  rw [hz,if_pos rfl] at hq
  refine ⟨t,k,⟨rfl,rfl,hk1,hg,hl⟩,?_⟩
  simp only [go_sem,aJ,c7 hk1,iNq,zit,hid,hne,hmg,kP,e5,d3,hfb]
  refine ⟨k+1,⟨by omega,hq⟩,by omega,?_⟩
  exact Z40):p:=h
theorem Y34 {p:Prop} (h:p:=by
 refine ⟨by omega,?_⟩
 exact Z0):p:=h
theorem Y35 {p:Prop} (h:p:=by
 refine ACalls.fW ax (tCq fD (tCq cj (tCq eo (tCq eZ (tCq cl tNq))))) Tryz.func69 [.tmp 6] (nrq _) (T:=av [(5,[[],[],[],[],[],[],[],[],[],[],[],[],[],[],[],[1,5,14],[1,5,11,14,15]]),(7,[[],[],[],[],[],[],[],[],[],[1,6,8]]),(9,[[],[],[],[],[],[],[],[],[1]])]) (h:=fun hcl hlt=>?_)
 clear hlt
 simp only [go_sem,fZ,fL,i2,i3,i4,i5,i6,iNq,bD,d1,d2,d3,beq_self_eq_true,cF,cE,Bool.bne_false,z2,z3,bt1,bf1,kF,jo,eY,p2V,vv,fo,eu,fm,c2,g1]
 (repeat with_reducible refine Yq ?_)
 exact Z0):p:=h
theorem Y36 {p:Prop} (h:p:=by
 (simp only [bkq,enterW,aK,ltF,ne_eq,Nat.reduceEqDiff,reduceCtorEq,hc0,hm,hm2,aA,aH];try simp (disch:=first|exact Zd|omega) [↓zmk,beq,ybc,ybd,ybe,af,wk,wk2,wk1,wkM,wkL,aj,ybf,byq,biq,ah,hcl,hc0,hm,hm2,aA,aH];try (repeat' (first|assumption|omega|exact True.intro|refine And.intro ?_ ?_|refine ag ?_|refine aa ?_|refine ae ?_ ?_|refine ai ?_ ?_|refine aq ?_|exact lRq _|refine lPq ?_ _|refine AHeap.Le.del ?_ ?_|(simp only [bt,and_true,true_and,hc0,hm,hm2,aA,aH];first|done|omega|(simp;done)))))
 all_goals simp [aU,iG]):p:=h
theorem Y37 {p:Prop} (h:p:=by
 subst hk'
 rw [List.drop_length] at hR
 unfold ixP at hR
 subst hR
 simp only [go_sem]
 exact Z0):p:=h
theorem Y38 {p:Prop} (h:p:=by
 simp only [bp,aM,bhq,Nat.reduceMod,Nat.reduceDiv,aD,aE,aF,bf,aG,bc,aZ,bb,a9,yaq,yar,yao,yap,go_sem,d]
 exact Z0):p:=h
theorem Y39 {p:Prop} (h:p:=by
 rename_i hc
 have hlt:=dt hc
 rcases bg hr with ⟨q,e,rfl⟩|⟨b,p1,t1,e,e2⟩
 ·obtain ⟨m1,m2⟩:=h _ _ _ _ e hg trivial (by omega);exact ⟨m1,by omega⟩
 ·cases e2
  obtain ⟨k1,k2,k3,k4,k5,k6⟩:=h _ _ _ _ e hg trivial (by omega)
  simp only [Rl.isL,Bool.false_eq_true,if_false] at k4
  exact ⟨by simp,k2,by simp;omega,by simp [Rl.isL];omega,k5.snoc ⟨by simp [nd2],by simp [nd2]⟩ (show (0:Nat)<2^128 by decide) (.inr ⟨by simp only [nd2];omega,by simp only [nd2];omega⟩),by simp;omega⟩):p:=h
theorem Y40 {p:Prop} (h:p:=by
 (simp only [bkq,enterW,aK,ltF,ne_eq,Nat.reduceEqDiff,reduceCtorEq,hc0,hm,aA];try simp (disch:=first|exact Zd|omega) [↓zmk,beq,ybc,ybd,ybe,af,wk,wk2,wk1,wkM,wkL,aj,ybf,byq,biq,ah,hcl,hc0,hm,aA];try (repeat' (first|assumption|omega|exact True.intro|refine And.intro ?_ ?_|refine ag ?_|refine aa ?_|refine ae ?_ ?_|refine ai ?_ ?_|refine aq ?_|exact lRq _|refine lPq ?_ _|refine AHeap.Le.del ?_ ?_|(simp only [bt,and_true,true_and,hc0,hm,aA];first|done|omega|(simp;done)))))
 simp [aU,bT]):p:=h
theorem Y41 {p:Prop} (h:p:=by
 simp only [go_sem,f1,f2,hgi,hgt',hsi,hst,bn,bA,bO,cW,co,cU,cq,cm,bN,bY,cb,bI,hne,ne_eq,hne',hl5,iNq,aY,aX,i1,Int.reduceLE,eq_self,nFq]
 exact Z25):p:=h
theorem Y42 {p:Prop} (h:p:=by
 simp only [lAq,yaz,yba,nzq,aP] at hK hc3
 exact cA hK (nrq _) ((lRq _).push _) hc3):p:=h
theorem Y43 {p:Prop} (h:p:=by
 refine ACalls.fW ax (tCq dW (tCq dM (tCq fA (tCq c8 tNq)))) Tryz.func73 [.tmp 6] (nrq _) (T:=av [(8,[[],[],[],[],[],[],[],[],[],[],[],[],[],[],[],[1,5,14],[1,5,11,14,15]])]) (h:=fun hcl hlt=>?_)
 clear hlt
 simp only [go_sem,fZ,cH,ef,p2V,vv,i2,i3,i4,i5,i6,w1,w2,w3,bt1,bf1,iNq,bD,d1,d2,d3,beq_self_eq_true,cF,cE,Bool.bne_false,z2,z3,j7,fG,fo,eu,fm,c2,g1]
 (repeat with_reducible refine Yq ?_)
 exact Z0):p:=h
theorem Y44 {p:Prop} (h:p:=by
 simp only [go_sem,biq,ah,if_pos hs,er,eq,en]
 refine ⟨⟨by omega,by omega⟩,by omega,(m/10,l++[m % 10]),⟨?_,?_,by simp;omega,by simpa using hq⟩,by omega,?_⟩
 ·rw [hn,mW,lAq,List.length_singleton,Nat.pow_succ,Nat.mul_assoc,Nat.add_assoc,← Nat.mul_add]
  congr 2;simp [dv];omega
 ·exact fun d hd=>by
   rcases List.mem_append.1 hd with hd|hd
   ·exact hl d hd
   ·rw [List.mem_singleton.1 hd];omega
 ·exact Z4):p:=h
theorem Y45 {p:Prop} (h:p:=by
 rw [gPq _ _ (by simp [AHeap.push,AHeap.set];omega),gPq _ _ (by simp [AHeap.set];omega),AHeap.get_set_same _ _ hid2]):p:=h
theorem Y46 {p:Prop} (h:p:=by
 simp only [go_sem,nAV,hs,vJ,mAV,jT,hi,Int.reduceBEq]
 refine ⟨a,b,⟨rfl,rfl,ha,hb,hc⟩,?_⟩
 simp only [go_sem,nAV,rz,se,sq,sC]
 exact Z0):p:=h
theorem Y47 {p:Prop} (h:p:=by
 simp only [go_sem]
 exact Z0):p:=h
theorem Y48 {p:Prop} (h:p:=by
 rw [if_pos rfl]
 refine Yfv ax tNq Tryz.func126 [.tmp 2] fun hcl hlt=>?_
 clear hlt
 simp only [go_sem,Int.reduceBEq]
 exact Z47):p:=h
theorem Y49 {p:Prop} (h:p:=by
 by_cases h:k=0
 ·rw [h,hL0,zla,hnB];omega
 ·rw [hLk k h];simp only [zla,hnB];omega):p:=h
theorem Y50 {p:Prop} (h:p:=by
 rw [d2]
 refine ACalls.fW ax (tCq cj (tCq eo (tCq cl tNq))) Tryz.func79 [.tmp 8] (nrq _) (T:=av [(8,[[],[],[0,1],[],[],[],[0,1,2,4,5]]),(10,[[],[],[],[0,2]])]) (h:=fun hcl hlt=>?_)
 clear hlt
 simp only [go_sem,bE,vc,yal,yak,c1,c2,c3,beq_self_eq_true,eY,p2V,i1,i2,i4,iNq,bD,d1,fm]
 (repeat with_reducible refine Yq ?_)
 exact Z0):p:=h
theorem Y51 {p:Prop} (h:p:=by
 rw [hs,if_neg (by simp)] at x2
 rw [← x2,aP] at hK
 simp only [go_sem,hfree,f1,f2,hgi,hgt',hsi,hst,aL,aI,aP,aO,bq,aN,aW,hne,ne_eq,hne',hl5,iNq,aY,aX,i1,Int.reduceLE,eq_self,nFq,Bool.not_true,Bool.not_false,Bool.true_and,Bool.false_and,lAq,yaz,yba,nzq,x3,hs,if_false]
 exact cA hK (hnx _ _) (lRq _) (hcl2 _ _ _)):p:=h
theorem Y52 {p:Prop} (h:p:=by
 simp only [lAq,yaz,yba,nzq] at hc3 ⊢
 refine ⟨by omega,?_⟩
 exact Z32):p:=h
theorem Y53 {p:Prop} (h:p:=by
 simp only [bnq,enter,gA,ltF,ne_eq,Nat.reduceEqDiff,reduceCtorEq]
 exact .inl rfl):p:=h
theorem Y54 {p:Prop} (h:p:=by
 have h2':k=b.length:=by simp at h2;omega
 subst h2'
 rw [List.drop_length] at hl2
 simp only [fB] at hl2
 simp only [go_sem,byq]
 refine au (fun h3=>?_) (fun h3=>?_)
 ·have hbn:b=[]:=by simpa using h3
  simp only [go_sem,byq,if_pos hbn,uI,z0]
  exact Z0
 ·have hbn:b≠[]:=by simpa using h3
  simp only [go_sem,byq,if_neg hbn,uI,hl2,nAV]
  exact Z0):p:=h
theorem Y55 {p:Prop} (h:p:=by
 refine ⟨⟨by rw [cM,hLl],by rw [cM];omega,by rw [cM];omega,fun z hz=>?_⟩,k+1,by omega,by omega,?_⟩
 ·rw [List.mem_singleton.1 hz];rfl
 simp only [hfo,cM,hLl,e5]
 exact Z52):p:=h
theorem Y56 {p:Prop} (h:p:=by
 obtain ⟨m1,m2⟩:=h _ _ _ _ e hg trivial (by omega);exact ⟨m1,by omega⟩):p:=h
theorem Y57 {p:Prop} (h:p:=by
 refine ⟨t,vs,⟨rfl,rfl,hot,hov⟩,?_⟩
 by_cases hch:(chk (bV vs) t).2=0
 ·have d4:((((chk (bV vs) t).2:Nat):Int) != 0)=false:=by rw [hch];rfl
  rw [if_neg (fun h=>h hch)]
  simp only [go_sem,d4]
  exact Z45
 ·have d4:((((chk (bV vs) t).2:Nat):Int) != 0)=true:=bne_iff_ne.2 (by omega)
  rw [if_pos hch]
  simp only [go_sem,d4]
  exact Z46):p:=h
theorem Y58 {p:Prop} (h:p:=by
 have:=iT (m:=m) (n:=gr m k)
 rw [hp] at this
 rw [hu] at this ⊢
 dsimp only at this
 first|exact this|simpa using this):p:=h
theorem Y59 {p:Prop} (h:p:=by
 clear hlt
 have hcs:=ay hg
 have hl:=glq hg
 have hne:(c=H.nx)=False:=eq_false (by omega)
 simp only [go_sem,hcs,hne]
 (repeat with_reducible refine Yq ?_)
 exact Z0):p:=h
theorem Y60 {p:Prop} (h:p:=by
 simp only [go_sem,hkg,bR,iNq,g1,ay g1,g2,ay g2,g3,r1,r2,r3,r4,r5,r6,r7,r8,r9,r10,r11,r12,if_false,d1,ybb,e5,c1,c2,c3,c4,cH,vv,aC]
 refine ⟨(k+1,Hc),⟨by dsimp only;omega,hle,hcc,g1,g2,by dsimp only;rw [hrow];exact g3⟩,by dsimp only;omega,?_⟩
 have hnn:H.nx≤Hc.nx:=by omega
 dsimp only
 simp only [hrow]
 exact Z60):p:=h
theorem Y61 {p:Prop} (h:p:=by
 simp only [lAq,yaz,yba,nzq] at hc3 ⊢
 exact Z34):p:=h
theorem Y62 {p:Prop} (h:p:=by
 simp only [Nat.add_assoc,Nat.reduceAdd] at i1 i2 i3 h1 h2
 simp only [eE,Nat.add_assoc,Nat.reduceAdd,hb,ci,h1,h2,if_true,if_false,pT]
 rw [i1]
 exact ⟨rfl,c,i2,i3⟩):p:=h
theorem Y63 {p:Prop} (h:p:=by
 simp only [lAq,yaz,yba,nzq,aP,nd2] at hK hc3
 exact cA hK (hnx _ _) (lRq _) hc3):p:=h
theorem Y64 {p:Prop} (h:p:=by
 refine ⟨by omega,t,e,t[k].a,⟨rfl,rfl,rfl,by omega,hW,hT,hb,hfa⟩,?_⟩
 simp only [go_sem]
 refine ⟨t,e,t[k].b,⟨rfl,rfl,rfl,by omega,hW,hT,hb,hfb⟩,?_⟩
 simp only [go_sem]
 refine ⟨(val e t t[k].a).num,(val e t t[k].b).num,⟨rfl,rfl,hsm (by omega),hsm (by omega)⟩,?_⟩
 simp only [go_sem,zAV]
 exact Z0):p:=h
theorem Y65 {p:Prop} (h:p:=by
 rw [if_neg (Nat.not_lt.2 hf)] at hl2
 have hv:mT z=.tup [.agg [.int .u64 0,.int .u64 0],.bool false]:=by unfold mT;rw [if_neg (by omega)]
 simp only [go_sem,byq,en,nAV,lC]
 refine ⟨z,⟨rfl,hN⟩,?_⟩
 have hbn:b≠[]:=by intro h;subst h;simp at h2'
 simp only [go_sem,byq,zat,hv,hl2,if_neg hbn,uI,z0]
 exact Z0):p:=h
theorem Y66 {p:Prop} (h:p:=by
 simp only [bp,aM,bhq,Nat.reduceMod,Nat.reduceDiv,aD,aE,aF,bf,aG,bc,aZ,bb,a9,yaq,yar,yao,yap,go_sem]
 exact Z0):p:=h
theorem Y67 {p:Prop} (h:p:=by
 simp only [lAq,yaz,yba,nzq] at hK' hc3
 exact cA hK' (hnx _ _) (lRq _) hc3):p:=h
theorem Y68 {p:Prop} (h:p:=by
 rw [hkt];simp [aU,iy,eL,dK,hkd,iH,qS,lX,lY,hpres,]):p:=h
theorem Y69 {p:Prop} (h:p:=by
 obtain ⟨b1,b2⟩:=nD (q:=q) (l:=l) (k:=0)
 rcases b2 with b2|b2
 ·exact .inl ⟨b2,kq b2⟩
 ·obtain ⟨i,hi⟩:∃ i:Nat,ixP q l 0=((0+i:Nat):Int):=⟨(ixP q l 0).toNat,by omega⟩
  obtain ⟨x,h1,h2,h3⟩:=kT hi
  rw [nzq] at hi
  exact .inr ⟨i,x,hi,by omega,h1,h3,h2⟩):p:=h
theorem Y70 {p:Prop} (h:p:=by
 simp only [bnq,enter,gA,ltF,ne_eq,Nat.reduceEqDiff,reduceCtorEq,e,true_or,and_true]
 all_goals rfl):p:=h
theorem Y71 {p:Prop} (h:p:=by
 simp only [bp,aM,bhq,Nat.reduceMod,Nat.reduceDiv,aD,aE,aF,bf,aG,bc,aZ,bb,a9,yaq,yar,yao,yap,go_sem,c1,c2,c3,b1,b2,b3,b4,b5,b6,b7,b8]
 exact Z0):p:=h
theorem Y72 {p:Prop} (h:p:=by
 rw [d2]
 refine ACalls.fW ax (tCq cj (tCq eo (tCq cl tNq))) Tryz.func79 [.tmp 8] (nrq _) (T:=av [(8,[[],[],[0,1],[],[],[],[0,1,2,4,5]]),(10,[[],[],[],[0,2]])]) (h:=fun hcl hlt=>?_)
 clear hlt
 simp only [go_sem,bE,vc,yal,yak,d1]
 exact Z0):p:=h
theorem Y73 {p:Prop} (h:p:=by
 simp only [go_sem,hi,Int.reduceBEq,gU,iE,jF,jE,zif,eH,eI,Mv.bo]
 refine ⟨z,rfl,?_⟩
 exact Z0):p:=h
theorem Y74 {p:Prop} (h:p:=by
 exact cA hK (hnx _ _) (lRq _) (hcl2 _ _ _)):p:=h
theorem Y75 {p:Prop} (h:p:=by
 refine ⟨by omega,t,e,t[k].a,⟨rfl,rfl,rfl,by omega,by omega,hW,hT,hb,hB,hfa⟩,?_⟩
 simp only [go_sem]
 refine ⟨fun hx1=>?_,fun hx1=>⟨t,e,t[k].b,⟨rfl,rfl,rfl,by omega,by omega,hW,hT,hb,hB,hfb⟩,?_⟩⟩
 ·exact Z54
 ·simp only [go_sem]
  exact Z54):p:=h
theorem Y76 {p:Prop} (h:p:=by
 have d:decide ((-1:Int)<0)=true:=rfl
 simp only [aM,go_sem,d]
 exact Z0):p:=h
theorem Y77 {p:Prop} (h:p:=by
 refine ⟨fun hx=>?_,fun hx=>?_⟩<;>simp (disch:=first|exact Zd|omega) [↓zmk,beq,ybc,ybd,ybe,af,wk,wk2,wk1,wkM,wkL,aj,ybf,hcl,hx]):p:=h
theorem Y78 {p:Prop} (h:p:=by
 exact vS (t:=[]) hK hcl (((((lRq H).push _).push _).push _).push _) rfl rfl rfl):p:=h
theorem Y79 {p:Prop} (h:p:=by
 simp (disch:=first|exact Zd|omega) [↓zmk,beq,ybc,ybd,ybe,af,wk,wk2,wk1,wkM,wkL,aj,ybf,hcc,hle,hcl]
 exact (hle.push _).push _):p:=h
theorem Y80 {p:Prop} (h:p:=by
 simp only [iU,lAq,yaz,yba]
 repeat first|exact .refl _|refine .push ?_ _):p:=h
theorem Y81 {p:Prop} (h:p:=by
 simp only [go_sem,e]
 exact Z0):p:=h
theorem Y82 {p:Prop} (h:p:=by
 simp only [n6,if_false]
 refine ⟨⟨trivial,by omega,by omega,fun z hz=>by rw [List.mem_singleton.1 hz];rfl⟩,?_⟩
 rw [hsn]
 have hle3:=(bF hle (show H.nx≤(H.nx+1+1+1+1) by omega) (o:=.buf 4 (G.length+1))).push (.buf 4 1)
 exact Z56):p:=h
theorem Y83 {p:Prop} (h:p:=by
 have d3:decide (z<z)=false:=by simp
 refine Yfv ax tNq Tryz.func146 [.tmp 4] fun hcl hlt=>?_
 clear hlt
 simp only [go_sem,cF,cE,sx,sw,h.1,d1,d2,d3,decide_true,Bool.and_false,Bool.bne_false,Bool.and_true,Bool.true_and]
 exact Z0):p:=h
theorem Y84 {p:Prop} (h:p:=by
 unfold kH at hw2
 cases hge2:l[p+1+1]? with
 |none=>rw [hge2] at hw2;cases hw2
 |some v =>
  obtain ⟨k2,y2,z2⟩:=v
  rw [hge2] at hw2
  dsimp only at hw2 ⊢
  split at hw2
  ·rename_i hk;cases hw2;rw [if_pos hk]
  ·cases hw2):p:=h
theorem Y85 {p:Prop} (h:p:=by
 rw [hs,if_neg (by simp)] at x2
 cases x2
 simp only [go_sem,f1,f2,hgi,hgt',hsi,hst,bn,bA,bO,cW,co,cU,cq,cm,bN,bY,cb,bI,hne,ne_eq,hne',hl5,iNq,aY,aX,i1,Int.reduceLE,eq_self,nFq,x3,hs,if_false]
 exact Z25):p:=h
theorem Y86 {p:Prop} (h:p:=by
 rw [h,hL0]
 exact ae hclB (by simp [znq,znr,aS,gO])):p:=h
theorem Y87 {p:Prop} (h:p:=by
 rw [if_neg hs] at hop'
 have hs':isS l p so=false:=by simpa using hs
 simp only [go_sem,iNq,jh,hgo,bY,f1,hg,bn,hs',if_false,hp,hl,e5]
 refine ⟨by omega,i+1,⟨by omega,hop'⟩,by omega,?_⟩
 exact Z29):p:=h
theorem Y88 {p:Prop} (h:p:=by
 rw [gPq _ _ (by simp [AHeap.push,AHeap.set];omega),gPq _ _ (by simp [AHeap.push,AHeap.set];omega),gPq _ _ (by simp [AHeap.set];omega),AHeap.get_set_same _ _ hid2]):p:=h
theorem Y89 {p:Prop} (h:p:=by
 simp only [lAq,yaz,yba,nzq] at hc3 ⊢
 exact Z32):p:=h
theorem Y90 {p:Prop} (h:p:=by
 rcases Nat.lt_or_ge i S.fields.length with h|h
 ·exact h
 ·rw [gNq h] at h1;cases h1):p:=h
theorem Y91 {p:Prop} (h:p:=by
 clear hlt
 have hx:=isNum_cases.1 hn
 rcases (by omega:(n.op:Int)=1∨(n.op:Int)=3∨(n.op:Int)=4∨(n.op:Int)=6∨(n.op:Int)=7) with h|h|h|h|h <;>
 ·simp only [go_sem,kL,h,Int.reduceBEq]
  exact Z0):p:=h
theorem Y92 {p:Prop} (h:p:=by
 simp only [go_sem,aJ,c7 hk1,iNq,hkn,hrl,hgets _ ga,hgets _ gb,w1,zY,hen _ hz,e5]
 refine ⟨by omega,by omega,by omega,by omega,by omega,by omega,k+1,by omega,by omega,?_⟩
 exact Z36):p:=h
theorem Y93 {p:Prop} (h:p:=by
 unfold kH at hw2
 cases hge2:l[p+1+1]? with
 |none=>rfl
 |some v =>
  obtain ⟨k2,y,z2⟩:=v
  rw [hge2] at hw2
  dsimp only at hw2 ⊢
  split at hw2
  ·cases hw2
  ·rename_i hk;rw [if_neg hk]):p:=h
theorem Y94 {p:Prop} (h:p:=by
 obtain ⟨x,_,rfl⟩:=List.mem_map.1 hz;rfl):p:=h
theorem Y95 {p:Prop} (h:p:=by
 simp only [go_sem,f1,f2,hgi,hgt',hsi,hst,bn,bA,bO,cW,co,cU,cq,cm,bN,bY,cb,bI,hne,ne_eq,hne',hl5,iNq,aY,aX,i1,Int.reduceLE,eq_self,nFq]
 exact Z31):p:=h
theorem Y96 {p:Prop} (h:p:=by
 simp only [go_sem,iNq,bJ,BT,g1,g2,Nat.mul_one,nzq,fF,st,e0]
 (repeat with_reducible refine Yq ?_)
 refine ⟨i+1,by omega,by omega,?_⟩
 exact Z19):p:=h
theorem Y97 {p:Prop} (h:p:=by
 subst hR
 simp only [bp,aM,bhq,Nat.reduceMod,Nat.reduceDiv,aD,aE,aF,bf,aG,bc,aZ,bb,a9,yaq,yar,yao,yap,go_sem,dn1,dn2]
 try (repeat with_reducible refine Yq ?_)
 exact Z0):p:=h
theorem Y98 {p:Prop} (h:p:=by
 simp only [go_sem,oD,e,et,bJ,eS,b3,u3,vv]
 (repeat with_reducible refine Yq ?_)
 exact Z0):p:=h
theorem Y99 {p:Prop} (h:p:=by
 try simp only [aM,go_sem]
 exact Z0):p:=h
theorem Y100 {p:Prop} (h:p:=by
 simp only [lM,lAq,yaz,yba]
 repeat first|exact .refl _|refine .push ?_ _):p:=h
theorem Y101 {p:Prop} (h:p:=by
 refine Yfv ax tNq Tryz.func146 [.tmp 4] fun hcl hlt=>?_
 clear hlt
 simp only [go_sem,cF,cE,sx,sw,d1,d2,Bool.false_and,Bool.bne_false,Bool.and_true]
 exact Z0):p:=h
theorem Y102 {p:Prop} (h:p:=by
 simp only [go_sem,iNq,AA,Nat.mul_one,nzq,fF,st,e0]
 (repeat with_reducible refine Yq ?_)
 refine ⟨i+1,by omega,by omega,?_⟩
 exact Z19):p:=h
theorem Y103 {p:Prop} (h:p:=by
 exact ⟨Nat.le_succ _,Nat.le_succ _,fun x hx=>.inr (.inr ⟨x,hx,rfl⟩),.inr rfl⟩):p:=h
theorem Y104 {p:Prop} (h:p:=by
 exact ⟨.nil,1,by rw [h],.inr (List.map_eq_nil_iff.1 h)⟩):p:=h
theorem Y105 {p:Prop} (h:p:=by
 dsimp only
 rw [gPq _ _ (by simp only [zla];omega),gPq _ _ (by simp only [zla];omega),gPq _ _ (by omega)];exact g2):p:=h
theorem Y106 {p:Prop} (h:p:=by
 dsimp only
 rw [gPq _ _ (by simp only [zla];omega),gPq _ _ (by simp only [zla];omega),gPq _ _ (by omega)];exact g1):p:=h
theorem Y107 {p:Prop} (h:p:=by
 dsimp only
 rw [gPq _ _ (by simp only [zla];omega),gPq _ _ (by simp only [zla];omega),gPq _ _ (by omega),g3];simp):p:=h
theorem Y108 {p:Prop} (h:p:=by
 rcases (by omega:cv b (u+1) 5=0∨cv b (u+1) 5=1∨cv b (u+1) 5=2∨cv b (u+1) 5=3∨cv b (u+1) 5=4) with e|e|e|e|e<;>rw [e]<;>simp only [yau,yav]<;>omega):p:=h
theorem Y109 {p:Prop} (h:p:=by
 simp only [go_sem,aJ,c7 hk2,iNq,e6,d1,d2,k7]
 refine ⟨by omega,t[t.length - 1].op,⟨rfl,g1,g2⟩,?_⟩
 simp only [go_sem,d2]
 exact Z41):p:=h
theorem Y110 {p:Prop} (h:p:=by
 obtain ⟨h1,h2,h3,h4,h5,h6,h7⟩:=h
 have htb:=glq h2
 refine ⟨h1,?_,ht,hp,h5,h6,hg⟩
 rw [aB,if_pos rfl,if_pos (by simpa [zlb] using htb)]):p:=h
theorem Y111 {p:Prop} (h:p:=by
 rw [Nat.add_zero]
 rcases (by omega:cv b (u+1) 5=0∨cv b (u+1) 5=1∨cv b (u+1) 5=2∨cv b (u+1) 5=3∨cv b (u+1) 5=4) with e|e|e|e|e<;>rw [e]<;>rfl):p:=h
theorem Y112 {p:Prop} (h:p:=by
 refine ⟨by omega,by omega,?_⟩
 exact Z0):p:=h
theorem Y113 {p:Prop} (h:p:=by
 refine ⟨fun hx=>?_,fun hx=>⟨w,rfl,?_⟩⟩<;>simp (disch:=first|exact Zd|omega) [↓zmk,beq,ybc,ybd,ybe,af,wk,wk2,wk1,wkM,wkL,aj,ybf,hcl,hx]):p:=h
theorem Y114 {p:Prop} (h:p:=by
 refine Yfv ax tNq Tryz.func148 [.tmp 2] fun hcl hlt=>?_
 clear hlt
 simp only [go_sem,h3]
 (repeat with_reducible refine Yq ?_)
 exact Z0):p:=h
theorem Y115 {p:Prop} (h:p:=by
 cases h;exact hg.snoc ⟨Nat.zero_le _,Nat.zero_le _,fun _=>⟨rfl,rfl⟩⟩):p:=h
theorem Y116 {p:Prop} (h:p:=by
 simp [ltF,iU,znj,znb,zla,zlb,bw cZ]
 omega):p:=h
theorem Y117 {p:Prop} (h:p:=by
 have:=h _ _ _ _ e hg trivial hp;exact this):p:=h
theorem Y118 {p:Prop} (h:p:=by
 rw [wrap_i64 (by omega) (by omega)]):p:=h
theorem Y119 {p:Prop} (h:p:=by
 simp only [bp,aM,bhq,Nat.reduceMod,Nat.reduceDiv,aD,aE,aF,bf,aG,bc,aZ,bb,a9,yaq,yar,yao,yap,go_sem,c1,b1,b2,b3,b4,b5,b6,b7,b8]
 exact Z0):p:=h
theorem Y120 {p:Prop} (h:p:=by
 simp (disch:=first|exact Zd|omega) [↓zmk,beq,ybc,ybd,ybe,af,wk,wk2,wk1,wkM,wkL,aj,ybf,hcc,hle,hcl]
 exact ((hle.push _).push _).push _):p:=h
theorem Y121 {p:Prop} (h:p:=by
 exact ⟨Int.emod_nonneg _ (by omega),Int.emod_lt_of_pos _ (by omega)⟩):p:=h
theorem Y122 {p:Prop} (h:p:=by
 simp only [AHeap.set,AHeap.del]
 congr 1
 funext k
 by_cases h1:k=j
 ·simp [h1]
 ·by_cases h2:k=i
  ·simp [h1,h2]
  ·simp [h1,h2]):p:=h
theorem Y123 {p:Prop} (h:p:=by
 exact ag (ae (aa hcc) (by simp [znq,znr,znb,znd]))):p:=h
theorem Y124 {p:Prop} (h:p:=by
 simp only [go_sem,IW,m1,m2,m3,e1,e2,e3,z1,z2,s2]
 refine ⟨by omega,by omega,by omega,by omega,by omega,?_⟩
 rw [e4,w]
 exact Z0):p:=h
theorem Y125 {p:Prop} (h:p:=by
 cases hr;exact ⟨hro,hp,by omega,by simp [Rl.isL],hg,nrq _⟩):p:=h
theorem Y126 {p:Prop} (h:p:=by
 have h1':400<s.length:=by simp at h1;omega
 have e:ct s=([],0,3):=by unfold ct;rw [if_pos h1']
 simp only [go_sem,e,fS]
 exact Z16):p:=h
theorem Y127 {p:Prop} (h:p:=by
 rename_i hc;rw [if_pos hc];exact h1 (h _ _ _) (fun a p t r h2=>h2) hr):p:=h
theorem Y128 {p:Prop} (h:p:=by
 simp [ltF,znj,znl,znb,znd,aS,znq,znr,zlb]
 omega):p:=h
theorem Y129 {p:Prop} (h:p:=by
 rw [hkt];simp [aU,iy,eL,dK,hkd,iH,qS,lX,lY,cu,]):p:=h
theorem Y130 {p:Prop} (h:p:=by
 exact AHeap.get_push_new _ _):p:=h
theorem Y131 {p:Prop} (h:p:=by
 have hk1:s.length≤k:=by simp at h2;omega
 rw [Ch hk1,yaj] at hr
 have hsc:=yZ h1' hr
 simp only [go_sem,hsc]
 exact Z18):p:=h
theorem Y132 {p:Prop} (h:p:=by
 have h1:=AV.lt_mono hn _ (hlt (.agg [a1,a2,.slice m 2 (ps.map bS),a3,a4]) (by simp))
 rw [znn] at h1;exact h1.2.2.1):p:=h
theorem Y133 {p:Prop} (h:p:=by
 simp only [go_sem,biq,ah,e3,e5,jV,← nv]
 refine ⟨⟨by omega,by omega⟩,k+1,by omega,by omega,?_⟩
 exact Z2):p:=h
theorem Y134 {p:Prop} (h:p:=by
 have hk1:k=15:=by simp at h1;omega
 subst hk1
 have h0:k9 s=[]:=by rw [hs];rfl
 simp only [go_sem,h0]
 exact Z0):p:=h
theorem Y135 {p:Prop} (h:p:=by
 obtain ⟨a1,p1,t1,e1,e2⟩:=cy hr
 exact h _ _ _ _ _ _ e2 ((h _ _ _ _ _ _ e1 hg).snoc (h2 _ _ _ (by decide)))):p:=h
theorem Y136 {p:Prop} (h:p:=by
 rw [hi]
 simp only [aM,go_sem,d,iNq,hg',bX,ybb]
 (repeat with_reducible refine Yq ?_)
 exact Z0):p:=h
theorem Y137 {p:Prop} (h:p:=by
 simp [ltF,lM,znj,znb,zla,zlb,bw vr]
 omega):p:=h
theorem Y138 {p:Prop} (h:p:=by
 exact leaf _ _ (show 1≤3 by decide) (nrq 3) (show (0:Nat)<2^128 by decide) (by omega) (by omega)):p:=h
theorem Y139 {p:Prop} (h:p:=by
 refine ⟨k+1,⟨by omega,hs⟩,by omega,?_⟩
 exact Z15):p:=h
theorem Y140 {p:Prop} (h:p:=by
 refine ⟨j+1,⟨by omega,hq⟩,by omega,?_⟩
 exact Z42):p:=h
theorem Y141 {p:Prop} (h:p:=by
 have d3:((e:Int) != 0)=true:=bne_iff_ne.2 (by omega)
 rw [if_pos he]
 simp only [go_sem,d3]
 exact Z46):p:=h
theorem Y142 {p:Prop} (h:p:=by
 obtain ⟨a1,p1,t1,e1,e2⟩:=cy hr
 cases e2
 exact (h _ _ _ _ _ _ e1 hg).snoc (h2 _ _ _ (by decide))):p:=h
theorem Y143 {p:Prop} (h:p:=by
 have:n.natAbs=dv l:=by rw [hn,h2'];simp
 rw [← this,pn]
 show zAV _=zAV n
 congr 1
 simp [hs];omega):p:=h
theorem Y144 {p:Prop} (h:p:=by
 simp [znq,znr,aS,gO,hnB,pq]):p:=h
theorem Y145 {p:Prop} (h:p:=by
 change af (H.set id (rst m l (p+1) true tb t)) _ (H.set id (rst m l (p+1) true tb t)) _
 exact Z27):p:=h
theorem Y146 {p:Prop} (h:p:=by
 rcases Nat.lt_or_ge i t.length with h|h
 ·exact h
 ·rw [gNq h] at hi;cases hi):p:=h
theorem Y147 {p:Prop} (h:p:=by
 simp only [bnq,enter,gA,ltF,ne_eq,Nat.reduceEqDiff,reduceCtorEq,true_or,and_true]
 all_goals rfl):p:=h
theorem Y148 {p:Prop} (h:p:=by
 rw [Bool.eq_iff_iff]
 simp only [Bool.and_eq_true,beq_iff_eq,decide_eq_true_eq,and_true]
 omega):p:=h
theorem Y149 {p:Prop} (h:p:=by
 simp only [go_sem,d1,d2,d3,d4,d5,gU,iE,jF,jE,zif,eH,eI,Mv.bo]
 refine ⟨z,rfl,?_⟩
 exact Z0):p:=h
theorem Y150 {p:Prop} (h:p:=by
 rw [List.take_succ_eq_append_getElem (by rw [hkb];exact hj1)]
 congr 1
 subst hV
 simp [eL,eO]):p:=h
theorem Y151 {p:Prop} (h:p:=by
 exact ⟨by simp [i1],fun m hm'=>(List.mem_cons.1 hm').elim (fun e=>e ▸ hm) (i2 m),i3,i4⟩):p:=h
theorem Y152 {p:Prop} (h:p:=by
 rw [jK s _ (fun j=>decide (j<i+1)) i (fun j hj=>by rw [decide_eq_decide];omega) (by simp)]):p:=h
theorem Y153 {p:Prop} (h:p:=by
 simp only [go_sem,e5]
 refine ⟨k+1,⟨by omega,yU hk1 h2 hs⟩,by omega,?_⟩
 exact Z1):p:=h
theorem Y154 {p:Prop} (h:p:=by
 cases hr;exact ⟨List.prefix_refl _,hs.1,hs.2⟩):p:=h
theorem Y155 {p:Prop} (h:p:=by
 rw [gEq,gQq hmi]
 exact gMq hmi):p:=h
theorem Y156 {p:Prop} (h:p:=by
 simp only [go_sem,byq,biq,ah,zAV,en,e3]
 refine ⟨j,by omega,by omega,?_⟩
 exact Z8):p:=h
theorem Y157 {p:Prop} (h:p:=by
 rw [mY h1];congr 1;simp only [AHeap.set];congr 1;funext k;by_cases hk:k=id<;>simp [hk]):p:=h
theorem Y158 {p:Prop} (h:p:=by
 by_cases hc:l.length<20
 ·exact hc
 ·rw [show 20 - l.length=0 by omega] at hm;omega):p:=h
theorem Y159 {p:Prop} (h:p:=by
 rw [Bool.eq_iff_iff];simp only [Bool.and_eq_true,beq_iff_eq,decide_eq_true_eq];omega):p:=h
theorem Y160 {p:Prop} (h:p:=by
 rw [dfq hn,if_neg (by simp)];omega):p:=h
theorem Y161 {p:Prop} (h:p:=by
 refine ⟨(j+1,r),⟨by dsimp only;omega,hq⟩,by dsimp only;omega,?_⟩
 exact Z38):p:=h
theorem Y162 {p:Prop} (h:p:=by
 exact Int.fdiv_eq_ediv_of_nonneg _ (by decide)):p:=h
theorem Y163 {p:Prop} (h:p:=by
 rw [AV.lt]
 exact ⟨fun id e=>(by cases e),fun j hj=>h _ (gMq hj)⟩):p:=h
theorem Y164 {p:Prop} (h:p:=by
 exact nO _ _ _ _ (by rw [List.length_drop];omega) (by rw [List.length_drop];omega)):p:=h
theorem Y165 {p:Prop} (h:p:=by
 have h1':k=n:=by simp at h1;omega
 subst h1'
 simp only [go_sem,biq,ah]
 exact Z0):p:=h
theorem Y166 {p:Prop} (h:p:=by
 rename_i hc;rw [if_pos hc];exact h1 (h _ _ _) (fun a p t r h2=>h _ _ _ _ h2) hr):p:=h
theorem Y167 {p:Prop} (h:p:=by
 exact ⟨Nat.le_succ _,by simp,fun x hx=>.inr (.inr ⟨x,hx,rfl⟩),.inr rfl⟩):p:=h
theorem Y168 {p:Prop} (h:p:=by
 obtain ⟨m1,m2⟩:=h _ _ _ _ e3 k5 trivial (by omega);exact ⟨m1,by omega⟩):p:=h
theorem Y169 {p:Prop} (h:p:=by
 have:=@iW fs keys ms k
 rw [← hLL,lAq,List.length_take];omega):p:=h
theorem Y170 {p:Prop} (h:p:=by
 rw [yaz] at hy2 ⊢
 rw [wrap_i64]<;>omega):p:=h
theorem Y171 {p:Prop} (h:p:=by
 have:=eR (b:=b) (v:=u) (n:=256) (by decide)
 rw [cV (by omega) (by omega)]):p:=h
theorem Y172 {p:Prop} (h:p:=by
 rw [decide_eq_decide];exact ⟨fun h=>h.1,fun h=>⟨h,fun g=>p1 g.1⟩⟩):p:=h
theorem Y173 {p:Prop} (h:p:=by
 refine ⟨(k+1,n*16+dg c),⟨by omega,hf,hl2⟩,by omega,?_⟩
 exact Z11):p:=h
theorem Y174 {p:Prop} (h:p:=by
 exact leaf _ _ (by decide) (by decide) (by decide) (by omega) (by omega)):p:=h
end Go.AL
