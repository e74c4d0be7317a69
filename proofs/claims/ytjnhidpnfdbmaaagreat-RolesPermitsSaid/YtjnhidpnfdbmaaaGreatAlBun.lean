/- Lemmas of the proof; no condition. -/
import Derived.Test.YtjnhidpnfdbmaaaGreatAlByte
import Derived.Laws.Externs
set_option linter.all false
set_option linter.unusedSectionVars false
namespace Go.AL
def cU(l:List Nat):List AV:=l.map fun(d:Nat)=>.int .i64 (d:Int)
def Lw(x:AV):Nat:=match x with|.int _ n=>n.toNat|_=>0
def uni(l:List AV):List Nat:=l.map Lw
def isI(l:List AV):Prop:=l=cU (uni l)
theorem eB{l:List Nat}:(cU l).length=l.length:=by simp[cU]
theorem fG:cU []=[]:=rfl
theorem zI{l:List Nat}{n:Nat}:(cU l).take n=cU (l.take n):=by simp[cU]
theorem zY{l:List Nat}{n:Nat}:(cU l).drop n=cU (l.drop n):=by simp[cU]
theorem vV{l m:List Nat}:cU l++cU m=cU (l++m):=by simp[cU]
theorem zS{l:List Nat}{n:Nat}:cU l++[AV.int .i64 (n:Int)]=cU (l++[n]):=by simp[cU]
theorem D5{k:IntKind}{n:Int}:(∀ z∈[AV.int k n],bG z.cells=true)=True:=eq_true fun z hz=>by
 simp at hz;subst hz;rfl
theorem gT{l:List Nat}:uni (cU l)=l:=by
 unfold uni cU
 rw[List.map_map]
 have:(Lw∘fun d=>AV.int .i64 ((d:Nat):Int))=id:=funext fun d=>by simp[Lw]
 rw[this,List.map_id]
theorem Gl:uni []=[]:=rfl
theorem yG{l:List Nat}:isI (cU l)=True:=eq_true (by show cU l=cU (uni (cU l));rw[gT])
theorem GP:isI []=True:=eq_true rfl
theorem Nu{l:List AV}(h:isI l):∃ xs,l=cU xs:=⟨_,h⟩
theorem Df{l m:List Nat}:(cU l=cU m)=(l=m):=propext ⟨fun h=>by have:=congrArg uni h;rwa[gT,gT]at this,fun h=>by rw[h]⟩
theorem mu{l:List Nat}{i:Nat}(h:i<l.length):(cU l).getD i .junk=.int .i64 (l.getD i 0:Nat):=by
 simp[cU,List.getD_eq_getElem?_getD,h]
theorem Aw{l:List Nat}:(∀ z∈cU l,bG z.cells=true)=True:=eq_true fun z hz=>by
 obtain⟨b,_,rfl⟩:=List.mem_map.1 hz
 rfl
theorem zmm{n:Nat}{m:Mark}{l:List Nat}:(AV.slice m 1 (cU l)).lt n=∀ id,m=.own id→id<n:=by
 rw[AV.lt]
 refine propext ⟨fun h=>h.1,fun h=>⟨h,fun j hj=>?_⟩⟩
 simp only[cU,List.getElem_map]
 rw[AV.lt]<;>simp
theorem v4{l:List Nat}:(cU l=[])=(l=[]):=by cases l<;>simp[cU]
theorem jv{l:List Nat}{i:Nat}(h:i<l.length):((cU l).getD i .junk).cells=[.int .i64 (l.getD i 0:Nat)]:=by rw[mu h];rfl
theorem Id{w:World}{γ:bU}{H:AHeap}{k:IntKind}{x y z:Int}{vs:Array Value}(h:RelA w γ H [.int k x,.int k y,.int k z] vs):vs=#[.int k x,.int k y,.int k z]:=by
 obtain⟨h1,h2⟩:=h
 have h1':vs.size=3:=h1
 obtain⟨u0,e0,r0⟩:=h2 0 Xb
 obtain⟨u1,e1,r1⟩:=h2 1 Xb
 obtain⟨u2,e2,r2⟩:=h2 2 Xb
 simp only[List.getElem_cons_zero,List.getElem_cons_succ]at r0 r1 r2
 rw[Rel]at r0 r1 r2
 subst r0 r1 r2
 obtain⟨l⟩:=vs
 match l,h1' with
 |[a,b,c],_=>simp at e0 e1 e2;simp[e0,e1,e2]
theorem BQ {P : Program} {f : FuncId} {fn : Func} (hf : P.funcs[f]? = some fn) (hname : (fn.name == "runtime.NumGoroutine") = false) (hb : fn.body.isNone = true) (hn : Extern.findNext fn = none)
 (he:Extern.find fn=some add64Entry) {x y c:Int} (hx:0≤x) (hy:0≤y) (hc0:0≤c) (hc:c≤1) {H:AHeap} :
 ACalls P f [.int .u64 x,.int .u64 y,.int .u64 c] H (.ret (.tup [.int .u64 ((x+y+c)%18446744073709551616),.int .u64 ((x+y+c)/18446744073709551616)])) H:=by
 intro w γ vs hs hr
 rw[Id hr,run_callFunc_extern hf hname hb hn he,run_add64 x y c hx hy hc0 hc]
 refine⟨γ,hs,Ext.refl _ _ _,?_⟩
 show Rel w γ H _ _
 rw[Rel]
 refine⟨_,rfl,rfl,fun j hj=>?_⟩
 match j,hj with
 |0,_=>exact⟨_,rfl,by simp only[List.getElem_cons_zero];rw[Rel];rfl⟩
 |1,_=>exact⟨_,rfl,by simp only[List.getElem_cons_zero,List.getElem_cons_succ];rw[Rel];rfl⟩
end Go.AL
open Go Go.AL
namespace Go.AL
theorem byq:(type_of% @zlk)∧(type_of% @zll)∧(type_of% @zlm)∧(type_of% @zln)∧(type_of% @zlo)∧(type_of% @zlp)∧(type_of% @zlq)∧(type_of% @zlr)∧(type_of% @zls)∧(type_of% @zlt)∧(type_of% @zlu)∧(type_of% @zlv)∧(type_of% @zlw)∧(type_of% @zlx)∧(type_of% @zly)∧(type_of% @zlz)∧(type_of% @zma)∧(type_of% @zmb)∧(type_of% @zmc)∧(type_of% @zmd)∧(type_of% @zme)∧(type_of% @Int.toNat_natCast) :=
 ⟨@zlk,@zll,@zlm,@zln,@zlo,@zlp,@zlq,@zlr,@zls,@zlt,@zlu,@zlv,@zlw,@zlx,@zly,@zlz,@zma,@zmb,@zmc,@zmd,@zme,@Int.toNat_natCast⟩
theorem beq:(type_of% @zmf)∧(type_of% @zmg)∧(type_of% @zmh)∧(type_of% @zmi)∧(type_of% @zmj)∧(type_of% @zmk)∧(type_of% @zml)∧(type_of% @zmm)∧(type_of% @zmn)∧(type_of% @zmp)∧(type_of% @zmq)∧(type_of% @zmr)∧(type_of% @zms)∧(type_of% @zmt)∧(type_of% @zmu)∧(type_of% @zlg)∧(type_of% @zle)∧(type_of% @zlf)∧(type_of% @zmv)∧(type_of% @zmw)∧(type_of% @zmx)∧(type_of% @zmy)∧(type_of% @zmz)∧(type_of% @zna)∧(type_of% @znb)∧(type_of% @znc)∧(type_of% @znd)∧(type_of% @zne)∧(type_of% @znf)∧(type_of% @zng)∧(type_of% @znh)∧(type_of% @zni)∧(type_of% @znj)∧(type_of% @znk)∧(type_of% @znl)∧(type_of% @znm)∧(type_of% @znn)∧(type_of% @zno)∧(type_of% @znp)∧(type_of% @znq)∧(type_of% @znr)∧(type_of% @zns)∧(type_of% @znt)∧(type_of% @znu)∧(type_of% @znv)∧(type_of% @znw)∧(type_of% @znx)∧(type_of% @zny)∧(type_of% @SV)∧(type_of% @znz)∧(type_of% @zoa)∧(type_of% @zob)∧(type_of% @zoc)∧(type_of% @zOd)∧(type_of% @zoe)∧(type_of% @zof)∧(type_of% @zog)∧(type_of% @zoh)∧(type_of% @zoi)∧(type_of% @zoj) :=
 ⟨@zmf,@zmg,@zmh,@zmi,@zmj,@zmk,@zml,@zmm,@zmn,@zmp,@zmq,@zmr,@zms,@zmt,@zmu,@zlg,@zle,@zlf,@zmv,@zmw,@zmx,@zmy,@zmz,@zna,@znb,@znc,@znd,@zne,@znf,@zng,@znh,@zni,@znj,@znk,@znl,@znm,@znn,@zno,@znp,@znq,@znr,@zns,@znt,@znu,@znv,@znw,@znx,@zny,@SV,@znz,@zoa,@zob,@zoc,@zOd,@zoe,@zof,@zog,@zoh,@zoi,@zoj⟩
theorem bnq:(type_of% @zok)∧(type_of% @zgo)∧(type_of% @zgp)∧(type_of% @zkv)∧(type_of% @zkq)∧(type_of% @not_false_eq_true)∧(type_of% @true_and)∧(type_of% @and_true) :=
 ⟨@zok,@zgo,@zgp,@zkv,@zkq,@not_false_eq_true,@true_and,@and_true⟩
theorem biq:(type_of% @eB)∧(type_of% @Aw)∧(type_of% @zS)∧(type_of% @D5)∧(type_of% @vV)∧(type_of% @zI)∧(type_of% @zY)∧(type_of% @yG)∧(type_of% @gT)∧(type_of% @fG)∧(type_of% @GP)∧(type_of% @Gl)∧(type_of% @Df)∧(type_of% @v4)∧(type_of% @Int.toNat_natCast) :=
 ⟨@eB,@Aw,@zS,@D5,@vV,@zI,@zY,@yG,@gT,@fG,@GP,@Gl,@Df,@v4,@Int.toNat_natCast⟩
theorem bhq:(type_of% @ir)∧(type_of% @Af)∧(type_of% @Dg)∧(type_of% @DD)∧(type_of% @Gg)∧(type_of% @true_and) :=
 ⟨@ir,@Af,@Dg,@DD,@Gg,@true_and⟩
theorem bkq:(type_of% @zok)∧(type_of% @zgo)∧(type_of% @zgp)∧(type_of% @zkv)∧(type_of% @zkq)∧(type_of% @not_false_eq_true)∧(type_of% @true_and)∧(type_of% @and_true) :=
 ⟨@zok,@zgo,@zgp,@zkv,@zkq,@not_false_eq_true,@true_and,@and_true⟩
attribute [go_sem ↓] zaa zab zac zad zae zag zah zai zaj zak zal zam zan zao zap zaq zar Ti SX zas zaw zax zay zaz zba zbb zbc zbd zbe zbf zbg zbh zbi zbj zbk zbl zbm zbn zbo zbp zbu zbv zbw zbx zby zbz zca zcb zcc zcd zce zcf zcg zch zci zcj zck zcl zcm zcn zco zcp zcq zcr zcs zct zcu zcv zcw zcx zcy zcz zda zdb zdc zdd zde zdf zdg zdh zdi zdj zdk zdl zdm zdn zdo zdp zdq zdr zds zdt zdu zdv zdw zdx zdy zdz zel zem zfc zfd zfe zfm zfn zfp zfq zfx zfy zge zgf zgg zgh zgi zgj zgk zgl zgm zgn zgo zgp zol zom zon zoo zop zoq zor zos zot FX zou
attribute [go_sem] zaf zat zau zbq zbr zbs zbt zea zeb zec zed zee zef RL zeg zeh zei zej zek zen zeo zep zeq zer S1 zes zet S2 zeu zev zew zex zey zez zfa List.tail_nil List.tail_cons List.headD_nil List.headD_cons zfb zff zfg zfh zfi zfj zfk zfl zfo zfr zfs zft zfu zfv zfw zfz zga zgb zgc zgd ne_eq not_false_eq_true Nat.mul_one Nat.one_mul Nat.zero_mul Nat.zero_add Nat.add_zero zgq zgr zgs zgt zgu zgv zgw zgx zgy zgz zha zhb zhc zhd zhe zhf Bool.and_true Bool.and_self Nat.left_eq_add Nat.add_eq_left Nat.add_right_cancel_iff Nat.add_left_cancel_iff Nat.succ_ne_self Nat.one_ne_zero List.map_cons List.map_nil Option.map_some Option.map_none Option.elim_some if_true if_false true_and and_true true_or or_true false_or or_false Bool.false_eq_true Bool.true_eq_false Bool.not_true Bool.not_false List.append_nil List.nil_append zhg zhh zhi zhj zhk zhl zhm zhn zho zhp zhq zhr zhs zht zhu zhv zhw zhx zhy zhz zia zib zic zid zie zif zig zih zii zij rEq List.cons_append Tb SY Tj Ta S3 Te S5 S6 Th Tl Tf S9 Td Tm Tc Tk zik zil zim zin zio zip List.getElem?_cons_zero List.getElem?_cons_succ TD.agg List.drop_succ_cons List.drop_zero List.take_succ_cons List.take_zero List.take_nil List.drop_nil List.getD_cons_zero List.getD_cons_succ splice ziq zir zis Option.isSome_some Option.isSome_none List.getElem?_nil Nat.zero_lt_succ Nat.lt_add_one zit ziu HY rq Iv Jr rUn ziv ziw zix ziy zc ziz zja zjb zjc Hm zjd zje zjf zjg zjh zji zjj zjk zjl zjm zjn zjo zjp zjq zjr zjs zjt zju zjv zjw zjx lA zn I2 BK room List.length_cons List.length_nil zjy zjz zka zkb zkc zkd zke zkf zkg zkh zki zkj zkk zkl zkm zkn zko zkp zkq zkr zks zkt zku zkv zkw zkx zky zkz zla zlb zlc zld zle zlf zlg zlh zli zlj List.length_map tB
theorem bt:(type_of% @znu)∧(type_of% @znv)∧(type_of% @znf)∧(type_of% @zng)∧(type_of% @znh)∧(type_of% @zni)∧(type_of% @znk)∧(type_of% @znl)∧(type_of% @znj)∧(type_of% @znm)∧(type_of% @znn)∧(type_of% @zno)∧(type_of% @znp)∧(type_of% @znr)∧(type_of% @zns)∧(type_of% @znt)∧(type_of% @znq)∧(type_of% @zms)∧(type_of% @zmm)∧(type_of% @zmn)∧(type_of% @zle)∧(type_of% @zlf)∧(type_of% @ir) :=
 ⟨@znu,@znv,@znf,@zng,@znh,@zni,@znk,@znl,@znj,@znm,@znn,@zno,@znp,@znr,@zns,@znt,@znq,@zms,@zmm,@zmn,@zle,@zlf,@ir⟩
attribute [go_sem_proc] reduceCtorEq Nat.reduceEqDiff Nat.reduceAdd Nat.reduceMul Nat.reduceSub Nat.reduceLeDiff Nat.reduceLT Int.reduceMul Int.reduceAdd Int.reduceSub Int.reduceToNat Nat.reduceMod Nat.reduceDiv
attribute [go_sem] aD aE aG a8 aH aZ aW aX aY
theorem Zd{p:Prop}(h:p:=by first|assumption|omega|(simp;done)|(simp;omega)|(simp only[bt,and_true];first|done|omega|(simp;done))):p:=h
theorem Z0{p:Prop}(h:p:=by simp (disch:=first|exact Zd|omega) [↓zmo,beq,ybc,ybd,ybe,af,wk,wk2,wk1,wkM,wkL,aj,ybf,hcl]):p:=h
theorem Z1{p:Prop}(h:p:=by(simp only[bkq,enterW,aJ,ltF,ne_eq,Nat.reduceEqDiff,reduceCtorEq];try simp (disch:=first|exact Zd|omega) [↓zmo,beq,ybc,ybd,ybe,af,wk,wk2,wk1,wkM,wkL,aj,ybf,byq,biq,ah,hcl];try(repeat' (first|assumption|omega|exact True.intro|refine And.intro ?_ ?_|refine ag ?_|refine ae ?_|refine aa ?_ ?_|refine ai ?_ ?_|refine au ?_|exact AHeap.Le.refl _|refine AHeap.Le.push ?_ _|refine AHeap.Le.del ?_ ?_|(simp only[bt,and_true,true_and];first|done|omega|(simp;done)))))):p:=h
theorem Z2{p:Prop}(h:p:=by(simp only[bkq,enterW,aJ,ltF,ne_eq,Nat.reduceEqDiff,reduceCtorEq,h2'];try simp (disch:=first|exact Zd|omega) [↓zmo,beq,ybc,ybd,ybe,af,wk,wk2,wk1,wkM,wkL,aj,ybf,byq,biq,ah,hcl,h2'];try(repeat' (first|assumption|omega|exact True.intro|refine And.intro ?_ ?_|refine ag ?_|refine ae ?_|refine aa ?_ ?_|refine ai ?_ ?_|refine au ?_|exact AHeap.Le.refl _|refine AHeap.Le.push ?_ _|refine AHeap.Le.del ?_ ?_|(simp only[bt,and_true,true_and,h2'];first|done|omega|(simp;done)))))):p:=h
theorem Z3{p:Prop}(h:p:=by simp only[bnq,enter,gX,ltF,ne_eq,Nat.reduceEqDiff,reduceCtorEq,true_or,and_true]):p:=h
theorem Z4{p:Prop}(h:p:=by(simp only[bkq,enterW,aJ,ltF,ne_eq,Nat.reduceEqDiff,reduceCtorEq,if_pos hs];try simp (disch:=first|exact Zd|omega) [↓zmo,beq,ybc,ybd,ybe,af,wk,wk2,wk1,wkM,wkL,aj,ybf,byq,biq,ah,hcl,if_pos hs];try(repeat' (first|assumption|omega|exact True.intro|refine And.intro ?_ ?_|refine ag ?_|refine ae ?_|refine aa ?_ ?_|refine ai ?_ ?_|refine au ?_|exact AHeap.Le.refl _|refine AHeap.Le.push ?_ _|refine AHeap.Le.del ?_ ?_|(simp only[bt,and_true,true_and,if_pos hs];first|done|omega|(simp;done)))))):p:=h
theorem Z5{p:Prop}(h:p:=by simp (disch:=first|exact Zd|omega) [↓zmo,beq,ybc,ybd,ybe,af,wk,wk2,wk1,wkM,wkL,aj,ybf,kX,h1',h2',hcl]):p:=h
theorem Z6{p:Prop}(h:p:=by simp only[bnq,enter,gX,ltF,ne_eq,Nat.reduceEqDiff,reduceCtorEq,hst,true_or,and_self]):p:=h
theorem Z7{p:Prop}(h:p:=by simp (disch:=first|exact Zd|omega) [↓zmo,beq,ybc,ybd,ybe,af,wk,wk2,wk1,wkM,wkL,aj,ybf,hcl,eE]):p:=h
theorem Z8{p:Prop}(h:p:=by(simp only[bkq,enterW,aJ,ltF,ne_eq,Nat.reduceEqDiff,reduceCtorEq,eE];try simp (disch:=first|exact Zd|omega) [↓zmo,beq,ybc,ybd,ybe,af,wk,wk2,wk1,wkM,wkL,aj,ybf,byq,biq,ah,hcl,eE];try(repeat' (first|assumption|omega|exact True.intro|refine And.intro ?_ ?_|refine ag ?_|refine ae ?_|refine aa ?_ ?_|refine ai ?_ ?_|refine au ?_|exact AHeap.Le.refl _|refine AHeap.Le.push ?_ _|refine AHeap.Le.del ?_ ?_|(simp only[bt,and_true,true_and,eE];first|done|omega|(simp;done)))))):p:=h
theorem Z9{p:Prop}(h:p:=by(simp only[bkq,enterW,aJ,ltF,ne_eq,Nat.reduceEqDiff,reduceCtorEq,pY];try simp (disch:=first|exact Zd|omega) [↓zmo,beq,ybc,ybd,ybe,af,wk,wk2,wk1,wkM,wkL,aj,ybf,byq,biq,ah,hcl,pY];try(repeat' (first|assumption|omega|exact True.intro|refine And.intro ?_ ?_|refine ag ?_|refine ae ?_|refine aa ?_ ?_|refine ai ?_ ?_|refine au ?_|exact AHeap.Le.refl _|refine AHeap.Le.push ?_ _|refine AHeap.Le.del ?_ ?_|(simp only[bt,and_true,true_and,pY];first|done|omega|(simp;done)))))):p:=h
theorem Z10{p:Prop}(h:p:=by(simp only[bkq,enterW,aJ,ltF,ne_eq,Nat.reduceEqDiff,reduceCtorEq,z1,z2,z3];try simp (disch:=first|exact Zd|omega) [↓zmo,beq,ybc,ybd,ybe,af,wk,wk2,wk1,wkM,wkL,aj,ybf,byq,biq,ah,hcl,z1,z2,z3];try(repeat' (first|assumption|omega|exact True.intro|refine And.intro ?_ ?_|refine ag ?_|refine ae ?_|refine aa ?_ ?_|refine ai ?_ ?_|refine au ?_|exact AHeap.Le.refl _|refine AHeap.Le.push ?_ _|refine AHeap.Le.del ?_ ?_|(simp only[bt,and_true,true_and,z1,z2,z3];first|done|omega|(simp;done)))))):p:=h
theorem Z11{p:Prop}(h:p:=by(simp only[bkq,enterW,aJ,ltF,ne_eq,Nat.reduceEqDiff,reduceCtorEq,hz2];try simp (disch:=first|exact Zd|omega) [↓zmo,beq,ybc,ybd,ybe,af,wk,wk2,wk1,wkM,wkL,aj,ybf,byq,biq,ah,hcl,hz2];try(repeat' (first|assumption|omega|exact True.intro|refine And.intro ?_ ?_|refine ag ?_|refine ae ?_|refine aa ?_ ?_|refine ai ?_ ?_|refine au ?_|exact AHeap.Le.refl _|refine AHeap.Le.push ?_ _|refine AHeap.Le.del ?_ ?_|(simp only[bt,and_true,true_and,hz2];first|done|omega|(simp;done)))))):p:=h
theorem Z12{p:Prop}(h:p:=by(simp only[bkq,enterW,aJ,ltF,ne_eq,Nat.reduceEqDiff,reduceCtorEq,bK,Int.natAbs_zero];try simp (disch:=first|exact Zd|omega) [↓zmo,beq,ybc,ybd,ybe,af,wk,wk2,wk1,wkM,wkL,aj,ybf,byq,biq,ah,hcl,bK,Int.natAbs_zero];try(repeat' (first|assumption|omega|exact True.intro|refine And.intro ?_ ?_|refine ag ?_|refine ae ?_|refine aa ?_ ?_|refine ai ?_ ?_|refine au ?_|exact AHeap.Le.refl _|refine AHeap.Le.push ?_ _|refine AHeap.Le.del ?_ ?_|(simp only[bt,and_true,true_and,bK,Int.natAbs_zero];first|done|omega|(simp;done)))))):p:=h
theorem Z13{p:Prop}(h:p:=by(simp only[bkq,enterW,aJ,ltF,ne_eq,Nat.reduceEqDiff,reduceCtorEq,bK,Int.natAbs_zero,Nat.mul_zero];try simp (disch:=first|exact Zd|omega) [↓zmo,beq,ybc,ybd,ybe,af,wk,wk2,wk1,wkM,wkL,aj,ybf,byq,biq,ah,hcl,bK,Int.natAbs_zero,Nat.mul_zero];try(repeat' (first|assumption|omega|exact True.intro|refine And.intro ?_ ?_|refine ag ?_|refine ae ?_|refine aa ?_ ?_|refine ai ?_ ?_|refine au ?_|exact AHeap.Le.refl _|refine AHeap.Le.push ?_ _|refine AHeap.Le.del ?_ ?_|(simp only[bt,and_true,true_and,bK,Int.natAbs_zero,Nat.mul_zero];first|done|omega|(simp;done)))))):p:=h
theorem Z14{p:Prop}(h:p:=by simp (disch:=first|exact Zd|omega) [↓zmo,beq,ybc,ybd,ybe,af,wk,wk2,wk1,wkM,wkL,aj,ybf,hcl,bK,fG]):p:=h
theorem Z15{p:Prop}(h:p:=by(simp only[bkq,enterW,aJ,ltF,ne_eq,Nat.reduceEqDiff,reduceCtorEq,df];try simp (disch:=first|exact Zd|omega) [↓zmo,beq,ybc,ybd,ybe,af,wk,wk2,wk1,wkM,wkL,aj,ybf,byq,biq,ah,hcl,df];try(repeat' (first|assumption|omega|exact True.intro|refine And.intro ?_ ?_|refine ag ?_|refine ae ?_|refine aa ?_ ?_|refine ai ?_ ?_|refine au ?_|exact AHeap.Le.refl _|refine AHeap.Le.push ?_ _|refine AHeap.Le.del ?_ ?_|(simp only[bt,and_true,true_and,df];first|done|omega|(simp;done)))))):p:=h
theorem Z16{p:Prop}(h:p:=by simp (disch:=first|exact Zd|omega) [↓zmo,beq,ybc,ybd,ybe,af,wk,wk2,wk1,wkM,wkL,aj,ybf,hcl,j6]):p:=h
theorem Z17{p:Prop}(h:p:=by(simp only[bkq,enterW,aJ,ltF,ne_eq,Nat.reduceEqDiff,reduceCtorEq,gA];try simp (disch:=first|exact Zd|omega) [↓zmo,beq,ybc,ybd,ybe,af,wk,wk2,wk1,wkM,wkL,aj,ybf,byq,biq,ah,hcl,gA];try(repeat' (first|assumption|omega|exact True.intro|refine And.intro ?_ ?_|refine ag ?_|refine ae ?_|refine aa ?_ ?_|refine ai ?_ ?_|refine au ?_|exact AHeap.Le.refl _|refine AHeap.Le.push ?_ _|refine AHeap.Le.del ?_ ?_|(simp only[bt,and_true,true_and,gA];first|done|omega|(simp;done)))))):p:=h
theorem Z18{p:Prop}(h:p:=by simp (disch:=first|exact Zd|omega) [↓zmo,beq,ybc,ybd,ybe,af,wk,wk2,wk1,wkM,wkL,aj,ybf,hcc,hle,Hl,hcl]):p:=h
theorem Z19{p:Prop}(h:p:=by simp only[bnq,enter,gX,ltF,ne_eq,Nat.reduceEqDiff,reduceCtorEq,true_or,and_self]):p:=h
theorem Z20{p:Prop}(h:p:=by simp only[bnq,enter,gX,ltF,ne_eq,Nat.reduceEqDiff,reduceCtorEq,Nat.pow_zero,Nat.mod_one,true_or,and_true]):p:=h
theorem Z21{p:Prop}(h:p:=by simp only[bnq,enter,gX,ltF,ne_eq,Nat.reduceEqDiff,reduceCtorEq,o1,true_or,and_self]):p:=h
theorem Z22{p:Prop}(h:p:=by simp only[bnq,enter,gX,ltF,ne_eq,Nat.reduceEqDiff,reduceCtorEq,o2,true_or,and_self]):p:=h
theorem Z23{p:Prop}(h:p:=by simp only[bnq,enter,gX,ltF,ne_eq,Nat.reduceEqDiff,reduceCtorEq,o1,o2,true_or,and_self]):p:=h
theorem Z24{p:Prop}(h:p:=by simp (disch:=first|exact Zd|omega) [↓zmo,beq,List.take_of_length_le,List.drop_append,List.take_append,af,wk,wk2,wk1,wkM,wkL,aj,List.drop_eq_nil_of_le,hcl]):p:=h
theorem Z25{p:Prop}(h:p:=by simp (disch:=first|exact Zd|omega) [↓zmo,beq,ybc,ybd,ybe,af,wk,wk2,wk1,wkM,wkL,aj,ybf,hcl2]):p:=h
theorem Z26{p:Prop}(h:p:=by simp[Fr.get,bM,h1',h2',dY,sH,i0,cp,hvs,j0,cw,cu,cL,fw,cP,jk,j5,i8,wkM,ziq]):p:=h
theorem Z27{p:Prop}(h:p:=by simp (disch:=first|exact Zd|omega) [↓zmo,beq,ybc,ybd,ybe,af,wk,wk2,wk1,wkM,wkL,aj,ybf,hcl1]):p:=h
theorem Z28{p:Prop}(h:p:=by simp (disch:=first|exact Zd|omega) [↓zmo,beq,ybc,ybd,ybe,af,wk,wk2,wk1,wkM,wkL,aj,ybf,hcl,fB]):p:=h
theorem Z29{p:Prop}(h:p:=by(simp only[bkq,enterW,aJ,ltF,ne_eq,Nat.reduceEqDiff,reduceCtorEq,fB,hid];try simp (disch:=first|exact Zd|omega) [↓zmo,beq,ybc,ybd,ybe,af,wk,wk2,wk1,wkM,wkL,aj,ybf,byq,biq,ah,hcl,fB,hid];try(repeat' (first|assumption|omega|exact True.intro|refine And.intro ?_ ?_|refine ag ?_|refine ae ?_|refine aa ?_ ?_|refine ai ?_ ?_|refine au ?_|exact AHeap.Le.refl _|refine AHeap.Le.push ?_ _|refine AHeap.Le.del ?_ ?_|(simp only[bt,and_true,true_and,fB,hid];first|done|omega|(simp;done)))))):p:=h
theorem Z30{p:Prop}(h:p:=by simp (disch:=first|exact Zd|omega) [↓zmo,beq,ybc,ybd,ybe,af,wk,wk2,wk1,wkM,wkL,aj,ybf,hcl,iC]):p:=h
theorem Z31{p:Prop}(h:p:=by simp (disch:=first|exact Zd|omega) [↓zmo,beq,ybc,ybd,ybe,af,wk,wk2,wk1,wkM,wkL,aj,ybf,jM hcl,zmw,jd,dd_le1,gM]):p:=h
theorem Z32{p:Prop}(h:p:=by simp (disch:=first|exact Zd|omega) [↓zmo,beq,ybc,ybd,ybe,af,wk,wk2,wk1,wkM,wkL,aj,ybf,hc3]):p:=h
theorem Z33{p:Prop}(h:p:=by(simp only[bkq,enterW,aJ,ltF,ne_eq,Nat.reduceEqDiff,reduceCtorEq,hcl2,hid];try simp (disch:=first|exact Zd|omega) [↓zmo,beq,ybc,ybd,ybe,af,wk,wk2,wk1,wkM,wkL,aj,ybf,byq,biq,ah,hcl,hcl2,hid];try(repeat' (first|assumption|omega|exact True.intro|refine And.intro ?_ ?_|refine ag ?_|refine ae ?_|refine aa ?_ ?_|refine ai ?_ ?_|refine au ?_|exact AHeap.Le.refl _|refine AHeap.Le.push ?_ _|refine AHeap.Le.del ?_ ?_|(simp only[bt,and_true,true_and,hcl2,hid];first|done|omega|(simp;done)))))):p:=h
theorem Z34{p:Prop}(h:p:=by(simp only[bkq,enterW,aJ,ltF,ne_eq,Nat.reduceEqDiff,reduceCtorEq,hc3,hid];try simp (disch:=first|exact Zd|omega) [↓zmo,beq,ybc,ybd,ybe,af,wk,wk2,wk1,wkM,wkL,aj,ybf,byq,biq,ah,hcl,hc3,hid];try(repeat' (first|assumption|omega|exact True.intro|refine And.intro ?_ ?_|refine ag ?_|refine ae ?_|refine aa ?_ ?_|refine ai ?_ ?_|refine au ?_|exact AHeap.Le.refl _|refine AHeap.Le.push ?_ _|refine AHeap.Le.del ?_ ?_|(simp only[bt,and_true,true_and,hc3,hid];first|done|omega|(simp;done)))))):p:=h
theorem Z35{p:Prop}(h:p:=by(simp only[bkq,enterW,aJ,ltF,ne_eq,Nat.reduceEqDiff,reduceCtorEq,hcl2,hid,df];try simp (disch:=first|exact Zd|omega) [↓zmo,beq,ybc,ybd,ybe,af,wk,wk2,wk1,wkM,wkL,aj,ybf,byq,biq,ah,hcl,hcl2,hid,df];try(repeat' (first|assumption|omega|exact True.intro|refine And.intro ?_ ?_|refine ag ?_|refine ae ?_|refine aa ?_ ?_|refine ai ?_ ?_|refine au ?_|exact AHeap.Le.refl _|refine AHeap.Le.push ?_ _|refine AHeap.Le.del ?_ ?_|(simp only[bt,and_true,true_and,hcl2,hid,df];first|done|omega|(simp;done)))))):p:=h
theorem Z36{p:Prop}(h:p:=by(simp only[bkq,enterW,aJ,ltF,ne_eq,Nat.reduceEqDiff,reduceCtorEq,fe,hm];try simp (disch:=first|exact Zd|omega) [↓zmo,beq,ybc,ybd,ybe,af,wk,wk2,wk1,wkM,wkL,aj,ybf,byq,biq,ah,hcl,fe,hm];try(repeat' (first|assumption|omega|exact True.intro|refine And.intro ?_ ?_|refine ag ?_|refine ae ?_|refine aa ?_ ?_|refine ai ?_ ?_|refine au ?_|exact AHeap.Le.refl _|refine AHeap.Le.push ?_ _|refine AHeap.Le.del ?_ ?_|(simp only[bt,and_true,true_and,fe,hm];first|done|omega|(simp;done)))))):p:=h
theorem Z37{p:Prop}(h:p:=by simp (disch:=first|exact Zd|omega) [↓zmo,beq,ybc,ybd,ybe,af,wk,wk2,wk1,wkM,wkL,aj,ybf,hcl,hcl1]):p:=h
theorem Z38{p:Prop}(h:p:=by(simp only[bkq,enterW,aJ,ltF,ne_eq,Nat.reduceEqDiff,reduceCtorEq,hm,dO];try simp (disch:=first|exact Zd|omega) [↓zmo,beq,ybc,ybd,ybe,af,wk,wk2,wk1,wkM,wkL,aj,ybf,byq,biq,ah,hcl,hm,dO];try(repeat' (first|assumption|omega|exact True.intro|refine And.intro ?_ ?_|refine ag ?_|refine ae ?_|refine aa ?_ ?_|refine ai ?_ ?_|refine au ?_|exact AHeap.Le.refl _|refine AHeap.Le.push ?_ _|refine AHeap.Le.del ?_ ?_|(simp only[bt,and_true,true_and,hm,dO];first|done|omega|(simp;done)))))):p:=h
theorem Z39{p:Prop}(h:p:=by simp (disch:=first|exact Zd|omega) [↓zmo,beq,ybc,ybd,ybe,af,wk,wk2,wk1,wkM,wkL,aj,ybf,hcl,its,aN,znu,znv,znf]):p:=h
theorem Z40{p:Prop}(h:p:=by(simp only[bkq,enterW,aJ,ltF,ne_eq,Nat.reduceEqDiff,reduceCtorEq,hm,hcc,hnx];try simp (disch:=first|exact Zd|omega) [↓zmo,beq,ybc,ybd,ybe,af,wk,wk2,wk1,wkM,wkL,aj,ybf,byq,biq,ah,hcl,hm,hcc,hnx];try(repeat' (first|assumption|omega|exact True.intro|refine And.intro ?_ ?_|refine ag ?_|refine ae ?_|refine aa ?_ ?_|refine ai ?_ ?_|refine au ?_|exact AHeap.Le.refl _|refine AHeap.Le.push ?_ _|refine AHeap.Le.del ?_ ?_|(simp only[bt,and_true,true_and,hm,hcc,hnx];first|done|omega|(simp;done)))))):p:=h
theorem Z41{p:Prop}(h:p:=by simp (disch:=first|exact Zd|omega) [↓zmo,beq,ybc,ybd,ybe,af,wk,wk2,wk1,wkM,wkL,aj,ybf,hcl,hle,hle.push _]):p:=h
theorem Z42{p:Prop}(h:p:=by(simp only[bkq,enterW,aJ,ltF,ne_eq,Nat.reduceEqDiff,reduceCtorEq,hm2];try simp (disch:=first|exact Zd|omega) [↓zmo,beq,ybc,ybd,ybe,af,wk,wk2,wk1,wkM,wkL,aj,ybf,byq,biq,ah,hcl,hm2];try(repeat' (first|assumption|omega|exact True.intro|refine And.intro ?_ ?_|refine ag ?_|refine ae ?_|refine aa ?_ ?_|refine ai ?_ ?_|refine au ?_|exact AHeap.Le.refl _|refine AHeap.Le.push ?_ _|refine AHeap.Le.del ?_ ?_|(simp only[bt,and_true,true_and,hm2];first|done|omega|(simp;done)))))):p:=h
theorem Z43{p:Prop}(h:p:=by(simp only[bkq,enterW,aJ,ltF,ne_eq,Nat.reduceEqDiff,reduceCtorEq,hm,hm2];try simp (disch:=first|exact Zd|omega) [↓zmo,beq,ybc,ybd,ybe,af,wk,wk2,wk1,wkM,wkL,aj,ybf,byq,biq,ah,hcl,hm,hm2];try(repeat' (first|assumption|omega|exact True.intro|refine And.intro ?_ ?_|refine ag ?_|refine ae ?_|refine aa ?_ ?_|refine ai ?_ ?_|refine au ?_|exact AHeap.Le.refl _|refine AHeap.Le.push ?_ _|refine AHeap.Le.del ?_ ?_|(simp only[bt,and_true,true_and,hm,hm2];first|done|omega|(simp;done)))))):p:=h
theorem Z44{p:Prop}(h:p:=by simp (disch:=first|exact Zd|omega) [↓zmo,beq,ybc,ybd,ybe,af,wk,wk2,wk1,wkM,wkL,aj,ybf,hcl,il,oneT,nds,lM,zns,aN,znr,znf,znh,znu,znv]):p:=h
theorem Z45{p:Prop}(h:p:=by simp (disch:=first|exact Zd|omega) [↓zmo,beq,ybc,ybd,ybe,af,wk,wk2,wk1,wkM,wkL,aj,ybf,hcl,il,zns,lF,znf,znu,znv]):p:=h
theorem Z46{p:Prop}(h:p:=by simp (disch:=first|exact Zd|omega) [↓zmo,beq,ybc,ybd,ybe,af,wk,wk2,wk1,wkM,wkL,aj,ybf,hcl,il,nds,zns,aN,znf,znu,znv]):p:=h
theorem Z47{p:Prop}(h:p:=by simp (disch:=first|exact Zd|omega) [↓zmo,beq,ybc,ybd,ybe,af,wk,wk2,wk1,wkM,wkL,aj,ybf,hcl,sAV,aN,znu,znv,znh]):p:=h
theorem Z48{p:Prop}(h:p:=by simp (disch:=first|exact Zd|omega) [↓zmo,beq,ybc,ybd,ybe,af,wk,wk2,wk1,wkM,wkL,aj,ybf,hcl,hle3,aL]):p:=h
theorem Z49{p:Prop}(h:p:=by(simp only[bkq,enterW,aJ,ltF,ne_eq,Nat.reduceEqDiff,reduceCtorEq,hcs,hm,aL,hnn];try simp (disch:=first|exact Zd|omega) [↓zmo,beq,ybc,ybd,ybe,af,wk,wk2,wk1,wkM,wkL,aj,ybf,byq,biq,ah,hcl,hcs,hm,aL,hnn];try(repeat' (first|assumption|omega|exact True.intro|refine And.intro ?_ ?_|refine ag ?_|refine ae ?_|refine aa ?_ ?_|refine ai ?_ ?_|refine au ?_|exact AHeap.Le.refl _|refine AHeap.Le.push ?_ _|refine AHeap.Le.del ?_ ?_|(simp only[bt,and_true,true_and,hcs,hm,aL,hnn];first|done|omega|(simp;done)))))):p:=h
theorem Z50{p:Prop}(h:p:=by simp (disch:=first|exact Zd|omega) [↓zmo,beq,ybc,ybd,ybe,af,wk,wk2,wk1,wkM,wkL,aj,ybf,hcl,hle,aL]):p:=h
theorem Z51{p:Prop}(h:p:=by(simp only[bkq,enterW,aJ,ltF,ne_eq,Nat.reduceEqDiff,reduceCtorEq,hm];try simp (disch:=first|exact Zd|omega) [↓zmo,beq,ybc,ybd,ybe,af,wk,wk2,wk1,wkM,wkL,aj,ybf,byq,biq,ah,hcl,hm];try(repeat' (first|assumption|omega|exact True.intro|refine And.intro ?_ ?_|refine ag ?_|refine ae ?_|refine aa ?_ ?_|refine ai ?_ ?_|refine au ?_|exact AHeap.Le.refl _|refine AHeap.Le.push ?_ _|refine AHeap.Le.del ?_ ?_|(simp only[bt,and_true,true_and,hm];first|done|omega|(simp;done)))))):p:=h
theorem Z52{p:Prop}(h:p:=by(simp only[bkq,enterW,aJ,ltF,ne_eq,Nat.reduceEqDiff,reduceCtorEq,hm,hm2,hF,hcH];try simp (disch:=first|exact Zd|omega) [↓zmo,beq,ybc,ybd,ybe,af,wk,wk2,wk1,wkM,wkL,aj,ybf,byq,biq,ah,hcl,hm,hm2,hF,hcH];try(repeat' (first|assumption|omega|exact True.intro|refine And.intro ?_ ?_|refine ag ?_|refine ae ?_|refine aa ?_ ?_|refine ai ?_ ?_|refine au ?_|exact AHeap.Le.refl _|refine AHeap.Le.push ?_ _|refine AHeap.Le.del ?_ ?_|(simp only[bt,and_true,true_and,hm,hm2,hF,hcH];first|done|omega|(simp;done)))))):p:=h
theorem Z53{p:Prop}(h:p:=by simp (disch:=first|exact Zd|omega) [↓zmo,beq,ybc,ybd,ybe,af,wk,wk2,wk1,wkM,wkL,aj,ybf,hcl,hcH]):p:=h
theorem Z54{p:Prop}(h:p:=by simp (disch:=first|exact Zd|omega) [↓zmo,beq,ybc,ybd,ybe,af,wk,wk2,wk1,wkM,wkL,aj,ybf,hcl,hx1]):p:=h
theorem Z55{p:Prop}(h:p:=by(simp only[bkq,enterW,aJ,ltF,ne_eq,Nat.reduceEqDiff,reduceCtorEq,hcs,hm,aB,aL,hnn];try simp (disch:=first|exact Zd|omega) [↓zmo,beq,ybc,ybd,ybe,af,wk,wk2,wk1,wkM,wkL,aj,ybf,byq,biq,ah,hcl,hcs,hm,aB,aL,hnn];try(repeat' (first|assumption|omega|exact True.intro|refine And.intro ?_ ?_|refine ag ?_|refine ae ?_|refine aa ?_ ?_|refine ai ?_ ?_|refine au ?_|exact AHeap.Le.refl _|refine AHeap.Le.push ?_ _|refine AHeap.Le.del ?_ ?_|(simp only[bt,and_true,true_and,hcs,hm,aB,aL,hnn];first|done|omega|(simp;done)))))):p:=h
theorem Z56{p:Prop}(h:p:=by simp (disch:=first|exact Zd|omega) [↓zmo,beq,ybc,ybd,ybe,af,wk,wk2,wk1,wkM,wkL,aj,ybf,hcl,hle3,aB]):p:=h
theorem Z57{p:Prop}(h:p:=by(simp only[bkq,enterW,aJ,ltF,ne_eq,Nat.reduceEqDiff,reduceCtorEq,hcs,hm,hm2,aB,aL,hnn];try simp (disch:=first|exact Zd|omega) [↓zmo,beq,ybc,ybd,ybe,af,wk,wk2,wk1,wkM,wkL,aj,ybf,byq,biq,ah,hcl,hcs,hm,hm2,aB,aL,hnn];try(repeat' (first|assumption|omega|exact True.intro|refine And.intro ?_ ?_|refine ag ?_|refine ae ?_|refine aa ?_ ?_|refine ai ?_ ?_|refine au ?_|exact AHeap.Le.refl _|refine AHeap.Le.push ?_ _|refine AHeap.Le.del ?_ ?_|(simp only[bt,and_true,true_and,hcs,hm,hm2,aB,aL,hnn];first|done|omega|(simp;done)))))):p:=h
theorem Z58{p:Prop}(h:p:=by simp (disch:=first|exact Zd|omega) [↓zmo,beq,ybc,ybd,ybe,af,wk,wk2,wk1,wkM,wkL,aj,ybf,hcl,hle,aB]):p:=h
theorem Z59{p:Prop}(h:p:=by(simp only[bkq,enterW,aJ,ltF,ne_eq,Nat.reduceEqDiff,reduceCtorEq,hcs,hm,aB,hnn];try simp (disch:=first|exact Zd|omega) [↓zmo,beq,ybc,ybd,ybe,af,wk,wk2,wk1,wkM,wkL,aj,ybf,byq,biq,ah,hcl,hcs,hm,aB,hnn];try(repeat' (first|assumption|omega|exact True.intro|refine And.intro ?_ ?_|refine ag ?_|refine ae ?_|refine aa ?_ ?_|refine ai ?_ ?_|refine au ?_|exact AHeap.Le.refl _|refine AHeap.Le.push ?_ _|refine AHeap.Le.del ?_ ?_|(simp only[bt,and_true,true_and,hcs,hm,aB,hnn];first|done|omega|(simp;done)))))):p:=h
theorem Z60{p:Prop}(h:p:=by(simp only[bkq,enterW,aJ,ltF,ne_eq,Nat.reduceEqDiff,reduceCtorEq,hcc,hm,aB,hnn];try simp (disch:=first|exact Zd|omega) [↓zmo,beq,ybc,ybd,ybe,af,wk,wk2,wk1,wkM,wkL,aj,ybf,byq,biq,ah,hcl,hcc,hm,aB,hnn];try(repeat' (first|assumption|omega|exact True.intro|refine And.intro ?_ ?_|refine ag ?_|refine ae ?_|refine aa ?_ ?_|refine ai ?_ ?_|refine au ?_|exact AHeap.Le.refl _|refine AHeap.Le.push ?_ _|refine AHeap.Le.del ?_ ?_|(simp only[bt,and_true,true_and,hcc,hm,aB,hnn];first|done|omega|(simp;done)))))):p:=h
theorem Z61{p:Prop}(h:p:=by simp (disch:=first|exact Zd|omega) [↓zmo,beq,ybc,ybd,ybe,af,wk,wk2,wk1,wkM,wkL,aj,ybf,hcl,bO,ip,boL]):p:=h
theorem Z62{p:Prop}(h:p:=by simp (disch:=first|exact Zd|omega) [↓zmo,beq,ybc,ybd,ybe,af,wk,wk2,wk1,wkM,wkL,aj,ybf,hcl,bO,Cs]):p:=h
theorem Z63{p:Prop}(h:p:=by simp only[List.mem_cons,List.not_mem_nil,or_false]at this ⊢;omega):p:=h
theorem iNq{n:Nat}:(n:Int).toNat=n:=rfl
abbrev tCq:=@TblOk.cons
abbrev tNq:=@TblOk.nil
theorem lAq{α:Type _}{a b:List α}:(a++b).length=a.length+b.length:=List.length_append
theorem gEq{α:Type _}{l:List α}{i:Nat}{a:α}:l.getD i a=(l[i]?).getD a:=List.getD_eq_getElem?_getD
theorem nFq:(¬False)=True:=not_false_eq_true
abbrev lRq:=@AHeap.Le.refl
abbrev nrq:=@Nat.le_refl
abbrev gQq:=@List.getElem?_eq_getElem
abbrev gMq:=@List.getElem_mem
abbrev gPq:=@AHeap.get_push_lt
abbrev lPq:=@AHeap.Le.push
abbrev gNq:=@List.getElem?_eq_none
theorem nzq(n:Nat):0+n=n:=Nat.zero_add n
abbrev glq:=@AHeap.get_lt
abbrev dfq:=@decide_eq_false
abbrev dtq:=@decide_eq_true
abbrev dcq:=@List.drop_eq_getElem_cons
theorem Yq{p q:Prop}(k:q)(h:p:=by first|exact True.intro|decide|omega|(simp[ziq,zgq,zgr,zgs,zgu,zgt,zgy];first|done|omega)):p∧q:=⟨h,k⟩
theorem Yfv{P : Program}(hm : P.follows .mixedOrders=true){Ω : Tbl}(hΩ : TblOk P Ω){f : FuncId}{fn : Func}{c : Code}(hf : P.funcs[f]? =some fn)(rs : List ResultVar){args : List AV}{H H1 : AHeap}{e : AEnd}
 (h : H.Closed→(∀ x∈args,x.lt H.nx)→aw P Ω c (KI P Ω (wo P rs H.nx e H1 (ay [])) []) (tB 0 args) H)
 (hname : (fn.name == "runtime.NumGoroutine") = false := by kernel_rfl) (hb : fn.body = some c := by rfl) (hrs : fn.results.toList = rs := by rfl) (hok : ij P Ω (ay []) fn.ntmps c = true := by kernel_rfl)
 (ha : Nat.ble args.length fn.ntmps=true :=by rfl) (hx : H.nx≤H1.nx :=by exact nrq _) : ACalls P f args H e H1 :=
 ACalls.fW hm hΩ hf rs hx hname hb hrs hok ha h
abbrev Ype:=@EntOk.pure
theorem Yk5(k:Nat)(h:k+1<9223372036854775808:=by omega):IntKind.i64.wrap ((k:Int)+1)=((k+1:Nat):Int):=Xe
theorem V0{p:Prop} (h:p:=by
 have hlm:∀ n,AV.lt n (.slice .any sz (ts.map av)):=fun n=>bk (hlt n)
 obtain⟨C0,hC0⟩:∃ C0:List AV,C0=hdC av ts:=⟨_,rfl⟩
 have hC0l:∀ m,ltL m C0:=fun m=>by rw[hC0];exact uo hlt ts m
 obtain⟨ow,how⟩:∃ ow:Nat→AV,ow=fun k=>.slice (.own (H.nx+1+1+1+1+1)) 1 (inL ((ts.take k).map idf)):=⟨_,rfl⟩
 have hwl:∀ n k,H.nx+1+1+1+1+1<n→(ow k).lt n:=fun n k h=>by rw[how];simp[aN,rp,h]
 obtain⟨HL,hHL⟩:∃ HL:Nat→AHeap,HL=fun k=>if k=0 then HB.push (.cells (XO (.slice .nil 1 [])))else(((HB.push (.cells (XO (ow k)))).push (.cells C0)).push (.buf 1 1)).push (.buf 1 k):=⟨_,rfl⟩
 have hL0:HL 0=HB.push (.cells (XO (.slice .nil 1 []))):=by rw[hHL];rfl
 have hLk:∀ k,k≠0→HL k=(((HB.push (.cells (XO (ow k)))).push (.cells C0)).push (.buf 1 1)).push (.buf 1 k):=fun k h=>by rw[hHL];exact if_neg h
 have hclL:∀ k,(HL k).Closed:=fun k=>by
  by_cases h:k=0
  ·rw[h,hL0]
   exact aa hclB (hXO _ _ (by simp[aN,znv]))
  ·rw[hLk k h]
   refine kP (c:=XO (.slice .nil 1 [])) (ag (ag (aa (aa hclB (hXO _ _ (by simp[aN,znv]))) (hC0l _)))) ?_
   exact hXO _ _ (hwl _ _ (by rw[hnB];omega))
 have hnL:∀ k,H.nx+1+1+1≤(HL k).nx:=fun k=>by
  by_cases h:k=0
  ·rw[h,hL0,zle,hnB];omega
  ·rw[hLk k h];simp only[zle,hnB];omega
 refine aA (A:=Nat) (fun k=>pf++[(2,.ptr (H.nx+1) 0),(3,.ptr (H.nx+1+1) 0),(a,.slice .any sz (ts.map av)),(b,.int .i64 (ts.length:Int)),(c,.int .i64 (k:Int))]) HL (fun k=>k≤ts.length) (fun k=>ts.length-k) 0 Xa ?_ fun k hk=>?_
 ·have hc0:=hclL 0
  rw[hL0,← hHB]at hc0 ⊢
  subst e1 e2 e3 e4 e5 e6 e7 e8 e9 e10
  refine⟨by simp only[zle,zkq,zkv];omega,lRq _,hc0,?_,?_⟩
  ·simp[ltF,zle,znn,znf,hlm]
   try omega
  ·simp[aJ,wk2,wk1,wkM,Fr.get]
 subst e4 e5 e6 e7 e10
 simp only[go_sem,yal,yak]
 refine aq (fun hc=>?_) (fun hc=>?_)
 ·have hk':k<ts.length:=by simp at hc;omega
  obtain⟨x,hx⟩:∃ x,x=ts[k]:=⟨_,rfl⟩
  have hxg:=bf (f:=av) (l:=ts) (k:=k) (x:=x) (by rw[gQq hk',hx])
  have ek:IntKind.i64.wrap ((k:Int)+1)=((k+1:Nat):Int):=Xe
  have htk:ts.take (k+1)=ts.take k++[x]:=by rw[hx,List.take_succ_eq_append_getElem hk']
  have hil:inL ((ts.take k).map idf)++[.int .i64 (idf x)]=inL ((ts.take (k+1)).map idf):=by rw[htk];simp[inL]
  have hll:(inL ((ts.take k).map idf)).length=k:=by simp[inL];omega
  obtain⟨cs,hcs,hcl3,hall⟩:=hag x
  have hts:List.take (cs.length+1) (AV.int .i64 (idf x)::cs)=AV.int .i64 (idf x)::cs:=ybc Xb
  have hsp:∀ zs:List AV,zs.length=(AV.int .i64 (idf x)::cs).length→splice zs 0 (AV.int .i64 (idf x)::cs)=AV.int .i64 (idf x)::cs:=fun zs hz=>kG hz
  have hall2:bG (AV.int .i64 (idf x)::cs)=true:=hall
  rw[hcs]at hxg
  rw[yaz,hcl3]at hsp
  rw[hcl3]at hts
  by_cases h0:k=0
  ·subst h0
   have hC1:C0=AV.int .i64 (idf x)::cs:=by rw[hC0,vg hk',← hx,hcs];rfl
   have how1:ow 1=.slice (.own (H.nx+1+1+1+1+1)) 1 [.int .i64 (idf x)]:=by rw[how];dsimp only;rw[← hil];rfl
   have hcl1:=hclL 1
   rw[hLk 1 Xc,← hHB,hC1,how1]at hcl1
   rw[hL0,← hHB]
   have hL1:=hLk 1 Xc
   rw[← hHB,hC1,how1]at hL1
   subst e8
   try dsimp only at hcl1 hL1 ⊢
   simp only[bb]at hcl1 hL1
   simp only[bn,aF,bhq,yaq,yar,yao,yap,go_sem,bb,iNq,ybb,yaz,yba,hxg,hcl3,hts,hsp,hall2,if_true,yal,yak,ek]
   refine⟨⟨Xa,Xa⟩,⟨Xa,Xa⟩,fun z hz=>by rw[List.mem_singleton.1 hz];rfl,⟨Xa,Xa⟩,1,Xa,Xa,?_⟩
   rw[hL1]
   refine⟨Xg,by repeat first|exact .refl _|refine .push ?_ _,hcl1,?_,?_⟩
   ·simp[ltF,zle,znn,znf,hlm]
    try omega
   ·simp[aJ,wk2,wk1,wkM,Fr.get]
  ·have how1:ow k=.slice (.own (H.nx+1+1+1+1+1)) 1 (inL ((ts.take k).map idf)):=by rw[how]
   have how2:ow (k+1)=.slice (.own (H.nx+1+1+1+1+1)) 1 (inL ((ts.take k).map idf)++[.int .i64 (idf x)]):=by rw[how,hil]
   have hcl1:=hclL (k+1)
   have hL1:=hLk (k+1) Xa
   rw[← hHB,how2]at hL1
   rw[hL1]at hcl1
   rw[hLk k h0,← hHB,how1]
   subst e8
   try dsimp only at hcl1 hL1 ⊢
   simp only[bb]at hcl1 hL1
   simp only[bn,aF,bhq,yaq,yar,yao,yap,go_sem,bb,iNq,ybb,yaz,yba,hxg,hcl3,hts,hsp,hall2,if_true,yal,yak,ek]
   refine⟨⟨Xa,Xa⟩,⟨Xa,Xa⟩,⟨by rw[hll],by rw[hll];omega,by rw[hll];omega,fun z hz=>by rw[List.mem_singleton.1 hz];rfl⟩,⟨Xa,Xa⟩,k+1,Xa,Xa,?_⟩
   rw[hL1,hll]
   refine⟨Xg,by repeat first|exact .refl _|refine .push ?_ _,hcl1,?_,?_⟩
   ·simp[ltF,zle,znn,znf,hlm]
    try omega
   ·simp[aJ,wk2,wk1,wkM,Fr.get]
 ·have hk':k=ts.length:=by simp at hc;omega
  have hcl1:(HB.push (.cells XN)).Closed:=aa hclB (hXN _)
  rw[← hHB]at hcl1
  by_cases h0:k=0
  ·subst h0
   have hnl:ts=[]:=List.length_eq_zero_iff.1 hk'.symm
   have hnl2:ts.map idf=[]:=by rw[hnl];rfl
   rw[hL0,← hHB]
   simp only[go_sem]
   refine eH (H.nx+1+1) XN (cs:=XO (.slice .nil 1 [])) (by simp only[go_sem]) ?_ ?_
   ·subst e1 e3 e8 e9
    simp only[cu,cL,and_true]
    refine⟨?_,?_,?_,?_,?_,?_⟩
    all_goals first|exact j8|(rw[hnl2];exact j8 (l:=[]))|(rw[cw];exact .inl ⟨.inr rfl,rfl,by rw[cP];trivial⟩)
   subst e8 e9
   simp only[go_sem]
   refine eU J () trivial ⟨by simp only[zle,zkv,zkq,jg,hnB];omega,by rw[← hHB];repeat first|exact .refl _|refine .push ?_ _,by rw[← hHB];exact hcl1,?_,?_⟩
   ·(simp[ltF,zle,znn,hnB];try omega)
   ·simp[aJ,wk2,wk1,wkM,Fr.get]
  ·have how1:ow k=.slice (.own (H.nx+1+1+1+1+1)) 1 (inL (ts.map idf)):=by rw[how,hk'];dsimp only;rw[List.take_length]
   rw[hLk k h0,← hHB,how1]
   simp only[go_sem]
   refine eH (H.nx+1+1) XN (cs:=XO (.slice (.own (H.nx+1+1+1+1+1)) 1 (inL (ts.map idf)))) (by simp only[go_sem]) ?_ ?_
   ·subst e1 e3 e8 e9
    simp only[cu,cL,and_true]
    refine⟨?_,?_,?_,?_,?_,?_⟩
    all_goals first|exact j8|(rw[cw];exact .inl ⟨.inr rfl,rfl,by rw[cP];trivial⟩)
   subst e8 e9
   simp only[go_sem]
   refine eU J () trivial ⟨by simp only[zle,zkv,zkq,jg,hnB];omega,by rw[← hHB];repeat first|exact .refl _|refine .push ?_ _,by rw[← hHB];exact hcl1,?_,?_⟩
   ·(simp[ltF,zle,znn,hnB];try omega)
   ·simp[aJ,wk2,wk1,wkM,Fr.get]):p:=h
theorem V1{p:Prop} (h:p:=by
 try simp only[go_sem,gu,jC,iNq,List.take_length,zau]
 refine⟨Xa,?_⟩
 have hl':(s).length≤140737488355328:=by exact hl
 rw[hr]
 clear hr hl
 generalize s=b at *
 refine aA (A:=Nat × Nat) (fun x=>[(0,.str b),(2,.ptr H.nx 0),(4,.int .i64 10),(5,.ptr (H.nx+1) 0),(6,.int .i64 (x.1:Int))])
  (fun x=>(H.push (.cells [.bool false,.slice .nil 1 []])).push (.cells [.bool (decide ((x.2:Int)<0)),.slice .any 1 (cU (cO ((x.2:Int)).natAbs))]))
  (fun x=>x.1≤b.length∧x.2<2^128∧fO 10 0 b=fO 10 x.2 (b.drop x.1)) (fun x=>b.length-x.1) (0,0) ⟨Xa,Xc,rfl⟩ ?_ fun x hI=>?_
 ·exact Z12
 obtain⟨k,n⟩:=x
 obtain⟨hk,hn,hl2⟩:=hI
 dsimp only at *
 simp only[go_sem,byq]
 refine aq (fun h2=>?_) (fun h2=>?_)
 ·have h2':k<b.length:=by simpa using h2
  rw[dcq h2']at hl2
  have hg:AV.int .u8 ((b.getD k 0).toNat:Int)=cq b[k]:=by simp[gEq,h2',cq]
  have e5:=Yk5 k
  have hbn:b≠[]:=by intro h;subst h;simp at h2'
  simp only[fO]at hl2
  generalize b[k]=c at *
  have hc:dg c≤99:=by unfold dg;have:=UInt8.toNat_lt c;split<;>(try split)<;>omega
  simp only[go_sem,byq,hg,lB,gu,jC]
  refine⟨Xa,c,rfl,?_⟩
  simp only[go_sem,byq]
  refine aq (fun h3=>?_) (fun h3=>?_)
  ·have hd:¬ dg c<10:=by simp at h3;omega
   rw[if_neg hd]at hl2
   simp only[go_sem,byq,gu,jC,hl2,if_neg hbn,sM]
   refine⟨Xa,?_⟩
   exact Z0
  ·have hd:dg c<10:=by simp at h3;omega
   rw[if_pos hd]at hl2
   simp only[go_sem,byq,gu,jC]
   refine⟨Xa,?_⟩
   refine aA (A:=Nat) (fun j=>[(0,.str b),(2,.ptr H.nx 0),(4,.int .i64 10),(5,.ptr (H.nx+1) 0),(6,.int .i64 (k:Int)),(7,.ptr (H.nx+1+1) 0),(8,.int .i64 (j:Int))])
    (fun j=>((H.push (.cells [.bool false,.slice .nil 1 []])).push (.cells [.bool (decide ((n:Int)<0)),.slice .any 1 (cU (cO ((n:Int)).natAbs))])).push (.cells [.bool (decide (((n*j:Nat):Int)<0)),.slice .any 1 (cU (cO (((n*j:Nat):Int)).natAbs))]))
    (fun j=>j≤10) (fun j=>10-j) 0 Xa ?_ fun j hj=>?_
   ·exact Z13
   have hnj:n*j<2^133:=by
    have:n*j≤n*16:=Nat.mul_le_mul_left n Xa
    omega
   have hsj:fE ((n*j:Nat):Int):=fA 60 Xs Xc
   have hsn:fE (n:Int):=fA 60 Xs Xc
   simp only[go_sem,byq]
   refine aq (fun h4=>?_) (fun h4=>?_)
   ·have h4':j<10:=by simp at h4;omega
    have ej:IntKind.i64.wrap ((j:Int)+1)=((j+1:Nat):Int):=Xe
    have en:((n*j:Nat):Int)+(n:Int)=((n*(j+1):Nat):Int):=by rw[Nat.mul_add];omega
    simp only[go_sem,byq,jO]
    refine⟨((n*j:Nat):Int),(n:Int),⟨rfl,rfl,hsj,hsn⟩,?_⟩
    simp only[go_sem,byq,zAV,en,ej]
    refine⟨j+1,Xa,Xa,?_⟩
    exact Z1
   ·have h4':j=10:=by simp at h4;omega
    subst h4'
    have en:((n*10:Nat):Int)+((dg c:Nat):Int)=((n*10+dg c:Nat):Int):=Xa
    have hsd:fE ((dg c:Nat):Int):=fA 10 Xs Xc
    have hsf:fE ((n*10+dg c:Nat):Int):=fA 60 Xs Xc
    obtain⟨z,hz2⟩:∃ z:Int,z=((n*10+dg c:Nat):Int):=⟨_,rfl⟩
    rw[← hz2]at en hsf
    obtain⟨y,hy⟩:∃ y:Int,y=((dg c:Nat):Int):=⟨_,rfl⟩
    simp only[go_sem,byq,jO,lB,gu,hg]
    refine⟨Xa,c,rfl,?_⟩
    simp only[go_sem,byq,gu,jO]
    refine⟨Xa,((n*10:Nat):Int),((dg c:Nat):Int),⟨rfl,rfl,hsj,hsd⟩,?_⟩
    refine l6 (a:=n*10+dg c) (b:=2^128) (fun hf=>?_) (fun hf=>?_)
    ·rw[if_pos hf]at hl2
     have hft:decide (0≤z∧z<2^128)=true:=dtq Xa
     simp only[go_sem,byq,zAV,en,m9]
     refine⟨z,⟨rfl,hsf⟩,?_⟩
     simp only[go_sem,byq,zau,hft,e5]
     refine⟨(k+1,n*10+dg c),⟨Xa,hf,hl2⟩,Xa,?_⟩
     exact Z11
    ·rw[if_neg (Nat.not_lt.2 hf)]at hl2
     have hft:decide (0≤z∧z<2^128)=false:=dfq Xa
     simp only[go_sem,byq,zAV,en,m9]
     refine⟨z,⟨rfl,hsf⟩,?_⟩
     simp only[go_sem,byq,zat,hft,gu,jC,hl2,if_neg hbn,sM]
     refine⟨Xa,?_⟩
     exact Z0
 ·have h2':k=b.length:=by simp at h2;omega
  subst h2'
  rw[List.drop_length]at hl2
  simp only[fO]at hl2
  simp only[go_sem,byq]
  by_cases hbn:b=[]
  ·subst hbn
   have hn0:n=0:=by simp only[fO]at hl2;exact(Option.some.inj hl2).symm
   subst hn0
   have hb0:(([]:List UInt8)==[])=true:=rfl
   simp only[go_sem,byq,if_pos,sM,jC,hb0]
   exact Z14
  ·have hb0:(b==[])=false:=by simp[hbn]
   simp only[go_sem,byq,if_neg hbn,sM,hl2,zAV,hb0]
   exact Z0):p:=h
theorem V2{p:Prop} (h:p:=by
 refine⟨⟨Xa,Xa,fun z hz=>by
  rcases List.mem_cons.1 hz with rfl|hz
  ·rfl
  ·rw[List.mem_singleton.1 hz];rfl⟩,(k+1,Hc.set (H.nx+1+1+1+1) (.buf 4 (LL.length+2))),⟨Xf,bF hle Xa,ae hcc,?_,?_,?_⟩,Xf,?_⟩
 ·dsimp only
  rw[aC,if_neg (Xa)];exact g1
 ·dsimp only
  rw[aC,if_neg (Xa)];exact g2
 ·dsimp only
  rw[aC,if_pos rfl,if_pos nx3,hln]
 ·have hnn:H.nx≤Hc.nx:=Xa
  have hcs:=@ae Hc (H.nx+1+1+1+1) 4 (LL.length+2) hcc
  dsimp only
  try simp only[hrow]
  exact Z59):p:=h
theorem V3{p:Prop} (h:p:=by
 simp (disch:=first|exact Zd|omega) [↓zmo,beq,ybc,ybd,ybe,af,wk,wk2,wk1,wkM,wkL,aj,ybf,hcl]
 first|done|repeat first|exact .refl _|refine .push ?_ _):p:=h
theorem V4{p:Prop} (h:p:=by
 have hx:=AV.lt_mono (Nat.le_succ H.nx) _ (hlt (.agg [a1,a2,.slice m 2 (keys.map bV),a3,a4]) Xb)
 have hm:∀ n',H.nx≤n'→AV.lt n' (.slice m 2 (keys.map bV)):=fun n' hn=>AV.lt_mono hn _ (by have h1:=hlt (.agg [a1,a2,.slice m 2 (keys.map bV),a3,a4]) (Xb);rw[znr]at h1;exact h1.2.2.1)
 simp only[znr]at hx
 clear hlt
 simp only[go_sem,oV]
 refine aA (A:=Nat × AHeap) (fun a=>[(3,.slice (.own (H.nx+1+1)) 2 (bC (eR (keys.take a.1)))),(7,.slice m 2 (keys.map bV)),(8,.int .i64 (keys.length:Int)),(9,.int .i64 (a.1:Int))]) (fun a=>a.2)
  (fun a=>a.1≤keys.length∧H.Le a.2∧a.2.Closed∧a.2.get (H.nx+1+1)=some (.buf 2 (eR (keys.take a.1)).length)) (fun a=>keys.length-a.1)
  (0,((H.push (.cells [a1,a2,.slice m 2 (keys.map bV),a3,a4])).push (.buf 2 0)).push (.buf 2 0)) ⟨Nat.zero_le _,(((lRq _).push _).push _).push _,ag (ag (aa hcl hx)),AHeap.get_push_new _ _⟩ ?_ fun a ha=>?_
 ·have hc0:=ag (a:=2) (b:=0) (ag (a:=2) (b:=0) (aa hcl hx))
  (simp only[bkq,enterW,aJ,ltF,ne_eq,Nat.reduceEqDiff,reduceCtorEq,hc0,hm,aL];try simp (disch:=first|exact Zd|omega) [↓zmo,beq,ybc,ybd,ybe,af,wk,wk2,wk1,wkM,wkL,aj,ybf,byq,biq,ah,hcl,hc0,hm,aL];try(repeat' (first|assumption|omega|exact True.intro|refine And.intro ?_ ?_|refine ag ?_|refine ae ?_|refine aa ?_ ?_|refine ai ?_ ?_|refine au ?_|exact lRq _|refine lPq ?_ _|refine AHeap.Le.del ?_ ?_|(simp only[bt,and_true,true_and,hc0,hm,aL];first|done|omega|(simp;done)))))
  simp[bC,eR]
 obtain⟨k,Hc⟩:=a
 obtain⟨hk,hle,hcc,hid⟩:=ha
 dsimp only at hk hle hcc hid ⊢
 have hnx:=glq hid
 simp only[go_sem]
 refine aq (fun hc=>?_) (fun hc=>?_)
 ·have hk1:k<keys.length:=by simp at hc;omega
  have e5:=Yk5 k
  have hfl:(eR (keys.take k)).length≤2*k:=by simp only[eR,ybb,List.length_take];omega
  have n1:(Hc.nx=H.nx+1+1)=False:=eq_false Xa
  have n2:(H.nx+1+1=Hc.nx)=False:=eq_false Xa
  have n3:(H.nx+1+1=Hc.nx+1)=False:=eq_false Xa
  obtain⟨LL,hLL⟩:∃ LL,(eR (keys.take k))=LL:=⟨_,rfl⟩
  rw[hLL]at hid hfl ⊢
  have hnn:H.nx≤Hc.nx:=Xa
  have hln:eR (keys.take (k+1))=LL++[(keys[k].name,[])]:=by rw[← hLL,← List.take_append_getElem hk1];simp only[eR,List.map_append,yae,yaf]
  have hsn:bC LL++[.agg [.str keys[k].name,.str []]]=bC (LL++[(keys[k].name,[])]):=by simp[bC,gD]
  simp only[go_sem,oV,xH hk1,iNq,hid,bH,n1,n2,n3,e5]
  refine⟨Xa,⟨Xa,Xa,fun z hz=>by simp only[List.mem_cons,List.not_mem_nil,or_false]at hz;(try rcases hz with rfl|rfl)<;>(try subst hz)<;>rfl⟩,(k+1,Hc.set (H.nx+1+1) (.buf 2 (LL.length+1))),⟨Xf,bF hle Xa,ae hcc,?_⟩,Xf,?_⟩
  ·dsimp only
   rw[aC,if_pos rfl,if_pos hnx,hln];simp
  ·have hcs:=@ae Hc (H.nx+1+1) 2 (LL.length+1) hcc
   dsimp only
   rw[hln]
   try rw[hsn]
   exact Z49
 ·have hk1:k=keys.length:=by simp at hc;omega
  subst hk1
  rw[List.take_length]at hid
  rw[List.take_length]
  simp only[go_sem]
  exact Z50):p:=h
theorem V5{p:Prop} (h:p:=by
 split at h
 rotate_left
 ·exact h.elim
 rename_i hi lo
 obtain⟨⟨h0,h1,h2,h3⟩,hK⟩:=h
 refine⟨_,hK,?_⟩
 obtain⟨x,rfl⟩:=bv h0
 obtain⟨y,rfl⟩:=bv h2
 clear hK h0 h2
 rw[iNq,iNq]
 have hx:x<2^64:=Xa
 have hy:y<2^64:=Xa
 refine Yfv az tNq Tryz.func159 [.cell 2 236] fun hcl hlt=>?_
 clear hlt
 have hv:=lC hx hy
 have blo:∀ i,i<64→y.testBit i=(vOf x y).testBit i:=fun i hi=>by rw[jU hy,if_pos hi]
 have bhi:∀ i,x.testBit i=(vOf x y).testBit (i+64):=fun i=>by rw[jU hy,if_neg (by omega),Nat.add_sub_cancel]
 generalize hvo:vOf x y=v at hv blo bhi ⊢
 simp only[go_sem,byq]
 refine eZ (A:=Nat) (fun k=>[(4,.int .i64 (k:Int)),(3,.ptr (H.nx+1+1) 0),(1,.ptr H.nx 0),(2,.ptr (H.nx+1) 0)])
  (fun k=>((H.push (.cells [.int .u64 (x:Int),.int .u64 (y:Int)])).push (.cells (List.replicate 128 (.bool false)))).push (.cells (cM v fun j=>decide (j%64<k)))) (fun k=>k≤64) (fun k=>64-k) 0 Xa ?_ fun k hk=>?_
 ·have e:cM v (fun j=>decide (j%64<0))=List.replicate 128 (.bool false):=mG _ _ fun j _=>Xb
  simp only[bnq,enter,gX,ltF,ne_eq,Nat.reduceEqDiff,reduceCtorEq,e,true_or,and_true]
  all_goals rfl
 simp only[go_sem,byq]
 refine aq (fun hc=>?_) (fun hc=>?_)
 ·have hk:k<64:=by simp at hc;omega
  have e1:IntKind.i64.wrap ((k:Int)+64)=((k+64:Nat):Int):=Xe
  have e2:IntKind.u64.wrap (k:Int)=(k:Int):=Xl
  have e3:IntKind.i64.wrap ((k:Int)+1)=((k+1:Nat):Int):=Xe
  have s1:y >>> k<2^64:=nk hy
  have s2:x >>> k<2^64:=nk hx
  simp only[go_sem,byq,e1,e2,e3,ja y k hy,ja x k hx,tf _ s1,tf _ s2,Gm,iNq,nzq,fR,oI,blo k hk,bhi k,List.length_set]
  have hst:((cM v fun j=>decide (j%64<k)).set k (.bool (v.testBit k))).set (k+64) (.bool (v.testBit (k+64)))=cM v fun j=>decide (j%64<k+1):=by
   rw[kq v _ (fun j=>decide (j%64<k)||decide (j=k)) k (fun j hj=>by simp[hj]) Xb,
    kq v _ (fun j=>decide (j%64<k)||decide (j=k)||decide (j=k+64)) (k+64) (fun j hj=>by simp[hj]) (Xb)]
   unfold cM
   refine List.map_congr_left fun j hj=>?_
   have:j<128:=List.mem_range.1 hj
   congr 2
   rw[Bool.eq_iff_iff];simp;omega
  refine⟨Xa,Xa,Xa,Xa,Xa,Xa,k+1,Xa,Xa,?_⟩
  exact Z6
 ·have hk:k=64:=by simp at hc;omega
  subst hk
  have e:cM v (fun j=>decide (j%64<64))=bits v:=oT _ _ fun j _=>Xd
  have et:List.take 128 (bits v)=bits v:=ybc (by rw[bJ];omega)
  have es:splice (List.replicate 128 (.bool false)) 0 (bits v)=bits v:=eM (y:=.junk) (bJ v)
  simp only[go_sem,byq,e,et,es,bJ,fu]
  refine⟨Xb,?_⟩
  exact Z7):p:=h
theorem V6{p:Prop} (h:p:=by
 obtain⟨k,Hc⟩:=a
 obtain⟨hk,hle,hcc,g1⟩:=ha
 dsimp only at hk hle hcc g1 ⊢
 have nx1:=glq g1
 simp only[go_sem]
 refine aq (fun hc=>?_) (fun hc=>?_)
 ·have hk1:k<ps.length:=by simp at hc;omega
  have e5:=Yk5 k
  have hkv:k<(eR ps).length:=by rw[hal];exact hk1
  have gv:=ki hkv
  have gw:(eR ps)[k]=(ps[k].name,[]):=by simp[eR]
  rw[gw]at gv
  have gp:=bf (f:=bV) (l:=ps) (k:=k) (x:=ps[k]) (gQq hk1)
  have hgd:(ps.map (·.name)).getD k []=ps[k].name:=by simp[gEq,hk1]
  have r1:((H.nx+1+1)=Hc.nx)=False:=eq_false Xa
  have r3:(H.nx=Hc.nx)=False:=eq_false Xa
  have r2:((H.nx+1+1)=Hc.nx+1)=False:=eq_false Xa
  have hsn:∀ v,ws.getD k 0=v→aS (jc ps ws k)++[.agg [.str ps[k].name,.str [],.int .u64 ((v/2^64:Nat):Int),.int .u64 ((v%2^64:Nat):Int)]]=aS (jc ps ws (k+1)):=by
   intro v hv
   rw[jc,hgd,hv,iQ]
  have hgl:=@qW ps ws k
  by_cases hkw:k<ws.length
  ·have hvg:ws.getD k 0=ws[k]:=by simp[gEq,hkw]
   have d1:decide ((k:Int)<(ws.length:Int))=true:=dtq Xa
   obtain rfl:zs=2:=by
    rcases hzs with h|h
    ·exact h
    ·rw[h]at hkw;exact absurd hkw Xb
   simp only[go_sem,bH,hal,ybb,gv,gp,bV,kQ,w9 hkw,d1,iNq,e5,r1,r2,r3,if_false,hsn _ hvg,aI,hgl,g1]
   refine⟨Xa,Xa,⟨Xa,Xa,fun z hz=>by rw[List.mem_singleton.1 hz];rfl⟩,(k+1,Hc.set (H.nx+1+1) (.buf 4 (k+1))),⟨Xf,bF hle Xa,ae hcc,?_⟩,Xf,?_⟩
   ·dsimp only
    rw[aC,if_pos rfl,if_pos nx1]
   ·have hnn:H.nx≤Hc.nx:=Xa
    have hcs:=@ae Hc (H.nx+1+1) 4 (k+1) hcc
    exact Z57
  ·have hvg:ws.getD k 0=0:=by rw[gEq,gNq (by omega)];rfl
   have d1:decide ((k:Int)<(ws.length:Int))=false:=dfq Xa
   have hs0:=hsn _ hvg
   simp only[go_sem,bH,hal,ybb,gv,gp,bV,kQ,d1,iNq,e5,r1,r2,r3,if_false,aI,hgl,g1]
   refine⟨Xa,⟨Xa,Xa,fun z hz=>by rw[List.mem_singleton.1 hz];rfl⟩,(k+1,Hc.set (H.nx+1+1) (.buf 4 (k+1))),⟨Xf,bF hle Xa,ae hcc,?_⟩,Xf,?_⟩
   ·dsimp only
    rw[aC,if_pos rfl,if_pos nx1]
   ·have hnn:H.nx≤Hc.nx:=Xa
    have hcs:=@ae Hc (H.nx+1+1) 4 (k+1) hcc
    exact Z57
 ·have hk1:k=ps.length:=by simp at hc;omega
  subst hk1
  simp only[go_sem]
  exact Z58):p:=h
theorem V7{p:Prop} (h:p:=by
 have hk:k<64:=by simp at hc;omega
 have e1:IntKind.i64.wrap ((k:Int)+64)=((k+64:Nat):Int):=Xe
 have e2:IntKind.u64.wrap (k:Int)=(k:Int):=Xl
 have e3:IntKind.i64.wrap ((k:Int)+1)=((k+1:Nat):Int):=Xe
 have g1:=hU v k Xa
 have g2:=hU v (k+64) Xa
 have e4:zo .u64 1 (k:Int)=(((1 <<<k)%2^64:Nat):Int):=nD 1 k
 have lx:x%2^k<2^64:=Nat.lt_of_le_of_lt (Nat.mod_le _ _) hx
 have ly:y%2^k<2^64:=Nat.lt_of_le_of_lt (Nat.mod_le _ _) hy
 have l1:(1 <<<k)%2^64<2^64:=Nat.mod_lt _ Xc
 have o1:=oM _ _ lx l1
 have o2:=oM _ _ ly l1
 have hb1:=hbl k hk
 have hb2:=hbh k
 by_cases c1:v.testBit k=true<;>by_cases c2:v.testBit (k+64)=true
 ·rw[c1]at hb1 g1;rw[c2]at hb2 g2
  rw[nd x k hk hb2]at o1
  rw[nd y k hk hb1]at o2
  simp only[go_sem,zav,byq,e1,e2,e3,e4,iNq,nzq,Nat.mul_one,bJ,g1,g2,o1,o2]
  refine⟨Xa,Xa,Xa,Xa,Xa,Xa,k+1,Xa,Xa,?_⟩
  exact Z19
 ·have c2:v.testBit (k+64)=false:=by simpa using c2
  rw[c1]at hb1 g1;rw[c2]at hb2 g2
  have o1:=jy x k hb2
  rw[nd y k hk hb1]at o2
  simp only[go_sem,zav,byq,e1,e2,e3,e4,iNq,nzq,Nat.mul_one,bJ,g1,g2,o2]
  refine⟨Xa,Xa,Xa,Xa,Xa,k+1,Xa,Xa,?_⟩
  exact Z21
 ·have c1:v.testBit k=false:=by simpa using c1
  rw[c1]at hb1 g1;rw[c2]at hb2 g2
  have o2:=jy y k hb1
  rw[nd x k hk hb2]at o1
  simp only[go_sem,zav,byq,e1,e2,e3,e4,iNq,nzq,Nat.mul_one,bJ,g1,g2,o1]
  refine⟨Xa,Xa,Xa,Xa,Xa,k+1,Xa,Xa,?_⟩
  exact Z22
 ·have c1:v.testBit k=false:=by simpa using c1
  have c2:v.testBit (k+64)=false:=by simpa using c2
  rw[c1]at hb1 g1;rw[c2]at hb2 g2
  have o1:=jy x k hb2
  have o2:=jy y k hb1
  simp only[go_sem,zav,byq,e1,e2,e3,e4,iNq,nzq,Nat.mul_one,bJ,g1,g2]
  refine⟨Xa,Xa,Xa,Xa,k+1,Xa,Xa,?_⟩
  exact Z23):p:=h
theorem V8{p:Prop} (h:p:=by
 simp[aJ,wk2,wk1,wkM,Fr.get]):p:=h
theorem V9{p:Prop} (h:p:=by
 first|done|repeat first|exact .refl _|refine .push ?_ _):p:=h
theorem V10{p:Prop} (h:p:=by
 refine ACalls.fW az (tCq fP (tCq dH (tCq iR (tCq fF (tCq dK tNq))))) Tryz.func72 [.tmp 6] (nrq _) (T:=ay [(5,[[],[],[],[],[],[],[],[],[],[],[],[],[],[],[],[1,5,14],[1,5,11,14,15]]),(7,[[],[],[],[],[],[],[],[],[],[1,6,8]]),(9,[[],[],[],[],[],[],[],[],[1]])]) (h:=fun hcl hlt=>?_)
 clear hlt
 simp only[go_sem,gB,gd,i2,i3,i4,i5,i6,iNq,bZ,d1,d2,d3,beq_self_eq_true,cZ,cY,Bool.bne_false,z2,z3,bt1,bf1,nn,jQ,gP,p2V,vv,gS,fI,io,c2,c3,g1,q]
 (repeat with_reducible refine Yq ?_)
 exact Z0):p:=h
theorem V11{p:Prop} (h:p:=by
 simp only[go_sem,bW,lm hk1,iNq,hkd,Int.reduceBEq,hid,bH,n1,n2,n3,e5]
 refine⟨Xa,⟨Xa,Xa,fun z hz=>by simp only[List.mem_cons,List.not_mem_nil,or_false]at hz;(try rcases hz with rfl|rfl)<;>(try subst hz)<;>rfl⟩,(k+1,Hc.set (H.nx+1+1) (.buf 2 (LL.length+2))),⟨Xf,bF hle Xa,ae hcc,?_⟩,Xf,?_⟩
 ·dsimp only
  rw[aC,if_pos rfl,if_pos hnx,hln];simp
 ·have hcs:=@ae Hc (H.nx+1+1) 2 (LL.length+2) hcc
  dsimp only
  rw[hln]
  try rw[hsn]
  exact Z49):p:=h
theorem V12{p:Prop} (h:p:=by
 simp only[go_sem,hkg,bW,iNq,g1,ax g1,g2,ax g2,g3,r1,r2,r3,r4,r5,r6,r7,r8,r9,r10,r11,r12,if_false,d1,ybb,e5,hgm,aP,bQ,vc,yal,yak,List.append_assoc,hpres,c1,c2,c3,c4,hs10,ht10,hle10,aI]
 refine⟨Xa,Xa,⟨Xa,Xa,fun z hz=>by
  rcases List.mem_cons.1 hz with rfl|hz
  ·rfl
  ·rw[List.mem_singleton.1 hz];rfl⟩,(k+1,Hc.set (H.nx+1+1+1+1) (.buf 4 (LL.length+2))),⟨Xf,bF hle Xa,ae hcc,?_,?_,?_⟩,Xf,?_⟩
 ·dsimp only
  rw[aC,if_neg (Xa)];exact g1
 ·dsimp only
  rw[aC,if_neg (Xa)];exact g2
 ·dsimp only
  rw[aC,if_pos rfl,if_pos nx3,hln]
 ·have hnn:H.nx≤Hc.nx:=Xa
  have hcs:=@ae Hc (H.nx+1+1+1+1) 4 (LL.length+2) hcc
  dsimp only
  try simp only[hrow]
  exact Z59):p:=h
theorem V13{p:Prop} (h:p:=by
 refine ACalls.fW az (tCq fD (tCq dZ (tCq fM (tCq dp tNq)))) Tryz.func85 [.tmp 6] (nrq _) (T:=ay [(8,[[],[],[],[],[],[],[],[],[],[],[],[],[],[],[],[1,5,14],[1,5,11,14,15]])]) (h:=fun hcl hlt=>?_)
 clear hlt
 simp only[go_sem,gB,dn,eL,p2V,vv,i2,i3,i4,i5,i6,w1,w2,w3,bt1,bf1,iNq,bZ,d1,d2,d3,beq_self_eq_true,cZ,cY,Bool.bne_false,z2,z3,kU,fU,gS,fI,io,c2,c3,g1,q]
 (repeat with_reducible refine Yq ?_)
 exact Z0):p:=h
theorem V14{p:Prop} (h:p:=by
 cases A<;>cases B <;>
 ·simp[jK,hna,hnb,h]at hE
  subst hE
  simp only[go_sem,hi,Int.reduceBEq,Bool.bne_false,Bool.bne_true,bqs,Bool.not_true,Bool.not_false]
  exact Z0):p:=h
theorem V15{p:Prop} (h:p:=by
 cases r with
 |bad q=>obtain⟨m1,m2⟩:=this;exact⟨m1,Xa⟩
 |ok b q u =>
  obtain⟨m1,m2,m3,m4,m5,m6⟩:=this
  simp only[Rl.isL,if_true]at m4
  exact⟨m1,m2,Xa,by simp[Rl.isL];omega,m5,Xa⟩):p:=h
theorem V16{p:Prop} (h:p:=by
 cases r with
 |ok a q u =>
  rw[aR]at hK
  simp only[go_sem,hfree,f1,f2,hgi,hgt',hsi,hst,aQ,aM,aR,aU,bA,aV,bg,hne,ne_eq,hne',hl5,iNq,bj,bh,i1,Int.reduceLE,eq_self,nFq,Bool.not_true,Bool.not_false,Bool.true_and,Bool.false_and,lAq,yaz,yba,nzq]
  exact cJ hK (hnx _ _) (lRq _) (hcl2 _ _ _)
 |bad q =>
  rw[aM]at hK
  simp only[go_sem,hfree,f1,f2,hgi,hgt',hsi,hst,aQ,aM,aR,aU,bA,aV,bg,hne,ne_eq,hne',hl5,iNq,bj,bh,i1,Int.reduceLE,eq_self,nFq,Bool.not_true,Bool.not_false,Bool.true_and,Bool.false_and,lAq,yaz,yba,nzq]
  intro a t' hb
  try simp only[lE,go_sem,hfree,f1,f2,hgi,hgt',hsi,hst,aQ,aM,aR,aU,bA,aV,bg,hne,ne_eq,hne',hl5,iNq,bj,bh,i1,Int.reduceLE,eq_self,nFq,Bool.not_true,Bool.not_false,Bool.true_and,Bool.false_and,lAq,yaz,yba,nzq]
  exact cJ (hK a t' hb) (hnx _ _) (lRq _) (hcl2 _ _ _)):p:=h
theorem V17{p:Prop} (h:p:=by
 refine⟨Xa,by(try simp only[lAq,yaz,yba]);omega,by(try simp only[lAq,yaz,yba]);omega,by(try simp only[lAq,yaz,yba]);omega,?_,?_,?_,i4⟩
 ·simpa[bO,Nat.add_assoc]using i1
 ·simpa[bO,Nat.add_assoc]using i2
 ·simpa[bO,Nat.add_assoc]using i3):p:=h
theorem V18{p:Prop} (h:p:=by
 have hj1:j=V.length:=by simp at hc;omega
 subst hj1
 simp only[go_sem,e5]
 rw[ybc (by rw[hkb];exact nrq _),← hkt]at q3
 rw[ybc (by rw[hkb];exact nrq _),← hkt]
 refine⟨(k+1,Hd),⟨Xf,hle2,hcd,q1,q2,q3⟩,Xf,?_⟩
 have hnn:H.nx≤Hd.nx:=Xa
 (simp only[bkq,enterW,aJ,ltF,ne_eq,Nat.reduceEqDiff,reduceCtorEq,hcd,hm,aB,hnn];try simp (disch:=first|exact Zd|omega) [↓zmo,beq,ybc,ybd,ybe,af,wk,wk2,wk1,wkM,wkL,aj,ybf,byq,biq,ah,hcl,hcd,hm,aB,hnn];try(repeat' (first|assumption|omega|exact True.intro|refine And.intro ?_ ?_|refine ag ?_|refine ae ?_|refine aa ?_ ?_|refine ai ?_ ?_|refine au ?_|exact lRq _|refine lPq ?_ _|refine AHeap.Le.del ?_ ?_|(simp only[bt,and_true,true_and,hcd,hm,aB,hnn];first|done|omega|(simp;done)))))
 all_goals rfl):p:=h
theorem V19{p:Prop} (h:p:=by
 rw[e]
 simp only[go_sem,bhq,yaq,yar,yao,yap]
 simp (disch:=first|exact Zd|omega) [↓zmo,beq,ybc,ybd,ybe,af,wk,wk2,wk1,wkM,wkL,aj,ybf,hcl2]
 first|exact bk iF|exact⟨by repeat first|exact .refl _|refine .push ?_ _,bk iF⟩):p:=h
theorem V20{p:Prop} (h:p:=by
 generalize decide (m=gY m k)=b at *
 refine Yfv az tNq Tryz.func84 [.tmp 4] fun hcl hlt=>?_
 clear hlt
 subst hR
 cases b<;>(simp only[go_sem,gB,hp,c2,c3,c4,hT,iz,bt1,bf1];try simp (disch:=first|exact Zd|omega) [↓zmo,beq,ybc,ybd,ybe,af,wk,wk2,wk1,wkM,wkL,aj,ybf,hcl])):p:=h
theorem V21{p:Prop} (h:p:=by
 dsimp only at hbd x1 x3 x7 ⊢
 subst hbd
 rw[x1,aM]at hK
 simp only[go_sem,hfree,f1,f2,hgi,hgt',hsi,hst,aQ,aM,aR,aU,bA,aV,bg,hne,ne_eq,hne',hl5,iNq,bj,bh,i1,Int.reduceLE,eq_self,nFq,Bool.not_true,Bool.not_false,Bool.true_and,Bool.false_and,lAq,yaz,yba,nzq,x3,if_false]
 exact cJ (hK a' t' x7) (hnx _ _) (lRq _) (hcl2 _ _ _)):p:=h
theorem V22{p:Prop} (h:p:=by
 subst hk'
 rw[List.drop_length]at hR
 unfold ixP at hR
 subst hR
 simp only[go_sem]
 exact Z0):p:=h
theorem V23{p:Prop} (h:p:=by
 have hk1:k=keys.length:=by simp at hc;omega
 subst hk1
 rw[List.take_length]at hid
 rw[List.take_length]
 have hfl:=@lZ keys keys.length
 rw[List.take_length]at hfl
 have n1:(H.nx+1+1=Hc.nx)=False:=eq_false Xa
 have htab:nM keys=(keys.flatMap fun k=>fg k.name k.kind)++[pn]:=rfl
 rw[htab]
 clear htab
 generalize (keys.flatMap fun k=>fg k.name k.kind)=G at *
 have hsn:bC G++[.agg [.str [112,114,105,111,114,105,116,121],.str []]]=bC (G++[pn]):=qp (v:=pn)
 simp only[go_sem,hid,n1,bH]
 refine⟨⟨Xa,Xa,fun z hz=>by rw[List.mem_singleton.1 hz];rfl⟩,?_⟩
 rw[hsn]
 have hle3:=(bF hle (show H.nx≤H.nx+1+1 by omega) (o:=.buf 2 (G.length+1))).push (.buf 2 1)
 exact Z48):p:=h
theorem V24{p:Prop} (h:p:=by
 rw[yl hk1 hc]at hr
 simp only[go_sem,e5]
 refine⟨(k+1,pre,id,Hc),⟨⟨Xf,Xf,hr⟩,hle,hcc,hid,hst⟩,Xf,?_⟩
 (simp only[bkq,enterW,aJ,ltF,ne_eq,Nat.reduceEqDiff,reduceCtorEq,hcc,hnx,hid2];try simp (disch:=first|exact Zd|omega) [↓zmo,beq,ybc,ybd,ybe,af,wk,wk2,wk1,wkM,wkL,aj,ybf,byq,biq,ah,hcl,hcc,hnx,hid2];try(repeat' (first|assumption|omega|exact True.intro|refine And.intro ?_ ?_|refine ag ?_|refine ae ?_|refine aa ?_ ?_|refine ai ?_ ?_|refine au ?_|exact lRq _|refine lPq ?_ _|refine AHeap.Le.del ?_ ?_|(simp only[bt,and_true,true_and,hcc,hnx,hid2];first|done|omega|(simp;done)))))
 exact qv hid2):p:=h
theorem V25{p:Prop} (h:p:=by
 clear hlt
 have hcs:=ax hg
 have hl:=glq hg
 have hne:(c=H.nx)=False:=eq_false Xa
 simp only[go_sem,hcs,hne]
 (repeat with_reducible refine Yq ?_)
 exact Z0):p:=h
theorem V26{p:Prop} (h:p:=by
 have hnn:H.nx≤Hc.nx:=Xa
 have hmi:min V.length (bC (V++[pn])).length=V.length:=by rw[bH,lAq];omega
 (simp only[bkq,enterW,aJ,ltF,ne_eq,Nat.reduceEqDiff,reduceCtorEq,hcq,hm,aB,aL,hnn];try simp (disch:=first|exact Zd|omega) [↓zmo,beq,ybc,ybd,ybe,af,wk,wk2,wk1,wkM,wkL,aj,ybf,byq,biq,ah,hcl,hcq,hm,aB,aL,hnn];try(repeat' (first|assumption|omega|exact True.intro|refine And.intro ?_ ?_|refine ag ?_|refine ae ?_|refine aa ?_ ?_|refine ai ?_ ?_|refine au ?_|exact lRq _|refine lPq ?_ _|refine AHeap.Le.del ?_ ?_|(simp only[bt,and_true,true_and,hcq,hm,aB,aL,hnn];first|done|omega|(simp;done)))))
 all_goals rw[hmi]):p:=h
theorem V27{p:Prop} (h:p:=by
 refine⟨⟨by rw[aI],by rw[aI];omega,by rw[aI];omega,fun z hz=>by rw[List.mem_singleton.1 hz];rfl⟩,(j+1,Hd.set (H.nx+1+1+1+1) (.buf 4 (LL.length+1))),⟨Xf,bF hle2 Xa,ae hcd,?_,?_,?_,?_,?_⟩,Xf,?_⟩
 ·dsimp only
  rw[aC,if_neg (Xa)];exact q1
 ·dsimp only
  rw[aC,if_neg (Xa)];exact q2
 ·dsimp only
  rw[aC,if_pos rfl,if_pos p3,hln];simp
 ·dsimp only
  rw[aC,if_neg (Xa)];exact q4
 ·dsimp only
  rw[aC,if_neg (Xa)];exact q5
 ·have hnn:H.nx≤Hd.nx:=Xa
  have hcs:=@ae Hd (H.nx+1+1+1+1) 4 (LL.length+1) hcd
  dsimp only
  rw[hln,hsn]
  simp only[aI]
  exact Z55):p:=h
theorem V28{p:Prop} (h:p:=by
 simp only[go_sem,aO,iNq,hkn,hop,zat,zau,b1,b2,b3,b4,b5,b16,hil,w1,Bd,e5,hsn _ hv]
 refine⟨⟨Xa,Xa,by simp[bG,AV.cells,AV.one]⟩,k+1,Xa,Xa,?_⟩
 exact Z38):p:=h
theorem V29{p:Prop} (h:p:=by
 have hc0:=ag (a:=2) (b:=0) (ag (a:=2) (b:=0) (aa hcl hx))
 (simp only[bkq,enterW,aJ,ltF,ne_eq,Nat.reduceEqDiff,reduceCtorEq,hc0,hm,aL];try simp (disch:=first|exact Zd|omega) [↓zmo,beq,ybc,ybd,ybe,af,wk,wk2,wk1,wkM,wkL,aj,ybf,byq,biq,ah,hcl,hc0,hm,aL];try(repeat' (first|assumption|omega|exact True.intro|refine And.intro ?_ ?_|refine ag ?_|refine ae ?_|refine aa ?_ ?_|refine ai ?_ ?_|refine au ?_|exact lRq _|refine lPq ?_ _|refine AHeap.Le.del ?_ ?_|(simp only[bt,and_true,true_and,hc0,hm,aL];first|done|omega|(simp;done)))))
 simp[bC]):p:=h
theorem V30{p:Prop} (h:p:=by
 refine⟨⟨Xa,Xa,by simp[bG,AV.cells,AV.one]⟩,k+1,Xa,Xa,?_⟩
 exact Z38):p:=h
theorem V31{p:Prop} (h:p:=by
 cases hfb:yI t k
 ·have hz:ka (bX vs) t t[k]=12:=by unfold ka;rw[if_neg hx,← hf,hfb];rfl
  rw[hz,if_neg (Xc)]at hq
  subst hq
  refine⟨t,k,⟨rfl,rfl,hk1,hg,hl⟩,?_⟩
  simp only[go_sem,aO,dm hk1,iNq,zix,hid,hne,hmg,lN,e5,d3,hfb]
  exact Z41
 ·have hz:ka (bX vs) t t[k]=0:=by unfold ka;rw[if_neg hx,← hf,hfb];rfl
  rw[hz,if_pos rfl]at hq
  refine⟨t,k,⟨rfl,rfl,hk1,hg,hl⟩,?_⟩
  simp only[go_sem,aO,dm hk1,iNq,zix,hid,hne,hmg,lN,e5,d3,hfb]
  refine⟨k+1,⟨Xa,hq⟩,Xa,?_⟩
  exact Z40):p:=h
theorem V32{p:Prop} (h:p:=by
 refine⟨Xa,?_⟩
 exact Z0):p:=h
theorem V33{p:Prop} (h:p:=by
 simp only[go_sem]
 exact Z0):p:=h
theorem V34{p:Prop} (h:p:=by
 refine ACalls.fW az (tCq fP (tCq dH (tCq iR (tCq fF (tCq dK tNq))))) Tryz.func72 [.tmp 6] (nrq _) (T:=ay [(5,[[],[],[],[],[],[],[],[],[],[],[],[],[],[],[],[1,5,14],[1,5,11,14,15]]),(7,[[],[],[],[],[],[],[],[],[],[1,6,8]]),(9,[[],[],[],[],[],[],[],[],[1]])]) (h:=fun hcl hlt=>?_)
 clear hlt
 simp only[go_sem,gB,gd,i2,i3,i4,i5,i6,iNq,bZ,d1,d2,d3,beq_self_eq_true,cZ,cY,Bool.bne_false,z2,z3,bt1,bf1,nn,jQ,gP,p2V,vv,gS,fI,io,c2,g1]
 (repeat with_reducible refine Yq ?_)
 exact Z0):p:=h
theorem V35{p:Prop} (h:p:=by
 (simp only[bkq,enterW,aJ,ltF,ne_eq,Nat.reduceEqDiff,reduceCtorEq,hc0,hm,hm2,aB,aL];try simp (disch:=first|exact Zd|omega) [↓zmo,beq,ybc,ybd,ybe,af,wk,wk2,wk1,wkM,wkL,aj,ybf,byq,biq,ah,hcl,hc0,hm,hm2,aB,aL];try(repeat' (first|assumption|omega|exact True.intro|refine And.intro ?_ ?_|refine ag ?_|refine ae ?_|refine aa ?_ ?_|refine ai ?_ ?_|refine au ?_|exact lRq _|refine lPq ?_ _|refine AHeap.Le.del ?_ ?_|(simp only[bt,and_true,true_and,hc0,hm,hm2,aB,aL];first|done|omega|(simp;done)))))
 all_goals simp[aS,jc]):p:=h
theorem V36{p:Prop} (h:p:=by
 rename_i hc
 have hlt:=dT hc
 rcases bp hr with⟨q,e,rfl⟩|⟨b,p1,t1,e,e2⟩
 ·obtain⟨m1,m2⟩:=h _ _ _ _ e hg trivial (Xa);exact⟨m1,Xa⟩
 ·cases e2
  obtain⟨k1,k2,k3,k4,k5,k6⟩:=h _ _ _ _ e hg trivial Xa
  simp only[Rl.isL,Bool.false_eq_true,if_false]at k4
  exact⟨Xb,k2,Xd,by simp[Rl.isL];omega,k5.snoc ⟨by simp[nd2],by simp[nd2]⟩ (show(0:Nat)<2^128 by decide) (.inr ⟨by simp only[nd2];omega,by simp only[nd2];omega⟩),Xd⟩):p:=h
theorem V37{p:Prop} (h:p:=by
 (simp only[bkq,enterW,aJ,ltF,ne_eq,Nat.reduceEqDiff,reduceCtorEq,hc0,hm,aB];try simp (disch:=first|exact Zd|omega) [↓zmo,beq,ybc,ybd,ybe,af,wk,wk2,wk1,wkM,wkL,aj,ybf,byq,biq,ah,hcl,hc0,hm,aB];try(repeat' (first|assumption|omega|exact True.intro|refine And.intro ?_ ?_|refine ag ?_|refine ae ?_|refine aa ?_ ?_|refine ai ?_ ?_|refine au ?_|exact lRq _|refine lPq ?_ _|refine AHeap.Le.del ?_ ?_|(simp only[bt,and_true,true_and,hc0,hm,aB];first|done|omega|(simp;done)))))
 simp[aS,cd]):p:=h
theorem V38{p:Prop} (h:p:=by
 simp only[go_sem,f1,f2,hgi,hgt',hsi,hst,bw,bE,bS,dd,cA,c6,cB,cx,bR,cj,cn,bI,hne,ne_eq,hne',hl5,iNq,bj,bh,i1,Int.reduceLE,eq_self,nFq]
 exact Z25):p:=h
theorem V39{p:Prop} (h:p:=by
 simp only[lAq,yaz,yba,nzq,aR]at hK hc3
 exact cJ hK (nrq _) ((lRq _).push _) hc3):p:=h
theorem V40{p:Prop} (h:p:=by
 refine ACalls.fW az (tCq fD (tCq dZ (tCq fM (tCq dp tNq)))) Tryz.func85 [.tmp 6] (nrq _) (T:=ay [(8,[[],[],[],[],[],[],[],[],[],[],[],[],[],[],[],[1,5,14],[1,5,11,14,15]])]) (h:=fun hcl hlt=>?_)
 clear hlt
 simp only[go_sem,gB,dn,eL,p2V,vv,i2,i3,i4,i5,i6,w1,w2,w3,bt1,bf1,iNq,bZ,d1,d2,d3,beq_self_eq_true,cZ,cY,Bool.bne_false,z2,z3,kU,fU,gS,fI,io,c2,g1]
 (repeat with_reducible refine Yq ?_)
 exact Z0):p:=h
theorem V41{p:Prop} (h:p:=by
 simp only[go_sem,biq,ah,if_pos hs,er,eq,en]
 refine⟨⟨Xa,Xa⟩,Xa,(m/10,l++[m%10]),⟨?_,?_,Xd,by simpa using hq⟩,Xa,?_⟩
 ·rw[hn,nI,lAq,List.length_singleton,Nat.pow_succ,Nat.mul_assoc,Nat.add_assoc,← Nat.mul_add]
  congr 2;simp[dv];omega
 ·exact fun d hd=>by
   rcases List.mem_append.1 hd with hd|hd
   ·exact hl d hd
   ·rw[List.mem_singleton.1 hd];omega
 ·exact Z4):p:=h
theorem V42{p:Prop} (h:p:=by
 rw[gPq _ _ (by simp[AHeap.push,AHeap.set];omega),gPq _ _ (by simp[AHeap.set];omega),AHeap.get_set_same _ _ hid2]):p:=h
theorem V43{p:Prop} (h:p:=by
 simp only[go_sem,nAV,hs,yJ,mAV,kD,hi,Int.reduceBEq]
 refine⟨a,b,⟨rfl,rfl,ha,hb,hc⟩,?_⟩
 simp only[go_sem,nAV,uc,sZ,tD,t8]
 exact Z0):p:=h
theorem V44{p:Prop} (h:p:=by
 rw[if_pos rfl]
 refine Yfv az tNq Tryz.func117 [.tmp 2] fun hcl hlt=>?_
 clear hlt
 simp only[go_sem,Int.reduceBEq]
 exact Z47):p:=h
theorem V45{p:Prop} (h:p:=by
 rw[hs,if_neg (Xb)]at x2
 rw[← x2,aR]at hK
 simp only[go_sem,hfree,f1,f2,hgi,hgt',hsi,hst,aQ,aM,aR,aU,bA,aV,bg,hne,ne_eq,hne',hl5,iNq,bj,bh,i1,Int.reduceLE,eq_self,nFq,Bool.not_true,Bool.not_false,Bool.true_and,Bool.false_and,lAq,yaz,yba,nzq,x3,hs,if_false]
 exact cJ hK (hnx _ _) (lRq _) (hcl2 _ _ _)):p:=h
theorem V46{p:Prop} (h:p:=by
 try simp only[aF,go_sem]
 exact Z0):p:=h
theorem V47{p:Prop} (h:p:=by
 simp only[lAq,yaz,yba,nzq]at hc3 ⊢
 refine⟨Xa,?_⟩
 exact Z32):p:=h
theorem V48{p:Prop} (h:p:=by
 simp only[bnq,enter,gX,ltF,ne_eq,Nat.reduceEqDiff,reduceCtorEq]
 exact .inl rfl):p:=h
theorem V49{p:Prop} (h:p:=by
 have h2':k=b.length:=by simp at h2;omega
 subst h2'
 rw[List.drop_length]at hl2
 simp only[fO]at hl2
 simp only[go_sem,byq]
 refine aq (fun h3=>?_) (fun h3=>?_)
 ·have hbn:b=[]:=by simpa using h3
  simp only[go_sem,byq,if_pos hbn,ww,z0]
  exact Z0
 ·have hbn:b≠[]:=by simpa using h3
  simp only[go_sem,byq,if_neg hbn,ww,hl2,nAV]
  exact Z0):p:=h
theorem V50{p:Prop} (h:p:=by
 refine⟨⟨by rw[cT,hLl],by rw[cT];omega,by rw[cT];omega,fun z hz=>?_⟩,k+1,Xa,Xa,?_⟩
 ·rw[List.mem_singleton.1 hz];rfl
 simp only[hfo,cT,hLl,e5]
 exact Z52):p:=h
theorem V51{p:Prop} (h:p:=by
 obtain⟨m1,m2⟩:=h _ _ _ _ e hg trivial (Xa);exact⟨m1,Xa⟩):p:=h
theorem V52{p:Prop} (h:p:=by
 refine⟨t,vs,⟨rfl,rfl,hot,hov⟩,?_⟩
 by_cases hch:(chk (bX vs) t).2=0
 ·have d4:((((chk (bX vs) t).2:Nat):Int) !=0)=false:=by rw[hch];rfl
  rw[if_neg (fun h=>h hch)]
  simp only[go_sem,d4]
  exact Z45
 ·have d4:((((chk (bX vs) t).2:Nat):Int) !=0)=true:=bne_iff_ne.2 Xa
  rw[if_pos hch]
  simp only[go_sem,d4]
  exact Z46):p:=h
theorem V53{p:Prop} (h:p:=by
 have:=jx (m:=m) (n:=gY m k)
 rw[hp]at this
 rw[hu]at this ⊢
 dsimp only at this
 first|exact this|simpa using this):p:=h
theorem V54{p:Prop} (h:p:=by
 simp only[go_sem,hkg,bW,iNq,g1,ax g1,g2,ax g2,g3,r1,r2,r3,r4,r5,r6,r7,r8,r9,r10,r11,r12,if_false,d1,ybb,e5,c1,c2,c3,c4,dn,vv,aI]
 refine⟨(k+1,Hc),⟨Xf,hle,hcc,g1,g2,by dsimp only;rw[hrow];exact g3⟩,Xf,?_⟩
 have hnn:H.nx≤Hc.nx:=Xa
 dsimp only
 simp only[hrow]
 exact Z60):p:=h
theorem V55{p:Prop} (h:p:=by
 simp only[bn,aF,bhq,yaq,yar,yao,yap,go_sem,dn1,dn2]
 exact Z0):p:=h
theorem V56{p:Prop} (h:p:=by
 simp only[lAq,yaz,yba,nzq]at hc3 ⊢
 exact Z34):p:=h
theorem V57{p:Prop} (h:p:=by
 simp only[Nat.add_assoc,Nat.reduceAdd]at i1 i2 i3 h1 h2
 simp only[cW,Nat.add_assoc,Nat.reduceAdd,hb,ci,h1,h2,if_true,if_false,rf]
 rw[i1]
 exact⟨rfl,c,i2,i3⟩):p:=h
theorem V58{p:Prop} (h:p:=by
 simp only[lAq,yaz,yba,nzq,aR,nd2]at hK hc3
 exact cJ hK (hnx _ _) (lRq _) hc3):p:=h
theorem V59{p:Prop} (h:p:=by
 refine⟨Xa,t,e,t[k].a,⟨rfl,rfl,rfl,Xa,hW,hT,hb,hfa⟩,?_⟩
 simp only[go_sem]
 refine⟨t,e,t[k].b,⟨rfl,rfl,rfl,Xa,hW,hT,hb,hfb⟩,?_⟩
 simp only[go_sem]
 refine⟨(val e t t[k].a).num,(val e t t[k].b).num,⟨rfl,rfl,hsm Xa,hsm Xa⟩,?_⟩
 simp only[go_sem,zAV]
 exact Z0):p:=h
theorem V60{p:Prop} (h:p:=by
 rw[if_neg (Nat.not_lt.2 hf)]at hl2
 have hv:nT z=.tup [.agg [.int .u64 0,.int .u64 0],.bool false]:=by unfold nT;rw[if_neg (by omega)]
 simp only[go_sem,byq,en,nAV,mr]
 refine⟨z,⟨rfl,hN⟩,?_⟩
 have hbn:b≠[]:=by intro h;subst h;simp at h2'
 simp only[go_sem,byq,zat,hv,hl2,if_neg hbn,ww,z0]
 exact Z0):p:=h
theorem V61{p:Prop} (h:p:=by
 simp only[bn,aF,bhq,yaq,yar,yao,yap,go_sem]
 exact Z0):p:=h
theorem V62{p:Prop} (h:p:=by
 simp only[lAq,yaz,yba,nzq]at hK' hc3
 exact cJ hK' (hnx _ _) (lRq _) hc3):p:=h
theorem V63{p:Prop} (h:p:=by
 rw[hkt];simp[aS,iX,eY,dX,hkd,jf,sA,mW,m8,hpres,]):p:=h
theorem V64{p:Prop} (h:p:=by
 obtain⟨b1,b2⟩:=oW (q:=q) (l:=l) (k:=0)
 rcases b2 with b2|b2
 ·exact .inl ⟨b2,ll b2⟩
 ·obtain⟨i,hi⟩:∃ i:Nat,ixP q l 0=((0+i:Nat):Int):=⟨(ixP q l 0).toNat,Xa⟩
  obtain⟨x,h1,h2,h3⟩:=lQ hi
  rw[nzq]at hi
  exact .inr ⟨i,x,hi,Xa,h1,h3,h2⟩):p:=h
theorem V65{p:Prop} (h:p:=by
 simp only[bnq,enter,gX,ltF,ne_eq,Nat.reduceEqDiff,reduceCtorEq,e,true_or,and_true]
 all_goals rfl):p:=h
theorem V66{p:Prop} (h:p:=by
 simp only[bn,aF,bhq,yaq,yar,yao,yap,go_sem,c1,c2,c3,b1,b2,b3,b4,b5,b6,b7,b8]
 exact Z0):p:=h
theorem V67{p:Prop} (h:p:=by
 simp only[go_sem,hi,Int.reduceBEq,iK,i9,ke,kg,zij,eX,eV,Mv.bo]
 refine⟨z,rfl,?_⟩
 exact Z0):p:=h
theorem V68{p:Prop} (h:p:=by
 exact cJ hK (hnx _ _) (lRq _) (hcl2 _ _ _)):p:=h
theorem V69{p:Prop} (h:p:=by
 refine⟨Xa,t,e,t[k].a,⟨rfl,rfl,rfl,Xa,Xa,hW,hT,hb,hB,hfa⟩,?_⟩
 simp only[go_sem]
 refine⟨fun hx1=>?_,fun hx1=>⟨t,e,t[k].b,⟨rfl,rfl,rfl,Xa,Xa,hW,hT,hb,hB,hfb⟩,?_⟩⟩
 ·exact Z54
 ·simp only[go_sem]
  exact Z54):p:=h
theorem V70{p:Prop} (h:p:=by
 have d:decide ((-1:Int)<0)=true:=rfl
 simp only[aF,go_sem,d]
 exact Z0):p:=h
theorem V71{p:Prop} (h:p:=by
 refine⟨fun hx=>?_,fun hx=>?_⟩<;>simp (disch:=first|exact Zd|omega) [↓zmo,beq,ybc,ybd,ybe,af,wk,wk2,wk1,wkM,wkL,aj,ybf,hcl,hx]):p:=h
theorem V72{p:Prop} (h:p:=by
 exact xc (t:=[]) hK hcl (((((lRq H).push _).push _).push _).push _) rfl rfl rfl):p:=h
theorem V73{p:Prop} (h:p:=by
 simp (disch:=first|exact Zd|omega) [↓zmo,beq,ybc,ybd,ybe,af,wk,wk2,wk1,wkM,wkL,aj,ybf,hcc,hle,hcl]
 exact(hle.push _).push _):p:=h
theorem V74{p:Prop} (h:p:=by
 simp only[ju,lAq,yaz,yba]
 repeat first|exact .refl _|refine .push ?_ _):p:=h
theorem V75{p:Prop} (h:p:=by
 simp only[go_sem,e]
 exact Z0):p:=h
theorem V76{p:Prop} (h:p:=by
 simp only[n6,if_false]
 refine⟨⟨trivial,Xa,Xa,fun z hz=>by rw[List.mem_singleton.1 hz];rfl⟩,?_⟩
 rw[hsn]
 have hle3:=(bF hle (show H.nx≤(H.nx+1+1+1+1) by omega) (o:=.buf 4 (G.length+1))).push (.buf 4 1)
 exact Z56):p:=h
theorem V77{p:Prop} (h:p:=by
 have d3:decide (z<z)=false:=Xb
 refine Yfv az tNq Tryz.func106 [.tmp 4] fun hcl hlt=>?_
 clear hlt
 simp only[go_sem,cZ,cY,th,tL,h.1,d1,d2,d3,decide_true,Bool.and_false,Bool.bne_false,Bool.and_true,Bool.true_and]
 exact Z0):p:=h
theorem V78{p:Prop} (h:p:=by
 try(repeat with_reducible refine Yq ?_)
 refine⟨⟨rfl,M4 ?_ hrw (Fh Xa),rfl,rfl,by simp[wk1,wkM],trivial⟩,by repeat first|exact .refl _|refine .push ?_ _,hcl,by simp[znr,znu,znv,znf,aN,lj,gU]⟩
 simp only[go_sem]):p:=h
theorem V79{p:Prop} (h:p:=by
 unfold lG at hw2
 cases hge2:l[p+1+1]? with
 |none=>rw[hge2]at hw2;cases hw2
 |some v =>
  obtain⟨k2,y2,z2⟩:=v
  rw[hge2]at hw2
  dsimp only at hw2 ⊢
  split at hw2
  ·rename_i hk;cases hw2;rw[if_pos hk]
  ·cases hw2):p:=h
theorem V80{p:Prop} (h:p:=by
 rw[hs,if_neg (Xb)]at x2
 cases x2
 simp only[go_sem,f1,f2,hgi,hgt',hsi,hst,bw,bE,bS,dd,cA,c6,cB,cx,bR,cj,cn,bI,hne,ne_eq,hne',hl5,iNq,bj,bh,i1,Int.reduceLE,eq_self,nFq,x3,hs,if_false]
 exact Z25):p:=h
theorem V81{p:Prop} (h:p:=by
 simp only[aF,go_sem,d]
 exact Z0):p:=h
theorem V82{p:Prop} (h:p:=by
 rw[if_neg hs]at hop'
 have hs':isS l p so=false:=by simpa using hs
 simp only[go_sem,iNq,jI,hgo,cj,f1,hg,bw,hs',if_false,hp,hl,e5]
 refine⟨Xa,i+1,⟨Xa,hop'⟩,Xa,?_⟩
 exact Z29):p:=h
theorem V83{p:Prop} (h:p:=by
 cases o with
 |none =>
  dsimp only at hR
  subst hR
  simp only[aF,go_sem,Option.getD_none,yax,bO,ip]
  exact Z0
 |some g =>
  dsimp only at hR
  subst hR
  simp only[aF,go_sem,Option.getD_some,yaw,bO]
  exact Z0):p:=h
theorem V84{p:Prop} (h:p:=by
 rw[gPq _ _ (by simp[AHeap.push,AHeap.set];omega),gPq _ _ (by simp[AHeap.push,AHeap.set];omega),gPq _ _ (by simp[AHeap.set];omega),AHeap.get_set_same _ _ hid2]):p:=h
theorem V85{p:Prop} (h:p:=by
 simp only[lAq,yaz,yba,nzq]at hc3 ⊢
 exact Z32):p:=h
theorem V86{p:Prop} (h:p:=by
 rcases Nat.lt_or_ge i S.fields.length with h|h
 ·exact h
 ·rw[gNq h]at h1;cases h1):p:=h
theorem V87{p:Prop} (h:p:=by
 clear hlt
 have hx:=isNum_cases.1 hn
 rcases(Xa:(n.op:Int)=1∨(n.op:Int)=3∨(n.op:Int)=4∨(n.op:Int)=6∨(n.op:Int)=7)with h|h|h|h|h <;>
 ·simp only[go_sem,lM,h,Int.reduceBEq]
  exact Z0):p:=h
theorem V88{p:Prop} (h:p:=by
 simp only[go_sem,aO,dm hk1,iNq,hkn,hrl,hgets _ ga,hgets _ gb,w1,Bd,hen _ hz,e5]
 refine⟨Xa,Xa,Xa,Xa,Xa,Xa,k+1,Xa,Xa,?_⟩
 exact Z36):p:=h
theorem V89{p:Prop} (h:p:=by
 unfold lG at hw2
 cases hge2:l[p+1+1]? with
 |none=>rfl
 |some v =>
  obtain⟨k2,y,z2⟩:=v
  rw[hge2]at hw2
  dsimp only at hw2 ⊢
  split at hw2
  ·cases hw2
  ·rename_i hk;rw[if_neg hk]):p:=h
theorem V90{p:Prop} (h:p:=by
 dsimp only at hR
 subst hR
 rw[b1]
 have d:decide ((-1:Int)<0)=true:=rfl
 simp only[bn,aF,bhq,yaq,yar,yao,yap,go_sem,d]
 exact Z0):p:=h
theorem V91{p:Prop} (h:p:=by
 subst this
 simp only[go_sem,yaf,yba]
 simp (disch:=first|exact Zd|omega) [↓zmo,beq,ybc,ybd,ybe,af,wk,wk2,wk1,wkM,wkL,aj,ybf,hcl2]
 first|done|exact⟨hcl2 _,by simp[aN,znv]⟩):p:=h
theorem V92{p:Prop} (h:p:=by
 simp only[go_sem,f1,f2,hgi,hgt',hsi,hst,bw,bE,bS,dd,cA,c6,cB,cx,bR,cj,cn,bI,hne,ne_eq,hne',hl5,iNq,bj,bh,i1,Int.reduceLE,eq_self,nFq]
 exact Z31):p:=h
theorem V93{p:Prop} (h:p:=by
 simp only[go_sem,iNq,bJ,DW,g1,g2,Nat.mul_one,nzq,fR,st,e0]
 (repeat with_reducible refine Yq ?_)
 refine⟨i+1,Xa,Xa,?_⟩
 exact Z19):p:=h
theorem V94{p:Prop} (h:p:=by
 subst hR
 simp only[bn,aF,bhq,yaq,yar,yao,yap,go_sem,dn1,dn2]
 try(repeat with_reducible refine Yq ?_)
 exact Z0):p:=h
theorem V95{p:Prop} (h:p:=by
 simp only[go_sem,p8,e,et,bJ,fu,b3,u3,vv]
 (repeat with_reducible refine Yq ?_)
 exact Z0):p:=h
theorem V96{p:Prop} (h:p:=by
 simp only[mE,lAq,yaz,yba]
 repeat first|exact .refl _|refine .push ?_ _):p:=h
theorem V97{p:Prop} (h:p:=by
 refine Yfv az tNq Tryz.func106 [.tmp 4] fun hcl hlt=>?_
 clear hlt
 simp only[go_sem,cZ,cY,th,tL,d1,d2,Bool.false_and,Bool.bne_false,Bool.and_true]
 exact Z0):p:=h
theorem V98{p:Prop} (h:p:=by
 simp only[go_sem,iNq,BB,Nat.mul_one,nzq,fR,st,e0]
 (repeat with_reducible refine Yq ?_)
 refine⟨i+1,Xa,Xa,?_⟩
 exact Z19):p:=h
theorem V99{p:Prop} (h:p:=by
 simp[ltF,zle,znn,znf,bk cN]
 try omega):p:=h
theorem V100{p:Prop} (h:p:=by
 exact⟨.nil,1,by rw[h],.inr (List.map_eq_nil_iff.1 h)⟩):p:=h
theorem V101{p:Prop} (h:p:=by
 dsimp only
 rw[gPq _ _ Xg,gPq _ _ Xg,gPq _ _ (Xa)];exact g2):p:=h
theorem V102{p:Prop} (h:p:=by
 dsimp only
 rw[gPq _ _ Xg,gPq _ _ Xg,gPq _ _ (Xa)];exact g1):p:=h
theorem V103{p:Prop} (h:p:=by
 dsimp only
 rw[gPq _ _ Xg,gPq _ _ Xg,gPq _ _ Xa,g3];simp):p:=h
theorem V104{p:Prop} (h:p:=by
 rcases(Xa:cv b (u+1) 5=0∨cv b (u+1) 5=1∨cv b (u+1) 5=2∨cv b (u+1) 5=3∨cv b (u+1) 5=4)with e|e|e|e|e<;>rw[e]<;>simp only[yau,yav]<;>omega):p:=h
theorem V105{p:Prop} (h:p:=by
 simp only[go_sem,aO,dm hk2,iNq,e6,d1,d2,lU]
 refine⟨Xa,t[t.length-1].op,⟨rfl,g1,g2⟩,?_⟩
 simp only[go_sem,d2]
 exact Z41):p:=h
theorem V106{p:Prop} (h:p:=by
 simp[ltF,zle,znn,znf]
 try omega):p:=h
theorem V107{p:Prop} (h:p:=by
 obtain⟨h1,h2,h3,h4,h5,h6,h7⟩:=h
 have htb:=glq h2
 refine⟨h1,?_,ht,hp,h5,h6,hg⟩
 rw[aC,if_pos rfl,if_pos (by simpa[zlf]using htb)]):p:=h
theorem V108{p:Prop} (h:p:=by
 rw[Nat.add_zero]
 rcases(Xa:cv b (u+1) 5=0∨cv b (u+1) 5=1∨cv b (u+1) 5=2∨cv b (u+1) 5=3∨cv b (u+1) 5=4)with e|e|e|e|e<;>rw[e]<;>rfl):p:=h
theorem V109{p:Prop} (h:p:=by
 refine⟨Xa,Xa,?_⟩
 exact Z0):p:=h
theorem V110{p:Prop} (h:p:=by
 simp[ltF,hnx,zle,znn,znf,bk oE,aN,znu,znv]
 try omega):p:=h
theorem V111{p:Prop} (h:p:=by
 refine⟨fun hx=>?_,fun hx=>⟨w,rfl,?_⟩⟩<;>simp (disch:=first|exact Zd|omega) [↓zmo,beq,ybc,ybd,ybe,af,wk,wk2,wk1,wkM,wkL,aj,ybf,hcl,hx]):p:=h
theorem V112{p:Prop} (h:p:=by
 refine Yfv az tNq Tryz.func109 [.tmp 2] fun hcl hlt=>?_
 clear hlt
 simp only[go_sem,h3]
 (repeat with_reducible refine Yq ?_)
 exact Z0):p:=h
theorem V113{p:Prop} (h:p:=by
 cases h;exact hg.snoc ⟨Nat.zero_le _,Nat.zero_le _,fun _=>⟨rfl,rfl⟩⟩):p:=h
theorem V114{p:Prop} (h:p:=by
 cases en with
 |returned v=>exact⟨γ1,h1.drop h3 h4,he.drop0 h3 hn,vB h1 h3 (show Rel w' γ1 H' x v from hend) h2 h5⟩
 |_=>exact hend.elim):p:=h
theorem V115{p:Prop} (h:p:=by
 simp only[go_sem,byq,gJ,a9]
 refine⟨?_,by repeat first|exact .refl _|refine .push ?_ _,hcl2 _,oE _⟩
 simp[wk,wk2,wkL,wk1,wkM,nL,gI,a9]):p:=h
theorem V116{p:Prop} (h:p:=by
 simp[ltF,ju,znn,znf,zle,zlf,bk dM]
 omega):p:=h
theorem V117{p:Prop} (h:p:=by
 have:=h _ _ _ _ e hg trivial hp;exact this):p:=h
theorem V118{p:Prop} (h:p:=by
 rw[wrap_i64 Xa (Xa)]):p:=h
theorem V119{p:Prop} (h:p:=by
 simp only[bn,aF,bhq,yaq,yar,yao,yap,go_sem,c1,b1,b2,b3,b4,b5,b6,b7,b8]
 exact Z0):p:=h
theorem V120{p:Prop} (h:p:=by
 simp (disch:=first|exact Zd|omega) [↓zmo,beq,ybc,ybd,ybe,af,wk,wk2,wk1,wkM,wkL,aj,ybf,hcc,hle,hcl]
 exact((hle.push _).push _).push _):p:=h
theorem V121{p:Prop} (h:p:=by
 have d:decide ((-1:Int)<0)=true:=rfl
 simp only[aF,go_sem,d]
 exact Z61):p:=h
theorem V122{p:Prop} (h:p:=by
 simp only[AHeap.set,AHeap.del]
 congr 1
 funext k
 by_cases h1:k=j
 ·simp[h1]
 ·by_cases h2:k=i
  ·simp[h1,h2]
  ·simp[h1,h2]):p:=h
theorem V123{p:Prop} (h:p:=by
 exact ag (aa (ae hcc) (by simp[znu,znv,znf,znh]))):p:=h
theorem V124{p:Prop} (h:p:=by
 simp only[go_sem,M8,m1,m2,m3,e1,e2,e3,z1,z2,s2]
 refine⟨Xa,Xa,Xa,Xa,Xa,?_⟩
 rw[e4,w]
 exact Z0):p:=h
theorem V125{p:Prop} (h:p:=by
 cases hr;exact⟨hro,hp,Xa,by simp[Rl.isL],hg,nrq _⟩):p:=h
theorem V126{p:Prop} (h:p:=by
 have h1':400<s.length:=by simp at h1;omega
 have e:cE s=([],0,3):=by unfold cE;rw[if_pos h1']
 simp only[go_sem,e,gA]
 exact Z16):p:=h
theorem V127{p:Prop} (h:p:=by
 rename_i hc;rw[if_pos hc];exact h1 (h _ _ _) (fun a p t r h2=>h2) hr):p:=h
theorem V128{p:Prop} (h:p:=by
 exact⟨k+1,⟨Xa,hR⟩,Xa,nrq _,lRq _,hcl,by simp[ltF,znf,hm],by simp[aJ,wk2,wk1,wkM,Fr.get]⟩):p:=h
theorem V129{p:Prop} (h:p:=by
 simp[ltF,znn,znp,znf,znh,aN,znu,znv,zlf]
 omega):p:=h
theorem V130{p:Prop} (h:p:=by
 rw[hkt];simp[aS,iX,eY,dX,hkd,jf,sA,mW,m8,cC,]):p:=h
theorem V131{p:Prop} (h:p:=by
 exact AHeap.get_push_new _ _):p:=h
theorem V132{p:Prop} (h:p:=by
 have hk1:s.length≤k:=by simp at h2;omega
 rw[C7 hk1,yaj]at hr
 have hsc:=Ac h1' hr
 simp only[go_sem,hsc]
 exact Z18):p:=h
theorem V133{p:Prop} (h:p:=by
 have h1:=AV.lt_mono hn _ (hlt (.agg [a1,a2,.slice m 2 (ps.map bV),a3,a4]) Xb)
 rw[znr]at h1;exact h1.2.2.1):p:=h
theorem V134{p:Prop} (h:p:=by
 simp only[go_sem,biq,ah,e3,e5,kw,← oz]
 refine⟨⟨Xa,Xa⟩,k+1,Xa,Xa,?_⟩
 exact Z2):p:=h
theorem V135{p:Prop} (h:p:=by
 obtain⟨x,_,rfl⟩:=List.mem_map.1 hz;rfl):p:=h
theorem V136{p:Prop} (h:p:=by
 have hk1:k=15:=by simp at h1;omega
 subst hk1
 have h0:mq s=[]:=by rw[hs];rfl
 simp only[go_sem,h0]
 exact Z0):p:=h
theorem V137{p:Prop} (h:p:=by
 obtain⟨a1,p1,t1,e1,e2⟩:=cH hr
 exact h _ _ _ _ _ _ e2 ((h _ _ _ _ _ _ e1 hg).snoc (h2 _ _ _ Xc))):p:=h
theorem V138{p:Prop} (h:p:=by
 rw[hi]
 simp only[aF,go_sem,d,iNq,hg',cD,ybb]
 (repeat with_reducible refine Yq ?_)
 exact Z0):p:=h
theorem V139{p:Prop} (h:p:=by
 simp[ltF,mE,znn,znf,zle,zlf,bk yc]
 omega):p:=h
theorem V140{p:Prop} (h:p:=by
 exact leaf _ _ (show 1≤3 by decide) (nrq 3) (show(0:Nat)<2^128 by decide) Xa Xa):p:=h
theorem V141{p:Prop} (h:p:=by
 refine⟨k+1,⟨Xa,hs⟩,Xa,?_⟩
 exact Z15):p:=h
theorem V142{p:Prop} (h:p:=by
 refine⟨j+1,⟨Xa,hq⟩,Xa,?_⟩
 exact Z42):p:=h
theorem V143{p:Prop} (h:p:=by
 have d3:((e:Int) !=0)=true:=bne_iff_ne.2 Xa
 rw[if_pos he]
 simp only[go_sem,d3]
 exact Z46):p:=h
theorem V144{p:Prop} (h:p:=by
 obtain⟨a1,p1,t1,e1,e2⟩:=cH hr
 cases e2
 exact(h _ _ _ _ _ _ e1 hg).snoc (h2 _ _ _ Xc)):p:=h
theorem V145{p:Prop} (h:p:=by
 have:n.natAbs=dv l:=by rw[hn,h2'];simp
 rw[← this,qQ]
 show zAV _=zAV n
 congr 1
 simp[hs];omega):p:=h
theorem V146{p:Prop} (h:p:=by
 change af (H.set id (rst m l (p+1) true tb t)) _ (H.set id (rst m l (p+1) true tb t)) _
 exact Z27):p:=h
theorem V147{p:Prop} (h:p:=by
 rcases Nat.lt_or_ge i t.length with h|h
 ·exact h
 ·rw[gNq h]at hi;cases hi):p:=h
theorem V148{p:Prop} (h:p:=by
 simp only[bnq,enter,gX,ltF,ne_eq,Nat.reduceEqDiff,reduceCtorEq,true_or,and_true]
 all_goals rfl):p:=h
theorem V149{p:Prop} (h:p:=by
 rw[Bool.eq_iff_iff]
 simp only[Bool.and_eq_true,beq_iff_eq,decide_eq_true_eq,and_true]
 omega):p:=h
theorem V150{p:Prop} (h:p:=by
 simp only[go_sem,d1,d2,d3,d4,d5,iK,i9,ke,kg,zij,eX,eV,Mv.bo]
 refine⟨z,rfl,?_⟩
 exact Z0):p:=h
theorem V151{p:Prop} (h:p:=by
 rw[List.take_succ_eq_append_getElem (by rw[hkb];exact hj1)]
 congr 1
 subst hV
 simp[eY,fg]):p:=h
theorem V152{p:Prop} (h:p:=by
 exact⟨by simp[i1],fun m hm'=>(List.mem_cons.1 hm').elim (fun e=>e▸hm) (i2 m),i3,i4⟩):p:=h
theorem V153{p:Prop} (h:p:=by
 rw[kq s _ (fun j=>decide (j<i+1)) i (fun j hj=>by rw[decide_eq_decide];omega) (Xb)]):p:=h
theorem V154{p:Prop} (h:p:=by
 simp only[go_sem,e5]
 refine⟨k+1,⟨Xa,z8 hk1 h2 hs⟩,Xa,?_⟩
 exact Z1):p:=h
theorem V155{p:Prop} (h:p:=by
 cases hr;exact⟨List.prefix_refl _,hs.1,hs.2⟩):p:=h
theorem V156{p:Prop} (h:p:=by
 rw[gEq,gQq hmi]
 exact gMq hmi):p:=h
theorem V157{p:Prop} (h:p:=by
 simp only[go_sem,byq,biq,ah,zAV,en,e3]
 refine⟨j,Xa,Xa,?_⟩
 exact Z8):p:=h
theorem V158{p:Prop} (h:p:=by
 rw[nU h1];congr 1;simp only[AHeap.set];congr 1;funext k;by_cases hk:k=id<;>simp[hk]):p:=h
theorem V159{p:Prop} (h:p:=by
 exact AHeap.get_set_same _ _ (show id<(H.del mid).nx by rw[ir];exact glq hg)):p:=h
theorem V160{p:Prop} (h:p:=by
 by_cases hc:l.length<20
 ·exact hc
 ·rw[show 20-l.length=0 by omega]at hm;omega):p:=h
theorem V161{p:Prop} (h:p:=by
 rw[Bool.eq_iff_iff];simp only[Bool.and_eq_true,beq_iff_eq,decide_eq_true_eq];omega):p:=h
theorem V162{p:Prop} (h:p:=by
 rw[dfq hn,if_neg (Xb)];omega):p:=h
theorem V163{p:Prop} (h:p:=by
 refine⟨(j+1,r),⟨Xf,hq⟩,Xf,?_⟩
 exact Z38):p:=h
theorem V164{p:Prop} (h:p:=by
 exact Int.fdiv_eq_ediv_of_nonneg _ Xc):p:=h
theorem V165{p:Prop} (h:p:=by
 rw[AV.lt]
 exact⟨fun id e=>(by cases e),fun j hj=>h _ (gMq hj)⟩):p:=h
theorem V166{p:Prop} (h:p:=by
 exact ov _ _ _ _ Xt Xt):p:=h
theorem V167{p:Prop} (h:p:=by
 have h1':k=n:=by simp at h1;omega
 subst h1'
 simp only[go_sem,biq,ah]
 exact Z0):p:=h
theorem V168{p:Prop} (h:p:=by
 rename_i hc;rw[if_pos hc];exact h1 (h _ _ _) (fun a p t r h2=>h _ _ _ _ h2) hr):p:=h
theorem V169{p:Prop} (h:p:=by
 obtain⟨m1,m2⟩:=h _ _ _ _ e3 k5 trivial (Xa);exact⟨m1,Xa⟩):p:=h
theorem V170{p:Prop} (h:p:=by
 have:=@jr fs keys ms k
 rw[← hLL,lAq,List.length_take];omega):p:=h
theorem V171{p:Prop} (h:p:=by
 rw[yaz]at hy2 ⊢
 rw[wrap_i64]<;>omega):p:=h
theorem V172{p:Prop} (h:p:=by
 have:=eW (b:=b) (v:=u) (n:=256) Xc
 rw[c8 Xa (Xa)]):p:=h
theorem V173{p:Prop} (h:p:=by
 rw[decide_eq_decide];exact⟨fun h=>h.1,fun h=>⟨h,fun g=>p1 g.1⟩⟩):p:=h
theorem V174{p:Prop} (h:p:=by
 refine⟨(k+1,n*16+dg c),⟨Xa,hf,hl2⟩,Xa,?_⟩
 exact Z11):p:=h
theorem V175{p:Prop} (h:p:=by
 exact leaf _ _ Xc Xc Xc Xa Xa):p:=h
structure HdT(q:Prop):Prop where
 h:q
theorem T0{p q:Prop}(h:q) (f:HdT q→p:=by
 intro hZq
 (repeat with_reducible refine Yq ?_)
 exact hZq.h):p:=f ⟨h⟩
theorem T1{p q:Prop}(h:q) (f:HdT q→p:=by
 intro hZq
 try(repeat with_reducible refine Yq ?_)
 exact hZq.h):p:=f ⟨h⟩
theorem T2{p q:Prop}(h:q) (f:HdT q→p:=by
 intro hZq
 simp only[go_sem,hkg,bW,iNq,g1,ax g1,g2,ax g2,g3,r1,r2,r3,r4,r5,r6,r7,r8,r9,r10,r11,r12,if_false,d1,ybb,e5,hgm,aP,bQ,vc,yal,yak,List.append_assoc,hpres,c1,c2,c3,c4,hs10,ht10,hle10,aI]
 exact hZq.h):p:=f ⟨h⟩
theorem T3{p q:Prop}(h:q) (f:HdT q→p:=by
 intro hZq
 simp only[go_sem,hkg,bW,iNq,g1,ax g1,g2,ax g2,g3,r1,r2,r3,r4,r5,r6,r7,r8,r9,r10,r11,r12,if_false,d1,ybb,e5,c1,c2,c3,c4,dn,vv,aI]
 exact hZq.h):p:=f ⟨h⟩
theorem T4{p q:Prop}(h:q) (f:HdT q→p:=by
 intro hZq
 simp only[lE,go_sem,hfree,f1,f2,hgi,hgt',hsi,hst,aQ,aM,aR,aU,bA,aV,bg,hne,ne_eq,hne',hl5,iNq,bj,bh,i1,Int.reduceLE,eq_self,nFq,Bool.not_true,Bool.not_false,Bool.true_and,Bool.false_and,lAq,yaz,yba,nzq,ht2]
 exact hZq.h):p:=f ⟨h⟩
theorem T5{p q:Prop}(h:q) (f:HdT q→p:=by
 intro hZq
 simp only[bn,aF,bhq,yaq,yar,yao,yap,go_sem,bD,co,hg,hgc,bB hb,bT,bq,ce,hne,kp,c4,w8,w1,iNq]
 exact hZq.h):p:=f ⟨h⟩
theorem T6{p q:Prop}(h:q) (f:HdT q→p:=by
 intro hZq
 simp only[go_sem,pp,gText0,gText1,gText2,gText3,bD,hgd,hci,hsi,hsd,bB hb,bT,bq,ce,e3,gtx,c3',e4,show IntKind.i64.wrap 1=1 from by decide,iNq,zok,zl,HF,cm,List.flatMap_cons,List.flatMap_nil,bc,AV.cells,yal,yak]
 exact hZq.h):p:=f ⟨h⟩
theorem T7{p q:Prop}(h:q) (f:HdT q→p:=by
 intro hZq
 simp only[go_sem,hfree,f1,f2,hgi,hgt',hsi,hst,aQ,aM,aR,aU,bA,aV,bg,hne,ne_eq,hne',hl5,iNq,bj,bh,i1,Int.reduceLE,eq_self,nFq,Bool.not_true,Bool.not_false,Bool.true_and,Bool.false_and,lAq,yaz,yba,nzq]
 exact hZq.h):p:=f ⟨h⟩
theorem T8{p q:Prop}(h:q) (f:HdT q→p:=by
 intro hZq
 simp only[go_sem,hkg,bW,iNq,g1,ax g1,g2,ax g2,g3,r1,r2,r3,r4,r5,r6,r7,r8,r9,r10,r11,r12,if_false,d1,ybb,e5,c1,c2,c3,c4,hs10,ht10,hle10,aI]
 exact hZq.h):p:=f ⟨h⟩
theorem T9{p q:Prop}(h:q) (f:HdT q→p:=by
 intro hZq
 simp only[go_sem]
 exact hZq.h):p:=f ⟨h⟩
theorem T10{p q:Prop}(h:q) (f:HdT q→p:=by
 intro hZq
 simp only[bn,aF,bhq,yaq,yar,yao,yap,go_sem,bb]
 exact hZq.h):p:=f ⟨h⟩
theorem T11{p q:Prop}(h:q) (f:HdT q→p:=by
 intro hZq
 simp only[bn,aF,bhq,yaq,yar,yao,yap,go_sem]
 exact hZq.h):p:=f ⟨h⟩
theorem T12{p q:Prop}(h:q) (f:HdT q→p:=by
 intro hZq
 simp only[bn,aF,bhq,yaq,yar,yao,yap,go_sem,Bool.not_false]
 exact hZq.h):p:=f ⟨h⟩
theorem T13{p q:Prop}(h:q) (f:HdT q→p:=by
 intro hZq
 try simp only[lE,go_sem,hfree,f1,f2,hgi,hgt',hsi,hst,aQ,aM,aR,aU,bA,aV,bg,hne,ne_eq,hne',hl5,iNq,bj,bh,i1,Int.reduceLE,eq_self,nFq,Bool.not_true,Bool.not_false,Bool.true_and,Bool.false_and,lAq,yaz,yba,nzq,hq1]
 exact hZq.h):p:=f ⟨h⟩
theorem T14{p q:Prop}(h:q) (f:HdT q→p:=by
 intro hZq
 simp only[bn,aF,bhq,yaq,yar,yao,yap,go_sem,jR,bD,bb,hg,hgc,hne,bB hb,bT,bq,ce,ybb,htg,iNq,List.set_cons_succ,List.set_cons_zero]
 exact hZq.h):p:=f ⟨h⟩
theorem T15{p q:Prop}(h:q) (f:HdT q→p:=by
 intro hZq
 simp only[go_sem,bhq,yaq,yar,yao,yap,bD,co,hg,hgc,bB hb,bT,bq,ce,hne,e2,e3,e4,e6,a33,a16,List.set_cons_succ,List.set_cons_zero]
 exact hZq.h):p:=f ⟨h⟩
theorem T16{p q:Prop}(h:q) (f:HdT q→p:=by
 intro hZq
 simp only[go_sem,f1,f2,hgi,hgt',hsi,hst,bw,bE,bS,dd,cA,c6,cB,cx,bR,cj,cn,bI,hne,ne_eq,hne',hl5,iNq,bj,bh,i1,Int.reduceLE,eq_self,nFq,hg,hp,hs0,if_false,hcs,aT,hgd,d0,kR,fX,fZ,je,hp,hgi1,hgt1,hss,ht5,iE,gz,iC,bne_self_eq_false,beq_self_eq_true,hd2,hw,htr,hp1,hs3,if_true,hp2,hw2]
 exact hZq.h):p:=f ⟨h⟩
theorem T17{p q:Prop}(h:q) (f:HdT q→p:=by
 intro hZq
 simp only[bkq,enterW,aJ,ltF,ne_eq,Nat.reduceEqDiff,reduceCtorEq]
 exact hZq.h):p:=f ⟨h⟩
theorem T18{p q:Prop}(h:q) (f:HdT q→p:=by
 intro hZq
 simp only[go_sem,hi,Int.reduceBEq,iK,i9,ke,kg,zij,eX,eV,Mv.bo]
 exact hZq.h):p:=f ⟨h⟩
theorem T19{p q:Prop}(h:q) (f:HdT q→p:=by
 intro hZq
 simp only[go_sem,hfree,f1,f2,hgi,hgt',hsi,hst,aQ,aM,aR,aU,bA,aV,bg,hne,ne_eq,hne',hl5,iNq,bj,bh,i1,Int.reduceLE,eq_self,nFq,Bool.not_true,Bool.not_false,Bool.true_and,Bool.false_and,lAq,yaz,yba,nzq,ny,x3,hs1,hs2,Bool.and_true,Bool.and_false,dr,rst,hcc,e1]
 exact hZq.h):p:=f ⟨h⟩
theorem T20{p q:Prop}(h:q) (f:HdT q→p:=by
 intro hZq
 simp only[go_sem,hkg,bW,iNq,g1,ax g1,g2,ax g2,g3,r1,r2,r3,r4,r5,r6,r7,r8,r9,r10,r11,r12,if_false,d1,ybb,e5,c1,c2,c3,c4,vv,aI]
 exact hZq.h):p:=f ⟨h⟩
theorem T21{p q:Prop}(h:q) (f:HdT q→p:=by
 intro hZq
 simp only[bn,aF,bhq,yaq,yar,yao,yap,go_sem,jR,bD,bb,hg,hgc,hne,bB hb,bT,bq,ce,ybb,htg,iNq,List.set_cons_succ,List.set_cons_zero,mE,hkg,bL,cX hb (tW _ _),QJ,Qt,e5,a15,five,d3,d4]
 exact hZq.h):p:=f ⟨h⟩
theorem T22{p q:Prop}(h:q) (f:HdT q→p:=by
 intro hZq
 simp only[bn,aF,bhq,yaq,yar,yao,yap,go_sem,Bool.not_true,e5]
 exact hZq.h):p:=f ⟨h⟩
theorem T23{p q:Prop}(h:q) (f:HdT q→p:=by
 intro hZq
 simp only[go_sem,hfree,f1,f2,hgi,hgt',hsi,hst,aQ,aM,aR,aU,bA,aV,bg,hne,ne_eq,hne',hl5,iNq,bj,bh,i1,Int.reduceLE,eq_self,nFq,Bool.not_true,Bool.not_false,Bool.true_and,Bool.false_and,lAq,yaz,yba,nzq,qr,hg,hpre',h1]
 exact hZq.h):p:=f ⟨h⟩
theorem T24{p q:Prop}(h:q) (f:HdT q→p:=by
 intro hZq
 simp only[go_sem,hfree,f1,f2,hgi,hgt',hsi,hst,aQ,aM,aR,aU,bA,aV,bg,hne,ne_eq,hne',hl5,iNq,bj,bh,i1,Int.reduceLE,eq_self,nFq,Bool.not_true,Bool.not_false,Bool.true_and,Bool.false_and,lAq,yaz,yba,nzq,pZ,hg,hpre',h1]
 exact hZq.h):p:=f ⟨h⟩
theorem T25{p q:Prop}(h:q) (f:HdT q→p:=by
 intro hZq
 simp only[go_sem,hfree,f1,f2,hgi,hgt',hsi,hst,aQ,aM,aR,aU,bA,aV,bg,hne,ne_eq,hne',hl5,iNq,bj,bh,i1,Int.reduceLE,eq_self,nFq,Bool.not_true,Bool.not_false,Bool.true_and,Bool.false_and,lAq,yaz,yba,nzq,ny,hg,hpre',h1]
 exact hZq.h):p:=f ⟨h⟩
theorem T26{p q:Prop}(h:q) (f:HdT q→p:=by
 intro hZq
 simp only[go_sem,hfree,f1,f2,hgi,hgt',hsi,hst,aQ,aM,aR,aU,bA,aV,bg,hne,ne_eq,hne',hl5,iNq,bj,bh,i1,Int.reduceLE,eq_self,nFq,Bool.not_true,Bool.not_false,Bool.true_and,Bool.false_and,lAq,yaz,yba,nzq,mB,hg,hpre',h1]
 exact hZq.h):p:=f ⟨h⟩
theorem T27{p q:Prop}(h:q) (f:HdT q→p:=by
 intro hZq
 simp only[bn,aF,bhq,yaq,yar,yao,yap,go_sem,dn1,dn2,e5]
 exact hZq.h):p:=f ⟨h⟩
theorem T28{p q:Prop}(h:q) (f:HdT q→p:=by
 intro hZq
 try simp only[aF,go_sem]
 exact hZq.h):p:=f ⟨h⟩
theorem T29{p q:Prop}(h:q) (f:HdT q→p:=by
 intro hZq
 simp only[go_sem,aO,iNq,hkn,hop,zat,zau,b1,b2,b3,b4,b5,b16,hil,w1,Bd,e5,hsz hv.symm]
 exact hZq.h):p:=f ⟨h⟩
theorem T30{p q:Prop}(h:q) (f:HdT q→p:=by
 intro hZq
 simp only[bn,aF,bhq,yaq,yar,yao,yap,go_sem,bD,co,hg,hgc,bB hb,bT,bq,ce,hne,hne2,e2,e256,a22,u256]
 exact hZq.h):p:=f ⟨h⟩
theorem T31{p q:Prop}(h:q) (f:HdT q→p:=by
 intro hZq
 simp only[go_sem,f1,f2,hgi,hgt',hsi,hst,bw,bE,bS,dd,cA,c6,cB,cx,bR,cj,cn,bI,hne,ne_eq,hne',hl5,iNq,bj,bh,i1,Int.reduceLE,eq_self,nFq,pQ,hg,hpre',h1]
 exact hZq.h):p:=f ⟨h⟩
theorem T32{p q:Prop}(h:q) (f:HdT q→p:=by
 intro hZq
 simp only[go_sem,f1,f2,hgi,hgt',hsi,hst,bw,bE,bS,dd,cA,c6,cB,cx,bR,cj,cn,bI,hne,ne_eq,hne',hl5,iNq,bj,bh,i1,Int.reduceLE,eq_self,nFq,mi,hg,hpre',h1]
 exact hZq.h):p:=f ⟨h⟩
theorem T33{p q:Prop}(h:q) (f:HdT q→p:=by
 intro hZq
 simp only[go_sem,byq]
 exact hZq.h):p:=f ⟨h⟩
theorem T34{p q:Prop}(h:q) (f:HdT q→p:=by
 intro hZq
 simp only[bn,aF,bhq,yaq,yar,yao,yap,go_sem,iNq,hgx,aP,bQ,vc,yal,yak,ybb,hp,e5]
 exact hZq.h):p:=f ⟨h⟩
theorem T35{p q:Prop}(h:q) (f:HdT q→p:=by
 intro hZq
 simp only[bn,aF,bhq,yaq,yar,yao,yap,go_sem,hcs2',hn0,hn1,hn3,gJ,a9,mL]
 exact hZq.h):p:=f ⟨h⟩
theorem T36{p q:Prop}(h:q) (f:HdT q→p:=by
 intro hZq
 simp only[bn,aF,bhq,yaq,yar,yao,yap,go_sem,d,iNq,hg',bc,ybb,dl]
 exact hZq.h):p:=f ⟨h⟩
theorem T37{p q:Prop}(h:q) (f:HdT q→p:=by
 intro hZq
 simp only[go_sem,e5]
 exact hZq.h):p:=f ⟨h⟩
theorem T38{p q:Prop}(h:q) (f:HdT q→p:=by
 intro hZq
 simp only[bn,aF,bhq,yaq,yar,yao,yap,go_sem,Bool.not_true]
 exact hZq.h):p:=f ⟨h⟩
theorem T39{p q:Prop}(h:q) (f:HdT q→p:=by
 intro hZq
 try simp only[bn,aF,bhq,yaq,yar,yao,yap,go_sem,nS,nE]
 exact hZq.h):p:=f ⟨h⟩
theorem T40{p q:Prop}(h:q) (f:HdT q→p:=by
 intro hZq
 simp only[bn,aF,bhq,yaq,yar,yao,yap,go_sem,bb,a9,kF]
 exact hZq.h):p:=f ⟨h⟩
theorem T41{p q:Prop}(h:q) (f:HdT q→p:=by
 intro hZq
 simp only[bn,aF,bhq,yaq,yar,yao,yap,go_sem,ybb,dl]
 exact hZq.h):p:=f ⟨h⟩
theorem T42{p q:Prop}(h:q) (f:HdT q→p:=by
 intro hZq
 try simp only[bn,aF,bhq,yaq,yar,yao,yap,go_sem]
 exact hZq.h):p:=f ⟨h⟩
theorem T43{p q:Prop}(h:q) (f:HdT q→p:=by
 intro hZq
 simp only[bn,aF,bhq,yaq,yar,yao,yap,go_sem,dl]
 exact hZq.h):p:=f ⟨h⟩
theorem T44{p q:Prop}(h:q) (f:HdT q→p:=by
 intro hZq
 simp only[go_sem,aO,dm hk1,iNq,zix,hid,hne,hmg,lN,e5,d3]
 exact hZq.h):p:=f ⟨h⟩
theorem T45{p q:Prop}(h:q) (f:HdT q→p:=by
 intro hZq
 simp only[bn,aF,bhq,yaq,yar,yao,yap,go_sem,d]
 exact hZq.h):p:=f ⟨h⟩
theorem T46{p q:Prop}(h:q) (f:HdT q→p:=by
 intro hZq
 try simp only[bhq,yaq,yar,yao,yap,go_sem]
 exact hZq.h):p:=f ⟨h⟩
theorem T47{p q:Prop}(h:q) (f:HdT q→p:=by
 intro hZq
 simp only[ni,sL,f2,f3,f4,zjg,go_sem,c1,c2,c3,zjh,TD.agg,Option.map_some,List.getD_cons_zero,one]
 exact hZq.h):p:=f ⟨h⟩
theorem T48{p q:Prop}(h:q) (f:HdT q→p:=by
 intro hZq
 simp only[bhq,yaq,yar,yao,yap,go_sem]
 exact hZq.h):p:=f ⟨h⟩
abbrev PCt:=List AV→AHeap→(AV→Prop)→Prop
abbrev ECt:=List AV→AHeap→(AEnd→AHeap→Prop)→Prop
theorem Yfu{P : Program}(hm : P.follows .mixedOrders=true){Ω : Tbl}(hΩ : TblOk P Ω){f : FuncId}{fn : Func}{c : Code}(hf : P.funcs[f]? =some fn)(rs : List ResultVar){args : List AV}{H H1 : AHeap}{e : AEnd}
 (h:H.Closed→aw P Ω c (KI P Ω (wo P rs H.nx e H1 (ay [])) []) (tB 0 args) H)
 (hname : (fn.name == "runtime.NumGoroutine") = false := by kernel_rfl) (hb : fn.body = some c := by rfl) (hrs : fn.results.toList = rs := by rfl) (hok : ij P Ω (ay []) fn.ntmps c = true := by kernel_rfl)
 (ha : Nat.ble args.length fn.ntmps=true :=by rfl) (hx : H.nx≤H1.nx :=by exact nrq _) : ACalls P f args H e H1 :=
 ACalls.fW hm hΩ hf rs hx hname hb hrs hok ha fun a _=>h a
theorem Yfw{P : Program}{Ω : Tbl}(hm : P.follows .mixedOrders=true)(hΩ : TblOk P Ω){f : FuncId}{fn : Func}{c : Code}(hf : P.funcs[f]? =some fn)(rs : List ResultVar){args : List AV}{H H1 : AHeap}{e : AEnd}(hnx : H.nx≤H1.nx)
 {T : Nat → List (List Nat)} (hname : (fn.name == "runtime.NumGoroutine") = false := by kernel_rfl) (hb : fn.body = some c := by rfl) (hrs : fn.results.toList = rs := by rfl) (hok : ij P Ω T fn.ntmps c = true := by kernel_rfl)
 (ha : Nat.ble args.length fn.ntmps=true :=by rfl)
 (h:H.Closed→aw P Ω c (KI P Ω (wo P rs H.nx e H1 T) []) (tB 0 args) H) : ACalls P f args H e H1:=ACalls.fW hm hΩ hf rs hnx (T:=T) hname hb hrs hok ha fun a _=>h a
abbrev Yef:=@EntOk.effect
theorem eFo{p:Prop}(h:¬p:=by omega):p=False:=eq_false h
theorem sHc{p:Prop}(h:p:=by simp at hc;omega):p:=h
theorem krf{p:Prop}(h:p:=by kernel_rfl):p:=h
abbrev tSl(P:Program)(a b:Nat):Prop:=ti P a=some ⟨.slice b,1,24,.slice .nil 1 []⟩
abbrev tFn(P:Program)(a:Nat):Prop:=ti P a=some ⟨.func,1,8,.nilf⟩
theorem kSl{P:Program}{a b:Nat}(h:ti P a=some ⟨.slice b,1,24,.slice .nil 1 []⟩:=by kernel_rfl):tSl P a b:=h
theorem kFn{P:Program}{a:Nat}(h:ti P a=some ⟨.func,1,8,.nilf⟩:=by kernel_rfl):tFn P a:=h
theorem Xk{p:Prop}(h:p:=by simp only[go_sem]):p:=h
theorem Xn{p:Prop}(h:p:=by simp only[go_sem];rfl):p:=h
end Go.AL
