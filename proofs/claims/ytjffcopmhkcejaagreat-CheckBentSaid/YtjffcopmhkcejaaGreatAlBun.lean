/- Lemmas of the proof; no condition. -/
import Derived.Test.YtjffcopmhkcejaaGreatAlByte
import Derived.Laws.Externs
set_option linter.all false
set_option linter.unusedSectionVars false
namespace Go.AL
def kJ(l:List Nat):Wz:=l.map fun(d:Nat)=>.int .i64 (d:Int)
def JU(x:AV):Nat:=match x with|.int _ n=>n.toNat|_=>0
def uni(l:Wz):List Nat:=l.map JU
def isI(l:Wz):Prop:=l=kJ (uni l)
def ur{l:List Nat}:(kJ l).length=l.length:=by simp[kJ]
theorem AC:kJ []=[]:=rfl
def ym{l:List Nat}{n:Nat}:(kJ l).take n=kJ (l.take n):=by simp[kJ]
def yK{l:List Nat}{n:Nat}:(kJ l).drop n=kJ (l.drop n):=by simp[kJ]
def uC{l m:List Nat}:kJ l++kJ m=kJ (l++m):=by simp[kJ]
def xI{l:List Nat}{n:Nat}:kJ l++[AV.int .i64 (n:Int)]=kJ (l++[n]):=by simp[kJ]
theorem Am{k:IntKind}{n:Int}:(∀ z∈[AV.int k n],dp z.cells=true)=True:=eq_true fun z hz=>by
 simp at hz;subst hz;rfl
def oR{l:List Nat}:uni (kJ l)=l:=by
 unfold uni kJ
 rw[List.map_map]
 have:(JU∘fun d=>AV.int .i64 ((d:Nat):Int))=id:=funext fun d=>by simp[JU]
 rw[this,List.map_id]
theorem EQ:uni []=[]:=rfl
theorem wU{l:List Nat}:isI (kJ l)=True:=eq_true (by show kJ l=kJ (uni (kJ l));rw[oR])
theorem DI:isI []=True:=eq_true rfl
theorem Bs{l m:List Nat}:(kJ l=kJ m)=(l=m):=propext ⟨fun h=>by have:=congrArg uni h;rwa[oR,oR]at this,fun h=>by rw[h]⟩
theorem yA{l:List Nat}:(∀ z∈kJ l,dp z.cells=true)=True:=eq_true fun z hz=>by
 obtain⟨b,_,rfl⟩:=List.mem_map.1 hz
 rfl
def zmk{n:Nat}{m:Mark}{l:List Nat}:(AV.slice m 1 (kJ l)).lt n=∀ id,m=.own id→id<n:=by
 rw[AV.lt]
 refine propext ⟨fun h=>h.1,fun h=>⟨h,fun j hj=>?_⟩⟩
 simp only[kJ,List.getElem_map]
 rw[AV.lt]<;>simp
def uB{l:List Nat}:(kJ l=[])=(l=[]):=by cases l<;>simp[kJ]
end Go.AL
open Go Go.AL
namespace Go.AL
def byq:(type_of% @zli)∧(type_of% @zlj)∧(type_of% @zlk)∧(type_of% @zll)∧(type_of% @zlm)∧(type_of% @zln)∧(type_of% @zlo)∧(type_of% @zlp)∧(type_of% @zlq)∧(type_of% @zlr)∧(type_of% @zls)∧(type_of% @zlt)∧(type_of% @zlu)∧(type_of% @zlv)∧(type_of% @zlw)∧(type_of% @zlx)∧(type_of% @zly)∧(type_of% @zlz)∧(type_of% @zma)∧(type_of% @zmb)∧(type_of% @zmc)∧(type_of% @Int.toNat_natCast) :=
 ⟨@zli,@zlj,@zlk,@zll,@zlm,@zln,@zlo,@zlp,@zlq,@zlr,@zls,@zlt,@zlu,@zlv,@zlw,@zlx,@zly,@zlz,@zma,@zmb,@zmc,@Int.toNat_natCast⟩
def beq:(type_of% @zmd)∧(type_of% @zme)∧(type_of% @zmf)∧(type_of% @zmg)∧(type_of% @zmh)∧(type_of% @zmi)∧(type_of% @zmj)∧(type_of% @zmk)∧(type_of% @zml)∧(type_of% @zmn)∧(type_of% @zmo)∧(type_of% @zmp)∧(type_of% @zmq)∧(type_of% @zmr)∧(type_of% @zms)∧(type_of% @zle)∧(type_of% @zlc)∧(type_of% @zld)∧(type_of% @zmt)∧(type_of% @zmu)∧(type_of% @zmv)∧(type_of% @zmw)∧(type_of% @zmx)∧(type_of% @zmy)∧(type_of% @zmz)∧(type_of% @zna)∧(type_of% @znb)∧(type_of% @znc)∧(type_of% @znd)∧(type_of% @zne)∧(type_of% @znf)∧(type_of% @zng)∧(type_of% @znh)∧(type_of% @zni)∧(type_of% @znj)∧(type_of% @znk)∧(type_of% @znl)∧(type_of% @znm)∧(type_of% @znn)∧(type_of% @zno)∧(type_of% @znp)∧(type_of% @znq)∧(type_of% @znr)∧(type_of% @zns)∧(type_of% @znt)∧(type_of% @znu)∧(type_of% @znv)∧(type_of% @znw)∧(type_of% @TR)∧(type_of% @znx)∧(type_of% @zny)∧(type_of% @znz)∧(type_of% @zoa)∧(type_of% @zob)∧(type_of% @zoc)∧(type_of% @zOd)∧(type_of% @zoe)∧(type_of% @zof)∧(type_of% @zog)∧(type_of% @zoh) :=
 ⟨@zmd,@zme,@zmf,@zmg,@zmh,@zmi,@zmj,@zmk,@zml,@zmn,@zmo,@zmp,@zmq,@zmr,@zms,@zle,@zlc,@zld,@zmt,@zmu,@zmv,@zmw,@zmx,@zmy,@zmz,@zna,@znb,@znc,@znd,@zne,@znf,@zng,@znh,@zni,@znj,@znk,@znl,@znm,@znn,@zno,@znp,@znq,@znr,@zns,@znt,@znu,@znv,@znw,@TR,@znx,@zny,@znz,@zoa,@zob,@zoc,@zOd,@zoe,@zof,@zog,@zoh⟩
def bnq:(type_of% @zoi)∧(type_of% @zgo)∧(type_of% @zgp)∧(type_of% @zkt)∧(type_of% @zko)∧(type_of% @not_false_eq_true)∧(type_of% @true_and)∧(type_of% @and_true) :=
 ⟨@zoi,@zgo,@zgp,@zkt,@zko,@not_false_eq_true,@true_and,@and_true⟩
def biq:(type_of% @ur)∧(type_of% @yA)∧(type_of% @xI)∧(type_of% @Am)∧(type_of% @uC)∧(type_of% @ym)∧(type_of% @yK)∧(type_of% @wU)∧(type_of% @oR)∧(type_of% @AC)∧(type_of% @DI)∧(type_of% @EQ)∧(type_of% @Bs)∧(type_of% @uB)∧(type_of% @Int.toNat_natCast) :=
 ⟨@ur,@yA,@xI,@Am,@uC,@ym,@yK,@wU,@oR,@AC,@DI,@EQ,@Bs,@uB,@Int.toNat_natCast⟩
def bhq:(type_of% @kS)∧(type_of% @xJ)∧(type_of% @Av)∧(type_of% @BC)∧(type_of% @Ef)∧(type_of% @true_and) :=
 ⟨@kS,@xJ,@Av,@BC,@Ef,@true_and⟩
def bkq:(type_of% @zoi)∧(type_of% @zgo)∧(type_of% @zgp)∧(type_of% @zkt)∧(type_of% @zko)∧(type_of% @not_false_eq_true)∧(type_of% @true_and)∧(type_of% @and_true) :=
 ⟨@zoi,@zgo,@zgp,@zkt,@zko,@not_false_eq_true,@true_and,@and_true⟩
attribute [go_sem ↓] zaa zab zac zad zae zag zah zai zaj zak zal zam zan zao zap zaq zar UU UF zas zaw zax zay zaz zba zbb zbc zbd zbe zbf zbg zbh zbi zbj zbk zbl zbm zbn zbo zbp zbu zbv zbw zbx zby zbz zca zcb zcc zcd zce zcf zcg zch zci zcj zck zcl zcm zco zcp zcq zcr zcs zct zcu zcv zcw zcx zcy zcz zda zdb zdc zdd zde zdf zdg zdh zdi zdj zdk zdl zdm zdn zdo zdp zdq zdr zds zdt zdu zdv zdw zdx zdy zdz zel zem zfc zfd zfe zfm zfn zfp zfq zfx zfy zge zgf zgg zgh zgi zgj zgk zgl zgm zgn zgo zgp zoj zok zol zom zon zoo zop zoq zor Df zos
attribute [go_sem] zaf zat zau zbq zbr zbs zbt zea zeb zec zed zee zef TU zeg zeh zei zej zek zen zeo zep zeq zer UT zes zet Uv zeu zev zew zex zey zez zfa List.tail_nil List.tail_cons List.headD_nil List.headD_cons zfb zff zfg zfh zfi zfj zfk zfl zfo zfr zfs zft zfu zfv zfw zfz zga zgb zgc zgd ne_eq not_false_eq_true Nat.mul_one Nat.one_mul Nat.zero_mul Nat.zero_add Nat.add_zero zgq zgr zgs zgt zgu zgv zgw zgx zgy zgz zha zhb zhc zhd zhe zhf Bool.and_true Bool.and_self Nat.left_eq_add Nat.add_eq_left Nat.add_right_cancel_iff Nat.add_left_cancel_iff Nat.succ_ne_self Nat.one_ne_zero List.map_cons List.map_nil Option.map_some Option.map_none Option.elim_some if_true if_false true_and and_true true_or or_true false_or or_false Bool.false_eq_true Bool.true_eq_false Bool.not_true Bool.not_false List.append_nil List.nil_append zhg zhh zhi zhj zhk zhl zhm zhn zho zhp zhq zhr zhs zht zhu zhv zhw zhx zhy zhz zia zib zic zid zie zif zig zih zii rEq List.cons_append UM UR Ux Uq Uu US Uo UC UO UQ UB Uw Ut Us UK UL zik zil zim zin zio zip List.getElem?_cons_zero List.getElem?_cons_succ TD.agg List.drop_succ_cons List.drop_zero List.take_succ_cons List.take_zero List.take_nil List.drop_nil List.getD_cons_zero List.getD_cons_succ splice ziq zir zis Option.isSome_some Option.isSome_none List.getElem?_nil Nat.zero_lt_succ Nat.lt_add_one zit ziu E4 rC FK Fs rUn ziv ziw zix ziy sH ziz zja zjb zjc FD zjd zje zjf zjg zjh zji zjj zjk zjl zjm zjn zjo zjp zjq zjr   zjs zjt zju zjv pM zc F1 yU room List.length_cons List.length_nil zjw zjx zjy zjz zka zkb zkc zkd zke zkf zkg zkh zki zkj zkk zkl zkm zkn zko zkp zkq zkr zks zkt zku zkv zkw zkx zky zkz zla zlb zlc zld zle zlf zlg zlh List.length_map s5
def bt:(type_of% @zns)∧(type_of% @znt)∧(type_of% @znd)∧(type_of% @zne)∧(type_of% @znf)∧(type_of% @zng)∧(type_of% @zni)∧(type_of% @znj)∧(type_of% @znh)∧(type_of% @znk)∧(type_of% @znl)∧(type_of% @znm)∧(type_of% @znn)∧(type_of% @znp)∧(type_of% @znq)∧(type_of% @znr)∧(type_of% @zno)∧(type_of% @zmq)∧(type_of% @zmk)∧(type_of% @zml)∧(type_of% @zlc)∧(type_of% @zld)∧(type_of% @kS) :=
 ⟨@zns,@znt,@znd,@zne,@znf,@zng,@zni,@znj,@znh,@znk,@znl,@znm,@znn,@znp,@znq,@znr,@zno,@zmq,@zmk,@zml,@zlc,@zld,@kS⟩
attribute [go_sem_proc] reduceCtorEq Nat.reduceEqDiff Nat.reduceAdd Nat.reduceMul Nat.reduceSub Nat.reduceLeDiff Nat.reduceLT Int.reduceMul Int.reduceAdd Int.reduceSub Int.reduceToNat Nat.reduceMod Nat.reduceDiv
attribute [go_sem] aN aO
def Zd{p:Prop}(h:p:=by first|assumption|omega|(simp;done)|(simp;omega)|(simp only[bt,and_true];first|done|omega|(simp;done))):p:=h
def Z0{p:Prop}(h:p:=by simp (disch:=first|exact Zd|omega) [↓zmm,beq,ybc,ybd,ybe,ag,wk,wk2,wk1,wkM,wkL,ay,ybf,byq,hcl]):p:=h
def Z1{p:Prop}(h:p:=by simp (disch:=first|exact Zd|omega) [↓zmm,beq,ybc,ybd,ybe,ag,wk,wk2,wk1,wkM,wkL,ay,ybf,hcl]):p:=h
def Z2{p:Prop}(h:p:=by simp only[bnq,enter,my,ltF,ne_eq,Nat.reduceEqDiff,reduceCtorEq,true_or,and_self]):p:=h
def Z3{p:Prop}(h:p:=by simp (disch:=first|exact Zd|omega) [↓zmm,beq,List.take_of_length_le,List.drop_append,List.take_append,ag,wk,wk2,wk1,wkM,wkL,ay,List.drop_eq_nil_of_le,hcl]):p:=h
def Z4{p:Prop}(h:p:=by simp[Fr.get,bE,h1',h2',aE,ba,qy,cp,hvs,nS,cY,cX,dO,jc,fq,mU,mP,mG,wkM,ziq]):p:=h
def Z5{p:Prop}(h:p:=by simp (disch:=first|exact Zd|omega) [↓zmm,beq,ybc,ybd,ybe,ag,wk,wk2,wk1,wkM,wkL,ay,ybf,hcl,hle,hlp]):p:=h
def Z6{p:Prop}(h:p:=by(simp only[bkq,enterW,bg,ltF,ne_eq,Nat.reduceEqDiff,reduceCtorEq,hm,hf,hmu'];try simp (disch:=first|exact Zd|omega) [↓zmm,beq,ybc,ybd,ybe,ag,wk,wk2,wk1,wkM,wkL,ay,ybf,byq,biq,eN,hcl,hm,hf,hmu'];try(repeat' (first|assumption|omega|exact True.intro|refine And.intro ?_ ?_|refine aY ?_|refine bf ?_|refine ah ?_ ?_|refine bA ?_ ?_|refine dJ ?_|exact AHeap.Le.refl _|refine AHeap.Le.push ?_ _|refine AHeap.Le.del ?_ ?_|(simp only[bt,and_true,true_and,hm,hf,hmu'];first|done|omega|(simp;done)))))):p:=h
def Z7{p:Prop}(h:p:=by simp (disch:=first|exact Zd|omega) [↓zmm,beq,ybc,ybd,ybe,ag,wk,wk2,wk1,wkM,wkL,ay,ybf,hcl,hle]):p:=h
def Z8{p:Prop}(h:p:=by simp (disch:=first|exact Zd|omega) [↓zmm,beq,ybc,ybd,ybe,ag,wk,wk2,wk1,wkM,wkL,ay,ybf,hcl,hc2]):p:=h
def Z9{p:Prop}(h:p:=by simp (disch:=first|exact Zd|omega) [↓zmm,beq,ybc,ybd,ybe,ag,wk,wk2,wk1,wkM,wkL,ay,ybf,hcc]):p:=h
def Z10{p:Prop}(h:p:=by simp (disch:=first|exact Zd|omega) [↓zmm,beq,ybc,ybd,ybe,ag,wk,wk2,wk1,wkM,wkL,ay,ybf,hcl,hcc]):p:=h
def Z11{p:Prop}(h:p:=by simp (disch:=first|exact Zd|omega) [↓zmm,beq,ybc,ybd,ybe,ag,wk,wk2,wk1,wkM,wkL,ay,ybf,hcl,hc2,hne2]):p:=h
def Z12{p:Prop}(h:p:=by simp (disch:=first|exact Zd|omega) [↓zmm,beq,ybc,ybd,ybe,ag,wk,wk2,wk1,wkM,wkL,ay,ybf,hcl,hcc,hne2]):p:=h
def Z13{p:Prop}(h:p:=by simp (disch:=first|exact Zd|omega) [↓zmm,beq,ybc,ybd,ybe,ag,wk,wk2,wk1,wkM,wkL,ay,ybf,hcl,hHl]):p:=h
def Z14{p:Prop}(h:p:=by simp (disch:=first|exact Zd|omega) [↓zmm,beq,ybc,ybd,ybe,ag,wk,wk2,wk1,wkM,wkL,ay,ybf,hcl,hHle]):p:=h
def Z15{p:Prop}(h:p:=by simp (disch:=first|exact Zd|omega) [↓zmm,beq,ybc,ybd,ybe,ag,wk,wk2,wk1,wkM,wkL,ay,ybf,hcl1,hlb]):p:=h
def Z16{p:Prop}(h:p:=by simp (disch:=first|exact Zd|omega) [↓zmm,beq,ybc,ybd,ybe,ag,wk,wk2,wk1,wkM,wkL,ay,ybf,hcl1]):p:=h
def Z17{p:Prop}(h:p:=by simp (disch:=first|exact Zd|omega) [↓zmm,beq,ybc,ybd,ybe,ag,wk,wk2,wk1,wkM,wkL,ay,ybf,hcl,gM]):p:=h
def Z18{p:Prop}(h:p:=by simp[ltF,znd,znl,aa gL,aa fK,aa eL,aa gh,aa iH,aa fX,aa fo,aa jI,aa cZ,aa ir,aa gf,aa gO,aa km,zld];omega):p:=h
theorem iNq{n:Nat}:(n:Int).toNat=n:=rfl
abbrev tCq:=@TblOk.cons
abbrev tNq:=@TblOk.nil
def lAq{α:Type _}{a b:List α}:(a++b).length=a.length+b.length:=List.length_append
def gEq{α:Type _}{l:List α}{i:Nat}{a:α}:l.getD i a=(l[i]?).getD a:=List.getD_eq_getElem?_getD
def nFq:(¬False)=True:=not_false_eq_true
abbrev lRq:=@AHeap.Le.refl
abbrev nrq:=@Nat.le_refl
abbrev gQq:=@List.getElem?_eq_getElem
abbrev gMq:=@List.getElem_mem
abbrev gPq:=@AHeap.get_push_lt
abbrev lPq:=@AHeap.Le.push
abbrev gNq:=@List.getElem?_eq_none
def nzq(n:Nat):0+n=n:=Nat.zero_add n
abbrev glq:=@AHeap.get_lt
abbrev dfq:=@decide_eq_false
abbrev dtq:=@decide_eq_true
abbrev dcq:=@List.drop_eq_getElem_cons
def Yq{p q:Prop}(k:q)(h:p:=by first|exact True.intro|decide|omega|(simp[ziq,zgq,zgr,zgs,zgu,zgt,zgy];first|done|omega)):p∧q:=⟨h,k⟩
def Yfv{P : Program}(hm : P.follows .mixedOrders=true){Ω : Tbl}(hΩ : TblOk P Ω){f : FuncId}{fn : Func}{c : Code}(hf : P.funcs[f]? =some fn)(rs : List ResultVar){args : Wz}{H H1 : AHeap}{e : AEnd}
 (h : H.Closed→(∀ x∈args,x.lt H.nx)→aw P Ω c (KI P Ω (sQ P rs H.nx e H1 (aC [])) []) (s5 0 args) H)
 (hname : (fn.name == "runtime.NumGoroutine") = false := by kernel_rfl) (hb : fn.body = some c := by rfl) (hrs : fn.results.toList = rs := by rfl) (hok : jJ P Ω (aC []) fn.ntmps c = true := by kernel_rfl)
 (ha : Nat.ble args.length fn.ntmps=true :=by rfl) (hx : H.nx≤H1.nx :=by exact nrq _) : ACalls P f args H e H1 :=
 ACalls.fW hm hΩ hf rs hx hname hb hrs hok ha h
abbrev Ype:=@EntOk.pure
theorem Yk5(k:Nat)(h:k+1<9223372036854775808:=by omega):IntKind.i64.wrap ((k:Int)+1)=((k+1:Nat):Int):=Xe
def Y0{p:Prop} (h:p:=by
 have hF:=hW.facts
 have hcl1:=fun t=>hW.closed (t:=t) hcl
 have hid:=glq hW.o
 have hq:=glq hW.bu
 have hll:=iU hone hl
 obtain⟨b,sl,sf,sa⟩:=s
 have hne:=cS hid
 have hneq:=cS hq
 have n1:(id=q)=False:=eq_false hW.ne
 have n2:(q=id)=False:=eq_false fun e=>hW.ne e.symm
 have hcs:=aB hW.o
 have hb0:=hW.bu
 have hi0:=hW.o
 have hnn:=hW.ne
 have hlb:b.length≤dX:=aT hl
 rw[bF]at hlb
 dsimp only at hcs hb0 hi0 hlb
 have lw2:=fm (l.length:Int) 2
 clear hlt
 have hcm:=fun cs=>@bG H id cs hid
 have hA:=fun X Y=>@cu H id q X Y hnn hid
 have hB:=fun X=>dx (X:=X) hnn hb0
 have eh:=fun X Y Z=>@dz H id q X Y Z
 have hL2:sl=true→(sl||decide ((l.length:Int)>most))=true:=fun h=>by rw[h,Bool.true_or]
 have hL3:sl=false→decide ((l.length:Int)>most)=(sl||decide ((l.length:Int)>most)):=fun h=>by rw[h,Bool.false_or]
 have hst:=iY (H:=H) (id:=id) (q:=q) (b:=b) (sl:=sl) (sf:=sf) (sa:=sa) (n:=l.length) (most:=most)
 have hS1:=hW.next ((⟨b,sl,sf,sa⟩:Enc).add (dy l.length most))
 have htot:(((⟨b,sl,sf,sa⟩:Enc).add (dy l.length most)).add (bX g l))=(⟨b,sl,sf,sa⟩:Enc).add (bn g most l):=by rw[aI];rfl
 rw[← htot]at hl ⊢
 generalize ((⟨b,sl,sf,sa⟩:Enc).add (dy l.length most))=s1 at *
 generalize (sl||decide ((l.length:Int)>most))=L at *
 have hlv:∀ n,(AV.slice .any sz (l.map c)).lt n:=fun n=>aa (hlt' n)
 have hlc:=fun n=>@gU n most wf r
 cases sl
 case' true =>
  rw[hL2 rfl]at hst
  simp only[go_sem,byq,hne,hneq,n1,n2,hcs,hcm,hA,hB,eh,hi0,hb0,bv,ybb]
 case' false =>
  simp only[go_sem,byq,hne,hneq,n1,n2,hcs,hcm,hA,hB,eh,hi0,hb0,bv,ybb,hL3 rfl]
 all_goals
  (repeat with_reducible refine And.intro (by first|assumption|decide|omega|exact⟨by omega,Xa⟩) ?_)
  refine aG (A:=Nat) (fun k=>[(0,.ptr id 0),(4,.ptr H.nx 0),(33,.slice .any sz (l.map c)),(34,.int .i64 (l.length:Int)),(35,.int .i64 (k:Int))])
   (fun k=>(swH H id q (s1.add (bX g (l.take k)))).push (.cells (cm most wf r))) (fun k=>k≤l.length) (fun k=>l.length-k) 0 Xa ?_ fun k hk=>?_
  ·rw[yar,bX,di,hst]
   refine⟨by simp only[zko,zkt,zlc,zld,ak];omega,by repeat first|exact .refl _|refine .push ?_ _,?_,?_,?_⟩
   ·rw[← hst];exact ah (hcl1 _) (hlc _)
   ·simp[ltF,zlc,zld,znl,znd,hlv]
    omega
   ·simp[bg,wk2,wk1,wkM,Fr.get]
  simp only[go_sem]
  refine ax (fun hc=>?_) (fun hc=>?_)
  ·have hk':k<l.length:=by simp at hc;omega
   obtain⟨x,hx⟩:∃ x,x=l[k]:=⟨_,rfl⟩
   have hg:=cN (f:=c) (l:=l) (k:=k) (x:=x) (by rw[gQq hk',hx])
   have e5:=Yk5 k
   have hxo:=ha x (by rw[hx];exact gMq hk')
   obtain⟨es',hlk⟩:=dw (g:=g) hk' hx hl
   have hSk:=hW.next (s1.add (bX g (l.take k)))
   obtain⟨cs,hcc,hcl3,hall⟩:=hag x
   have hsp:∀ zs:Wz,zs.length=sz→splice zs 0 cs=cs:=fun zs hz=>fU (hz.trans hcl3.symm)
   have hts:List.take sz cs=cs:=ybc Xa
   rw[hcc]at hg
   clear hag
   subst ew es ec eo eg
   simp only[go_sem,iNq,ybb,hg,hcl3,hts,hall,hsp,if_true,yaz,yba,ak,cm,bF]
   refine⟨Xa,?_⟩
   rw[← hcc]
   refine pS hxo (hSk.push2 _ _) hlk ?_
   rw[hF.p2,es']
   simp only[go_sem,e5]
   refine⟨k+1,Xa,Xa,by simp only[zko,zkt,zlc,ak];omega,by repeat first|exact .refl _|refine .push ?_ _,ah (hcl1 _) (hlc _),?_,?_⟩
   ·simp[ltF,zlc,ak,znl,znd,hlv]
    omega
   ·simp[bg,wk2,wk1,wkM,Fr.get]
  ·have hk':k=l.length:=by simp at hc;omega
   subst hk'
   rw[List.take_length]
   simp only[go_sem]
   refine⟨?_,by repeat first|exact .refl _|refine .push ?_ _,hcl1 _,?_⟩
   ·simp[wk,wk2,wk1,ay]
   ·simp[znq,znt]):p:=h
def Y1{p:Prop} (h:p:=by
 have hlm:∀ n,AV.lt n (.slice .any sz (ts.map av)):=fun n=>aa (hlt n)
 obtain⟨C0,hC0⟩:∃ C0:Wz,C0=hdC av ts:=⟨_,rfl⟩
 have hC0l:∀ m,ltL m C0:=fun m=>by rw[hC0];exact tF hlt ts m
 obtain⟨ow,how⟩:∃ ow:Nat→AV,ow=fun k=>.slice (.own (H.nx+1+1+1+1+1)) 1 (inL ((ts.take k).map idf)):=⟨_,rfl⟩
 have hwl:∀ n k,H.nx+1+1+1+1+1<n→(ow k).lt n:=fun n k h=>by rw[how];simp[cI,rb,h]
 obtain⟨HL,hHL⟩:∃ HL:Nat→AHeap,HL=fun k=>if k=0 then HB.push (.cells (XO (.slice .nil 1 [])))else(((HB.push (.cells (XO (ow k)))).push (.cells C0)).push (.buf 1 1)).push (.buf 1 k):=⟨_,rfl⟩
 have hL0:HL 0=HB.push (.cells (XO (.slice .nil 1 []))):=by rw[hHL];rfl
 have hLk:∀ k,k≠0→HL k=(((HB.push (.cells (XO (ow k)))).push (.cells C0)).push (.buf 1 1)).push (.buf 1 k):=fun k h=>by rw[hHL];exact if_neg h
 have hclL:∀ k,(HL k).Closed:=fun k=>by
  by_cases h:k=0
  ·rw[h,hL0]
   exact ah hclB (hXO _ _ (by simp[cI,znt]))
  ·rw[hLk k h]
   refine lN (c:=XO (.slice .nil 1 [])) (aY (aY (ah (ah hclB (hXO _ _ (by simp[cI,znt]))) (hC0l _)))) ?_
   exact hXO _ _ (hwl _ _ (by rw[hnB];omega))
 have hnL:∀ k,H.nx+1+1+1≤(HL k).nx:=fun k=>by
  by_cases h:k=0
  ·rw[h,hL0,zlc,hnB];omega
  ·rw[hLk k h];simp only[zlc,hnB];omega
 refine aG (A:=Nat) (fun k=>pf++[(2,.ptr (H.nx+1) 0),(3,.ptr (H.nx+1+1) 0),(a,.slice .any sz (ts.map av)),(b,.int .i64 (ts.length:Int)),(c,.int .i64 (k:Int))]) HL (fun k=>k≤ts.length) (fun k=>ts.length-k) 0 Xa ?_ fun k hk=>?_
 ·have hc0:=hclL 0
  rw[hL0,← hHB]at hc0 ⊢
  subst e1 e2 e3 e4 e5 e6 e7 e8 e9 e10
  refine⟨by simp only[zlc,zko,zkt];omega,lRq _,hc0,?_,?_⟩
  ·simp[ltF,zlc,znl,znd,hlm]
   try omega
  ·simp[bg,wk2,wk1,wkM,Fr.get]
 subst e4 e5 e6 e7 e10
 simp only[go_sem,yal,yak]
 refine ax (fun hc=>?_) (fun hc=>?_)
 ·have hk':k<ts.length:=by simp at hc;omega
  obtain⟨x,hx⟩:∃ x,x=ts[k]:=⟨_,rfl⟩
  have hxg:=a9 (f:=av) (l:=ts) (k:=k) (x:=x) (by rw[gQq hk',hx])
  have ek:IntKind.i64.wrap ((k:Int)+1)=((k+1:Nat):Int):=Xe
  have htk:ts.take (k+1)=ts.take k++[x]:=by rw[hx,List.take_succ_eq_append_getElem hk']
  have hil:inL ((ts.take k).map idf)++[.int .i64 (idf x)]=inL ((ts.take (k+1)).map idf):=by rw[htk];simp[inL]
  have hll:(inL ((ts.take k).map idf)).length=k:=by simp[inL];omega
  obtain⟨cs,hcs,hcl3,hall⟩:=hag x
  have hts:List.take (cs.length+1) (AV.int .i64 (idf x)::cs)=AV.int .i64 (idf x)::cs:=ybc Xc
  have hsp:∀ zs:Wz,zs.length=(AV.int .i64 (idf x)::cs).length→splice zs 0 (AV.int .i64 (idf x)::cs)=AV.int .i64 (idf x)::cs:=fun zs hz=>lQ hz
  have hall2:dp (AV.int .i64 (idf x)::cs)=true:=hall
  rw[hcs]at hxg
  rw[yaz,hcl3]at hsp
  rw[hcl3]at hts
  by_cases h0:k=0
  ·subst h0
   have hC1:C0=AV.int .i64 (idf x)::cs:=by rw[hC0,tz hk',← hx,hcs];rfl
   have how1:ow 1=.slice (.own (H.nx+1+1+1+1+1)) 1 [.int .i64 (idf x)]:=by rw[how];dsimp only;rw[← hil];rfl
   have hcl1:=hclL 1
   rw[hLk 1 Xb,← hHB,hC1,how1]at hcl1
   rw[hL0,← hHB]
   have hL1:=hLk 1 Xb
   rw[← hHB,hC1,how1]at hL1
   subst e8
   try dsimp only at hcl1 hL1 ⊢
   simp only[aR]at hcl1 hL1
   simp only[aX,aA,bhq,yaq,yar,yao,yap,go_sem,aR,iNq,ybb,yaz,yba,hxg,hcl3,hts,hsp,hall2,if_true,yal,yak,ek]
   refine⟨⟨Xa,Xa⟩,⟨Xa,Xa⟩,fun z hz=>by rw[List.mem_singleton.1 hz];rfl,⟨Xa,Xa⟩,1,Xa,Xa,?_⟩
   rw[hL1]
   refine⟨by simp only[zlc];omega,by repeat first|exact .refl _|refine .push ?_ _,hcl1,?_,?_⟩
   ·simp[ltF,zlc,znl,znd,hlm]
    try omega
   ·simp[bg,wk2,wk1,wkM,Fr.get]
  ·have how1:ow k=.slice (.own (H.nx+1+1+1+1+1)) 1 (inL ((ts.take k).map idf)):=by rw[how]
   have how2:ow (k+1)=.slice (.own (H.nx+1+1+1+1+1)) 1 (inL ((ts.take k).map idf)++[.int .i64 (idf x)]):=by rw[how,hil]
   have hcl1:=hclL (k+1)
   have hL1:=hLk (k+1) Xa
   rw[← hHB,how2]at hL1
   rw[hL1]at hcl1
   rw[hLk k h0,← hHB,how1]
   subst e8
   try dsimp only at hcl1 hL1 ⊢
   simp only[aR]at hcl1 hL1
   simp only[aX,aA,bhq,yaq,yar,yao,yap,go_sem,aR,iNq,ybb,yaz,yba,hxg,hcl3,hts,hsp,hall2,if_true,yal,yak,ek]
   refine⟨⟨Xa,Xa⟩,⟨Xa,Xa⟩,⟨by rw[hll],by rw[hll];omega,by rw[hll];omega,fun z hz=>by rw[List.mem_singleton.1 hz];rfl⟩,⟨Xa,Xa⟩,k+1,Xa,Xa,?_⟩
   rw[hL1,hll]
   refine⟨by simp only[zlc];omega,by repeat first|exact .refl _|refine .push ?_ _,hcl1,?_,?_⟩
   ·simp[ltF,zlc,znl,znd,hlm]
    try omega
   ·simp[bg,wk2,wk1,wkM,Fr.get]
 ·have hk':k=ts.length:=by simp at hc;omega
  have hcl1:(HB.push (.cells XN)).Closed:=ah hclB (hXN _)
  rw[← hHB]at hcl1
  by_cases h0:k=0
  ·subst h0
   have hnl:ts=[]:=List.length_eq_zero_iff.1 hk'.symm
   have hnl2:ts.map idf=[]:=by rw[hnl];rfl
   rw[hL0,← hHB]
   simp only[go_sem]
   refine fL (H.nx+1+1) XN (cs:=XO (.slice .nil 1 [])) (by simp only[go_sem]) ?_ ?_
   ·subst e1 e3 e8 e9
    simp only[cX,dO,and_true]
    refine⟨?_,?_,?_,?_,?_,?_⟩
    all_goals first|exact lI|(rw[hnl2];exact lI (l:=[]))|(rw[cY];exact .inl ⟨.inr rfl,rfl,by rw[fq];trivial⟩)
   subst e8 e9
   simp only[go_sem]
   refine bw J () trivial ⟨by simp only[zlc,zkt,zko,jK,hnB];omega,by rw[← hHB];repeat first|exact .refl _|refine .push ?_ _,by rw[← hHB];exact hcl1,?_,?_⟩
   ·(simp[ltF,zlc,znl,hnB];try omega)
   ·simp[bg,wk2,wk1,wkM,Fr.get]
  ·have how1:ow k=.slice (.own (H.nx+1+1+1+1+1)) 1 (inL (ts.map idf)):=by rw[how,hk'];dsimp only;rw[List.take_length]
   rw[hLk k h0,← hHB,how1]
   simp only[go_sem]
   refine fL (H.nx+1+1) XN (cs:=XO (.slice (.own (H.nx+1+1+1+1+1)) 1 (inL (ts.map idf)))) (by simp only[go_sem]) ?_ ?_
   ·subst e1 e3 e8 e9
    simp only[cX,dO,and_true]
    refine⟨?_,?_,?_,?_,?_,?_⟩
    all_goals first|exact lI|(rw[cY];exact .inl ⟨.inr rfl,rfl,by rw[fq];trivial⟩)
   subst e8 e9
   simp only[go_sem]
   refine bw J () trivial ⟨by simp only[zlc,zkt,zko,jK,hnB];omega,by rw[← hHB];repeat first|exact .refl _|refine .push ?_ _,by rw[← hHB];exact hcl1,?_,?_⟩
   ·(simp[ltF,zlc,znl,hnB];try omega)
   ·simp[bg,wk2,wk1,wkM,Fr.get]):p:=h
def Y2{p:Prop} (h:p:=by
 generalize hR:ixP q ts 0=R
 have hm:AV.lt H.nx (.slice m sz (ts.map av)):=hlt _ Xc
 have hf:AV.lt H.nx (.func (.func F) fst caps):=hlt _ Xc
 clear hlt
 simp only[go_sem,ybb]
 refine aG (A:=Nat) (fun k=>[(0,.slice m sz (ts.map av)),(1,.func (.func F) fst caps),(7,.int .i64 (ts.length:Int)),(8,.int .i64 (k:Int))]) (fun _=>H) (fun k=>k≤ts.length∧ixP q (ts.drop k) k=R) (fun k=>ts.length-k) 0 ⟨Xa,hR⟩ ?_ fun k hk=>?_
 ·exact⟨nrq _,lRq _,hcl,by simp[ltF,znd,hm,hf],Xx⟩
 clear hR
 obtain⟨hk,hR⟩:=hk
 simp only[go_sem]
 refine ax (fun hc=>?_) (fun hc=>?_)
 ·have hk':k<ts.length:=by simp at hc;omega
  obtain⟨x,hx⟩:∃ x,x=ts[k]:=⟨_,rfl⟩
  have hd:ts.drop k=x::ts.drop (k+1):=by rw[hx];exact dcq hk'
  have hg':=a9 (f:=av) (l:=ts) (k:=k) (x:=x) (by rw[gQq hk',hx])
  have e5:=Yk5 k
  rw[hd]at hR
  unfold ixP at hR
  have hqx:=hq x (by rw[hx];exact gMq hk')
  obtain⟨cs,hcs,hcl3⟩:=hag x
  have hts:List.take sz cs=cs:=ybc Xa
  rw[hcs]at hqx
  clear ha hag
  subst hs
  simp only[go_sem,iNq,ybb,hg',hcs,hcl3,hts,ju]
  (repeat with_reducible refine Yq ?_)
  refine⟨_,?_,hqx⟩
  try simp only[aA,go_sem]
  try(repeat with_reducible refine Yq ?_)
  refine ax (fun hq=>?_) (fun hq=>?_)
  ·rw[if_pos hq]at hR
   subst hR
   simp only[go_sem]
   exact Z1
  ·rw[if_neg (by rw[hq];decide)]at hR
   simp only[go_sem,e5]
   exact⟨k+1,⟨Xa,hR⟩,Xa,nrq _,lRq _,hcl,by simp[ltF,znd,hm,hf],Xx⟩
 ·have hk':k=ts.length:=by simp at hc;omega
  subst hk'
  rw[List.drop_length]at hR
  unfold ixP at hR
  subst hR
  simp only[go_sem]
  exact Z1):p:=h
theorem Y3{p:Prop} (h:p:=by
 simp only[go_sem,iNq,ybb,hg',hne2,ju]
 (repeat with_reducible refine Yq ?_)
 refine⟨_,?_,hqx _ hlp hcp⟩
 have hmg:=kR sn (f x)
 have hmu:=@aV _ H.nx (((AV.int .i64) (f x),.bool true)::d9 (AV.int .i64) sn) hcc
 have hsn':=ja dc hsn
 cases hb:sn.contains (f x)with
 |true=>
  rw[hb,if_pos rfl]at hmg
  rw[hb,Bool.not_true,Bool.false_and]at hR
  subst hR
  simp only[aA,go_sem,zix,hne,hid,hmg]
  refine⟨⟨fM,hsn',dc _ hgx,rfl⟩,?_⟩
  try simp only[go_sem,hmg]
  exact Z5
 |_=>
  rw[hb,if_neg Bool.false_ne_true]at hmg
  rw[hb,Bool.not_false,Bool.true_and]at hR
  simp only[aA,go_sem,zix,ziy,hne,hid,hmg,e5]
  refine⟨⟨fM,hsn',dc _ hgx,rfl⟩,?_⟩
  try simp only[go_sem,hmg,hid,hne,ziy,e5]
  refine⟨⟨fM,hsn',dc _ hgx,rfl,rfl⟩,(k+1,f x::sn,Hc.set H.nx (.mapo (d9 (AV.int .i64) (f x::sn)))),⟨Xd,hR,?_,cJ hle (nrq _),aV hcc,?_⟩,Xd,?_⟩
  ·intro v hv
   rcases List.mem_cons.1 hv with rfl|hv
   ·exact hgx
   ·exact hsn v hv
  ·dsimp only
   rw[aF,if_pos rfl,if_pos (glq hid)]
  ·have hmu':(Hc.set H.nx (.mapo (d9 (AV.int .i64) (f x::sn)))).Closed:=hmu
   have hrow:(((AV.int .i64) (f x),AV.bool true)::d9 (AV.int .i64) sn)=d9 (AV.int .i64) (f x::sn):=rfl
   try rw[hrow]
   try simp only[hrow]
   exact Z6):p:=h
def Y4{p:Prop} (h:p:=by
 generalize hR:ixS st ts sn 0=R
 have hnx:id<H.nx:=glq hid
 have hss:=fN hid
 have hm:AV.lt H.nx (.slice m sz (ts.map av)):=hlt _ Xc
 have hf:AV.lt H.nx (.func (.func F) fst caps):=hlt _ Xc
 clear hlt
 simp only[go_sem,ybb]
 refine aG (A:=Nat × List VN) (fun a=>[(0,.slice m sz (ts.map av)),(1,.func (.func F) fst caps),(7,.int .i64 (ts.length:Int)),(8,.int .i64 (a.1:Int))]) (fun a=>H.set id (mpV a.2)) (fun a=>a.1≤ts.length∧g a.2∧ixS st (ts.drop a.1) a.2 a.1=R) (fun a=>ts.length-a.1) (0,sn) ⟨Xd,hg,hR⟩ ?_ fun a hk=>?_
 ·dsimp only
  rw[hss]
  exact⟨nrq _,lRq _,hcl,by simp[ltF,znd,hm,hf],Xx⟩
 clear hR
 obtain⟨k,s⟩:=a
 obtain⟨hk,hgs,hR⟩:=hk
 dsimp only at hk hgs hR ⊢
 have hcc:(H.set id (mpV s)).Closed:=aV hcl
 simp only[go_sem]
 refine ax (fun hc=>?_) (fun hc=>?_)
 ·have hk':k<ts.length:=by simp at hc;omega
  obtain⟨x,hx⟩:∃ x,x=ts[k]:=⟨_,rfl⟩
  have hd:ts.drop k=x::ts.drop (k+1):=by rw[hx];exact dcq hk'
  have hg':=a9 (f:=av) (l:=ts) (k:=k) (x:=x) (by rw[gQq hk',hx])
  have e5:=Yk5 k
  rw[hd]at hR
  unfold ixS at hR
  obtain⟨hg2,hqx⟩:=hq x (by rw[hx];exact gMq hk') s hgs
  have hqx:=hqx _ (lRq _) hcc
  have hc2:(H.set id (mpV (st x s).2)).Closed:=aV hcl
  obtain⟨cs,hcs,hcl3⟩:=hag x
  have hts:List.take sz cs=cs:=ybc Xa
  rw[hcs]at hqx hg'
  clear ha hag
  subst hs
  simp only[go_sem,iNq,ybb,hg',hcl3,hts,wu]
  (repeat with_reducible refine Yq ?_)
  refine⟨_,_,?_,hqx⟩
  try simp only[aX,go_sem]
  refine ax (fun hq=>?_) (fun hq=>?_)
  ·rw[if_pos hq]at hR
   subst hR
   simp only[go_sem]
   exact Z8
  ·rw[if_neg (by rw[hq];decide)]at hR
   simp only[go_sem,e5]
   exact⟨(k+1,(st x s).2),⟨Xd,hg2,hR⟩,Xd,nrq _,lRq _,hc2,by simp[ltF,znd,hm,hf,zld],Xx⟩
 ·have hk':k=ts.length:=by simp at hc;omega
  subst hk'
  rw[List.drop_length]at hR
  unfold ixS at hR
  subst hR
  simp only[go_sem]
  exact Z9):p:=h
def Y5{p:Prop} (h:p:=by
 have hR1:=congrArg Prod.fst (@kV _ _ st ts sn 0)
 dsimp only at hR1 ⊢
 generalize hX:evS st ts sn=X at *
 have hl2:=glq hid
 have hne2:(id=H.nx)=False:=eq_false Xa
 have hfx:=hlt _ (List.mem_cons_of_mem _ List.mem_cons_self)
 clear hlt
 have hcp:(H.push (.cells [.func (.func F) fst caps])).Closed:=ah hcl (by simp only[zns,znt,and_true];exact AV.lt_mono (Nat.le_succ H.nx) _ hfx)
 subst hs
 simp only[go_sem]
 refine⟨ts,id,sn,fun x s=>(!(st x s).1,(st x s).2),g,⟨by rw[ha];rfl,hl,?_,hg,fun x hx s hs=>?_⟩,?_⟩
 ·rw[if_neg (Xa)];exact hid
 ·obtain⟨h1,h2⟩:=hq x hx s hs
  refine⟨h1,fun H' hle hcl'=>?_⟩
  rw[zlg,if_neg (Xa)]at hle
  have hle0:(H.set id (mpV s)).Le H':=((lRq _).push _).trans hle
  have hg0:H'.get H.nx=some (.cells [.func (.func F) fst caps]):=hle.get _ _ (AHeap.get_push_new _ _)
  have hid':H'.get id=some (mpV s):=by
   refine hle.get _ _ ?_
   rw[zlf,if_neg (by rw[zld];omega),aF,if_pos rfl,if_pos hl2]
  rw[← ha]
  obtain⟨v,H1,⟨hv,hH⟩,hc⟩:=hL.2.1 rfl [av x,.ptr H.nx 0] H' (fun v H1=>v=.ret (.bool (!(st x s).1))∧H1=H'.set id (mpV (st x s).2)) ⟨x,id,s,st,g,F,fst,caps,⟨rfl,hg0,hid',hs,fun s' hs'=>⟨(hq x hx s' hs').1,fun H2 h3 h4=>(hq x hx s' hs').2 H2 ((ns hle0).trans h3) h4⟩⟩,rfl,rfl⟩
  subst hv hH
  exact hc
 ·rw[hR1]
  try simp only[aX,go_sem]
  have hc2:=@aV _ id (d9 lL (ixS (fun x s=>(!(st x s).1,(st x s).2)) ts sn 0).2) hcl
  exact Z11):p:=h
def Y6{p:Prop} (h:p:=by
 have hR:=@jM _ q ts
 generalize ts.all q=R at *
 have hfx:=hlt _ (List.mem_cons_of_mem _ List.mem_cons_self)
 clear hlt
 subst hs
 simp only[go_sem]
 refine⟨ts,fun x=>!q x,⟨by rw[ha];rfl,hl,fun x hx=>?_⟩,?_⟩
 ·rw[← ha]
  exact clB hL ⟨x,q x,F,fst,caps,⟨rfl,by simp only[go_sem],fun H' h1 h2=>hq x hx H' (((lRq _).push _).trans h1) h2⟩,rfl⟩
 ·rw[hR]
  try simp only[aA,go_sem]
  exact Z1):p:=h
def Y7{p:Prop} (h:p:=by
 have hcs:=aB hg
 have hl:=glq hg
 have hne:(c=H.nx)=False:=eq_false Xa
 obtain⟨cs,hav,hcl3⟩:=hag t
 have hts:=ybc (Nat.le_of_eq hcl3)
 rw[hav]at hq hlt ⊢
 have hlx:=hlt _ (List.mem_cons_self)
 clear hlt
 simp only[go_sem,hcs,hne,hg,hcl3,hts,ju]
 refine⟨_,?_,hq _ ((lRq _).push _) ?_⟩
 ·try simp only[aA,go_sem]
  exact Z1
 ·have h0:=AV.lt_mono (Nat.le_succ H.nx) _ hlx
  rw[znp]at h0
  exact ah hcl h0):p:=h
def Y8{p:Prop} (h:p:=by
 try(repeat with_reducible refine Yq ?_)
 exact Z1):p:=h
def Y9{p:Prop} (h:p:=by
 (simp only[bkq,enterW,bg,ltF,ne_eq,Nat.reduceEqDiff,reduceCtorEq,hm,hf];try simp (disch:=first|exact Zd|omega) [↓zmm,beq,ybc,ybd,ybe,ag,wk,wk2,wk1,wkM,wkL,ay,ybf,byq,biq,eN,hcl,hm,hf];try(repeat' (first|assumption|omega|exact True.intro|refine And.intro ?_ ?_|refine aY ?_|refine bf ?_|refine ah ?_ ?_|refine bA ?_ ?_|refine dJ ?_|exact lRq _|refine lPq ?_ _|refine AHeap.Le.del ?_ ?_|(simp only[bt,and_true,true_and,hm,hf];first|done|omega|(simp;done)))))
 exact dV hcl):p:=h
def Y10{p:Prop} (h:p:=by
 try simp only[go_sem,hgk,ek]
 try(repeat with_reducible refine aq ?_)
 refine lpB x.keys (fun k=>bp S k.field) (fun j bj=>[(3,.bool bj),(1,.ptr H.nx 0),(21,.slice .any 8 (S.tables.map au)),(22,.int .i64 (S.tables.length:Int)),(23,.int .i64 (k:Int)),(5,.ptr (H.nx+1) 0),(28,.slice .any 3 (x.keys.map aZ)),(29,.int .i64 (x.keys.length:Int)),(30,.int .i64 (j:Int))]) ((fJ H S).push (.cells (iO x))) hR (en5 hcI) ?_
 clear hR
 intro j bj hj hR
 have hbj:=(hS.tn x hmk).2.1
 simp only[go_sem]
 refine csL hj (fun hj'=>?_) fun hj'=>?_
 ·skip
  obtain⟨y,hmj,hgj,hR⟩:=hdL aZ KX hj' hR
  have ej:=ek5 j
  replace hR:=af (E:=bp S y.field) hR
  cases bj with
  |false=>
   try simp only[go_sem,hgj,ej,aM,aH,aS,aW,bz,dW,hxF,hxH,hxT,hxA]
   try(repeat with_reducible refine aq ?_)
   replace hR:=lff hR
   exact⟨(j+1,false),⟨om5,hR⟩,om5,en5 hcI⟩
  |true=>
   try simp only[go_sem,hgj,ej,aM,aH,aS,aW,bz,dW,hxF,hxH,hxT,hxA]
   try(repeat with_reducible refine aq ?_)
   refine⟨S,⟨rfl,sl⟩,?_⟩
   cases c1:(bp S y.field)with
   |false=>
    try simp only[go_sem,hgj,ej,aM,aH,aS,aW,bz,dW,hxF,hxH,hxT,hxA,c1]
    try(repeat with_reducible refine aq ?_)
    replace hR:=lf false hR (by simp only[c1,tfC])
    exact⟨(j+1,false),⟨om5,hR⟩,om5,en5 hcI⟩
   |true=>
    try simp only[go_sem,hgj,ej,aM,aH,aS,aW,bz,dW,hxF,hxH,hxT,hxA,c1]
    try(repeat with_reducible refine aq ?_)
    replace hR:=lf true hR (by simp only[c1,tfC])
    exact⟨(j+1,true),⟨om5,hR⟩,om5,en5 hcI⟩
 ·skip
  replace hR:=ndL hj' hR
  subst hj'
  try simp only[go_sem,iK]
  refine lpB x.actions (fun a=>fh S a) (fun i bi=>[(3,.bool bi),(1,.ptr H.nx 0),(21,.slice .any 8 (S.tables.map au)),(22,.int .i64 (S.tables.length:Int)),(23,.int .i64 (k:Int)),(5,.ptr (H.nx+1) 0),(44,.slice .any 1 (inL x.actions)),(45,.int .i64 (x.actions.length:Int)),(46,.int .i64 (i:Int))]) ((fJ H S).push (.cells (iO x))) hR (en5 hcI) ?_
  clear hR
  intro i bi hi hR
  have hbi:=(hS.tn x hmk).2.2.1
  simp only[go_sem,inL]
  refine csL hi (fun hi'=>?_) fun hi'=>?_
  ·skip
   obtain⟨z,hmi,hgi,hR⟩:=hdI hi' hR
   have ei:=ek5 i
   replace hR:=af (E:=fh S z) hR
   cases bi with
   |false=>
    try simp only[go_sem,hgi,ei,aM,aH,aS,aW,bz,dW,hxF,hxH,hxT,hxA]
    try(repeat with_reducible refine aq ?_)
    replace hR:=lff hR
    exact⟨(i+1,false),⟨om5,hR⟩,om5,en5 hcI⟩
   |true=>
    try simp only[go_sem,hgi,ei,aM,aH,aS,aW,bz,dW,hxF,hxH,hxT,hxA]
    try(repeat with_reducible refine aq ?_)
    refine⟨S,⟨rfl,sl⟩,?_⟩
    cases c1:(fh S z)with
    |false=>
     try simp only[go_sem,hgi,ei,aM,aH,aS,aW,bz,dW,hxF,hxH,hxT,hxA,c1]
     try(repeat with_reducible refine aq ?_)
     replace hR:=lf false hR (by simp only[c1,tfC])
     exact⟨(i+1,false),⟨om5,hR⟩,om5,en5 hcI⟩
    |true=>
     try simp only[go_sem,hgi,ei,aM,aH,aS,aW,bz,dW,hxF,hxH,hxT,hxA,c1]
     try(repeat with_reducible refine aq ?_)
     replace hR:=lf true hR (by simp only[c1,tfC])
     exact⟨(i+1,true),⟨om5,hR⟩,om5,en5 hcI⟩
  ·skip
   replace hR:=ndL hi' hR
   subst hi'
   try simp only[go_sem]
   have hih:=ix_has (n:=x.dflt) (l:=x.actions)
   replace hR:=ae (E:=x.actions.contains x.dflt) hR
   cases bi with
   |false=>
    try simp only[go_sem,hgk,ek,aM,aH,aS,aW,bz,dW,hxF,hxH,hxT,hxA,hih]
    try(repeat with_reducible refine aq ?_)
    replace hR:=lff hR
    exact⟨(k+1,false),⟨om5,hR⟩,om5,en5 hcH⟩
   |true=>
    try simp only[go_sem,hgk,ek,aM,aH,aS,aW,bz,dW,hxF,hxH,hxT,hxA,hih]
    try(repeat with_reducible refine aq ?_)
    refine⟨x.actions,⟨rfl,(hS.tn x hmk).2.2.1⟩,?_⟩
    cases c1:(x.actions.contains x.dflt)with
    |false=>
     try simp only[go_sem,hgk,ek,aM,aH,aS,aW,bz,dW,hxF,hxH,hxT,hxA,hih,c1]
     try(repeat with_reducible refine aq ?_)
     replace hR:=lf false hR (by simp only[c1,tfC])
     exact⟨(k+1,false),⟨om5,hR⟩,om5,en5 hcH⟩
    |true=>
     try simp only[go_sem,hgk,ek,aM,aH,aS,aW,bz,dW,hxF,hxH,hxT,hxA,hih,c1]
     try(repeat with_reducible refine aq ?_)
     replace hR:=lf true hR (by simp only[c1,tfC])
     exact⟨(k+1,true),⟨om5,hR⟩,om5,en5 hcH⟩):p:=h
def Y11{p:Prop} (h:p:=by
 rw[yar,bX,di,hst]
 refine⟨by simp only[zko,zkt,zlc,zld,ak];omega,by repeat first|exact .refl _|refine .push ?_ _,?_,?_,?_⟩
 ·rw[← hst];exact ah (hcl1 _) (hlc _)
 ·simp[ltF,zlc,zld,znl,znd,hlv]
  omega
 ·simp[bg,wk2,wk1,wkM,Fr.get]):p:=h
def Y12{p:Prop} (h:p:=by
 simp only[go_sem,e5]
 refine⟨k+1,Xa,Xa,by simp only[zko,zkt,zlc,ak];omega,by repeat first|exact .refl _|refine .push ?_ _,ah (hcl1 _) (hlc _),?_,?_⟩
 ·simp[ltF,zlc,ak,znl,znd,hlv]
  omega
 ·simp[bg,wk2,wk1,wkM,Fr.get]):p:=h
def Y13{p:Prop} (h:p:=by
 have hk':k=l.length:=by simp at hc;omega
 subst hk'
 rw[List.take_length]
 simp only[go_sem]
 refine⟨?_,by repeat first|exact .refl _|refine .push ?_ _,hcl1 _,?_⟩
 ·simp[wk,wk2,wk1,ay]
 ·simp[znq,znt]):p:=h
def Y14{p:Prop} (h:p:=by
 simp[bg,wk2,wk1,wkM,Fr.get]):p:=h
def Y15{p:Prop} (h:p:=by
 have hcs:=aB hg
 have hl:=glq hg
 have hl2:=glq hid
 have hne:(c=H.nx)=False:=eq_false Xa
 have hne2:(id=H.nx)=False:=eq_false Xa
 have hss:=fN hid
 obtain⟨hg2,hqx⟩:=hq sn hgs
 obtain⟨cs,hav,hcl3⟩:=hag x
 have hts:=ybc (Nat.le_of_eq hcl3)
 rw[hav]at hqx hlt ⊢
 have hlx:=hlt _ (List.mem_cons_self)
 clear hlt
 have h0:=AV.lt_mono (Nat.le_succ H.nx) _ hlx
 rw[znp]at h0
 have hcp:(H.push (.cells cs)).Closed:=ah hcl h0
 have hc2:(H.set id (mpV (st x sn).2)).Closed:=aV hcl
 have hq1:=hqx (H.push (.cells cs)) (by rw[hss];exact(lRq _).push _) hcp
 rw[zlg,if_neg (Xa)]at hq1
 simp only[go_sem,hcs,hne,hg,hcl3,hts,wu]
 refine⟨_,_,?_,hq1⟩
 try simp only[aX,go_sem]
 exact Z8):p:=h
def Y16{p:Prop} (h:p:=by
 simp[ltF,zlc,ak,znl,znd,zne,aa,aa cz,aa b9,aa cO,aa cg,aa cw,aa cM,aa dt,aa cy,aa dD,aa cf,aa bD,aa bZ,aa cB,aa fun _=>ib,aa fun _=>of_eq_true znd,aa fun _=>of_eq_true zne]
 try omega):p:=h
def Y17{p:Prop} (h:p:=by
 clear hlt
 have hR:=@eY _ q ts 0
 generalize ts.any q=R at *
 subst hs
 simp only[go_sem]
 refine⟨ts,q,⟨by rw[ha];rfl,hl,by rw[← ha];exact hq⟩,?_⟩
 simp only[aA,go_sem,hR]
 exact Z1):p:=h
def Y18{p:Prop} (h:p:=by
 simp[ltF,zlc,ak,znl,znd,zne,aa cz,aa b9,aa cO,aa cg,aa cw,aa cM,aa dt,aa cy,aa dD,aa cf,aa bD,aa bZ,aa cB,aa fun _=>ib,aa fun _=>of_eq_true znd,aa fun _=>of_eq_true zne]
 try omega):p:=h
def Y19{p:Prop} (h:p:=by
 have hk':k=ts.length:=by simp at hc;omega
 subst hk'
 rw[List.drop_length]at hR
 unfold ixP at hR
 subst hR
 simp only[go_sem]
 exact Z1):p:=h
def Y20{p:Prop} (h:p:=by
 refine⟨?_,by repeat first|exact .refl _|refine .push ?_ _,hcl1 _,?_⟩
 ·simp[wk,wk2,wk1,ay]
 ·simp[znq,znt]):p:=h
def Y21{p:Prop} (h:p:=by
 subst hk'
 rw[List.drop_length]at hR
 unfold ixP at hR
 subst hR
 simp only[go_sem]
 exact Z1):p:=h
def Y22{p:Prop} (h:p:=by
 try(repeat with_reducible refine Yq ?_)
 refine⟨?_,by first|exact hlW _|(repeat refine lPq ?_ _;exact hlW _),hcl,?_⟩
 ·simp[wk,wk2,wk1,ay,wkM,zlj]
 ·simp[znq,zns,znt,zmq,znd,zlj,om]):p:=h
def Y23{p:Prop} (h:p:=by
 try(repeat with_reducible refine aq ?_)
 replace hR:=lff hR
 exact⟨(k+1,false),⟨om5,hR⟩,om5,en5 hcH⟩):p:=h
def Y24{p:Prop} (h:p:=by
 try(repeat with_reducible refine aq ?_)
 replace hR:=lff hR
 exact⟨(j+1,false),⟨om5,hR⟩,om5,en5 hcI⟩):p:=h
def Y25{p:Prop} (h:p:=by
 exact⟨(j+1,false),⟨om5,hR⟩,om5,en5 hcI⟩):p:=h
def Y26{p:Prop} (h:p:=by
 exact⟨(k+1,false),⟨om5,hR⟩,om5,en5 hcH⟩):p:=h
theorem Y27{p:Prop} (h:p:=by
 simp only[go_sem,iNq,ybb,hg',hne2,ju]
 (repeat with_reducible refine Yq ?_)
 refine⟨_,?_,hqx _ hlp hcp⟩
 have hmg:=xP sn (f x)
 have hmu:=@aV _ H.nx ((AV.str (f x),.bool true)::d9 AV.str sn) hcc
 have hsn':=ja mE hsn
 cases hb:sn.contains (f x)with
 |true=>
  rw[hb,if_pos rfl]at hmg
  rw[hb,Bool.not_true,Bool.false_and]at hR
  subst hR
  simp only[aA,go_sem,zix,hne,hid,hmg]
  refine⟨⟨tq,hsn',mE _ hgx,rfl⟩,?_⟩
  try simp only[go_sem,hmg]
  exact Z5
 |_=>
  rw[hb,if_neg Bool.false_ne_true]at hmg
  rw[hb,Bool.not_false,Bool.true_and]at hR
  simp only[aA,go_sem,zix,ziy,hne,hid,hmg,e5]
  refine⟨⟨tq,hsn',mE _ hgx,rfl⟩,?_⟩
  try simp only[go_sem,hmg,hid,hne,ziy,e5]
  refine⟨⟨tq,hsn',mE _ hgx,rfl,rfl⟩,(k+1,f x::sn,Hc.set H.nx (.mapo (d9 AV.str (f x::sn)))),⟨Xd,hR,?_,cJ hle (nrq _),aV hcc,?_⟩,Xd,?_⟩
  ·intro v hv
   rcases List.mem_cons.1 hv with rfl|hv
   ·exact hgx
   ·exact hsn v hv
  ·dsimp only
   rw[aF,if_pos rfl,if_pos (glq hid)]
  ·have hmu':(Hc.set H.nx (.mapo (d9 AV.str (f x::sn)))).Closed:=hmu
   have hrow:((AV.str (f x),AV.bool true)::d9 AV.str sn)=d9 AV.str (f x::sn):=rfl
   try rw[hrow]
   try simp only[hrow]
   exact Z6):p:=h
def Y28{p:Prop} (h:p:=by
 have hk':k=ts.length:=by simp at hc;omega
 subst hk'
 rw[List.drop_length]at hR
 have hR':true=R:=hR
 subst hR'
 simp only[go_sem]
 exact Z7):p:=h
def Y29{p:Prop} (h:p:=by
 have h1:=hm (Hc.nx+1) (by have:=hle.nx;omega)
 rw[AV.lt]at h1
 have h2:=h1.2 k (by rw[ybb];exact hk')
 rw[List.getElem_map]at h2
 rwa[← hx]at h2):p:=h
def Y30{p:Prop} (h:p:=by
 have o9:AV.lt Hc.nx (.slice (.own i9) 1 (U9 (k+1))):=cj Xa (U9L _ _)
 have o10:AV.lt Hc.nx (.slice (.own i10) 1 []):=cj Xa trivial
 refine⟨(k+1,false,Hc.set i9 (.buf 1 (k+1))),⟨Xd,cJ hle Xa,hcs2,by dsimp only;rw[aF,if_pos rfl,if_pos (by omega)],by dsimp only;rw[aF,if_neg (by omega)];exact g10,hR⟩,Xd,Xy,hIl.trans hle2,hcs2,by(simp[ltF,zld,znl,znd,zne,ltZ,eP,o9,o10,hst6,hst7,hst8,hst11];try omega),Xz⟩):p:=h
theorem Y31{p:Prop} (h:p:=by
 cases r with
 |bad q=>obtain⟨m1,m2⟩:=this;exact⟨m1,Xa⟩
 |ok b q u =>
  obtain⟨m1,m2,m3,m4,m5,m6⟩:=this
  simp only[Rl.isL,if_true]at m4
  exact⟨m1,m2,Xa,by simp[Rl.isL];omega,m5,Xa⟩):p:=h
def Y32{p:Prop} (h:p:=by
 simp only[go_sem]
 exact Z1):p:=h
def Y33{p:Prop} (h:p:=by
 have hcc:(H.set id (mpV (ixS st ts sn 0).2)).Closed:=aV hcl
 clear hlt
 subst hs
 simp only[go_sem]
 refine⟨ts,id,sn,st,g,⟨by rw[ha];rfl,hl,hid,hg,by rw[← ha];exact hq⟩,?_⟩
 generalize ixS st ts sn 0=R at *
 try simp only[aX,go_sem]
 exact Z10):p:=h
def Y34{p:Prop} (h:p:=by
 skip
 replace hR:=ndL hj' hR
 subst hj'
 try simp only[go_sem,ek]
 exact⟨(k+1,bj),⟨om5,hR⟩,om5,en5 hcH⟩):p:=h
def Y35{p:Prop} (h:p:=by
 simp only[k1,tfC]at hR
 subst hR
 try simp only[aA,go_sem,hcs,hne,hg,inL,fp,iB,bB,eb,dT,bo,k1]
 exact Z1):p:=h
def Y36{p:Prop} (h:p:=by
 refine⟨Xa,by(try simp only[lAq,yaz,yba]);omega,by(try simp only[lAq,yaz,yba]);omega,by(try simp only[lAq,yaz,yba]);omega,?_,?_,?_,i4⟩
 ·simpa[aK,Nat.add_assoc]using i1
 ·simpa[aK,Nat.add_assoc]using i2
 ·simpa[aK,Nat.add_assoc]using i3):p:=h
def Y37{p:Prop} (h:p:=by
 try simp only[aA,go_sem]
 exact Z1):p:=h
def Y38{p:Prop} (h:p:=by
 have o10:AV.lt Hc.nx (.slice (.own i10) 1 (U10 (k+1))):=cj Xa (U10L _ _)
 refine⟨(k+1,false,Hc.set i10 (.buf 1 (k+1))),⟨Xd,cJ hle Xa,hcs2,by dsimp only;rw[aF,if_pos rfl,if_pos (by omega)],hR⟩,Xd,Xy,hIl.trans hle2,hcs2,by(simp[ltF,zld,znl,znd,zne,ltZ,eP,o10,hst6,hst7,hst8,hst9,hst11];try omega),Xz⟩):p:=h
def Y39{p:Prop} (h:p:=by
 simp only[k1,tfC]at hR
 subst hR
 try simp only[aA,go_sem,hcs,hne,hg,lD,dn,dT,eb,k1]
 exact Z1):p:=h
def Y40{p:Prop} (h:p:=by
 rw[e]
 simp only[go_sem,bhq,yaq,yar,yao,yap]
 simp (disch:=first|exact Zd|omega) [↓zmm,beq,ybc,ybd,ybe,ag,wk,wk2,wk1,wkM,wkL,ay,ybf,hcl2]
 first|exact aa eL|exact⟨by repeat first|exact .refl _|refine .push ?_ _,aa eL⟩):p:=h
def Y41{p:Prop} (h:p:=by
 exact⟨(j+1,true),⟨om5,hR⟩,om5,en5 hcI⟩):p:=h
def Y42{p:Prop} (h:p:=by
 rw[ra]
 try simp only[aA,go_sem]
 simp (disch:=first|exact Zd|omega) [↓zmm,beq,ybc,ybd,ybe,ag,wk,wk2,wk1,wkM,wkL,ay,ybf,hcl]
 first|done|repeat first|exact .refl _|refine .push ?_ _):p:=h
def Y43{p:Prop} (h:p:=by
 exact⟨(k+1,true),⟨om5,hR⟩,om5,en5 hcH⟩):p:=h
def Y44{p:Prop} (h:p:=by
 clear hlt
 have hcs:=aB hg
 have hl:=glq hg
 have hne:(c=H.nx)=False:=eq_false Xa
 simp only[go_sem,hcs,hne]
 (repeat with_reducible refine Yq ?_)
 exact Z1):p:=h
def Y45{p:Prop} (h:p:=by
 have o8:AV.lt Hc.nx (.slice (.own i8) 1 (U8 (k+1))):=cj Xa (U8L _ _)
 have o9:AV.lt Hc.nx (.slice (.own i9) 1 []):=cj Xa trivial
 have o10:AV.lt Hc.nx (.slice (.own i10) 1 []):=cj Xa trivial
 refine⟨(k+1,false,Hc.set i8 (.buf 1 (k+1))),⟨Xd,cJ hle Xa,hcs2,by dsimp only;rw[aF,if_pos rfl,if_pos (by omega)],by dsimp only;rw[aF,if_neg (by omega)];exact g9,by dsimp only;rw[aF,if_neg (by omega)];exact g10,hR⟩,Xd,Xy,hIl.trans hle2,hcs2,by(simp[ltF,zld,znl,znd,zne,ltZ,eP,o8,o9,o10,hst6,hst7,hst11];try omega),Xz⟩):p:=h
def Y46{p:Prop} (h:p:=by
 have hk':k=x.length:=by simp at hc;omega
 subst hk'
 rw[List.take_length]
 unfold swH at hend ⊢
 dsimp only at hend ⊢
 simp only[go_sem,byq,swC,hne,hneq,n1,n2,hcs,hcm,hA,hB,eh,hi0,hb0,mO]at hend ⊢
 (repeat with_reducible refine And.intro (by first|assumption|decide|omega|exact⟨by omega,Xa⟩|exact⟨Xa,Xa,Xa⟩) ?_)
 rw[lAq]at hend
 simp (disch:=first|exact Zd|omega) [↓zmm,beq,ybc,ybd,ybe,ag,wk,wk2,wk1,wkM,wkL,ay,ybf,hend,lAq]
 first|done|exact hend|simpa using hend):p:=h
def Y47{p:Prop} (h:p:=by
 try(repeat with_reducible refine aq ?_)
 exact bw J false (by rw[Bool.false_and]at hR ⊢;exact hR) (en5 hcJ)):p:=h
def Y48{p:Prop} (h:p:=by
 clear hlt
 simp only[go_sem,cm]
 exact Z17):p:=h
def Y49{p:Prop} (h:p:=by
 rename_i hc
 have hlt:=kI hc
 rcases fV hr with⟨q,e,rfl⟩|⟨b,p1,t1,e,e2⟩
 ·obtain⟨m1,m2⟩:=h _ _ _ _ e hg trivial (Xa);exact⟨m1,Xa⟩
 ·cases e2
  obtain⟨k1,k2,k3,k4,k5,k6⟩:=h _ _ _ _ e hg trivial Xa
  simp only[Rl.isL,Bool.false_eq_true,if_false]at k4
  exact⟨Xc,k2,Xf,by simp[Rl.isL];omega,k5.snoc ⟨by simp[nd2],by simp[nd2]⟩ (show(0:Nat)<2^128 by decide) (.inr ⟨by simp only[nd2];omega,by simp only[nd2];omega⟩),Xf⟩):p:=h
def Y50{p:Prop} (h:p:=by
 exact⟨.inl ⟨.inl rfl,rfl,rfl⟩,.inl ⟨.inl rfl,rfl,rfl⟩,.inl ⟨.inl rfl,rfl,rfl⟩,.inl ⟨.inl rfl,rfl,rfl⟩,.inl ⟨.inl rfl,rfl,rfl⟩,.inl ⟨.inl rfl,rfl,rfl⟩,.inl ⟨.inl rfl,rfl,rfl⟩,.inl ⟨.inl rfl,rfl,rfl⟩,rfl,rfl,trivial⟩):p:=h
def Y51{p:Prop} (h:p:=by
 simp only[aA,go_sem,hR]
 exact Z1):p:=h
def Y52{p:Prop} (h:p:=by
 try(repeat with_reducible refine Yq ?_)
 exact Z13):p:=h
def Y53{p:Prop} (h:p:=by
 simp (disch:=first|exact Zd|omega) [↓zmm,beq,List.take_of_length_le,List.drop_append,List.take_append,ag,wk,wk2,wk1,wkM,wkL,ay,List.drop_eq_nil_of_le,hcl]
 first|done|repeat first|exact .refl _|refine .push ?_ _):p:=h
def Y54{p:Prop} (h:p:=by
 try(repeat with_reducible refine aq ?_)
 exact bw J false (by rw[cd,Bool.true_and]at hR;exact hR) (en5 hcJ)):p:=h
def Y55{p:Prop} (h:p:=by
 try(repeat with_reducible refine aq ?_)
 exact bw J true (by rw[cd,Bool.true_and]at hR;exact hR) (en5 hcJ)):p:=h
def Y56{p:Prop} (h:p:=by
 simp[ltF,zlc,znl,znd,znf,lt_bys]
 try omega):p:=h
def Y57{p:Prop} (h:p:=by
 have h1:=bA (i:=H.nx+1+1) (cs:=swC (H.nx+1+1+1) [] false false false) (aY (a:=1) (b:=0) (ah (cs:=[]) (aY (a:=1) (b:=0) (ah (cs:=aR x) hcl (by have:=iC (n:=H.nx+1) x;simp only[cW,znp]at this;exact this))) trivial)) (by simp only[swC,zns,znt,zne,and_true,zlc];rw[cI];exact⟨fun id h=>(by cases h;omega),trivial⟩)
 simp only[go_sem]at h1
 rw[hHB];exact h1):p:=h
def Y58{p:Prop} (h:p:=by
 obtain⟨m1,m2⟩:=h _ _ _ _ e hg trivial (Xa);exact⟨m1,Xa⟩):p:=h
def Y59{p:Prop} (h:p:=by
 refine⟨hl,?_⟩
 generalize df s=b0 at *
 subst hR
 cases b0<;>cases b1<;>cases b2<;>cases b3<;>(simp only[aA,go_sem,d1,d2,d3,Bool.not_not,Bool.not_true,Bool.not_false,Bool.and_self,Bool.and_true,Bool.true_and,Bool.and_false,Bool.false_and];try simp (disch:=first|exact Zd|omega) [↓zmm,beq,ybc,ybd,ybe,ag,wk,wk2,wk1,wkM,wkL,ay,ybf,hcl])):p:=h
def Y60{p:Prop} (h:p:=by
 simp only[cW,aR]
 exact⟨.inl ⟨.inl rfl,rfl,rfl⟩,uv (by simp only[go_sem];rfl) (by have h9:=hrow;rw[h1]at h9;exact h9) (p7 Xa),.inl ⟨.inl rfl,rfl,rfl⟩,.inl ⟨.inl rfl,rfl,rfl⟩,.inl ⟨.inl rfl,rfl,rfl⟩,.inl ⟨.inl rfl,rfl,rfl⟩,.inl ⟨.inl rfl,rfl,rfl⟩,.inl ⟨.inl rfl,rfl,rfl⟩,rfl,rfl,trivial⟩):p:=h
def Y61{p:Prop} (h:p:=by
 split at hh
 ·obtain⟨ts,id,sn,st,g,⟨h1,h2,h3,h4,h5⟩,h6⟩:=hh
  rw[h1]
  exact⟨_,_,h6,h av sz rfl rfl _ ts id sn st g _ _ _ _ h2 h3 h4 h5⟩
 ·exact hh.elim):p:=h
def Y62{p:Prop} (h:p:=by
 simp only[Nat.add_assoc,Nat.reduceAdd]at i1 i2 i3 h1 h2
 simp only[eJ,Nat.add_assoc,Nat.reduceAdd,hb,ci,h1,h2,if_true,if_false,qM]
 rw[i1]
 exact⟨rfl,c,i2,i3⟩):p:=h
def Y63{p:Prop} (h:p:=by
 skip
 replace hR:=ndL hk' hR
 subst hk'
 rw[hE,Bool.and_true]at hR
 subst hR
 try simp only[go_sem]
 exact Z1):p:=h
def Y64{p:Prop} (h:p:=by
 simp only[cW,aR]
 exact⟨.inl ⟨.inl rfl,rfl,rfl⟩,.inl ⟨.inl rfl,rfl,rfl⟩,.inl ⟨.inl rfl,rfl,rfl⟩,.inl ⟨.inl rfl,rfl,rfl⟩,uv (qg2 _ _) (by have h9:=hrow;rw[t1]at h9;exact h9) (p7 Xa),.inl ⟨.inl rfl,rfl,rfl⟩,.inl ⟨.inl rfl,rfl,rfl⟩,.inl ⟨.inl rfl,rfl,rfl⟩,rfl,rfl,trivial⟩):p:=h
def Y65{p:Prop} (h:p:=by
 have hk':k=a.params.length:=by simp at hc;omega
 subst hk'
 have hf:Aw (a.params.drop a.params.length) (vs.drop a.params.length)=true:=by
  rw[List.drop_length,← hlen,List.drop_length];rfl
 rw[hf]at hR
 subst hR
 simp only[aX,aA,bhq,yaq,yar,yao,yap,go_sem]
 exact Z1):p:=h
def Y66{p:Prop} (h:p:=by
 try(repeat with_reducible refine aq ?_)
 exact Z13):p:=h
def Y67{p:Prop} (h:p:=by
 simp only[go_sem,hgk,ek]
 try(repeat with_reducible refine aq ?_)
 exact⟨(k+1,false),⟨om5,by rw[Bool.false_and]at hR ⊢;exact hR⟩,om5,en5 hcH⟩):p:=h
def Y68{p:Prop} (h:p:=by
 refine⟨(j+1,false,n+btF S y),⟨Xd,Xd,by dsimp only;push_cast;omega,hM,hR⟩,Xd,?_⟩
 exact en5 hcI):p:=h
def Y69{p:Prop} (h:p:=by
 simp (disch:=first|exact Zd|omega) [↓zmm,beq,ybc,ybd,ybe,ag,wk,wk2,wk1,wkM,wkL,ay,ybf,hcl9,lAq]
 first|done|exact hcl9|simpa using hcl9):p:=h
def Y70{p:Prop} (h:p:=by
 exact hc.le2 (by repeat first|exact .refl _|refine .push ?_ _) (nrq _) Xa Xa):p:=h
def Y71{p:Prop} (h:p:=by
 simp only[k1,k2,tfC]at hR
 subst hR
 try simp only[aA,go_sem,hcs,hne,hg,inL,fp,iB,bB,eb,dT,bo,k1,k2]
 exact Z1):p:=h
def Y72{p:Prop} (h:p:=by
 unfold AHeap.set;congr 1;funext j;dsimp only;by_cases h1:j=id<;>simp[h1]):p:=h
def Y73{p:Prop} (h:p:=by
 split at hh
 ·obtain⟨ts,q,⟨h1,h2,h3⟩,h4⟩:=hh
  rw[h1]
  exact⟨_,h4,h av sz rfl rfl _ ts q _ _ _ _ h2 h3⟩
 ·exact hh.elim):p:=h
def Y74{p:Prop} (h:p:=by
 rw[hE,Bool.and_true]at hR
 subst hR
 try simp only[go_sem]
 exact Z3):p:=h
def Y75{p:Prop} (h:p:=by
 try simp only[go_sem,ek]
 exact⟨(k+1,df x.name),⟨om5,by rw[Bool.true_and,Bool.and_assoc]at hR;exact hR⟩,om5,en5 hcH⟩):p:=h
theorem Y76{p:Prop} (h:p:=by
 induction l with
 |nil=>rfl
 |cons v l ih =>
  unfold d9 at ih ⊢
  rw[yae,ki,ih,List.contains_cons]
  by_cases h:v=x
  ·subst h;simp[feq,rq]
  ·have h':(x==v)=false:=by simp;exact fun e=>h e.symm
   rw[h',Bool.false_or]
   simp[feq,rq,h]):p:=h
def Y77{p:Prop} (h:p:=by
 simp only[kM,lAq,yaz,yba]
 repeat first|exact .refl _|refine .push ?_ _):p:=h
def Y78{p:Prop} (h:p:=by
 rw[dfq hlen,Bool.false_and]at hR
 subst hR
 have dl:((vs.length:Int) !=(a.params.length:Int))=true:=Xf
 simp only[aX,aA,bhq,yaq,yar,yao,yap,go_sem,ybb,dl]
 exact Z1):p:=h
def Y79{p:Prop} (h:p:=by
 exact⟨(j+1,false),⟨om5,hR⟩,om5,en5 hcT (d:=by(simp[ltF,zlc,znl,znd,zne,aa gL,aa fK,aa eL,aa gh,aa iH,aa fX,aa fo,aa jI,aa cZ,aa ir,aa gf,aa gO,aa km,lM,gS,htm,hrm,hlo _ _ (Nat.lt_succ_of_lt hlnx)];try omega))⟩):p:=h
def Y80{p:Prop} (h:p:=by
 exact⟨(j+1,true),⟨om5,hR⟩,om5,en5 hcT (d:=by(simp[ltF,zlc,znl,znd,zne,aa gL,aa fK,aa eL,aa gh,aa iH,aa fX,aa fo,aa jI,aa cZ,aa ir,aa gf,aa gO,aa km,lM,gS,htm,hrm,hlo _ _ (Nat.lt_succ_of_lt hlnx)];try omega))⟩):p:=h
def Y81{p:Prop} (h:p:=by
 simp[ltF,zld,znl,znd,znf,zmq]
 omega):p:=h
def Y82{p:Prop} (h:p:=by
 refine en5 hcH (d:=?_)
 simp[ltF,zlc,znl,znd,zne,ltZ,znp,hLD]
 try omega):p:=h
def Y83{p:Prop} (h:p:=by
 rw[AV.lt]
 exact⟨fun id e=>by cases e;exact h,fun j hj=>by simp only[inL,List.getElem_map,znd]⟩):p:=h
def Y84{p:Prop} (h:p:=by
 unfold a8;rw[AHeap.get_set_ne _ _ hnn]):p:=h
def Y85{p:Prop} (h:p:=by
 exact⟨(j+1,false),⟨om5,hR⟩,om5,en5 hcH (d:=by(simp[ltF,zlc,znl,znd,zne,aa gL,aa fK,aa eL,aa gh,aa iH,aa fX,aa fo,aa jI,aa cZ,aa ir,aa gf,aa gO,aa km,lM,gS,znp,hLD];try omega))⟩):p:=h
def Y86{p:Prop} (h:p:=by
 unfold a8;rw[AHeap.get_set_ne _ _ hnn,AHeap.get_set_same _ _ hid]):p:=h
def Y87{p:Prop} (h:p:=by
 simp only[k1,k2,k3,k4,k5,k6,k7,k8,k9,tfC]at hR
 subst hR
 try simp only[aA,go_sem,bo,bY,cx,bM,bW,gR,cL,cV,k1,k2,k3,k4,k5,k6,k7,k8,k9]
 exact Z1):p:=h
def Y88{p:Prop} (h:p:=by
 simp only[k1,k2,k3,k4,k5,k6,k7,k8,tfC]at hR
 subst hR
 try simp only[aA,go_sem,da,hb1,hb2,bY,cx,bM,bW,cL,cV,k1,k2,k3,k4,k5,k6,k7,k8]
 exact Z1):p:=h
def Y89{p:Prop} (h:p:=by
 simp only[c1,c6,c7,cd,co,k1,k2,k3,tfC]at hR
 subst hR
 simp only[go_sem,br,fx,fO,fQ,eS,eV,Bool.bne_false,c1,c6,c7,cd,co,k1,k2,k3]
 exact Z1):p:=h
def Y90{p:Prop} (h:p:=by
 simp only[go_sem,iNq,gN,Bn,g1,g2,Nat.mul_one,nzq,lS,st,e0]
 (repeat with_reducible refine Yq ?_)
 refine⟨i+1,Xa,Xa,?_⟩
 exact Z2):p:=h
def Y91{p:Prop} (h:p:=by
 simp only[c1,c6,cd,co,k1,k2,k3,tfC]at hR
 subst hR
 simp only[go_sem,br,fx,fO,fQ,eS,eV,Bool.bne_false,c1,c6,cd,co,k1,k2,k3]
 exact Z1):p:=h
def Y92{p:Prop} (h:p:=by
 simp only[c1,c6,c7,co,k1,k2,k3,tfC]at hR
 subst hR
 simp only[go_sem,br,fx,fO,fQ,eS,eV,Bool.bne_false,c1,c6,c7,co,k1,k2,k3]
 exact Z1):p:=h
def Y93{p:Prop} (h:p:=by
 refine⟨S,⟨rfl,hS.tl⟩,?_⟩
 simp only[aA,go_sem,j1,gb,gkb,iNq,ybb,yy]
 refine⟨⟨Xa,Xa⟩,⟨Xa,Xa⟩,?_⟩
 exact Z1):p:=h
def Y94{p:Prop} (h:p:=by
 simp only[aA,go_sem,hR']
 exact Z1):p:=h
def Y95{p:Prop} (h:p:=by
 refine eZ (fun h1=>?_) (fun h1=>?_)
 all_goals
  subst h1
  simp (disch:=first|exact Zd|omega) [↓zmm,beq,ybc,ybd,ybe,ag,wk,wk2,wk1,wkM,wkL,ay,ybf,byq,hcl]
  omega):p:=h
def Y96{p:Prop} (h:p:=by
 rw[← h0]
 by_cases h:r.toKey<(b.keys.length:Int)
 ·rw[dtq h,dfq (Xa)];rfl
 ·rw[dfq h,dtq (Xa)];rfl):p:=h
def Y97{p:Prop} (h:p:=by
 exfalso
 unfold fh at hany
 rw[List.any_eq_true]at hany
 obtain⟨y,hy,hy2⟩:=hany
 exact absurd hy2 (by have:=List.find?_eq_none.1 f3 y hy;simpa using this)):p:=h
def Y98{p:Prop} (h:p:=by
 have e:jl n w=[]:=by unfold jl;rw[if_neg (by omega)]
 simp (disch:=first|exact Zd|omega) [↓zmm,beq,ybc,ybd,ybe,ag,wk,wk2,wk1,wkM,wkL,ay,ybf,byq,e,hcl]
 omega):p:=h
def Y99{p:Prop} (h:p:=by
 simp only[o1,o2,o3,o4,o5,k2,k3,x3,tfC]at hR
 subst hR
 try simp only[aA,go_sem,bB,bo,ybb,o1,o2,o3,o4,o5,k2,k3,x3]
 exact Z1):p:=h
def Y100{p:Prop} (h:p:=by
 simp only[go_sem,hgj,ej]
 try(repeat with_reducible refine aq ?_)
 exact⟨(j+1,false),⟨om5,by rw[Bool.false_and]at hR ⊢;exact hR⟩,om5,en5 hcI⟩):p:=h
def Y101{p:Prop} (h:p:=by
 rw[← hR];show _=(bk&&((((x.keys.all fun k=>bp S k.field)&&((x.actions.all fun a=>fh S a)&&x.actions.contains x.dflt))&&_)&&_));simp only[Bool.and_assoc]):p:=h
def Y102{p:Prop} (h:p:=by
 refine en5 hcH (d:=?_)
 simp[ltF,zlc,znl,znd,zne,aa gL,aa fK,aa eL,aa gh,aa iH,aa fX,aa fo,aa jI,aa cZ,aa ir,aa gf,aa gO,aa km,lM,gS,znp,hLD]
 try omega):p:=h
def Y103{p:Prop} (h:p:=by
 simp only[o1,o2,o3,o4,o5,k2,x2,tfC]at hR
 subst hR
 try simp only[aA,go_sem,bB,bo,ybb,o1,o2,o3,o4,o5,k2,x2]
 exact Z1):p:=h
def Y104{p:Prop} (h:p:=by
 simp only[o1,o2,o3,d1,k2,k3,x3,tfC]at hR
 subst hR
 try simp only[aA,go_sem,bB,bo,ybb,o1,o2,o3,d1,k2,k3,x3]
 exact Z1):p:=h
def Y105{p:Prop} (h:p:=by
 simp only[k1,k2,k3,tfC]at hR
 subst hR
 try simp only[aA,go_sem,hcs,hne,hg,inL,fp,iB,bB,eb,dT,bo,k1,k2,k3]
 exact Z1):p:=h
def Y106{p:Prop} (h:p:=by
 exact bw J false hR (en5 hcI)):p:=h
def Y107{p:Prop} (h:p:=by
 subst hR
 try simp only[go_sem,hPE,kw,dn1,dn2,eA,eD,eK,eX,eC,fC,fB,ep,eE,eI,eu,fD,fy,fA,gB,c0,c1,c2,c3,c4,k1,k2,c6,w1,w2,w3,iK,zN,ybb,ad]
 exact Z1):p:=h
def Y108{p:Prop} (h:p:=by
 simp only[h0,h1,s0,s1,n1,k1,tfC]at hR
 subst hR
 try simp only[aA,go_sem,bB,bo,ge,dn,h0,h1,s0,s1,n1,k1]
 exact Z1):p:=h
def Y109{p:Prop} (h:p:=by
 simp only[o1,o2,o3,o4,o5,d2,tfC]at hR
 subst hR
 try simp only[aA,go_sem,bB,bo,ybb,o1,o2,o3,o4,o5,d2]
 exact Z1):p:=h
def Y110{p:Prop} (h:p:=by
 simp only[o1,o2,o3,d1,k2,x2,tfC]at hR
 subst hR
 try simp only[aA,go_sem,bB,bo,ybb,o1,o2,o3,d1,k2,x2]
 exact Z1):p:=h
def Y111{p:Prop} (h:p:=by
 simp only[o1,o2,d1,k2,k3,x3,tfC]at hR
 subst hR
 try simp only[aA,go_sem,bB,bo,ybb,o1,o2,d1,k2,k3,x3]
 exact Z1):p:=h
def Y112{p:Prop} (h:p:=by
 simp[ltF,kM,znl,znd,zlc,zld,aa cZ]
 omega):p:=h
def Y113{p:Prop} (h:p:=by
 have:=h _ _ _ _ e hg trivial hp;exact this):p:=h
def Y114{p:Prop} (h:p:=by
 simp only[h0,s0,s1,n1,k1,tfC]at hR
 subst hR
 try simp only[aA,go_sem,bB,bo,ge,dn,h0,s0,s1,n1,k1]
 exact Z1):p:=h
def Y115{p:Prop} (h:p:=by
 simp only[h0,h1,s0,n1,k1,tfC]at hR
 subst hR
 try simp only[aA,go_sem,bB,bo,ge,dn,h0,h1,s0,n1,k1]
 exact Z1):p:=h
def Y116{p:Prop} (h:p:=by
 simp only[o1,o2,o3,o4,d2,tfC]at hR
 subst hR
 try simp only[aA,go_sem,bB,bo,ybb,o1,o2,o3,o4,d2]
 exact Z1):p:=h
def Y117{p:Prop} (h:p:=by
 simp only[o1,o2,d1,k2,x2,tfC]at hR
 subst hR
 try simp only[aA,go_sem,bB,bo,ybb,o1,o2,d1,k2,x2]
 exact Z1):p:=h
def Y118{p:Prop} (h:p:=by
 simp only[o1,d1,k2,k3,x3,tfC]at hR
 subst hR
 try simp only[aA,go_sem,bB,bo,ybb,o1,d1,k2,k3,x3]
 exact Z1):p:=h
def Y119{p:Prop} (h:p:=by
 try simp only[aX,go_sem,hne2]
 exact Z12):p:=h
def Y120{p:Prop} (h:p:=by
 rw[if_pos (c:=(!(o.contains x))=true) (by simp[hx])]
 split
 ·simp only[List.length_cons];omega
 ·simp only[List.length_cons];omega):p:=h
def Y121{p:Prop} (h:p:=by
 simp only[h0,s0,n1,k1,tfC]at hR
 subst hR
 try simp only[aA,go_sem,bB,bo,ge,dn,h0,s0,n1,k1]
 exact Z1):p:=h
def Y122{p:Prop} (h:p:=by
 subst hR
 simp only[aX,aA,bhq,yaq,yar,yao,yap,go_sem,c0,c1,c2,c3,c4,c5,c6,c7,c8,dn1,dn2]
 exact Z1):p:=h
def Y123{p:Prop} (h:p:=by
 simp (disch:=first|exact Zd|omega) [↓zmm,beq,ybc,ybd,ybe,ag,wk,wk2,wk1,wkM,wkL,ay,ybf,hcl1]
 first|done|exact hcl1|simpa using hcl1):p:=h
def Y124{p:Prop} (h:p:=by
 have ek:=ek5 k
 try simp only[go_sem,hgk,ek,iK]
 try(repeat with_reducible refine aq ?_)
 exact⟨k+1,Xa,Xa,en5 hcH⟩):p:=h
def Y125{p:Prop} (h:p:=by
 simp only[o1,d1,k2,x2,tfC]at hR
 subst hR
 try simp only[aA,go_sem,bB,bo,ybb,o1,d1,k2,x2]
 exact Z1):p:=h
def Y126{p:Prop} (h:p:=by
 cases hr;exact⟨hro,hp,Xa,by simp[Rl.isL],hg,nrq _⟩):p:=h
def Y127{p:Prop} (h:p:=by
 simp only[k1,k2,k3,tfC]at hR
 subst hR
 try simp only[aA,go_sem,ld,fp,iS,inL,k1,k2,k3]
 exact Z1):p:=h
def Y128{p:Prop} (h:p:=by
 rename_i hc;rw[if_pos hc];exact h1 (h _ _ _) (fun a p t r h2=>h2) hr):p:=h
def Y129{p:Prop} (h:p:=by
 have:=jO (b:=b) (v:=u) (n:=n) h1
 rw[wrap_i64 Xa (Xa)]):p:=h
def Y130{p:Prop} (h:p:=by
 try simp only[go_sem,ej]
 exact⟨(j+1,jh y.name),⟨om5,by rw[Bool.true_and,Bool.and_assoc]at hR;exact hR⟩,om5,en5 hcI⟩):p:=h
def Y131{p:Prop} (h:p:=by
 simp[ltF,znl,znn,znd,znf,cI,zns,znt,zld]
 omega):p:=h
def Y132{p:Prop} (h:p:=by
 simp[ltF,zlc,znl,znd,aa fX,vP,hm,gS]
 try omega):p:=h
def Y133{p:Prop} (h:p:=by
 simp only[AHeap.set]
 congr 1
 funext j
 by_cases hj:j=i2
 ·simp[hj]
 ·by_cases hj1:j=i1
  ·simp[hj1]
  ·simp[hj,hj1]):p:=h
def Y134{p:Prop} (h:p:=by
 simp only[c1,c2,c3,c4,tfC]at hR
 subst hR
 try simp only[go_sem,iS,c1,c2,c3,c4]
 exact Z14):p:=h
def Y135{p:Prop} (h:p:=by
 have:=cb a.table 2;have:=cb a.key 1;have:=cb a.action 2;have:=cb a.param 1;have:=cb a.toTable 2;have:=cb a.toKey 1;omega):p:=h
def Y136{p:Prop} (h:p:=by
 rw[← hfin _ (show decide ((c.toNat:Int)>126)=_ by simp[mF,d1])]
 repeat first|exact .refl _|refine .push ?_ _):p:=h
def Y137{p:Prop} (h:p:=by
 have hR':R=true:=by rw[← hR];rfl
 subst hR'
 have hne:((c::r) !=[])=true:=rfl
 simp only[go_sem,hne]
 exact Z1):p:=h
def Y138{p:Prop} (h:p:=by
 simp only[c1,c2,tfC]at hR
 subst hR
 simp only[go_sem,ybb,Pp,c1,c2]
 exact Z1):p:=h
def Y139{p:Prop} (h:p:=by
 rw[Int.tdiv_eq_ediv_of_nonneg Xa,wrap_i64]<;>omega):p:=h
def Y140{p:Prop} (h:p:=by
 simp only[k1,tfC]at hR
 subst hR
 try simp only[aA,go_sem,cV,k1]
 exact Z1):p:=h
def Y141{p:Prop} (h:p:=by
 exact leaf _ _ (show 1≤3 by decide) (nrq 3) (show(0:Nat)<2^128 by decide) Xa Xa):p:=h
def Y142{p:Prop} (h:p:=by
 simp (disch:=first|exact Zd|omega) [↓zmm,beq,ybc,ybd,ybe,ag,wk,wk2,wk1,wkM,wkL,ay,ybf,byq]
 exact hl0):p:=h
def Y143{p:Prop} (h:p:=by
 rw[hq,Bool.true_or,Bool.not_true,Bool.false_and]at hR
 subst hR
 try simp only[go_sem,hq]
 exact Z1):p:=h
def Y144{p:Prop} (h:p:=by
 clear hlt
 simp only[aX,aA,bhq,yaq,yar,yao,yap,go_sem,br]
 exact Z1):p:=h
def Y145{p:Prop} (h:p:=by
 simp only[c1,tfC]at hR
 subst hR
 simp only[go_sem,c1]
 exact Z1):p:=h
def Y146{p:Prop} (h:p:=by
 rw[← hL']at hE
 have:=congrArg (fun z=>z.map Prod.fst) hE
 simp at this
 exact this):p:=h
def Y147{p:Prop} (h:p:=by
 rw[← hfin true (by simp[mF,d1])]
 repeat first|exact .refl _|refine .push ?_ _):p:=h
def Y148{p:Prop} (h:p:=by
 rw[dtq (by exact⟨by omega,h'⟩),dfq (Xa)];rfl):p:=h
def Y149{p:Prop} (h:p:=by
 rename_i hc;rw[if_pos hc];exact h1 (h _ _ _) (fun a p t r h2=>h _ _ _ _ h2) hr):p:=h
def Y150{p:Prop} (h:p:=by
 obtain⟨m1,m2⟩:=h _ _ _ _ e3 k5 trivial (Xa);exact⟨m1,Xa⟩):p:=h
def Y151{p:Prop} (h:p:=by
 simp[bg,wk2,wk1,wkM,Fr.get,gr]):p:=h
def Y152{p:Prop} (h:p:=by
 rw[hHB]
 exact⟨by simp[zlf,zlc,zlj,swC,enc0],by simp[zlf,zlc,enc0]⟩):p:=h
def Y153{p:Prop} (h:p:=by
 rw[← hfin true (Xc)]
 repeat first|exact .refl _|refine .push ?_ _):p:=h
def Y154{p:Prop} (h:p:=by
 exact leaf _ _ Xb Xb Xb Xa Xa):p:=h
structure HdTq(q:Prop):Prop where
 h:q
def Tq0{p q:Prop}(h:q) (f:HdTq q→p:=by
 intro hZq
 try(repeat with_reducible refine aq ?_)
 exact hZq.h):p:=f ⟨h⟩
def Tq1{p q:Prop}(h:q) (f:HdTq q→p:=by
 intro hZq
 simp only[aX,aA,bhq,yaq,yar,yao,yap,go_sem,Int.reduceBEq,hg,hcs,dd,bx,db,cr,splice,bh,yau,yav]
 exact hZq.h):p:=f ⟨h⟩
def Tq2{p q:Prop}(h:q) (f:HdTq q→p:=by
 intro hZq
 try simp only[go_sem,hcw,hcI,swC,aR,ak,hnB,ybb,bT,bU,bS,bK,bV,bO,bR,bP,bQ,bL,bJ,bH,bI,AV.cells,ap,ba,aJ,aK,az,aZ,aL,aU,bc,aP,aQ,aE,au,vc,inL,boL,ak]
 exact hZq.h):p:=f ⟨h⟩
def Tq3{p q:Prop}(h:q) (f:HdTq q→p:=by
 intro hZq
 simp only[aX,aA,bhq,yaq,yar,yao,yap,go_sem,aR,ef,eh,es,ea,et,er,ybb,gT,c,Int.reduceBEq,f1,h1,s1,a1,t1,r1,iNq]
 simp only[e9,e3,e6,e4,iNq]
 exact hZq.h):p:=f ⟨h⟩
def Tq4{p q:Prop}(h:q) (f:HdTq q→p:=by
 intro hZq
 simp only[aX,aA,bhq,yaq,yar,yao,yap,go_sem,Int.reduceBEq,hg,hcs,dd,bx,db,cr,splice,bh,yau,yav,List.isEmpty_cons,if_false,if_true,Bool.false_eq_true,n0,n1,n2,nq,nq2,q0,q1,hq,hcq,hsn]
 exact hZq.h):p:=f ⟨h⟩
def Tq5{p q:Prop}(h:q) (f:HdTq q→p:=by
 intro hZq
 simp only[aX,aA,bhq,yaq,yar,yao,yap,go_sem,Int.reduceBEq,hg,hcs,dd,bx,db,cr,splice,bh,yau,yav,List.isEmpty_cons,if_false,if_true,Bool.false_eq_true,n0,n1,n2,hsn]
 exact hZq.h):p:=f ⟨h⟩
def Tq6{p q:Prop}(h:q) (f:HdTq q→p:=by
 intro hZq
 try simp only[go_sem,au,inL,boL,vc,bT,bU,bS,bK,bV,bO,bR,bP,bQ,bL,bJ,bH,bI,AV.cells,ap,ba,aJ,aK,az,aZ,aL,aU,bc,aP,aQ,aE,ybb,zlc,ak]
 exact hZq.h):p:=f ⟨h⟩
def Tq7{p q:Prop}(h:q) (f:HdTq q→p:=by
 intro hZq
 (repeat with_reducible refine Yq ?_)
 exact hZq.h):p:=f ⟨h⟩
def Tq8{p q:Prop}(h:q) (f:HdTq q→p:=by
 intro hZq
 try(repeat with_reducible refine Yq ?_)
 exact hZq.h):p:=f ⟨h⟩
def Tq9{p q:Prop}(h:q) (f:HdTq q→p:=by
 intro hZq
 try simp only[go_sem,ap,inL,boL,vc,bT,bU,bS,bK,bV,bO,bR,bP,bQ,bL,bJ,bH,bI,AV.cells,ba,aJ,aK,az,aZ,aL,aU,bc,aP,aQ,aE,au,ybb,zlc,ak]
 exact hZq.h):p:=f ⟨h⟩
def Tq10{p q:Prop}(h:q) (f:HdTq q→p:=by
 intro hZq
 try simp only[go_sem,aP,inL,boL,vc,bT,bU,bS,bK,bV,bO,bR,bP,bQ,bL,bJ,bH,bI,AV.cells,ap,ba,aJ,aK,az,aZ,aL,aU,bc,aQ,aE,au,ybb,zlc,ak]
 exact hZq.h):p:=f ⟨h⟩
def Tq11{p q:Prop}(h:q) (f:HdTq q→p:=by
 intro hZq
 try simp only[go_sem,cW,aR,inL,boL,vc,iz,bT,bU,bS,bK,bV,bO,bR,bP,bQ,bL,bJ,bH,bI,AV.cells,ap,ba,aJ,aK,az,aZ,aL,aU,bc,aP,aQ,aE,au,ybb,zlc,ak]
 exact hZq.h):p:=f ⟨h⟩
def Tq12{p q:Prop}(h:q) (f:HdTq q→p:=by
 intro hZq
 try simp only[go_sem,hcw,hcI,swC,aR,iNq,ybb,hg1,bc,ak,hnB,ybb,bT,bU,bS,bK,bV,bO,bR,bP,bQ,bL,bJ,bH,bI,AV.cells,ap,ba,aJ,aK,az,aZ,aL,aU,bc,aP,aQ,aE,au,vc,inL,boL,ak]
 exact hZq.h):p:=f ⟨h⟩
def Tq13{p q:Prop}(h:q) (f:HdTq q→p:=by
 intro hZq
 try simp only[go_sem,cW,aR,inL,boL,vc,iz,bT,bU,bS,bK,bV,bO,bR,bP,bQ,bL,bJ,bH,bI,AV.cells,ap,ba,aJ,aK,az,aZ,aL,aU,bc,aP,aQ,aE,au,ybb,zlc,iNq,ybb,hg1,aE,ak]
 exact hZq.h):p:=f ⟨h⟩
def Tq14{p q:Prop}(h:q) (f:HdTq q→p:=by
 intro hZq
 simp only[aX,aA,bhq,yaq,yar,yao,yap,go_sem,aR,ef,eh,es,ea,et,er,ybb,gT,c,Int.reduceBEq]
 exact hZq.h):p:=f ⟨h⟩
def Tq15{p q:Prop}(h:q) (f:HdTq q→p:=by
 intro hZq
 simp only[go_sem,pP,gText0,gText1,gText2,gText3,dB,hgd,hci,hsi,hsd,dm hb,eQ,cU,fw,e3,gtx,c3',e4,show IntKind.i64.wrap 1=1 from by decide,iNq,zoi,xx,E6,cD,List.flatMap_cons,List.flatMap_nil,au,AV.cells,yal,yak]
 exact hZq.h):p:=f ⟨h⟩
def Tq16{p q:Prop}(h:q) (f:HdTq q→p:=by
 intro hZq
 simp only[aX,aA,bhq,yaq,yar,yao,yap,go_sem,dB,dj,hg,hgc,dm hb,eQ,cU,fw,hne,l5,c4,w8,w1,iNq]
 exact hZq.h):p:=f ⟨h⟩
def Tq17{p q:Prop}(h:q) (f:HdTq q→p:=by
 intro hZq
 try simp only[go_sem,ap,inL,boL,vc,bT,bU,bS,bK,bV,bO,bR,bP,bQ,bL,bJ,bH,bI,AV.cells,ba,aJ,aK,az,aZ,aL,aU,bc,aP,aQ,aE,au,ybb,zlc,iNq,ybb,hg1,aU,vc,ak]
 exact hZq.h):p:=f ⟨h⟩
def Tq18{p q:Prop}(h:q) (f:HdTq q→p:=by
 intro hZq
 try simp only[go_sem,aP,inL,boL,vc,bT,bU,bS,bK,bV,bO,bR,bP,bQ,bL,bJ,bH,bI,AV.cells,ap,ba,aJ,aK,az,aZ,aL,aU,bc,aQ,aE,au,ybb,zlc,iNq,ybb,hg1,aK,ak]
 exact hZq.h):p:=f ⟨h⟩
def Tq19{p q:Prop}(h:q) (f:HdTq q→p:=by
 intro hZq
 try simp only[aX,aA,bhq,yaq,yar,yao,yap,go_sem,fE,c0]
 exact hZq.h):p:=f ⟨h⟩
def Tq20{p q:Prop}(h:q) (f:HdTq q→p:=by
 intro hZq
 simp only[go_sem]
 exact hZq.h):p:=f ⟨h⟩
def Tq21{p q:Prop}(h:q) (f:HdTq q→p:=by
 intro hZq
 simp only[go_sem,hcw,hcI,swC,aR,ak,hnB,ybb,kB,kH,kG,kC,kD,kA,kE,kF]
 exact hZq.h):p:=f ⟨h⟩
def Tq22{p q:Prop}(h:q) (f:HdTq q→p:=by
 intro hZq
 simp only[aX,aA,bhq,yaq,yar,yao,yap,go_sem,aR]
 exact hZq.h):p:=f ⟨h⟩
def Tq23{p q:Prop}(h:q) (f:HdTq q→p:=by
 intro hZq
 simp only[aX,aA,bhq,yaq,yar,yao,yap,go_sem]
 exact hZq.h):p:=f ⟨h⟩
def Tq24{p q:Prop}(h:q) (f:HdTq q→p:=by
 intro hZq
 try simp only[go_sem,cW,aR,inL,boL,vc,iz,bT,bU,bS,bK,bV,bO,bR,bP,bQ,bL,bJ,bH,bI,AV.cells,ap,ba,aJ,aK,az,aZ,aL,aU,bc,aP,aQ,aE,au,ybb,zlc,iNq,ybb,hg1,aE,iNq,ybb,hg2,ba,vc,ak]
 exact hZq.h):p:=f ⟨h⟩
def Tq25{p q:Prop}(h:q) (f:HdTq q→p:=by
 intro hZq
 simp only[oo,aX,aA,bhq,yaq,yar,yao,yap,go_sem,q0,q1,qs]
 exact hZq.h):p:=f ⟨h⟩
def Tq26{p q:Prop}(h:q) (f:HdTq q→p:=by
 intro hZq
 try simp only[aX,aA,bhq,yaq,yar,yao,yap,go_sem,i5,c0]
 exact hZq.h):p:=f ⟨h⟩
def Tq27{p q:Prop}(h:q) (f:HdTq q→p:=by
 intro hZq
 simp only[go_sem,bhq,yaq,yar,yao,yap,dB,dj,hg,hgc,dm hb,eQ,cU,fw,hne,e2,e3,e4,e6,a33,a16,List.set_cons_succ,List.set_cons_zero]
 exact hZq.h):p:=f ⟨h⟩
def Tq28{p q:Prop}(h:q) (f:HdTq q→p:=by
 intro hZq
 try simp only[go_sem,cW,aR,inL,boL,vc,iz,bT,bU,bS,bK,bV,bO,bR,bP,bQ,bL,bJ,bH,bI,AV.cells,ap,ba,aJ,aK,az,aZ,aL,aU,bc,aP,aQ,aE,au,ybb,zlc,iNq,ybb,hg1,az,ak]
 exact hZq.h):p:=f ⟨h⟩
def Tq29{p q:Prop}(h:q) (f:HdTq q→p:=by
 intro hZq
 try simp only[go_sem,cW,aR,inL,boL,vc,iz,bT,bU,bS,bK,bV,bO,bR,bP,bQ,bL,bJ,bH,bI,AV.cells,ap,ba,aJ,aK,az,aZ,aL,aU,bc,aP,aQ,aE,au,ybb,zlc,iNq,ybb,hg1,aJ,ak]
 exact hZq.h):p:=f ⟨h⟩
def Tq30{p q:Prop}(h:q) (f:HdTq q→p:=by
 intro hZq
 simp only[aX,aA,bhq,yaq,yar,yao,yap,go_sem,fE]
 exact hZq.h):p:=f ⟨h⟩
def Tq31{p q:Prop}(h:q) (f:HdTq q→p:=by
 intro hZq
 try simp only[go_sem,au,inL,boL,vc,bT,bU,bS,bK,bV,bO,bR,bP,bQ,bL,bJ,bH,bI,AV.cells,ap,ba,aJ,aK,az,aZ,aL,aU,bc,aP,aQ,aE,ybb,zlc,iNq,ybb,hg1,aZ,ak]
 exact hZq.h):p:=f ⟨h⟩
def Tq32{p q:Prop}(h:q) (f:HdTq q→p:=by
 intro hZq
 try simp only[go_sem]
 exact hZq.h):p:=f ⟨h⟩
def Tq33{p q:Prop}(h:q) (f:HdTq q→p:=by
 intro hZq
 try simp only[aX,aA,bhq,yaq,yar,yao,yap,go_sem,nY,c0]
 exact hZq.h):p:=f ⟨h⟩
def Tq34{p q:Prop}(h:q) (f:HdTq q→p:=by
 intro hZq
 try simp only[aX,aA,bhq,yaq,yar,yao,yap,go_sem,d0,d1]
 exact hZq.h):p:=f ⟨h⟩
def Tq35{p q:Prop}(h:q) (f:HdTq q→p:=by
 intro hZq
 simp only[go_sem,byq,swC,hne,hneq,n1,n2,hcs,hcm,hA,hB,eh,hi0,hb0,iNq,zli,hg,bC,d1,e5]
 exact hZq.h):p:=f ⟨h⟩
def Tq36{p q:Prop}(h:q) (f:HdTq q→p:=by
 intro hZq
 simp only[aX,aA,bhq,yaq,yar,yao,yap,go_sem,Int.reduceBEq,hg,hcs,dd,bx,db,cr,splice,bh,yau,yav,List.isEmpty_cons,if_false,if_true,Bool.false_eq_true,n0,n1,n2,nq,nq2,q0,q1,hq,hcq,hsn,hil]
 exact hZq.h):p:=f ⟨h⟩
def Tq37{p q:Prop}(h:q) (f:HdTq q→p:=by
 intro hZq
 simp only[oo,aX,aA,bhq,yaq,yar,yao,yap,go_sem]
 exact hZq.h):p:=f ⟨h⟩
def Tq38{p q:Prop}(h:q) (f:HdTq q→p:=by
 intro hZq
 simp only[aX,aA,bhq,yaq,yar,yao,yap,go_sem,Int.reduceBEq,hg,hcs,dd,bx,db,cr,splice,bh,yau,yav,List.isEmpty_cons,if_false,if_true,Bool.false_eq_true,n0,n1,n2,hsn,hil]
 exact hZq.h):p:=f ⟨h⟩
def Tq39{p q:Prop}(h:q) (f:HdTq q→p:=by
 intro hZq
 simp only[go_sem,au,gA,kZ,lh,inL,ak,bb]
 exact hZq.h):p:=f ⟨h⟩
def Tq40{p q:Prop}(h:q) (f:HdTq q→p:=by
 intro hZq
 try simp only[aA,go_sem,hcs,hne,hg,inL,fp,iB,bB,eb,dT,bo]
 exact hZq.h):p:=f ⟨h⟩
def Tq41{p q:Prop}(h:q) (f:HdTq q→p:=by
 intro hZq
 try simp only[go_sem,ek,dN,dM,cq,dq,hIoc,c1]
 exact hZq.h):p:=f ⟨h⟩
def Tq42{p q:Prop}(h:q) (f:HdTq q→p:=by
 intro hZq
 simp only[Bool.and_eq_true,List.all_eq_true]
 exact hZq.h):p:=f ⟨h⟩
def Tq43{p q:Prop}(h:q) (f:HdTq q→p:=by
 intro hZq
 try simp only[go_sem,hcw,hcI,swC,aR,iNq,ybb,hg1,aQ,ak,hnB,ybb,bT,bU,bS,bK,bV,bO,bR,bP,bQ,bL,bJ,bH,bI,AV.cells,ap,ba,aJ,aK,az,aZ,aL,aU,bc,aP,aQ,aE,au,vc,inL,boL,ak]
 exact hZq.h):p:=f ⟨h⟩
def Tq44{p q:Prop}(h:q) (f:HdTq q→p:=by
 intro hZq
 try simp only[go_sem,hcw,hcI,swC,aR,ak,hnB,ybb,h1,h2,h3,d4,zli]
 exact hZq.h):p:=f ⟨h⟩
def Tq45{p q:Prop}(h:q) (f:HdTq q→p:=by
 intro hZq
 try simp only[go_sem,hgk,ek,aM,aH,aS,aW,bz,dW,hxF,hxH,hxT,hxA]
 exact hZq.h):p:=f ⟨h⟩
def Tq46{p q:Prop}(h:q) (f:HdTq q→p:=by
 intro hZq
 try simp only[go_sem,hgj,ej,aM,aH,cn,hxF,hxH,o1,o2,o3,o4,o5]
 exact hZq.h):p:=f ⟨h⟩
def Tq47{p q:Prop}(h:q) (f:HdTq q→p:=by
 intro hZq
 try simp only[go_sem,ek,dN,dM,cq,dq,hIoc]
 exact hZq.h):p:=f ⟨h⟩
def Tq48{p q:Prop}(h:q) (f:HdTq q→p:=by
 intro hZq
 try simp only[go_sem,ap,inL,boL,vc,bT,bU,bS,bK,bV,bO,bR,bP,bQ,bL,bJ,bH,bI,AV.cells,ba,aJ,aK,az,aZ,aL,aU,bc,aP,aQ,aE,au,ybb,zlc,iNq,ybb,hg1,aL,ak]
 exact hZq.h):p:=f ⟨h⟩
def Tq49{p q:Prop}(h:q) (f:HdTq q→p:=by
 intro hZq
 simp only[go_sem,hgj,ej,nf2,hllV,hsnV]
 try simp only[go_sem,hllV,hsnV,nf2]
 exact hZq.h):p:=f ⟨h⟩
def Tq50{p q:Prop}(h:q) (f:HdTq q→p:=by
 intro hZq
 simp only[aX,aA,bhq,yaq,yar,yao,yap,go_sem,hge,Bool.false_eq_true,if_false,if_true,ybb,List.isEmpty_cons,hsn]
 exact hZq.h):p:=f ⟨h⟩
def Tq51{p q:Prop}(h:q) (f:HdTq q→p:=by
 intro hZq
 try simp only[go_sem,hgj,ej,aM,aH,cn,hxF,hxH]
 exact hZq.h):p:=f ⟨h⟩
def Tq52{p q:Prop}(h:q) (f:HdTq q→p:=by
 intro hZq
 simp only[oo,aX,aA,bhq,List.take_succ_cons,List.take_zero,List.drop_succ_cons,List.drop_zero,go_sem,cW,aR]
 exact hZq.h):p:=f ⟨h⟩
def Tq53{p q:Prop}(h:q) (f:HdTq q→p:=by
 intro hZq
 try simp only[aA,go_sem,da,gQ,qo,p2V,iv,iw,vb,wb,iNq,hyb,vv,jx,jB,mH,c1,c2]
 exact hZq.h):p:=f ⟨h⟩
def Tq54{p q:Prop}(h:q) (f:HdTq q→p:=by
 intro hZq
 try simp only[go_sem,hgk,ek]
 exact hZq.h):p:=f ⟨h⟩
def Tq55{p q:Prop}(h:q) (f:HdTq q→p:=by
 intro hZq
 try simp only[aX,aA,bhq,yaq,yar,yao,yap,go_sem,aR,br,br,fP,bY,cx,bM,bW,cL,c0,c1,c2,c3,c4,c5,c6,c7]
 exact hZq.h):p:=f ⟨h⟩
def Tq56{p q:Prop}(h:q) (f:HdTq q→p:=by
 intro hZq
 simp only[go_sem,hgk,ek,nf,hll,hsn]
 try simp only[go_sem,hll,hsn,nf]
 exact hZq.h):p:=f ⟨h⟩
def Tq57{p q:Prop}(h:q) (f:HdTq q→p:=by
 intro hZq
 simp only[aX,aA,bhq,yaq,yar,yao,yap,go_sem,dB,dj,hg,hgc,dm hb,eQ,cU,fw,hne,hne2,e2,e256,a22,u256]
 exact hZq.h):p:=f ⟨h⟩
def Tq58{p q:Prop}(h:q) (f:HdTq q→p:=by
 intro hZq
 simp only[go_sem,aP,mS,gA,inL,ak,bb]
 exact hZq.h):p:=f ⟨h⟩
def Tq59{p q:Prop}(h:q) (f:HdTq q→p:=by
 intro hZq
 try simp only[go_sem,hgk,ek,cK,cq,dq,ck0]
 exact hZq.h):p:=f ⟨h⟩
def Tq60{p q:Prop}(h:q) (f:HdTq q→p:=by
 intro hZq
 simp only[go_sem,ziw,ybb]
 exact hZq.h):p:=f ⟨h⟩
def Tq61{p q:Prop}(h:q) (f:HdTq q→p:=by
 intro hZq
 try simp only[go_sem,hgj,ej,aM,aH,cn,hxF,hxH,c1]
 exact hZq.h):p:=f ⟨h⟩
def Tq62{p q:Prop}(h:q) (f:HdTq q→p:=by
 intro hZq
 try simp only[go_sem,hgk,ek,aM,aH,aS,aW,bz,dW,hxF,hxH,hxT,hxA,c1]
 exact hZq.h):p:=f ⟨h⟩
def Tq63{p q:Prop}(h:q) (f:HdTq q→p:=by
 intro hZq
 simp only[go_sem,byq]
 exact hZq.h):p:=f ⟨h⟩
def Tq64{p q:Prop}(h:q) (f:HdTq q→p:=by
 intro hZq
 try simp only[go_sem,ek,dN,dM,cq,dq,hIoc,c1,c2]
 exact hZq.h):p:=f ⟨h⟩
def Tq65{p q:Prop}(h:q) (f:HdTq q→p:=by
 intro hZq
 try simp only[aA,go_sem,hcs,hne,hg,lD,dn,dT,eb]
 exact hZq.h):p:=f ⟨h⟩
def Tq66{p q:Prop}(h:q) (f:HdTq q→p:=by
 intro hZq
 try simp only[aX,aA,bhq,yaq,yar,yao,yap,go_sem,aR,fP,bY,bM,bW,cL,c0,c1,c2,c3,c4]
 exact hZq.h):p:=f ⟨h⟩
def Tq67{p q:Prop}(h:q) (f:HdTq q→p:=by
 intro hZq
 simp only[go_sem,iNq,ybb,hg',bC,e5,d1,d2,d0,d95,d3,d4,dn1,dn2]
 exact hZq.h):p:=f ⟨h⟩
def Tq68{p q:Prop}(h:q) (f:HdTq q→p:=by
 intro hZq
 try simp only[aX,aA,bhq,yaq,yar,yao,yap,go_sem,ybb,px,inL,i5,br,i5,c0,c1,c2]
 exact hZq.h):p:=f ⟨h⟩
def Tq69{p q:Prop}(h:q) (f:HdTq q→p:=by
 intro hZq
 simp only[go_sem,e15]
 exact hZq.h):p:=f ⟨h⟩
def Tq70{p q:Prop}(h:q) (f:HdTq q→p:=by
 intro hZq
 try simp only[aX,aA,bhq,yaq,yar,yao,yap,go_sem,aR,bM,bW,cx,cV,c0,c1,c2,c3]
 exact hZq.h):p:=f ⟨h⟩
def Tq71{p q:Prop}(h:q) (f:HdTq q→p:=by
 intro hZq
 simp only[go_sem,iNq,ybb,hg',bC,e5,d1,d0,d95,d3,d4,dn1,dn2]
 exact hZq.h):p:=f ⟨h⟩
def Tq72{p q:Prop}(h:q) (f:HdTq q→p:=by
 intro hZq
 simp only[aX,aA,bhq,yaq,yar,yao,yap,go_sem,sg,ss,ss0,splice,bh,lAq,yaz]
 exact hZq.h):p:=f ⟨h⟩
def Tq73{p q:Prop}(h:q) (f:HdTq q→p:=by
 intro hZq
 try simp only[aX,aA,bhq,yaq,yar,yao,yap,go_sem,ybb,px,inL,i5,i5,c0,c1]
 exact hZq.h):p:=f ⟨h⟩
def Tq74{p q:Prop}(h:q) (f:HdTq q→p:=by
 intro hZq
 simp only[go_sem,iNq,hgs,bC,e5,d1,d2,d0,d95,d3,d4,dn1,dn2]
 exact hZq.h):p:=f ⟨h⟩
def Tq75{p q:Prop}(h:q) (f:HdTq q→p:=by
 intro hZq
 try simp only[go_sem,hcsc,hneH,ybb]
 exact hZq.h):p:=f ⟨h⟩
def Tq76{p q:Prop}(h:q) (f:HdTq q→p:=by
 intro hZq
 try simp only[go_sem,hgc,hcs1,hne1,hnb,gm,gE,hY,iI,js,j9,nk,iL,bW,cL,c0,c1,c2,c3,c4,c5,c6,c7,c8,c9]
 exact hZq.h):p:=f ⟨h⟩
def Tq77{p q:Prop}(h:q) (f:HdTq q→p:=by
 intro hZq
 try simp only[aX,aA,bhq,yaq,yar,yao,yap,go_sem,ybb,px,inL,i5,c0]
 exact hZq.h):p:=f ⟨h⟩
def Tq78{p q:Prop}(h:q) (f:HdTq q→p:=by
 intro hZq
 try simp only[go_sem,hgj,ej,cK,cq,dq,cj0]
 exact hZq.h):p:=f ⟨h⟩
def Tq79{p q:Prop}(h:q) (f:HdTq q→p:=by
 intro hZq
 simp only[go_sem,iNq,hgs,bC,e5,d1,d0,d95,d3,d4,dn1,dn2]
 exact hZq.h):p:=f ⟨h⟩
def Tq80{p q:Prop}(h:q) (f:HdTq q→p:=by
 intro hZq
 simp only[bhq,yaq,yar,yao,yap,go_sem,zlj,List.set_cons_zero]
 exact hZq.h):p:=f ⟨h⟩
abbrev PCt:=Wz→AHeap→(AV→Prop)→Prop
abbrev ECt:=Wz→AHeap→(AEnd→AHeap→Prop)→Prop
def Yfu{P : Program}(hm : P.follows .mixedOrders=true){Ω : Tbl}(hΩ : TblOk P Ω){f : FuncId}{fn : Func}{c : Code}(hf : P.funcs[f]? =some fn)(rs : List ResultVar){args : Wz}{H H1 : AHeap}{e : AEnd}
 (h:H.Closed→aw P Ω c (KI P Ω (sQ P rs H.nx e H1 (aC [])) []) (s5 0 args) H)
 (hname : (fn.name == "runtime.NumGoroutine") = false := by kernel_rfl) (hb : fn.body = some c := by rfl) (hrs : fn.results.toList = rs := by rfl) (hok : jJ P Ω (aC []) fn.ntmps c = true := by kernel_rfl)
 (ha : Nat.ble args.length fn.ntmps=true :=by rfl) (hx : H.nx≤H1.nx :=by exact nrq _) : ACalls P f args H e H1 :=
 ACalls.fW hm hΩ hf rs hx hname hb hrs hok ha fun a _=>h a
def Yfw{P : Program}{Ω : Tbl}(hm : P.follows .mixedOrders=true)(hΩ : TblOk P Ω){f : FuncId}{fn : Func}{c : Code}(hf : P.funcs[f]? =some fn)(rs : List ResultVar){args : Wz}{H H1 : AHeap}{e : AEnd}(hnx : H.nx≤H1.nx)
 {T : Nat → List (List Nat)} (hname : (fn.name == "runtime.NumGoroutine") = false := by kernel_rfl) (hb : fn.body = some c := by rfl) (hrs : fn.results.toList = rs := by rfl) (hok : jJ P Ω T fn.ntmps c = true := by kernel_rfl)
 (ha : Nat.ble args.length fn.ntmps=true :=by rfl)
 (h:H.Closed→aw P Ω c (KI P Ω (sQ P rs H.nx e H1 T) []) (s5 0 args) H) : ACalls P f args H e H1:=ACalls.fW hm hΩ hf rs hnx (T:=T) hname hb hrs hok ha fun a _=>h a
def eNt{n0:Nat}{fr:Fr}{H:AHeap}{fr':Fr}{H':AHeap}(c:H'.Closed)(d:ltF H'.nx fr')(e:bg H H' fr' fr)(b:H'.Le H:=by repeat first|exact .refl _|refine .push ?_ _)(a:n0≤H'.nx:=by(try simp only[jK,zko,zkt,zlc,zld]);omega):enterW n0 fr H fr' H':=⟨a,b,c,d,e⟩
abbrev Yef:=@EntOk.effect
theorem eFo{p:Prop}(h:¬p:=by omega):p=False:=eq_false h
def sHc{p:Prop}(h:p:=by simp at hc;omega):p:=h
def krf{p:Prop}(h:p:=by kernel_rfl):p:=h
abbrev tSl(P:Program)(a b:Nat):Prop:=ti P a=some ⟨.slice b,1,24,.slice .nil 1 []⟩
abbrev tFn(P:Program)(a:Nat):Prop:=ti P a=some ⟨.func,1,8,.nilf⟩
def kSl{P:Program}{a b:Nat}(h:ti P a=some ⟨.slice b,1,24,.slice .nil 1 []⟩:=by kernel_rfl):tSl P a b:=h
def kFn{P:Program}{a:Nat}(h:ti P a=some ⟨.func,1,8,.nilf⟩:=by kernel_rfl):tFn P a:=h
def Xg{p:Prop}(h:p:=by simp only[lAq,yaz];omega):p:=h
def Xl{p:Prop}(h:p:=by(try simp only[go_sem]);first|done|rfl):p:=h
def Xn{p:Prop}(h:p:=by simp only[go_sem];rfl):p:=h
def Xo{p:Prop}(h:p:=by simp only[go_sem]):p:=h
def X5{p:Prop}(h:p:=by(try simp only[go_sem]);first|done|omega):p:=h
end Go.AL
