/- Lemmas of the proof; no condition. -/
import Derived.Test.YthnlhjalhflgfaaGreatAlByte
import Derived.Laws.Externs
set_option linter.all false
set_option linter.unusedSectionVars false
namespace Go.AL
def j8 (l:List Nat):List AV:=l.map fun (d:Nat)=>.int .i64 (d:Int)
def Ka (x:AV):Nat:=match x with|.int _ n=>n.toNat|_=>0
def uni (l:List AV):List Nat:=l.map Ka
def isI (l:List AV):Prop:=l=j8 (uni l)
theorem sN {l:List Nat}:(j8 l).length=l.length:=by simp [j8]
theorem zo:j8 []=[]:=rfl
theorem wq {l:List Nat} {n:Nat}:(j8 l).take n=j8 (l.take n):=by simp [j8]
theorem wt {l:List Nat} {n:Nat}:(j8 l).drop n=j8 (l.drop n):=by simp [j8]
theorem sS {l m:List Nat}:j8 l++j8 m=j8 (l++m):=by simp [j8]
theorem wU {l:List Nat} {n:Nat}:j8 l++[AV.int .i64 (n:Int)]=j8 (l++[n]):=by simp [j8]
theorem yN {k:IntKind} {n:Int}:(∀ z∈[AV.int k n],cM z.cells=true)=True:=eq_true fun z hz=>by
 simp at hz;subst hz;rfl
theorem ng {l:List Nat}:uni (j8 l)=l:=by
 unfold uni j8
 rw [List.map_map]
 have:(Ka ∘ fun d=>AV.int .i64 ((d:Nat):Int))=id:=funext fun d=>by simp [Ka]
 rw [this,List.map_id]
theorem CA:uni []=[]:=rfl
theorem vG {l:List Nat}:isI (j8 l)=True:=eq_true (by show j8 l=j8 (uni (j8 l));rw [ng])
theorem CY:isI []=True:=eq_true rfl
theorem zd {l m:List Nat}:(j8 l=j8 m)=(l=m):=propext ⟨fun h=>by have:=congrArg uni h;rwa [ng,ng] at this,fun h=>by rw [h]⟩
theorem wL {l:List Nat}:(∀ z∈j8 l,cM z.cells=true)=True:=eq_true fun z hz=>by
 obtain ⟨b,_,rfl⟩:=List.mem_map.1 hz
 rfl
theorem zmm {n:Nat} {m:Mark} {l:List Nat}:(AV.slice m 1 (j8 l)).lt n=∀ id,m=.own id→id<n:=by
 rw [AV.lt]
 refine propext ⟨fun h=>h.1,fun h=>⟨h,fun j hj=>?_⟩⟩
 simp only [j8,List.getElem_map]
 rw [AV.lt]<;>simp
theorem sT {l:List Nat}:(j8 l=[])=(l=[]):=by cases l<;>simp [j8]
end Go.AL
open Go Go.AL
namespace Go.AL
theorem byq:(type_of% @zlk)∧(type_of% @zll)∧(type_of% @zlm)∧(type_of% @zln)∧(type_of% @zlo)∧(type_of% @zlp)∧(type_of% @zlq)∧(type_of% @zlr)∧(type_of% @zls)∧(type_of% @zlt)∧(type_of% @zlu)∧(type_of% @zlv)∧(type_of% @zlw)∧(type_of% @zlx)∧(type_of% @zly)∧(type_of% @zlz)∧(type_of% @zma)∧(type_of% @zmb)∧(type_of% @zmc)∧(type_of% @zmd)∧(type_of% @zme)∧(type_of% @Int.toNat_natCast) :=
 ⟨@zlk,@zll,@zlm,@zln,@zlo,@zlp,@zlq,@zlr,@zls,@zlt,@zlu,@zlv,@zlw,@zlx,@zly,@zlz,@zma,@zmb,@zmc,@zmd,@zme,@Int.toNat_natCast⟩
theorem beq:(type_of% @zmf)∧(type_of% @zmg)∧(type_of% @zmh)∧(type_of% @zmi)∧(type_of% @zmj)∧(type_of% @zmk)∧(type_of% @zml)∧(type_of% @zmm)∧(type_of% @zmn)∧(type_of% @zmp)∧(type_of% @zmq)∧(type_of% @zmr)∧(type_of% @zms)∧(type_of% @zmt)∧(type_of% @zmu)∧(type_of% @zlg)∧(type_of% @zle)∧(type_of% @zlf)∧(type_of% @zmv)∧(type_of% @zmw)∧(type_of% @zmx)∧(type_of% @zmy)∧(type_of% @zmz)∧(type_of% @zna)∧(type_of% @znb)∧(type_of% @znc)∧(type_of% @znd)∧(type_of% @zne)∧(type_of% @znf)∧(type_of% @zng)∧(type_of% @znh)∧(type_of% @zni)∧(type_of% @znj)∧(type_of% @znk)∧(type_of% @znl)∧(type_of% @znm)∧(type_of% @znn)∧(type_of% @zno)∧(type_of% @znp)∧(type_of% @znq)∧(type_of% @znr)∧(type_of% @zns)∧(type_of% @znt)∧(type_of% @znu)∧(type_of% @znv)∧(type_of% @znw)∧(type_of% @znx)∧(type_of% @zny)∧(type_of% @RN)∧(type_of% @znz)∧(type_of% @zoa)∧(type_of% @zob)∧(type_of% @zoc)∧(type_of% @zOd)∧(type_of% @zoe)∧(type_of% @zof)∧(type_of% @zog)∧(type_of% @zoh)∧(type_of% @zoi)∧(type_of% @zoj) :=
 ⟨@zmf,@zmg,@zmh,@zmi,@zmj,@zmk,@zml,@zmm,@zmn,@zmp,@zmq,@zmr,@zms,@zmt,@zmu,@zlg,@zle,@zlf,@zmv,@zmw,@zmx,@zmy,@zmz,@zna,@znb,@znc,@znd,@zne,@znf,@zng,@znh,@zni,@znj,@znk,@znl,@znm,@znn,@zno,@znp,@znq,@znr,@zns,@znt,@znu,@znv,@znw,@znx,@zny,@RN,@znz,@zoa,@zob,@zoc,@zOd,@zoe,@zof,@zog,@zoh,@zoi,@zoj⟩
theorem bnq:(type_of% @zok)∧(type_of% @zgo)∧(type_of% @zgp)∧(type_of% @zkv)∧(type_of% @zkq)∧(type_of% @not_false_eq_true)∧(type_of% @true_and)∧(type_of% @and_true) :=
 ⟨@zok,@zgo,@zgp,@zkv,@zkq,@not_false_eq_true,@true_and,@and_true⟩
theorem biq:(type_of% @sN)∧(type_of% @wL)∧(type_of% @wU)∧(type_of% @yN)∧(type_of% @sS)∧(type_of% @wq)∧(type_of% @wt)∧(type_of% @vG)∧(type_of% @ng)∧(type_of% @zo)∧(type_of% @CY)∧(type_of% @CA)∧(type_of% @zd)∧(type_of% @sT)∧(type_of% @Int.toNat_natCast) :=
 ⟨@sN,@wL,@wU,@yN,@sS,@wq,@wt,@vG,@ng,@zo,@CY,@CA,@zd,@sT,@Int.toNat_natCast⟩
theorem bhq:(type_of% @lA)∧(type_of% @wy)∧(type_of% @y7)∧(type_of% @zi)∧(type_of% @C4)∧(type_of% @true_and) :=
 ⟨@lA,@wy,@y7,@zi,@C4,@true_and⟩
theorem bkq:(type_of% @zok)∧(type_of% @zgo)∧(type_of% @zgp)∧(type_of% @zkv)∧(type_of% @zkq)∧(type_of% @not_false_eq_true)∧(type_of% @true_and)∧(type_of% @and_true) :=
 ⟨@zok,@zgo,@zgp,@zkv,@zkq,@not_false_eq_true,@true_and,@and_true⟩
attribute [go_sem ↓] zaa zab zac zad zae zag zah zai zaj zak zal zam zan zao zap zaq zar Si Sn zas zaw zax zay zaz zba zbb zbc zbd zbe zbf zbg zbh zbi zbj zbk zbl zbm zbn zbo zbp zbu zbv zbw zbx zby zbz zca zcb zcc zcd zce zcf zcg zch zci zcj zck zcl zcm zcn zco zcp zcq zcr zcs zct zcu zcv zcw zcx zcy zcz zda zdb zdc zdd zde zdf zdg zdh zdi zdj zdk zdl zdm zdn zdo zdp zdq zdr zds zdt zdu zdv zdw zdx zdy zdz zel zem zfc zfd zfe zfm zfn zfp zfq zfx zfy zge zgf zgg zgh zgi zgj zgk zgl zgm zgn zgo zgp zol zom zon zoo zop zoq zor zos zot zou
attribute [go_sem] zaf zat zau zbq zbr zbs zbt zea zeb zec zed zee zef Rm zeg zeh zei zej zek zen zeo zep zeq zer Sm zes zet R5 zeu zev zew zex zey zez zfa List.tail_nil List.tail_cons List.headD_nil List.headD_cons zfb zff zfg zfh zfi zfj zfk zfl zfo zfr zfs zft zfu zfv zfw zfz zga zgb zgc zgd ne_eq not_false_eq_true Nat.mul_one Nat.one_mul Nat.zero_mul Nat.zero_add Nat.add_zero zgq zgr zgs zgt zgu zgv zgw zgx zgy zgz zha zhb zhc zhd zhe zhf Bool.and_true Bool.and_self Nat.left_eq_add Nat.add_eq_left Nat.add_right_cancel_iff Nat.add_left_cancel_iff Nat.succ_ne_self Nat.one_ne_zero List.map_cons List.map_nil Option.map_some Option.map_none Option.elim_some if_true if_false true_and and_true true_or or_true false_or or_false Bool.false_eq_true Bool.true_eq_false Bool.not_true Bool.not_false List.append_nil List.nil_append zhg zhh zhi zhj zhk zhl zhm zhn zho zhp zhq zhr zhs zht zhu zhv zhw zhx zhy zhz zia zib zic zid zie zif zig zih zii zij rEq List.cons_append Sa Sq Se RZ R3 RY St Sf R9 Sk R7 Su Sh Sc So R6 zik zil zim zin zio zip List.getElem?_cons_zero List.getElem?_cons_succ TD.agg List.drop_succ_cons List.drop_zero List.take_succ_cons List.take_zero List.take_nil List.drop_nil List.getD_cons_zero List.getD_cons_succ splice ziq zir zis Option.isSome_some Option.isSome_none List.getElem?_nil Nat.zero_lt_succ Nat.lt_add_one zit ziu Dv pX Es DT rUn ziv ziw zix ziy qH ziz zja zjb zjc EZ zjd zje zjf zjg zjh zji zjj zjk zjl zjm zjn zjo zjp zjq zjr zjs zjt zju zjv zjw zjx lM vM Eo yt room List.length_cons List.length_nil zjy zjz zka zkb zkc zkd zke zkf zkg zkh zki zkj zkk zkl zkm zkn zko zkp zkq zkr zks zkt zku zkv zkw zkx zky zkz zla zlb zlc zld zle zlf zlg zlh zli zlj List.length_map sJ
theorem bt:(type_of% @znu)∧(type_of% @znv)∧(type_of% @znf)∧(type_of% @zng)∧(type_of% @znh)∧(type_of% @zni)∧(type_of% @znk)∧(type_of% @znl)∧(type_of% @znj)∧(type_of% @znm)∧(type_of% @znn)∧(type_of% @zno)∧(type_of% @znp)∧(type_of% @znr)∧(type_of% @zns)∧(type_of% @znt)∧(type_of% @znq)∧(type_of% @zms)∧(type_of% @zmm)∧(type_of% @zmn)∧(type_of% @zle)∧(type_of% @zlf)∧(type_of% @lA) :=
 ⟨@znu,@znv,@znf,@zng,@znh,@zni,@znk,@znl,@znj,@znm,@znn,@zno,@znp,@znr,@zns,@znt,@znq,@zms,@zmm,@zmn,@zle,@zlf,@lA⟩
attribute [go_sem_proc] reduceCtorEq Nat.reduceEqDiff Nat.reduceAdd Nat.reduceMul Nat.reduceSub Nat.reduceLeDiff Nat.reduceLT Int.reduceMul Int.reduceAdd Int.reduceSub Int.reduceToNat
theorem Zd {p:Prop} (h:p:=by first|assumption|omega|(simp;done)|(simp;omega)|(simp only [bt,and_true];first|done|omega|(simp;done))):p:=h
theorem Z0 {p:Prop} (h:p:=by simp (disch:=first|exact Zd|omega) [↓zmo,beq,ybc,ybd,ybe,ag,wk,wk2,wk1,wkM,wkL,ay,ybf,byq,hcl]):p:=h
theorem Z1 {p:Prop} (h:p:=by simp (disch:=first|exact Zd|omega) [↓zmo,beq,ybc,ybd,ybe,ag,wk,wk2,wk1,wkM,wkL,ay,ybf,hcl]):p:=h
theorem Z2 {p:Prop} (h:p:=by simp only [bnq,enter,lK,ltF,ne_eq,Nat.reduceEqDiff,reduceCtorEq,true_or,and_self]):p:=h
theorem Z3 {p:Prop} (h:p:=by simp (disch:=first|exact Zd|omega) [↓zmo,beq,List.take_of_length_le,List.drop_append,List.take_append,ag,wk,wk2,wk1,wkM,wkL,ay,List.drop_eq_nil_of_le,hcl]):p:=h
theorem Z4 {p:Prop} (h:p:=by simp [Fr.get,dy,h1',h2',aA,bb,oQ,cp,hvs,mK,dN,dO,eI,iE,eM,lX,lS,lG,wkM,ziq]):p:=h
theorem Z5 {p:Prop} (h:p:=by simp (disch:=first|exact Zd|omega) [↓zmo,beq,ybc,ybd,ybe,ag,wk,wk2,wk1,wkM,wkL,ay,ybf,hcl,hle,hlp]):p:=h
theorem Z6 {p:Prop} (h:p:=by (simp only [bkq,enterW,bg,ltF,ne_eq,Nat.reduceEqDiff,reduceCtorEq,hm,hf,hmu'];try simp (disch:=first|exact Zd|omega) [↓zmo,beq,ybc,ybd,ybe,ag,wk,wk2,wk1,wkM,wkL,ay,ybf,byq,biq,ea,hcl,hm,hf,hmu'];try (repeat' (first|assumption|omega|exact True.intro|refine And.intro ?_ ?_|refine bc ?_|refine bh ?_|refine ah ?_ ?_|refine bG ?_ ?_|refine dp ?_|exact AHeap.Le.refl _|refine AHeap.Le.push ?_ _|refine AHeap.Le.del ?_ ?_|(simp only [bt,and_true,true_and,hm,hf,hmu'];first|done|omega|(simp;done)))))):p:=h
theorem Z7 {p:Prop} (h:p:=by simp (disch:=first|exact Zd|omega) [↓zmo,beq,ybc,ybd,ybe,ag,wk,wk2,wk1,wkM,wkL,ay,ybf,hcl,hle]):p:=h
theorem Z8 {p:Prop} (h:p:=by simp (disch:=first|exact Zd|omega) [↓zmo,beq,ybc,ybd,ybe,ag,wk,wk2,wk1,wkM,wkL,ay,ybf,hcl,hc2]):p:=h
theorem Z9 {p:Prop} (h:p:=by simp (disch:=first|exact Zd|omega) [↓zmo,beq,ybc,ybd,ybe,ag,wk,wk2,wk1,wkM,wkL,ay,ybf,hcc]):p:=h
theorem Z10 {p:Prop} (h:p:=by simp (disch:=first|exact Zd|omega) [↓zmo,beq,ybc,ybd,ybe,ag,wk,wk2,wk1,wkM,wkL,ay,ybf,hcl,hcc]):p:=h
theorem Z11 {p:Prop} (h:p:=by simp (disch:=first|exact Zd|omega) [↓zmo,beq,ybc,ybd,ybe,ag,wk,wk2,wk1,wkM,wkL,ay,ybf,hcl,hc2,hne2]):p:=h
theorem Z12 {p:Prop} (h:p:=by simp (disch:=first|exact Zd|omega) [↓zmo,beq,ybc,ybd,ybe,ag,wk,wk2,wk1,wkM,wkL,ay,ybf,hcl,hcc,hne2]):p:=h
theorem Z13 {p:Prop} (h:p:=by simp (disch:=first|exact Zd|omega) [↓zmo,beq,ybc,ybd,ybe,ag,wk,wk2,wk1,wkM,wkL,ay,ybf,hcl,hHl]):p:=h
theorem Z14 {p:Prop} (h:p:=by simp (disch:=first|exact Zd|omega) [↓zmo,beq,ybc,ybd,ybe,ag,wk,wk2,wk1,wkM,wkL,ay,ybf,hcl,hHle]):p:=h
theorem Z15 {p:Prop} (h:p:=by simp (disch:=first|exact Zd|omega) [↓zmo,beq,ybc,ybd,ybe,ag,wk,wk2,wk1,wkM,wkL,ay,ybf,hcl1,hlb]):p:=h
theorem Z16 {p:Prop} (h:p:=by simp (disch:=first|exact Zd|omega) [↓zmo,beq,ybc,ybd,ybe,ag,wk,wk2,wk1,wkM,wkL,ay,ybf,hcl1]):p:=h
theorem Z17 {p:Prop} (h:p:=by simp (disch:=first|exact Zd|omega) [↓zmo,beq,ybc,ybd,ybe,ag,wk,wk2,wk1,wkM,wkL,ay,ybf,hcl,gg]):p:=h
theorem Z18 {p:Prop} (h:p:=by simp [ltF,znf,znn,aa gD,aa fA,aa ey,aa iU,aa iC,aa fH,aa eP,aa j3,aa cS,aa gX,aa fV,aa gM,aa iJ,zlf];omega):p:=h
theorem iNq {n:Nat}:(n:Int).toNat=n:=rfl
abbrev tCq:=@TblOk.cons
abbrev tNq:=@TblOk.nil
theorem lAq {α:Type _} {a b:List α}:(a++b).length=a.length+b.length:=List.length_append
theorem gEq {α:Type _} {l:List α} {i:Nat} {a:α}:l.getD i a=(l[i]?).getD a:=List.getD_eq_getElem?_getD
theorem nFq:(¬False)=True:=not_false_eq_true
abbrev lRq:=@AHeap.Le.refl
abbrev nrq:=@Nat.le_refl
abbrev gQq:=@List.getElem?_eq_getElem
abbrev gMq:=@List.getElem_mem
abbrev gPq:=@AHeap.get_push_lt
abbrev lPq:=@AHeap.Le.push
abbrev gNq:=@List.getElem?_eq_none
theorem nzq (n:Nat):0+n=n:=Nat.zero_add n
abbrev glq:=@AHeap.get_lt
abbrev dfq:=@decide_eq_false
abbrev dtq:=@decide_eq_true
abbrev dcq:=@List.drop_eq_getElem_cons
theorem Yq {p q:Prop} (k:q) (h:p:=by first|exact True.intro|decide|omega|(simp [ziq,zgq,zgr,zgs,zgu,zgt,zgy];first|done|omega)):p∧q:=⟨h,k⟩
theorem Yfv {P : Program} (hm : P.follows .mixedOrders = true) {Ω : Tbl} (hΩ : TblOk P Ω) {f : FuncId} {fn : Func} {c : Code} (hf : P.funcs[f]? = some fn) (rs : List ResultVar) {args : List AV} {H H1 : AHeap} {e : AEnd}
 (h : H.Closed → (∀ x ∈ args, x.lt H.nx) → aw P Ω c (KI P Ω (rc P rs H.nx e H1 (aB [])) []) (sJ 0 args) H)
 (hname : (fn.name == "runtime.NumGoroutine") = false := by kernel_rfl) (hb : fn.body = some c := by rfl) (hrs : fn.results.toList = rs := by rfl) (hok : jt P Ω (aB []) fn.ntmps c = true := by kernel_rfl)
 (ha : Nat.ble args.length fn.ntmps = true := by rfl) (hx : H.nx ≤ H1.nx := by exact nrq _) : ACalls P f args H e H1 :=
 ACalls.fW hm hΩ hf rs hx hname hb hrs hok ha h
abbrev Ype:=@EntOk.pure
theorem Yk5 (k:Nat) (h:k+1<9223372036854775808:=by omega):IntKind.i64.wrap ((k:Int)+1)=((k+1:Nat):Int):=by rw [wrap_i64]<;>omega
theorem Y0 {p:Prop} (h:p:=by
 have hF:=hW.facts
 have hcl1:=fun t=>hW.closed (t:=t) hcl
 have hid:=glq hW.o
 have hq:=glq hW.bu
 have hll:=iB hone hl
 obtain ⟨b,sl,sf,sa⟩:=s
 have hne:=cN hid
 have hneq:=cN hq
 have n1:(id=q)=False:=eq_false hW.ne
 have n2:(q=id)=False:=eq_false fun e=>hW.ne e.symm
 have hcs:=aM hW.o
 have hb0:=hW.bu
 have hi0:=hW.o
 have hnn:=hW.ne
 have hlb:b.length≤dB:=aQ hl
 rw [bJ] at hlb
 dsimp only at hcs hb0 hi0 hlb
 have lw2:=eS (l.length:Int) 2
 clear hlt
 have hcm:=fun cs=>@bK H id cs hid
 have hA:=fun X Y=>@cl H id q X Y hnn hid
 have hB:=fun X=>cZ (X:=X) hnn hb0
 have eh:=fun X Y Z=>@dj H id q X Y Z
 have hL2:sl=true→(sl||decide ((l.length:Int) > most))=true:=fun h=>by rw [h,Bool.true_or]
 have hL3:sl=false→decide ((l.length:Int) > most)=(sl||decide ((l.length:Int) > most)):=fun h=>by rw [h,Bool.false_or]
 have hst:=iz (H:=H) (id:=id) (q:=q) (b:=b) (sl:=sl) (sf:=sf) (sa:=sa) (n:=l.length) (most:=most)
 have hS1:=hW.next ((⟨b,sl,sf,sa⟩:Enc).add (db l.length most))
 have htot:(((⟨b,sl,sf,sa⟩:Enc).add (db l.length most)).add (b5 g l))=(⟨b,sl,sf,sa⟩:Enc).add (bn g most l):=by rw [aH];rfl
 rw [← htot] at hl ⊢
 generalize ((⟨b,sl,sf,sa⟩:Enc).add (db l.length most))=s1 at *
 generalize (sl||decide ((l.length:Int) > most))=L at *
 have hlv:∀ n,(AV.slice .any sz (l.map c)).lt n:=fun n=>aa (hlt' n)
 have hlc:=fun n=>@gE n most wf r
 cases sl
 case' true =>
  rw [hL2 rfl] at hst
  simp only [go_sem,byq,hne,hneq,n1,n2,hcs,hcm,hA,hB,eh,hi0,hb0,bB,ybb]
 case' false =>
  simp only [go_sem,byq,hne,hneq,n1,n2,hcs,hcm,hA,hB,eh,hi0,hb0,bB,ybb,hL3 rfl]
 all_goals
  (repeat with_reducible refine And.intro (by first|assumption|decide|omega|exact ⟨by omega,by omega⟩) ?_)
  refine aC (A:=Nat) (fun k=>[(0,.ptr id 0),(4,.ptr H.nx 0),(33,.slice .any sz (l.map c)),(34,.int .i64 (l.length:Int)),(35,.int .i64 (k:Int))])
   (fun k=>(swH H id q (s1.add (b5 g (l.take k)))).push (.cells (cj most wf r))) (fun k=>k≤l.length) (fun k=>l.length - k) 0 (by omega) ?_ fun k hk=>?_
  ·rw [yar,b5,cU,hst]
   refine ⟨by simp only [zkq,zkv,zle,zlf,ak];omega,by repeat first|exact .refl _|refine .push ?_ _,?_,?_,?_⟩
   ·rw [← hst];exact ah (hcl1 _) (hlc _)
   ·simp [ltF,zle,zlf,znn,znf,hlv]
    omega
   ·simp [bg,wk2,wk1,wkM,Fr.get]
  simp only [go_sem]
  refine au (fun hc=>?_) (fun hc=>?_)
  ·have hk':k<l.length:=by simp at hc;omega
   obtain ⟨x,hx⟩:∃ x,x=l[k]:=⟨_,rfl⟩
   have hg:=cG (f:=c) (l:=l) (k:=k) (x:=x) (by rw [gQq hk',hx])
   have e5:=Yk5 k
   have hxo:=ha x (by rw [hx];exact gMq hk')
   obtain ⟨es',hlk⟩:=dh (g:=g) hk' hx hl
   have hSk:=hW.next (s1.add (b5 g (l.take k)))
   obtain ⟨cs,hcc,hcl3,hall⟩:=hag x
   have hsp:∀ zs:List AV,zs.length=sz→splice zs 0 cs=cs:=fun zs hz=>fx (hz.trans hcl3.symm)
   have hts:List.take sz cs=cs:=ybc (by omega)
   rw [hcc] at hg
   clear hag
   subst ew es ec eo eg
   simp only [go_sem,iNq,ybb,hg,hcl3,hts,hall,hsp,if_true,yaz,yba,ak,cj,bJ]
   refine ⟨by omega,?_⟩
   rw [← hcc]
   refine oz hxo (hSk.push2 _ _) hlk ?_
   rw [hF.p2,es']
   simp only [go_sem,e5]
   refine ⟨k+1,by omega,by omega,by simp only [zkq,zkv,zle,ak];omega,by repeat first|exact .refl _|refine .push ?_ _,ah (hcl1 _) (hlc _),?_,?_⟩
   ·simp [ltF,zle,ak,znn,znf,hlv]
    omega
   ·simp [bg,wk2,wk1,wkM,Fr.get]
  ·have hk':k=l.length:=by simp at hc;omega
   subst hk'
   rw [List.take_length]
   simp only [go_sem]
   refine ⟨?_,by repeat first|exact .refl _|refine .push ?_ _,hcl1 _,?_⟩
   ·simp [wk,wk2,wk1,ay]
   ·simp [zns,znv]):p:=h
theorem Y1 {p:Prop} (h:p:=by
 have hlm:∀ n,AV.lt n (.slice .any sz (ts.map av)):=fun n=>aa (hlt n)
 obtain ⟨C0,hC0⟩:∃ C0:List AV,C0=hdC av ts:=⟨_,rfl⟩
 have hC0l:∀ m,ltL m C0:=fun m=>by rw [hC0];exact sA hlt ts m
 obtain ⟨ow,how⟩:∃ ow:Nat→AV,ow=fun k=>.slice (.own (H.nx+1+1+1+1+1)) 1 (inL ((ts.take k).map idf)):=⟨_,rfl⟩
 have hwl:∀ n k,H.nx+1+1+1+1+1<n→(ow k).lt n:=fun n k h=>by rw [how];simp [cC,pT,h]
 obtain ⟨HL,hHL⟩:∃ HL:Nat→AHeap,HL=fun k=>if k=0 then HB.push (.cells (XO (.slice .nil 1 []))) else (((HB.push (.cells (XO (ow k)))).push (.cells C0)).push (.buf 1 1)).push (.buf 1 k):=⟨_,rfl⟩
 have hL0:HL 0=HB.push (.cells (XO (.slice .nil 1 []))):=by rw [hHL];rfl
 have hLk:∀ k,k≠0→HL k=(((HB.push (.cells (XO (ow k)))).push (.cells C0)).push (.buf 1 1)).push (.buf 1 k):=fun k h=>by rw [hHL];exact if_neg h
 have hclL:∀ k,(HL k).Closed:=fun k=>by
  by_cases h:k=0
  ·rw [h,hL0]
   exact ah hclB (hXO _ _ (by simp [cC,znv]))
  ·rw [hLk k h]
   refine kY (c:=XO (.slice .nil 1 [])) (bc (bc (ah (ah hclB (hXO _ _ (by simp [cC,znv]))) (hC0l _)))) ?_
   exact hXO _ _ (hwl _ _ (by rw [hnB];omega))
 have hnL:∀ k,H.nx+1+1+1≤(HL k).nx:=fun k=>by
  by_cases h:k=0
  ·rw [h,hL0,zle,hnB];omega
  ·rw [hLk k h];simp only [zle,hnB];omega
 refine aC (A:=Nat) (fun k=>pf++[(2,.ptr (H.nx+1) 0),(3,.ptr (H.nx+1+1) 0),(a,.slice .any sz (ts.map av)),(b,.int .i64 (ts.length:Int)),(c,.int .i64 (k:Int))]) HL (fun k=>k≤ts.length) (fun k=>ts.length - k) 0 (by omega) ?_ fun k hk=>?_
 ·have hc0:=hclL 0
  rw [hL0,← hHB] at hc0 ⊢
  subst e1 e2 e3 e4 e5 e6 e7 e8 e9 e10
  refine ⟨by simp only [zle,zkq,zkv];omega,lRq _,hc0,?_,?_⟩
  ·simp [ltF,zle,znn,znf,hlm]
   try omega
  ·simp [bg,wk2,wk1,wkM,Fr.get]
 subst e4 e5 e6 e7 e10
 simp only [go_sem,yal,yak]
 refine au (fun hc=>?_) (fun hc=>?_)
 ·have hk':k<ts.length:=by simp at hc;omega
  obtain ⟨x,hx⟩:∃ x,x=ts[k]:=⟨_,rfl⟩
  have hxg:=aV (f:=av) (l:=ts) (k:=k) (x:=x) (by rw [gQq hk',hx])
  have ek:IntKind.i64.wrap ((k:Int)+1)=((k+1:Nat):Int):=by rw [wrap_i64]<;>omega
  have htk:ts.take (k+1)=ts.take k++[x]:=by rw [hx,List.take_succ_eq_append_getElem hk']
  have hil:inL ((ts.take k).map idf)++[.int .i64 (idf x)]=inL ((ts.take (k+1)).map idf):=by rw [htk];simp [inL]
  have hll:(inL ((ts.take k).map idf)).length=k:=by simp [inL];omega
  obtain ⟨cs,hcs,hcl3,hall⟩:=hag x
  have hts:List.take (cs.length+1) (AV.int .i64 (idf x)::cs)=AV.int .i64 (idf x)::cs:=ybc (by simp)
  have hsp:∀ zs:List AV,zs.length=(AV.int .i64 (idf x)::cs).length→splice zs 0 (AV.int .i64 (idf x)::cs)=AV.int .i64 (idf x)::cs:=fun zs hz=>lc hz
  have hall2:cM (AV.int .i64 (idf x)::cs)=true:=hall
  rw [hcs] at hxg
  rw [yaz,hcl3] at hsp
  rw [hcl3] at hts
  by_cases h0:k=0
  ·subst h0
   have hC1:C0=AV.int .i64 (idf x)::cs:=by rw [hC0,rM hk',← hx,hcs];rfl
   have how1:ow 1=.slice (.own (H.nx+1+1+1+1+1)) 1 [.int .i64 (idf x)]:=by rw [how];dsimp only;rw [← hil];rfl
   have hcl1:=hclL 1
   rw [hLk 1 (by decide),← hHB,hC1,how1] at hcl1
   rw [hL0,← hHB]
   have hL1:=hLk 1 (by decide)
   rw [← hHB,hC1,how1] at hL1
   subst e8
   try dsimp only at hcl1 hL1 ⊢
   simp only [aR] at hcl1 hL1
   simp only [bm,aD,bhq,Nat.reduceMod,Nat.reduceDiv,aW,aX,aZ,bx,aY,bw,bo,bp,bv,yaq,yar,yao,yap,go_sem,aR,iNq,ybb,yaz,yba,hxg,hcl3,hts,hsp,hall2,if_true,yal,yak,ek]
   refine ⟨⟨by omega,by omega⟩,⟨by omega,by omega⟩,fun z hz=>by rw [List.mem_singleton.1 hz];rfl,⟨by omega,by omega⟩,1,by omega,by omega,?_⟩
   rw [hL1]
   refine ⟨by simp only [zle];omega,by repeat first|exact .refl _|refine .push ?_ _,hcl1,?_,?_⟩
   ·simp [ltF,zle,znn,znf,hlm]
    try omega
   ·simp [bg,wk2,wk1,wkM,Fr.get]
  ·have how1:ow k=.slice (.own (H.nx+1+1+1+1+1)) 1 (inL ((ts.take k).map idf)):=by rw [how]
   have how2:ow (k+1)=.slice (.own (H.nx+1+1+1+1+1)) 1 (inL ((ts.take k).map idf)++[.int .i64 (idf x)]):=by rw [how,hil]
   have hcl1:=hclL (k+1)
   have hL1:=hLk (k+1) (by omega)
   rw [← hHB,how2] at hL1
   rw [hL1] at hcl1
   rw [hLk k h0,← hHB,how1]
   subst e8
   try dsimp only at hcl1 hL1 ⊢
   simp only [aR] at hcl1 hL1
   simp only [bm,aD,bhq,Nat.reduceMod,Nat.reduceDiv,aW,aX,aZ,bx,aY,bw,bo,bp,bv,yaq,yar,yao,yap,go_sem,aR,iNq,ybb,yaz,yba,hxg,hcl3,hts,hsp,hall2,if_true,yal,yak,ek]
   refine ⟨⟨by omega,by omega⟩,⟨by omega,by omega⟩,⟨by rw [hll],by rw [hll];omega,by rw [hll];omega,fun z hz=>by rw [List.mem_singleton.1 hz];rfl⟩,⟨by omega,by omega⟩,k+1,by omega,by omega,?_⟩
   rw [hL1,hll]
   refine ⟨by simp only [zle];omega,by repeat first|exact .refl _|refine .push ?_ _,hcl1,?_,?_⟩
   ·simp [ltF,zle,znn,znf,hlm]
    try omega
   ·simp [bg,wk2,wk1,wkM,Fr.get]
 ·have hk':k=ts.length:=by simp at hc;omega
  have hcl1:(HB.push (.cells XN)).Closed:=ah hclB (hXN _)
  rw [← hHB] at hcl1
  by_cases h0:k=0
  ·subst h0
   have hnl:ts=[]:=List.length_eq_zero_iff.1 hk'.symm
   have hnl2:ts.map idf=[]:=by rw [hnl];rfl
   rw [hL0,← hHB]
   simp only [go_sem]
   refine gT (H.nx+1+1) XN (cs:=XO (.slice .nil 1 [])) (by simp only [go_sem]) ?_ ?_
   ·subst e1 e3 e8 e9
    simp only [dO,eI,and_true]
    refine ⟨?_,?_,?_,?_,?_,?_⟩
    all_goals first|exact kP|(rw [hnl2];exact kP (l:=[]))|(rw [dN];exact .inl ⟨.inr rfl,rfl,by rw [eM];trivial⟩)
   subst e8 e9
   simp only [go_sem]
   refine bC J () trivial ⟨by simp only [zle,zkv,zkq,ja,hnB];omega,by rw [← hHB];repeat first|exact .refl _|refine .push ?_ _,by rw [← hHB];exact hcl1,?_,?_⟩
   ·(simp [ltF,zle,znn,hnB];try omega)
   ·simp [bg,wk2,wk1,wkM,Fr.get]
  ·have how1:ow k=.slice (.own (H.nx+1+1+1+1+1)) 1 (inL (ts.map idf)):=by rw [how,hk'];dsimp only;rw [List.take_length]
   rw [hLk k h0,← hHB,how1]
   simp only [go_sem]
   refine gT (H.nx+1+1) XN (cs:=XO (.slice (.own (H.nx+1+1+1+1+1)) 1 (inL (ts.map idf)))) (by simp only [go_sem]) ?_ ?_
   ·subst e1 e3 e8 e9
    simp only [dO,eI,and_true]
    refine ⟨?_,?_,?_,?_,?_,?_⟩
    all_goals first|exact kP|(rw [dN];exact .inl ⟨.inr rfl,rfl,by rw [eM];trivial⟩)
   subst e8 e9
   simp only [go_sem]
   refine bC J () trivial ⟨by simp only [zle,zkv,zkq,ja,hnB];omega,by rw [← hHB];repeat first|exact .refl _|refine .push ?_ _,by rw [← hHB];exact hcl1,?_,?_⟩
   ·(simp [ltF,zle,znn,hnB];try omega)
   ·simp [bg,wk2,wk1,wkM,Fr.get]):p:=h
theorem Y2 {p:Prop} (h:p:=by
 generalize hR:ixP q ts 0=R
 have hm:AV.lt H.nx (.slice m sz (ts.map av)):=hlt _ (by simp)
 have hf:AV.lt H.nx (.func (.func F) fst caps):=hlt _ (by simp)
 clear hlt
 simp only [go_sem,ybb]
 refine aC (A:=Nat) (fun k=>[(0,.slice m sz (ts.map av)),(1,.func (.func F) fst caps),(7,.int .i64 (ts.length:Int)),(8,.int .i64 (k:Int))]) (fun _=>H) (fun k=>k≤ts.length∧ixP q (ts.drop k) k=R) (fun k=>ts.length - k) 0 ⟨by omega,hR⟩ ?_ fun k hk=>?_
 ·exact ⟨nrq _,lRq _,hcl,by simp [ltF,znf,hm,hf],by simp [bg,wk2,wk1,wkM,Fr.get]⟩
 clear hR
 obtain ⟨hk,hR⟩:=hk
 simp only [go_sem]
 refine au (fun hc=>?_) (fun hc=>?_)
 ·have hk':k<ts.length:=by simp at hc;omega
  obtain ⟨x,hx⟩:∃ x,x=ts[k]:=⟨_,rfl⟩
  have hd:ts.drop k=x::ts.drop (k+1):=by rw [hx];exact dcq hk'
  have hg':=aV (f:=av) (l:=ts) (k:=k) (x:=x) (by rw [gQq hk',hx])
  have e5:=Yk5 k
  rw [hd] at hR
  unfold ixP at hR
  have hqx:=hq x (by rw [hx];exact gMq hk')
  obtain ⟨cs,hcs,hcl3⟩:=hag x
  have hts:List.take sz cs=cs:=ybc (by omega)
  rw [hcs] at hqx
  clear ha hag
  subst hs
  simp only [go_sem,iNq,ybb,hg',hcs,hcl3,hts,iT]
  (repeat with_reducible refine Yq ?_)
  refine ⟨_,?_,hqx⟩
  try simp only [aD,go_sem]
  try (repeat with_reducible refine Yq ?_)
  refine au (fun hq=>?_) (fun hq=>?_)
  ·rw [if_pos hq] at hR
   subst hR
   simp only [go_sem]
   exact Z1
  ·rw [if_neg (by rw [hq];decide)] at hR
   simp only [go_sem,e5]
   exact ⟨k+1,⟨by omega,hR⟩,by omega,nrq _,lRq _,hcl,by simp [ltF,znf,hm,hf],by simp [bg,wk2,wk1,wkM,Fr.get]⟩
 ·have hk':k=ts.length:=by simp at hc;omega
  subst hk'
  rw [List.drop_length] at hR
  unfold ixP at hR
  subst hR
  simp only [go_sem]
  exact Z1):p:=h
theorem Y3 {p:Prop} (h:p:=by
 simp only [go_sem,iNq,ybb,hg',hne2,iT]
 (repeat with_reducible refine Yq ?_)
 refine ⟨_,?_,hqx _ hlp hcp⟩
 have hmg:=ke sn (f x)
 have hmu:=@aS _ H.nx (((AV.int .i64) (f x),.bool true)::dT (AV.int .i64) sn) hcc
 have hsn':=iL cQ hsn
 cases hb:sn.contains (f x) with
 |true =>
  rw [hb,if_pos rfl] at hmg
  rw [hb,Bool.not_true,Bool.false_and] at hR
  subst hR
  simp only [aD,go_sem,zix,hne,hid,hmg]
  refine ⟨⟨fg,hsn',cQ _ hgx,rfl⟩,?_⟩
  try simp only [go_sem,hmg]
  exact Z5
 |false =>
  rw [hb,if_neg Bool.false_ne_true] at hmg
  rw [hb,Bool.not_false,Bool.true_and] at hR
  simp only [aD,go_sem,zix,ziy,hne,hid,hmg,e5]
  refine ⟨⟨fg,hsn',cQ _ hgx,rfl⟩,?_⟩
  try simp only [go_sem,hmg,hid,hne,ziy,e5]
  refine ⟨⟨fg,hsn',cQ _ hgx,rfl,rfl⟩,(k+1,f x::sn,Hc.set H.nx (.mapo (dT (AV.int .i64) (f x::sn)))),⟨by dsimp only;omega,hR,?_,cB hle (nrq _),aS hcc,?_⟩,by dsimp only;omega,?_⟩
  ·intro v hv
   rcases List.mem_cons.1 hv with rfl|hv
   ·exact hgx
   ·exact hsn v hv
  ·dsimp only
   rw [aI,if_pos rfl,if_pos (glq hid)]
  ·have hmu':(Hc.set H.nx (.mapo (dT (AV.int .i64) (f x::sn)))).Closed:=hmu
   have hrow:(((AV.int .i64) (f x),AV.bool true)::dT (AV.int .i64) sn)=dT (AV.int .i64) (f x::sn):=rfl
   try rw [hrow]
   try simp only [hrow]
   exact Z6):p:=h
theorem Y4 {p:Prop} (h:p:=by
 generalize hR:ixS st ts sn 0=R
 have hnx:id<H.nx:=glq hid
 have hss:=fo hid
 have hm:AV.lt H.nx (.slice m sz (ts.map av)):=hlt _ (by simp)
 have hf:AV.lt H.nx (.func (.func F) fst caps):=hlt _ (by simp)
 clear hlt
 simp only [go_sem,ybb]
 refine aC (A:=Nat × List VN) (fun a=>[(0,.slice m sz (ts.map av)),(1,.func (.func F) fst caps),(7,.int .i64 (ts.length:Int)),(8,.int .i64 (a.1:Int))]) (fun a=>H.set id (mpV a.2)) (fun a=>a.1≤ts.length∧g a.2∧ixS st (ts.drop a.1) a.2 a.1=R) (fun a=>ts.length - a.1) (0,sn) ⟨by dsimp only;omega,hg,hR⟩ ?_ fun a hk=>?_
 ·dsimp only
  rw [hss]
  exact ⟨nrq _,lRq _,hcl,by simp [ltF,znf,hm,hf],by simp [bg,wk2,wk1,wkM,Fr.get]⟩
 clear hR
 obtain ⟨k,s⟩:=a
 obtain ⟨hk,hgs,hR⟩:=hk
 dsimp only at hk hgs hR ⊢
 have hcc:(H.set id (mpV s)).Closed:=aS hcl
 simp only [go_sem]
 refine au (fun hc=>?_) (fun hc=>?_)
 ·have hk':k<ts.length:=by simp at hc;omega
  obtain ⟨x,hx⟩:∃ x,x=ts[k]:=⟨_,rfl⟩
  have hd:ts.drop k=x::ts.drop (k+1):=by rw [hx];exact dcq hk'
  have hg':=aV (f:=av) (l:=ts) (k:=k) (x:=x) (by rw [gQq hk',hx])
  have e5:=Yk5 k
  rw [hd] at hR
  unfold ixS at hR
  obtain ⟨hg2,hqx⟩:=hq x (by rw [hx];exact gMq hk') s hgs
  have hqx:=hqx _ (lRq _) hcc
  have hc2:(H.set id (mpV (st x s).2)).Closed:=aS hcl
  obtain ⟨cs,hcs,hcl3⟩:=hag x
  have hts:List.take sz cs=cs:=ybc (by omega)
  rw [hcs] at hqx hg'
  clear ha hag
  subst hs
  simp only [go_sem,iNq,ybb,hg',hcl3,hts,uD]
  (repeat with_reducible refine Yq ?_)
  refine ⟨_,_,?_,hqx⟩
  try simp only [bm,go_sem]
  refine au (fun hq=>?_) (fun hq=>?_)
  ·rw [if_pos hq] at hR
   subst hR
   simp only [go_sem]
   exact Z8
  ·rw [if_neg (by rw [hq];decide)] at hR
   simp only [go_sem,e5]
   exact ⟨(k+1,(st x s).2),⟨by dsimp only;omega,hg2,hR⟩,by dsimp only;omega,nrq _,lRq _,hc2,by simp [ltF,znf,hm,hf,zlf],by simp [bg,wk2,wk1,wkM,Fr.get]⟩
 ·have hk':k=ts.length:=by simp at hc;omega
  subst hk'
  rw [List.drop_length] at hR
  unfold ixS at hR
  subst hR
  simp only [go_sem]
  exact Z9):p:=h
theorem Y5 {p:Prop} (h:p:=by
 have hR1:=congrArg Prod.fst (@km _ _ st ts sn 0)
 dsimp only at hR1 ⊢
 generalize hX:evS st ts sn=X at *
 have hl2:=glq hid
 have hne2:(id=H.nx)=False:=eq_false (by omega)
 have hfx:=hlt _ (List.mem_cons_of_mem _ List.mem_cons_self)
 clear hlt
 have hcp:(H.push (.cells [.func (.func F) fst caps])).Closed:=ah hcl (by simp only [znu,znv,and_true];exact AV.lt_mono (Nat.le_succ H.nx) _ hfx)
 subst hs
 simp only [go_sem]
 refine ⟨ts,id,sn,fun x s=>(!(st x s).1,(st x s).2),g,⟨by rw [ha];rfl,hl,?_,hg,fun x hx s hs=>?_⟩,?_⟩
 ·rw [if_neg (by omega)];exact hid
 ·obtain ⟨h1,h2⟩:=hq x hx s hs
  refine ⟨h1,fun H' hle hcl'=>?_⟩
  rw [zli,if_neg (by omega)] at hle
  have hle0:(H.set id (mpV s)).Le H':=((lRq _).push _).trans hle
  have hg0:H'.get H.nx=some (.cells [.func (.func F) fst caps]):=hle.get _ _ (AHeap.get_push_new _ _)
  have hid':H'.get id=some (mpV s):=by
   refine hle.get _ _ ?_
   rw [zlh,if_neg (by rw [zlf];omega),aI,if_pos rfl,if_pos hl2]
  rw [← ha]
  obtain ⟨v,H1,⟨hv,hH⟩,hc⟩:=hL.2.1 rfl [av x,.ptr H.nx 0] H' (fun v H1=>v=.ret (.bool (!(st x s).1))∧H1=H'.set id (mpV (st x s).2)) ⟨x,id,s,st,g,F,fst,caps,⟨rfl,hg0,hid',hs,fun s' hs'=>⟨(hq x hx s' hs').1,fun H2 h3 h4=>(hq x hx s' hs').2 H2 ((mg hle0).trans h3) h4⟩⟩,rfl,rfl⟩
  subst hv hH
  exact hc
 ·rw [hR1]
  try simp only [bm,go_sem]
  have hc2:=@aS _ id (dT kN (ixS (fun x s=>(!(st x s).1,(st x s).2)) ts sn 0).2) hcl
  exact Z11):p:=h
theorem Y6 {p:Prop} (h:p:=by
 have hR:=@jk _ q ts
 generalize ts.all q=R at *
 have hfx:=hlt _ (List.mem_cons_of_mem _ List.mem_cons_self)
 clear hlt
 subst hs
 simp only [go_sem]
 refine ⟨ts,fun x=>!q x,⟨by rw [ha];rfl,hl,fun x hx=>?_⟩,?_⟩
 ·rw [← ha]
  exact clB hL ⟨x,q x,F,fst,caps,⟨rfl,by simp only [go_sem],fun H' h1 h2=>hq x hx H' (((lRq _).push _).trans h1) h2⟩,rfl⟩
 ·rw [hR]
  try simp only [aD,go_sem]
  exact Z1):p:=h
theorem Y7 {p:Prop} (h:p:=by
 have hcs:=aM hg
 have hl:=glq hg
 have hne:(c=H.nx)=False:=eq_false (by omega)
 obtain ⟨cs,hav,hcl3⟩:=hag t
 have hts:=ybc (Nat.le_of_eq hcl3)
 rw [hav] at hq hlt ⊢
 have hlx:=hlt _ (List.mem_cons_self)
 clear hlt
 simp only [go_sem,hcs,hne,hg,hcl3,hts,iT]
 refine ⟨_,?_,hq _ ((lRq _).push _) ?_⟩
 ·try simp only [aD,go_sem]
  exact Z1
 ·have h0:=AV.lt_mono (Nat.le_succ H.nx) _ hlx
  rw [znr] at h0
  exact ah hcl h0):p:=h
theorem Y8 {p:Prop} (h:p:=by
 try (repeat with_reducible refine Yq ?_)
 exact Z1):p:=h
theorem Y9 {p:Prop} (h:p:=by
 (simp only [bkq,enterW,bg,ltF,ne_eq,Nat.reduceEqDiff,reduceCtorEq,hm,hf];try simp (disch:=first|exact Zd|omega) [↓zmo,beq,ybc,ybd,ybe,ag,wk,wk2,wk1,wkM,wkL,ay,ybf,byq,biq,ea,hcl,hm,hf];try (repeat' (first|assumption|omega|exact True.intro|refine And.intro ?_ ?_|refine bc ?_|refine bh ?_|refine ah ?_ ?_|refine bG ?_ ?_|refine dp ?_|exact lRq _|refine lPq ?_ _|refine AHeap.Le.del ?_ ?_|(simp only [bt,and_true,true_and,hm,hf];first|done|omega|(simp;done)))))
 exact dH hcl):p:=h
theorem Y10 {p:Prop} (h:p:=by
 try simp only [go_sem,hgk,ek]
 try (repeat with_reducible refine aq ?_)
 refine lpB x.keys (fun k=>bz S k.field) (fun j bj=>[(3,.bool bj),(1,.ptr H.nx 0),(21,.slice .any 8 (S.tables.map ax)),(22,.int .i64 (S.tables.length:Int)),(23,.int .i64 (k:Int)),(5,.ptr (H.nx+1) 0),(28,.slice .any 3 (x.keys.map ba)),(29,.int .i64 (x.keys.length:Int)),(30,.int .i64 (j:Int))]) ((ff H S).push (.cells (ip x))) hR (en5 hcI) ?_
 clear hR
 intro j bj hj hR
 have hbj:=(hS.tn x hmk).2.1
 simp only [go_sem]
 refine csL hj (fun hj'=>?_) fun hj'=>?_
 ·skip
  obtain ⟨y,hmj,hgj,hR⟩:=hdL ba Hq hj' hR
  have ej:=ek5 j
  replace hR:=af (E:=bz S y.field) hR
  cases bj with
  |false =>
   try simp only [go_sem,hgj,ej,aK,aF,aP,aU,bD,dD,hxF,hxH,hxT,hxA]
   try (repeat with_reducible refine aq ?_)
   replace hR:=lff hR
   exact ⟨(j+1,false),⟨om5,hR⟩,om5,en5 hcI⟩
  |true =>
   try simp only [go_sem,hgj,ej,aK,aF,aP,aU,bD,dD,hxF,hxH,hxT,hxA]
   try (repeat with_reducible refine aq ?_)
   refine ⟨S,⟨rfl,sl⟩,?_⟩
   cases c1:(bz S y.field) with
   |false =>
    try simp only [go_sem,hgj,ej,aK,aF,aP,aU,bD,dD,hxF,hxH,hxT,hxA,c1]
    try (repeat with_reducible refine aq ?_)
    replace hR:=lf false hR (by simp only [c1,tfC])
    exact ⟨(j+1,false),⟨om5,hR⟩,om5,en5 hcI⟩
   |true =>
    try simp only [go_sem,hgj,ej,aK,aF,aP,aU,bD,dD,hxF,hxH,hxT,hxA,c1]
    try (repeat with_reducible refine aq ?_)
    replace hR:=lf true hR (by simp only [c1,tfC])
    exact ⟨(j+1,true),⟨om5,hR⟩,om5,en5 hcI⟩
 ·skip
  replace hR:=ndL hj' hR
  subst hj'
  try simp only [go_sem,ib]
  refine lpB x.actions (fun a=>fm S a) (fun i bi=>[(3,.bool bi),(1,.ptr H.nx 0),(21,.slice .any 8 (S.tables.map ax)),(22,.int .i64 (S.tables.length:Int)),(23,.int .i64 (k:Int)),(5,.ptr (H.nx+1) 0),(44,.slice .any 1 (inL x.actions)),(45,.int .i64 (x.actions.length:Int)),(46,.int .i64 (i:Int))]) ((ff H S).push (.cells (ip x))) hR (en5 hcI) ?_
  clear hR
  intro i bi hi hR
  have hbi:=(hS.tn x hmk).2.2.1
  simp only [go_sem,inL]
  refine csL hi (fun hi'=>?_) fun hi'=>?_
  ·skip
   obtain ⟨z,hmi,hgi,hR⟩:=hdI hi' hR
   have ei:=ek5 i
   replace hR:=af (E:=fm S z) hR
   cases bi with
   |false =>
    try simp only [go_sem,hgi,ei,aK,aF,aP,aU,bD,dD,hxF,hxH,hxT,hxA]
    try (repeat with_reducible refine aq ?_)
    replace hR:=lff hR
    exact ⟨(i+1,false),⟨om5,hR⟩,om5,en5 hcI⟩
   |true =>
    try simp only [go_sem,hgi,ei,aK,aF,aP,aU,bD,dD,hxF,hxH,hxT,hxA]
    try (repeat with_reducible refine aq ?_)
    refine ⟨S,⟨rfl,sl⟩,?_⟩
    cases c1:(fm S z) with
    |false =>
     try simp only [go_sem,hgi,ei,aK,aF,aP,aU,bD,dD,hxF,hxH,hxT,hxA,c1]
     try (repeat with_reducible refine aq ?_)
     replace hR:=lf false hR (by simp only [c1,tfC])
     exact ⟨(i+1,false),⟨om5,hR⟩,om5,en5 hcI⟩
    |true =>
     try simp only [go_sem,hgi,ei,aK,aF,aP,aU,bD,dD,hxF,hxH,hxT,hxA,c1]
     try (repeat with_reducible refine aq ?_)
     replace hR:=lf true hR (by simp only [c1,tfC])
     exact ⟨(i+1,true),⟨om5,hR⟩,om5,en5 hcI⟩
  ·skip
   replace hR:=ndL hi' hR
   subst hi'
   try simp only [go_sem]
   have hih:=ix_has (n:=x.dflt) (l:=x.actions)
   replace hR:=ae (E:=x.actions.contains x.dflt) hR
   cases bi with
   |false =>
    try simp only [go_sem,hgk,ek,aK,aF,aP,aU,bD,dD,hxF,hxH,hxT,hxA,hih]
    try (repeat with_reducible refine aq ?_)
    replace hR:=lff hR
    exact ⟨(k+1,false),⟨om5,hR⟩,om5,en5 hcH⟩
   |true =>
    try simp only [go_sem,hgk,ek,aK,aF,aP,aU,bD,dD,hxF,hxH,hxT,hxA,hih]
    try (repeat with_reducible refine aq ?_)
    refine ⟨x.actions,⟨rfl,(hS.tn x hmk).2.2.1⟩,?_⟩
    cases c1:(x.actions.contains x.dflt) with
    |false =>
     try simp only [go_sem,hgk,ek,aK,aF,aP,aU,bD,dD,hxF,hxH,hxT,hxA,hih,c1]
     try (repeat with_reducible refine aq ?_)
     replace hR:=lf false hR (by simp only [c1,tfC])
     exact ⟨(k+1,false),⟨om5,hR⟩,om5,en5 hcH⟩
    |true =>
     try simp only [go_sem,hgk,ek,aK,aF,aP,aU,bD,dD,hxF,hxH,hxT,hxA,hih,c1]
     try (repeat with_reducible refine aq ?_)
     replace hR:=lf true hR (by simp only [c1,tfC])
     exact ⟨(k+1,true),⟨om5,hR⟩,om5,en5 hcH⟩):p:=h
theorem Y11 {p:Prop} (h:p:=by
 rw [yar,b5,cU,hst]
 refine ⟨by simp only [zkq,zkv,zle,zlf,ak];omega,by repeat first|exact .refl _|refine .push ?_ _,?_,?_,?_⟩
 ·rw [← hst];exact ah (hcl1 _) (hlc _)
 ·simp [ltF,zle,zlf,znn,znf,hlv]
  omega
 ·simp [bg,wk2,wk1,wkM,Fr.get]):p:=h
theorem Y12 {p:Prop} (h:p:=by
 simp only [go_sem,e5]
 refine ⟨k+1,by omega,by omega,by simp only [zkq,zkv,zle,ak];omega,by repeat first|exact .refl _|refine .push ?_ _,ah (hcl1 _) (hlc _),?_,?_⟩
 ·simp [ltF,zle,ak,znn,znf,hlv]
  omega
 ·simp [bg,wk2,wk1,wkM,Fr.get]):p:=h
theorem Y13 {p:Prop} (h:p:=by
 simp [bg,wk2,wk1,wkM,Fr.get]):p:=h
theorem Y14 {p:Prop} (h:p:=by
 have hk':k=l.length:=by simp at hc;omega
 subst hk'
 rw [List.take_length]
 simp only [go_sem]
 refine ⟨?_,by repeat first|exact .refl _|refine .push ?_ _,hcl1 _,?_⟩
 ·simp [wk,wk2,wk1,ay]
 ·simp [zns,znv]):p:=h
theorem Y15 {p:Prop} (h:p:=by
 have hcs:=aM hg
 have hl:=glq hg
 have hl2:=glq hid
 have hne:(c=H.nx)=False:=eq_false (by omega)
 have hne2:(id=H.nx)=False:=eq_false (by omega)
 have hss:=fo hid
 obtain ⟨hg2,hqx⟩:=hq sn hgs
 obtain ⟨cs,hav,hcl3⟩:=hag x
 have hts:=ybc (Nat.le_of_eq hcl3)
 rw [hav] at hqx hlt ⊢
 have hlx:=hlt _ (List.mem_cons_self)
 clear hlt
 have h0:=AV.lt_mono (Nat.le_succ H.nx) _ hlx
 rw [znr] at h0
 have hcp:(H.push (.cells cs)).Closed:=ah hcl h0
 have hc2:(H.set id (mpV (st x sn).2)).Closed:=aS hcl
 have hq1:=hqx (H.push (.cells cs)) (by rw [hss];exact (lRq _).push _) hcp
 rw [zli,if_neg (by omega)] at hq1
 simp only [go_sem,hcs,hne,hg,hcl3,hts,uD]
 refine ⟨_,_,?_,hq1⟩
 try simp only [bm,go_sem]
 exact Z8):p:=h
theorem Y16 {p:Prop} (h:p:=by
 simp [ltF,zle,ak,znn,znf,zng,aa,aa ct,aa b8,aa cJ,aa cg,aa cn,aa cI,aa da,aa cu,aa dr,aa cb,aa bI,aa b7,aa cw,aa fun _=>gR,aa fun _=>of_eq_true znf,aa fun _=>of_eq_true zng]
 try omega):p:=h
theorem Y17 {p:Prop} (h:p:=by
 clear hlt
 have hR:=@eC _ q ts 0
 generalize ts.any q=R at *
 subst hs
 simp only [go_sem]
 refine ⟨ts,q,⟨by rw [ha];rfl,hl,by rw [← ha];exact hq⟩,?_⟩
 simp only [aD,go_sem,hR]
 exact Z1):p:=h
theorem Y18 {p:Prop} (h:p:=by
 simp [ltF,zle,ak,znn,znf,zng,aa ct,aa b8,aa cJ,aa cg,aa cn,aa cI,aa da,aa cu,aa dr,aa cb,aa bI,aa b7,aa cw,aa fun _=>gR,aa fun _=>of_eq_true znf,aa fun _=>of_eq_true zng]
 try omega):p:=h
theorem Y19 {p:Prop} (h:p:=by
 have hk':k=ts.length:=by simp at hc;omega
 subst hk'
 rw [List.drop_length] at hR
 unfold ixP at hR
 subst hR
 simp only [go_sem]
 exact Z1):p:=h
theorem Y20 {p:Prop} (h:p:=by
 refine ⟨?_,by repeat first|exact .refl _|refine .push ?_ _,hcl1 _,?_⟩
 ·simp [wk,wk2,wk1,ay]
 ·simp [zns,znv]):p:=h
theorem Y21 {p:Prop} (h:p:=by
 subst hk'
 rw [List.drop_length] at hR
 unfold ixP at hR
 subst hR
 simp only [go_sem]
 exact Z1):p:=h
theorem Y22 {p:Prop} (h:p:=by
 try (repeat with_reducible refine Yq ?_)
 refine ⟨?_,by first|exact hlW _|(repeat refine lPq ?_ _;exact hlW _),hcl,?_⟩
 ·simp [wk,wk2,wk1,ay,wkM,zll]
 ·simp [zns,znu,znv,zms,znf,zll,m7]):p:=h
theorem Y23 {p:Prop} (h:p:=by
 try (repeat with_reducible refine aq ?_)
 replace hR:=lff hR
 exact ⟨(k+1,false),⟨om5,hR⟩,om5,en5 hcH⟩):p:=h
theorem Y24 {p:Prop} (h:p:=by
 try (repeat with_reducible refine aq ?_)
 replace hR:=lff hR
 exact ⟨(j+1,false),⟨om5,hR⟩,om5,en5 hcI⟩):p:=h
theorem Y25 {p:Prop} (h:p:=by
 exact ⟨(j+1,false),⟨om5,hR⟩,om5,en5 hcI⟩):p:=h
theorem Y26 {p:Prop} (h:p:=by
 exact ⟨(k+1,false),⟨om5,hR⟩,om5,en5 hcH⟩):p:=h
theorem Y27 {p:Prop} (h:p:=by
 simp only [go_sem,iNq,ybb,hg',hne2,iT]
 (repeat with_reducible refine Yq ?_)
 refine ⟨_,?_,hqx _ hlp hcp⟩
 have hmg:=wK sn (f x)
 have hmu:=@aS _ H.nx ((AV.str (f x),.bool true)::dT AV.str sn) hcc
 have hsn':=iL lD hsn
 cases hb:sn.contains (f x) with
 |true =>
  rw [hb,if_pos rfl] at hmg
  rw [hb,Bool.not_true,Bool.false_and] at hR
  subst hR
  simp only [aD,go_sem,zix,hne,hid,hmg]
  refine ⟨⟨sm,hsn',lD _ hgx,rfl⟩,?_⟩
  try simp only [go_sem,hmg]
  exact Z5
 |false =>
  rw [hb,if_neg Bool.false_ne_true] at hmg
  rw [hb,Bool.not_false,Bool.true_and] at hR
  simp only [aD,go_sem,zix,ziy,hne,hid,hmg,e5]
  refine ⟨⟨sm,hsn',lD _ hgx,rfl⟩,?_⟩
  try simp only [go_sem,hmg,hid,hne,ziy,e5]
  refine ⟨⟨sm,hsn',lD _ hgx,rfl,rfl⟩,(k+1,f x::sn,Hc.set H.nx (.mapo (dT AV.str (f x::sn)))),⟨by dsimp only;omega,hR,?_,cB hle (nrq _),aS hcc,?_⟩,by dsimp only;omega,?_⟩
  ·intro v hv
   rcases List.mem_cons.1 hv with rfl|hv
   ·exact hgx
   ·exact hsn v hv
  ·dsimp only
   rw [aI,if_pos rfl,if_pos (glq hid)]
  ·have hmu':(Hc.set H.nx (.mapo (dT AV.str (f x::sn)))).Closed:=hmu
   have hrow:((AV.str (f x),AV.bool true)::dT AV.str sn)=dT AV.str (f x::sn):=rfl
   try rw [hrow]
   try simp only [hrow]
   exact Z6):p:=h
theorem Y28 {p:Prop} (h:p:=by
 have hk':k=ts.length:=by simp at hc;omega
 subst hk'
 rw [List.drop_length] at hR
 have hR':true=R:=hR
 subst hR'
 simp only [go_sem]
 exact Z7):p:=h
theorem Y29 {p:Prop} (h:p:=by
 have h1:=hm (Hc.nx+1) (by have:=hle.nx;omega)
 rw [AV.lt] at h1
 have h2:=h1.2 k (by rw [ybb];exact hk')
 rw [List.getElem_map] at h2
 rwa [← hx] at h2):p:=h
theorem Y30 {p:Prop} (h:p:=by
 have o9:AV.lt Hc.nx (.slice (.own i9) 1 (U9 (k+1))):=cf (by omega) (U9L _ _)
 have o10:AV.lt Hc.nx (.slice (.own i10) 1 []):=cf (by omega) trivial
 refine ⟨(k+1,false,Hc.set i9 (.buf 1 (k+1))),⟨by dsimp only;omega,cB hle (by omega),hcs2,by dsimp only;rw [aI,if_pos rfl,if_pos (by omega)],by dsimp only;rw [aI,if_neg (by omega)];exact g10,hR⟩,by dsimp only;omega,by (try simp only [zkq,zkv,zle,zlf]);omega,hIl.trans hle2,hcs2,by (simp [ltF,zlf,znn,znf,zng,ltZ,eb,o9,o10,hst6,hst7,hst8,hst11];try omega),by simp [bg,wk2,wk1,wkM,Fr.get,fJ]⟩):p:=h
theorem Y31 {p:Prop} (h:p:=by
 cases r with
 |bad q=>obtain ⟨m1,m2⟩:=this;exact ⟨m1,by omega⟩
 |ok b q u =>
  obtain ⟨m1,m2,m3,m4,m5,m6⟩:=this
  simp only [Rl.isL,if_true] at m4
  exact ⟨m1,m2,by omega,by simp [Rl.isL];omega,m5,by omega⟩):p:=h
theorem Y32 {p:Prop} (h:p:=by
 simp only [go_sem]
 exact Z1):p:=h
theorem Y33 {p:Prop} (h:p:=by
 have hcc:(H.set id (mpV (ixS st ts sn 0).2)).Closed:=aS hcl
 clear hlt
 subst hs
 simp only [go_sem]
 refine ⟨ts,id,sn,st,g,⟨by rw [ha];rfl,hl,hid,hg,by rw [← ha];exact hq⟩,?_⟩
 generalize ixS st ts sn 0=R at *
 try simp only [bm,go_sem]
 exact Z10):p:=h
theorem Y34 {p:Prop} (h:p:=by
 skip
 replace hR:=ndL hj' hR
 subst hj'
 try simp only [go_sem,ek]
 exact ⟨(k+1,bj),⟨om5,hR⟩,om5,en5 hcH⟩):p:=h
theorem Y35 {p:Prop} (h:p:=by
 simp only [k1,tfC] at hR
 subst hR
 try simp only [aD,go_sem,hcs,hne,hg,inL,eL,hY,bF,dU,dz,br,k1]
 exact Z1):p:=h
theorem Y36 {p:Prop} (h:p:=by
 refine ⟨by omega,by (try simp only [lAq,yaz,yba]);omega,by (try simp only [lAq,yaz,yba]);omega,by (try simp only [lAq,yaz,yba]);omega,?_,?_,?_,i4⟩
 ·simpa [aJ,Nat.add_assoc] using i1
 ·simpa [aJ,Nat.add_assoc] using i2
 ·simpa [aJ,Nat.add_assoc] using i3):p:=h
theorem Y37 {p:Prop} (h:p:=by
 try simp only [aD,go_sem]
 exact Z1):p:=h
theorem Y38 {p:Prop} (h:p:=by
 have o10:AV.lt Hc.nx (.slice (.own i10) 1 (U10 (k+1))):=cf (by omega) (U10L _ _)
 refine ⟨(k+1,false,Hc.set i10 (.buf 1 (k+1))),⟨by dsimp only;omega,cB hle (by omega),hcs2,by dsimp only;rw [aI,if_pos rfl,if_pos (by omega)],hR⟩,by dsimp only;omega,by (try simp only [zkq,zkv,zle,zlf]);omega,hIl.trans hle2,hcs2,by (simp [ltF,zlf,znn,znf,zng,ltZ,eb,o10,hst6,hst7,hst8,hst9,hst11];try omega),by simp [bg,wk2,wk1,wkM,Fr.get,fJ]⟩):p:=h
theorem Y39 {p:Prop} (h:p:=by
 simp only [k1,tfC] at hR
 subst hR
 try simp only [aD,go_sem,hcs,hne,hg,kD,cX,dz,dU,k1]
 exact Z1):p:=h
theorem Y40 {p:Prop} (h:p:=by
 rw [e]
 simp only [go_sem,bhq,Nat.reduceMod,Nat.reduceDiv,aW,aX,aZ,bx,aY,bw,bo,bp,bv,yaq,yar,yao,yap]
 simp (disch:=first|exact Zd|omega) [↓zmo,beq,ybc,ybd,ybe,ag,wk,wk2,wk1,wkM,wkL,ay,ybf,hcl2]
 first|exact aa ey|exact ⟨by repeat first|exact .refl _|refine .push ?_ _,aa ey⟩):p:=h
theorem Y41 {p:Prop} (h:p:=by
 exact ⟨(j+1,true),⟨om5,hR⟩,om5,en5 hcI⟩):p:=h
theorem Y42 {p:Prop} (h:p:=by
 rw [pR]
 try simp only [aD,go_sem]
 simp (disch:=first|exact Zd|omega) [↓zmo,beq,ybc,ybd,ybe,ag,wk,wk2,wk1,wkM,wkL,ay,ybf,hcl]
 first|done|repeat first|exact .refl _|refine .push ?_ _):p:=h
theorem Y43 {p:Prop} (h:p:=by
 exact ⟨(k+1,true),⟨om5,hR⟩,om5,en5 hcH⟩):p:=h
theorem Y44 {p:Prop} (h:p:=by
 clear hlt
 have hcs:=aM hg
 have hl:=glq hg
 have hne:(c=H.nx)=False:=eq_false (by omega)
 simp only [go_sem,hcs,hne]
 (repeat with_reducible refine Yq ?_)
 exact Z1):p:=h
theorem Y45 {p:Prop} (h:p:=by
 have o8:AV.lt Hc.nx (.slice (.own i8) 1 (U8 (k+1))):=cf (by omega) (U8L _ _)
 have o9:AV.lt Hc.nx (.slice (.own i9) 1 []):=cf (by omega) trivial
 have o10:AV.lt Hc.nx (.slice (.own i10) 1 []):=cf (by omega) trivial
 refine ⟨(k+1,false,Hc.set i8 (.buf 1 (k+1))),⟨by dsimp only;omega,cB hle (by omega),hcs2,by dsimp only;rw [aI,if_pos rfl,if_pos (by omega)],by dsimp only;rw [aI,if_neg (by omega)];exact g9,by dsimp only;rw [aI,if_neg (by omega)];exact g10,hR⟩,by dsimp only;omega,by (try simp only [zkq,zkv,zle,zlf]);omega,hIl.trans hle2,hcs2,by (simp [ltF,zlf,znn,znf,zng,ltZ,eb,o8,o9,o10,hst6,hst7,hst11];try omega),by simp [bg,wk2,wk1,wkM,Fr.get,fJ]⟩):p:=h
theorem Y46 {p:Prop} (h:p:=by
 have hk':k=x.length:=by simp at hc;omega
 subst hk'
 rw [List.take_length]
 unfold swH at hend ⊢
 dsimp only at hend ⊢
 simp only [go_sem,byq,swC,hne,hneq,n1,n2,hcs,hcm,hA,hB,eh,hi0,hb0,lV] at hend ⊢
 (repeat with_reducible refine And.intro (by first|assumption|decide|omega|exact ⟨by omega,by omega⟩|exact ⟨by omega,by omega,by omega⟩) ?_)
 rw [lAq] at hend
 simp (disch:=first|exact Zd|omega) [↓zmo,beq,ybc,ybd,ybe,ag,wk,wk2,wk1,wkM,wkL,ay,ybf,hend,lAq]
 first|done|exact hend|simpa using hend):p:=h
theorem Y47 {p:Prop} (h:p:=by
 try (repeat with_reducible refine aq ?_)
 exact bC J false (by rw [Bool.false_and] at hR ⊢;exact hR) (en5 hcJ)):p:=h
theorem Y48 {p:Prop} (h:p:=by
 clear hlt
 simp only [go_sem,cj]
 exact Z17):p:=h
theorem Y49 {p:Prop} (h:p:=by
 rename_i hc
 have hlt:=j5 hc
 rcases fy hr with ⟨q,e,rfl⟩|⟨b,p1,t1,e,e2⟩
 ·obtain ⟨m1,m2⟩:=h _ _ _ _ e hg trivial (by omega);exact ⟨m1,by omega⟩
 ·cases e2
  obtain ⟨k1,k2,k3,k4,k5,k6⟩:=h _ _ _ _ e hg trivial (by omega)
  simp only [Rl.isL,Bool.false_eq_true,if_false] at k4
  exact ⟨by simp,k2,by simp;omega,by simp [Rl.isL];omega,k5.snoc ⟨by simp [nd2],by simp [nd2]⟩ (show (0:Nat)<2^128 by decide) (.inr ⟨by simp only [nd2];omega,by simp only [nd2];omega⟩),by simp;omega⟩):p:=h
theorem Y50 {p:Prop} (h:p:=by
 simp only [aD,go_sem,hR]
 exact Z1):p:=h
theorem Y51 {p:Prop} (h:p:=by
 try (repeat with_reducible refine Yq ?_)
 exact Z13):p:=h
theorem Y52 {p:Prop} (h:p:=by
 simp (disch:=first|exact Zd|omega) [↓zmo,beq,List.take_of_length_le,List.drop_append,List.take_append,ag,wk,wk2,wk1,wkM,wkL,ay,List.drop_eq_nil_of_le,hcl]
 first|done|repeat first|exact .refl _|refine .push ?_ _):p:=h
theorem Y53 {p:Prop} (h:p:=by
 try (repeat with_reducible refine aq ?_)
 exact bC J false (by rw [cd,Bool.true_and] at hR;exact hR) (en5 hcJ)):p:=h
theorem Y54 {p:Prop} (h:p:=by
 try (repeat with_reducible refine aq ?_)
 exact bC J true (by rw [cd,Bool.true_and] at hR;exact hR) (en5 hcJ)):p:=h
theorem Y55 {p:Prop} (h:p:=by
 simp [ltF,zle,znn,znf,znh,lt_bys]
 try omega):p:=h
theorem Y56 {p:Prop} (h:p:=by
 have h1:=bG (i:=H.nx+1+1) (cs:=swC (H.nx+1+1+1) [] false false false) (bc (a:=1) (b:=0) (ah (cs:=[]) (bc (a:=1) (b:=0) (ah (cs:=aR x) hcl (by have:=sF (n:=H.nx+1) x;simp only [eE,znr] at this;exact this))) trivial)) (by simp only [swC,znu,znv,zng,and_true,zle];rw [cC];exact ⟨fun id h=>(by cases h;omega),trivial⟩)
 simp only [go_sem] at h1
 rw [hHB];exact h1):p:=h
theorem Y57 {p:Prop} (h:p:=by
 obtain ⟨m1,m2⟩:=h _ _ _ _ e hg trivial (by omega);exact ⟨m1,by omega⟩):p:=h
theorem Y58 {p:Prop} (h:p:=by
 refine ⟨hl,?_⟩
 generalize dm s=b0 at *
 subst hR
 cases b0<;>cases b1<;>cases b2<;>cases b3<;>(simp only [aD,go_sem,d1,d2,d3,Bool.not_not,Bool.not_true,Bool.not_false,Bool.and_self,Bool.and_true,Bool.true_and,Bool.and_false,Bool.false_and];try simp (disch:=first|exact Zd|omega) [↓zmo,beq,ybc,ybd,ybe,ag,wk,wk2,wk1,wkM,wkL,ay,ybf,hcl])):p:=h
theorem Y59 {p:Prop} (h:p:=by
 split at hh
 ·obtain ⟨ts,id,sn,st,g,⟨h1,h2,h3,h4,h5⟩,h6⟩:=hh
  rw [h1]
  exact ⟨_,_,h6,h av sz rfl rfl _ ts id sn st g _ _ _ _ h2 h3 h4 h5⟩
 ·exact hh.elim):p:=h
theorem Y60 {p:Prop} (h:p:=by
 have hk':k=a.params.length:=by simp at hc;omega
 subst hk'
 have hf:yH (a.params.drop a.params.length) (vs.drop a.params.length)=true:=by
  rw [List.drop_length,← hlen,List.drop_length];rfl
 rw [hf] at hR
 subst hR
 simp only [bm,aD,bhq,Nat.reduceMod,Nat.reduceDiv,aW,aX,aZ,bx,aY,bw,bo,bp,bv,yaq,yar,yao,yap,go_sem]
 exact Z1):p:=h
theorem Y61 {p:Prop} (h:p:=by
 simp only [Nat.add_assoc,Nat.reduceAdd] at i1 i2 i3 h1 h2
 simp only [fB,Nat.add_assoc,Nat.reduceAdd,hb,ci,h1,h2,if_true,if_false,pH]
 rw [i1]
 exact ⟨rfl,c,i2,i3⟩):p:=h
theorem Y62 {p:Prop} (h:p:=by
 skip
 replace hR:=ndL hk' hR
 subst hk'
 rw [hE,Bool.and_true] at hR
 subst hR
 try simp only [go_sem]
 exact Z1):p:=h
theorem Y63 {p:Prop} (h:p:=by
 try (repeat with_reducible refine aq ?_)
 exact Z13):p:=h
theorem Y64 {p:Prop} (h:p:=by
 simp only [go_sem,hgk,ek]
 try (repeat with_reducible refine aq ?_)
 exact ⟨(k+1,false),⟨om5,by rw [Bool.false_and] at hR ⊢;exact hR⟩,om5,en5 hcH⟩):p:=h
theorem Y65 {p:Prop} (h:p:=by
 refine ⟨(j+1,false,n+btF S y),⟨by dsimp only;omega,by dsimp only;omega,by dsimp only;push_cast;omega,hM,hR⟩,by dsimp only;omega,?_⟩
 exact en5 hcI):p:=h
theorem Y66 {p:Prop} (h:p:=by
 simp (disch:=first|exact Zd|omega) [↓zmo,beq,ybc,ybd,ybe,ag,wk,wk2,wk1,wkM,wkL,ay,ybf,hcl9,lAq]
 first|done|exact hcl9|simpa using hcl9):p:=h
theorem Y67 {p:Prop} (h:p:=by
 simp only [k1,k2,tfC] at hR
 subst hR
 try simp only [aD,go_sem,hcs,hne,hg,inL,eL,hY,bF,dU,dz,br,k1,k2]
 exact Z1):p:=h
theorem Y68 {p:Prop} (h:p:=by
 unfold AHeap.set;congr 1;funext j;dsimp only;by_cases h1:j=id<;>simp [h1]):p:=h
theorem Y69 {p:Prop} (h:p:=by
 split at hh
 ·obtain ⟨ts,q,⟨h1,h2,h3⟩,h4⟩:=hh
  rw [h1]
  exact ⟨_,h4,h av sz rfl rfl _ ts q _ _ _ _ h2 h3⟩
 ·exact hh.elim):p:=h
theorem Y70 {p:Prop} (h:p:=by
 rw [hE,Bool.and_true] at hR
 subst hR
 try simp only [go_sem]
 exact Z3):p:=h
theorem Y71 {p:Prop} (h:p:=by
 try simp only [go_sem,ek]
 exact ⟨(k+1,dm x.name),⟨om5,by rw [Bool.true_and,Bool.and_assoc] at hR;exact hR⟩,om5,en5 hcH⟩):p:=h
theorem Y72 {p:Prop} (h:p:=by
 rw [dfq hlen,Bool.false_and] at hR
 subst hR
 have dl:((vs.length:Int) != (a.params.length:Int))=true:=by simp;omega
 simp only [bm,aD,bhq,Nat.reduceMod,Nat.reduceDiv,aW,aX,aZ,bx,aY,bw,bo,bp,bv,yaq,yar,yao,yap,go_sem,ybb,dl]
 exact Z1):p:=h
theorem Y73 {p:Prop} (h:p:=by
 induction l with
 |nil=>rfl
 |cons v l ih =>
  unfold dT at ih ⊢
  rw [yae,jC,ih,List.contains_cons]
  by_cases h:v=x
  ·subst h;simp [feq,pZ]
  ·have h':(x==v)=false:=by simp;exact fun e=>h e.symm
   rw [h',Bool.false_or]
   simp [feq,pZ,h]):p:=h
theorem Y74 {p:Prop} (h:p:=by
 simp only [j6,lAq,yaz,yba]
 repeat first|exact .refl _|refine .push ?_ _):p:=h
theorem Y75 {p:Prop} (h:p:=by
 exact ⟨(j+1,false),⟨om5,hR⟩,om5,en5 hcT (d:=by (simp [ltF,zle,znn,znf,zng,aa gD,aa fA,aa ey,aa iU,aa iC,aa fH,aa eP,aa j3,aa cS,aa gX,aa fV,aa gM,aa iJ,kS,fD,htm,hrm,hlo _ _ (Nat.lt_succ_of_lt hlnx)];try omega))⟩):p:=h
theorem Y76 {p:Prop} (h:p:=by
 exact ⟨(j+1,true),⟨om5,hR⟩,om5,en5 hcT (d:=by (simp [ltF,zle,znn,znf,zng,aa gD,aa fA,aa ey,aa iU,aa iC,aa fH,aa eP,aa j3,aa cS,aa gX,aa fV,aa gM,aa iJ,kS,fD,htm,hrm,hlo _ _ (Nat.lt_succ_of_lt hlnx)];try omega))⟩):p:=h
theorem Y77 {p:Prop} (h:p:=by
 simp [ltF,zlf,znn,znf,znh,zms]
 omega):p:=h
theorem Y78 {p:Prop} (h:p:=by
 refine en5 hcH (d:=?_)
 simp [ltF,zle,znn,znf,zng,ltZ,znr,hLD]
 try omega):p:=h
theorem Y79 {p:Prop} (h:p:=by
 rw [AV.lt]
 exact ⟨fun id e=>by cases e;exact h,fun j hj=>by simp only [inL,List.getElem_map,znf]⟩):p:=h
theorem Y80 {p:Prop} (h:p:=by
 unfold a8;rw [AHeap.get_set_ne _ _ hnn]):p:=h
theorem Y81 {p:Prop} (h:p:=by
 exact ⟨(j+1,false),⟨om5,hR⟩,om5,en5 hcH (d:=by (simp [ltF,zle,znn,znf,zng,aa gD,aa fA,aa ey,aa iU,aa iC,aa fH,aa eP,aa j3,aa cS,aa gX,aa fV,aa gM,aa iJ,kS,fD,znr,hLD];try omega))⟩):p:=h
theorem Y82 {p:Prop} (h:p:=by
 unfold a8;rw [AHeap.get_set_ne _ _ hnn,AHeap.get_set_same _ _ hid]):p:=h
theorem Y83 {p:Prop} (h:p:=by
 simp only [k1,k2,k3,k4,k5,k6,k7,k8,k9,tfC] at hR
 subst hR
 try simp only [aD,go_sem,br,b6,cr,bQ,bZ,gx,cD,cL,k1,k2,k3,k4,k5,k6,k7,k8,k9]
 exact Z1):p:=h
theorem Y84 {p:Prop} (h:p:=by
 simp only [k1,k2,k3,k4,k5,k6,k7,k8,tfC] at hR
 subst hR
 try simp only [aD,go_sem,cP,hb1,hb2,b6,cr,bQ,bZ,cD,cL,k1,k2,k3,k4,k5,k6,k7,k8]
 exact Z1):p:=h
theorem Y85 {p:Prop} (h:p:=by
 simp only [c1,c6,c7,cd,co,k1,k2,k3,tfC] at hR
 subst hR
 simp only [go_sem,bA,eQ,fu,fp,eu,eB,Bool.bne_false,c1,c6,c7,cd,co,k1,k2,k3]
 exact Z1):p:=h
theorem Y86 {p:Prop} (h:p:=by
 simp only [go_sem,iNq,gf,zE,g1,g2,Nat.mul_one,nzq,j0,st,e0]
 (repeat with_reducible refine Yq ?_)
 refine ⟨i+1,by omega,by omega,?_⟩
 exact Z2):p:=h
theorem Y87 {p:Prop} (h:p:=by
 simp only [c1,c6,cd,co,k1,k2,k3,tfC] at hR
 subst hR
 simp only [go_sem,bA,eQ,fu,fp,eu,eB,Bool.bne_false,c1,c6,cd,co,k1,k2,k3]
 exact Z1):p:=h
theorem Y88 {p:Prop} (h:p:=by
 simp only [c1,c6,c7,co,k1,k2,k3,tfC] at hR
 subst hR
 simp only [go_sem,bA,eQ,fu,fp,eu,eB,Bool.bne_false,c1,c6,c7,co,k1,k2,k3]
 exact Z1):p:=h
theorem Y89 {p:Prop} (h:p:=by
 refine ⟨S,⟨rfl,hS.tl⟩,?_⟩
 simp only [aD,go_sem,j1,gb,gkb,iNq,ybb,wH]
 refine ⟨⟨by omega,by omega⟩,⟨by omega,by omega⟩,?_⟩
 exact Z1):p:=h
theorem Y90 {p:Prop} (h:p:=by
 simp only [aD,go_sem,hR']
 exact Z1):p:=h
theorem Y91 {p:Prop} (h:p:=by
 refine eH (fun h1=>?_) (fun h1=>?_)
 all_goals
  subst h1
  simp (disch:=first|exact Zd|omega) [↓zmo,beq,ybc,ybd,ybe,ag,wk,wk2,wk1,wkM,wkL,ay,ybf,byq,hcl]
  omega):p:=h
theorem Y92 {p:Prop} (h:p:=by
 rw [← h0]
 by_cases h:r.toKey<(b.keys.length:Int)
 ·rw [dtq h,dfq (by omega)];rfl
 ·rw [dfq h,dtq (by omega)];rfl):p:=h
theorem Y93 {p:Prop} (h:p:=by
 exfalso
 unfold fm at hany
 rw [List.any_eq_true] at hany
 obtain ⟨y,hy,hy2⟩:=hany
 exact absurd hy2 (by have:=List.find?_eq_none.1 f3 y hy;simpa using this)):p:=h
theorem Y94 {p:Prop} (h:p:=by
 have e:iP n w=[]:=by unfold iP;rw [if_neg (by omega)]
 simp (disch:=first|exact Zd|omega) [↓zmo,beq,ybc,ybd,ybe,ag,wk,wk2,wk1,wkM,wkL,ay,ybf,byq,e,hcl]
 omega):p:=h
theorem Y95 {p:Prop} (h:p:=by
 simp only [o1,o2,o3,o4,o5,k2,k3,x3,tfC] at hR
 subst hR
 try simp only [aD,go_sem,bF,br,ybb,o1,o2,o3,o4,o5,k2,k3,x3]
 exact Z1):p:=h
theorem Y96 {p:Prop} (h:p:=by
 simp only [go_sem,hgj,ej]
 try (repeat with_reducible refine aq ?_)
 exact ⟨(j+1,false),⟨om5,by rw [Bool.false_and] at hR ⊢;exact hR⟩,om5,en5 hcI⟩):p:=h
theorem Y97 {p:Prop} (h:p:=by
 rw [← hR];show _=(bk&&((((x.keys.all fun k=>bz S k.field)&&((x.actions.all fun a=>fm S a)&&x.actions.contains x.dflt))&&_)&&_));simp only [Bool.and_assoc]):p:=h
theorem Y98 {p:Prop} (h:p:=by
 subst hR
 simp only [bm,aD,bhq,Nat.reduceMod,Nat.reduceDiv,aW,aX,aZ,bx,aY,bw,bo,bp,bv,yaq,yar,yao,yap,go_sem,c0,c1,c2,c3,c4,c5,c6,c7,c8,dn1,dn2]
 exact Z1):p:=h
theorem Y99 {p:Prop} (h:p:=by
 refine en5 hcH (d:=?_)
 simp [ltF,zle,znn,znf,zng,aa gD,aa fA,aa ey,aa iU,aa iC,aa fH,aa eP,aa j3,aa cS,aa gX,aa fV,aa gM,aa iJ,kS,fD,znr,hLD]
 try omega):p:=h
theorem Y100 {p:Prop} (h:p:=by
 simp only [o1,o2,o3,o4,o5,k2,x2,tfC] at hR
 subst hR
 try simp only [aD,go_sem,bF,br,ybb,o1,o2,o3,o4,o5,k2,x2]
 exact Z1):p:=h
theorem Y101 {p:Prop} (h:p:=by
 simp only [o1,o2,o3,d1,k2,k3,x3,tfC] at hR
 subst hR
 try simp only [aD,go_sem,bF,br,ybb,o1,o2,o3,d1,k2,k3,x3]
 exact Z1):p:=h
theorem Y102 {p:Prop} (h:p:=by
 simp only [k1,k2,k3,tfC] at hR
 subst hR
 try simp only [aD,go_sem,hcs,hne,hg,inL,eL,hY,bF,dU,dz,br,k1,k2,k3]
 exact Z1):p:=h
theorem Y103 {p:Prop} (h:p:=by
 exact bC J false hR (en5 hcI)):p:=h
theorem Y104 {p:Prop} (h:p:=by
 subst hR
 try simp only [go_sem,hPE,jM,dn1,dn2,eA,eD,eK,eX,dV,eV,eY,dW,dX,d7,dZ,eR,eU,eT,fQ,c0,c1,c2,c3,c4,k1,k2,c6,w1,w2,w3,ib,pr,ybb,ad]
 exact Z1):p:=h
theorem Y105 {p:Prop} (h:p:=by
 simp only [h0,h1,s0,s1,n1,k1,tfC] at hR
 subst hR
 try simp only [aD,go_sem,bF,br,fM,cX,h0,h1,s0,s1,n1,k1]
 exact Z1):p:=h
theorem Y106 {p:Prop} (h:p:=by
 simp only [o1,o2,o3,o4,o5,d2,tfC] at hR
 subst hR
 try simp only [aD,go_sem,bF,br,ybb,o1,o2,o3,o4,o5,d2]
 exact Z1):p:=h
theorem Y107 {p:Prop} (h:p:=by
 simp only [o1,o2,o3,d1,k2,x2,tfC] at hR
 subst hR
 try simp only [aD,go_sem,bF,br,ybb,o1,o2,o3,d1,k2,x2]
 exact Z1):p:=h
theorem Y108 {p:Prop} (h:p:=by
 simp only [o1,o2,d1,k2,k3,x3,tfC] at hR
 subst hR
 try simp only [aD,go_sem,bF,br,ybb,o1,o2,d1,k2,k3,x3]
 exact Z1):p:=h
theorem Y109 {p:Prop} (h:p:=by
 simp [ltF,j6,znn,znf,zle,zlf,aa cS]
 omega):p:=h
theorem Y110 {p:Prop} (h:p:=by
 have:=h _ _ _ _ e hg trivial hp;exact this):p:=h
theorem Y111 {p:Prop} (h:p:=by
 simp only [h0,s0,s1,n1,k1,tfC] at hR
 subst hR
 try simp only [aD,go_sem,bF,br,fM,cX,h0,s0,s1,n1,k1]
 exact Z1):p:=h
theorem Y112 {p:Prop} (h:p:=by
 simp only [h0,h1,s0,n1,k1,tfC] at hR
 subst hR
 try simp only [aD,go_sem,bF,br,fM,cX,h0,h1,s0,n1,k1]
 exact Z1):p:=h
theorem Y113 {p:Prop} (h:p:=by
 simp only [o1,o2,o3,o4,d2,tfC] at hR
 subst hR
 try simp only [aD,go_sem,bF,br,ybb,o1,o2,o3,o4,d2]
 exact Z1):p:=h
theorem Y114 {p:Prop} (h:p:=by
 simp only [o1,o2,d1,k2,x2,tfC] at hR
 subst hR
 try simp only [aD,go_sem,bF,br,ybb,o1,o2,d1,k2,x2]
 exact Z1):p:=h
theorem Y115 {p:Prop} (h:p:=by
 simp only [o1,d1,k2,k3,x3,tfC] at hR
 subst hR
 try simp only [aD,go_sem,bF,br,ybb,o1,d1,k2,k3,x3]
 exact Z1):p:=h
theorem Y116 {p:Prop} (h:p:=by
 try simp only [bm,go_sem,hne2]
 exact Z12):p:=h
theorem Y117 {p:Prop} (h:p:=by
 rw [if_pos (c:=(!(o.contains x))=true) (by simp [hx])]
 split
 ·simp only [List.length_cons];omega
 ·simp only [List.length_cons];omega):p:=h
theorem Y118 {p:Prop} (h:p:=by
 simp only [h0,s0,n1,k1,tfC] at hR
 subst hR
 try simp only [aD,go_sem,bF,br,fM,cX,h0,s0,n1,k1]
 exact Z1):p:=h
theorem Y119 {p:Prop} (h:p:=by
 simp (disch:=first|exact Zd|omega) [↓zmo,beq,ybc,ybd,ybe,ag,wk,wk2,wk1,wkM,wkL,ay,ybf,hcl1]
 first|done|exact hcl1|simpa using hcl1):p:=h
theorem Y120 {p:Prop} (h:p:=by
 have ek:=ek5 k
 try simp only [go_sem,hgk,ek,ib]
 try (repeat with_reducible refine aq ?_)
 exact ⟨k+1,by omega,by omega,en5 hcH⟩):p:=h
theorem Y121 {p:Prop} (h:p:=by
 simp only [o1,d1,k2,x2,tfC] at hR
 subst hR
 try simp only [aD,go_sem,bF,br,ybb,o1,d1,k2,x2]
 exact Z1):p:=h
theorem Y122 {p:Prop} (h:p:=by
 cases hr;exact ⟨hro,hp,by omega,by simp [Rl.isL],hg,nrq _⟩):p:=h
theorem Y123 {p:Prop} (h:p:=by
 simp only [k1,k2,k3,tfC] at hR
 subst hR
 try simp only [aD,go_sem,kx,eL,gA,inL,k1,k2,k3]
 exact Z1):p:=h
theorem Y124 {p:Prop} (h:p:=by
 rename_i hc;rw [if_pos hc];exact h1 (h _ _ _) (fun a p t r h2=>h2) hr):p:=h
theorem Y125 {p:Prop} (h:p:=by
 have:=lQ (b:=b) (v:=u) (n:=n) h1
 rw [wrap_i64 (by omega) (by omega)]):p:=h
theorem Y126 {p:Prop} (h:p:=by
 try simp only [go_sem,ej]
 exact ⟨(j+1,iR y.name),⟨om5,by rw [Bool.true_and,Bool.and_assoc] at hR;exact hR⟩,om5,en5 hcI⟩):p:=h
theorem Y127 {p:Prop} (h:p:=by
 simp [ltF,znn,znp,znf,znh,cC,znu,znv,zlf]
 omega):p:=h
theorem Y128 {p:Prop} (h:p:=by
 simp [ltF,zle,znn,znf,aa fH,u0,hm,fD]
 try omega):p:=h
theorem Y129 {p:Prop} (h:p:=by
 simp only [AHeap.set]
 congr 1
 funext j
 by_cases hj:j=i2
 ·simp [hj]
 ·by_cases hj1:j=i1
  ·simp [hj1]
  ·simp [hj,hj1]):p:=h
theorem Y130 {p:Prop} (h:p:=by
 simp only [c1,c2,c3,c4,tfC] at hR
 subst hR
 try simp only [go_sem,gA,c1,c2,c3,c4]
 exact Z14):p:=h
theorem Y131 {p:Prop} (h:p:=by
 clear hlt
 simp only [bm,aD,bhq,Nat.reduceMod,Nat.reduceDiv,aW,aX,aZ,bx,aY,bw,bo,bp,bv,yaq,yar,yao,yap,go_sem,bA]
 exact Z1):p:=h
theorem Y132 {p:Prop} (h:p:=by
 simp [ltF,znf,znn,zle,hF]
 try omega):p:=h
theorem Y133 {p:Prop} (h:p:=by
 rw [← hfin _ (show decide ((c.toNat:Int) > 126)=_ by simp [lF,d1])]
 repeat first|exact .refl _|refine .push ?_ _):p:=h
theorem Y134 {p:Prop} (h:p:=by
 have hR':R=true:=by rw [← hR];rfl
 subst hR'
 have hne:((c::r) != [])=true:=rfl
 simp only [go_sem,hne]
 exact Z1):p:=h
theorem Y135 {p:Prop} (h:p:=by
 try simp only [go_sem,c1]
 exact Z1):p:=h
theorem Y136 {p:Prop} (h:p:=by
 have:=xm (q:=oJ (kh S.refs) (fE S) (ixT S)) (n:=S.tables.length) S.tables.length (o:=[])
 simpa [l8] using this):p:=h
theorem Y137 {p:Prop} (h:p:=by
 simp only [c1,c2,tfC] at hR
 subst hR
 simp only [go_sem,ybb,OG,c1,c2]
 exact Z1):p:=h
theorem Y138 {p:Prop} (h:p:=by
 rw [Int.tdiv_eq_ediv_of_nonneg (by omega),wrap_i64]<;>omega):p:=h
theorem Y139 {p:Prop} (h:p:=by
 simp only [k1,tfC] at hR
 subst hR
 try simp only [aD,go_sem,cL,k1]
 exact Z1):p:=h
theorem Y140 {p:Prop} (h:p:=by
 exact leaf _ _ (show 1≤3 by decide) (nrq 3) (show (0:Nat)<2^128 by decide) (by omega) (by omega)):p:=h
theorem Y141 {p:Prop} (h:p:=by
 simp (disch:=first|exact Zd|omega) [↓zmo,beq,ybc,ybd,ybe,ag,wk,wk2,wk1,wkM,wkL,ay,ybf,byq]
 exact hl0):p:=h
theorem Y142 {p:Prop} (h:p:=by
 rw [hq,Bool.true_or,Bool.not_true,Bool.false_and] at hR
 subst hR
 try simp only [go_sem,hq]
 exact Z1):p:=h
theorem Y143 {p:Prop} (h:p:=by
 simp only [c1,tfC] at hR
 subst hR
 simp only [go_sem,c1]
 exact Z1):p:=h
theorem Y144 {p:Prop} (h:p:=by
 rw [← hL'] at hE
 have:=congrArg (fun z=>z.map Prod.fst) hE
 simp at this
 exact this):p:=h
theorem Y145 {p:Prop} (h:p:=by
 simp [ltF,znf,znn,znp,zle,fD,aa iJ]
 try omega):p:=h
theorem Y146 {p:Prop} (h:p:=by
 rw [← hfin true (by simp [lF,d1])]
 repeat first|exact .refl _|refine .push ?_ _):p:=h
theorem Y147 {p:Prop} (h:p:=by
 rw [dtq (by exact ⟨by omega,h'⟩),dfq (by omega)];rfl):p:=h
theorem Y148 {p:Prop} (h:p:=by
 rename_i hc;rw [if_pos hc];exact h1 (h _ _ _) (fun a p t r h2=>h _ _ _ _ h2) hr):p:=h
theorem Y149 {p:Prop} (h:p:=by
 obtain ⟨m1,m2⟩:=h _ _ _ _ e3 k5 trivial (by omega);exact ⟨m1,by omega⟩):p:=h
theorem Y150 {p:Prop} (h:p:=by
 simp [bg,wk2,wk1,wkM,Fr.get,fJ]):p:=h
theorem Y151 {p:Prop} (h:p:=by
 rw [hHB]
 exact ⟨by simp [zlh,zle,zll,swC,enc0],by simp [zlh,zle,enc0]⟩):p:=h
theorem Y152 {p:Prop} (h:p:=by
 rw [← hfin true (by simp)]
 repeat first|exact .refl _|refine .push ?_ _):p:=h
theorem Y153 {p:Prop} (h:p:=by
 exact leaf _ _ (by decide) (by decide) (by decide) (by omega) (by omega)):p:=h
structure HdTq (q:Prop):Prop where
 h:q
theorem Tq0 {p q:Prop} (h:q) (f:HdTq q→p:=by
 intro hZq
 try (repeat with_reducible refine aq ?_)
 exact hZq.h):p:=f ⟨h⟩
theorem Tq1 {p q:Prop} (h:q) (f:HdTq q→p:=by
 intro hZq
 try simp only [go_sem,hcw,hcI,swC,aR,ak,hnB,ybb,bS,bT,bX,bP,bR,bV,bW,bY,bU,bO,bL,bN,bM,AV.cells,ap,bb,aG,aJ,az,ba,aL,aT,a9,aN,aO,aA,ax,vc,inL,boL,ak]
 exact hZq.h):p:=f ⟨h⟩
theorem Tq2 {p q:Prop} (h:q) (f:HdTq q→p:=by
 intro hZq
 try simp only [go_sem,ax,inL,boL,vc,bS,bT,bX,bP,bR,bV,bW,bY,bU,bO,bL,bN,bM,AV.cells,ap,bb,aG,aJ,az,ba,aL,aT,a9,aN,aO,aA,ybb,zle,ak]
 exact hZq.h):p:=f ⟨h⟩
theorem Tq3 {p q:Prop} (h:q) (f:HdTq q→p:=by
 intro hZq
 (repeat with_reducible refine Yq ?_)
 exact hZq.h):p:=f ⟨h⟩
theorem Tq4 {p q:Prop} (h:q) (f:HdTq q→p:=by
 intro hZq
 try (repeat with_reducible refine Yq ?_)
 exact hZq.h):p:=f ⟨h⟩
theorem Tq5 {p q:Prop} (h:q) (f:HdTq q→p:=by
 intro hZq
 try simp only [go_sem,ap,inL,boL,vc,bS,bT,bX,bP,bR,bV,bW,bY,bU,bO,bL,bN,bM,AV.cells,bb,aG,aJ,az,ba,aL,aT,a9,aN,aO,aA,ax,ybb,zle,ak]
 exact hZq.h):p:=f ⟨h⟩
theorem Tq6 {p q:Prop} (h:q) (f:HdTq q→p:=by
 intro hZq
 try simp only [go_sem,aN,inL,boL,vc,bS,bT,bX,bP,bR,bV,bW,bY,bU,bO,bL,bN,bM,AV.cells,ap,bb,aG,aJ,az,ba,aL,aT,a9,aO,aA,ax,ybb,zle,ak]
 exact hZq.h):p:=f ⟨h⟩
theorem Tq7 {p q:Prop} (h:q) (f:HdTq q→p:=by
 intro hZq
 try simp only [go_sem,eE,aR,inL,boL,vc,hG,bS,bT,bX,bP,bR,bV,bW,bY,bU,bO,bL,bN,bM,AV.cells,ap,bb,aG,aJ,az,ba,aL,aT,a9,aN,aO,aA,ax,ybb,zle,ak]
 exact hZq.h):p:=f ⟨h⟩
theorem Tq8 {p q:Prop} (h:q) (f:HdTq q→p:=by
 intro hZq
 try simp only [go_sem,hcw,hcI,swC,aR,iNq,ybb,hg1,a9,ak,hnB,ybb,bS,bT,bX,bP,bR,bV,bW,bY,bU,bO,bL,bN,bM,AV.cells,ap,bb,aG,aJ,az,ba,aL,aT,a9,aN,aO,aA,ax,vc,inL,boL,ak]
 exact hZq.h):p:=f ⟨h⟩
theorem Tq9 {p q:Prop} (h:q) (f:HdTq q→p:=by
 intro hZq
 try simp only [go_sem,eE,aR,inL,boL,vc,hG,bS,bT,bX,bP,bR,bV,bW,bY,bU,bO,bL,bN,bM,AV.cells,ap,bb,aG,aJ,az,ba,aL,aT,a9,aN,aO,aA,ax,ybb,zle,iNq,ybb,hg1,aA,ak]
 exact hZq.h):p:=f ⟨h⟩
theorem Tq10 {p q:Prop} (h:q) (f:HdTq q→p:=by
 intro hZq
 try simp only [bm,aD,bhq,Nat.reduceMod,Nat.reduceDiv,aW,aX,aZ,bx,aY,bw,bo,bp,bv,yaq,yar,yao,yap,go_sem,eZ,c0]
 exact hZq.h):p:=f ⟨h⟩
theorem Tq11 {p q:Prop} (h:q) (f:HdTq q→p:=by
 intro hZq
 simp only [bm,aD,bhq,Nat.reduceMod,Nat.reduceDiv,aW,aX,aZ,bx,aY,bw,bo,bp,bv,yaq,yar,yao,yap,go_sem,dn,cV,hg,hgc,cY hb,ep,cO,eN,hne,ll,c4,w8,w1,iNq]
 exact hZq.h):p:=f ⟨h⟩
theorem Tq12 {p q:Prop} (h:q) (f:HdTq q→p:=by
 intro hZq
 simp only [go_sem,oo,gText0,gText1,gText2,gText3,dn,hgd,hci,hsi,hsd,cY hb,ep,cO,eN,e3,gtx,c3',e4,show IntKind.i64.wrap 1=1 from by decide,iNq,zok,vU,Ev,fw,List.flatMap_cons,List.flatMap_nil,ax,AV.cells,yal,yak]
 exact hZq.h):p:=f ⟨h⟩
theorem Tq13 {p q:Prop} (h:q) (f:HdTq q→p:=by
 intro hZq
 try simp only [go_sem,ap,inL,boL,vc,bS,bT,bX,bP,bR,bV,bW,bY,bU,bO,bL,bN,bM,AV.cells,bb,aG,aJ,az,ba,aL,aT,a9,aN,aO,aA,ax,ybb,zle,iNq,ybb,hg1,aT,vc,ak]
 exact hZq.h):p:=f ⟨h⟩
theorem Tq14 {p q:Prop} (h:q) (f:HdTq q→p:=by
 intro hZq
 try simp only [go_sem,aN,inL,boL,vc,bS,bT,bX,bP,bR,bV,bW,bY,bU,bO,bL,bN,bM,AV.cells,ap,bb,aG,aJ,az,ba,aL,aT,a9,aO,aA,ax,ybb,zle,iNq,ybb,hg1,aJ,ak]
 exact hZq.h):p:=f ⟨h⟩
theorem Tq15 {p q:Prop} (h:q) (f:HdTq q→p:=by
 intro hZq
 simp only [go_sem]
 exact hZq.h):p:=f ⟨h⟩
theorem Tq16 {p q:Prop} (h:q) (f:HdTq q→p:=by
 intro hZq
 simp only [bm,aD,bhq,Nat.reduceMod,Nat.reduceDiv,aW,aX,aZ,bx,aY,bw,bo,bp,bv,yaq,yar,yao,yap,go_sem,aR]
 exact hZq.h):p:=f ⟨h⟩
theorem Tq17 {p q:Prop} (h:q) (f:HdTq q→p:=by
 intro hZq
 simp only [go_sem,hcw,hcI,swC,aR,ak,hnB,ybb,jY,jU,jX,jS,jQ,jT,jR,jZ]
 exact hZq.h):p:=f ⟨h⟩
theorem Tq18 {p q:Prop} (h:q) (f:HdTq q→p:=by
 intro hZq
 try simp only [bm,aD,bhq,Nat.reduceMod,Nat.reduceDiv,aW,aX,aZ,bx,aY,bw,bo,bp,bv,yaq,yar,yao,yap,go_sem,iK,c0]
 exact hZq.h):p:=f ⟨h⟩
theorem Tq19 {p q:Prop} (h:q) (f:HdTq q→p:=by
 intro hZq
 simp only [bm,aD,bhq,Nat.reduceMod,Nat.reduceDiv,aW,aX,aZ,bx,aY,bw,bo,bp,bv,yaq,yar,yao,yap,go_sem,eZ]
 exact hZq.h):p:=f ⟨h⟩
theorem Tq20 {p q:Prop} (h:q) (f:HdTq q→p:=by
 intro hZq
 simp only [bm,aD,bhq,Nat.reduceMod,Nat.reduceDiv,aW,aX,aZ,bx,aY,bw,bo,bp,bv,yaq,yar,yao,yap,go_sem]
 exact hZq.h):p:=f ⟨h⟩
theorem Tq21 {p q:Prop} (h:q) (f:HdTq q→p:=by
 intro hZq
 simp only [go_sem,bhq,Nat.reduceMod,Nat.reduceDiv,aW,aX,aZ,bx,aY,bw,bo,bp,bv,yaq,yar,yao,yap,dn,cV,hg,hgc,cY hb,ep,cO,eN,hne,e2,e3,e4,e6,a33,a16,List.set_cons_succ,List.set_cons_zero]
 exact hZq.h):p:=f ⟨h⟩
theorem Tq22 {p q:Prop} (h:q) (f:HdTq q→p:=by
 intro hZq
 try simp only [go_sem,eE,aR,inL,boL,vc,hG,bS,bT,bX,bP,bR,bV,bW,bY,bU,bO,bL,bN,bM,AV.cells,ap,bb,aG,aJ,az,ba,aL,aT,a9,aN,aO,aA,ax,ybb,zle,iNq,ybb,hg1,aA,iNq,ybb,hg2,bb,vc,ak]
 exact hZq.h):p:=f ⟨h⟩
theorem Tq23 {p q:Prop} (h:q) (f:HdTq q→p:=by
 intro hZq
 try simp only [bm,aD,bhq,Nat.reduceMod,Nat.reduceDiv,aW,aX,aZ,bx,aY,bw,bo,bp,bv,yaq,yar,yao,yap,go_sem,mB,c0]
 exact hZq.h):p:=f ⟨h⟩
theorem Tq24 {p q:Prop} (h:q) (f:HdTq q→p:=by
 intro hZq
 try simp only [bm,aD,bhq,Nat.reduceMod,Nat.reduceDiv,aW,aX,aZ,bx,aY,bw,bo,bp,bv,yaq,yar,yao,yap,go_sem,d0,d1]
 exact hZq.h):p:=f ⟨h⟩
theorem Tq25 {p q:Prop} (h:q) (f:HdTq q→p:=by
 intro hZq
 try simp only [go_sem,eE,aR,inL,boL,vc,hG,bS,bT,bX,bP,bR,bV,bW,bY,bU,bO,bL,bN,bM,AV.cells,ap,bb,aG,aJ,az,ba,aL,aT,a9,aN,aO,aA,ax,ybb,zle,iNq,ybb,hg1,az,ak]
 exact hZq.h):p:=f ⟨h⟩
theorem Tq26 {p q:Prop} (h:q) (f:HdTq q→p:=by
 intro hZq
 try simp only [go_sem,eE,aR,inL,boL,vc,hG,bS,bT,bX,bP,bR,bV,bW,bY,bU,bO,bL,bN,bM,AV.cells,ap,bb,aG,aJ,az,ba,aL,aT,a9,aN,aO,aA,ax,ybb,zle,iNq,ybb,hg1,aG,ak]
 exact hZq.h):p:=f ⟨h⟩
theorem Tq27 {p q:Prop} (h:q) (f:HdTq q→p:=by
 intro hZq
 try simp only [go_sem,ax,inL,boL,vc,bS,bT,bX,bP,bR,bV,bW,bY,bU,bO,bL,bN,bM,AV.cells,ap,bb,aG,aJ,az,ba,aL,aT,a9,aN,aO,aA,ybb,zle,iNq,ybb,hg1,ba,ak]
 exact hZq.h):p:=f ⟨h⟩
theorem Tq28 {p q:Prop} (h:q) (f:HdTq q→p:=by
 intro hZq
 try simp only [go_sem]
 exact hZq.h):p:=f ⟨h⟩
theorem Tq29 {p q:Prop} (h:q) (f:HdTq q→p:=by
 intro hZq
 simp only [go_sem,byq,swC,hne,hneq,n1,n2,hcs,hcm,hA,hB,eh,hi0,hb0,iNq,zlk,hg,bH,d1,e5]
 exact hZq.h):p:=f ⟨h⟩
theorem Tq30 {p q:Prop} (h:q) (f:HdTq q→p:=by
 intro hZq
 simp only [go_sem,ax,fS,kE,kp,inL,ak,bf]
 exact hZq.h):p:=f ⟨h⟩
theorem Tq31 {p q:Prop} (h:q) (f:HdTq q→p:=by
 intro hZq
 try simp only [aD,go_sem,hcs,hne,hg,inL,eL,hY,bF,dU,dz,br]
 exact hZq.h):p:=f ⟨h⟩
theorem Tq32 {p q:Prop} (h:q) (f:HdTq q→p:=by
 intro hZq
 try simp only [go_sem,ek,dw,du,cm,dd,hIoc,c1]
 exact hZq.h):p:=f ⟨h⟩
theorem Tq33 {p q:Prop} (h:q) (f:HdTq q→p:=by
 intro hZq
 try simp only [go_sem,hcw,hcI,swC,aR,iNq,ybb,hg1,aO,ak,hnB,ybb,bS,bT,bX,bP,bR,bV,bW,bY,bU,bO,bL,bN,bM,AV.cells,ap,bb,aG,aJ,az,ba,aL,aT,a9,aN,aO,aA,ax,vc,inL,boL,ak]
 exact hZq.h):p:=f ⟨h⟩
theorem Tq34 {p q:Prop} (h:q) (f:HdTq q→p:=by
 intro hZq
 try simp only [go_sem,hcw,hcI,swC,aR,ak,hnB,ybb,h1,h2,h3,d4,zlk]
 exact hZq.h):p:=f ⟨h⟩
theorem Tq35 {p q:Prop} (h:q) (f:HdTq q→p:=by
 intro hZq
 try simp only [go_sem,hgk,ek,aK,aF,aP,aU,bD,dD,hxF,hxH,hxT,hxA]
 exact hZq.h):p:=f ⟨h⟩
theorem Tq36 {p q:Prop} (h:q) (f:HdTq q→p:=by
 intro hZq
 try simp only [go_sem,hgj,ej,aK,aF,cq,hxF,hxH,o1,o2,o3,o4,o5]
 exact hZq.h):p:=f ⟨h⟩
theorem Tq37 {p q:Prop} (h:q) (f:HdTq q→p:=by
 intro hZq
 try simp only [go_sem,ek,dw,du,cm,dd,hIoc]
 exact hZq.h):p:=f ⟨h⟩
theorem Tq38 {p q:Prop} (h:q) (f:HdTq q→p:=by
 intro hZq
 try simp only [bm,aD,bhq,Nat.reduceMod,Nat.reduceDiv,aW,aX,aZ,bx,aY,bw,bo,bp,bv,yaq,yar,yao,yap,go_sem,aR,bA,bA,fq,b6,cr,bQ,bZ,cD,c0,c1,c2,c3,c4,c5,c6,c7]
 exact hZq.h):p:=f ⟨h⟩
theorem Tq39 {p q:Prop} (h:q) (f:HdTq q→p:=by
 intro hZq
 simp only [bm,aD,bhq,Nat.reduceMod,Nat.reduceDiv,aW,aX,aZ,bx,aY,bw,bo,bp,bv,yaq,yar,yao,yap,go_sem,dn,cV,hg,hgc,cY hb,ep,cO,eN,hne,hne2,e2,e256,a22,u256]
 exact hZq.h):p:=f ⟨h⟩
theorem Tq40 {p q:Prop} (h:q) (f:HdTq q→p:=by
 intro hZq
 try simp only [go_sem,ap,inL,boL,vc,bS,bT,bX,bP,bR,bV,bW,bY,bU,bO,bL,bN,bM,AV.cells,bb,aG,aJ,az,ba,aL,aT,a9,aN,aO,aA,ax,ybb,zle,iNq,ybb,hg1,aL,ak]
 exact hZq.h):p:=f ⟨h⟩
theorem Tq41 {p q:Prop} (h:q) (f:HdTq q→p:=by
 intro hZq
 simp only [go_sem,hgj,ej,nf2,hllV,hsnV]
 try simp only [go_sem,hllV,hsnV,nf2]
 exact hZq.h):p:=f ⟨h⟩
theorem Tq42 {p q:Prop} (h:q) (f:HdTq q→p:=by
 intro hZq
 try simp only [go_sem,hgj,ej,aK,aF,cq,hxF,hxH]
 exact hZq.h):p:=f ⟨h⟩
theorem Tq43 {p q:Prop} (h:q) (f:HdTq q→p:=by
 intro hZq
 try simp only [aD,go_sem,cP,gr,oZ,p2V,iv,iw,vb,wb,iNq,hyb,vv,jd,jb,lL,c1,c2]
 exact hZq.h):p:=f ⟨h⟩
theorem Tq44 {p q:Prop} (h:q) (f:HdTq q→p:=by
 intro hZq
 try simp only [bm,aD,bhq,Nat.reduceMod,Nat.reduceDiv,aW,aX,aZ,bx,aY,bw,bo,bp,bv,yaq,yar,yao,yap,go_sem,aR,fq,b6,bQ,bZ,cD,c0,c1,c2,c3,c4]
 exact hZq.h):p:=f ⟨h⟩
theorem Tq45 {p q:Prop} (h:q) (f:HdTq q→p:=by
 intro hZq
 try simp only [go_sem,hgk,ek]
 exact hZq.h):p:=f ⟨h⟩
theorem Tq46 {p q:Prop} (h:q) (f:HdTq q→p:=by
 intro hZq
 try simp only [bm,aD,bhq,Nat.reduceMod,Nat.reduceDiv,aW,aX,aZ,bx,aY,bw,bo,bp,bv,yaq,yar,yao,yap,go_sem,ybb,nW,inL,iK,bA,iK,c0,c1,c2]
 exact hZq.h):p:=f ⟨h⟩
theorem Tq47 {p q:Prop} (h:q) (f:HdTq q→p:=by
 intro hZq
 simp only [go_sem,hgk,ek,nf,hll,hsn]
 try simp only [go_sem,hll,hsn,nf]
 exact hZq.h):p:=f ⟨h⟩
theorem Tq48 {p q:Prop} (h:q) (f:HdTq q→p:=by
 intro hZq
 try simp only [bm,aD,bhq,Nat.reduceMod,Nat.reduceDiv,aW,aX,aZ,bx,aY,bw,bo,bp,bv,yaq,yar,yao,yap,go_sem,aR,bQ,bZ,cr,cL,c0,c1,c2,c3]
 exact hZq.h):p:=f ⟨h⟩
theorem Tq49 {p q:Prop} (h:q) (f:HdTq q→p:=by
 intro hZq
 simp only [go_sem,aN,lR,fS,inL,ak,bf]
 exact hZq.h):p:=f ⟨h⟩
theorem Tq50 {p q:Prop} (h:q) (f:HdTq q→p:=by
 intro hZq
 try simp only [go_sem,hgk,ek,cE,cm,dd,ck0]
 exact hZq.h):p:=f ⟨h⟩
theorem Tq51 {p q:Prop} (h:q) (f:HdTq q→p:=by
 intro hZq
 try simp only [bm,aD,bhq,Nat.reduceMod,Nat.reduceDiv,aW,aX,aZ,bx,aY,bw,bo,bp,bv,yaq,yar,yao,yap,go_sem,ybb,nW,inL,iK,iK,c0,c1]
 exact hZq.h):p:=f ⟨h⟩
theorem Tq52 {p q:Prop} (h:q) (f:HdTq q→p:=by
 intro hZq
 simp only [go_sem,ziw,ybb]
 exact hZq.h):p:=f ⟨h⟩
theorem Tq53 {p q:Prop} (h:q) (f:HdTq q→p:=by
 intro hZq
 try simp only [bm,aD,bhq,Nat.reduceMod,Nat.reduceDiv,aW,aX,aZ,bx,aY,bw,bo,bp,bv,yaq,yar,yao,yap,go_sem,ybb,nW,inL,iK,c0]
 exact hZq.h):p:=f ⟨h⟩
theorem Tq54 {p q:Prop} (h:q) (f:HdTq q→p:=by
 intro hZq
 try simp only [go_sem,hgj,ej,aK,aF,cq,hxF,hxH,c1]
 exact hZq.h):p:=f ⟨h⟩
theorem Tq55 {p q:Prop} (h:q) (f:HdTq q→p:=by
 intro hZq
 try simp only [go_sem,hgk,ek,aK,aF,aP,aU,bD,dD,hxF,hxH,hxT,hxA,c1]
 exact hZq.h):p:=f ⟨h⟩
theorem Tq56 {p q:Prop} (h:q) (f:HdTq q→p:=by
 intro hZq
 simp only [go_sem,byq]
 exact hZq.h):p:=f ⟨h⟩
theorem Tq57 {p q:Prop} (h:q) (f:HdTq q→p:=by
 intro hZq
 try simp only [go_sem,ek,dw,du,cm,dd,hIoc,c1,c2]
 exact hZq.h):p:=f ⟨h⟩
theorem Tq58 {p q:Prop} (h:q) (f:HdTq q→p:=by
 intro hZq
 try simp only [aD,go_sem,hcs,hne,hg,kD,cX,dz,dU]
 exact hZq.h):p:=f ⟨h⟩
theorem Tq59 {p q:Prop} (h:q) (f:HdTq q→p:=by
 intro hZq
 simp only [bhq,Nat.reduceMod,Nat.reduceDiv,aW,aX,aZ,bx,aY,bw,bo,bp,bv,yaq,yar,yao,yap,go_sem,zll,List.set_cons_zero]
 exact hZq.h):p:=f ⟨h⟩
theorem Tq60 {p q:Prop} (h:q) (f:HdTq q→p:=by
 intro hZq
 try simp only [bm,aD,bhq,Nat.reduceMod,Nat.reduceDiv,aW,aX,aZ,bx,aY,bw,bo,bp,bv,yaq,yar,yao,yap,go_sem,iK,pE,c0,c1]
 exact hZq.h):p:=f ⟨h⟩
theorem Tq61 {p q:Prop} (h:q) (f:HdTq q→p:=by
 intro hZq
 try simp only [bm,aD,bhq,Nat.reduceMod,Nat.reduceDiv,aW,aX,aZ,bx,aY,bw,bo,bp,bv,yaq,yar,yao,yap,go_sem,iK,nY,c0,c1]
 exact hZq.h):p:=f ⟨h⟩
theorem Tq62 {p q:Prop} (h:q) (f:HdTq q→p:=by
 intro hZq
 try simp only [bm,aD,bhq,Nat.reduceMod,Nat.reduceDiv,aW,aX,aZ,bx,aY,bw,bo,bp,bv,yaq,yar,yao,yap,go_sem,iK,iK,c0,c1]
 exact hZq.h):p:=f ⟨h⟩
theorem Tq63 {p q:Prop} (h:q) (f:HdTq q→p:=by
 intro hZq
 try simp only [bm,aD,bhq,Nat.reduceMod,Nat.reduceDiv,aW,aX,aZ,bx,aY,bw,bo,bp,bv,yaq,yar,yao,yap,go_sem,eZ,nY,c0,c1]
 exact hZq.h):p:=f ⟨h⟩
theorem Tq64 {p q:Prop} (h:q) (f:HdTq q→p:=by
 intro hZq
 try simp only [bm,aD,bhq,Nat.reduceMod,Nat.reduceDiv,aW,aX,aZ,bx,aY,bw,bo,bp,bv,yaq,yar,yao,yap,go_sem,eZ,kx,c0,c1]
 exact hZq.h):p:=f ⟨h⟩
theorem Tq65 {p q:Prop} (h:q) (f:HdTq q→p:=by
 intro hZq
 simp only [go_sem,iNq,ybb,hg',bH,e5,d1,d2,d0,d95,d3,d4,dn1,dn2]
 exact hZq.h):p:=f ⟨h⟩
theorem Tq66 {p q:Prop} (h:q) (f:HdTq q→p:=by
 intro hZq
 simp only [go_sem,e15]
 exact hZq.h):p:=f ⟨h⟩
theorem Tq67 {p q:Prop} (h:q) (f:HdTq q→p:=by
 intro hZq
 simp only [bm,aD,bhq,Nat.reduceMod,Nat.reduceDiv,aW,aX,aZ,bx,aY,bw,bo,bp,bv,yaq,yar,yao,yap,go_sem,dn1,dn2,e5]
 exact hZq.h):p:=f ⟨h⟩
theorem Tq68 {p q:Prop} (h:q) (f:HdTq q→p:=by
 intro hZq
 try simp only [bm,aD,bhq,Nat.reduceMod,Nat.reduceDiv,aW,aX,aZ,bx,aY,bw,bo,bp,bv,yaq,yar,yao,yap,go_sem,pE,c0]
 exact hZq.h):p:=f ⟨h⟩
theorem Tq69 {p q:Prop} (h:q) (f:HdTq q→p:=by
 intro hZq
 try simp only [bm,aD,bhq,Nat.reduceMod,Nat.reduceDiv,aW,aX,aZ,bx,aY,bw,bo,bp,bv,yaq,yar,yao,yap,go_sem,dz,c0]
 exact hZq.h):p:=f ⟨h⟩
theorem Tq70 {p q:Prop} (h:q) (f:HdTq q→p:=by
 intro hZq
 simp only [bm,aD,bhq,Nat.reduceMod,Nat.reduceDiv,aW,aX,aZ,bx,aY,bw,bo,bp,bv,yaq,yar,yao,yap,go_sem,dn1,dn2]
 exact hZq.h):p:=f ⟨h⟩
theorem Tq71 {p q:Prop} (h:q) (f:HdTq q→p:=by
 intro hZq
 try simp only [bm,aD,bhq,Nat.reduceMod,Nat.reduceDiv,aW,aX,aZ,bx,aY,bw,bo,bp,bv,yaq,yar,yao,yap,go_sem,d0]
 exact hZq.h):p:=f ⟨h⟩
theorem Tq72 {p q:Prop} (h:q) (f:HdTq q→p:=by
 intro hZq
 simp only [go_sem,iNq,ybb,hg',bH,e5,d1,d0,d95,d3,d4,dn1,dn2]
 exact hZq.h):p:=f ⟨h⟩
theorem Tq73 {p q:Prop} (h:q) (f:HdTq q→p:=by
 intro hZq
 simp only [bm,aD,bhq,Nat.reduceMod,Nat.reduceDiv,aW,aX,aZ,bx,aY,bw,bo,bp,bv,yaq,yar,yao,yap,go_sem,ybb,dl]
 exact hZq.h):p:=f ⟨h⟩
theorem Tq74 {p q:Prop} (h:q) (f:HdTq q→p:=by
 intro hZq
 simp only [go_sem,iNq,hgs,bH,e5,d1,d2,d0,d95,d3,d4,dn1,dn2]
 exact hZq.h):p:=f ⟨h⟩
theorem Tq75 {p q:Prop} (h:q) (f:HdTq q→p:=by
 intro hZq
 try simp only [go_sem,hcsc,hneH,ybb]
 exact hZq.h):p:=f ⟨h⟩
theorem Tq76 {p q:Prop} (h:q) (f:HdTq q→p:=by
 intro hZq
 simp only [bm,aD,bhq,Nat.reduceMod,Nat.reduceDiv,aW,aX,aZ,bx,aY,bw,bo,bp,bv,yaq,yar,yao,yap,go_sem,mB]
 exact hZq.h):p:=f ⟨h⟩
theorem Tq77 {p q:Prop} (h:q) (f:HdTq q→p:=by
 intro hZq
 try simp only [go_sem,hgc,hcs1,hne1,hnb,fG,ge,gN,ia,iV,jy,mh,ij,bZ,cD,c0,c1,c2,c3,c4,c5,c6,c7,c8,c9]
 exact hZq.h):p:=f ⟨h⟩
theorem Tq78 {p q:Prop} (h:q) (f:HdTq q→p:=by
 intro hZq
 try simp only [go_sem,hgj,ej,cE,cm,dd,cj0]
 exact hZq.h):p:=f ⟨h⟩
theorem Tq79 {p q:Prop} (h:q) (f:HdTq q→p:=by
 intro hZq
 simp only [go_sem,iNq,hgs,bH,e5,d1,d0,d95,d3,d4,dn1,dn2]
 exact hZq.h):p:=f ⟨h⟩
abbrev PCt:=List AV→AHeap→(AV→Prop)→Prop
abbrev ECt:=List AV→AHeap→(AEnd→AHeap→Prop)→Prop
theorem Yfu {P : Program} (hm : P.follows .mixedOrders = true) {Ω : Tbl} (hΩ : TblOk P Ω) {f : FuncId} {fn : Func} {c : Code} (hf : P.funcs[f]? = some fn) (rs : List ResultVar) {args : List AV} {H H1 : AHeap} {e : AEnd}
 (h:H.Closed→aw P Ω c (KI P Ω (rc P rs H.nx e H1 (aB [])) []) (sJ 0 args) H)
 (hname : (fn.name == "runtime.NumGoroutine") = false := by kernel_rfl) (hb : fn.body = some c := by rfl) (hrs : fn.results.toList = rs := by rfl) (hok : jt P Ω (aB []) fn.ntmps c = true := by kernel_rfl)
 (ha : Nat.ble args.length fn.ntmps = true := by rfl) (hx : H.nx ≤ H1.nx := by exact nrq _) : ACalls P f args H e H1 :=
 ACalls.fW hm hΩ hf rs hx hname hb hrs hok ha fun a _=>h a
theorem Yfw {P : Program} {Ω : Tbl} (hm : P.follows .mixedOrders = true) (hΩ : TblOk P Ω) {f : FuncId} {fn : Func} {c : Code} (hf : P.funcs[f]? = some fn) (rs : List ResultVar) {args : List AV} {H H1 : AHeap} {e : AEnd} (hnx : H.nx ≤ H1.nx)
 {T : Nat → List (List Nat)} (hname : (fn.name == "runtime.NumGoroutine") = false := by kernel_rfl) (hb : fn.body = some c := by rfl) (hrs : fn.results.toList = rs := by rfl) (hok : jt P Ω T fn.ntmps c = true := by kernel_rfl)
 (ha : Nat.ble args.length fn.ntmps = true := by rfl)
 (h:H.Closed→aw P Ω c (KI P Ω (rc P rs H.nx e H1 T) []) (sJ 0 args) H) : ACalls P f args H e H1:=ACalls.fW hm hΩ hf rs hnx (T:=T) hname hb hrs hok ha fun a _=>h a
theorem eNt {n0:Nat} {fr:Fr} {H:AHeap} {fr':Fr} {H':AHeap} (c:H'.Closed) (d:ltF H'.nx fr') (e:bg H H' fr' fr) (b:H'.Le H:=by repeat first|exact .refl _|refine .push ?_ _) (a:n0≤H'.nx:=by (try simp only [ja,zkq,zkv,zle,zlf]);omega):enterW n0 fr H fr' H':=⟨a,b,c,d,e⟩
abbrev Yef:=@EntOk.effect
theorem eFo {p:Prop} (h:¬p:=by omega):p=False:=eq_false h
theorem sHc {p:Prop} (h:p:=by simp at hc;omega):p:=h
theorem krf {p:Prop} (h:p:=by kernel_rfl):p:=h
abbrev tSl (P:Program) (a b:Nat):Prop:=ti P a=some ⟨.slice b,1,24,.slice .nil 1 []⟩
abbrev tFn (P:Program) (a:Nat):Prop:=ti P a=some ⟨.func,1,8,.nilf⟩
theorem kSl {P:Program} {a b:Nat} (h:ti P a=some ⟨.slice b,1,24,.slice .nil 1 []⟩:=by kernel_rfl):tSl P a b:=h
theorem kFn {P:Program} {a:Nat} (h:ti P a=some ⟨.func,1,8,.nilf⟩:=by kernel_rfl):tFn P a:=h
end Go.AL
