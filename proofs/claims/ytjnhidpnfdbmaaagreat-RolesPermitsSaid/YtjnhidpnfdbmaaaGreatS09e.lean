/- Lemmas of the proof; no condition. -/
import Derived.Test.YtjnhidpnfdbmaaaGreatS08i
import Derived.Test.YtjnhidpnfdbmaaaGreatLEval
set_option linter.all false
set_option maxRecDepth 10000
set_option maxHeartbeats 32000000
open Go Go.AL Go.Proofs
namespace Go.AL
theorem rd:ti Tryz.prog 197=some ⟨.struct [(0,194,false)],3,24,.agg [.int .u64 0,.int .u64 0,.int .u64 0]⟩:=krf
theorem wT:ti Tryz.prog 190=some ⟨.bool,1,1,.bool false⟩:=krf
theorem Kn:ti Tryz.prog 189=some ⟨.iface 1,1,16,.nili⟩:=krf
theorem Hz:tSl Tryz.prog 187 189:=kSl
theorem Mp:ti Tryz.prog 202=some ⟨.struct [(0,9,false),(1,9,false),(2,29,false)],4,48,.agg [.str [],.str [],.int .u64 0,.int .u64 0]⟩:=krf
theorem HV:tSl Tryz.prog 145 202:=kSl
attribute [go_sem] rd wT Kn Hz Mp HV
def mAV:Mv→AV
 |.i z=>.iface 197 (nAV z)
 |.b x=>.iface 190 (.bool x)
def iX(x:VN × Nat):AV:=.agg [.str x.1.1,.str x.1.2,.int .u64 ((x.2/2^64:Nat):Int),.int .u64 ((x.2%2^64:Nat):Int)]
def aS(l:List (VN × Nat)):List AV:=l.map iX
theorem aI{l:List (VN × Nat)}:(aS l).length=l.length:=by simp[aS]
theorem vX{l:List (VN × Nat)}{k:Nat}(h:k<l.length):(aS l).getD k .junk=.agg [.str l[k].1.1,.str l[k].1.2,.int .u64 ((l[k].2/2^64:Nat):Int),.int .u64 ((l[k].2%2^64:Nat):Int)]:=by
 simp[aS,iX,gEq,h]
theorem aB{n:Nat}{m:Mark}{l:List (VN × Nat)}:AV.lt n (.slice m 4 (aS l))=∀ id,m=.own id→id<n:=by
 rw[AV.lt]
 refine propext ⟨fun h=>h.1,fun h=>⟨h,fun j hj=>?_⟩⟩
 simp only[aS,List.getElem_map,iX]
 simp[znr,znu,znv,znh,znf]
def eV:PCt
 |[x],_,K=>∃ z,x=nAV z∧K (.bool false)
 |_,_,_=>False
theorem xM:EPp 257 eV:=by
 refine Ype fun _ H K h=>?_
 unfold eV at h
 split at h<;>try exact h.elim
 obtain⟨z,rfl,hK⟩:=h
 refine⟨_,hK,?_⟩
 clear hK
 refine Yfu az tNq Tryz.func257 [.tmp 2] fun hcl=>?_
 simp only[go_sem,nAV]
 exact Z0
def eX:PCt
 |[.bool x],_,K=>K (.bool x)
 |_,_,_=>False
theorem xl:EPp 183 eX:=by
 refine Ype fun _ H K h=>?_
 unfold eX at h
 split at h<;>try exact h.elim
 refine⟨_,h,?_⟩
 clear h
 refine Yfu az tNq Tryz.func183 [.tmp 2] fun hcl=>?_
 exact V33
theorem DJ:nAV 0=.agg [.int .u64 0,.int .u64 0,.int .u64 0]:=by rfl
theorem wS:(190=197)=False:=eq_false Xc
def wX:PCt
 |[x],_,K=>∃ m,x=mAV m∧K (nAV m.num)
 |_,_,_=>False
theorem vJ:EPp 154 wX:=by
 refine Ype fun _ H K h=>?_
 unfold wX at h
 split at h<;>try exact h.elim
 obtain⟨m,rfl,hK⟩:=h
 refine⟨_,hK,?_⟩
 clear hK
 cases m with
 |i z =>
  refine Yfu az tNq Tryz.func154 [.cell 2 194] fun hcl=>?_
  simp only[go_sem,mAV,Mv.num,iT,rd,if_true,nAV]
  exact Z0
 |b x =>
  refine Yfu az tNq Tryz.func154 [.cell 2 194] fun hcl=>?_
  simp only[go_sem,mAV,Mv.num,DJ,iT,rd,wS]
  exact Z0
def B0(e:List (VN × Nat)):Prop:=e.length<4611686018427387904∧∀ x∈e,x.2<340282366920938463463374607431768211456
def zX:PCt
 |[x,.slice _ 4 y],_,K=>∃ n e,(x=lM n∧y=aS e∧B0 e)∧K (nAV (mf e (n.name,n.attr)))
 |_,_,_=>False
theorem kM{y x:VN}{v:Nat}{l:List (VN × Nat)}:mf ((y,v)::l) x=if y=x then(v:Int)else mf l x:=rfl
theorem E2:EPp 120 zX:=by
 refine Ype fun _ H K h=>?_
 unfold zX at h
 split at h<;>try exact h.elim
 rename_i x m y
 obtain⟨n,e,⟨rfl,rfl,hl,hv⟩,hK⟩:=h
 obtain⟨Q,hQ⟩:∃ Q,mf e (n.name,n.attr)=Q:=⟨_,rfl⟩
 rw[hQ]at hK
 refine⟨_,hK,?_⟩
 clear hK
 refine Yfv az (tCq Di (tCq Ld tNq)) Tryz.func120 [.cell 4 194] fun hcl hlt=>?_
 have hm:∀ n',H.nx≤n'→AV.lt n' (.slice m 4 (aS e)):=fun n' hn=>AV.lt_mono hn _ (hlt (.slice m 4 (aS e)) Xb)
 clear hlt
 simp only[go_sem,lM,aI]
 refine aA (A:=Nat) (fun j=>[(2,.ptr H.nx 0),(4,.ptr (H.nx+1) 0),(7,.slice m 4 (aS e)),(8,.int .i64 (e.length:Int)),(9,.int .i64 (j:Int))])
  (fun _=>(H.push (.cells [.int .i64 (n.op:Int),.int .i64 (n.a:Int),.int .i64 (n.b:Int),.str n.name,.str n.attr,.int .u64 ((n.v/2^64:Nat):Int),.int .u64 ((n.v%2^64:Nat):Int)])).push (.cells [.int .u64 0,.int .u64 0,.int .u64 0])) (fun j=>j≤e.length∧mf (e.drop j) (n.name,n.attr)=Q) (fun j=>e.length-j) 0 ⟨Nat.zero_le _,hQ⟩ ?_ fun j hj=>?_
 ·exact Z51
 obtain⟨hj,hq⟩:=hj
 refine T9 ?_
 refine aq (fun hc=>?_) (fun hc=>?_)
 ·have hj1:j<e.length:=sHc
  have e5:IntKind.i64.wrap ((j:Int)+1)=((j+1:Nat):Int):=Xe
  have hne:(H.nx=H.nx+2)=False:=eFo
  have hv1:e[j].2<340282366920938463463374607431768211456:=hv e[j] (gMq hj1)
  rw[dcq hj1]at hq
  have hz:((((e[j].2/2^64:Nat):Int)*2^64+((e[j].2%2^64:Nat):Int):Int))=(e[j].2:Int):=Xa
  simp only[go_sem,aI,vX hj1,iNq,hne,e5]
  refine⟨Xa,fun h1=>?_,fun h1=>?_⟩
  ·cases h2:(e[j].1.2==n.attr)
   ·have hx:¬ (e[j].1=(n.name,n.attr)):=fun h=>by rw[h]at h2;simp at h2
    rw[show e[j]=(e[j].1,e[j].2) from rfl,kM,if_neg hx]at hq
    simp only[go_sem,h2]
    refine⟨j+1,⟨Xa,hq⟩,Xa,?_⟩
    exact Z51
   ·have hx:e[j].1=(n.name,n.attr):=Prod.ext (eq_of_beq h1) (eq_of_beq h2)
    rw[show e[j]=(e[j].1,e[j].2) from rfl,kM,if_pos hx]at hq
    subst hq
    simp only[go_sem,h2,wI,hz,nAV]
    exact V32
  ·have hx:¬ (e[j].1=(n.name,n.attr)):=fun h=>by rw[h]at h1;simp at h1
   rw[show e[j]=(e[j].1,e[j].2) from rfl,kM,if_neg hx]at hq
   refine⟨j+1,⟨Xa,hq⟩,Xa,?_⟩
   exact Z51
 ·have hj1:j=e.length:=sHc
  subst hj1
  rw[List.drop_length]at hq
  have hq':0=Q:=hq
  subst hq'
  simp only[go_sem,Gi,DJ]
  exact V32
theorem uc{a b:Int}:decide (kX a b<0)=decide (a<b):=by unfold kX;split<;>(try split)<;>simp<;>omega
theorem sZ{a b:Int}:decide (kX a b≤0)=decide (a≤b):=by unfold kX;split<;>(try split)<;>simp<;>omega
theorem tD{a b:Int}:decide (0<kX a b)=decide (b<a):=by unfold kX;split<;>(try split)<;>simp<;>omega
theorem t8{a b:Int}:decide (0≤kX a b)=decide (b≤a):=by unfold kX;split<;>(try split)<;>simp<;>omega
def rU(op:Nat)(a b:Int):Option Mv :=
 if op=4 then some (.i (-a))else if op=6 then some (.i (a+b))else if op=7 then some (.i (a-b))
 else if op=10 then some (.b (decide (a<b)))else if op=11 then some (.b (decide (a≤b)))else if op=12 then some (.b (decide (b<a)))else if op=13 then some (.b (decide (b≤a)))else none
def yJ:Option Mv→AV
 |some m=>.tup [mAV m,.bool true]
 |none=>.tup [.nili,.bool false]
def F2:PCt
 |[.int .i64 z,x,y],_,K=>∃ op a b,(z=((op:Nat):Int)∧op<100∧x=nAV a∧y=nAV b∧isN a∧isN b∧isN (a-b))∧K (yJ (rU op a b))
 |_,_,_=>False
theorem Nz:EPp 153 F2:=by
 refine Ype fun _ H K h=>?_
 unfold F2 at h
 split at h<;>try exact h.elim
 rename_i z x y
 obtain⟨op,a,b,⟨rfl,ho,rfl,rfl,ha,hb,hc⟩,hK⟩:=h
 refine⟨_,hK,?_⟩
 clear hK
 refine Yfu az (tCq G7 (tCq AS (tCq He (tCq CG tNq)))) Tryz.func153 [.tmp 6,.tmp 7] fun hcl=>?_
 rcases(Xa:op=4∨op=6∨op=7∨op=10∨op=11∨op=12∨op=13∨(op≠4∧op≠6∧op≠7∧op≠10∧op≠11∧op≠12∧op≠13))with h|h|h|h|h|h|h|h
 ·have hi:(op:Int)=4:=Xa
  have hs:rU op a b=some (.i (-a)):=by subst h;rfl
  simp only[go_sem,nAV,hs,yJ,mAV,Fw,hi,Int.reduceBEq]
  refine⟨a,rfl,?_⟩
  exact Z0
 ·have hi:(op:Int)=6:=Xa
  have hs:rU op a b=some (.i (a+b)):=by subst h;rfl
  simp only[go_sem,nAV,hs,yJ,mAV,BC,hi,Int.reduceBEq]
  refine⟨a,b,⟨rfl,rfl⟩,?_⟩
  exact Z0
 ·have hi:(op:Int)=7:=Xa
  have hs:rU op a b=some (.i (a-b)):=by subst h;rfl
  simp only[go_sem,nAV,hs,yJ,mAV,AZ,hi,Int.reduceBEq]
  refine⟨a,b,⟨rfl,rfl⟩,?_⟩
  exact Z0
 ·have hi:(op:Int)=10:=Xa
  have hs:rU op a b=some (.b (decide (a<b))):=by subst h;rfl
  exact V43
 ·have hi:(op:Int)=11:=Xa
  have hs:rU op a b=some (.b (decide (a≤b))):=by subst h;rfl
  exact V43
 ·have hi:(op:Int)=12:=Xa
  have hs:rU op a b=some (.b (decide (b<a))):=by subst h;rfl
  exact V43
 ·have hi:(op:Int)=13:=Xa
  have hs:rU op a b=some (.b (decide (b≤a))):=by subst h;rfl
  exact V43
 ·obtain⟨h1,h2,h3,h4,h5,h6,h7⟩:=h
  have d1:((op:Int)==4)=false:=beq_eq_false_iff_ne.2 Xa
  have d2:((op:Int)==6)=false:=beq_eq_false_iff_ne.2 Xa
  have d3:((op:Int)==7)=false:=beq_eq_false_iff_ne.2 Xa
  have d4:((op:Int)==10)=false:=beq_eq_false_iff_ne.2 Xa
  have d5:((op:Int)==11)=false:=beq_eq_false_iff_ne.2 Xa
  have d6:((op:Int)==12)=false:=beq_eq_false_iff_ne.2 Xa
  have d7:((op:Int)==13)=false:=beq_eq_false_iff_ne.2 Xa
  have hs:rU op a b=none:=by simp[rU,h1,h2,h3,h4,h5,h6,h7]
  simp only[go_sem,nAV,hs,yJ,d1,d2,d3,d4,d5,d6,d7]
  exact Z0
theorem i9{z:Int}:mAV (.i z)=.iface 197 (nAV z):=rfl
theorem iK{x:Bool}:mAV (.b x)=.iface 190 (.bool x):=rfl
def Dm:PCt
 |[x,y],_,K=>∃ a b,(x=mAV a∧y=mAV b∧isN a.num∧isN b.num)∧K (.bool (mEq a b))
 |_,_,_=>False
theorem Sj : mth Tryz.prog 197 "matchguard/eval.holds" = some 257 := by kernel_rfl
theorem Sf : mth Tryz.prog 190 "matchguard/eval.holds" = some 183 := by kernel_rfl
theorem ke {v : AV} : Jt Tryz.prog "matchguard/eval.holds" (.iface 197 v) = .func (.func 257) [] [] := xp Sj
theorem kg {v : AV} : Jt Tryz.prog "matchguard/eval.holds" (.iface 190 v) = .func (.func 183) [] [] := xp Sf
theorem Jg:EPp 155 Dm:=by
 refine Ype fun _ H K h=>?_
 unfold Dm at h
 split at h<;>try exact h.elim
 rename_i x y
 obtain⟨a,b,⟨rfl,rfl,ha,hb⟩,hK⟩:=h
 refine⟨_,hK,?_⟩
 clear hK
 refine Yfu az (tCq vJ (tCq xl (tCq xM tNq))) Tryz.func155 [.tmp 4] fun hcl=>?_
 cases a with
 |i z =>
  have hq:((w0 z==w0 b.num)&&((w1 z==w1 b.num)&&(w2 z==w2 b.num)))=decide (z=b.num):=SQ ha hb
  have hz:mEq (.i z) b=decide (z=b.num):=rfl
  simp only[go_sem,i9,iT,rd,wT,wS,if_true,nAV,hz]
  refine⟨b,rfl,?_⟩
  simp only[go_sem,nAV,Nq,OL,hq,Bool.bne_false]
  exact Z0
 |b x =>
  cases b with
  |i z =>
   simp only[go_sem,i9,iK,iT,rd,wT,wS,if_true,nAV,mEq,Mv.bo,ke,kg,zij,eX,eV,Bool.bne_false]
   refine⟨z,rfl,?_⟩
   exact Z0
  |b y =>
   simp only[go_sem,i9,iK,iT,rd,wT,wS,if_true,nAV,mEq,Mv.bo,ke,kg,zij,eX,eV,Bool.bne_false]
   exact Z0
theorem NT{op:Nat}{a b v:Mv}(h:rU op a.num b.num=some v):opV op a b=v:=by
 unfold rU at h;unfold opV
 repeat' split at h
 all_goals first|(cases h;simp_all;done)|(cases h)
def Gk:PCt
 |[.int .i64 z,x,y],_,K=>∃ op a b,(z=((op:Nat):Int)∧3<op∧op<100∧x=mAV a∧y=mAV b∧isN a.num∧isN b.num∧isN (a.num-b.num))∧K (mAV (opV op a b))
 |_,_,_=>False
theorem LS{op:Nat}{a b:Int}(h:rU op a b=none):op≠4∧op≠6∧op≠7∧op≠10∧op≠11∧op≠12∧op≠13:=by
 unfold rU at h
 repeat' split at h
 all_goals first|(cases h;done)|omega
theorem Mw:EPp 121 Gk:=by
 refine Ype fun _ H K h=>?_
 unfold Gk at h
 split at h<;>try exact h.elim
 rename_i z x y
 obtain⟨op,a,b,⟨rfl,h3,ho,rfl,rfl,ha,hb,hc⟩,hK⟩:=h
 refine⟨_,hK,?_⟩
 clear hK
 refine Yfu az (tCq vJ (tCq Nz (tCq Jg (tCq xl (tCq xM tNq))))) Tryz.func121 [.tmp 6] fun hcl=>?_
 refine T9 ?_
 refine⟨a,rfl,?_⟩
 refine T9 ?_
 refine⟨b,rfl,?_⟩
 simp only[go_sem,F2]
 refine⟨op,a.num,b.num,⟨rfl,ho,rfl,rfl,ha,hb,hc⟩,?_⟩
 cases hs:rU op a.num b.num with
 |some v =>
  have hv:=NT hs
  simp only[go_sem,yJ,hv]
  cases v<;>simp (disch:=first|exact Zd|omega) [↓zmo,beq,ybc,ybd,ybe,af,wk,wk2,wk1,wkM,wkL,aj,ybf,hcl,mAV,nAV]
 |none =>
  obtain⟨h4,h6,h7,h10,h11,h12,h13⟩:=LS hs
  simp only[go_sem,yJ]
  rcases(Xa:op=8∨op=9∨op=5∨op=14∨op=15∨(op≠8∧op≠9∧op≠5∧op≠14∧op≠15))with h|h|h|h|h|h
  ·have hi:(op:Int)=8:=Xa
   have hv:opV op a b=.b (mEq a b):=by subst h;rfl
   simp only[go_sem,hi,Int.reduceBEq,hv,iK]
   refine⟨a,b,⟨rfl,rfl,ha,hb⟩,?_⟩
   exact V33
  ·have hi:(op:Int)=9:=Xa
   have hv:opV op a b=.b (!mEq a b):=by subst h;rfl
   simp only[go_sem,hi,Int.reduceBEq,hv,iK]
   refine⟨a,b,⟨rfl,rfl,ha,hb⟩,?_⟩
   exact V33
  ·have hi:(op:Int)=5:=Xa
   have hv:opV op a b=.b (!a.bo):=by subst h;rfl
   rw[hv]
   cases a with
   |i z =>
    exact V67
   |b x =>
    refine T18 ?_
    exact Z0
  ·have hi:(op:Int)=14:=Xa
   have hv:opV op a b=.b (a.bo&&b.bo):=by subst h;rfl
   rw[hv]
   cases a with
   |i z =>
    cases b with
    |i w =>
     exact V67
    |b y =>
     exact V67
   |b x =>
    cases b with
    |i w =>
     refine T18 ?_
     refine⟨fun hx=>⟨w,rfl,?_⟩,fun hx=>?_⟩<;>simp (disch:=first|exact Zd|omega) [↓zmo,beq,ybc,ybd,ybe,af,wk,wk2,wk1,wkM,wkL,aj,ybf,hcl,hx]
    |b y =>
     refine T18 ?_
     exact V71
  ·have hi:(op:Int)=15:=Xa
   have hv:opV op a b=.b (a.bo||b.bo):=by subst h;rfl
   rw[hv]
   cases a with
   |i z =>
    cases b with
    |i w =>
     refine T18 ?_
     refine⟨z,rfl,w,rfl,?_⟩
     exact Z0
    |b y =>
     exact V67
   |b x =>
    cases b with
    |i w =>
     refine T18 ?_
     exact V111
    |b y =>
     refine T18 ?_
     exact V71
  ·obtain⟨x1,x2,x3,x4,x5⟩:=h
   have d1:((op:Int)==8)=false:=beq_eq_false_iff_ne.2 Xa
   have d2:((op:Int)==9)=false:=beq_eq_false_iff_ne.2 Xa
   have d3:((op:Int)==5)=false:=beq_eq_false_iff_ne.2 Xa
   have d4:((op:Int)==14)=false:=beq_eq_false_iff_ne.2 Xa
   have d5:((op:Int)==15)=false:=beq_eq_false_iff_ne.2 Xa
   have hv:opV op a b=.b (!a.bo||b.bo):=by simp[opV,h4,h6,h7,h10,h11,h12,h13,x1,x2,x3,x4,x5]
   rw[hv]
   cases a with
   |i z =>
    cases b with
    |i w =>
     exact V150
    |b y =>
     exact V150
   |b x =>
    cases b with
    |i w =>
     simp only[go_sem,d1,d2,d3,d4,d5,iK,i9,ke,kg,zij,eX,eV,Mv.bo]
     exact V111
    |b y =>
     simp only[go_sem,d1,d2,d3,d4,d5,iK,i9,ke,kg,zij,eX,eV,Mv.bo]
     exact V71
theorem GH:ti Tryz.prog 29=some ⟨.struct [(0,27,false),(1,27,false)],2,16,.agg [.int .u64 0,.int .u64 0]⟩:=krf
attribute [go_sem] GH
theorem Eb{a b c d:Int}:teq Tryz.prog 9 29 (.agg [.int .u64 a,.int .u64 b]) (.agg [.int .u64 c,.int .u64 d])=some ((a==c)&&((b==d)&&true)):=by
 have g1:Tryz.prog.stoodInHeld 29=false:=krf
 simp[GH,teq,teq.go,teq.part,wQ,ceq,g1,TD.agg]
theorem CO:Tryz.prog.eqGuardType Tryz.prog.depth 29=false:=krf
def mvs(l:List Mv):List AV:=l.map mAV
theorem cT{l:List Mv}:(mvs l).length=l.length:=by simp[mvs]
theorem Nr{l:List Mv}{k:Nat}(h:k<l.length):(mvs l).getD k .junk=mAV (l.getD k (.b false)):=by
 simp[mvs,gEq,h]
theorem F0{l:List Mv}{m:Mv}:mvs l++[mAV m]=mvs (l++[m]):=by simp[mvs]
theorem Rd{n:Nat}{m:Mv}:AV.lt n (mAV m):=by cases m<;>simp[mAV,nAV,znq,znr,znu,znv,znf,zng]
theorem uS{m:Mv}:(mAV m).cells=[mAV m]:=by cases m<;>rfl
theorem NI{m:Mv}:(mAV m).one=true:=by cases m<;>rfl
theorem NP{m:Mv}:bG (mAV m).cells=true:=by cases m<;>rfl
def sV(l:List Mv)(i:Int):Mv:=if i<0 then .b false else l.getD i.toNat (.b false)
def P5:PCt
 |[.int .i64 i,.ptr c 0],H,K=>∃ mk l,H.get c=some (.cells [.slice mk 1 (mvs l)])∧K (mAV (sV l i))
 |_,_,_=>False
theorem Rp:EPp 118 P5:=by
 refine Ype fun _ H K h=>?_
 unfold P5 at h
 split at h<;>try exact h.elim
 rename_i i c
 obtain⟨mk,l,hg,hK⟩:=h
 refine⟨_,hK,?_⟩
 clear hK
 refine Yfu az tNq Tryz.func118 [.tmp 3] fun hcl=>?_
 have hcs:=ax (cs:=[.slice mk 1 (mvs l)]) hg
 by_cases h0:i<0
 ·have d1:decide (i<0)=true:=dtq h0
  have hv:sV l i=.b false:=by unfold sV;rw[if_pos h0]
  simp only[go_sem,hcs,d1,hv,iK]
  exact Z0
 ·have d1:decide (i<0)=false:=dfq h0
  by_cases h1:(l.length:Int)≤i
  ·have d2:decide ((l.length:Int)≤i)=true:=dtq h1
   have hv:sV l i=.b false:=by
    unfold sV;rw[if_neg h0,gEq,gNq (Xa)];rfl
   simp only[go_sem,hcs,d1,hv,iK,cT,d2]
   exact Z0
  ·have d2:decide ((l.length:Int)≤i)=false:=dfq h1
   have hi:i.toNat<l.length:=Xa
   have hv:sV l i=l.getD i.toNat (.b false):=by unfold sV;rw[if_neg h0]
   simp only[go_sem,hcs,d1,hv,cT,d2,Nr hi]
   refine⟨Xa,by rw[uS];exact Nat.one_pos,?_⟩
   simp only[uS,yau]
   generalize l.getD i.toNat (.b false)=r
   cases r<;>simp (disch:=first|exact Zd|omega) [↓zmo,beq,ybc,ybd,ybe,af,wk,wk2,wk1,wkM,wkL,aj,ybf,hcl,mAV,nAV]
theorem Rr{n:Nat}{m:Mark}{l:List Mv}:AV.lt n (.slice m 1 (mvs l))=∀ id,m=.own id→id<n:=by
 rw[AV.lt]
 refine propext ⟨fun h=>h.1,fun h=>⟨h,fun j hj=>?_⟩⟩
 simp only[mvs,List.getElem_map]
 exact Rd
theorem S7{H:AHeap}(hcl:H.Closed)(k:Nat)(l:List Mv):((H.push (.cells [.slice (.own (H.nx+1)) 1 (mvs l)])).push (.buf 1 k)).Closed:=by
 have h1:=ai (i:=H.nx) (cs:=[.slice (.own (H.nx+1)) 1 (mvs l)]) (ag (a:=1) (b:=k) (aa (cs:=[]) hcl trivial)) (by
  simp only[znu,znv,and_true,zle]
  rw[Rr]
  intro id hi
  injection hi with hi
  omega)
 simp only[go_sem]at h1
 exact h1
theorem S8{n f c:Nat}(h:c<n):AV.lt n (.func (.func f) [] [.ptr c 0]):=by
 rw[AV.lt]
 refine⟨fun j hj=>absurd hj Xb,fun j hj=>?_⟩
 have:j=0:=by simpa using hj
 subst this
 simpa[znn]using h
def okH(e:List (VN × Nat))(t:List Nd):Prop:=t.length<100000∧∀ i (h:i<t.length),1≤t[i].op∧t[i].op≤16∧t[i].v<340282366920938463463374607431768211456∧(3<t[i].op→isN ((gf e t i).getD t[i].a (.b false)).num∧isN ((gf e t i).getD t[i].b (.b false)).num∧isN (((gf e t i).getD t[i].a (.b false)).num-((gf e t i).getD t[i].b (.b false)).num))
def Aj(e:List (VN × Nat))(t:List Nd):Mv:=sV (gf e t t.length) ((t.length:Int)-1)
def ud:PCt
 |[.slice _ 7 x,.slice _ 4 y],_,K=>∃ t e,(x=nds t∧y=aS e∧okH e t∧B0 e)∧K (.bool (Aj e t).bo)
 |_,_,_=>False
theorem Iw:EPp 80 ud:=by
 refine Ype fun _ H K h=>?_
 unfold ud at h
 split at h<;>try exact h.elim
 rename_i m x m2 y
 obtain⟨t,e,⟨rfl,rfl,⟨ht,hn⟩,hb⟩,hK⟩:=h
 refine⟨_,hK,?_⟩
 clear hK
 refine ACalls.fW az (tCq Rp (tCq Di (tCq vw (tCq E2 (tCq Mw (tCq xl (tCq xM tNq))))))) Tryz.func80 [.tmp 4] (nrq _) (T:=ay [(9,[[],[],[],[2],[],[],[2,3],[0,2,3],[0,2,3]]),(11,[[],[],[],[],[],[],[2,3],[0,2,3],[0,2,3]]),(13,[[],[],[],[1],[],[],[1,3],[0,1,3],[0,1,3]]),(7,[[],[],[],[],[],[],[5],[],[],[],[5,6,9],[2,5,6,9,10],[2,5,6,9,10,11],[0,2,5,6,9,10,11],[0,2,5,6,9,10,11]]),(3,[[1]])]) (h:=fun hcl hlt=>?_)
 have hm:∀ n',H.nx≤n'→AV.lt n' (.slice m 7 (nds t)):=fun n' hn=>AV.lt_mono hn _ (hlt (.slice m 7 (nds t)) Xb)
 have hm2:∀ n',H.nx≤n'→AV.lt n' (.slice m2 4 (aS e)):=fun n' hn=>AV.lt_mono hn _ (hlt (.slice m2 4 (aS e)) Xb)
 clear hlt
 have hF:∀ n',H.nx+1≤n'→AV.lt n' (.func (.func 118) [] [.ptr H.nx 0]):=fun n' hn=>S8 Xa
 have hcH:=fun k l=>S7 hcl k l
 refine T9 ?_
 refine Jb 5 0 1 (cs:=[AV.slice .nil 1 []]) rfl Xk rfl ?_
 simp only[bhq,go_sem,aO,List.set_cons_zero]
 refine aA (A:=Nat) (fun k=>[(0,.slice m 7 (nds t)),(1,.slice m2 4 (aS e)),(5,.ptr H.nx 0),(6,.func (.func 118) [] [.ptr H.nx 0]),(10,.slice m 7 (nds t)),(11,.int .i64 (t.length:Int)),(12,.int .i64 (k:Int))])
  (fun k=>(H.push (.cells [.slice (.own (H.nx+1)) 1 (mvs (gf e t k))])).push (.buf 1 k)) (fun k=>k≤t.length) (fun k=>t.length-k) 0 (Nat.zero_le _) ?_ fun k hk=>?_
 ·exact Z52
 refine T9 ?_
 refine aq (fun hc=>?_) (fun hc=>?_)
 ·have hk1:k<t.length:=sHc
  have e5:=Yk5 k
  obtain⟨o1,o2,hv1,hnum⟩:=hn k hk1
  have hvk:gf e t (k+1)=gf e t k++[jA e (gf e t k) t[k]]:=by
   rw[gf,show t.getD k default=t[k] by simp[gEq,hk1]]
  obtain⟨L,hL⟩:∃ L,gf e t k=L:=⟨_,rfl⟩
  rw[hL]at hvk hnum
  have hLl:L.length=k:=by rw[← hL,nW]
  have hgk:=dm hk1
  have hb1:t[k].v%2^64<18446744073709551616:=Nat.mod_lt _ Xc
  have hz:((((t[k].v/2^64:Nat):Int)*2^64+((t[k].v%2^64:Nat):Int):Int))=(t[k].v:Int):=Xa
  have hfo0:mvs L++[mAV (jA e L t[k])]=mvs (gf e t (k+1)):=by rw[hvk,F0]
  rcases(Xa:t[k].op=1∨t[k].op=2∨t[k].op=3∨3<t[k].op)with c|c|c|c
  ·have d1:((t[k].op:Int)==1)=true:=by rw[c];rfl
   have hw:jA e L t[k]=.i t[k].v:=by unfold jA;rw[if_pos c]
   have hfo:=hfo0
   rw[hw,i9,nAV]at hfo
   simp only[go_sem,hL,aO,hgk,d1,iNq,wI,hz,nAV]
   refine⟨Xa,Xa,?_⟩
   exact V50
  ·have d1:((t[k].op:Int)==1)=false:=by rw[c];rfl
   have d2:((t[k].op:Int)==2)=true:=by rw[c];rfl
   have hvq:(((t[k].v/2^64:Nat):Int)==0&&((t[k].v%2^64:Nat):Int)==1)=decide (t[k].v=1):=by
    exact V161
   have hw:jA e L t[k]=.b (decide (t[k].v=1)):=by unfold jA;rw[if_neg (by omega),if_pos c]
   have hfo:=hfo0
   rw[hw,iK]at hfo
   simp only[go_sem,hL,aO,hgk,d1,d2,iNq,vY,Eb,CO,Bool.bne_false,Bool.and_true,hvq]
   refine⟨Xa,?_⟩
   exact V50
  ·have d1:((t[k].op:Int)==1)=false:=by rw[c];rfl
   have d2:((t[k].op:Int)==2)=false:=by rw[c];rfl
   have d3:((t[k].op:Int)==3)=true:=by rw[c];rfl
   have hw:jA e L t[k]=.i (mf e (t[k].name,t[k].attr)):=by unfold jA;rw[if_neg (by omega),if_neg (by omega),if_pos c]
   have hfo:=hfo0
   rw[hw,i9,nAV]at hfo
   simp only[go_sem,hL,aO,hgk,d1,d2,d3,iNq]
   refine⟨Xa,t[k],e,⟨rfl,rfl,hb⟩,?_⟩
   simp only[go_sem,nAV]
   exact V50
  ·have d1:((t[k].op:Int)==1)=false:=beq_eq_false_iff_ne.2 Xa
   have d2:((t[k].op:Int)==2)=false:=beq_eq_false_iff_ne.2 Xa
   have d3:((t[k].op:Int)==3)=false:=beq_eq_false_iff_ne.2 Xa
   have hw:jA e L t[k]=opV t[k].op (L.getD t[k].a (.b false)) (L.getD t[k].b (.b false)):=by unfold jA;rw[if_neg (by omega),if_neg (by omega),if_neg (by omega)]
   have hga:sV L (t[k].a:Int)=L.getD t[k].a (.b false):=by unfold sV;rw[if_neg (by omega),iNq]
   have hgb:sV L (t[k].b:Int)=L.getD t[k].b (.b false):=by unfold sV;rw[if_neg (by omega),iNq]
   obtain⟨n1,n2,n3⟩:=hnum c
   have hfo:=hfo0
   rw[hw]at hfo
   simp only[go_sem,hL,aO,hgk,d1,d2,d3,iNq]
   refine⟨Xa,?_⟩
   refine⟨_,L,Xn,?_⟩
   simp only[go_sem,hga,hgb]
   refine⟨_,L,Xn,?_⟩
   simp only[go_sem,hga,hgb]
   refine⟨t[k].op,_,_,⟨rfl,c,Xa,rfl,rfl,n1,n2,n3⟩,?_⟩
   simp only[go_sem,hga,hgb,uS,NI]
   refine⟨⟨by rw[cT,hLl],by rw[cT];omega,by rw[cT];omega,fun z hz=>?_⟩,k+1,Xa,Xa,?_⟩
   ·rw[List.mem_singleton.1 hz];exact NP
   simp only[hfo,cT,hLl,e5]
   exact Z52
 ·have hk1:k=t.length:=sHc
  subst hk1
  have e6:IntKind.i64.wrap ((t.length:Int)-1)=(t.length:Int)-1:=Xe
  simp only[go_sem,aO,e6]
  refine⟨_,gf e t t.length,Xn,?_⟩
  obtain⟨R,hR⟩:∃ R,sV (gf e t t.length) ((t.length:Int)-1)=R:=⟨_,rfl⟩
  rw[show Aj e t=R from hR,hR]
  cases R with
  |i z =>
   simp only[go_sem,iK,i9,ke,kg,zij,eX,eV,Mv.bo]
   refine⟨z,rfl,?_⟩
   exact Z53
  |b x =>
   simp only[go_sem,iK,i9,ke,kg,zij,eX,eV,Mv.bo]
   exact Z53
theorem KZ:ti Tryz.prog 209=some ⟨.struct [(0,9,false),(1,9,false),(2,29,false)],4,48,.agg [.str [],.str [],.int .u64 0,.int .u64 0]⟩:=krf
theorem H8:tSl Tryz.prog 155 209:=kSl
attribute [go_sem] KZ H8
def CE:PCt
 |[x],_,K=>∃ n,(x=lM n∧1≤n.op∧n.op≤16)∧K (.bool (mj n.op))
 |_,_,_=>False
theorem IV:EPp 191 CE:=by
 refine Ype fun _ H K h=>?_
 unfold CE at h
 split at h<;>try exact h.elim
 obtain⟨n,⟨rfl,h1,h2⟩,hK⟩:=h
 refine⟨_,hK,?_⟩
 clear hK
 cases hn:mj n.op
 ·have hx:¬ (n.op=1∨n.op=3∨n.op=4∨n.op=6∨n.op=7):=fun h=>by rw[isNum_cases.2 h]at hn;cases hn
  have d1:((n.op:Int)==1)=false:=beq_eq_false_iff_ne.2 Xa
  have d3:((n.op:Int)==3)=false:=beq_eq_false_iff_ne.2 Xa
  have d4:((n.op:Int)==4)=false:=beq_eq_false_iff_ne.2 Xa
  have d6:((n.op:Int)==6)=false:=beq_eq_false_iff_ne.2 Xa
  have d7:((n.op:Int)==7)=false:=beq_eq_false_iff_ne.2 Xa
  refine Yfu az tNq Tryz.func191 [.tmp 2] fun hcl=>?_
  simp only[go_sem,lM,d1,d3,d4,d6,d7]
  exact Z0
 ·skip
  refine Yfv az tNq Tryz.func191 [.tmp 2] fun hcl hlt=>?_
  exact V87
theorem AG{a:Int}(h : -(2^128*120)≤a∧a≤2^128*120):fE a:=by
 unfold fE
 have:a.natAbs≤2^128*120:=Xa
 exact Nat.lt_of_le_of_lt this Xc
def xL(_A:Prop)(d:Nat):PCt
 |[.slice _ 7 x,.int .i64 i,.slice _ 4 y],_,K=>∃ t e k,(x=nds t∧i=((k:Nat):Int)∧y=aS e∧k<d∧okW t∧AC t∧B0 e∧eQ t k=true)∧K (zAV (val e t k).num)
 |_,_,_=>False
theorem L8{t:List Nd}{k:Nat}(h:eQ t k=true):k<t.length:=by
 unfold eQ at h
 rcases Nat.lt_or_ge k t.length with h1|h1
 ·exact h1
 ·rw[gNq h1]at h;cases h
theorem GF{v:Nat}(h:v<340282366920938463463374607431768211456):mD ((v/2^64:Nat):Int) ((v%2^64:Nat):Int):=by
 have:v%2^64<18446744073709551616:=Nat.mod_lt _ Xc
 unfold mD;omega
theorem KU{A:Prop}{d:Nat}(h_gInt:EPp 193 (xL A d)):EPp 193 (xL A (d+1)):=by
 refine Ype fun _ H K h=>?_
 unfold xL at h
 split at h<;>try exact h.elim
 rename_i m x i m2 y
 obtain⟨t,e,k,⟨rfl,rfl,rfl,hkd,hW,hT,hb,hN⟩,hK⟩:=h
 have hk:=L8 hN
 have hg:=hW.1
 obtain⟨g1,g2,g3,g4⟩:=ji hg hk
 have hve:∀ x∈e,x.2<2^128:=hb.2
 have hsm:∀{j:Nat},j<t.length→fE (val e t j).num:=fun hj=>AG (Cn hve hW hj)
 rw[iS hk]at hN
 have hf:=hT k hk
 have hop:=isNum_cases.1 hN
 have hV:val e t k=jA e (gf e t k) t[k]:=t4 hk
 have hO:=fun h3 h4 h5=>@xb e t k hk h3 h4 h5
 refine⟨_,hK,?_⟩
 clear hK
 generalize hR:zAV (val e t k).num=R
 have hgk:=dm hk
 have hz:((((t[k].v/2^64:Nat):Int)*2^64+((t[k].v%2^64:Nat):Int):Int))=(t[k].v:Int):=Xa
 refine ACalls.fW az (tCq JZ (tCq Gv (tCq wH (tCq G0 (tCq EK (tCq h_gInt tNq)))))) Tryz.func193 [.cell 6 270] (nrq _) (T:=ay [(8,[[],[],[],[],[2],[],[],[],[],[2,4,7],[2,4,7,9],[2,4,7,9,10]]),(10,[[],[],[],[],[2],[],[],[],[],[2,4,7],[2,4,7,9],[2,4,7,9,10]])]) (h:=fun hcl hlt=>?_)
 have hm:∀ n',H.nx≤n'→AV.lt n' (.slice m 7 (nds t)):=fun n' hn=>AV.lt_mono hn _ (hlt (.slice m 7 (nds t)) Xb)
 have hm2:∀ n',H.nx≤n'→AV.lt n' (.slice m2 4 (aS e)):=fun n' hn=>AV.lt_mono hn _ (hlt (.slice m2 4 (aS e)) Xb)
 clear hlt
 rcases hop with c|c|c|c|c
 ·have d1:((t[k].op:Int)==1)=true:=by rw[c];rfl
  have hw:(val e t k).num=t[k].v:=by rw[hV];unfold jA;rw[if_pos c];rfl
  rw[hw]at hR
  subst hR
  simp only[go_sem,aO,hgk,d1,iNq,wR,hz,zAV]
  refine⟨Xa,GF Xa,?_⟩
  exact Z0
 ·have d1:((t[k].op:Int)==1)=false:=by rw[c];rfl
  have d4:((t[k].op:Int)==4)=false:=by rw[c];rfl
  have d6:((t[k].op:Int)==6)=false:=by rw[c];rfl
  have d7:((t[k].op:Int)==7)=false:=by rw[c];rfl
  have hw:(val e t k).num=mf e (t[k].name,t[k].attr):=by rw[hV];unfold jA;rw[if_neg (by omega),if_neg (by omega),if_pos c];rfl
  rw[hw]at hR
  obtain⟨Q,hQ⟩:∃ Q,mf e (t[k].name,t[k].attr)=Q:=⟨_,rfl⟩
  rw[hQ]at hR
  subst hR
  simp only[go_sem,aO,hgk,d1,d4,d6,d7,iNq,aI]
  refine⟨Xa,?_⟩
  refine aA (A:=Nat) (fun j=>[(6,.ptr H.nx 0),(7,.ptr (H.nx+1) 0),(55,.slice m2 4 (aS e)),(56,.int .i64 (e.length:Int)),(57,.int .i64 (j:Int))])
   (fun _=>(H.push (.cells [.bool false,.slice .nil 1 []])).push (.cells [.int .i64 (t[k].op:Int),.int .i64 (t[k].a:Int),.int .i64 (t[k].b:Int),.str t[k].name,.str t[k].attr,.int .u64 ((t[k].v/2^64:Nat):Int),.int .u64 ((t[k].v%2^64:Nat):Int)])) (fun j=>j≤e.length∧mf (e.drop j) (t[k].name,t[k].attr)=Q) (fun j=>e.length-j) 0 ⟨Nat.zero_le _,hQ⟩ ?_ fun j hj=>?_
  ·exact Z42
  obtain⟨hj,hq⟩:=hj
  refine T9 ?_
  refine aq (fun hc=>?_) (fun hc=>?_)
  ·have hj1:j<e.length:=sHc
   have e5:IntKind.i64.wrap ((j:Int)+1)=((j+1:Nat):Int):=by rw[wrap_i64]<;>(have:=hb.1;omega)
   have hne:(H.nx+1=H.nx+2)=False:=eFo
   have hv1:e[j].2<340282366920938463463374607431768211456:=hb.2 e[j] (gMq hj1)
   have hz2:((((e[j].2/2^64:Nat):Int)*2^64+((e[j].2%2^64:Nat):Int):Int))=(e[j].2:Int):=Xa
   rw[dcq hj1]at hq
   simp only[go_sem,aI,vX hj1,iNq,hne,e5]
   refine⟨Xa,fun h1=>?_,fun h1=>?_⟩
   ·cases h2:(e[j].1.2==t[k].attr)
    ·have hx:¬ (e[j].1=(t[k].name,t[k].attr)):=fun h=>by rw[h]at h2;simp at h2
     rw[show e[j]=(e[j].1,e[j].2) from rfl,kM,if_neg hx]at hq
     simp only[go_sem,h2]
     exact V142
    ·have hx:e[j].1=(t[k].name,t[k].attr):=Prod.ext (eq_of_beq h1) (eq_of_beq h2)
     rw[show e[j]=(e[j].1,e[j].2) from rfl,kM,if_pos hx]at hq
     subst hq
     simp only[go_sem,h2,wR,hz2,zAV]
     refine⟨GF hv1,?_⟩
     exact Z0
   ·have hx:¬ (e[j].1=(t[k].name,t[k].attr)):=fun h=>by rw[h]at h1;simp at h1
    rw[show e[j]=(e[j].1,e[j].2) from rfl,kM,if_neg hx]at hq
    exact V142
  ·have hj1:j=e.length:=sHc
   subst hj1
   rw[List.drop_length]at hq
   have hq':0=Q:=hq
   subst hq'
   simp only[go_sem,gu,zAV]
   exact V32
 ·have d1:((t[k].op:Int)==1)=false:=by rw[c];rfl
  have d4:((t[k].op:Int)==4)=true:=by rw[c];rfl
  obtain⟨ga,gb⟩:=g4.resolve_left Xa
  have hfa:eQ t t[k].a=true:=by simpa[jK,c]using hf
  have hw:(val e t k).num = -(val e t t[k].a).num:=by rw[hO (by omega) ga gb,c];rfl
  rw[hw]at hR
  subst hR
  simp only[go_sem,aO,hgk,d1,d4,iNq]
  refine⟨Xa,t,e,t[k].a,⟨rfl,rfl,rfl,Xa,hW,hT,hb,hfa⟩,?_⟩
  refine T9 ?_
  refine⟨(val e t t[k].a).num,⟨rfl,hsm Xa⟩,?_⟩
  simp only[go_sem,zAV]
  exact Z0
 ·have d1:((t[k].op:Int)==1)=false:=by rw[c];rfl
  have d4:((t[k].op:Int)==4)=false:=by rw[c];rfl
  have d6:((t[k].op:Int)==6)=true:=by rw[c];rfl
  obtain⟨ga,gb⟩:=g4.resolve_left Xa
  obtain⟨hfa,hfb⟩:eQ t t[k].a=true∧eQ t t[k].b=true:=by simpa[jK,c]using hf
  have hw:(val e t k).num=(val e t t[k].a).num+(val e t t[k].b).num:=by rw[hO (by omega) ga gb,c];rfl
  rw[hw]at hR
  subst hR
  simp only[go_sem,aO,hgk,d1,d4,d6,iNq]
  exact V59
 ·have d1:((t[k].op:Int)==1)=false:=by rw[c];rfl
  have d4:((t[k].op:Int)==4)=false:=by rw[c];rfl
  have d6:((t[k].op:Int)==6)=false:=by rw[c];rfl
  have d7:((t[k].op:Int)==7)=true:=by rw[c];rfl
  obtain⟨ga,gb⟩:=g4.resolve_left Xa
  obtain⟨hfa,hfb⟩:eQ t t[k].a=true∧eQ t t[k].b=true:=by simpa[jK,c]using hf
  have hw:(val e t k).num=(val e t t[k].a).num-(val e t t[k].b).num:=by rw[hO (by omega) ga gb,c];rfl
  rw[hw]at hR
  subst hR
  simp only[go_sem,aO,hgk,d1,d4,d6,d7,iNq]
  exact V59
theorem Gz(A:Prop):∀ d,EPp 193 (xL A d)
 |0=>by
  refine Ype fun _ H K h=>?_
  unfold xL at h
  split at h
  ·obtain⟨t,e,k,⟨_,_,_,h0,_⟩,_⟩:=h;omega
  ·exact h.elim
 |d+1=>KU (Gz A d)
def z9(n:Nd):Prop:=n.op=2→n.v≤1
theorem cz{a b:Int}:(if a=b then(0:Int)else if a<b then -1 else 1)=kX a b:=rfl
theorem CY{a b:Int}:(kX a b==0)=decide (a=b):=by
 rw[Bool.eq_iff_iff,beq_iff_eq,decide_eq_true_eq];unfold kX;split<;>(try split)<;>simp<;>omega
theorem L9{a b:Int}:(kX a b !=0)=!decide (a=b):=by
 show(!(kX a b==0))=_
 rw[CY]
theorem ND{b:Bool}:(b !=true)=!b:=by cases b<;>rfl
def yp(_A:Prop)(d:Nat):PCt
 |[.slice _ 7 x,.int .i64 i,.slice _ 4 y],_,K=>∃ t e k,(x=nds t∧i=((k:Nat):Int)∧y=aS e∧k<t.length∧k<d∧okW t∧AC t∧B0 e∧AllN z9 t∧eQ t k=false)∧K (.bool (val e t k).bo)
 |_,_,_=>False
theorem Gh{e:List (VN × Nat)}{t:List Nd}(hg:Good t){j:Nat}(h:j<t.length)(hn:eQ t j=true):val e t j=.i (val e t j).num:=by
 have:=GJ (e:=e) hg h
 rw[iS h]at hn
 rw[hn]at this
 cases hv:val e t j with
 |i z=>rfl
 |b x=>rw[hv]at this;cases this
theorem G1{e:List (VN × Nat)}{t:List Nd}(hg:Good t){j:Nat}(h:j<t.length)(hn:eQ t j=false):val e t j=.b (val e t j).bo:=by
 have:=GJ (e:=e) hg h
 rw[iS h]at hn
 rw[hn]at this
 cases hv:val e t j with
 |i z=>rw[hv]at this;cases this
 |b x=>rfl
theorem Lg{A:Prop}{d:Nat}(h_gTru:EPp 165 (yp A d)):EPp 165 (yp A (d+1)):=by
 refine Ype fun _ H K h=>?_
 unfold yp at h
 split at h<;>try exact h.elim
 rename_i m x i m2 y
 obtain⟨t,e,k,⟨rfl,rfl,rfl,hk,hkd,hW,hT,hb,hB,hN⟩,hK⟩:=h
 have hg:=hW.1
 obtain⟨g1,g2,g3,g4⟩:=ji hg hk
 have hve:∀ x∈e,x.2<2^128:=hb.2
 have hsm:∀{j:Nat},j<t.length→fE (val e t j).num:=fun hj=>AG (Cn hve hW hj)
 have hf:=hT k hk
 have hV:val e t k=jA e (gf e t k) t[k]:=t4 hk
 have hO:=fun h3 h4 h5=>@xb e t k hk h3 h4 h5
 have hnA:=iS hk
 rw[hN]at hnA
 have h_gInt:=Gz A d
 refine⟨_,hK,?_⟩
 clear hK
 generalize hR:(val e t k).bo=R
 have hgk:=dm hk
 have hx:¬ (t[k].op=1∨t[k].op=3∨t[k].op=4∨t[k].op=6∨t[k].op=7):=fun h=>by rw[isNum_cases.2 h]at hnA;cases hnA
 refine ACalls.fW az (tCq IV (tCq GL (tCq h_gInt (tCq h_gTru tNq)))) Tryz.func165 [.tmp 6] (nrq _) (T:=ay [(14,[[],[],[],[],[2],[],[],[],[],[2,4,7]]),(15,[[],[],[],[],[2],[],[],[],[],[2,4,7],[2,4,7,9]])]) (h:=fun hcl hlt=>?_)
 have hm:∀ n',H.nx≤n'→AV.lt n' (.slice m 7 (nds t)):=fun n' hn=>AV.lt_mono hn _ (hlt (.slice m 7 (nds t)) Xb)
 have hm2:∀ n',H.nx≤n'→AV.lt n' (.slice m2 4 (aS e)):=fun n' hn=>AV.lt_mono hn _ (hlt (.slice m2 4 (aS e)) Xb)
 clear hlt
 have d2':t[k].op≠2→((t[k].op:Int)==2)=false:=fun h=>beq_eq_false_iff_ne.2 Xa
 have d5':t[k].op≠5→((t[k].op:Int)==5)=false:=fun h=>beq_eq_false_iff_ne.2 Xa
 have d14':t[k].op≠14→((t[k].op:Int)==14)=false:=fun h=>beq_eq_false_iff_ne.2 Xa
 have d15':t[k].op≠15→((t[k].op:Int)==15)=false:=fun h=>beq_eq_false_iff_ne.2 Xa
 have d16':t[k].op≠16→((t[k].op:Int)==16)=false:=fun h=>beq_eq_false_iff_ne.2 Xa
 by_cases c2:t[k].op=2
 ·have d2:((t[k].op:Int)==2)=true:=by rw[c2];rfl
  have hvq:(((t[k].v/2^64:Nat):Int)==0&&((t[k].v%2^64:Nat):Int)==0)=decide (t[k].v=0):=by
   exact V161
  have hv0:=hB t[k] (gMq hk) c2
  have hv1:(!decide (t[k].v=0))=decide (t[k].v=1):=by
   rw[Bool.eq_iff_iff];simp;omega
  have hw:(val e t k).bo=decide (t[k].v=1):=by rw[hV];unfold jA;rw[if_neg (by omega),if_pos c2];rfl
  rw[hw]at hR
  subst hR
  simp only[go_sem,aO,hgk,d2,iNq,Eb,CO,Bool.bne_false,Bool.and_true,hvq,ND,hv1]
  exact V32
 have d2:=d2' c2
 by_cases c5:t[k].op=5
 ·have d5:((t[k].op:Int)==5)=true:=by rw[c5];rfl
  obtain⟨ga,gb⟩:=g4.resolve_left Xa
  have hfa:eQ t t[k].a=false:=by simpa[jK,c5]using hf
  have hw:(val e t k).bo=!(val e t t[k].a).bo:=by rw[hO (by omega) ga gb,c5];rfl
  rw[hw]at hR
  subst hR
  simp only[go_sem,aO,hgk,d2,d5,iNq]
  refine⟨Xa,t,e,t[k].a,⟨rfl,rfl,rfl,Xa,Xa,hW,hT,hb,hB,hfa⟩,?_⟩
  exact V33
 have d5:=d5' c5
 by_cases c14:t[k].op=14
 ·have d14:((t[k].op:Int)==14)=true:=by rw[c14];rfl
  obtain⟨ga,gb⟩:=g4.resolve_left Xa
  obtain⟨hfa,hfb⟩:eQ t t[k].a=false∧eQ t t[k].b=false:=by simpa[jK,c14]using hf
  have hw:(val e t k).bo=((val e t t[k].a).bo&&(val e t t[k].b).bo):=by rw[hO (by omega) ga gb,c14];rfl
  rw[hw]at hR
  subst hR
  simp only[go_sem,aO,hgk,d2,d5,d14,iNq]
  refine⟨Xa,t,e,t[k].a,⟨rfl,rfl,rfl,Xa,Xa,hW,hT,hb,hB,hfa⟩,?_⟩
  refine T9 ?_
  refine⟨fun hx1=>⟨t,e,t[k].b,⟨rfl,rfl,rfl,Xa,Xa,hW,hT,hb,hB,hfb⟩,?_⟩,fun hx1=>?_⟩
  ·refine T9 ?_
   exact Z54
  ·exact Z54
 have d14:=d14' c14
 by_cases c15:t[k].op=15
 ·have d15:((t[k].op:Int)==15)=true:=by rw[c15];rfl
  obtain⟨ga,gb⟩:=g4.resolve_left Xa
  obtain⟨hfa,hfb⟩:eQ t t[k].a=false∧eQ t t[k].b=false:=by simpa[jK,c15]using hf
  have hw:(val e t k).bo=((val e t t[k].a).bo||(val e t t[k].b).bo):=by rw[hO (by omega) ga gb,c15];rfl
  rw[hw]at hR
  subst hR
  simp only[go_sem,aO,hgk,d2,d5,d14,d15,iNq]
  exact V69
 have d15:=d15' c15
 by_cases c16:t[k].op=16
 ·have d16:((t[k].op:Int)==16)=true:=by rw[c16];rfl
  obtain⟨ga,gb⟩:=g4.resolve_left Xa
  obtain⟨hfa,hfb⟩:eQ t t[k].a=false∧eQ t t[k].b=false:=by simpa[jK,c16]using hf
  have hw:(val e t k).bo=(!(val e t t[k].a).bo||(val e t t[k].b).bo):=by rw[hO (by omega) ga gb,c16];rfl
  rw[hw]at hR
  subst hR
  simp only[go_sem,aO,hgk,d2,d5,d14,d15,d16,iNq]
  exact V69
 have d16:=d16' c16
 have h3:3<t[k].op:=Xa
 obtain⟨ga,gb⟩:=g4.resolve_left Xa
 have hka:t[k].a<t.length:=Xa
 have hkb:t[k].b<t.length:=Xa
 obtain⟨a1,a2,_⟩:=ji hg hka
 have hga:=dm hka
 have hna:=iS hka
 have hz:(val e t k).bo=(opV t[k].op (val e t t[k].a) (val e t t[k].b)).bo:=by rw[hO h3 ga gb]
 rw[hz]at hR
 simp only[go_sem,aO,hgk,hga,d2,d5,d14,d15,d16,iNq]
 refine⟨Xa,Xa,t[t[k].a],⟨rfl,a1,a2⟩,?_⟩
 cases hAn:mj t[t[k].a].op
 ·rw[hAn]at hna
  have h89:t[k].op=8∨t[k].op=9:=by
   by_cases h:t[k].op=8∨t[k].op=9
   ·exact h
   ·exfalso
    unfold jK at hf
    rw[if_neg Xa,if_neg Xa,if_neg Xa,if_neg h,if_neg Xa,hna]at hf
    cases hf
  have hnb:eQ t t[k].b=false:=by
   unfold jK at hf
   rw[if_neg Xa,if_neg Xa,if_neg Xa,if_pos h89,hna]at hf
   simpa using hf
  have hva:=G1 (e:=e) hg hka hna
  have hvb:=G1 (e:=e) hg hkb hnb
  have hR2:R=(((val e t t[k].a).bo==(val e t t[k].b).bo)==decide (t[k].op=8)):=by
   rw[← hR,hva,hvb]
   generalize (val e t t[k].a).bo=X
   generalize (val e t t[k].b).bo=Y
   rcases h89 with h|h<;>rw[h]
   ·show(X==Y)=_
    cases X<;>cases Y<;>rfl
   ·show(!(X==Y))=_
    cases X<;>cases Y<;>rfl
  have d8:((t[k].op:Int)==8)=decide (t[k].op=8):=by
   rw[Bool.eq_iff_iff,beq_iff_eq,decide_eq_true_eq];omega
  refine T9 ?_
  refine⟨t,e,t[k].a,⟨rfl,rfl,rfl,Xa,Xa,hW,hT,hb,hB,hna⟩,?_⟩
  refine T9 ?_
  refine⟨t,e,t[k].b,⟨rfl,rfl,rfl,Xa,Xa,hW,hT,hb,hB,hnb⟩,?_⟩
  simp only[go_sem,d8,Bool.bne_false]
  rw[hR2]
  exact Z0
 ·rw[hAn]at hna
  have hnb:eQ t t[k].b=true:=by
   unfold jK at hf
   rw[if_neg Xa,if_neg Xa,if_neg Xa,hna]at hf
   by_cases h:t[k].op=8∨t[k].op=9
   ·rw[if_pos h]at hf;simpa using hf
   ·rw[if_neg h,if_neg (Xa)]at hf;simpa using hf
  have hva:=Gh (e:=e) hg hka hna
  have hvb:=Gh (e:=e) hg hkb hnb
  refine T9 ?_
  refine⟨t,e,t[k].a,⟨rfl,rfl,rfl,Xa,hW,hT,hb,hna⟩,?_⟩
  refine T9 ?_
  refine⟨t,e,t[k].b,⟨rfl,rfl,rfl,Xa,hW,hT,hb,hnb⟩,?_⟩
  refine T9 ?_
  refine⟨(val e t t[k].a).num,(val e t t[k].b).num,⟨rfl,rfl,hsm hka,hsm hkb⟩,?_⟩
  rw[hva,hvb]at hR
  generalize (val e t t[k].a).num=X at *
  generalize (val e t t[k].b).num=Y at *
  rcases(Xa:t[k].op=8∨t[k].op=9∨t[k].op=10∨t[k].op=11∨t[k].op=12∨t[k].op=13)with c|c|c|c|c|c
  ·have hi:(t[k].op:Int)=8:=Xa
   have hw:R=decide (X=Y):=by rw[← hR,c];rfl
   rw[hw]
   simp only[go_sem,hi,Int.reduceBEq,cz,CY,Bool.bne_false]
   exact Z0
  ·have hi:(t[k].op:Int)=9:=Xa
   have hw:R=!decide (X=Y):=by rw[← hR,c];rfl
   rw[hw]
   simp only[go_sem,hi,Int.reduceBEq,cz,L9,Bool.bne_false]
   exact Z0
  ·have hi:(t[k].op:Int)=10:=Xa
   have hw:R=decide (X<Y):=by rw[← hR,c];rfl
   rw[hw]
   simp only[go_sem,hi,Int.reduceBEq,cz,uc]
   exact Z0
  ·have hi:(t[k].op:Int)=11:=Xa
   have hw:R=decide (X≤Y):=by rw[← hR,c];rfl
   rw[hw]
   simp only[go_sem,hi,Int.reduceBEq,cz,sZ]
   exact Z0
  ·have hi:(t[k].op:Int)=12:=Xa
   have hw:R=decide (Y<X):=by rw[← hR,c];rfl
   rw[hw]
   simp only[go_sem,hi,Int.reduceBEq,cz,tD]
   exact Z0
  ·have hi:(t[k].op:Int)=13:=Xa
   have hw:R=decide (Y≤X):=by rw[← hR,c];rfl
   rw[hw]
   simp only[go_sem,hi,Int.reduceBEq,cz,t8]
   exact Z0
theorem G8(A:Prop):∀ d,EPp 165 (yp A d)
 |0=>by
  refine Ype fun _ H K h=>?_
  unfold yp at h
  split at h
  ·obtain⟨t,e,k,⟨_,_,_,_,h0,_⟩,_⟩:=h;omega
  ·exact h.elim
 |d+1=>Lg (G8 A d)
def okC(t:List Nd):Prop:=t≠[]∧okW t∧AC t∧AllN z9 t∧eQ t (t.length-1)=false
def zW(e:List (VN × Nat))(t:List Nd):Bool:=(val e t (t.length-1)).bo
def yW:PCt
 |[.slice _ 7 x,.slice _ 4 y],_,K=>∃ t e,(x=nds t∧y=aS e∧okC t∧B0 e)∧K (.bool (zW e t))
 |_,_,_=>False
theorem It:EPp 132 yW:=by
 refine Ype fun _ H K h=>?_
 unfold yW at h
 split at h<;>try exact h.elim
 rename_i m x m2 y
 obtain⟨t,e,⟨rfl,rfl,⟨hne,hW,hT,hB,hN⟩,hb⟩,hK⟩:=h
 have h_gTru:=G8 True t.length
 have hl:0<t.length:=List.length_pos_iff.2 hne
 have hl2:=hW.2.2
 refine⟨_,hK,?_⟩
 clear hK
 generalize hd:t.length=d at h_gTru
 refine Yfu az (tCq h_gTru tNq) Tryz.func132 [.tmp 4] fun hcl=>?_
 have e6:IntKind.i64.wrap ((t.length:Int)-1)=((t.length-1:Nat):Int):=Xe
 simp only[go_sem,aO,e6]
 refine⟨t,e,t.length-1,⟨rfl,rfl,rfl,Xa,Xa,hW,hT,hb,hB,hN⟩,?_⟩
 refine T9 ?_
 unfold zW
 exact Z0
theorem P6{t:List Nd}{e:List (VN × Nat)}(h:okC t)(he:B0 e):okH e t∧Aj e t=val e t (t.length-1):=by
 obtain⟨hne,hW,hT,hB,hN⟩:=h
 have hl:0<t.length:=List.length_pos_iff.2 hne
 have hl2:=hW.2.2
 have hve:∀ x∈e,x.2<2^128:=he.2
 refine⟨⟨Xa,fun i hi=>?_⟩,?_⟩
 ·obtain⟨g1,g2,g3,g4⟩:=ji hW.1 hi
  refine⟨g1,g2,Xa,fun h3=>?_⟩
  obtain⟨ga,gb⟩:=g4.resolve_left Xa
  rw[wC ga Xa,wC gb (Xa)]
  have b1:=Cn hve hW (i:=t[i].a) Xa
  have b2:=Cn hve hW (i:=t[i].b) Xa
  unfold isN
  omega
 ·unfold Aj sV
  rw[if_neg Xa,show((t.length:Int)-1).toNat=t.length-1 by omega]
  rfl
end Go.AL
