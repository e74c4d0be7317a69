/- Lemmas of the proof; no condition. -/
import Derived.Test.YtpbnggedofiinaaGreatW03p
set_option linter.all false
set_option maxRecDepth 10000
set_option maxHeartbeats 32000000
open List renaming length_cons → yaz, length_nil → yba, length_map → ybb, take_of_length_le → ybc, drop_append → ybd, take_append → ybe, drop_eq_nil_of_le → ybf, cons_append → yal, nil_append → yak
open Go Go.AL Go.Proofs
namespace Go.AL
theorem yu:ti Tryz.prog 72=some ⟨.struct [(0,3,false),(1,9,false),(2,3,false)],3,32,.agg [.int .i64 0,.str [],.int .i64 0]⟩:=by kernel_rfl
theorem yJ:ti Tryz.prog 217=some ⟨.struct [(0,38,false),(2,38,false),(4,3,false)],5,40,.agg [.int .u64 0,.int .u64 0,.int .u64 0,.int .u64 0,.int .i64 0]⟩:=by kernel_rfl
theorem yn:ti Tryz.prog 223=some ⟨.struct [(0,9,false),(1,3,false)],2,24,.agg [.str [],.int .i64 0]⟩:=by kernel_rfl
theorem y8:ti Tryz.prog 221=some ⟨.struct [(0,3,false),(1,3,false),(2,219,false)],6,48,.agg [.int .i64 0,.int .i64 0,.int .i64 0,.int .i64 0,.int .u64 0,.int .u64 0]⟩:=by kernel_rfl
theorem zx:ti Tryz.prog 225=some ⟨.struct [(0,9,false),(1,3,false),(2,3,false)],3,32,.agg [.str [],.int .i64 0,.int .i64 0]⟩:=by kernel_rfl
theorem zt:ti Tryz.prog 81=some ⟨.struct [(0,3,false),(1,3,false)],2,16,.agg [.int .i64 0,.int .i64 0]⟩:=by kernel_rfl
theorem zc:ti Tryz.prog 83=some ⟨.struct [(0,3,false),(1,3,false),(2,3,false),(3,3,false),(4,3,false),(5,3,false)],6,48,.agg [.int .i64 0,.int .i64 0,.int .i64 0,.int .i64 0,.int .i64 0,.int .i64 0]⟩:=by kernel_rfl
theorem j9:ti Tryz.prog 38=some ⟨.struct [(0,36,false),(1,36,false)],2,16,.agg [.int .u64 0,.int .u64 0]⟩:=by kernel_rfl
theorem kS:ti Tryz.prog 219=some ⟨.struct [(0,3,false),(1,3,false),(2,38,false)],4,32,.agg [.int .i64 0,.int .i64 0,.int .u64 0,.int .u64 0]⟩:=by kernel_rfl
theorem pR:ti Tryz.prog 3=some ⟨.int .i64,1,8,.int .i64 0⟩:=by kernel_rfl
theorem pY:ti Tryz.prog 9=some ⟨.string,1,16,.str []⟩:=by kernel_rfl
theorem HV:ti Tryz.prog 4=some ⟨.bool,1,1,.bool false⟩:=by kernel_rfl
theorem n7:ti Tryz.prog 36=some ⟨.int .u64,1,8,.int .u64 0⟩:=by kernel_rfl
attribute [go_sem] yu yJ yn y8 zx zt zc j9 kS pR pY HV n7
def eqL {α:Type} (p:α→α→Bool):List α→List α→Bool
 |[],[]=>true
 |x::xs,y::ys=>p x y&&eqL p xs ys
 |_,_=>false
theorem cf {α:Type} {p:α→α→Bool}:∀ {xs ys:List α},xs.length≠ys.length→eqL p xs ys=false
 |[],[],h=>absurd rfl h
 |[],_::_,_=>rfl
 |_::_,[],_=>rfl
 |x::xs,y::ys,h=>by
  unfold eqL
  rw [cf (p:=p) (xs:=xs) (ys:=ys) (by simpa using h),Bool.and_false]
def iAV (x:Int):AV:=.int .i64 x
def bAV (x:Bool):AV:=.bool x
def eqI (x y:Int):Bool:=x==y
def eqB (x y:Bool):Bool:=x==y
def eqV (x y:Nat):Bool:=(((x/2^64:Nat):Int)==((y/2^64:Nat):Int))&&((((x % 2^64:Nat):Int)==((y % 2^64:Nat):Int))&&true)
theorem lx (x:Int):eqI x x=true:=by simp [eqI]
theorem lj (x:Bool):eqB x x=true:=by simp [eqB]
theorem lr (x:Nat):eqV x x=true:=by simp [eqV]
theorem aK {α:Type} {p:α→α→Bool} (hp:∀ x,p x x=true):∀ l,eqL p l l=true
 |[]=>rfl
 |x::l=>by unfold eqL;rw [hp,aK hp l];rfl
def gB (a b:SField):Bool:=(a.id==b.id)&&((a.name==b.name)&&((a.bits==b.bits)&&true))
theorem wQ (a:SField):gB a a=true:=by simp [gB,eqV]
theorem zd:Tryz.prog.eqGuardType Tryz.prog.depth 72=false:=by kernel_rfl
theorem zi {a b:SField}:teq Tryz.prog 9 72 (.agg [.int .i64 a.id,.str a.name,.int .i64 a.bits]) (.agg [.int .i64 b.id,.str b.name,.int .i64 b.bits])=some (gB a b):=by
 have g2:Tryz.prog.stoodInHeld 72=false:=by kernel_rfl
 have g3:Tryz.prog.stoodInHeld 38=false:=by kernel_rfl
 simp [yu,j9,kS,teq,teq.go,teq.part,pR,pY,n7,ceq,g2,g3,TD.agg,gB,eqV]
def iy (a b:SCase):Bool:=eqV a.value b.value&&(eqV a.mask b.mask&&((a.next==b.next)&&true))
theorem jw (a:SCase):iy a a=true:=by simp [iy,eqV]
theorem yR:Tryz.prog.eqGuardType Tryz.prog.depth 217=false:=by kernel_rfl
theorem yZ {a b:SCase}:teq Tryz.prog 9 217 (.agg [.int .u64 ((a.value/2^64:Nat):Int),.int .u64 ((a.value % 2^64:Nat):Int),.int .u64 ((a.mask/2^64:Nat):Int),.int .u64 ((a.mask % 2^64:Nat):Int),.int .i64 a.next]) (.agg [.int .u64 ((b.value/2^64:Nat):Int),.int .u64 ((b.value % 2^64:Nat):Int),.int .u64 ((b.mask/2^64:Nat):Int),.int .u64 ((b.mask % 2^64:Nat):Int),.int .i64 b.next])=some (iy a b):=by
 have g2:Tryz.prog.stoodInHeld 217=false:=by kernel_rfl
 have g3:Tryz.prog.stoodInHeld 38=false:=by kernel_rfl
 simp [yJ,j9,kS,teq,teq.go,teq.part,pR,pY,n7,ceq,g2,g3,TD.agg,iy,eqV]
def iw (a b:SParam):Bool:=(a.name==b.name)&&((a.bits==b.bits)&&true)
theorem jo (a:SParam):iw a a=true:=by simp [iw,eqV]
theorem yD:Tryz.prog.eqGuardType Tryz.prog.depth 223=false:=by kernel_rfl
theorem zh {a b:SParam}:teq Tryz.prog 9 223 (.agg [.str a.name,.int .i64 a.bits]) (.agg [.str b.name,.int .i64 b.bits])=some (iw a b):=by
 have g2:Tryz.prog.stoodInHeld 223=false:=by kernel_rfl
 have g3:Tryz.prog.stoodInHeld 38=false:=by kernel_rfl
 simp [yn,j9,kS,teq,teq.go,teq.part,pR,pY,n7,ceq,g2,g3,TD.agg,iw,eqV]
def ir (a b:SPrim):Bool:=(a.op==b.op)&&((a.dst==b.dst)&&((a.kind==b.kind)&&((a.n==b.n)&&(eqV a.value b.value&&true))))
theorem jq (a:SPrim):ir a a=true:=by simp [ir,eqV]
theorem yw:Tryz.prog.eqGuardType Tryz.prog.depth 221=false:=by kernel_rfl
theorem yL {a b:SPrim}:teq Tryz.prog 9 221 (.agg [.int .i64 a.op,.int .i64 a.dst,.int .i64 a.kind,.int .i64 a.n,.int .u64 ((a.value/2^64:Nat):Int),.int .u64 ((a.value % 2^64:Nat):Int)]) (.agg [.int .i64 b.op,.int .i64 b.dst,.int .i64 b.kind,.int .i64 b.n,.int .u64 ((b.value/2^64:Nat):Int),.int .u64 ((b.value % 2^64:Nat):Int)])=some (ir a b):=by
 have g2:Tryz.prog.stoodInHeld 221=false:=by kernel_rfl
 have g3:Tryz.prog.stoodInHeld 38=false:=by kernel_rfl
 simp [y8,j9,kS,teq,teq.go,teq.part,pR,pY,n7,ceq,g2,g3,TD.agg,ir,eqV]
def iB (a b:SKey):Bool:=(a.name==b.name)&&((a.field==b.field)&&((a.kind==b.kind)&&true))
theorem jz (a:SKey):iB a a=true:=by simp [iB,eqV]
theorem y0:Tryz.prog.eqGuardType Tryz.prog.depth 225=false:=by kernel_rfl
theorem zr {a b:SKey}:teq Tryz.prog 9 225 (.agg [.str a.name,.int .i64 a.field,.int .i64 a.kind]) (.agg [.str b.name,.int .i64 b.field,.int .i64 b.kind])=some (iB a b):=by
 have g2:Tryz.prog.stoodInHeld 225=false:=by kernel_rfl
 have g3:Tryz.prog.stoodInHeld 38=false:=by kernel_rfl
 simp [zx,j9,kS,teq,teq.go,teq.part,pR,pY,n7,ceq,g2,g3,TD.agg,iB,eqV]
def hZ (a b:SStage):Bool:=(a.table==b.table)&&((a.header==b.header)&&true)
theorem xl (a:SStage):hZ a a=true:=by simp [hZ,eqV]
theorem y5:Tryz.prog.eqGuardType Tryz.prog.depth 81=false:=by kernel_rfl
theorem zz {a b:SStage}:teq Tryz.prog 9 81 (.agg [.int .i64 a.table,.int .i64 a.header]) (.agg [.int .i64 b.table,.int .i64 b.header])=some (hZ a b):=by
 have g2:Tryz.prog.stoodInHeld 81=false:=by kernel_rfl
 have g3:Tryz.prog.stoodInHeld 38=false:=by kernel_rfl
 simp [zt,j9,kS,teq,teq.go,teq.part,pR,pY,n7,ceq,g2,g3,TD.agg,hZ,eqV]
def hU (a b:SRef):Bool:=(a.table==b.table)&&((a.key==b.key)&&((a.action==b.action)&&((a.param==b.param)&&((a.toTable==b.toTable)&&((a.toKey==b.toKey)&&true)))))
theorem wR (a:SRef):hU a a=true:=by simp [hU,eqV]
theorem yG:Tryz.prog.eqGuardType Tryz.prog.depth 83=false:=by kernel_rfl
theorem y7 {a b:SRef}:teq Tryz.prog 9 83 (.agg [.int .i64 a.table,.int .i64 a.key,.int .i64 a.action,.int .i64 a.param,.int .i64 a.toTable,.int .i64 a.toKey]) (.agg [.int .i64 b.table,.int .i64 b.key,.int .i64 b.action,.int .i64 b.param,.int .i64 b.toTable,.int .i64 b.toKey])=some (hU a b):=by
 have g2:Tryz.prog.stoodInHeld 83=false:=by kernel_rfl
 have g3:Tryz.prog.stoodInHeld 38=false:=by kernel_rfl
 simp [zc,j9,kS,teq,teq.go,teq.part,pR,pY,n7,ceq,g2,g3,TD.agg,hU,eqV]
theorem yM:Tryz.prog.eqGuardType Tryz.prog.depth 38=false:=by kernel_rfl
theorem zy {a b:Nat}:teq Tryz.prog 9 38 (.agg [.int .u64 ((a/2^64:Nat):Int),.int .u64 ((a % 2^64:Nat):Int)]) (.agg [.int .u64 ((b/2^64:Nat):Int),.int .u64 ((b % 2^64:Nat):Int)])=some (eqV a b):=by
 have g3:Tryz.prog.stoodInHeld 38=false:=by kernel_rfl
 simp [j9,teq,teq.go,teq.part,n7,ceq,g3,TD.agg,eqV]
def aW:List AV→AHeap→(AV→Prop)→Prop
 |[.slice _ 3 l,.slice _ 3 k],_,K=>∃ xs ys:List (SField),(l=xs.map br∧k=ys.map br∧xs.length≤140737488355328∧ys.length≤140737488355328∧True)∧K (.bool (eqL gB xs ys))
 |_,_,_=>False
theorem gP:EntOk Tryz.prog 94 (Ent.pure aW):=by
 refine Ype fun _ H K h=>?_
 unfold aW at h
 split at h
 rotate_left
 ·exact h.elim
 rename_i m1 l m2 k
 obtain ⟨xs,ys,⟨rfl,rfl,hl1,hl2,ho⟩,hK⟩:=h
 clear ho
 refine ⟨_,hK,?_⟩
 clear hK
 obtain ⟨R,hR⟩:∃ R,eqL gB xs ys=R:=⟨_,rfl⟩
 rw [hR]
 by_cases hlen:xs.length=ys.length
 case neg =>
  rw [cf hlen] at hR
  subst hR
  have d0:((xs.length:Int) != (ys.length:Int))=true:=by rw [bne_iff_ne];omega
  refine ACalls.fW ag tNq Tryz.func94 [.tmp 4] (nrq _) (T:=af []) (h:=fun hcl hlt=>?_)
  clear hlt
  simp only [go_sem,ybb,d0]
  simp (disch:=first|exact Zd|omega) [↓zmo,beq,ybc,ybd,ybe,aa,wk,wk2,wk1,wkM,wkL,ak,ybf,hcl]
 have d0:((xs.length:Int) != (ys.length:Int))=false:=by rw [hlen];simp
 refine ACalls.fW ag tNq Tryz.func94 [.tmp 4] (nrq _) (T:=af []) (h:=fun hcl hlt=>?_)
 have hs1:=hlt (.slice m1 3 (xs.map br)) (by simp)
 have hs2:=hlt (.slice m2 3 (ys.map br)) (by simp)
 clear hlt
 simp only [go_sem,ybb,d0]
 refine aq (A:=Nat) (fun k=>[(0,.slice m1 3 (xs.map br)),(1,.slice m2 3 (ys.map br)),(12,.int .i64 (xs.length:Int)),(13,.int .i64 (k:Int))]) (fun _=>H) (fun k=>k≤xs.length∧eqL gB (xs.drop k) (ys.drop k)=R) (fun k=>xs.length - k) 0 ⟨by omega,hR⟩ ?_ fun k hk=>?_
 ·refine ⟨by simp only [zkq,zkv];omega,lRq _,hcl,?_,?_⟩
  ·simp only [ltF,znf,and_true,true_and]
   exact ⟨hs1,hs2⟩
  ·simp [aM,wk2,wk1,wkM,Fr.get]
 obtain ⟨hk,hq⟩:=hk
 simp only [go_sem]
 refine ae (fun hc=>?_) (fun hc=>?_)
 ·have hk':k<xs.length:=by simp at hc;omega
  have hk2:k<ys.length:=by omega
  obtain ⟨x,hx⟩:∃ x,x=xs[k]:=⟨_,rfl⟩
  obtain ⟨y,hy⟩:∃ y,y=ys[k]:=⟨_,rfl⟩
  have hd:xs.drop k=x::xs.drop (k+1):=by rw [hx];exact dcq hk'
  have hd2:ys.drop k=y::ys.drop (k+1):=by rw [hy];exact dcq hk2
  have hg:=av (f:=br) (l:=xs) (k:=k) (x:=x) (by rw [gQq hk',hx])
  have hg2:=av (f:=br) (l:=ys) (k:=k) (x:=y) (by rw [gQq hk2,hy])
  have e5:=Yk5 k
  rw [hd,hd2] at hq
  unfold eqL at hq
  simp only [go_sem,iNq,ybb,hg,hg2,br,br,zi,zd,Bool.bne_false,Bool.bne_true,vc,yal,yak]
  (repeat with_reducible refine And.intro (by first|assumption|decide|omega) ?_)
  refine ae (fun hb=>?_) (fun hb=>?_)
  ·have hb':gB x y=false:=by first|(simpa using hb;done)|(simpa [gB] using hb)
   rw [hb',Bool.false_and] at hq
   rw [← hq]
   try simp only [go_sem]
   simp (disch:=first|exact Zd|omega) [↓zmo,beq,ybc,ybd,ybe,aa,wk,wk2,wk1,wkM,wkL,ak,ybf,hcl]
   first|done|repeat first|exact .refl _|refine .push ?_ _
  ·have hb':gB x y=true:=by first|(simpa using hb;done)|(simpa [gB] using hb)
   rw [hb',Bool.true_and] at hq
   simp only [go_sem,e5]
   refine ⟨k+1,⟨by omega,hq⟩,by omega,by (try simp only [zle]);omega,by repeat first|exact .refl _|refine .push ?_ _,hcl,?_,?_⟩
   ·simp only [ltF,znf,and_true,true_and]
    exact ⟨hs1,hs2⟩
   ·simp [aM,wk2,wk1,wkM,Fr.get]
 ·have hk':k=xs.length:=by simp at hc;omega
  subst hk'
  rw [List.drop_length,hlen,List.drop_length] at hq
  rw [← hq]
  simp only [go_sem,eqL]
  exact Z2
def mS:List AV→AHeap→(AV→Prop)→Prop
 |[.slice _ 3 l,.slice _ 3 k],_,K=>∃ xs ys:List (SField),(l=xs.map br∧k=ys.map br∧xs.length≤140737488355328∧ys.length≤140737488355328∧True)∧K (.bool (eqL gB xs ys))
 |_,_,_=>False
theorem oO:EntOk Tryz.prog 191 (Ent.pure mS):=by
 refine Ype fun _ H K h=>?_
 unfold mS at h
 split at h
 rotate_left
 ·exact h.elim
 rename_i m1 l m2 k
 obtain ⟨xs,ys,⟨rfl,rfl,hl1,hl2,ho⟩,hK⟩:=h
 clear ho
 refine ⟨_,hK,?_⟩
 clear hK
 obtain ⟨R,hR⟩:∃ R,eqL gB xs ys=R:=⟨_,rfl⟩
 rw [hR]
 by_cases hlen:xs.length=ys.length
 case neg =>
  rw [cf hlen] at hR
  subst hR
  have d0:((xs.length:Int) != (ys.length:Int))=true:=by rw [bne_iff_ne];omega
  refine ACalls.fW ag tNq Tryz.func191 [.tmp 4] (nrq _) (T:=af []) (h:=fun hcl hlt=>?_)
  clear hlt
  simp only [go_sem,ybb,d0]
  simp (disch:=first|exact Zd|omega) [↓zmo,beq,ybc,ybd,ybe,aa,wk,wk2,wk1,wkM,wkL,ak,ybf,hcl]
 have d0:((xs.length:Int) != (ys.length:Int))=false:=by rw [hlen];simp
 refine ACalls.fW ag tNq Tryz.func191 [.tmp 4] (nrq _) (T:=af []) (h:=fun hcl hlt=>?_)
 have hs1:=hlt (.slice m1 3 (xs.map br)) (by simp)
 have hs2:=hlt (.slice m2 3 (ys.map br)) (by simp)
 clear hlt
 simp only [go_sem,ybb,d0]
 refine aq (A:=Nat) (fun k=>[(0,.slice m1 3 (xs.map br)),(1,.slice m2 3 (ys.map br)),(12,.int .i64 (xs.length:Int)),(13,.int .i64 (k:Int))]) (fun _=>H) (fun k=>k≤xs.length∧eqL gB (xs.drop k) (ys.drop k)=R) (fun k=>xs.length - k) 0 ⟨by omega,hR⟩ ?_ fun k hk=>?_
 ·refine ⟨by simp only [zkq,zkv];omega,lRq _,hcl,?_,?_⟩
  ·simp only [ltF,znf,and_true,true_and]
   exact ⟨hs1,hs2⟩
  ·simp [aM,wk2,wk1,wkM,Fr.get]
 obtain ⟨hk,hq⟩:=hk
 simp only [go_sem]
 refine ae (fun hc=>?_) (fun hc=>?_)
 ·have hk':k<xs.length:=by simp at hc;omega
  have hk2:k<ys.length:=by omega
  obtain ⟨x,hx⟩:∃ x,x=xs[k]:=⟨_,rfl⟩
  obtain ⟨y,hy⟩:∃ y,y=ys[k]:=⟨_,rfl⟩
  have hd:xs.drop k=x::xs.drop (k+1):=by rw [hx];exact dcq hk'
  have hd2:ys.drop k=y::ys.drop (k+1):=by rw [hy];exact dcq hk2
  have hg:=av (f:=br) (l:=xs) (k:=k) (x:=x) (by rw [gQq hk',hx])
  have hg2:=av (f:=br) (l:=ys) (k:=k) (x:=y) (by rw [gQq hk2,hy])
  have e5:=Yk5 k
  rw [hd,hd2] at hq
  unfold eqL at hq
  simp only [go_sem,iNq,ybb,hg,hg2,br,br,zi,zd,Bool.bne_false,Bool.bne_true,vc,yal,yak]
  (repeat with_reducible refine And.intro (by first|assumption|decide|omega) ?_)
  refine ae (fun hb=>?_) (fun hb=>?_)
  ·have hb':gB x y=false:=by first|(simpa using hb;done)|(simpa [gB] using hb)
   rw [hb',Bool.false_and] at hq
   rw [← hq]
   try simp only [go_sem]
   simp (disch:=first|exact Zd|omega) [↓zmo,beq,ybc,ybd,ybe,aa,wk,wk2,wk1,wkM,wkL,ak,ybf,hcl]
   first|done|repeat first|exact .refl _|refine .push ?_ _
  ·have hb':gB x y=true:=by first|(simpa using hb;done)|(simpa [gB] using hb)
   rw [hb',Bool.true_and] at hq
   simp only [go_sem,e5]
   refine ⟨k+1,⟨by omega,hq⟩,by omega,by (try simp only [zle]);omega,by repeat first|exact .refl _|refine .push ?_ _,hcl,?_,?_⟩
   ·simp only [ltF,znf,and_true,true_and]
    exact ⟨hs1,hs2⟩
   ·simp [aM,wk2,wk1,wkM,Fr.get]
 ·have hk':k=xs.length:=by simp at hc;omega
  subst hk'
  rw [List.drop_length,hlen,List.drop_length] at hq
  rw [← hq]
  simp only [go_sem,eqL]
  exact Z2
def iT:List AV→AHeap→(AV→Prop)→Prop
 |[.slice _ 5 l,.slice _ 5 k],_,K=>∃ xs ys:List (SCase),(l=xs.map bW∧k=ys.map bW∧xs.length≤140737488355328∧ys.length≤140737488355328∧True)∧K (.bool (eqL iy xs ys))
 |_,_,_=>False
theorem lB:EntOk Tryz.prog 197 (Ent.pure iT):=by
 refine Ype fun _ H K h=>?_
 unfold iT at h
 split at h
 rotate_left
 ·exact h.elim
 rename_i m1 l m2 k
 obtain ⟨xs,ys,⟨rfl,rfl,hl1,hl2,ho⟩,hK⟩:=h
 clear ho
 refine ⟨_,hK,?_⟩
 clear hK
 obtain ⟨R,hR⟩:∃ R,eqL iy xs ys=R:=⟨_,rfl⟩
 rw [hR]
 by_cases hlen:xs.length=ys.length
 case neg =>
  rw [cf hlen] at hR
  subst hR
  have d0:((xs.length:Int) != (ys.length:Int))=true:=by rw [bne_iff_ne];omega
  refine ACalls.fW ag tNq Tryz.func197 [.tmp 4] (nrq _) (T:=af []) (h:=fun hcl hlt=>?_)
  clear hlt
  simp only [go_sem,ybb,d0]
  simp (disch:=first|exact Zd|omega) [↓zmo,beq,ybc,ybd,ybe,aa,wk,wk2,wk1,wkM,wkL,ak,ybf,hcl]
 have d0:((xs.length:Int) != (ys.length:Int))=false:=by rw [hlen];simp
 refine ACalls.fW ag tNq Tryz.func197 [.tmp 4] (nrq _) (T:=af []) (h:=fun hcl hlt=>?_)
 have hs1:=hlt (.slice m1 5 (xs.map bW)) (by simp)
 have hs2:=hlt (.slice m2 5 (ys.map bW)) (by simp)
 clear hlt
 simp only [go_sem,ybb,d0]
 refine aq (A:=Nat) (fun k=>[(0,.slice m1 5 (xs.map bW)),(1,.slice m2 5 (ys.map bW)),(12,.int .i64 (xs.length:Int)),(13,.int .i64 (k:Int))]) (fun _=>H) (fun k=>k≤xs.length∧eqL iy (xs.drop k) (ys.drop k)=R) (fun k=>xs.length - k) 0 ⟨by omega,hR⟩ ?_ fun k hk=>?_
 ·refine ⟨by simp only [zkq,zkv];omega,lRq _,hcl,?_,?_⟩
  ·simp only [ltF,znf,and_true,true_and]
   exact ⟨hs1,hs2⟩
  ·simp [aM,wk2,wk1,wkM,Fr.get]
 obtain ⟨hk,hq⟩:=hk
 simp only [go_sem]
 refine ae (fun hc=>?_) (fun hc=>?_)
 ·have hk':k<xs.length:=by simp at hc;omega
  have hk2:k<ys.length:=by omega
  obtain ⟨x,hx⟩:∃ x,x=xs[k]:=⟨_,rfl⟩
  obtain ⟨y,hy⟩:∃ y,y=ys[k]:=⟨_,rfl⟩
  have hd:xs.drop k=x::xs.drop (k+1):=by rw [hx];exact dcq hk'
  have hd2:ys.drop k=y::ys.drop (k+1):=by rw [hy];exact dcq hk2
  have hg:=av (f:=bW) (l:=xs) (k:=k) (x:=x) (by rw [gQq hk',hx])
  have hg2:=av (f:=bW) (l:=ys) (k:=k) (x:=y) (by rw [gQq hk2,hy])
  have e5:=Yk5 k
  rw [hd,hd2] at hq
  unfold eqL at hq
  simp only [go_sem,iNq,ybb,hg,hg2,bW,bW,yZ,yR,Bool.bne_false,Bool.bne_true,vc,yal,yak]
  (repeat with_reducible refine And.intro (by first|assumption|decide|omega) ?_)
  refine ae (fun hb=>?_) (fun hb=>?_)
  ·have hb':iy x y=false:=by first|(simpa using hb;done)|(simpa [iy] using hb)
   rw [hb',Bool.false_and] at hq
   rw [← hq]
   try simp only [go_sem]
   simp (disch:=first|exact Zd|omega) [↓zmo,beq,ybc,ybd,ybe,aa,wk,wk2,wk1,wkM,wkL,ak,ybf,hcl]
   first|done|repeat first|exact .refl _|refine .push ?_ _
  ·have hb':iy x y=true:=by first|(simpa using hb;done)|(simpa [iy] using hb)
   rw [hb',Bool.true_and] at hq
   simp only [go_sem,e5]
   refine ⟨k+1,⟨by omega,hq⟩,by omega,by (try simp only [zle]);omega,by repeat first|exact .refl _|refine .push ?_ _,hcl,?_,?_⟩
   ·simp only [ltF,znf,and_true,true_and]
    exact ⟨hs1,hs2⟩
   ·simp [aM,wk2,wk1,wkM,Fr.get]
 ·have hk':k=xs.length:=by simp at hc;omega
  subst hk'
  rw [List.drop_length,hlen,List.drop_length] at hq
  rw [← hq]
  simp only [go_sem,eqL]
  exact Z2
def jB:List AV→AHeap→(AV→Prop)→Prop
 |[.slice _ 5 l,.slice _ 5 k],_,K=>∃ xs ys:List (SCase),(l=xs.map bW∧k=ys.map bW∧xs.length≤140737488355328∧ys.length≤140737488355328∧True)∧K (.bool (eqL iy xs ys))
 |_,_,_=>False
theorem oC:EntOk Tryz.prog 192 (Ent.pure jB):=by
 refine Ype fun _ H K h=>?_
 unfold jB at h
 split at h
 rotate_left
 ·exact h.elim
 rename_i m1 l m2 k
 obtain ⟨xs,ys,⟨rfl,rfl,hl1,hl2,ho⟩,hK⟩:=h
 clear ho
 refine ⟨_,hK,?_⟩
 clear hK
 obtain ⟨R,hR⟩:∃ R,eqL iy xs ys=R:=⟨_,rfl⟩
 rw [hR]
 by_cases hlen:xs.length=ys.length
 case neg =>
  rw [cf hlen] at hR
  subst hR
  have d0:((xs.length:Int) != (ys.length:Int))=true:=by rw [bne_iff_ne];omega
  refine ACalls.fW ag tNq Tryz.func192 [.tmp 4] (nrq _) (T:=af []) (h:=fun hcl hlt=>?_)
  clear hlt
  simp only [go_sem,ybb,d0]
  simp (disch:=first|exact Zd|omega) [↓zmo,beq,ybc,ybd,ybe,aa,wk,wk2,wk1,wkM,wkL,ak,ybf,hcl]
 have d0:((xs.length:Int) != (ys.length:Int))=false:=by rw [hlen];simp
 refine ACalls.fW ag tNq Tryz.func192 [.tmp 4] (nrq _) (T:=af []) (h:=fun hcl hlt=>?_)
 have hs1:=hlt (.slice m1 5 (xs.map bW)) (by simp)
 have hs2:=hlt (.slice m2 5 (ys.map bW)) (by simp)
 clear hlt
 simp only [go_sem,ybb,d0]
 refine aq (A:=Nat) (fun k=>[(0,.slice m1 5 (xs.map bW)),(1,.slice m2 5 (ys.map bW)),(12,.int .i64 (xs.length:Int)),(13,.int .i64 (k:Int))]) (fun _=>H) (fun k=>k≤xs.length∧eqL iy (xs.drop k) (ys.drop k)=R) (fun k=>xs.length - k) 0 ⟨by omega,hR⟩ ?_ fun k hk=>?_
 ·refine ⟨by simp only [zkq,zkv];omega,lRq _,hcl,?_,?_⟩
  ·simp only [ltF,znf,and_true,true_and]
   exact ⟨hs1,hs2⟩
  ·simp [aM,wk2,wk1,wkM,Fr.get]
 obtain ⟨hk,hq⟩:=hk
 simp only [go_sem]
 refine ae (fun hc=>?_) (fun hc=>?_)
 ·have hk':k<xs.length:=by simp at hc;omega
  have hk2:k<ys.length:=by omega
  obtain ⟨x,hx⟩:∃ x,x=xs[k]:=⟨_,rfl⟩
  obtain ⟨y,hy⟩:∃ y,y=ys[k]:=⟨_,rfl⟩
  have hd:xs.drop k=x::xs.drop (k+1):=by rw [hx];exact dcq hk'
  have hd2:ys.drop k=y::ys.drop (k+1):=by rw [hy];exact dcq hk2
  have hg:=av (f:=bW) (l:=xs) (k:=k) (x:=x) (by rw [gQq hk',hx])
  have hg2:=av (f:=bW) (l:=ys) (k:=k) (x:=y) (by rw [gQq hk2,hy])
  have e5:=Yk5 k
  rw [hd,hd2] at hq
  unfold eqL at hq
  simp only [go_sem,iNq,ybb,hg,hg2,bW,bW,yZ,yR,Bool.bne_false,Bool.bne_true,vc,yal,yak]
  (repeat with_reducible refine And.intro (by first|assumption|decide|omega) ?_)
  refine ae (fun hb=>?_) (fun hb=>?_)
  ·have hb':iy x y=false:=by first|(simpa using hb;done)|(simpa [iy] using hb)
   rw [hb',Bool.false_and] at hq
   rw [← hq]
   try simp only [go_sem]
   simp (disch:=first|exact Zd|omega) [↓zmo,beq,ybc,ybd,ybe,aa,wk,wk2,wk1,wkM,wkL,ak,ybf,hcl]
   first|done|repeat first|exact .refl _|refine .push ?_ _
  ·have hb':iy x y=true:=by first|(simpa using hb;done)|(simpa [iy] using hb)
   rw [hb',Bool.true_and] at hq
   simp only [go_sem,e5]
   refine ⟨k+1,⟨by omega,hq⟩,by omega,by (try simp only [zle]);omega,by repeat first|exact .refl _|refine .push ?_ _,hcl,?_,?_⟩
   ·simp only [ltF,znf,and_true,true_and]
    exact ⟨hs1,hs2⟩
   ·simp [aM,wk2,wk1,wkM,Fr.get]
 ·have hk':k=xs.length:=by simp at hc;omega
  subst hk'
  rw [List.drop_length,hlen,List.drop_length] at hq
  rw [← hq]
  simp only [go_sem,eqL]
  exact Z2
def gf:List AV→AHeap→(AV→Prop)→Prop
 |[.slice _ 2 l,.slice _ 2 k],_,K=>∃ xs ys:List (SParam),(l=xs.map bE∧k=ys.map bE∧xs.length≤140737488355328∧ys.length≤140737488355328∧True)∧K (.bool (eqL iw xs ys))
 |_,_,_=>False
theorem ls:EntOk Tryz.prog 198 (Ent.pure gf):=by
 refine Ype fun _ H K h=>?_
 unfold gf at h
 split at h
 rotate_left
 ·exact h.elim
 rename_i m1 l m2 k
 obtain ⟨xs,ys,⟨rfl,rfl,hl1,hl2,ho⟩,hK⟩:=h
 clear ho
 refine ⟨_,hK,?_⟩
 clear hK
 obtain ⟨R,hR⟩:∃ R,eqL iw xs ys=R:=⟨_,rfl⟩
 rw [hR]
 by_cases hlen:xs.length=ys.length
 case neg =>
  rw [cf hlen] at hR
  subst hR
  have d0:((xs.length:Int) != (ys.length:Int))=true:=by rw [bne_iff_ne];omega
  refine ACalls.fW ag tNq Tryz.func198 [.tmp 4] (nrq _) (T:=af []) (h:=fun hcl hlt=>?_)
  clear hlt
  simp only [go_sem,ybb,d0]
  simp (disch:=first|exact Zd|omega) [↓zmo,beq,ybc,ybd,ybe,aa,wk,wk2,wk1,wkM,wkL,ak,ybf,hcl]
 have d0:((xs.length:Int) != (ys.length:Int))=false:=by rw [hlen];simp
 refine ACalls.fW ag tNq Tryz.func198 [.tmp 4] (nrq _) (T:=af []) (h:=fun hcl hlt=>?_)
 have hs1:=hlt (.slice m1 2 (xs.map bE)) (by simp)
 have hs2:=hlt (.slice m2 2 (ys.map bE)) (by simp)
 clear hlt
 simp only [go_sem,ybb,d0]
 refine aq (A:=Nat) (fun k=>[(0,.slice m1 2 (xs.map bE)),(1,.slice m2 2 (ys.map bE)),(12,.int .i64 (xs.length:Int)),(13,.int .i64 (k:Int))]) (fun _=>H) (fun k=>k≤xs.length∧eqL iw (xs.drop k) (ys.drop k)=R) (fun k=>xs.length - k) 0 ⟨by omega,hR⟩ ?_ fun k hk=>?_
 ·refine ⟨by simp only [zkq,zkv];omega,lRq _,hcl,?_,?_⟩
  ·simp only [ltF,znf,and_true,true_and]
   exact ⟨hs1,hs2⟩
  ·simp [aM,wk2,wk1,wkM,Fr.get]
 obtain ⟨hk,hq⟩:=hk
 simp only [go_sem]
 refine ae (fun hc=>?_) (fun hc=>?_)
 ·have hk':k<xs.length:=by simp at hc;omega
  have hk2:k<ys.length:=by omega
  obtain ⟨x,hx⟩:∃ x,x=xs[k]:=⟨_,rfl⟩
  obtain ⟨y,hy⟩:∃ y,y=ys[k]:=⟨_,rfl⟩
  have hd:xs.drop k=x::xs.drop (k+1):=by rw [hx];exact dcq hk'
  have hd2:ys.drop k=y::ys.drop (k+1):=by rw [hy];exact dcq hk2
  have hg:=av (f:=bE) (l:=xs) (k:=k) (x:=x) (by rw [gQq hk',hx])
  have hg2:=av (f:=bE) (l:=ys) (k:=k) (x:=y) (by rw [gQq hk2,hy])
  have e5:=Yk5 k
  rw [hd,hd2] at hq
  unfold eqL at hq
  simp only [go_sem,iNq,ybb,hg,hg2,bE,bE,zh,yD,Bool.bne_false,Bool.bne_true,vc,yal,yak]
  (repeat with_reducible refine And.intro (by first|assumption|decide|omega) ?_)
  refine ae (fun hb=>?_) (fun hb=>?_)
  ·have hb':iw x y=false:=by first|(simpa using hb;done)|(simpa [iw] using hb)
   rw [hb',Bool.false_and] at hq
   rw [← hq]
   try simp only [go_sem]
   simp (disch:=first|exact Zd|omega) [↓zmo,beq,ybc,ybd,ybe,aa,wk,wk2,wk1,wkM,wkL,ak,ybf,hcl]
   first|done|repeat first|exact .refl _|refine .push ?_ _
  ·have hb':iw x y=true:=by first|(simpa using hb;done)|(simpa [iw] using hb)
   rw [hb',Bool.true_and] at hq
   simp only [go_sem,e5]
   refine ⟨k+1,⟨by omega,hq⟩,by omega,by (try simp only [zle]);omega,by repeat first|exact .refl _|refine .push ?_ _,hcl,?_,?_⟩
   ·simp only [ltF,znf,and_true,true_and]
    exact ⟨hs1,hs2⟩
   ·simp [aM,wk2,wk1,wkM,Fr.get]
 ·have hk':k=xs.length:=by simp at hc;omega
  subst hk'
  rw [List.drop_length,hlen,List.drop_length] at hq
  rw [← hq]
  simp only [go_sem,eqL]
  exact Z2
def gX:List AV→AHeap→(AV→Prop)→Prop
 |[.slice _ 2 l,.slice _ 2 k],_,K=>∃ xs ys:List (SParam),(l=xs.map bE∧k=ys.map bE∧xs.length≤140737488355328∧ys.length≤140737488355328∧True)∧K (.bool (eqL iw xs ys))
 |_,_,_=>False
theorem ra:EntOk Tryz.prog 193 (Ent.pure gX):=by
 refine Ype fun _ H K h=>?_
 unfold gX at h
 split at h
 rotate_left
 ·exact h.elim
 rename_i m1 l m2 k
 obtain ⟨xs,ys,⟨rfl,rfl,hl1,hl2,ho⟩,hK⟩:=h
 clear ho
 refine ⟨_,hK,?_⟩
 clear hK
 obtain ⟨R,hR⟩:∃ R,eqL iw xs ys=R:=⟨_,rfl⟩
 rw [hR]
 by_cases hlen:xs.length=ys.length
 case neg =>
  rw [cf hlen] at hR
  subst hR
  have d0:((xs.length:Int) != (ys.length:Int))=true:=by rw [bne_iff_ne];omega
  refine ACalls.fW ag tNq Tryz.func193 [.tmp 4] (nrq _) (T:=af []) (h:=fun hcl hlt=>?_)
  clear hlt
  simp only [go_sem,ybb,d0]
  simp (disch:=first|exact Zd|omega) [↓zmo,beq,ybc,ybd,ybe,aa,wk,wk2,wk1,wkM,wkL,ak,ybf,hcl]
 have d0:((xs.length:Int) != (ys.length:Int))=false:=by rw [hlen];simp
 refine ACalls.fW ag tNq Tryz.func193 [.tmp 4] (nrq _) (T:=af []) (h:=fun hcl hlt=>?_)
 have hs1:=hlt (.slice m1 2 (xs.map bE)) (by simp)
 have hs2:=hlt (.slice m2 2 (ys.map bE)) (by simp)
 clear hlt
 simp only [go_sem,ybb,d0]
 refine aq (A:=Nat) (fun k=>[(0,.slice m1 2 (xs.map bE)),(1,.slice m2 2 (ys.map bE)),(12,.int .i64 (xs.length:Int)),(13,.int .i64 (k:Int))]) (fun _=>H) (fun k=>k≤xs.length∧eqL iw (xs.drop k) (ys.drop k)=R) (fun k=>xs.length - k) 0 ⟨by omega,hR⟩ ?_ fun k hk=>?_
 ·refine ⟨by simp only [zkq,zkv];omega,lRq _,hcl,?_,?_⟩
  ·simp only [ltF,znf,and_true,true_and]
   exact ⟨hs1,hs2⟩
  ·simp [aM,wk2,wk1,wkM,Fr.get]
 obtain ⟨hk,hq⟩:=hk
 simp only [go_sem]
 refine ae (fun hc=>?_) (fun hc=>?_)
 ·have hk':k<xs.length:=by simp at hc;omega
  have hk2:k<ys.length:=by omega
  obtain ⟨x,hx⟩:∃ x,x=xs[k]:=⟨_,rfl⟩
  obtain ⟨y,hy⟩:∃ y,y=ys[k]:=⟨_,rfl⟩
  have hd:xs.drop k=x::xs.drop (k+1):=by rw [hx];exact dcq hk'
  have hd2:ys.drop k=y::ys.drop (k+1):=by rw [hy];exact dcq hk2
  have hg:=av (f:=bE) (l:=xs) (k:=k) (x:=x) (by rw [gQq hk',hx])
  have hg2:=av (f:=bE) (l:=ys) (k:=k) (x:=y) (by rw [gQq hk2,hy])
  have e5:=Yk5 k
  rw [hd,hd2] at hq
  unfold eqL at hq
  simp only [go_sem,iNq,ybb,hg,hg2,bE,bE,zh,yD,Bool.bne_false,Bool.bne_true,vc,yal,yak]
  (repeat with_reducible refine And.intro (by first|assumption|decide|omega) ?_)
  refine ae (fun hb=>?_) (fun hb=>?_)
  ·have hb':iw x y=false:=by first|(simpa using hb;done)|(simpa [iw] using hb)
   rw [hb',Bool.false_and] at hq
   rw [← hq]
   try simp only [go_sem]
   simp (disch:=first|exact Zd|omega) [↓zmo,beq,ybc,ybd,ybe,aa,wk,wk2,wk1,wkM,wkL,ak,ybf,hcl]
   first|done|repeat first|exact .refl _|refine .push ?_ _
  ·have hb':iw x y=true:=by first|(simpa using hb;done)|(simpa [iw] using hb)
   rw [hb',Bool.true_and] at hq
   simp only [go_sem,e5]
   refine ⟨k+1,⟨by omega,hq⟩,by omega,by (try simp only [zle]);omega,by repeat first|exact .refl _|refine .push ?_ _,hcl,?_,?_⟩
   ·simp only [ltF,znf,and_true,true_and]
    exact ⟨hs1,hs2⟩
   ·simp [aM,wk2,wk1,wkM,Fr.get]
 ·have hk':k=xs.length:=by simp at hc;omega
  subst hk'
  rw [List.drop_length,hlen,List.drop_length] at hq
  rw [← hq]
  simp only [go_sem,eqL]
  exact Z2
def f9:List AV→AHeap→(AV→Prop)→Prop
 |[.slice _ 6 l,.slice _ 6 k],_,K=>∃ xs ys:List (SPrim),(l=xs.map bY∧k=ys.map bY∧xs.length≤140737488355328∧ys.length≤140737488355328∧True)∧K (.bool (eqL ir xs ys))
 |_,_,_=>False
theorem lf:EntOk Tryz.prog 199 (Ent.pure f9):=by
 refine Ype fun _ H K h=>?_
 unfold f9 at h
 split at h
 rotate_left
 ·exact h.elim
 rename_i m1 l m2 k
 obtain ⟨xs,ys,⟨rfl,rfl,hl1,hl2,ho⟩,hK⟩:=h
 clear ho
 refine ⟨_,hK,?_⟩
 clear hK
 obtain ⟨R,hR⟩:∃ R,eqL ir xs ys=R:=⟨_,rfl⟩
 rw [hR]
 by_cases hlen:xs.length=ys.length
 case neg =>
  rw [cf hlen] at hR
  subst hR
  have d0:((xs.length:Int) != (ys.length:Int))=true:=by rw [bne_iff_ne];omega
  refine ACalls.fW ag tNq Tryz.func199 [.tmp 4] (nrq _) (T:=af []) (h:=fun hcl hlt=>?_)
  clear hlt
  simp only [go_sem,ybb,d0]
  simp (disch:=first|exact Zd|omega) [↓zmo,beq,ybc,ybd,ybe,aa,wk,wk2,wk1,wkM,wkL,ak,ybf,hcl]
 have d0:((xs.length:Int) != (ys.length:Int))=false:=by rw [hlen];simp
 refine ACalls.fW ag tNq Tryz.func199 [.tmp 4] (nrq _) (T:=af []) (h:=fun hcl hlt=>?_)
 have hs1:=hlt (.slice m1 6 (xs.map bY)) (by simp)
 have hs2:=hlt (.slice m2 6 (ys.map bY)) (by simp)
 clear hlt
 simp only [go_sem,ybb,d0]
 refine aq (A:=Nat) (fun k=>[(0,.slice m1 6 (xs.map bY)),(1,.slice m2 6 (ys.map bY)),(12,.int .i64 (xs.length:Int)),(13,.int .i64 (k:Int))]) (fun _=>H) (fun k=>k≤xs.length∧eqL ir (xs.drop k) (ys.drop k)=R) (fun k=>xs.length - k) 0 ⟨by omega,hR⟩ ?_ fun k hk=>?_
 ·refine ⟨by simp only [zkq,zkv];omega,lRq _,hcl,?_,?_⟩
  ·simp only [ltF,znf,and_true,true_and]
   exact ⟨hs1,hs2⟩
  ·simp [aM,wk2,wk1,wkM,Fr.get]
 obtain ⟨hk,hq⟩:=hk
 simp only [go_sem]
 refine ae (fun hc=>?_) (fun hc=>?_)
 ·have hk':k<xs.length:=by simp at hc;omega
  have hk2:k<ys.length:=by omega
  obtain ⟨x,hx⟩:∃ x,x=xs[k]:=⟨_,rfl⟩
  obtain ⟨y,hy⟩:∃ y,y=ys[k]:=⟨_,rfl⟩
  have hd:xs.drop k=x::xs.drop (k+1):=by rw [hx];exact dcq hk'
  have hd2:ys.drop k=y::ys.drop (k+1):=by rw [hy];exact dcq hk2
  have hg:=av (f:=bY) (l:=xs) (k:=k) (x:=x) (by rw [gQq hk',hx])
  have hg2:=av (f:=bY) (l:=ys) (k:=k) (x:=y) (by rw [gQq hk2,hy])
  have e5:=Yk5 k
  rw [hd,hd2] at hq
  unfold eqL at hq
  simp only [go_sem,iNq,ybb,hg,hg2,bY,bY,yL,yw,Bool.bne_false,Bool.bne_true,vc,yal,yak]
  (repeat with_reducible refine And.intro (by first|assumption|decide|omega) ?_)
  refine ae (fun hb=>?_) (fun hb=>?_)
  ·have hb':ir x y=false:=by first|(simpa using hb;done)|(simpa [ir] using hb)
   rw [hb',Bool.false_and] at hq
   rw [← hq]
   try simp only [go_sem]
   simp (disch:=first|exact Zd|omega) [↓zmo,beq,ybc,ybd,ybe,aa,wk,wk2,wk1,wkM,wkL,ak,ybf,hcl]
   first|done|repeat first|exact .refl _|refine .push ?_ _
  ·have hb':ir x y=true:=by first|(simpa using hb;done)|(simpa [ir] using hb)
   rw [hb',Bool.true_and] at hq
   simp only [go_sem,e5]
   refine ⟨k+1,⟨by omega,hq⟩,by omega,by (try simp only [zle]);omega,by repeat first|exact .refl _|refine .push ?_ _,hcl,?_,?_⟩
   ·simp only [ltF,znf,and_true,true_and]
    exact ⟨hs1,hs2⟩
   ·simp [aM,wk2,wk1,wkM,Fr.get]
 ·have hk':k=xs.length:=by simp at hc;omega
  subst hk'
  rw [List.drop_length,hlen,List.drop_length] at hq
  rw [← hq]
  simp only [go_sem,eqL]
  exact Z2
def gR:List AV→AHeap→(AV→Prop)→Prop
 |[.slice _ 6 l,.slice _ 6 k],_,K=>∃ xs ys:List (SPrim),(l=xs.map bY∧k=ys.map bY∧xs.length≤140737488355328∧ys.length≤140737488355328∧True)∧K (.bool (eqL ir xs ys))
 |_,_,_=>False
theorem rY:EntOk Tryz.prog 194 (Ent.pure gR):=by
 refine Ype fun _ H K h=>?_
 unfold gR at h
 split at h
 rotate_left
 ·exact h.elim
 rename_i m1 l m2 k
 obtain ⟨xs,ys,⟨rfl,rfl,hl1,hl2,ho⟩,hK⟩:=h
 clear ho
 refine ⟨_,hK,?_⟩
 clear hK
 obtain ⟨R,hR⟩:∃ R,eqL ir xs ys=R:=⟨_,rfl⟩
 rw [hR]
 by_cases hlen:xs.length=ys.length
 case neg =>
  rw [cf hlen] at hR
  subst hR
  have d0:((xs.length:Int) != (ys.length:Int))=true:=by rw [bne_iff_ne];omega
  refine ACalls.fW ag tNq Tryz.func194 [.tmp 4] (nrq _) (T:=af []) (h:=fun hcl hlt=>?_)
  clear hlt
  simp only [go_sem,ybb,d0]
  simp (disch:=first|exact Zd|omega) [↓zmo,beq,ybc,ybd,ybe,aa,wk,wk2,wk1,wkM,wkL,ak,ybf,hcl]
 have d0:((xs.length:Int) != (ys.length:Int))=false:=by rw [hlen];simp
 refine ACalls.fW ag tNq Tryz.func194 [.tmp 4] (nrq _) (T:=af []) (h:=fun hcl hlt=>?_)
 have hs1:=hlt (.slice m1 6 (xs.map bY)) (by simp)
 have hs2:=hlt (.slice m2 6 (ys.map bY)) (by simp)
 clear hlt
 simp only [go_sem,ybb,d0]
 refine aq (A:=Nat) (fun k=>[(0,.slice m1 6 (xs.map bY)),(1,.slice m2 6 (ys.map bY)),(12,.int .i64 (xs.length:Int)),(13,.int .i64 (k:Int))]) (fun _=>H) (fun k=>k≤xs.length∧eqL ir (xs.drop k) (ys.drop k)=R) (fun k=>xs.length - k) 0 ⟨by omega,hR⟩ ?_ fun k hk=>?_
 ·refine ⟨by simp only [zkq,zkv];omega,lRq _,hcl,?_,?_⟩
  ·simp only [ltF,znf,and_true,true_and]
   exact ⟨hs1,hs2⟩
  ·simp [aM,wk2,wk1,wkM,Fr.get]
 obtain ⟨hk,hq⟩:=hk
 simp only [go_sem]
 refine ae (fun hc=>?_) (fun hc=>?_)
 ·have hk':k<xs.length:=by simp at hc;omega
  have hk2:k<ys.length:=by omega
  obtain ⟨x,hx⟩:∃ x,x=xs[k]:=⟨_,rfl⟩
  obtain ⟨y,hy⟩:∃ y,y=ys[k]:=⟨_,rfl⟩
  have hd:xs.drop k=x::xs.drop (k+1):=by rw [hx];exact dcq hk'
  have hd2:ys.drop k=y::ys.drop (k+1):=by rw [hy];exact dcq hk2
  have hg:=av (f:=bY) (l:=xs) (k:=k) (x:=x) (by rw [gQq hk',hx])
  have hg2:=av (f:=bY) (l:=ys) (k:=k) (x:=y) (by rw [gQq hk2,hy])
  have e5:=Yk5 k
  rw [hd,hd2] at hq
  unfold eqL at hq
  simp only [go_sem,iNq,ybb,hg,hg2,bY,bY,yL,yw,Bool.bne_false,Bool.bne_true,vc,yal,yak]
  (repeat with_reducible refine And.intro (by first|assumption|decide|omega) ?_)
  refine ae (fun hb=>?_) (fun hb=>?_)
  ·have hb':ir x y=false:=by first|(simpa using hb;done)|(simpa [ir] using hb)
   rw [hb',Bool.false_and] at hq
   rw [← hq]
   try simp only [go_sem]
   simp (disch:=first|exact Zd|omega) [↓zmo,beq,ybc,ybd,ybe,aa,wk,wk2,wk1,wkM,wkL,ak,ybf,hcl]
   first|done|repeat first|exact .refl _|refine .push ?_ _
  ·have hb':ir x y=true:=by first|(simpa using hb;done)|(simpa [ir] using hb)
   rw [hb',Bool.true_and] at hq
   simp only [go_sem,e5]
   refine ⟨k+1,⟨by omega,hq⟩,by omega,by (try simp only [zle]);omega,by repeat first|exact .refl _|refine .push ?_ _,hcl,?_,?_⟩
   ·simp only [ltF,znf,and_true,true_and]
    exact ⟨hs1,hs2⟩
   ·simp [aM,wk2,wk1,wkM,Fr.get]
 ·have hk':k=xs.length:=by simp at hc;omega
  subst hk'
  rw [List.drop_length,hlen,List.drop_length] at hq
  rw [← hq]
  simp only [go_sem,eqL]
  exact Z2
def cI:List AV→AHeap→(AV→Prop)→Prop
 |[.slice _ 3 l,.slice _ 3 k],_,K=>∃ xs ys:List (SKey),(l=xs.map cH∧k=ys.map cH∧xs.length≤140737488355328∧ys.length≤140737488355328∧True)∧K (.bool (eqL iB xs ys))
 |_,_,_=>False
theorem ja:EntOk Tryz.prog 200 (Ent.pure cI):=by
 refine Ype fun _ H K h=>?_
 unfold cI at h
 split at h
 rotate_left
 ·exact h.elim
 rename_i m1 l m2 k
 obtain ⟨xs,ys,⟨rfl,rfl,hl1,hl2,ho⟩,hK⟩:=h
 clear ho
 refine ⟨_,hK,?_⟩
 clear hK
 obtain ⟨R,hR⟩:∃ R,eqL iB xs ys=R:=⟨_,rfl⟩
 rw [hR]
 by_cases hlen:xs.length=ys.length
 case neg =>
  rw [cf hlen] at hR
  subst hR
  have d0:((xs.length:Int) != (ys.length:Int))=true:=by rw [bne_iff_ne];omega
  refine ACalls.fW ag tNq Tryz.func200 [.tmp 4] (nrq _) (T:=af []) (h:=fun hcl hlt=>?_)
  clear hlt
  simp only [go_sem,ybb,d0]
  simp (disch:=first|exact Zd|omega) [↓zmo,beq,ybc,ybd,ybe,aa,wk,wk2,wk1,wkM,wkL,ak,ybf,hcl]
 have d0:((xs.length:Int) != (ys.length:Int))=false:=by rw [hlen];simp
 refine ACalls.fW ag tNq Tryz.func200 [.tmp 4] (nrq _) (T:=af []) (h:=fun hcl hlt=>?_)
 have hs1:=hlt (.slice m1 3 (xs.map cH)) (by simp)
 have hs2:=hlt (.slice m2 3 (ys.map cH)) (by simp)
 clear hlt
 simp only [go_sem,ybb,d0]
 refine aq (A:=Nat) (fun k=>[(0,.slice m1 3 (xs.map cH)),(1,.slice m2 3 (ys.map cH)),(12,.int .i64 (xs.length:Int)),(13,.int .i64 (k:Int))]) (fun _=>H) (fun k=>k≤xs.length∧eqL iB (xs.drop k) (ys.drop k)=R) (fun k=>xs.length - k) 0 ⟨by omega,hR⟩ ?_ fun k hk=>?_
 ·refine ⟨by simp only [zkq,zkv];omega,lRq _,hcl,?_,?_⟩
  ·simp only [ltF,znf,and_true,true_and]
   exact ⟨hs1,hs2⟩
  ·simp [aM,wk2,wk1,wkM,Fr.get]
 obtain ⟨hk,hq⟩:=hk
 simp only [go_sem]
 refine ae (fun hc=>?_) (fun hc=>?_)
 ·have hk':k<xs.length:=by simp at hc;omega
  have hk2:k<ys.length:=by omega
  obtain ⟨x,hx⟩:∃ x,x=xs[k]:=⟨_,rfl⟩
  obtain ⟨y,hy⟩:∃ y,y=ys[k]:=⟨_,rfl⟩
  have hd:xs.drop k=x::xs.drop (k+1):=by rw [hx];exact dcq hk'
  have hd2:ys.drop k=y::ys.drop (k+1):=by rw [hy];exact dcq hk2
  have hg:=av (f:=cH) (l:=xs) (k:=k) (x:=x) (by rw [gQq hk',hx])
  have hg2:=av (f:=cH) (l:=ys) (k:=k) (x:=y) (by rw [gQq hk2,hy])
  have e5:=Yk5 k
  rw [hd,hd2] at hq
  unfold eqL at hq
  simp only [go_sem,iNq,ybb,hg,hg2,cH,cH,zr,y0,Bool.bne_false,Bool.bne_true,vc,yal,yak]
  (repeat with_reducible refine And.intro (by first|assumption|decide|omega) ?_)
  refine ae (fun hb=>?_) (fun hb=>?_)
  ·have hb':iB x y=false:=by first|(simpa using hb;done)|(simpa [iB] using hb)
   rw [hb',Bool.false_and] at hq
   rw [← hq]
   try simp only [go_sem]
   simp (disch:=first|exact Zd|omega) [↓zmo,beq,ybc,ybd,ybe,aa,wk,wk2,wk1,wkM,wkL,ak,ybf,hcl]
   first|done|repeat first|exact .refl _|refine .push ?_ _
  ·have hb':iB x y=true:=by first|(simpa using hb;done)|(simpa [iB] using hb)
   rw [hb',Bool.true_and] at hq
   simp only [go_sem,e5]
   refine ⟨k+1,⟨by omega,hq⟩,by omega,by (try simp only [zle]);omega,by repeat first|exact .refl _|refine .push ?_ _,hcl,?_,?_⟩
   ·simp only [ltF,znf,and_true,true_and]
    exact ⟨hs1,hs2⟩
   ·simp [aM,wk2,wk1,wkM,Fr.get]
 ·have hk':k=xs.length:=by simp at hc;omega
  subst hk'
  rw [List.drop_length,hlen,List.drop_length] at hq
  rw [← hq]
  simp only [go_sem,eqL]
  exact Z2
def cJ:List AV→AHeap→(AV→Prop)→Prop
 |[.slice _ 3 l,.slice _ 3 k],_,K=>∃ xs ys:List (SKey),(l=xs.map cH∧k=ys.map cH∧xs.length≤140737488355328∧ys.length≤140737488355328∧True)∧K (.bool (eqL iB xs ys))
 |_,_,_=>False
theorem qY:EntOk Tryz.prog 195 (Ent.pure cJ):=by
 refine Ype fun _ H K h=>?_
 unfold cJ at h
 split at h
 rotate_left
 ·exact h.elim
 rename_i m1 l m2 k
 obtain ⟨xs,ys,⟨rfl,rfl,hl1,hl2,ho⟩,hK⟩:=h
 clear ho
 refine ⟨_,hK,?_⟩
 clear hK
 obtain ⟨R,hR⟩:∃ R,eqL iB xs ys=R:=⟨_,rfl⟩
 rw [hR]
 by_cases hlen:xs.length=ys.length
 case neg =>
  rw [cf hlen] at hR
  subst hR
  have d0:((xs.length:Int) != (ys.length:Int))=true:=by rw [bne_iff_ne];omega
  refine ACalls.fW ag tNq Tryz.func195 [.tmp 4] (nrq _) (T:=af []) (h:=fun hcl hlt=>?_)
  clear hlt
  simp only [go_sem,ybb,d0]
  simp (disch:=first|exact Zd|omega) [↓zmo,beq,ybc,ybd,ybe,aa,wk,wk2,wk1,wkM,wkL,ak,ybf,hcl]
 have d0:((xs.length:Int) != (ys.length:Int))=false:=by rw [hlen];simp
 refine ACalls.fW ag tNq Tryz.func195 [.tmp 4] (nrq _) (T:=af []) (h:=fun hcl hlt=>?_)
 have hs1:=hlt (.slice m1 3 (xs.map cH)) (by simp)
 have hs2:=hlt (.slice m2 3 (ys.map cH)) (by simp)
 clear hlt
 simp only [go_sem,ybb,d0]
 refine aq (A:=Nat) (fun k=>[(0,.slice m1 3 (xs.map cH)),(1,.slice m2 3 (ys.map cH)),(12,.int .i64 (xs.length:Int)),(13,.int .i64 (k:Int))]) (fun _=>H) (fun k=>k≤xs.length∧eqL iB (xs.drop k) (ys.drop k)=R) (fun k=>xs.length - k) 0 ⟨by omega,hR⟩ ?_ fun k hk=>?_
 ·refine ⟨by simp only [zkq,zkv];omega,lRq _,hcl,?_,?_⟩
  ·simp only [ltF,znf,and_true,true_and]
   exact ⟨hs1,hs2⟩
  ·simp [aM,wk2,wk1,wkM,Fr.get]
 obtain ⟨hk,hq⟩:=hk
 simp only [go_sem]
 refine ae (fun hc=>?_) (fun hc=>?_)
 ·have hk':k<xs.length:=by simp at hc;omega
  have hk2:k<ys.length:=by omega
  obtain ⟨x,hx⟩:∃ x,x=xs[k]:=⟨_,rfl⟩
  obtain ⟨y,hy⟩:∃ y,y=ys[k]:=⟨_,rfl⟩
  have hd:xs.drop k=x::xs.drop (k+1):=by rw [hx];exact dcq hk'
  have hd2:ys.drop k=y::ys.drop (k+1):=by rw [hy];exact dcq hk2
  have hg:=av (f:=cH) (l:=xs) (k:=k) (x:=x) (by rw [gQq hk',hx])
  have hg2:=av (f:=cH) (l:=ys) (k:=k) (x:=y) (by rw [gQq hk2,hy])
  have e5:=Yk5 k
  rw [hd,hd2] at hq
  unfold eqL at hq
  simp only [go_sem,iNq,ybb,hg,hg2,cH,cH,zr,y0,Bool.bne_false,Bool.bne_true,vc,yal,yak]
  (repeat with_reducible refine And.intro (by first|assumption|decide|omega) ?_)
  refine ae (fun hb=>?_) (fun hb=>?_)
  ·have hb':iB x y=false:=by first|(simpa using hb;done)|(simpa [iB] using hb)
   rw [hb',Bool.false_and] at hq
   rw [← hq]
   try simp only [go_sem]
   simp (disch:=first|exact Zd|omega) [↓zmo,beq,ybc,ybd,ybe,aa,wk,wk2,wk1,wkM,wkL,ak,ybf,hcl]
   first|done|repeat first|exact .refl _|refine .push ?_ _
  ·have hb':iB x y=true:=by first|(simpa using hb;done)|(simpa [iB] using hb)
   rw [hb',Bool.true_and] at hq
   simp only [go_sem,e5]
   refine ⟨k+1,⟨by omega,hq⟩,by omega,by (try simp only [zle]);omega,by repeat first|exact .refl _|refine .push ?_ _,hcl,?_,?_⟩
   ·simp only [ltF,znf,and_true,true_and]
    exact ⟨hs1,hs2⟩
   ·simp [aM,wk2,wk1,wkM,Fr.get]
 ·have hk':k=xs.length:=by simp at hc;omega
  subst hk'
  rw [List.drop_length,hlen,List.drop_length] at hq
  rw [← hq]
  simp only [go_sem,eqL]
  exact Z2
def aS:List AV→AHeap→(AV→Prop)→Prop
 |[.slice _ 2 l,.slice _ 2 k],_,K=>∃ xs ys:List (SStage),(l=xs.map bx∧k=ys.map bx∧xs.length≤140737488355328∧ys.length≤140737488355328∧True)∧K (.bool (eqL hZ xs ys))
 |_,_,_=>False
theorem gF:EntOk Tryz.prog 102 (Ent.pure aS):=by
 refine Ype fun _ H K h=>?_
 unfold aS at h
 split at h
 rotate_left
 ·exact h.elim
 rename_i m1 l m2 k
 obtain ⟨xs,ys,⟨rfl,rfl,hl1,hl2,ho⟩,hK⟩:=h
 clear ho
 refine ⟨_,hK,?_⟩
 clear hK
 obtain ⟨R,hR⟩:∃ R,eqL hZ xs ys=R:=⟨_,rfl⟩
 rw [hR]
 by_cases hlen:xs.length=ys.length
 case neg =>
  rw [cf hlen] at hR
  subst hR
  have d0:((xs.length:Int) != (ys.length:Int))=true:=by rw [bne_iff_ne];omega
  refine ACalls.fW ag tNq Tryz.func102 [.tmp 4] (nrq _) (T:=af []) (h:=fun hcl hlt=>?_)
  clear hlt
  simp only [go_sem,ybb,d0]
  simp (disch:=first|exact Zd|omega) [↓zmo,beq,ybc,ybd,ybe,aa,wk,wk2,wk1,wkM,wkL,ak,ybf,hcl]
 have d0:((xs.length:Int) != (ys.length:Int))=false:=by rw [hlen];simp
 refine ACalls.fW ag tNq Tryz.func102 [.tmp 4] (nrq _) (T:=af []) (h:=fun hcl hlt=>?_)
 have hs1:=hlt (.slice m1 2 (xs.map bx)) (by simp)
 have hs2:=hlt (.slice m2 2 (ys.map bx)) (by simp)
 clear hlt
 simp only [go_sem,ybb,d0]
 refine aq (A:=Nat) (fun k=>[(0,.slice m1 2 (xs.map bx)),(1,.slice m2 2 (ys.map bx)),(12,.int .i64 (xs.length:Int)),(13,.int .i64 (k:Int))]) (fun _=>H) (fun k=>k≤xs.length∧eqL hZ (xs.drop k) (ys.drop k)=R) (fun k=>xs.length - k) 0 ⟨by omega,hR⟩ ?_ fun k hk=>?_
 ·refine ⟨by simp only [zkq,zkv];omega,lRq _,hcl,?_,?_⟩
  ·simp only [ltF,znf,and_true,true_and]
   exact ⟨hs1,hs2⟩
  ·simp [aM,wk2,wk1,wkM,Fr.get]
 obtain ⟨hk,hq⟩:=hk
 simp only [go_sem]
 refine ae (fun hc=>?_) (fun hc=>?_)
 ·have hk':k<xs.length:=by simp at hc;omega
  have hk2:k<ys.length:=by omega
  obtain ⟨x,hx⟩:∃ x,x=xs[k]:=⟨_,rfl⟩
  obtain ⟨y,hy⟩:∃ y,y=ys[k]:=⟨_,rfl⟩
  have hd:xs.drop k=x::xs.drop (k+1):=by rw [hx];exact dcq hk'
  have hd2:ys.drop k=y::ys.drop (k+1):=by rw [hy];exact dcq hk2
  have hg:=av (f:=bx) (l:=xs) (k:=k) (x:=x) (by rw [gQq hk',hx])
  have hg2:=av (f:=bx) (l:=ys) (k:=k) (x:=y) (by rw [gQq hk2,hy])
  have e5:=Yk5 k
  rw [hd,hd2] at hq
  unfold eqL at hq
  simp only [go_sem,iNq,ybb,hg,hg2,bx,bx,zz,y5,Bool.bne_false,Bool.bne_true,vc,yal,yak]
  (repeat with_reducible refine And.intro (by first|assumption|decide|omega) ?_)
  refine ae (fun hb=>?_) (fun hb=>?_)
  ·have hb':hZ x y=false:=by first|(simpa using hb;done)|(simpa [hZ] using hb)
   rw [hb',Bool.false_and] at hq
   rw [← hq]
   try simp only [go_sem]
   simp (disch:=first|exact Zd|omega) [↓zmo,beq,ybc,ybd,ybe,aa,wk,wk2,wk1,wkM,wkL,ak,ybf,hcl]
   first|done|repeat first|exact .refl _|refine .push ?_ _
  ·have hb':hZ x y=true:=by first|(simpa using hb;done)|(simpa [hZ] using hb)
   rw [hb',Bool.true_and] at hq
   simp only [go_sem,e5]
   refine ⟨k+1,⟨by omega,hq⟩,by omega,by (try simp only [zle]);omega,by repeat first|exact .refl _|refine .push ?_ _,hcl,?_,?_⟩
   ·simp only [ltF,znf,and_true,true_and]
    exact ⟨hs1,hs2⟩
   ·simp [aM,wk2,wk1,wkM,Fr.get]
 ·have hk':k=xs.length:=by simp at hc;omega
  subst hk'
  rw [List.drop_length,hlen,List.drop_length] at hq
  rw [← hq]
  simp only [go_sem,eqL]
  exact Z2
def cK:List AV→AHeap→(AV→Prop)→Prop
 |[.slice _ 2 l,.slice _ 2 k],_,K=>∃ xs ys:List (SStage),(l=xs.map bx∧k=ys.map bx∧xs.length≤140737488355328∧ys.length≤140737488355328∧True)∧K (.bool (eqL hZ xs ys))
 |_,_,_=>False
theorem jK:EntOk Tryz.prog 88 (Ent.pure cK):=by
 refine Ype fun _ H K h=>?_
 unfold cK at h
 split at h
 rotate_left
 ·exact h.elim
 rename_i m1 l m2 k
 obtain ⟨xs,ys,⟨rfl,rfl,hl1,hl2,ho⟩,hK⟩:=h
 clear ho
 refine ⟨_,hK,?_⟩
 clear hK
 obtain ⟨R,hR⟩:∃ R,eqL hZ xs ys=R:=⟨_,rfl⟩
 rw [hR]
 by_cases hlen:xs.length=ys.length
 case neg =>
  rw [cf hlen] at hR
  subst hR
  have d0:((xs.length:Int) != (ys.length:Int))=true:=by rw [bne_iff_ne];omega
  refine ACalls.fW ag tNq Tryz.func88 [.tmp 4] (nrq _) (T:=af []) (h:=fun hcl hlt=>?_)
  clear hlt
  simp only [go_sem,ybb,d0]
  simp (disch:=first|exact Zd|omega) [↓zmo,beq,ybc,ybd,ybe,aa,wk,wk2,wk1,wkM,wkL,ak,ybf,hcl]
 have d0:((xs.length:Int) != (ys.length:Int))=false:=by rw [hlen];simp
 refine ACalls.fW ag tNq Tryz.func88 [.tmp 4] (nrq _) (T:=af []) (h:=fun hcl hlt=>?_)
 have hs1:=hlt (.slice m1 2 (xs.map bx)) (by simp)
 have hs2:=hlt (.slice m2 2 (ys.map bx)) (by simp)
 clear hlt
 simp only [go_sem,ybb,d0]
 refine aq (A:=Nat) (fun k=>[(0,.slice m1 2 (xs.map bx)),(1,.slice m2 2 (ys.map bx)),(12,.int .i64 (xs.length:Int)),(13,.int .i64 (k:Int))]) (fun _=>H) (fun k=>k≤xs.length∧eqL hZ (xs.drop k) (ys.drop k)=R) (fun k=>xs.length - k) 0 ⟨by omega,hR⟩ ?_ fun k hk=>?_
 ·refine ⟨by simp only [zkq,zkv];omega,lRq _,hcl,?_,?_⟩
  ·simp only [ltF,znf,and_true,true_and]
   exact ⟨hs1,hs2⟩
  ·simp [aM,wk2,wk1,wkM,Fr.get]
 obtain ⟨hk,hq⟩:=hk
 simp only [go_sem]
 refine ae (fun hc=>?_) (fun hc=>?_)
 ·have hk':k<xs.length:=by simp at hc;omega
  have hk2:k<ys.length:=by omega
  obtain ⟨x,hx⟩:∃ x,x=xs[k]:=⟨_,rfl⟩
  obtain ⟨y,hy⟩:∃ y,y=ys[k]:=⟨_,rfl⟩
  have hd:xs.drop k=x::xs.drop (k+1):=by rw [hx];exact dcq hk'
  have hd2:ys.drop k=y::ys.drop (k+1):=by rw [hy];exact dcq hk2
  have hg:=av (f:=bx) (l:=xs) (k:=k) (x:=x) (by rw [gQq hk',hx])
  have hg2:=av (f:=bx) (l:=ys) (k:=k) (x:=y) (by rw [gQq hk2,hy])
  have e5:=Yk5 k
  rw [hd,hd2] at hq
  unfold eqL at hq
  simp only [go_sem,iNq,ybb,hg,hg2,bx,bx,zz,y5,Bool.bne_false,Bool.bne_true,vc,yal,yak]
  (repeat with_reducible refine And.intro (by first|assumption|decide|omega) ?_)
  refine ae (fun hb=>?_) (fun hb=>?_)
  ·have hb':hZ x y=false:=by first|(simpa using hb;done)|(simpa [hZ] using hb)
   rw [hb',Bool.false_and] at hq
   rw [← hq]
   try simp only [go_sem]
   simp (disch:=first|exact Zd|omega) [↓zmo,beq,ybc,ybd,ybe,aa,wk,wk2,wk1,wkM,wkL,ak,ybf,hcl]
   first|done|repeat first|exact .refl _|refine .push ?_ _
  ·have hb':hZ x y=true:=by first|(simpa using hb;done)|(simpa [hZ] using hb)
   rw [hb',Bool.true_and] at hq
   simp only [go_sem,e5]
   refine ⟨k+1,⟨by omega,hq⟩,by omega,by (try simp only [zle]);omega,by repeat first|exact .refl _|refine .push ?_ _,hcl,?_,?_⟩
   ·simp only [ltF,znf,and_true,true_and]
    exact ⟨hs1,hs2⟩
   ·simp [aM,wk2,wk1,wkM,Fr.get]
 ·have hk':k=xs.length:=by simp at hc;omega
  subst hk'
  rw [List.drop_length,hlen,List.drop_length] at hq
  rw [← hq]
  simp only [go_sem,eqL]
  exact Z2
def aY:List AV→AHeap→(AV→Prop)→Prop
 |[.slice _ 6 l,.slice _ 6 k],_,K=>∃ xs ys:List (SRef),(l=xs.map cP∧k=ys.map cP∧xs.length≤140737488355328∧ys.length≤140737488355328∧True)∧K (.bool (eqL hU xs ys))
 |_,_,_=>False
theorem gJ:EntOk Tryz.prog 105 (Ent.pure aY):=by
 refine Ype fun _ H K h=>?_
 unfold aY at h
 split at h
 rotate_left
 ·exact h.elim
 rename_i m1 l m2 k
 obtain ⟨xs,ys,⟨rfl,rfl,hl1,hl2,ho⟩,hK⟩:=h
 clear ho
 refine ⟨_,hK,?_⟩
 clear hK
 obtain ⟨R,hR⟩:∃ R,eqL hU xs ys=R:=⟨_,rfl⟩
 rw [hR]
 by_cases hlen:xs.length=ys.length
 case neg =>
  rw [cf hlen] at hR
  subst hR
  have d0:((xs.length:Int) != (ys.length:Int))=true:=by rw [bne_iff_ne];omega
  refine ACalls.fW ag tNq Tryz.func105 [.tmp 4] (nrq _) (T:=af []) (h:=fun hcl hlt=>?_)
  clear hlt
  simp only [go_sem,ybb,d0]
  simp (disch:=first|exact Zd|omega) [↓zmo,beq,ybc,ybd,ybe,aa,wk,wk2,wk1,wkM,wkL,ak,ybf,hcl]
 have d0:((xs.length:Int) != (ys.length:Int))=false:=by rw [hlen];simp
 refine ACalls.fW ag tNq Tryz.func105 [.tmp 4] (nrq _) (T:=af []) (h:=fun hcl hlt=>?_)
 have hs1:=hlt (.slice m1 6 (xs.map cP)) (by simp)
 have hs2:=hlt (.slice m2 6 (ys.map cP)) (by simp)
 clear hlt
 simp only [go_sem,ybb,d0]
 refine aq (A:=Nat) (fun k=>[(0,.slice m1 6 (xs.map cP)),(1,.slice m2 6 (ys.map cP)),(12,.int .i64 (xs.length:Int)),(13,.int .i64 (k:Int))]) (fun _=>H) (fun k=>k≤xs.length∧eqL hU (xs.drop k) (ys.drop k)=R) (fun k=>xs.length - k) 0 ⟨by omega,hR⟩ ?_ fun k hk=>?_
 ·refine ⟨by simp only [zkq,zkv];omega,lRq _,hcl,?_,?_⟩
  ·simp only [ltF,znf,and_true,true_and]
   exact ⟨hs1,hs2⟩
  ·simp [aM,wk2,wk1,wkM,Fr.get]
 obtain ⟨hk,hq⟩:=hk
 simp only [go_sem]
 refine ae (fun hc=>?_) (fun hc=>?_)
 ·have hk':k<xs.length:=by simp at hc;omega
  have hk2:k<ys.length:=by omega
  obtain ⟨x,hx⟩:∃ x,x=xs[k]:=⟨_,rfl⟩
  obtain ⟨y,hy⟩:∃ y,y=ys[k]:=⟨_,rfl⟩
  have hd:xs.drop k=x::xs.drop (k+1):=by rw [hx];exact dcq hk'
  have hd2:ys.drop k=y::ys.drop (k+1):=by rw [hy];exact dcq hk2
  have hg:=av (f:=cP) (l:=xs) (k:=k) (x:=x) (by rw [gQq hk',hx])
  have hg2:=av (f:=cP) (l:=ys) (k:=k) (x:=y) (by rw [gQq hk2,hy])
  have e5:=Yk5 k
  rw [hd,hd2] at hq
  unfold eqL at hq
  simp only [go_sem,iNq,ybb,hg,hg2,cP,cP,y7,yG,Bool.bne_false,Bool.bne_true,vc,yal,yak]
  (repeat with_reducible refine And.intro (by first|assumption|decide|omega) ?_)
  refine ae (fun hb=>?_) (fun hb=>?_)
  ·have hb':hU x y=false:=by first|(simpa using hb;done)|(simpa [hU] using hb)
   rw [hb',Bool.false_and] at hq
   rw [← hq]
   try simp only [go_sem]
   simp (disch:=first|exact Zd|omega) [↓zmo,beq,ybc,ybd,ybe,aa,wk,wk2,wk1,wkM,wkL,ak,ybf,hcl]
   first|done|repeat first|exact .refl _|refine .push ?_ _
  ·have hb':hU x y=true:=by first|(simpa using hb;done)|(simpa [hU] using hb)
   rw [hb',Bool.true_and] at hq
   simp only [go_sem,e5]
   refine ⟨k+1,⟨by omega,hq⟩,by omega,by (try simp only [zle]);omega,by repeat first|exact .refl _|refine .push ?_ _,hcl,?_,?_⟩
   ·simp only [ltF,znf,and_true,true_and]
    exact ⟨hs1,hs2⟩
   ·simp [aM,wk2,wk1,wkM,Fr.get]
 ·have hk':k=xs.length:=by simp at hc;omega
  subst hk'
  rw [List.drop_length,hlen,List.drop_length] at hq
  rw [← hq]
  simp only [go_sem,eqL]
  exact Z2
def cO:List AV→AHeap→(AV→Prop)→Prop
 |[.slice _ 6 l,.slice _ 6 k],_,K=>∃ xs ys:List (SRef),(l=xs.map cP∧k=ys.map cP∧xs.length≤140737488355328∧ys.length≤140737488355328∧True)∧K (.bool (eqL hU xs ys))
 |_,_,_=>False
theorem jG:EntOk Tryz.prog 89 (Ent.pure cO):=by
 refine Ype fun _ H K h=>?_
 unfold cO at h
 split at h
 rotate_left
 ·exact h.elim
 rename_i m1 l m2 k
 obtain ⟨xs,ys,⟨rfl,rfl,hl1,hl2,ho⟩,hK⟩:=h
 clear ho
 refine ⟨_,hK,?_⟩
 clear hK
 obtain ⟨R,hR⟩:∃ R,eqL hU xs ys=R:=⟨_,rfl⟩
 rw [hR]
 by_cases hlen:xs.length=ys.length
 case neg =>
  rw [cf hlen] at hR
  subst hR
  have d0:((xs.length:Int) != (ys.length:Int))=true:=by rw [bne_iff_ne];omega
  refine ACalls.fW ag tNq Tryz.func89 [.tmp 4] (nrq _) (T:=af []) (h:=fun hcl hlt=>?_)
  clear hlt
  simp only [go_sem,ybb,d0]
  simp (disch:=first|exact Zd|omega) [↓zmo,beq,ybc,ybd,ybe,aa,wk,wk2,wk1,wkM,wkL,ak,ybf,hcl]
 have d0:((xs.length:Int) != (ys.length:Int))=false:=by rw [hlen];simp
 refine ACalls.fW ag tNq Tryz.func89 [.tmp 4] (nrq _) (T:=af []) (h:=fun hcl hlt=>?_)
 have hs1:=hlt (.slice m1 6 (xs.map cP)) (by simp)
 have hs2:=hlt (.slice m2 6 (ys.map cP)) (by simp)
 clear hlt
 simp only [go_sem,ybb,d0]
 refine aq (A:=Nat) (fun k=>[(0,.slice m1 6 (xs.map cP)),(1,.slice m2 6 (ys.map cP)),(12,.int .i64 (xs.length:Int)),(13,.int .i64 (k:Int))]) (fun _=>H) (fun k=>k≤xs.length∧eqL hU (xs.drop k) (ys.drop k)=R) (fun k=>xs.length - k) 0 ⟨by omega,hR⟩ ?_ fun k hk=>?_
 ·refine ⟨by simp only [zkq,zkv];omega,lRq _,hcl,?_,?_⟩
  ·simp only [ltF,znf,and_true,true_and]
   exact ⟨hs1,hs2⟩
  ·simp [aM,wk2,wk1,wkM,Fr.get]
 obtain ⟨hk,hq⟩:=hk
 simp only [go_sem]
 refine ae (fun hc=>?_) (fun hc=>?_)
 ·have hk':k<xs.length:=by simp at hc;omega
  have hk2:k<ys.length:=by omega
  obtain ⟨x,hx⟩:∃ x,x=xs[k]:=⟨_,rfl⟩
  obtain ⟨y,hy⟩:∃ y,y=ys[k]:=⟨_,rfl⟩
  have hd:xs.drop k=x::xs.drop (k+1):=by rw [hx];exact dcq hk'
  have hd2:ys.drop k=y::ys.drop (k+1):=by rw [hy];exact dcq hk2
  have hg:=av (f:=cP) (l:=xs) (k:=k) (x:=x) (by rw [gQq hk',hx])
  have hg2:=av (f:=cP) (l:=ys) (k:=k) (x:=y) (by rw [gQq hk2,hy])
  have e5:=Yk5 k
  rw [hd,hd2] at hq
  unfold eqL at hq
  simp only [go_sem,iNq,ybb,hg,hg2,cP,cP,y7,yG,Bool.bne_false,Bool.bne_true,vc,yal,yak]
  (repeat with_reducible refine And.intro (by first|assumption|decide|omega) ?_)
  refine ae (fun hb=>?_) (fun hb=>?_)
  ·have hb':hU x y=false:=by first|(simpa using hb;done)|(simpa [hU] using hb)
   rw [hb',Bool.false_and] at hq
   rw [← hq]
   try simp only [go_sem]
   simp (disch:=first|exact Zd|omega) [↓zmo,beq,ybc,ybd,ybe,aa,wk,wk2,wk1,wkM,wkL,ak,ybf,hcl]
   first|done|repeat first|exact .refl _|refine .push ?_ _
  ·have hb':hU x y=true:=by first|(simpa using hb;done)|(simpa [hU] using hb)
   rw [hb',Bool.true_and] at hq
   simp only [go_sem,e5]
   refine ⟨k+1,⟨by omega,hq⟩,by omega,by (try simp only [zle]);omega,by repeat first|exact .refl _|refine .push ?_ _,hcl,?_,?_⟩
   ·simp only [ltF,znf,and_true,true_and]
    exact ⟨hs1,hs2⟩
   ·simp [aM,wk2,wk1,wkM,Fr.get]
 ·have hk':k=xs.length:=by simp at hc;omega
  subst hk'
  rw [List.drop_length,hlen,List.drop_length] at hq
  rw [← hq]
  simp only [go_sem,eqL]
  exact Z2
def ba:List AV→AHeap→(AV→Prop)→Prop
 |[.slice _ 1 l,.slice _ 1 k],_,K=>∃ xs ys:List (Int),(l=xs.map iAV∧k=ys.map iAV∧xs.length≤140737488355328∧ys.length≤140737488355328∧True)∧K (.bool (eqL eqI xs ys))
 |_,_,_=>False
theorem cZ:EntOk Tryz.prog 93 (Ent.pure ba):=by
 refine Ype fun _ H K h=>?_
 unfold ba at h
 split at h
 rotate_left
 ·exact h.elim
 rename_i m1 l m2 k
 obtain ⟨xs,ys,⟨rfl,rfl,hl1,hl2,ho⟩,hK⟩:=h
 clear ho
 refine ⟨_,hK,?_⟩
 clear hK
 obtain ⟨R,hR⟩:∃ R,eqL eqI xs ys=R:=⟨_,rfl⟩
 rw [hR]
 by_cases hlen:xs.length=ys.length
 case neg =>
  rw [cf hlen] at hR
  subst hR
  have d0:((xs.length:Int) != (ys.length:Int))=true:=by rw [bne_iff_ne];omega
  refine ACalls.fW ag tNq Tryz.func93 [.tmp 4] (nrq _) (T:=af []) (h:=fun hcl hlt=>?_)
  clear hlt
  simp only [go_sem,ybb,d0]
  simp (disch:=first|exact Zd|omega) [↓zmo,beq,ybc,ybd,ybe,aa,wk,wk2,wk1,wkM,wkL,ak,ybf,hcl]
 have d0:((xs.length:Int) != (ys.length:Int))=false:=by rw [hlen];simp
 refine ACalls.fW ag tNq Tryz.func93 [.tmp 4] (nrq _) (T:=af []) (h:=fun hcl hlt=>?_)
 have hs1:=hlt (.slice m1 1 (xs.map iAV)) (by simp)
 have hs2:=hlt (.slice m2 1 (ys.map iAV)) (by simp)
 clear hlt
 simp only [go_sem,ybb,d0]
 refine aq (A:=Nat) (fun k=>[(0,.slice m1 1 (xs.map iAV)),(1,.slice m2 1 (ys.map iAV)),(12,.int .i64 (xs.length:Int)),(13,.int .i64 (k:Int))]) (fun _=>H) (fun k=>k≤xs.length∧eqL eqI (xs.drop k) (ys.drop k)=R) (fun k=>xs.length - k) 0 ⟨by omega,hR⟩ ?_ fun k hk=>?_
 ·refine ⟨by simp only [zkq,zkv];omega,lRq _,hcl,?_,?_⟩
  ·simp only [ltF,znf,and_true,true_and]
   exact ⟨hs1,hs2⟩
  ·simp [aM,wk2,wk1,wkM,Fr.get]
 obtain ⟨hk,hq⟩:=hk
 simp only [go_sem]
 refine ae (fun hc=>?_) (fun hc=>?_)
 ·have hk':k<xs.length:=by simp at hc;omega
  have hk2:k<ys.length:=by omega
  obtain ⟨x,hx⟩:∃ x,x=xs[k]:=⟨_,rfl⟩
  obtain ⟨y,hy⟩:∃ y,y=ys[k]:=⟨_,rfl⟩
  have hd:xs.drop k=x::xs.drop (k+1):=by rw [hx];exact dcq hk'
  have hd2:ys.drop k=y::ys.drop (k+1):=by rw [hy];exact dcq hk2
  have hg:=av (f:=iAV) (l:=xs) (k:=k) (x:=x) (by rw [gQq hk',hx])
  have hg2:=av (f:=iAV) (l:=ys) (k:=k) (x:=y) (by rw [gQq hk2,hy])
  have e5:=Yk5 k
  rw [hd,hd2] at hq
  unfold eqL at hq
  simp only [go_sem,iNq,ybb,hg,hg2,iAV,iAV]
  (repeat with_reducible refine And.intro (by first|assumption|decide|omega) ?_)
  refine ae (fun hb=>?_) (fun hb=>?_)
  ·have hb':eqI x y=false:=by first|(simpa using hb;done)|(simpa [eqI] using hb)
   rw [hb',Bool.false_and] at hq
   rw [← hq]
   try simp only [go_sem]
   simp (disch:=first|exact Zd|omega) [↓zmo,beq,ybc,ybd,ybe,aa,wk,wk2,wk1,wkM,wkL,ak,ybf,hcl]
   first|done|repeat first|exact .refl _|refine .push ?_ _
  ·have hb':eqI x y=true:=by first|(simpa using hb;done)|(simpa [eqI] using hb)
   rw [hb',Bool.true_and] at hq
   simp only [go_sem,e5]
   refine ⟨k+1,⟨by omega,hq⟩,by omega,by (try simp only [zle]);omega,by repeat first|exact .refl _|refine .push ?_ _,hcl,?_,?_⟩
   ·simp only [ltF,znf,and_true,true_and]
    exact ⟨hs1,hs2⟩
   ·simp [aM,wk2,wk1,wkM,Fr.get]
 ·have hk':k=xs.length:=by simp at hc;omega
  subst hk'
  rw [List.drop_length,hlen,List.drop_length] at hq
  rw [← hq]
  simp only [go_sem,eqL]
  exact Z2
def bp:List AV→AHeap→(AV→Prop)→Prop
 |[.slice _ 1 l,.slice _ 1 k],_,K=>∃ xs ys:List (Int),(l=xs.map iAV∧k=ys.map iAV∧xs.length≤140737488355328∧ys.length≤140737488355328∧True)∧K (.bool (eqL eqI xs ys))
 |_,_,_=>False
theorem eS:EntOk Tryz.prog 90 (Ent.pure bp):=by
 refine Ype fun _ H K h=>?_
 unfold bp at h
 split at h
 rotate_left
 ·exact h.elim
 rename_i m1 l m2 k
 obtain ⟨xs,ys,⟨rfl,rfl,hl1,hl2,ho⟩,hK⟩:=h
 clear ho
 refine ⟨_,hK,?_⟩
 clear hK
 obtain ⟨R,hR⟩:∃ R,eqL eqI xs ys=R:=⟨_,rfl⟩
 rw [hR]
 by_cases hlen:xs.length=ys.length
 case neg =>
  rw [cf hlen] at hR
  subst hR
  have d0:((xs.length:Int) != (ys.length:Int))=true:=by rw [bne_iff_ne];omega
  refine ACalls.fW ag tNq Tryz.func90 [.tmp 4] (nrq _) (T:=af []) (h:=fun hcl hlt=>?_)
  clear hlt
  simp only [go_sem,ybb,d0]
  simp (disch:=first|exact Zd|omega) [↓zmo,beq,ybc,ybd,ybe,aa,wk,wk2,wk1,wkM,wkL,ak,ybf,hcl]
 have d0:((xs.length:Int) != (ys.length:Int))=false:=by rw [hlen];simp
 refine ACalls.fW ag tNq Tryz.func90 [.tmp 4] (nrq _) (T:=af []) (h:=fun hcl hlt=>?_)
 have hs1:=hlt (.slice m1 1 (xs.map iAV)) (by simp)
 have hs2:=hlt (.slice m2 1 (ys.map iAV)) (by simp)
 clear hlt
 simp only [go_sem,ybb,d0]
 refine aq (A:=Nat) (fun k=>[(0,.slice m1 1 (xs.map iAV)),(1,.slice m2 1 (ys.map iAV)),(12,.int .i64 (xs.length:Int)),(13,.int .i64 (k:Int))]) (fun _=>H) (fun k=>k≤xs.length∧eqL eqI (xs.drop k) (ys.drop k)=R) (fun k=>xs.length - k) 0 ⟨by omega,hR⟩ ?_ fun k hk=>?_
 ·refine ⟨by simp only [zkq,zkv];omega,lRq _,hcl,?_,?_⟩
  ·simp only [ltF,znf,and_true,true_and]
   exact ⟨hs1,hs2⟩
  ·simp [aM,wk2,wk1,wkM,Fr.get]
 obtain ⟨hk,hq⟩:=hk
 simp only [go_sem]
 refine ae (fun hc=>?_) (fun hc=>?_)
 ·have hk':k<xs.length:=by simp at hc;omega
  have hk2:k<ys.length:=by omega
  obtain ⟨x,hx⟩:∃ x,x=xs[k]:=⟨_,rfl⟩
  obtain ⟨y,hy⟩:∃ y,y=ys[k]:=⟨_,rfl⟩
  have hd:xs.drop k=x::xs.drop (k+1):=by rw [hx];exact dcq hk'
  have hd2:ys.drop k=y::ys.drop (k+1):=by rw [hy];exact dcq hk2
  have hg:=av (f:=iAV) (l:=xs) (k:=k) (x:=x) (by rw [gQq hk',hx])
  have hg2:=av (f:=iAV) (l:=ys) (k:=k) (x:=y) (by rw [gQq hk2,hy])
  have e5:=Yk5 k
  rw [hd,hd2] at hq
  unfold eqL at hq
  simp only [go_sem,iNq,ybb,hg,hg2,iAV,iAV]
  (repeat with_reducible refine And.intro (by first|assumption|decide|omega) ?_)
  refine ae (fun hb=>?_) (fun hb=>?_)
  ·have hb':eqI x y=false:=by first|(simpa using hb;done)|(simpa [eqI] using hb)
   rw [hb',Bool.false_and] at hq
   rw [← hq]
   try simp only [go_sem]
   simp (disch:=first|exact Zd|omega) [↓zmo,beq,ybc,ybd,ybe,aa,wk,wk2,wk1,wkM,wkL,ak,ybf,hcl]
   first|done|repeat first|exact .refl _|refine .push ?_ _
  ·have hb':eqI x y=true:=by first|(simpa using hb;done)|(simpa [eqI] using hb)
   rw [hb',Bool.true_and] at hq
   simp only [go_sem,e5]
   refine ⟨k+1,⟨by omega,hq⟩,by omega,by (try simp only [zle]);omega,by repeat first|exact .refl _|refine .push ?_ _,hcl,?_,?_⟩
   ·simp only [ltF,znf,and_true,true_and]
    exact ⟨hs1,hs2⟩
   ·simp [aM,wk2,wk1,wkM,Fr.get]
 ·have hk':k=xs.length:=by simp at hc;omega
  subst hk'
  rw [List.drop_length,hlen,List.drop_length] at hq
  rw [← hq]
  simp only [go_sem,eqL]
  exact Z2
def jV:List AV→AHeap→(AV→Prop)→Prop
 |[.slice _ 1 l,.slice _ 1 k],_,K=>∃ xs ys:List (Bool),(l=xs.map bAV∧k=ys.map bAV∧xs.length≤140737488355328∧ys.length≤140737488355328∧True)∧K (.bool (eqL eqB xs ys))
 |_,_,_=>False
theorem my:EntOk Tryz.prog 202 (Ent.pure jV):=by
 refine Ype fun _ H K h=>?_
 unfold jV at h
 split at h
 rotate_left
 ·exact h.elim
 rename_i m1 l m2 k
 obtain ⟨xs,ys,⟨rfl,rfl,hl1,hl2,ho⟩,hK⟩:=h
 clear ho
 refine ⟨_,hK,?_⟩
 clear hK
 obtain ⟨R,hR⟩:∃ R,eqL eqB xs ys=R:=⟨_,rfl⟩
 rw [hR]
 by_cases hlen:xs.length=ys.length
 case neg =>
  rw [cf hlen] at hR
  subst hR
  have d0:((xs.length:Int) != (ys.length:Int))=true:=by rw [bne_iff_ne];omega
  refine ACalls.fW ag tNq Tryz.func202 [.tmp 4] (nrq _) (T:=af []) (h:=fun hcl hlt=>?_)
  clear hlt
  simp only [go_sem,ybb,d0]
  simp (disch:=first|exact Zd|omega) [↓zmo,beq,ybc,ybd,ybe,aa,wk,wk2,wk1,wkM,wkL,ak,ybf,hcl]
 have d0:((xs.length:Int) != (ys.length:Int))=false:=by rw [hlen];simp
 refine ACalls.fW ag tNq Tryz.func202 [.tmp 4] (nrq _) (T:=af []) (h:=fun hcl hlt=>?_)
 have hs1:=hlt (.slice m1 1 (xs.map bAV)) (by simp)
 have hs2:=hlt (.slice m2 1 (ys.map bAV)) (by simp)
 clear hlt
 simp only [go_sem,ybb,d0]
 refine aq (A:=Nat) (fun k=>[(0,.slice m1 1 (xs.map bAV)),(1,.slice m2 1 (ys.map bAV)),(12,.int .i64 (xs.length:Int)),(13,.int .i64 (k:Int))]) (fun _=>H) (fun k=>k≤xs.length∧eqL eqB (xs.drop k) (ys.drop k)=R) (fun k=>xs.length - k) 0 ⟨by omega,hR⟩ ?_ fun k hk=>?_
 ·refine ⟨by simp only [zkq,zkv];omega,lRq _,hcl,?_,?_⟩
  ·simp only [ltF,znf,and_true,true_and]
   exact ⟨hs1,hs2⟩
  ·simp [aM,wk2,wk1,wkM,Fr.get]
 obtain ⟨hk,hq⟩:=hk
 simp only [go_sem]
 refine ae (fun hc=>?_) (fun hc=>?_)
 ·have hk':k<xs.length:=by simp at hc;omega
  have hk2:k<ys.length:=by omega
  obtain ⟨x,hx⟩:∃ x,x=xs[k]:=⟨_,rfl⟩
  obtain ⟨y,hy⟩:∃ y,y=ys[k]:=⟨_,rfl⟩
  have hd:xs.drop k=x::xs.drop (k+1):=by rw [hx];exact dcq hk'
  have hd2:ys.drop k=y::ys.drop (k+1):=by rw [hy];exact dcq hk2
  have hg:=av (f:=bAV) (l:=xs) (k:=k) (x:=x) (by rw [gQq hk',hx])
  have hg2:=av (f:=bAV) (l:=ys) (k:=k) (x:=y) (by rw [gQq hk2,hy])
  have e5:=Yk5 k
  rw [hd,hd2] at hq
  unfold eqL at hq
  simp only [go_sem,iNq,ybb,hg,hg2,bAV,bAV]
  (repeat with_reducible refine And.intro (by first|assumption|decide|omega) ?_)
  refine ae (fun hb=>?_) (fun hb=>?_)
  ·have hb':eqB x y=false:=by first|(simpa using hb;done)|(simpa [eqB] using hb)
   rw [hb',Bool.false_and] at hq
   rw [← hq]
   try simp only [go_sem]
   simp (disch:=first|exact Zd|omega) [↓zmo,beq,ybc,ybd,ybe,aa,wk,wk2,wk1,wkM,wkL,ak,ybf,hcl]
   first|done|repeat first|exact .refl _|refine .push ?_ _
  ·have hb':eqB x y=true:=by first|(simpa using hb;done)|(simpa [eqB] using hb)
   rw [hb',Bool.true_and] at hq
   simp only [go_sem,e5]
   refine ⟨k+1,⟨by omega,hq⟩,by omega,by (try simp only [zle]);omega,by repeat first|exact .refl _|refine .push ?_ _,hcl,?_,?_⟩
   ·simp only [ltF,znf,and_true,true_and]
    exact ⟨hs1,hs2⟩
   ·simp [aM,wk2,wk1,wkM,Fr.get]
 ·have hk':k=xs.length:=by simp at hc;omega
  subst hk'
  rw [List.drop_length,hlen,List.drop_length] at hq
  rw [← hq]
  simp only [go_sem,eqL]
  exact Z2
def j4:List AV→AHeap→(AV→Prop)→Prop
 |[.slice _ 1 l,.slice _ 1 k],_,K=>∃ xs ys:List (Bool),(l=xs.map bAV∧k=ys.map bAV∧xs.length≤140737488355328∧ys.length≤140737488355328∧True)∧K (.bool (eqL eqB xs ys))
 |_,_,_=>False
theorem jI:EntOk Tryz.prog 91 (Ent.pure j4):=by
 refine Ype fun _ H K h=>?_
 unfold j4 at h
 split at h
 rotate_left
 ·exact h.elim
 rename_i m1 l m2 k
 obtain ⟨xs,ys,⟨rfl,rfl,hl1,hl2,ho⟩,hK⟩:=h
 clear ho
 refine ⟨_,hK,?_⟩
 clear hK
 obtain ⟨R,hR⟩:∃ R,eqL eqB xs ys=R:=⟨_,rfl⟩
 rw [hR]
 by_cases hlen:xs.length=ys.length
 case neg =>
  rw [cf hlen] at hR
  subst hR
  have d0:((xs.length:Int) != (ys.length:Int))=true:=by rw [bne_iff_ne];omega
  refine ACalls.fW ag tNq Tryz.func91 [.tmp 4] (nrq _) (T:=af []) (h:=fun hcl hlt=>?_)
  clear hlt
  simp only [go_sem,ybb,d0]
  simp (disch:=first|exact Zd|omega) [↓zmo,beq,ybc,ybd,ybe,aa,wk,wk2,wk1,wkM,wkL,ak,ybf,hcl]
 have d0:((xs.length:Int) != (ys.length:Int))=false:=by rw [hlen];simp
 refine ACalls.fW ag tNq Tryz.func91 [.tmp 4] (nrq _) (T:=af []) (h:=fun hcl hlt=>?_)
 have hs1:=hlt (.slice m1 1 (xs.map bAV)) (by simp)
 have hs2:=hlt (.slice m2 1 (ys.map bAV)) (by simp)
 clear hlt
 simp only [go_sem,ybb,d0]
 refine aq (A:=Nat) (fun k=>[(0,.slice m1 1 (xs.map bAV)),(1,.slice m2 1 (ys.map bAV)),(12,.int .i64 (xs.length:Int)),(13,.int .i64 (k:Int))]) (fun _=>H) (fun k=>k≤xs.length∧eqL eqB (xs.drop k) (ys.drop k)=R) (fun k=>xs.length - k) 0 ⟨by omega,hR⟩ ?_ fun k hk=>?_
 ·refine ⟨by simp only [zkq,zkv];omega,lRq _,hcl,?_,?_⟩
  ·simp only [ltF,znf,and_true,true_and]
   exact ⟨hs1,hs2⟩
  ·simp [aM,wk2,wk1,wkM,Fr.get]
 obtain ⟨hk,hq⟩:=hk
 simp only [go_sem]
 refine ae (fun hc=>?_) (fun hc=>?_)
 ·have hk':k<xs.length:=by simp at hc;omega
  have hk2:k<ys.length:=by omega
  obtain ⟨x,hx⟩:∃ x,x=xs[k]:=⟨_,rfl⟩
  obtain ⟨y,hy⟩:∃ y,y=ys[k]:=⟨_,rfl⟩
  have hd:xs.drop k=x::xs.drop (k+1):=by rw [hx];exact dcq hk'
  have hd2:ys.drop k=y::ys.drop (k+1):=by rw [hy];exact dcq hk2
  have hg:=av (f:=bAV) (l:=xs) (k:=k) (x:=x) (by rw [gQq hk',hx])
  have hg2:=av (f:=bAV) (l:=ys) (k:=k) (x:=y) (by rw [gQq hk2,hy])
  have e5:=Yk5 k
  rw [hd,hd2] at hq
  unfold eqL at hq
  simp only [go_sem,iNq,ybb,hg,hg2,bAV,bAV]
  (repeat with_reducible refine And.intro (by first|assumption|decide|omega) ?_)
  refine ae (fun hb=>?_) (fun hb=>?_)
  ·have hb':eqB x y=false:=by first|(simpa using hb;done)|(simpa [eqB] using hb)
   rw [hb',Bool.false_and] at hq
   rw [← hq]
   try simp only [go_sem]
   simp (disch:=first|exact Zd|omega) [↓zmo,beq,ybc,ybd,ybe,aa,wk,wk2,wk1,wkM,wkL,ak,ybf,hcl]
   first|done|repeat first|exact .refl _|refine .push ?_ _
  ·have hb':eqB x y=true:=by first|(simpa using hb;done)|(simpa [eqB] using hb)
   rw [hb',Bool.true_and] at hq
   simp only [go_sem,e5]
   refine ⟨k+1,⟨by omega,hq⟩,by omega,by (try simp only [zle]);omega,by repeat first|exact .refl _|refine .push ?_ _,hcl,?_,?_⟩
   ·simp only [ltF,znf,and_true,true_and]
    exact ⟨hs1,hs2⟩
   ·simp [aM,wk2,wk1,wkM,Fr.get]
 ·have hk':k=xs.length:=by simp at hc;omega
  subst hk'
  rw [List.drop_length,hlen,List.drop_length] at hq
  rw [← hq]
  simp only [go_sem,eqL]
  exact Z2
def cN:List AV→AHeap→(AV→Prop)→Prop
 |[.slice _ 2 l,.slice _ 2 k],_,K=>∃ xs ys:List (Nat),(l=xs.map vv∧k=ys.map vv∧xs.length≤140737488355328∧ys.length≤140737488355328∧True)∧K (.bool (eqL eqV xs ys))
 |_,_,_=>False
theorem iV:EntOk Tryz.prog 150 (Ent.pure cN):=by
 refine Ype fun _ H K h=>?_
 unfold cN at h
 split at h
 rotate_left
 ·exact h.elim
 rename_i m1 l m2 k
 obtain ⟨xs,ys,⟨rfl,rfl,hl1,hl2,ho⟩,hK⟩:=h
 clear ho
 refine ⟨_,hK,?_⟩
 clear hK
 obtain ⟨R,hR⟩:∃ R,eqL eqV xs ys=R:=⟨_,rfl⟩
 rw [hR]
 by_cases hlen:xs.length=ys.length
 case neg =>
  rw [cf hlen] at hR
  subst hR
  have d0:((xs.length:Int) != (ys.length:Int))=true:=by rw [bne_iff_ne];omega
  refine ACalls.fW ag tNq Tryz.func150 [.tmp 4] (nrq _) (T:=af []) (h:=fun hcl hlt=>?_)
  clear hlt
  simp only [go_sem,ybb,d0]
  simp (disch:=first|exact Zd|omega) [↓zmo,beq,ybc,ybd,ybe,aa,wk,wk2,wk1,wkM,wkL,ak,ybf,hcl]
 have d0:((xs.length:Int) != (ys.length:Int))=false:=by rw [hlen];simp
 refine ACalls.fW ag tNq Tryz.func150 [.tmp 4] (nrq _) (T:=af []) (h:=fun hcl hlt=>?_)
 have hs1:=hlt (.slice m1 2 (xs.map vv)) (by simp)
 have hs2:=hlt (.slice m2 2 (ys.map vv)) (by simp)
 clear hlt
 simp only [go_sem,ybb,d0]
 refine aq (A:=Nat) (fun k=>[(0,.slice m1 2 (xs.map vv)),(1,.slice m2 2 (ys.map vv)),(12,.int .i64 (xs.length:Int)),(13,.int .i64 (k:Int))]) (fun _=>H) (fun k=>k≤xs.length∧eqL eqV (xs.drop k) (ys.drop k)=R) (fun k=>xs.length - k) 0 ⟨by omega,hR⟩ ?_ fun k hk=>?_
 ·refine ⟨by simp only [zkq,zkv];omega,lRq _,hcl,?_,?_⟩
  ·simp only [ltF,znf,and_true,true_and]
   exact ⟨hs1,hs2⟩
  ·simp [aM,wk2,wk1,wkM,Fr.get]
 obtain ⟨hk,hq⟩:=hk
 simp only [go_sem]
 refine ae (fun hc=>?_) (fun hc=>?_)
 ·have hk':k<xs.length:=by simp at hc;omega
  have hk2:k<ys.length:=by omega
  obtain ⟨x,hx⟩:∃ x,x=xs[k]:=⟨_,rfl⟩
  obtain ⟨y,hy⟩:∃ y,y=ys[k]:=⟨_,rfl⟩
  have hd:xs.drop k=x::xs.drop (k+1):=by rw [hx];exact dcq hk'
  have hd2:ys.drop k=y::ys.drop (k+1):=by rw [hy];exact dcq hk2
  have hg:=av (f:=vv) (l:=xs) (k:=k) (x:=x) (by rw [gQq hk',hx])
  have hg2:=av (f:=vv) (l:=ys) (k:=k) (x:=y) (by rw [gQq hk2,hy])
  have e5:=Yk5 k
  rw [hd,hd2] at hq
  unfold eqL at hq
  simp only [go_sem,iNq,ybb,hg,hg2,vv,vv,zy,yM,Bool.bne_false,Bool.bne_true]
  (repeat with_reducible refine And.intro (by first|assumption|decide|omega) ?_)
  refine ae (fun hb=>?_) (fun hb=>?_)
  ·have hb':eqV x y=false:=by first|(simpa using hb;done)|(simpa [eqV] using hb)
   rw [hb',Bool.false_and] at hq
   rw [← hq]
   try simp only [go_sem]
   simp (disch:=first|exact Zd|omega) [↓zmo,beq,ybc,ybd,ybe,aa,wk,wk2,wk1,wkM,wkL,ak,ybf,hcl]
   first|done|repeat first|exact .refl _|refine .push ?_ _
  ·have hb':eqV x y=true:=by first|(simpa using hb;done)|(simpa [eqV] using hb)
   rw [hb',Bool.true_and] at hq
   simp only [go_sem,e5]
   refine ⟨k+1,⟨by omega,hq⟩,by omega,by (try simp only [zle]);omega,by repeat first|exact .refl _|refine .push ?_ _,hcl,?_,?_⟩
   ·simp only [ltF,znf,and_true,true_and]
    exact ⟨hs1,hs2⟩
   ·simp [aM,wk2,wk1,wkM,Fr.get]
 ·have hk':k=xs.length:=by simp at hc;omega
  subst hk'
  rw [List.drop_length,hlen,List.drop_length] at hq
  rw [← hq]
  simp only [go_sem,eqL]
  exact Z2
def cM:List AV→AHeap→(AV→Prop)→Prop
 |[.slice _ 2 l,.slice _ 2 k],_,K=>∃ xs ys:List (Nat),(l=xs.map vv∧k=ys.map vv∧xs.length≤140737488355328∧ys.length≤140737488355328∧True)∧K (.bool (eqL eqV xs ys))
 |_,_,_=>False
theorem rO:EntOk Tryz.prog 196 (Ent.pure cM):=by
 refine Ype fun _ H K h=>?_
 unfold cM at h
 split at h
 rotate_left
 ·exact h.elim
 rename_i m1 l m2 k
 obtain ⟨xs,ys,⟨rfl,rfl,hl1,hl2,ho⟩,hK⟩:=h
 clear ho
 refine ⟨_,hK,?_⟩
 clear hK
 obtain ⟨R,hR⟩:∃ R,eqL eqV xs ys=R:=⟨_,rfl⟩
 rw [hR]
 by_cases hlen:xs.length=ys.length
 case neg =>
  rw [cf hlen] at hR
  subst hR
  have d0:((xs.length:Int) != (ys.length:Int))=true:=by rw [bne_iff_ne];omega
  refine ACalls.fW ag tNq Tryz.func196 [.tmp 4] (nrq _) (T:=af []) (h:=fun hcl hlt=>?_)
  clear hlt
  simp only [go_sem,ybb,d0]
  simp (disch:=first|exact Zd|omega) [↓zmo,beq,ybc,ybd,ybe,aa,wk,wk2,wk1,wkM,wkL,ak,ybf,hcl]
 have d0:((xs.length:Int) != (ys.length:Int))=false:=by rw [hlen];simp
 refine ACalls.fW ag tNq Tryz.func196 [.tmp 4] (nrq _) (T:=af []) (h:=fun hcl hlt=>?_)
 have hs1:=hlt (.slice m1 2 (xs.map vv)) (by simp)
 have hs2:=hlt (.slice m2 2 (ys.map vv)) (by simp)
 clear hlt
 simp only [go_sem,ybb,d0]
 refine aq (A:=Nat) (fun k=>[(0,.slice m1 2 (xs.map vv)),(1,.slice m2 2 (ys.map vv)),(12,.int .i64 (xs.length:Int)),(13,.int .i64 (k:Int))]) (fun _=>H) (fun k=>k≤xs.length∧eqL eqV (xs.drop k) (ys.drop k)=R) (fun k=>xs.length - k) 0 ⟨by omega,hR⟩ ?_ fun k hk=>?_
 ·refine ⟨by simp only [zkq,zkv];omega,lRq _,hcl,?_,?_⟩
  ·simp only [ltF,znf,and_true,true_and]
   exact ⟨hs1,hs2⟩
  ·simp [aM,wk2,wk1,wkM,Fr.get]
 obtain ⟨hk,hq⟩:=hk
 simp only [go_sem]
 refine ae (fun hc=>?_) (fun hc=>?_)
 ·have hk':k<xs.length:=by simp at hc;omega
  have hk2:k<ys.length:=by omega
  obtain ⟨x,hx⟩:∃ x,x=xs[k]:=⟨_,rfl⟩
  obtain ⟨y,hy⟩:∃ y,y=ys[k]:=⟨_,rfl⟩
  have hd:xs.drop k=x::xs.drop (k+1):=by rw [hx];exact dcq hk'
  have hd2:ys.drop k=y::ys.drop (k+1):=by rw [hy];exact dcq hk2
  have hg:=av (f:=vv) (l:=xs) (k:=k) (x:=x) (by rw [gQq hk',hx])
  have hg2:=av (f:=vv) (l:=ys) (k:=k) (x:=y) (by rw [gQq hk2,hy])
  have e5:=Yk5 k
  rw [hd,hd2] at hq
  unfold eqL at hq
  simp only [go_sem,iNq,ybb,hg,hg2,vv,vv,zy,yM,Bool.bne_false,Bool.bne_true]
  (repeat with_reducible refine And.intro (by first|assumption|decide|omega) ?_)
  refine ae (fun hb=>?_) (fun hb=>?_)
  ·have hb':eqV x y=false:=by first|(simpa using hb;done)|(simpa [eqV] using hb)
   rw [hb',Bool.false_and] at hq
   rw [← hq]
   try simp only [go_sem]
   simp (disch:=first|exact Zd|omega) [↓zmo,beq,ybc,ybd,ybe,aa,wk,wk2,wk1,wkM,wkL,ak,ybf,hcl]
   first|done|repeat first|exact .refl _|refine .push ?_ _
  ·have hb':eqV x y=true:=by first|(simpa using hb;done)|(simpa [eqV] using hb)
   rw [hb',Bool.true_and] at hq
   simp only [go_sem,e5]
   refine ⟨k+1,⟨by omega,hq⟩,by omega,by (try simp only [zle]);omega,by repeat first|exact .refl _|refine .push ?_ _,hcl,?_,?_⟩
   ·simp only [ltF,znf,and_true,true_and]
    exact ⟨hs1,hs2⟩
   ·simp [aM,wk2,wk1,wkM,Fr.get]
 ·have hk':k=xs.length:=by simp at hc;omega
  subst hk'
  rw [List.drop_length,hlen,List.drop_length] at hq
  rw [← hq]
  simp only [go_sem,eqL]
  exact Z2
def ub (a:SHeader):Prop:=a.fields.length≤140737488355328
def uR (a:SState):Prop:=a.cases.length≤140737488355328
def tN (a:SAction):Prop:=a.params.length≤140737488355328∧a.body.length≤140737488355328
def uj (a:STable):Prop:=a.keys.length≤140737488355328∧a.actions.length≤140737488355328∧a.dargs.length≤140737488355328
def uq (a:SGrant):Prop:=a.keys.length≤140737488355328
def t7 (a:SRole):Prop:=a.grants.length≤140737488355328∧a.actions.length≤140737488355328∧∀ g∈a.grants,uq g
def i0 (a b:SHeader):Bool:=(a.id==b.id)&&(a.name==b.name)&&(eqL eqI a.fields b.fields)
theorem yl (a:SHeader):i0 a a=true:=by simp [i0,aK lx,aK lj,aK lr,aK jw,aK jo,aK jq,aK jz]
def wO:List AV→AHeap→(AV→Prop)→Prop
 |[.agg l,.agg k],_,K=>∃ x y:SHeader,(.agg l=bc x∧.agg k=bc y∧ub x∧ub y)∧K (.bool (i0 x y))
 |_,_,_=>False
theorem g8:EntOk Tryz.prog 92 (Ent.pure wO):=by
 refine Ype fun _ H K h=>?_
 unfold wO at h
 split at h
 rotate_left
 ·exact h.elim
 rename_i l k
 obtain ⟨x,y,⟨e1,e2,hx,hy⟩,hK⟩:=h
 have e1':=AV.agg.inj e1
 have e2':=AV.agg.inj e2
 subst e1'
 subst e2'
 clear e1 e2
 refine ⟨_,hK,?_⟩
 clear hK
 obtain ⟨R,hR⟩:∃ R,i0 x y=R:=⟨_,rfl⟩
 rw [hR]
 unfold i0 at hR
 cases h0:(x.id==y.id)
 ·simp only [h0,Bool.false_and,Bool.and_false,Bool.true_and] at hR
  subst hR
  refine ACalls.fW ag (tCq cZ tNq) Tryz.func92 [.tmp 4] (nrq _) (T:=af []) (h:=fun hcl hlt=>?_)
  clear hlt
  simp only [go_sem,byq,ba,h0,true_and,Bool.bne_false,Bool.bne_true]
  simp (disch:=first|exact Zd|omega) [↓zmo,beq,ybc,ybd,ybe,aa,wk,wk2,wk1,wkM,wkL,ak,ybf,hcl]
  first|done|repeat first|exact .refl _|refine .push ?_ _
 cases h1:(x.name==y.name)
 ·simp only [h0,h1,Bool.false_and,Bool.and_false,Bool.true_and] at hR
  subst hR
  refine ACalls.fW ag (tCq cZ tNq) Tryz.func92 [.tmp 4] (nrq _) (T:=af []) (h:=fun hcl hlt=>?_)
  clear hlt
  simp only [go_sem,byq,ba,h0,h1,true_and,Bool.bne_false,Bool.bne_true]
  simp (disch:=first|exact Zd|omega) [↓zmo,beq,ybc,ybd,ybe,aa,wk,wk2,wk1,wkM,wkL,ak,ybf,hcl]
  first|done|repeat first|exact .refl _|refine .push ?_ _
 cases h2:(eqL eqI x.fields y.fields)
 ·simp only [h0,h1,h2,Bool.false_and,Bool.and_false,Bool.true_and] at hR
  subst hR
  refine ACalls.fW ag (tCq cZ tNq) Tryz.func92 [.tmp 4] (nrq _) (T:=af []) (h:=fun hcl hlt=>?_)
  clear hlt
  simp only [go_sem,byq,ba,h0,h1,h2,true_and,Bool.bne_false,Bool.bne_true]
  refine ⟨x.fields,y.fields,⟨rfl,rfl,hx,hy⟩,?_⟩
  try simp only [go_sem,byq,ba,h0,h1,h2,true_and,Bool.bne_false,Bool.bne_true]
  simp (disch:=first|exact Zd|omega) [↓zmo,beq,ybc,ybd,ybe,aa,wk,wk2,wk1,wkM,wkL,ak,ybf,hcl]
  first|done|repeat first|exact .refl _|refine .push ?_ _
 simp only [h0,h1,h2,Bool.true_and] at hR
 subst hR
 refine ACalls.fW ag (tCq cZ tNq) Tryz.func92 [.tmp 4] (nrq _) (T:=af []) (h:=fun hcl hlt=>?_)
 clear hlt
 simp only [go_sem,byq,ba,h0,h1,h2,true_and,Bool.bne_false,Bool.bne_true]
 refine ⟨x.fields,y.fields,⟨rfl,rfl,hx,hy⟩,?_⟩
 try simp only [go_sem,byq,ba,h0,h1,h2,true_and,Bool.bne_false,Bool.bne_true]
 simp (disch:=first|exact Zd|omega) [↓zmo,beq,ybc,ybd,ybe,aa,wk,wk2,wk1,wkM,wkL,ak,ybf,hcl]
 first|done|repeat first|exact .refl _|refine .push ?_ _
def i5 (a b:SState):Bool:=(a.id==b.id)&&(a.header==b.header)&&(a.select==b.select)&&(eqL iy a.cases b.cases)&&(a.dflt==b.dflt)
theorem xJ (a:SState):i5 a a=true:=by simp [i5,aK lx,aK lj,aK lr,aK jw,aK jo,aK jq,aK jz]
def xC:List AV→AHeap→(AV→Prop)→Prop
 |[.agg l,.agg k],_,K=>∃ x y:SState,(.agg l=a0 x∧.agg k=a0 y∧uR x∧uR y)∧K (.bool (i5 x y))
 |_,_,_=>False
theorem gV:EntOk Tryz.prog 97 (Ent.pure xC):=by
 refine Ype fun _ H K h=>?_
 unfold xC at h
 split at h
 rotate_left
 ·exact h.elim
 rename_i l k
 obtain ⟨x,y,⟨e1,e2,hx,hy⟩,hK⟩:=h
 have e1':=AV.agg.inj e1
 have e2':=AV.agg.inj e2
 subst e1'
 subst e2'
 clear e1 e2
 refine ⟨_,hK,?_⟩
 clear hK
 obtain ⟨R,hR⟩:∃ R,i5 x y=R:=⟨_,rfl⟩
 rw [hR]
 unfold i5 at hR
 cases h0:(x.id==y.id)
 ·simp only [h0,Bool.false_and,Bool.and_false,Bool.true_and] at hR
  subst hR
  refine ACalls.fW ag (tCq lB tNq) Tryz.func97 [.tmp 4] (nrq _) (T:=af []) (h:=fun hcl hlt=>?_)
  clear hlt
  simp only [go_sem,byq,iT,h0,true_and,Bool.bne_false,Bool.bne_true]
  simp (disch:=first|exact Zd|omega) [↓zmo,beq,ybc,ybd,ybe,aa,wk,wk2,wk1,wkM,wkL,ak,ybf,hcl]
  first|done|repeat first|exact .refl _|refine .push ?_ _
 cases h1:(x.header==y.header)
 ·simp only [h0,h1,Bool.false_and,Bool.and_false,Bool.true_and] at hR
  subst hR
  refine ACalls.fW ag (tCq lB tNq) Tryz.func97 [.tmp 4] (nrq _) (T:=af []) (h:=fun hcl hlt=>?_)
  clear hlt
  simp only [go_sem,byq,iT,h0,h1,true_and,Bool.bne_false,Bool.bne_true]
  simp (disch:=first|exact Zd|omega) [↓zmo,beq,ybc,ybd,ybe,aa,wk,wk2,wk1,wkM,wkL,ak,ybf,hcl]
  first|done|repeat first|exact .refl _|refine .push ?_ _
 cases h2:(x.select==y.select)
 ·simp only [h0,h1,h2,Bool.false_and,Bool.and_false,Bool.true_and] at hR
  subst hR
  refine ACalls.fW ag (tCq lB tNq) Tryz.func97 [.tmp 4] (nrq _) (T:=af []) (h:=fun hcl hlt=>?_)
  clear hlt
  simp only [go_sem,byq,iT,h0,h1,h2,true_and,Bool.bne_false,Bool.bne_true]
  simp (disch:=first|exact Zd|omega) [↓zmo,beq,ybc,ybd,ybe,aa,wk,wk2,wk1,wkM,wkL,ak,ybf,hcl]
  first|done|repeat first|exact .refl _|refine .push ?_ _
 cases h3:(eqL iy x.cases y.cases)
 ·simp only [h0,h1,h2,h3,Bool.false_and,Bool.and_false,Bool.true_and] at hR
  subst hR
  refine ACalls.fW ag (tCq lB tNq) Tryz.func97 [.tmp 4] (nrq _) (T:=af []) (h:=fun hcl hlt=>?_)
  clear hlt
  simp only [go_sem,byq,iT,h0,h1,h2,h3,true_and,Bool.bne_false,Bool.bne_true]
  refine ⟨x.cases,y.cases,⟨rfl,rfl,hx,hy⟩,?_⟩
  try simp only [go_sem,byq,iT,h0,h1,h2,h3,true_and,Bool.bne_false,Bool.bne_true]
  simp (disch:=first|exact Zd|omega) [↓zmo,beq,ybc,ybd,ybe,aa,wk,wk2,wk1,wkM,wkL,ak,ybf,hcl]
  first|done|repeat first|exact .refl _|refine .push ?_ _
 cases h4:(x.dflt==y.dflt)
 ·simp only [h0,h1,h2,h3,h4,Bool.false_and,Bool.and_false,Bool.true_and] at hR
  subst hR
  refine ACalls.fW ag (tCq lB tNq) Tryz.func97 [.tmp 4] (nrq _) (T:=af []) (h:=fun hcl hlt=>?_)
  clear hlt
  simp only [go_sem,byq,iT,h0,h1,h2,h3,h4,true_and,Bool.bne_false,Bool.bne_true]
  refine ⟨x.cases,y.cases,⟨rfl,rfl,hx,hy⟩,?_⟩
  try simp only [go_sem,byq,iT,h0,h1,h2,h3,h4,true_and,Bool.bne_false,Bool.bne_true]
  simp (disch:=first|exact Zd|omega) [↓zmo,beq,ybc,ybd,ybe,aa,wk,wk2,wk1,wkM,wkL,ak,ybf,hcl]
  first|done|repeat first|exact .refl _|refine .push ?_ _
 simp only [h0,h1,h2,h3,h4,Bool.true_and] at hR
 subst hR
 refine ACalls.fW ag (tCq lB tNq) Tryz.func97 [.tmp 4] (nrq _) (T:=af []) (h:=fun hcl hlt=>?_)
 clear hlt
 simp only [go_sem,byq,iT,h0,h1,h2,h3,h4,true_and,Bool.bne_false,Bool.bne_true]
 refine ⟨x.cases,y.cases,⟨rfl,rfl,hx,hy⟩,?_⟩
 try simp only [go_sem,byq,iT,h0,h1,h2,h3,h4,true_and,Bool.bne_false,Bool.bne_true]
 simp (disch:=first|exact Zd|omega) [↓zmo,beq,ybc,ybd,ybe,aa,wk,wk2,wk1,wkM,wkL,ak,ybf,hcl]
 first|done|repeat first|exact .refl _|refine .push ?_ _
def ji (a b:SAction):Bool:=(a.id==b.id)&&(a.name==b.name)&&(eqL iw a.params b.params)&&(eqL ir a.body b.body)&&(a.restr==b.restr)
theorem yb (a:SAction):ji a a=true:=by simp [ji,aK lx,aK lj,aK lr,aK jw,aK jo,aK jq,aK jz]
def xX:List AV→AHeap→(AV→Prop)→Prop
 |[.agg l,.agg k],_,K=>∃ x y:SAction,(.agg l=aI x∧.agg k=aI y∧tN x∧tN y)∧K (.bool (ji x y))
 |_,_,_=>False
theorem gY:EntOk Tryz.prog 99 (Ent.pure xX):=by
 refine Ype fun _ H K h=>?_
 unfold xX at h
 split at h
 rotate_left
 ·exact h.elim
 rename_i l k
 obtain ⟨x,y,⟨e1,e2,hx,hy⟩,hK⟩:=h
 have e1':=AV.agg.inj e1
 have e2':=AV.agg.inj e2
 subst e1'
 subst e2'
 clear e1 e2
 refine ⟨_,hK,?_⟩
 clear hK
 obtain ⟨R,hR⟩:∃ R,ji x y=R:=⟨_,rfl⟩
 rw [hR]
 unfold ji at hR
 cases h0:(x.id==y.id)
 ·simp only [h0,Bool.false_and,Bool.and_false,Bool.true_and] at hR
  subst hR
  refine ACalls.fW ag (tCq ls (tCq lf tNq)) Tryz.func99 [.tmp 4] (nrq _) (T:=af []) (h:=fun hcl hlt=>?_)
  clear hlt
  simp only [go_sem,byq,gf,f9,h0,true_and,Bool.bne_false,Bool.bne_true]
  simp (disch:=first|exact Zd|omega) [↓zmo,beq,ybc,ybd,ybe,aa,wk,wk2,wk1,wkM,wkL,ak,ybf,hcl]
  first|done|repeat first|exact .refl _|refine .push ?_ _
 cases h1:(x.name==y.name)
 ·simp only [h0,h1,Bool.false_and,Bool.and_false,Bool.true_and] at hR
  subst hR
  refine ACalls.fW ag (tCq ls (tCq lf tNq)) Tryz.func99 [.tmp 4] (nrq _) (T:=af []) (h:=fun hcl hlt=>?_)
  clear hlt
  simp only [go_sem,byq,gf,f9,h0,h1,true_and,Bool.bne_false,Bool.bne_true]
  simp (disch:=first|exact Zd|omega) [↓zmo,beq,ybc,ybd,ybe,aa,wk,wk2,wk1,wkM,wkL,ak,ybf,hcl]
  first|done|repeat first|exact .refl _|refine .push ?_ _
 cases h2:(eqL iw x.params y.params)
 ·simp only [h0,h1,h2,Bool.false_and,Bool.and_false,Bool.true_and] at hR
  subst hR
  refine ACalls.fW ag (tCq ls (tCq lf tNq)) Tryz.func99 [.tmp 4] (nrq _) (T:=af []) (h:=fun hcl hlt=>?_)
  clear hlt
  simp only [go_sem,byq,gf,f9,h0,h1,h2,true_and,Bool.bne_false,Bool.bne_true]
  refine ⟨x.params,y.params,⟨rfl,rfl,hx.1,hy.1⟩,?_⟩
  try simp only [go_sem,byq,gf,f9,h0,h1,h2,true_and,Bool.bne_false,Bool.bne_true]
  simp (disch:=first|exact Zd|omega) [↓zmo,beq,ybc,ybd,ybe,aa,wk,wk2,wk1,wkM,wkL,ak,ybf,hcl]
  first|done|repeat first|exact .refl _|refine .push ?_ _
 cases h3:(eqL ir x.body y.body)
 ·simp only [h0,h1,h2,h3,Bool.false_and,Bool.and_false,Bool.true_and] at hR
  subst hR
  refine ACalls.fW ag (tCq ls (tCq lf tNq)) Tryz.func99 [.tmp 4] (nrq _) (T:=af []) (h:=fun hcl hlt=>?_)
  clear hlt
  simp only [go_sem,byq,gf,f9,h0,h1,h2,h3,true_and,Bool.bne_false,Bool.bne_true]
  refine ⟨x.params,y.params,⟨rfl,rfl,hx.1,hy.1⟩,?_⟩
  try simp only [go_sem,byq,gf,f9,h0,h1,h2,h3,true_and,Bool.bne_false,Bool.bne_true]
  refine ⟨x.body,y.body,⟨rfl,rfl,hx.2,hy.2⟩,?_⟩
  try simp only [go_sem,byq,gf,f9,h0,h1,h2,h3,true_and,Bool.bne_false,Bool.bne_true]
  simp (disch:=first|exact Zd|omega) [↓zmo,beq,ybc,ybd,ybe,aa,wk,wk2,wk1,wkM,wkL,ak,ybf,hcl]
  first|done|repeat first|exact .refl _|refine .push ?_ _
 cases h4:(x.restr==y.restr)
 ·simp only [h0,h1,h2,h3,h4,Bool.false_and,Bool.and_false,Bool.true_and] at hR
  subst hR
  refine ACalls.fW ag (tCq ls (tCq lf tNq)) Tryz.func99 [.tmp 4] (nrq _) (T:=af []) (h:=fun hcl hlt=>?_)
  clear hlt
  simp only [go_sem,byq,gf,f9,h0,h1,h2,h3,h4,true_and,Bool.bne_false,Bool.bne_true]
  refine ⟨x.params,y.params,⟨rfl,rfl,hx.1,hy.1⟩,?_⟩
  try simp only [go_sem,byq,gf,f9,h0,h1,h2,h3,h4,true_and,Bool.bne_false,Bool.bne_true]
  refine ⟨x.body,y.body,⟨rfl,rfl,hx.2,hy.2⟩,?_⟩
  try simp only [go_sem,byq,gf,f9,h0,h1,h2,h3,h4,true_and,Bool.bne_false,Bool.bne_true]
  simp (disch:=first|exact Zd|omega) [↓zmo,beq,ybc,ybd,ybe,aa,wk,wk2,wk1,wkM,wkL,ak,ybf,hcl]
  first|done|repeat first|exact .refl _|refine .push ?_ _
 simp only [h0,h1,h2,h3,h4,Bool.true_and] at hR
 subst hR
 refine ACalls.fW ag (tCq ls (tCq lf tNq)) Tryz.func99 [.tmp 4] (nrq _) (T:=af []) (h:=fun hcl hlt=>?_)
 clear hlt
 simp only [go_sem,byq,gf,f9,h0,h1,h2,h3,h4,true_and,Bool.bne_false,Bool.bne_true]
 refine ⟨x.params,y.params,⟨rfl,rfl,hx.1,hy.1⟩,?_⟩
 try simp only [go_sem,byq,gf,f9,h0,h1,h2,h3,h4,true_and,Bool.bne_false,Bool.bne_true]
 refine ⟨x.body,y.body,⟨rfl,rfl,hx.2,hy.2⟩,?_⟩
 try simp only [go_sem,byq,gf,f9,h0,h1,h2,h3,h4,true_and,Bool.bne_false,Bool.bne_true]
 simp (disch:=first|exact Zd|omega) [↓zmo,beq,ybc,ybd,ybe,aa,wk,wk2,wk1,wkM,wkL,ak,ybf,hcl]
 first|done|repeat first|exact .refl _|refine .push ?_ _
def iZ (a b:STable):Bool:=(a.id==b.id)&&(a.name==b.name)&&(eqL iB a.keys b.keys)&&(eqL eqI a.actions b.actions)&&(a.dflt==b.dflt)&&(eqL eqV a.dargs b.dargs)&&(a.size==b.size)&&(a.restr==b.restr)
theorem xS (a:STable):iZ a a=true:=by simp [iZ,aK lx,aK lj,aK lr,aK jw,aK jo,aK jq,aK jz]
def xy:List AV→AHeap→(AV→Prop)→Prop
 |[.agg l,.agg k],_,K=>∃ x y:STable,(.agg l=aH x∧.agg k=aH y∧uj x∧uj y)∧K (.bool (iZ x y))
 |_,_,_=>False
theorem gW:EntOk Tryz.prog 101 (Ent.pure xy):=by
 refine Ype fun _ H K h=>?_
 unfold xy at h
 split at h
 rotate_left
 ·exact h.elim
 rename_i l k
 obtain ⟨x,y,⟨e1,e2,hx,hy⟩,hK⟩:=h
 have e1':=AV.agg.inj e1
 have e2':=AV.agg.inj e2
 subst e1'
 subst e2'
 clear e1 e2
 refine ⟨_,hK,?_⟩
 clear hK
 obtain ⟨R,hR⟩:∃ R,iZ x y=R:=⟨_,rfl⟩
 rw [hR]
 unfold iZ at hR
 cases h0:(x.id==y.id)
 ·simp only [h0,Bool.false_and,Bool.and_false,Bool.true_and] at hR
  subst hR
  refine ACalls.fW ag (tCq ja (tCq cZ (tCq iV tNq))) Tryz.func101 [.tmp 4] (nrq _) (T:=af []) (h:=fun hcl hlt=>?_)
  clear hlt
  simp only [go_sem,byq,cI,ba,cN,h0,true_and,Bool.bne_false,Bool.bne_true]
  simp (disch:=first|exact Zd|omega) [↓zmo,beq,ybc,ybd,ybe,aa,wk,wk2,wk1,wkM,wkL,ak,ybf,hcl]
  first|done|repeat first|exact .refl _|refine .push ?_ _
 cases h1:(x.name==y.name)
 ·simp only [h0,h1,Bool.false_and,Bool.and_false,Bool.true_and] at hR
  subst hR
  refine ACalls.fW ag (tCq ja (tCq cZ (tCq iV tNq))) Tryz.func101 [.tmp 4] (nrq _) (T:=af []) (h:=fun hcl hlt=>?_)
  clear hlt
  simp only [go_sem,byq,cI,ba,cN,h0,h1,true_and,Bool.bne_false,Bool.bne_true]
  simp (disch:=first|exact Zd|omega) [↓zmo,beq,ybc,ybd,ybe,aa,wk,wk2,wk1,wkM,wkL,ak,ybf,hcl]
  first|done|repeat first|exact .refl _|refine .push ?_ _
 cases h2:(eqL iB x.keys y.keys)
 ·simp only [h0,h1,h2,Bool.false_and,Bool.and_false,Bool.true_and] at hR
  subst hR
  refine ACalls.fW ag (tCq ja (tCq cZ (tCq iV tNq))) Tryz.func101 [.tmp 4] (nrq _) (T:=af []) (h:=fun hcl hlt=>?_)
  clear hlt
  simp only [go_sem,byq,cI,ba,cN,h0,h1,h2,true_and,Bool.bne_false,Bool.bne_true]
  refine ⟨x.keys,y.keys,⟨rfl,rfl,hx.1,hy.1⟩,?_⟩
  try simp only [go_sem,byq,cI,ba,cN,h0,h1,h2,true_and,Bool.bne_false,Bool.bne_true]
  simp (disch:=first|exact Zd|omega) [↓zmo,beq,ybc,ybd,ybe,aa,wk,wk2,wk1,wkM,wkL,ak,ybf,hcl]
  first|done|repeat first|exact .refl _|refine .push ?_ _
 cases h3:(eqL eqI x.actions y.actions)
 ·simp only [h0,h1,h2,h3,Bool.false_and,Bool.and_false,Bool.true_and] at hR
  subst hR
  refine ACalls.fW ag (tCq ja (tCq cZ (tCq iV tNq))) Tryz.func101 [.tmp 4] (nrq _) (T:=af []) (h:=fun hcl hlt=>?_)
  clear hlt
  simp only [go_sem,byq,cI,ba,cN,h0,h1,h2,h3,true_and,Bool.bne_false,Bool.bne_true]
  refine ⟨x.keys,y.keys,⟨rfl,rfl,hx.1,hy.1⟩,?_⟩
  try simp only [go_sem,byq,cI,ba,cN,h0,h1,h2,h3,true_and,Bool.bne_false,Bool.bne_true]
  refine ⟨x.actions,y.actions,⟨rfl,rfl,hx.2.1,hy.2.1⟩,?_⟩
  try simp only [go_sem,byq,cI,ba,cN,h0,h1,h2,h3,true_and,Bool.bne_false,Bool.bne_true]
  simp (disch:=first|exact Zd|omega) [↓zmo,beq,ybc,ybd,ybe,aa,wk,wk2,wk1,wkM,wkL,ak,ybf,hcl]
  first|done|repeat first|exact .refl _|refine .push ?_ _
 cases h4:(x.dflt==y.dflt)
 ·simp only [h0,h1,h2,h3,h4,Bool.false_and,Bool.and_false,Bool.true_and] at hR
  subst hR
  refine ACalls.fW ag (tCq ja (tCq cZ (tCq iV tNq))) Tryz.func101 [.tmp 4] (nrq _) (T:=af []) (h:=fun hcl hlt=>?_)
  clear hlt
  simp only [go_sem,byq,cI,ba,cN,h0,h1,h2,h3,h4,true_and,Bool.bne_false,Bool.bne_true]
  refine ⟨x.keys,y.keys,⟨rfl,rfl,hx.1,hy.1⟩,?_⟩
  try simp only [go_sem,byq,cI,ba,cN,h0,h1,h2,h3,h4,true_and,Bool.bne_false,Bool.bne_true]
  refine ⟨x.actions,y.actions,⟨rfl,rfl,hx.2.1,hy.2.1⟩,?_⟩
  try simp only [go_sem,byq,cI,ba,cN,h0,h1,h2,h3,h4,true_and,Bool.bne_false,Bool.bne_true]
  simp (disch:=first|exact Zd|omega) [↓zmo,beq,ybc,ybd,ybe,aa,wk,wk2,wk1,wkM,wkL,ak,ybf,hcl]
  first|done|repeat first|exact .refl _|refine .push ?_ _
 cases h5:(eqL eqV x.dargs y.dargs)
 ·simp only [h0,h1,h2,h3,h4,h5,Bool.false_and,Bool.and_false,Bool.true_and] at hR
  subst hR
  refine ACalls.fW ag (tCq ja (tCq cZ (tCq iV tNq))) Tryz.func101 [.tmp 4] (nrq _) (T:=af []) (h:=fun hcl hlt=>?_)
  clear hlt
  simp only [go_sem,byq,cI,ba,cN,h0,h1,h2,h3,h4,h5,true_and,Bool.bne_false,Bool.bne_true]
  refine ⟨x.keys,y.keys,⟨rfl,rfl,hx.1,hy.1⟩,?_⟩
  try simp only [go_sem,byq,cI,ba,cN,h0,h1,h2,h3,h4,h5,true_and,Bool.bne_false,Bool.bne_true]
  refine ⟨x.actions,y.actions,⟨rfl,rfl,hx.2.1,hy.2.1⟩,?_⟩
  try simp only [go_sem,byq,cI,ba,cN,h0,h1,h2,h3,h4,h5,true_and,Bool.bne_false,Bool.bne_true]
  refine ⟨x.dargs,y.dargs,⟨rfl,rfl,hx.2.2,hy.2.2⟩,?_⟩
  try simp only [go_sem,byq,cI,ba,cN,h0,h1,h2,h3,h4,h5,true_and,Bool.bne_false,Bool.bne_true]
  simp (disch:=first|exact Zd|omega) [↓zmo,beq,ybc,ybd,ybe,aa,wk,wk2,wk1,wkM,wkL,ak,ybf,hcl]
  first|done|repeat first|exact .refl _|refine .push ?_ _
 cases h6:(x.size==y.size)
 ·simp only [h0,h1,h2,h3,h4,h5,h6,Bool.false_and,Bool.and_false,Bool.true_and] at hR
  subst hR
  refine ACalls.fW ag (tCq ja (tCq cZ (tCq iV tNq))) Tryz.func101 [.tmp 4] (nrq _) (T:=af []) (h:=fun hcl hlt=>?_)
  clear hlt
  simp only [go_sem,byq,cI,ba,cN,h0,h1,h2,h3,h4,h5,h6,true_and,Bool.bne_false,Bool.bne_true]
  refine ⟨x.keys,y.keys,⟨rfl,rfl,hx.1,hy.1⟩,?_⟩
  try simp only [go_sem,byq,cI,ba,cN,h0,h1,h2,h3,h4,h5,h6,true_and,Bool.bne_false,Bool.bne_true]
  refine ⟨x.actions,y.actions,⟨rfl,rfl,hx.2.1,hy.2.1⟩,?_⟩
  try simp only [go_sem,byq,cI,ba,cN,h0,h1,h2,h3,h4,h5,h6,true_and,Bool.bne_false,Bool.bne_true]
  refine ⟨x.dargs,y.dargs,⟨rfl,rfl,hx.2.2,hy.2.2⟩,?_⟩
  try simp only [go_sem,byq,cI,ba,cN,h0,h1,h2,h3,h4,h5,h6,true_and,Bool.bne_false,Bool.bne_true]
  simp (disch:=first|exact Zd|omega) [↓zmo,beq,ybc,ybd,ybe,aa,wk,wk2,wk1,wkM,wkL,ak,ybf,hcl]
  first|done|repeat first|exact .refl _|refine .push ?_ _
 cases h7:(x.restr==y.restr)
 ·simp only [h0,h1,h2,h3,h4,h5,h6,h7,Bool.false_and,Bool.and_false,Bool.true_and] at hR
  subst hR
  refine ACalls.fW ag (tCq ja (tCq cZ (tCq iV tNq))) Tryz.func101 [.tmp 4] (nrq _) (T:=af []) (h:=fun hcl hlt=>?_)
  clear hlt
  simp only [go_sem,byq,cI,ba,cN,h0,h1,h2,h3,h4,h5,h6,h7,true_and,Bool.bne_false,Bool.bne_true]
  refine ⟨x.keys,y.keys,⟨rfl,rfl,hx.1,hy.1⟩,?_⟩
  try simp only [go_sem,byq,cI,ba,cN,h0,h1,h2,h3,h4,h5,h6,h7,true_and,Bool.bne_false,Bool.bne_true]
  refine ⟨x.actions,y.actions,⟨rfl,rfl,hx.2.1,hy.2.1⟩,?_⟩
  try simp only [go_sem,byq,cI,ba,cN,h0,h1,h2,h3,h4,h5,h6,h7,true_and,Bool.bne_false,Bool.bne_true]
  refine ⟨x.dargs,y.dargs,⟨rfl,rfl,hx.2.2,hy.2.2⟩,?_⟩
  try simp only [go_sem,byq,cI,ba,cN,h0,h1,h2,h3,h4,h5,h6,h7,true_and,Bool.bne_false,Bool.bne_true]
  simp (disch:=first|exact Zd|omega) [↓zmo,beq,ybc,ybd,ybe,aa,wk,wk2,wk1,wkM,wkL,ak,ybf,hcl]
  first|done|repeat first|exact .refl _|refine .push ?_ _
 simp only [h0,h1,h2,h3,h4,h5,h6,h7,Bool.true_and] at hR
 subst hR
 refine ACalls.fW ag (tCq ja (tCq cZ (tCq iV tNq))) Tryz.func101 [.tmp 4] (nrq _) (T:=af []) (h:=fun hcl hlt=>?_)
 clear hlt
 simp only [go_sem,byq,cI,ba,cN,h0,h1,h2,h3,h4,h5,h6,h7,true_and,Bool.bne_false,Bool.bne_true]
 refine ⟨x.keys,y.keys,⟨rfl,rfl,hx.1,hy.1⟩,?_⟩
 try simp only [go_sem,byq,cI,ba,cN,h0,h1,h2,h3,h4,h5,h6,h7,true_and,Bool.bne_false,Bool.bne_true]
 refine ⟨x.actions,y.actions,⟨rfl,rfl,hx.2.1,hy.2.1⟩,?_⟩
 try simp only [go_sem,byq,cI,ba,cN,h0,h1,h2,h3,h4,h5,h6,h7,true_and,Bool.bne_false,Bool.bne_true]
 refine ⟨x.dargs,y.dargs,⟨rfl,rfl,hx.2.2,hy.2.2⟩,?_⟩
 try simp only [go_sem,byq,cI,ba,cN,h0,h1,h2,h3,h4,h5,h6,h7,true_and,Bool.bne_false,Bool.bne_true]
 simp (disch:=first|exact Zd|omega) [↓zmo,beq,ybc,ybd,ybe,aa,wk,wk2,wk1,wkM,wkL,ak,ybf,hcl]
 first|done|repeat first|exact .refl _|refine .push ?_ _
def ko (a b:SGrant):Bool:=(a.table==b.table)&&(a.read==b.read)&&(a.write==b.write)&&(eqL eqB a.keys b.keys)
theorem xj (a:SGrant):ko a a=true:=by simp [ko,aK lx,aK lj,aK lr,aK jw,aK jo,aK jq,aK jz]
def xW:List AV→AHeap→(AV→Prop)→Prop
 |[.agg l,.agg k],_,K=>∃ x y:SGrant,(.agg l=aN x∧.agg k=aN y∧uq x∧uq y)∧K (.bool (ko x y))
 |_,_,_=>False
theorem j5:EntOk Tryz.prog 201 (Ent.pure xW):=by
 refine Ype fun _ H K h=>?_
 unfold xW at h
 split at h
 rotate_left
 ·exact h.elim
 rename_i l k
 obtain ⟨x,y,⟨e1,e2,hx,hy⟩,hK⟩:=h
 have e1':=AV.agg.inj e1
 have e2':=AV.agg.inj e2
 subst e1'
 subst e2'
 clear e1 e2
 refine ⟨_,hK,?_⟩
 clear hK
 obtain ⟨R,hR⟩:∃ R,ko x y=R:=⟨_,rfl⟩
 rw [hR]
 unfold ko at hR
 cases h0:(x.table==y.table)
 ·simp only [h0,Bool.false_and,Bool.and_false,Bool.true_and] at hR
  subst hR
  refine ACalls.fW ag (tCq my tNq) Tryz.func201 [.tmp 4] (nrq _) (T:=af []) (h:=fun hcl hlt=>?_)
  clear hlt
  simp only [go_sem,byq,jV,h0,true_and,Bool.bne_false,Bool.bne_true]
  simp (disch:=first|exact Zd|omega) [↓zmo,beq,ybc,ybd,ybe,aa,wk,wk2,wk1,wkM,wkL,ak,ybf,hcl]
  first|done|repeat first|exact .refl _|refine .push ?_ _
 cases h1:(x.read==y.read)
 ·simp only [h0,h1,Bool.false_and,Bool.and_false,Bool.true_and] at hR
  subst hR
  refine ACalls.fW ag (tCq my tNq) Tryz.func201 [.tmp 4] (nrq _) (T:=af []) (h:=fun hcl hlt=>?_)
  clear hlt
  simp only [go_sem,byq,jV,h0,h1,true_and,Bool.bne_false,Bool.bne_true]
  simp (disch:=first|exact Zd|omega) [↓zmo,beq,ybc,ybd,ybe,aa,wk,wk2,wk1,wkM,wkL,ak,ybf,hcl]
  first|done|repeat first|exact .refl _|refine .push ?_ _
 cases h2:(x.write==y.write)
 ·simp only [h0,h1,h2,Bool.false_and,Bool.and_false,Bool.true_and] at hR
  subst hR
  refine ACalls.fW ag (tCq my tNq) Tryz.func201 [.tmp 4] (nrq _) (T:=af []) (h:=fun hcl hlt=>?_)
  clear hlt
  simp only [go_sem,byq,jV,h0,h1,h2,true_and,Bool.bne_false,Bool.bne_true]
  simp (disch:=first|exact Zd|omega) [↓zmo,beq,ybc,ybd,ybe,aa,wk,wk2,wk1,wkM,wkL,ak,ybf,hcl]
  first|done|repeat first|exact .refl _|refine .push ?_ _
 cases h3:(eqL eqB x.keys y.keys)
 ·simp only [h0,h1,h2,h3,Bool.false_and,Bool.and_false,Bool.true_and] at hR
  subst hR
  refine ACalls.fW ag (tCq my tNq) Tryz.func201 [.tmp 4] (nrq _) (T:=af []) (h:=fun hcl hlt=>?_)
  clear hlt
  simp only [go_sem,byq,jV,h0,h1,h2,h3,true_and,Bool.bne_false,Bool.bne_true]
  refine ⟨x.keys,y.keys,⟨rfl,rfl,hx,hy⟩,?_⟩
  try simp only [go_sem,byq,jV,h0,h1,h2,h3,true_and,Bool.bne_false,Bool.bne_true]
  simp (disch:=first|exact Zd|omega) [↓zmo,beq,ybc,ybd,ybe,aa,wk,wk2,wk1,wkM,wkL,ak,ybf,hcl]
  first|done|repeat first|exact .refl _|refine .push ?_ _
 simp only [h0,h1,h2,h3,Bool.true_and] at hR
 subst hR
 refine ACalls.fW ag (tCq my tNq) Tryz.func201 [.tmp 4] (nrq _) (T:=af []) (h:=fun hcl hlt=>?_)
 clear hlt
 simp only [go_sem,byq,jV,h0,h1,h2,h3,true_and,Bool.bne_false,Bool.bne_true]
 refine ⟨x.keys,y.keys,⟨rfl,rfl,hx,hy⟩,?_⟩
 try simp only [go_sem,byq,jV,h0,h1,h2,h3,true_and,Bool.bne_false,Bool.bne_true]
 simp (disch:=first|exact Zd|omega) [↓zmo,beq,ybc,ybd,ybe,aa,wk,wk2,wk1,wkM,wkL,ak,ybf,hcl]
 first|done|repeat first|exact .refl _|refine .push ?_ _
def eV:List AV→AHeap→(AV→Prop)→Prop
 |[.slice _ 4 l,.slice _ 4 k,.func (.func 201) [] []],_,K=>∃ xs ys:List (SGrant),(l=xs.map aN∧k=ys.map aN∧xs.length≤140737488355328∧ys.length≤140737488355328∧(∀ x∈xs,(uq) x)∧∀ x∈ys,(uq) x)∧K (.bool (eqL ko xs ys))
 |_,_,_=>False
theorem kz:EntOk Tryz.prog 203 (Ent.pure eV):=by
 refine Ype fun _ H K h=>?_
 unfold eV at h
 split at h
 rotate_left
 ·exact h.elim
 rename_i m1 l m2 k
 obtain ⟨xs,ys,⟨rfl,rfl,hl1,hl2,ho1,ho2⟩,hK⟩:=h
 refine ⟨_,hK,?_⟩
 clear hK
 obtain ⟨R,hR⟩:∃ R,eqL ko xs ys=R:=⟨_,rfl⟩
 rw [hR]
 by_cases hlen:xs.length=ys.length
 case neg =>
  rw [cf hlen] at hR
  subst hR
  have d0:((xs.length:Int) != (ys.length:Int))=true:=by rw [bne_iff_ne];omega
  refine ACalls.fW ag (tCq j5 tNq) Tryz.func203 [.tmp 6] (nrq _) (T:=af []) (h:=fun hcl hlt=>?_)
  clear hlt
  simp only [go_sem,ybb,d0]
  simp (disch:=first|exact Zd|omega) [↓zmo,beq,ybc,ybd,ybe,aa,wk,wk2,wk1,wkM,wkL,ak,ybf,hcl]
 have d0:((xs.length:Int) != (ys.length:Int))=false:=by rw [hlen];simp
 refine ACalls.fW ag (tCq j5 tNq) Tryz.func203 [.tmp 6] (nrq _) (T:=af []) (h:=fun hcl hlt=>?_)
 have hs1:=hlt (.slice m1 4 (xs.map aN)) (by simp)
 have hs2:=hlt (.slice m2 4 (ys.map aN)) (by simp)
 have hf:AV.lt H.nx (.func (.func 201) [] []):=hlt _ (by simp)
 clear hlt
 simp only [go_sem,ybb,d0]
 refine aq (A:=Nat) (fun k=>[(1,.slice m2 4 (ys.map aN)),(2,.func (.func 201) [] []),(15,.slice m1 4 (xs.map aN)),(16,.int .i64 (xs.length:Int)),(17,.int .i64 (k:Int))]) (fun _=>H) (fun k=>k≤xs.length∧eqL ko (xs.drop k) (ys.drop k)=R) (fun k=>xs.length - k) 0 ⟨by omega,hR⟩ ?_ fun k hk=>?_
 ·refine ⟨by simp only [zkq,zkv];omega,lRq _,hcl,?_,?_⟩
  ·simp only [ltF,znf,and_true,true_and]
   exact ⟨hs2,hf,hs1⟩
  ·simp [aM,wk2,wk1,wkM,Fr.get]
 obtain ⟨hk,hq⟩:=hk
 simp only [go_sem]
 refine ae (fun hc=>?_) (fun hc=>?_)
 ·have hk':k<xs.length:=by simp at hc;omega
  have hk2:k<ys.length:=by omega
  obtain ⟨x,hx⟩:∃ x,x=xs[k]:=⟨_,rfl⟩
  obtain ⟨y,hy⟩:∃ y,y=ys[k]:=⟨_,rfl⟩
  have hd:xs.drop k=x::xs.drop (k+1):=by rw [hx];exact dcq hk'
  have hd2:ys.drop k=y::ys.drop (k+1):=by rw [hy];exact dcq hk2
  have hg:=av (f:=aN) (l:=xs) (k:=k) (x:=x) (by rw [gQq hk',hx])
  have hg2:=av (f:=aN) (l:=ys) (k:=k) (x:=y) (by rw [gQq hk2,hy])
  have e5:=Yk5 k
  have hox:=ho1 x (by rw [hx];exact gMq hk')
  have hoy:=ho2 y (by rw [hy];exact gMq hk2)
  rw [hd,hd2] at hq
  unfold eqL at hq
  simp only [go_sem,iNq,ybb,hg,hg2,aN,aN,xW]
  (repeat with_reducible refine And.intro (by first|assumption|decide|omega) ?_)
  refine ⟨x,y,⟨rfl,rfl,hox,hoy⟩,?_⟩
  try simp only [go_sem]
  refine ae (fun hb=>?_) (fun hb=>?_)
  ·have hb':ko x y=false:=by simpa using hb
   rw [hb',Bool.false_and] at hq
   rw [← hq]
   try simp only [go_sem]
   simp (disch:=first|exact Zd|omega) [↓zmo,beq,ybc,ybd,ybe,aa,wk,wk2,wk1,wkM,wkL,ak,ybf,hcl]
   first|done|repeat first|exact .refl _|refine .push ?_ _
  ·have hb':ko x y=true:=by simpa using hb
   rw [hb',Bool.true_and] at hq
   simp only [go_sem,e5]
   refine ⟨k+1,⟨by omega,hq⟩,by omega,by (try simp only [zle]);omega,by repeat first|exact .refl _|refine .push ?_ _,hcl,?_,?_⟩
   ·simp only [ltF,znf,and_true,true_and]
    exact ⟨hs2,hf,hs1⟩
   ·simp [aM,wk2,wk1,wkM,Fr.get]
 ·have hk':k=xs.length:=by simp at hc;omega
  subst hk'
  rw [List.drop_length,hlen,List.drop_length] at hq
  rw [← hq]
  simp only [go_sem,eqL]
  exact Z2
def jR (a b:SRole):Bool:=(a.id==b.id)&&(a.name==b.name)&&(eqL ko a.grants b.grants)&&(eqL eqI a.actions b.actions)&&(a.quota==b.quota)&&(a.audit==b.audit)
theorem xu (a:SRole):jR a a=true:=by simp [jR,aK lx,aK lj,aK lr,aK jw,aK jo,aK jq,aK jz,aK xj]
def wB:List AV→AHeap→(AV→Prop)→Prop
 |[.agg l,.agg k],_,K=>∃ x y:SRole,(.agg l=bH x∧.agg k=bH y∧t7 x∧t7 y)∧K (.bool (jR x y))
 |_,_,_=>False
theorem gT:EntOk Tryz.prog 104 (Ent.pure wB):=by
 refine Ype fun _ H K h=>?_
 unfold wB at h
 split at h
 rotate_left
 ·exact h.elim
 rename_i l k
 obtain ⟨x,y,⟨e1,e2,hx,hy⟩,hK⟩:=h
 have e1':=AV.agg.inj e1
 have e2':=AV.agg.inj e2
 subst e1'
 subst e2'
 clear e1 e2
 refine ⟨_,hK,?_⟩
 clear hK
 obtain ⟨R,hR⟩:∃ R,jR x y=R:=⟨_,rfl⟩
 rw [hR]
 unfold jR at hR
 cases h0:(x.id==y.id)
 ·simp only [h0,Bool.false_and,Bool.and_false,Bool.true_and] at hR
  subst hR
  refine ACalls.fW ag (tCq kz (tCq cZ (tCq j5 tNq))) Tryz.func104 [.tmp 4] (nrq _) (T:=af []) (h:=fun hcl hlt=>?_)
  clear hlt
  simp only [go_sem,byq,eV,ba,h0,true_and,Bool.bne_false,Bool.bne_true]
  simp (disch:=first|exact Zd|omega) [↓zmo,beq,ybc,ybd,ybe,aa,wk,wk2,wk1,wkM,wkL,ak,ybf,hcl]
  first|done|repeat first|exact .refl _|refine .push ?_ _
 cases h1:(x.name==y.name)
 ·simp only [h0,h1,Bool.false_and,Bool.and_false,Bool.true_and] at hR
  subst hR
  refine ACalls.fW ag (tCq kz (tCq cZ (tCq j5 tNq))) Tryz.func104 [.tmp 4] (nrq _) (T:=af []) (h:=fun hcl hlt=>?_)
  clear hlt
  simp only [go_sem,byq,eV,ba,h0,h1,true_and,Bool.bne_false,Bool.bne_true]
  simp (disch:=first|exact Zd|omega) [↓zmo,beq,ybc,ybd,ybe,aa,wk,wk2,wk1,wkM,wkL,ak,ybf,hcl]
  first|done|repeat first|exact .refl _|refine .push ?_ _
 cases h2:(eqL ko x.grants y.grants)
 ·simp only [h0,h1,h2,Bool.false_and,Bool.and_false,Bool.true_and] at hR
  subst hR
  refine ACalls.fW ag (tCq kz (tCq cZ (tCq j5 tNq))) Tryz.func104 [.tmp 4] (nrq _) (T:=af []) (h:=fun hcl hlt=>?_)
  clear hlt
  simp only [go_sem,byq,eV,ba,h0,h1,h2,true_and,Bool.bne_false,Bool.bne_true]
  refine ⟨x.grants,y.grants,⟨rfl,rfl,hx.1,hy.1,hx.2.2,hy.2.2⟩,?_⟩
  try simp only [go_sem,byq,eV,ba,h0,h1,h2,true_and,Bool.bne_false,Bool.bne_true]
  simp (disch:=first|exact Zd|omega) [↓zmo,beq,ybc,ybd,ybe,aa,wk,wk2,wk1,wkM,wkL,ak,ybf,hcl]
  first|done|repeat first|exact .refl _|refine .push ?_ _
 cases h3:(eqL eqI x.actions y.actions)
 ·simp only [h0,h1,h2,h3,Bool.false_and,Bool.and_false,Bool.true_and] at hR
  subst hR
  refine ACalls.fW ag (tCq kz (tCq cZ (tCq j5 tNq))) Tryz.func104 [.tmp 4] (nrq _) (T:=af []) (h:=fun hcl hlt=>?_)
  clear hlt
  simp only [go_sem,byq,eV,ba,h0,h1,h2,h3,true_and,Bool.bne_false,Bool.bne_true]
  refine ⟨x.grants,y.grants,⟨rfl,rfl,hx.1,hy.1,hx.2.2,hy.2.2⟩,?_⟩
  try simp only [go_sem,byq,eV,ba,h0,h1,h2,h3,true_and,Bool.bne_false,Bool.bne_true]
  refine ⟨x.actions,y.actions,⟨rfl,rfl,hx.2.1,hy.2.1⟩,?_⟩
  try simp only [go_sem,byq,eV,ba,h0,h1,h2,h3,true_and,Bool.bne_false,Bool.bne_true]
  simp (disch:=first|exact Zd|omega) [↓zmo,beq,ybc,ybd,ybe,aa,wk,wk2,wk1,wkM,wkL,ak,ybf,hcl]
  first|done|repeat first|exact .refl _|refine .push ?_ _
 cases h4:(x.quota==y.quota)
 ·simp only [h0,h1,h2,h3,h4,Bool.false_and,Bool.and_false,Bool.true_and] at hR
  subst hR
  refine ACalls.fW ag (tCq kz (tCq cZ (tCq j5 tNq))) Tryz.func104 [.tmp 4] (nrq _) (T:=af []) (h:=fun hcl hlt=>?_)
  clear hlt
  simp only [go_sem,byq,eV,ba,h0,h1,h2,h3,h4,true_and,Bool.bne_false,Bool.bne_true]
  refine ⟨x.grants,y.grants,⟨rfl,rfl,hx.1,hy.1,hx.2.2,hy.2.2⟩,?_⟩
  try simp only [go_sem,byq,eV,ba,h0,h1,h2,h3,h4,true_and,Bool.bne_false,Bool.bne_true]
  refine ⟨x.actions,y.actions,⟨rfl,rfl,hx.2.1,hy.2.1⟩,?_⟩
  try simp only [go_sem,byq,eV,ba,h0,h1,h2,h3,h4,true_and,Bool.bne_false,Bool.bne_true]
  simp (disch:=first|exact Zd|omega) [↓zmo,beq,ybc,ybd,ybe,aa,wk,wk2,wk1,wkM,wkL,ak,ybf,hcl]
  first|done|repeat first|exact .refl _|refine .push ?_ _
 cases h5:(x.audit==y.audit)
 ·simp only [h0,h1,h2,h3,h4,h5,Bool.false_and,Bool.and_false,Bool.true_and] at hR
  subst hR
  refine ACalls.fW ag (tCq kz (tCq cZ (tCq j5 tNq))) Tryz.func104 [.tmp 4] (nrq _) (T:=af []) (h:=fun hcl hlt=>?_)
  clear hlt
  simp only [go_sem,byq,eV,ba,h0,h1,h2,h3,h4,h5,true_and,Bool.bne_false,Bool.bne_true]
  refine ⟨x.grants,y.grants,⟨rfl,rfl,hx.1,hy.1,hx.2.2,hy.2.2⟩,?_⟩
  try simp only [go_sem,byq,eV,ba,h0,h1,h2,h3,h4,h5,true_and,Bool.bne_false,Bool.bne_true]
  refine ⟨x.actions,y.actions,⟨rfl,rfl,hx.2.1,hy.2.1⟩,?_⟩
  try simp only [go_sem,byq,eV,ba,h0,h1,h2,h3,h4,h5,true_and,Bool.bne_false,Bool.bne_true]
  simp (disch:=first|exact Zd|omega) [↓zmo,beq,ybc,ybd,ybe,aa,wk,wk2,wk1,wkM,wkL,ak,ybf,hcl]
  first|done|repeat first|exact .refl _|refine .push ?_ _
 simp only [h0,h1,h2,h3,h4,h5,Bool.true_and] at hR
 subst hR
 refine ACalls.fW ag (tCq kz (tCq cZ (tCq j5 tNq))) Tryz.func104 [.tmp 4] (nrq _) (T:=af []) (h:=fun hcl hlt=>?_)
 clear hlt
 simp only [go_sem,byq,eV,ba,h0,h1,h2,h3,h4,h5,true_and,Bool.bne_false,Bool.bne_true]
 refine ⟨x.grants,y.grants,⟨rfl,rfl,hx.1,hy.1,hx.2.2,hy.2.2⟩,?_⟩
 try simp only [go_sem,byq,eV,ba,h0,h1,h2,h3,h4,h5,true_and,Bool.bne_false,Bool.bne_true]
 refine ⟨x.actions,y.actions,⟨rfl,rfl,hx.2.1,hy.2.1⟩,?_⟩
 try simp only [go_sem,byq,eV,ba,h0,h1,h2,h3,h4,h5,true_and,Bool.bne_false,Bool.bne_true]
 simp (disch:=first|exact Zd|omega) [↓zmo,beq,ybc,ybd,ybe,aa,wk,wk2,wk1,wkM,wkL,ak,ybf,hcl]
 first|done|repeat first|exact .refl _|refine .push ?_ _
def aR:List AV→AHeap→(AV→Prop)→Prop
 |[.slice _ 3 l,.slice _ 3 k,.func (.func 92) [] []],_,K=>∃ xs ys:List (SHeader),(l=xs.map bc∧k=ys.map bc∧xs.length≤140737488355328∧ys.length≤140737488355328∧(∀ x∈xs,(ub) x)∧∀ x∈ys,(ub) x)∧K (.bool (eqL i0 xs ys))
 |_,_,_=>False
theorem gL:EntOk Tryz.prog 95 (Ent.pure aR):=by
 refine Ype fun _ H K h=>?_
 unfold aR at h
 split at h
 rotate_left
 ·exact h.elim
 rename_i m1 l m2 k
 obtain ⟨xs,ys,⟨rfl,rfl,hl1,hl2,ho1,ho2⟩,hK⟩:=h
 refine ⟨_,hK,?_⟩
 clear hK
 obtain ⟨R,hR⟩:∃ R,eqL i0 xs ys=R:=⟨_,rfl⟩
 rw [hR]
 by_cases hlen:xs.length=ys.length
 case neg =>
  rw [cf hlen] at hR
  subst hR
  have d0:((xs.length:Int) != (ys.length:Int))=true:=by rw [bne_iff_ne];omega
  refine ACalls.fW ag (tCq g8 tNq) Tryz.func95 [.tmp 6] (nrq _) (T:=af []) (h:=fun hcl hlt=>?_)
  clear hlt
  simp only [go_sem,ybb,d0]
  simp (disch:=first|exact Zd|omega) [↓zmo,beq,ybc,ybd,ybe,aa,wk,wk2,wk1,wkM,wkL,ak,ybf,hcl]
 have d0:((xs.length:Int) != (ys.length:Int))=false:=by rw [hlen];simp
 refine ACalls.fW ag (tCq g8 tNq) Tryz.func95 [.tmp 6] (nrq _) (T:=af []) (h:=fun hcl hlt=>?_)
 have hs1:=hlt (.slice m1 3 (xs.map bc)) (by simp)
 have hs2:=hlt (.slice m2 3 (ys.map bc)) (by simp)
 have hf:AV.lt H.nx (.func (.func 92) [] []):=hlt _ (by simp)
 clear hlt
 simp only [go_sem,ybb,d0]
 refine aq (A:=Nat) (fun k=>[(1,.slice m2 3 (ys.map bc)),(2,.func (.func 92) [] []),(15,.slice m1 3 (xs.map bc)),(16,.int .i64 (xs.length:Int)),(17,.int .i64 (k:Int))]) (fun _=>H) (fun k=>k≤xs.length∧eqL i0 (xs.drop k) (ys.drop k)=R) (fun k=>xs.length - k) 0 ⟨by omega,hR⟩ ?_ fun k hk=>?_
 ·refine ⟨by simp only [zkq,zkv];omega,lRq _,hcl,?_,?_⟩
  ·simp only [ltF,znf,and_true,true_and]
   exact ⟨hs2,hf,hs1⟩
  ·simp [aM,wk2,wk1,wkM,Fr.get]
 obtain ⟨hk,hq⟩:=hk
 simp only [go_sem]
 refine ae (fun hc=>?_) (fun hc=>?_)
 ·have hk':k<xs.length:=by simp at hc;omega
  have hk2:k<ys.length:=by omega
  obtain ⟨x,hx⟩:∃ x,x=xs[k]:=⟨_,rfl⟩
  obtain ⟨y,hy⟩:∃ y,y=ys[k]:=⟨_,rfl⟩
  have hd:xs.drop k=x::xs.drop (k+1):=by rw [hx];exact dcq hk'
  have hd2:ys.drop k=y::ys.drop (k+1):=by rw [hy];exact dcq hk2
  have hg:=av (f:=bc) (l:=xs) (k:=k) (x:=x) (by rw [gQq hk',hx])
  have hg2:=av (f:=bc) (l:=ys) (k:=k) (x:=y) (by rw [gQq hk2,hy])
  have e5:=Yk5 k
  have hox:=ho1 x (by rw [hx];exact gMq hk')
  have hoy:=ho2 y (by rw [hy];exact gMq hk2)
  rw [hd,hd2] at hq
  unfold eqL at hq
  simp only [go_sem,iNq,ybb,hg,hg2,bc,bc,wO]
  (repeat with_reducible refine And.intro (by first|assumption|decide|omega) ?_)
  refine ⟨x,y,⟨rfl,rfl,hox,hoy⟩,?_⟩
  try simp only [go_sem]
  refine ae (fun hb=>?_) (fun hb=>?_)
  ·have hb':i0 x y=false:=by simpa using hb
   rw [hb',Bool.false_and] at hq
   rw [← hq]
   try simp only [go_sem]
   simp (disch:=first|exact Zd|omega) [↓zmo,beq,ybc,ybd,ybe,aa,wk,wk2,wk1,wkM,wkL,ak,ybf,hcl]
   first|done|repeat first|exact .refl _|refine .push ?_ _
  ·have hb':i0 x y=true:=by simpa using hb
   rw [hb',Bool.true_and] at hq
   simp only [go_sem,e5]
   refine ⟨k+1,⟨by omega,hq⟩,by omega,by (try simp only [zle]);omega,by repeat first|exact .refl _|refine .push ?_ _,hcl,?_,?_⟩
   ·simp only [ltF,znf,and_true,true_and]
    exact ⟨hs2,hf,hs1⟩
   ·simp [aM,wk2,wk1,wkM,Fr.get]
 ·have hk':k=xs.length:=by simp at hc;omega
  subst hk'
  rw [List.drop_length,hlen,List.drop_length] at hq
  rw [← hq]
  simp only [go_sem,eqL]
  exact Z2
def aX:List AV→AHeap→(AV→Prop)→Prop
 |[.slice _ 5 l,.slice _ 5 k,.func (.func 97) [] []],_,K=>∃ xs ys:List (SState),(l=xs.map a0∧k=ys.map a0∧xs.length≤140737488355328∧ys.length≤140737488355328∧(∀ x∈xs,(uR) x)∧∀ x∈ys,(uR) x)∧K (.bool (eqL i5 xs ys))
 |_,_,_=>False
theorem gE:EntOk Tryz.prog 96 (Ent.pure aX):=by
 refine Ype fun _ H K h=>?_
 unfold aX at h
 split at h
 rotate_left
 ·exact h.elim
 rename_i m1 l m2 k
 obtain ⟨xs,ys,⟨rfl,rfl,hl1,hl2,ho1,ho2⟩,hK⟩:=h
 refine ⟨_,hK,?_⟩
 clear hK
 obtain ⟨R,hR⟩:∃ R,eqL i5 xs ys=R:=⟨_,rfl⟩
 rw [hR]
 by_cases hlen:xs.length=ys.length
 case neg =>
  rw [cf hlen] at hR
  subst hR
  have d0:((xs.length:Int) != (ys.length:Int))=true:=by rw [bne_iff_ne];omega
  refine ACalls.fW ag (tCq gV tNq) Tryz.func96 [.tmp 6] (nrq _) (T:=af []) (h:=fun hcl hlt=>?_)
  clear hlt
  simp only [go_sem,ybb,d0]
  simp (disch:=first|exact Zd|omega) [↓zmo,beq,ybc,ybd,ybe,aa,wk,wk2,wk1,wkM,wkL,ak,ybf,hcl]
 have d0:((xs.length:Int) != (ys.length:Int))=false:=by rw [hlen];simp
 refine ACalls.fW ag (tCq gV tNq) Tryz.func96 [.tmp 6] (nrq _) (T:=af []) (h:=fun hcl hlt=>?_)
 have hs1:=hlt (.slice m1 5 (xs.map a0)) (by simp)
 have hs2:=hlt (.slice m2 5 (ys.map a0)) (by simp)
 have hf:AV.lt H.nx (.func (.func 97) [] []):=hlt _ (by simp)
 clear hlt
 simp only [go_sem,ybb,d0]
 refine aq (A:=Nat) (fun k=>[(1,.slice m2 5 (ys.map a0)),(2,.func (.func 97) [] []),(15,.slice m1 5 (xs.map a0)),(16,.int .i64 (xs.length:Int)),(17,.int .i64 (k:Int))]) (fun _=>H) (fun k=>k≤xs.length∧eqL i5 (xs.drop k) (ys.drop k)=R) (fun k=>xs.length - k) 0 ⟨by omega,hR⟩ ?_ fun k hk=>?_
 ·refine ⟨by simp only [zkq,zkv];omega,lRq _,hcl,?_,?_⟩
  ·simp only [ltF,znf,and_true,true_and]
   exact ⟨hs2,hf,hs1⟩
  ·simp [aM,wk2,wk1,wkM,Fr.get]
 obtain ⟨hk,hq⟩:=hk
 simp only [go_sem]
 refine ae (fun hc=>?_) (fun hc=>?_)
 ·have hk':k<xs.length:=by simp at hc;omega
  have hk2:k<ys.length:=by omega
  obtain ⟨x,hx⟩:∃ x,x=xs[k]:=⟨_,rfl⟩
  obtain ⟨y,hy⟩:∃ y,y=ys[k]:=⟨_,rfl⟩
  have hd:xs.drop k=x::xs.drop (k+1):=by rw [hx];exact dcq hk'
  have hd2:ys.drop k=y::ys.drop (k+1):=by rw [hy];exact dcq hk2
  have hg:=av (f:=a0) (l:=xs) (k:=k) (x:=x) (by rw [gQq hk',hx])
  have hg2:=av (f:=a0) (l:=ys) (k:=k) (x:=y) (by rw [gQq hk2,hy])
  have e5:=Yk5 k
  have hox:=ho1 x (by rw [hx];exact gMq hk')
  have hoy:=ho2 y (by rw [hy];exact gMq hk2)
  rw [hd,hd2] at hq
  unfold eqL at hq
  simp only [go_sem,iNq,ybb,hg,hg2,a0,a0,xC]
  (repeat with_reducible refine And.intro (by first|assumption|decide|omega) ?_)
  refine ⟨x,y,⟨rfl,rfl,hox,hoy⟩,?_⟩
  try simp only [go_sem]
  refine ae (fun hb=>?_) (fun hb=>?_)
  ·have hb':i5 x y=false:=by simpa using hb
   rw [hb',Bool.false_and] at hq
   rw [← hq]
   try simp only [go_sem]
   simp (disch:=first|exact Zd|omega) [↓zmo,beq,ybc,ybd,ybe,aa,wk,wk2,wk1,wkM,wkL,ak,ybf,hcl]
   first|done|repeat first|exact .refl _|refine .push ?_ _
  ·have hb':i5 x y=true:=by simpa using hb
   rw [hb',Bool.true_and] at hq
   simp only [go_sem,e5]
   refine ⟨k+1,⟨by omega,hq⟩,by omega,by (try simp only [zle]);omega,by repeat first|exact .refl _|refine .push ?_ _,hcl,?_,?_⟩
   ·simp only [ltF,znf,and_true,true_and]
    exact ⟨hs2,hf,hs1⟩
   ·simp [aM,wk2,wk1,wkM,Fr.get]
 ·have hk':k=xs.length:=by simp at hc;omega
  subst hk'
  rw [List.drop_length,hlen,List.drop_length] at hq
  rw [← hq]
  simp only [go_sem,eqL]
  exact Z2
def aU:List AV→AHeap→(AV→Prop)→Prop
 |[.slice _ 5 l,.slice _ 5 k,.func (.func 99) [] []],_,K=>∃ xs ys:List (SAction),(l=xs.map aI∧k=ys.map aI∧xs.length≤140737488355328∧ys.length≤140737488355328∧(∀ x∈xs,(tN) x)∧∀ x∈ys,(tN) x)∧K (.bool (eqL ji xs ys))
 |_,_,_=>False
theorem gN:EntOk Tryz.prog 98 (Ent.pure aU):=by
 refine Ype fun _ H K h=>?_
 unfold aU at h
 split at h
 rotate_left
 ·exact h.elim
 rename_i m1 l m2 k
 obtain ⟨xs,ys,⟨rfl,rfl,hl1,hl2,ho1,ho2⟩,hK⟩:=h
 refine ⟨_,hK,?_⟩
 clear hK
 obtain ⟨R,hR⟩:∃ R,eqL ji xs ys=R:=⟨_,rfl⟩
 rw [hR]
 by_cases hlen:xs.length=ys.length
 case neg =>
  rw [cf hlen] at hR
  subst hR
  have d0:((xs.length:Int) != (ys.length:Int))=true:=by rw [bne_iff_ne];omega
  refine ACalls.fW ag (tCq gY tNq) Tryz.func98 [.tmp 6] (nrq _) (T:=af []) (h:=fun hcl hlt=>?_)
  clear hlt
  simp only [go_sem,ybb,d0]
  simp (disch:=first|exact Zd|omega) [↓zmo,beq,ybc,ybd,ybe,aa,wk,wk2,wk1,wkM,wkL,ak,ybf,hcl]
 have d0:((xs.length:Int) != (ys.length:Int))=false:=by rw [hlen];simp
 refine ACalls.fW ag (tCq gY tNq) Tryz.func98 [.tmp 6] (nrq _) (T:=af []) (h:=fun hcl hlt=>?_)
 have hs1:=hlt (.slice m1 5 (xs.map aI)) (by simp)
 have hs2:=hlt (.slice m2 5 (ys.map aI)) (by simp)
 have hf:AV.lt H.nx (.func (.func 99) [] []):=hlt _ (by simp)
 clear hlt
 simp only [go_sem,ybb,d0]
 refine aq (A:=Nat) (fun k=>[(1,.slice m2 5 (ys.map aI)),(2,.func (.func 99) [] []),(15,.slice m1 5 (xs.map aI)),(16,.int .i64 (xs.length:Int)),(17,.int .i64 (k:Int))]) (fun _=>H) (fun k=>k≤xs.length∧eqL ji (xs.drop k) (ys.drop k)=R) (fun k=>xs.length - k) 0 ⟨by omega,hR⟩ ?_ fun k hk=>?_
 ·refine ⟨by simp only [zkq,zkv];omega,lRq _,hcl,?_,?_⟩
  ·simp only [ltF,znf,and_true,true_and]
   exact ⟨hs2,hf,hs1⟩
  ·simp [aM,wk2,wk1,wkM,Fr.get]
 obtain ⟨hk,hq⟩:=hk
 simp only [go_sem]
 refine ae (fun hc=>?_) (fun hc=>?_)
 ·have hk':k<xs.length:=by simp at hc;omega
  have hk2:k<ys.length:=by omega
  obtain ⟨x,hx⟩:∃ x,x=xs[k]:=⟨_,rfl⟩
  obtain ⟨y,hy⟩:∃ y,y=ys[k]:=⟨_,rfl⟩
  have hd:xs.drop k=x::xs.drop (k+1):=by rw [hx];exact dcq hk'
  have hd2:ys.drop k=y::ys.drop (k+1):=by rw [hy];exact dcq hk2
  have hg:=av (f:=aI) (l:=xs) (k:=k) (x:=x) (by rw [gQq hk',hx])
  have hg2:=av (f:=aI) (l:=ys) (k:=k) (x:=y) (by rw [gQq hk2,hy])
  have e5:=Yk5 k
  have hox:=ho1 x (by rw [hx];exact gMq hk')
  have hoy:=ho2 y (by rw [hy];exact gMq hk2)
  rw [hd,hd2] at hq
  unfold eqL at hq
  simp only [go_sem,iNq,ybb,hg,hg2,aI,aI,xX]
  (repeat with_reducible refine And.intro (by first|assumption|decide|omega) ?_)
  refine ⟨x,y,⟨rfl,rfl,hox,hoy⟩,?_⟩
  try simp only [go_sem]
  refine ae (fun hb=>?_) (fun hb=>?_)
  ·have hb':ji x y=false:=by simpa using hb
   rw [hb',Bool.false_and] at hq
   rw [← hq]
   try simp only [go_sem]
   simp (disch:=first|exact Zd|omega) [↓zmo,beq,ybc,ybd,ybe,aa,wk,wk2,wk1,wkM,wkL,ak,ybf,hcl]
   first|done|repeat first|exact .refl _|refine .push ?_ _
  ·have hb':ji x y=true:=by simpa using hb
   rw [hb',Bool.true_and] at hq
   simp only [go_sem,e5]
   refine ⟨k+1,⟨by omega,hq⟩,by omega,by (try simp only [zle]);omega,by repeat first|exact .refl _|refine .push ?_ _,hcl,?_,?_⟩
   ·simp only [ltF,znf,and_true,true_and]
    exact ⟨hs2,hf,hs1⟩
   ·simp [aM,wk2,wk1,wkM,Fr.get]
 ·have hk':k=xs.length:=by simp at hc;omega
  subst hk'
  rw [List.drop_length,hlen,List.drop_length] at hq
  rw [← hq]
  simp only [go_sem,eqL]
  exact Z2
def aT:List AV→AHeap→(AV→Prop)→Prop
 |[.slice _ 8 l,.slice _ 8 k,.func (.func 101) [] []],_,K=>∃ xs ys:List (STable),(l=xs.map aH∧k=ys.map aH∧xs.length≤140737488355328∧ys.length≤140737488355328∧(∀ x∈xs,(uj) x)∧∀ x∈ys,(uj) x)∧K (.bool (eqL iZ xs ys))
 |_,_,_=>False
theorem gI:EntOk Tryz.prog 100 (Ent.pure aT):=by
 refine Ype fun _ H K h=>?_
 unfold aT at h
 split at h
 rotate_left
 ·exact h.elim
 rename_i m1 l m2 k
 obtain ⟨xs,ys,⟨rfl,rfl,hl1,hl2,ho1,ho2⟩,hK⟩:=h
 refine ⟨_,hK,?_⟩
 clear hK
 obtain ⟨R,hR⟩:∃ R,eqL iZ xs ys=R:=⟨_,rfl⟩
 rw [hR]
 by_cases hlen:xs.length=ys.length
 case neg =>
  rw [cf hlen] at hR
  subst hR
  have d0:((xs.length:Int) != (ys.length:Int))=true:=by rw [bne_iff_ne];omega
  refine ACalls.fW ag (tCq gW tNq) Tryz.func100 [.tmp 6] (nrq _) (T:=af []) (h:=fun hcl hlt=>?_)
  clear hlt
  simp only [go_sem,ybb,d0]
  simp (disch:=first|exact Zd|omega) [↓zmo,beq,ybc,ybd,ybe,aa,wk,wk2,wk1,wkM,wkL,ak,ybf,hcl]
 have d0:((xs.length:Int) != (ys.length:Int))=false:=by rw [hlen];simp
 refine ACalls.fW ag (tCq gW tNq) Tryz.func100 [.tmp 6] (nrq _) (T:=af []) (h:=fun hcl hlt=>?_)
 have hs1:=hlt (.slice m1 8 (xs.map aH)) (by simp)
 have hs2:=hlt (.slice m2 8 (ys.map aH)) (by simp)
 have hf:AV.lt H.nx (.func (.func 101) [] []):=hlt _ (by simp)
 clear hlt
 simp only [go_sem,ybb,d0]
 refine aq (A:=Nat) (fun k=>[(1,.slice m2 8 (ys.map aH)),(2,.func (.func 101) [] []),(15,.slice m1 8 (xs.map aH)),(16,.int .i64 (xs.length:Int)),(17,.int .i64 (k:Int))]) (fun _=>H) (fun k=>k≤xs.length∧eqL iZ (xs.drop k) (ys.drop k)=R) (fun k=>xs.length - k) 0 ⟨by omega,hR⟩ ?_ fun k hk=>?_
 ·refine ⟨by simp only [zkq,zkv];omega,lRq _,hcl,?_,?_⟩
  ·simp only [ltF,znf,and_true,true_and]
   exact ⟨hs2,hf,hs1⟩
  ·simp [aM,wk2,wk1,wkM,Fr.get]
 obtain ⟨hk,hq⟩:=hk
 simp only [go_sem]
 refine ae (fun hc=>?_) (fun hc=>?_)
 ·have hk':k<xs.length:=by simp at hc;omega
  have hk2:k<ys.length:=by omega
  obtain ⟨x,hx⟩:∃ x,x=xs[k]:=⟨_,rfl⟩
  obtain ⟨y,hy⟩:∃ y,y=ys[k]:=⟨_,rfl⟩
  have hd:xs.drop k=x::xs.drop (k+1):=by rw [hx];exact dcq hk'
  have hd2:ys.drop k=y::ys.drop (k+1):=by rw [hy];exact dcq hk2
  have hg:=av (f:=aH) (l:=xs) (k:=k) (x:=x) (by rw [gQq hk',hx])
  have hg2:=av (f:=aH) (l:=ys) (k:=k) (x:=y) (by rw [gQq hk2,hy])
  have e5:=Yk5 k
  have hox:=ho1 x (by rw [hx];exact gMq hk')
  have hoy:=ho2 y (by rw [hy];exact gMq hk2)
  rw [hd,hd2] at hq
  unfold eqL at hq
  simp only [go_sem,iNq,ybb,hg,hg2,aH,aH,xy]
  (repeat with_reducible refine And.intro (by first|assumption|decide|omega) ?_)
  refine ⟨x,y,⟨rfl,rfl,hox,hoy⟩,?_⟩
  try simp only [go_sem]
  refine ae (fun hb=>?_) (fun hb=>?_)
  ·have hb':iZ x y=false:=by simpa using hb
   rw [hb',Bool.false_and] at hq
   rw [← hq]
   try simp only [go_sem]
   simp (disch:=first|exact Zd|omega) [↓zmo,beq,ybc,ybd,ybe,aa,wk,wk2,wk1,wkM,wkL,ak,ybf,hcl]
   first|done|repeat first|exact .refl _|refine .push ?_ _
  ·have hb':iZ x y=true:=by simpa using hb
   rw [hb',Bool.true_and] at hq
   simp only [go_sem,e5]
   refine ⟨k+1,⟨by omega,hq⟩,by omega,by (try simp only [zle]);omega,by repeat first|exact .refl _|refine .push ?_ _,hcl,?_,?_⟩
   ·simp only [ltF,znf,and_true,true_and]
    exact ⟨hs2,hf,hs1⟩
   ·simp [aM,wk2,wk1,wkM,Fr.get]
 ·have hk':k=xs.length:=by simp at hc;omega
  subst hk'
  rw [List.drop_length,hlen,List.drop_length] at hq
  rw [← hq]
  simp only [go_sem,eqL]
  exact Z2
def aV:List AV→AHeap→(AV→Prop)→Prop
 |[.slice _ 6 l,.slice _ 6 k,.func (.func 104) [] []],_,K=>∃ xs ys:List (SRole),(l=xs.map bH∧k=ys.map bH∧xs.length≤140737488355328∧ys.length≤140737488355328∧(∀ x∈xs,(t7) x)∧∀ x∈ys,(t7) x)∧K (.bool (eqL jR xs ys))
 |_,_,_=>False
theorem gO:EntOk Tryz.prog 103 (Ent.pure aV):=by
 refine Ype fun _ H K h=>?_
 unfold aV at h
 split at h
 rotate_left
 ·exact h.elim
 rename_i m1 l m2 k
 obtain ⟨xs,ys,⟨rfl,rfl,hl1,hl2,ho1,ho2⟩,hK⟩:=h
 refine ⟨_,hK,?_⟩
 clear hK
 obtain ⟨R,hR⟩:∃ R,eqL jR xs ys=R:=⟨_,rfl⟩
 rw [hR]
 by_cases hlen:xs.length=ys.length
 case neg =>
  rw [cf hlen] at hR
  subst hR
  have d0:((xs.length:Int) != (ys.length:Int))=true:=by rw [bne_iff_ne];omega
  refine ACalls.fW ag (tCq gT tNq) Tryz.func103 [.tmp 6] (nrq _) (T:=af []) (h:=fun hcl hlt=>?_)
  clear hlt
  simp only [go_sem,ybb,d0]
  simp (disch:=first|exact Zd|omega) [↓zmo,beq,ybc,ybd,ybe,aa,wk,wk2,wk1,wkM,wkL,ak,ybf,hcl]
 have d0:((xs.length:Int) != (ys.length:Int))=false:=by rw [hlen];simp
 refine ACalls.fW ag (tCq gT tNq) Tryz.func103 [.tmp 6] (nrq _) (T:=af []) (h:=fun hcl hlt=>?_)
 have hs1:=hlt (.slice m1 6 (xs.map bH)) (by simp)
 have hs2:=hlt (.slice m2 6 (ys.map bH)) (by simp)
 have hf:AV.lt H.nx (.func (.func 104) [] []):=hlt _ (by simp)
 clear hlt
 simp only [go_sem,ybb,d0]
 refine aq (A:=Nat) (fun k=>[(1,.slice m2 6 (ys.map bH)),(2,.func (.func 104) [] []),(15,.slice m1 6 (xs.map bH)),(16,.int .i64 (xs.length:Int)),(17,.int .i64 (k:Int))]) (fun _=>H) (fun k=>k≤xs.length∧eqL jR (xs.drop k) (ys.drop k)=R) (fun k=>xs.length - k) 0 ⟨by omega,hR⟩ ?_ fun k hk=>?_
 ·refine ⟨by simp only [zkq,zkv];omega,lRq _,hcl,?_,?_⟩
  ·simp only [ltF,znf,and_true,true_and]
   exact ⟨hs2,hf,hs1⟩
  ·simp [aM,wk2,wk1,wkM,Fr.get]
 obtain ⟨hk,hq⟩:=hk
 simp only [go_sem]
 refine ae (fun hc=>?_) (fun hc=>?_)
 ·have hk':k<xs.length:=by simp at hc;omega
  have hk2:k<ys.length:=by omega
  obtain ⟨x,hx⟩:∃ x,x=xs[k]:=⟨_,rfl⟩
  obtain ⟨y,hy⟩:∃ y,y=ys[k]:=⟨_,rfl⟩
  have hd:xs.drop k=x::xs.drop (k+1):=by rw [hx];exact dcq hk'
  have hd2:ys.drop k=y::ys.drop (k+1):=by rw [hy];exact dcq hk2
  have hg:=av (f:=bH) (l:=xs) (k:=k) (x:=x) (by rw [gQq hk',hx])
  have hg2:=av (f:=bH) (l:=ys) (k:=k) (x:=y) (by rw [gQq hk2,hy])
  have e5:=Yk5 k
  have hox:=ho1 x (by rw [hx];exact gMq hk')
  have hoy:=ho2 y (by rw [hy];exact gMq hk2)
  rw [hd,hd2] at hq
  unfold eqL at hq
  simp only [go_sem,iNq,ybb,hg,hg2,bH,bH,wB]
  (repeat with_reducible refine And.intro (by first|assumption|decide|omega) ?_)
  refine ⟨x,y,⟨rfl,rfl,hox,hoy⟩,?_⟩
  try simp only [go_sem]
  refine ae (fun hb=>?_) (fun hb=>?_)
  ·have hb':jR x y=false:=by simpa using hb
   rw [hb',Bool.false_and] at hq
   rw [← hq]
   try simp only [go_sem]
   simp (disch:=first|exact Zd|omega) [↓zmo,beq,ybc,ybd,ybe,aa,wk,wk2,wk1,wkM,wkL,ak,ybf,hcl]
   first|done|repeat first|exact .refl _|refine .push ?_ _
  ·have hb':jR x y=true:=by simpa using hb
   rw [hb',Bool.true_and] at hq
   simp only [go_sem,e5]
   refine ⟨k+1,⟨by omega,hq⟩,by omega,by (try simp only [zle]);omega,by repeat first|exact .refl _|refine .push ?_ _,hcl,?_,?_⟩
   ·simp only [ltF,znf,and_true,true_and]
    exact ⟨hs2,hf,hs1⟩
   ·simp [aM,wk2,wk1,wkM,Fr.get]
 ·have hk':k=xs.length:=by simp at hc;omega
  subst hk'
  rw [List.drop_length,hlen,List.drop_length] at hq
  rw [← hq]
  simp only [go_sem,eqL]
  exact Z2
structure CSch (z:Sch):Prop where
 f:z.fields.length≤140737488355328
 h:z.headers.length≤140737488355328
 h':∀ e∈z.headers,ub e
 s:z.states.length≤140737488355328
 s':∀ e∈z.states,uR e
 a:z.actions.length≤140737488355328
 a':∀ e∈z.actions,tN e
 t:z.tables.length≤140737488355328
 t':∀ e∈z.tables,uj e
 g:z.stages.length≤140737488355328
 r:z.roles.length≤140737488355328
 r':∀ e∈z.roles,t7 e
 x:z.refs.length≤140737488355328
def ni (a b:Sch):Bool:=(a.maxBatch==b.maxBatch)&&(a.budget==b.budget)&&(eqL gB a.fields b.fields)&&(eqL i0 a.headers b.headers)&&(eqL i5 a.states b.states)&&(eqL ji a.actions b.actions)&&(eqL iZ a.tables b.tables)&&(eqL hZ a.stages b.stages)&&(eqL jR a.roles b.roles)&&(eqL hU a.refs b.refs)
theorem lR (a:Sch):ni a a=true:=by simp [ni,aK wQ,aK yl,aK xJ,aK yb,aK xS,aK xl,aK xu,aK wR]
def tt:List AV→AHeap→(AV→Prop)→Prop
 |[.agg l,.agg k],_,K=>∃ x y:Sch,(l=a9 x∧k=a9 y∧CSch x∧CSch y)∧K (.bool (ni x y))
 |_,_,_=>False
def tQ:List AV→AHeap→(AV→Prop)→Prop:=tt
theorem DP:EntOk Tryz.prog 22 (Ent.pure tQ):=by
 unfold tQ
 refine Ype fun _ H K h=>?_
 unfold tt at h
 split at h
 rotate_left
 ·exact h.elim
 rename_i l k
 obtain ⟨x,y,⟨rfl,rfl,hx,hy⟩,hK⟩:=h
 refine ⟨_,hK,?_⟩
 clear hK
 obtain ⟨R,hR⟩:∃ R,ni x y=R:=⟨_,rfl⟩
 rw [hR]
 unfold ni at hR
 cases h0:(x.maxBatch==y.maxBatch)
 ·simp only [h0,Bool.false_and,Bool.and_false,Bool.true_and] at hR
  subst hR
  refine ACalls.fW ag (tCq gP (tCq gL (tCq gE (tCq gN (tCq gI (tCq gF (tCq gO (tCq gJ (tCq g8 (tCq gV (tCq gY (tCq gW (tCq gT tNq))))))))))))) Tryz.func22 [.tmp 4] (nrq _) (T:=af []) (h:=fun hcl hlt=>?_)
  clear hlt
  try simp only [List.append_eq,yal,yak]
  simp only [go_sem,byq,a9,aW,aR,aX,aU,aT,aS,aV,aY,h0,true_and,Bool.bne_false,Bool.bne_true]
  simp (disch:=first|exact Zd|omega) [↓zmo,beq,ybc,ybd,ybe,aa,wk,wk2,wk1,wkM,wkL,ak,ybf,hcl]
  first|done|repeat first|exact .refl _|refine .push ?_ _
 cases h1:(x.budget==y.budget)
 ·simp only [h0,h1,Bool.false_and,Bool.and_false,Bool.true_and] at hR
  subst hR
  refine ACalls.fW ag (tCq gP (tCq gL (tCq gE (tCq gN (tCq gI (tCq gF (tCq gO (tCq gJ (tCq g8 (tCq gV (tCq gY (tCq gW (tCq gT tNq))))))))))))) Tryz.func22 [.tmp 4] (nrq _) (T:=af []) (h:=fun hcl hlt=>?_)
  clear hlt
  try simp only [List.append_eq,yal,yak]
  simp only [go_sem,byq,a9,aW,aR,aX,aU,aT,aS,aV,aY,h0,h1,true_and,Bool.bne_false,Bool.bne_true]
  simp (disch:=first|exact Zd|omega) [↓zmo,beq,ybc,ybd,ybe,aa,wk,wk2,wk1,wkM,wkL,ak,ybf,hcl]
  first|done|repeat first|exact .refl _|refine .push ?_ _
 cases h2:(eqL gB x.fields y.fields)
 ·simp only [h0,h1,h2,Bool.false_and,Bool.and_false,Bool.true_and] at hR
  subst hR
  refine ACalls.fW ag (tCq gP (tCq gL (tCq gE (tCq gN (tCq gI (tCq gF (tCq gO (tCq gJ (tCq g8 (tCq gV (tCq gY (tCq gW (tCq gT tNq))))))))))))) Tryz.func22 [.tmp 4] (nrq _) (T:=af []) (h:=fun hcl hlt=>?_)
  clear hlt
  try simp only [List.append_eq,yal,yak]
  simp only [go_sem,byq,a9,aW,aR,aX,aU,aT,aS,aV,aY,h0,h1,h2,true_and,Bool.bne_false,Bool.bne_true]
  refine ⟨x.fields,y.fields,⟨rfl,rfl,hx.f,hy.f⟩,?_⟩
  try simp only [go_sem,byq,aW,aR,aX,aU,aT,aS,aV,aY,h0,h1,h2,true_and,Bool.bne_false,Bool.bne_true]
  simp (disch:=first|exact Zd|omega) [↓zmo,beq,ybc,ybd,ybe,aa,wk,wk2,wk1,wkM,wkL,ak,ybf,hcl]
  first|done|repeat first|exact .refl _|refine .push ?_ _
 cases h3:(eqL i0 x.headers y.headers)
 ·simp only [h0,h1,h2,h3,Bool.false_and,Bool.and_false,Bool.true_and] at hR
  subst hR
  refine ACalls.fW ag (tCq gP (tCq gL (tCq gE (tCq gN (tCq gI (tCq gF (tCq gO (tCq gJ (tCq g8 (tCq gV (tCq gY (tCq gW (tCq gT tNq))))))))))))) Tryz.func22 [.tmp 4] (nrq _) (T:=af []) (h:=fun hcl hlt=>?_)
  clear hlt
  try simp only [List.append_eq,yal,yak]
  simp only [go_sem,byq,a9,aW,aR,aX,aU,aT,aS,aV,aY,h0,h1,h2,h3,true_and,Bool.bne_false,Bool.bne_true]
  refine ⟨x.fields,y.fields,⟨rfl,rfl,hx.f,hy.f⟩,?_⟩
  try simp only [go_sem,byq,aW,aR,aX,aU,aT,aS,aV,aY,h0,h1,h2,h3,true_and,Bool.bne_false,Bool.bne_true]
  refine ⟨x.headers,y.headers,⟨rfl,rfl,hx.h,hy.h,hx.h',hy.h'⟩,?_⟩
  try simp only [go_sem,byq,aW,aR,aX,aU,aT,aS,aV,aY,h0,h1,h2,h3,true_and,Bool.bne_false,Bool.bne_true]
  simp (disch:=first|exact Zd|omega) [↓zmo,beq,ybc,ybd,ybe,aa,wk,wk2,wk1,wkM,wkL,ak,ybf,hcl]
  first|done|repeat first|exact .refl _|refine .push ?_ _
 cases h4:(eqL i5 x.states y.states)
 ·simp only [h0,h1,h2,h3,h4,Bool.false_and,Bool.and_false,Bool.true_and] at hR
  subst hR
  refine ACalls.fW ag (tCq gP (tCq gL (tCq gE (tCq gN (tCq gI (tCq gF (tCq gO (tCq gJ (tCq g8 (tCq gV (tCq gY (tCq gW (tCq gT tNq))))))))))))) Tryz.func22 [.tmp 4] (nrq _) (T:=af []) (h:=fun hcl hlt=>?_)
  clear hlt
  try simp only [List.append_eq,yal,yak]
  simp only [go_sem,byq,a9,aW,aR,aX,aU,aT,aS,aV,aY,h0,h1,h2,h3,h4,true_and,Bool.bne_false,Bool.bne_true]
  refine ⟨x.fields,y.fields,⟨rfl,rfl,hx.f,hy.f⟩,?_⟩
  try simp only [go_sem,byq,aW,aR,aX,aU,aT,aS,aV,aY,h0,h1,h2,h3,h4,true_and,Bool.bne_false,Bool.bne_true]
  refine ⟨x.headers,y.headers,⟨rfl,rfl,hx.h,hy.h,hx.h',hy.h'⟩,?_⟩
  try simp only [go_sem,byq,aW,aR,aX,aU,aT,aS,aV,aY,h0,h1,h2,h3,h4,true_and,Bool.bne_false,Bool.bne_true]
  refine ⟨x.states,y.states,⟨rfl,rfl,hx.s,hy.s,hx.s',hy.s'⟩,?_⟩
  try simp only [go_sem,byq,aW,aR,aX,aU,aT,aS,aV,aY,h0,h1,h2,h3,h4,true_and,Bool.bne_false,Bool.bne_true]
  simp (disch:=first|exact Zd|omega) [↓zmo,beq,ybc,ybd,ybe,aa,wk,wk2,wk1,wkM,wkL,ak,ybf,hcl]
  first|done|repeat first|exact .refl _|refine .push ?_ _
 cases h5:(eqL ji x.actions y.actions)
 ·simp only [h0,h1,h2,h3,h4,h5,Bool.false_and,Bool.and_false,Bool.true_and] at hR
  subst hR
  refine ACalls.fW ag (tCq gP (tCq gL (tCq gE (tCq gN (tCq gI (tCq gF (tCq gO (tCq gJ (tCq g8 (tCq gV (tCq gY (tCq gW (tCq gT tNq))))))))))))) Tryz.func22 [.tmp 4] (nrq _) (T:=af []) (h:=fun hcl hlt=>?_)
  clear hlt
  try simp only [List.append_eq,yal,yak]
  simp only [go_sem,byq,a9,aW,aR,aX,aU,aT,aS,aV,aY,h0,h1,h2,h3,h4,h5,true_and,Bool.bne_false,Bool.bne_true]
  refine ⟨x.fields,y.fields,⟨rfl,rfl,hx.f,hy.f⟩,?_⟩
  try simp only [go_sem,byq,aW,aR,aX,aU,aT,aS,aV,aY,h0,h1,h2,h3,h4,h5,true_and,Bool.bne_false,Bool.bne_true]
  refine ⟨x.headers,y.headers,⟨rfl,rfl,hx.h,hy.h,hx.h',hy.h'⟩,?_⟩
  try simp only [go_sem,byq,aW,aR,aX,aU,aT,aS,aV,aY,h0,h1,h2,h3,h4,h5,true_and,Bool.bne_false,Bool.bne_true]
  refine ⟨x.states,y.states,⟨rfl,rfl,hx.s,hy.s,hx.s',hy.s'⟩,?_⟩
  try simp only [go_sem,byq,aW,aR,aX,aU,aT,aS,aV,aY,h0,h1,h2,h3,h4,h5,true_and,Bool.bne_false,Bool.bne_true]
  refine ⟨x.actions,y.actions,⟨rfl,rfl,hx.a,hy.a,hx.a',hy.a'⟩,?_⟩
  try simp only [go_sem,byq,aW,aR,aX,aU,aT,aS,aV,aY,h0,h1,h2,h3,h4,h5,true_and,Bool.bne_false,Bool.bne_true]
  simp (disch:=first|exact Zd|omega) [↓zmo,beq,ybc,ybd,ybe,aa,wk,wk2,wk1,wkM,wkL,ak,ybf,hcl]
  first|done|repeat first|exact .refl _|refine .push ?_ _
 cases h6:(eqL iZ x.tables y.tables)
 ·simp only [h0,h1,h2,h3,h4,h5,h6,Bool.false_and,Bool.and_false,Bool.true_and] at hR
  subst hR
  refine ACalls.fW ag (tCq gP (tCq gL (tCq gE (tCq gN (tCq gI (tCq gF (tCq gO (tCq gJ (tCq g8 (tCq gV (tCq gY (tCq gW (tCq gT tNq))))))))))))) Tryz.func22 [.tmp 4] (nrq _) (T:=af []) (h:=fun hcl hlt=>?_)
  clear hlt
  try simp only [List.append_eq,yal,yak]
  simp only [go_sem,byq,a9,aW,aR,aX,aU,aT,aS,aV,aY,h0,h1,h2,h3,h4,h5,h6,true_and,Bool.bne_false,Bool.bne_true]
  refine ⟨x.fields,y.fields,⟨rfl,rfl,hx.f,hy.f⟩,?_⟩
  try simp only [go_sem,byq,aW,aR,aX,aU,aT,aS,aV,aY,h0,h1,h2,h3,h4,h5,h6,true_and,Bool.bne_false,Bool.bne_true]
  refine ⟨x.headers,y.headers,⟨rfl,rfl,hx.h,hy.h,hx.h',hy.h'⟩,?_⟩
  try simp only [go_sem,byq,aW,aR,aX,aU,aT,aS,aV,aY,h0,h1,h2,h3,h4,h5,h6,true_and,Bool.bne_false,Bool.bne_true]
  refine ⟨x.states,y.states,⟨rfl,rfl,hx.s,hy.s,hx.s',hy.s'⟩,?_⟩
  try simp only [go_sem,byq,aW,aR,aX,aU,aT,aS,aV,aY,h0,h1,h2,h3,h4,h5,h6,true_and,Bool.bne_false,Bool.bne_true]
  refine ⟨x.actions,y.actions,⟨rfl,rfl,hx.a,hy.a,hx.a',hy.a'⟩,?_⟩
  try simp only [go_sem,byq,aW,aR,aX,aU,aT,aS,aV,aY,h0,h1,h2,h3,h4,h5,h6,true_and,Bool.bne_false,Bool.bne_true]
  refine ⟨x.tables,y.tables,⟨rfl,rfl,hx.t,hy.t,hx.t',hy.t'⟩,?_⟩
  try simp only [go_sem,byq,aW,aR,aX,aU,aT,aS,aV,aY,h0,h1,h2,h3,h4,h5,h6,true_and,Bool.bne_false,Bool.bne_true]
  simp (disch:=first|exact Zd|omega) [↓zmo,beq,ybc,ybd,ybe,aa,wk,wk2,wk1,wkM,wkL,ak,ybf,hcl]
  first|done|repeat first|exact .refl _|refine .push ?_ _
 cases h7:(eqL hZ x.stages y.stages)
 ·simp only [h0,h1,h2,h3,h4,h5,h6,h7,Bool.false_and,Bool.and_false,Bool.true_and] at hR
  subst hR
  refine ACalls.fW ag (tCq gP (tCq gL (tCq gE (tCq gN (tCq gI (tCq gF (tCq gO (tCq gJ (tCq g8 (tCq gV (tCq gY (tCq gW (tCq gT tNq))))))))))))) Tryz.func22 [.tmp 4] (nrq _) (T:=af []) (h:=fun hcl hlt=>?_)
  clear hlt
  try simp only [List.append_eq,yal,yak]
  simp only [go_sem,byq,a9,aW,aR,aX,aU,aT,aS,aV,aY,h0,h1,h2,h3,h4,h5,h6,h7,true_and,Bool.bne_false,Bool.bne_true]
  refine ⟨x.fields,y.fields,⟨rfl,rfl,hx.f,hy.f⟩,?_⟩
  try simp only [go_sem,byq,aW,aR,aX,aU,aT,aS,aV,aY,h0,h1,h2,h3,h4,h5,h6,h7,true_and,Bool.bne_false,Bool.bne_true]
  refine ⟨x.headers,y.headers,⟨rfl,rfl,hx.h,hy.h,hx.h',hy.h'⟩,?_⟩
  try simp only [go_sem,byq,aW,aR,aX,aU,aT,aS,aV,aY,h0,h1,h2,h3,h4,h5,h6,h7,true_and,Bool.bne_false,Bool.bne_true]
  refine ⟨x.states,y.states,⟨rfl,rfl,hx.s,hy.s,hx.s',hy.s'⟩,?_⟩
  try simp only [go_sem,byq,aW,aR,aX,aU,aT,aS,aV,aY,h0,h1,h2,h3,h4,h5,h6,h7,true_and,Bool.bne_false,Bool.bne_true]
  refine ⟨x.actions,y.actions,⟨rfl,rfl,hx.a,hy.a,hx.a',hy.a'⟩,?_⟩
  try simp only [go_sem,byq,aW,aR,aX,aU,aT,aS,aV,aY,h0,h1,h2,h3,h4,h5,h6,h7,true_and,Bool.bne_false,Bool.bne_true]
  refine ⟨x.tables,y.tables,⟨rfl,rfl,hx.t,hy.t,hx.t',hy.t'⟩,?_⟩
  try simp only [go_sem,byq,aW,aR,aX,aU,aT,aS,aV,aY,h0,h1,h2,h3,h4,h5,h6,h7,true_and,Bool.bne_false,Bool.bne_true]
  refine ⟨x.stages,y.stages,⟨rfl,rfl,hx.g,hy.g⟩,?_⟩
  try simp only [go_sem,byq,aW,aR,aX,aU,aT,aS,aV,aY,h0,h1,h2,h3,h4,h5,h6,h7,true_and,Bool.bne_false,Bool.bne_true]
  simp (disch:=first|exact Zd|omega) [↓zmo,beq,ybc,ybd,ybe,aa,wk,wk2,wk1,wkM,wkL,ak,ybf,hcl]
  first|done|repeat first|exact .refl _|refine .push ?_ _
 cases h8:(eqL jR x.roles y.roles)
 ·simp only [h0,h1,h2,h3,h4,h5,h6,h7,h8,Bool.false_and,Bool.and_false,Bool.true_and] at hR
  subst hR
  refine ACalls.fW ag (tCq gP (tCq gL (tCq gE (tCq gN (tCq gI (tCq gF (tCq gO (tCq gJ (tCq g8 (tCq gV (tCq gY (tCq gW (tCq gT tNq))))))))))))) Tryz.func22 [.tmp 4] (nrq _) (T:=af []) (h:=fun hcl hlt=>?_)
  clear hlt
  try simp only [List.append_eq,yal,yak]
  simp only [go_sem,byq,a9,aW,aR,aX,aU,aT,aS,aV,aY,h0,h1,h2,h3,h4,h5,h6,h7,h8,true_and,Bool.bne_false,Bool.bne_true]
  refine ⟨x.fields,y.fields,⟨rfl,rfl,hx.f,hy.f⟩,?_⟩
  try simp only [go_sem,byq,aW,aR,aX,aU,aT,aS,aV,aY,h0,h1,h2,h3,h4,h5,h6,h7,h8,true_and,Bool.bne_false,Bool.bne_true]
  refine ⟨x.headers,y.headers,⟨rfl,rfl,hx.h,hy.h,hx.h',hy.h'⟩,?_⟩
  try simp only [go_sem,byq,aW,aR,aX,aU,aT,aS,aV,aY,h0,h1,h2,h3,h4,h5,h6,h7,h8,true_and,Bool.bne_false,Bool.bne_true]
  refine ⟨x.states,y.states,⟨rfl,rfl,hx.s,hy.s,hx.s',hy.s'⟩,?_⟩
  try simp only [go_sem,byq,aW,aR,aX,aU,aT,aS,aV,aY,h0,h1,h2,h3,h4,h5,h6,h7,h8,true_and,Bool.bne_false,Bool.bne_true]
  refine ⟨x.actions,y.actions,⟨rfl,rfl,hx.a,hy.a,hx.a',hy.a'⟩,?_⟩
  try simp only [go_sem,byq,aW,aR,aX,aU,aT,aS,aV,aY,h0,h1,h2,h3,h4,h5,h6,h7,h8,true_and,Bool.bne_false,Bool.bne_true]
  refine ⟨x.tables,y.tables,⟨rfl,rfl,hx.t,hy.t,hx.t',hy.t'⟩,?_⟩
  try simp only [go_sem,byq,aW,aR,aX,aU,aT,aS,aV,aY,h0,h1,h2,h3,h4,h5,h6,h7,h8,true_and,Bool.bne_false,Bool.bne_true]
  refine ⟨x.stages,y.stages,⟨rfl,rfl,hx.g,hy.g⟩,?_⟩
  try simp only [go_sem,byq,aW,aR,aX,aU,aT,aS,aV,aY,h0,h1,h2,h3,h4,h5,h6,h7,h8,true_and,Bool.bne_false,Bool.bne_true]
  refine ⟨x.roles,y.roles,⟨rfl,rfl,hx.r,hy.r,hx.r',hy.r'⟩,?_⟩
  try simp only [go_sem,byq,aW,aR,aX,aU,aT,aS,aV,aY,h0,h1,h2,h3,h4,h5,h6,h7,h8,true_and,Bool.bne_false,Bool.bne_true]
  simp (disch:=first|exact Zd|omega) [↓zmo,beq,ybc,ybd,ybe,aa,wk,wk2,wk1,wkM,wkL,ak,ybf,hcl]
  first|done|repeat first|exact .refl _|refine .push ?_ _
 cases h9:(eqL hU x.refs y.refs)
 ·simp only [h0,h1,h2,h3,h4,h5,h6,h7,h8,h9,Bool.false_and,Bool.and_false,Bool.true_and] at hR
  subst hR
  refine ACalls.fW ag (tCq gP (tCq gL (tCq gE (tCq gN (tCq gI (tCq gF (tCq gO (tCq gJ (tCq g8 (tCq gV (tCq gY (tCq gW (tCq gT tNq))))))))))))) Tryz.func22 [.tmp 4] (nrq _) (T:=af []) (h:=fun hcl hlt=>?_)
  clear hlt
  try simp only [List.append_eq,yal,yak]
  simp only [go_sem,byq,a9,aW,aR,aX,aU,aT,aS,aV,aY,h0,h1,h2,h3,h4,h5,h6,h7,h8,h9,true_and,Bool.bne_false,Bool.bne_true]
  refine ⟨x.fields,y.fields,⟨rfl,rfl,hx.f,hy.f⟩,?_⟩
  try simp only [go_sem,byq,aW,aR,aX,aU,aT,aS,aV,aY,h0,h1,h2,h3,h4,h5,h6,h7,h8,h9,true_and,Bool.bne_false,Bool.bne_true]
  refine ⟨x.headers,y.headers,⟨rfl,rfl,hx.h,hy.h,hx.h',hy.h'⟩,?_⟩
  try simp only [go_sem,byq,aW,aR,aX,aU,aT,aS,aV,aY,h0,h1,h2,h3,h4,h5,h6,h7,h8,h9,true_and,Bool.bne_false,Bool.bne_true]
  refine ⟨x.states,y.states,⟨rfl,rfl,hx.s,hy.s,hx.s',hy.s'⟩,?_⟩
  try simp only [go_sem,byq,aW,aR,aX,aU,aT,aS,aV,aY,h0,h1,h2,h3,h4,h5,h6,h7,h8,h9,true_and,Bool.bne_false,Bool.bne_true]
  refine ⟨x.actions,y.actions,⟨rfl,rfl,hx.a,hy.a,hx.a',hy.a'⟩,?_⟩
  try simp only [go_sem,byq,aW,aR,aX,aU,aT,aS,aV,aY,h0,h1,h2,h3,h4,h5,h6,h7,h8,h9,true_and,Bool.bne_false,Bool.bne_true]
  refine ⟨x.tables,y.tables,⟨rfl,rfl,hx.t,hy.t,hx.t',hy.t'⟩,?_⟩
  try simp only [go_sem,byq,aW,aR,aX,aU,aT,aS,aV,aY,h0,h1,h2,h3,h4,h5,h6,h7,h8,h9,true_and,Bool.bne_false,Bool.bne_true]
  refine ⟨x.stages,y.stages,⟨rfl,rfl,hx.g,hy.g⟩,?_⟩
  try simp only [go_sem,byq,aW,aR,aX,aU,aT,aS,aV,aY,h0,h1,h2,h3,h4,h5,h6,h7,h8,h9,true_and,Bool.bne_false,Bool.bne_true]
  refine ⟨x.roles,y.roles,⟨rfl,rfl,hx.r,hy.r,hx.r',hy.r'⟩,?_⟩
  try simp only [go_sem,byq,aW,aR,aX,aU,aT,aS,aV,aY,h0,h1,h2,h3,h4,h5,h6,h7,h8,h9,true_and,Bool.bne_false,Bool.bne_true]
  refine ⟨x.refs,y.refs,⟨rfl,rfl,hx.x,hy.x⟩,?_⟩
  try simp only [go_sem,byq,aW,aR,aX,aU,aT,aS,aV,aY,h0,h1,h2,h3,h4,h5,h6,h7,h8,h9,true_and,Bool.bne_false,Bool.bne_true]
  simp (disch:=first|exact Zd|omega) [↓zmo,beq,ybc,ybd,ybe,aa,wk,wk2,wk1,wkM,wkL,ak,ybf,hcl]
  first|done|repeat first|exact .refl _|refine .push ?_ _
 simp only [h0,h1,h2,h3,h4,h5,h6,h7,h8,h9,Bool.true_and] at hR
 subst hR
 refine ACalls.fW ag (tCq gP (tCq gL (tCq gE (tCq gN (tCq gI (tCq gF (tCq gO (tCq gJ (tCq g8 (tCq gV (tCq gY (tCq gW (tCq gT tNq))))))))))))) Tryz.func22 [.tmp 4] (nrq _) (T:=af []) (h:=fun hcl hlt=>?_)
 clear hlt
 try simp only [List.append_eq,yal,yak]
 simp only [go_sem,byq,a9,aW,aR,aX,aU,aT,aS,aV,aY,h0,h1,h2,h3,h4,h5,h6,h7,h8,h9,true_and,Bool.bne_false,Bool.bne_true]
 refine ⟨x.fields,y.fields,⟨rfl,rfl,hx.f,hy.f⟩,?_⟩
 try simp only [go_sem,byq,aW,aR,aX,aU,aT,aS,aV,aY,h0,h1,h2,h3,h4,h5,h6,h7,h8,h9,true_and,Bool.bne_false,Bool.bne_true]
 refine ⟨x.headers,y.headers,⟨rfl,rfl,hx.h,hy.h,hx.h',hy.h'⟩,?_⟩
 try simp only [go_sem,byq,aW,aR,aX,aU,aT,aS,aV,aY,h0,h1,h2,h3,h4,h5,h6,h7,h8,h9,true_and,Bool.bne_false,Bool.bne_true]
 refine ⟨x.states,y.states,⟨rfl,rfl,hx.s,hy.s,hx.s',hy.s'⟩,?_⟩
 try simp only [go_sem,byq,aW,aR,aX,aU,aT,aS,aV,aY,h0,h1,h2,h3,h4,h5,h6,h7,h8,h9,true_and,Bool.bne_false,Bool.bne_true]
 refine ⟨x.actions,y.actions,⟨rfl,rfl,hx.a,hy.a,hx.a',hy.a'⟩,?_⟩
 try simp only [go_sem,byq,aW,aR,aX,aU,aT,aS,aV,aY,h0,h1,h2,h3,h4,h5,h6,h7,h8,h9,true_and,Bool.bne_false,Bool.bne_true]
 refine ⟨x.tables,y.tables,⟨rfl,rfl,hx.t,hy.t,hx.t',hy.t'⟩,?_⟩
 try simp only [go_sem,byq,aW,aR,aX,aU,aT,aS,aV,aY,h0,h1,h2,h3,h4,h5,h6,h7,h8,h9,true_and,Bool.bne_false,Bool.bne_true]
 refine ⟨x.stages,y.stages,⟨rfl,rfl,hx.g,hy.g⟩,?_⟩
 try simp only [go_sem,byq,aW,aR,aX,aU,aT,aS,aV,aY,h0,h1,h2,h3,h4,h5,h6,h7,h8,h9,true_and,Bool.bne_false,Bool.bne_true]
 refine ⟨x.roles,y.roles,⟨rfl,rfl,hx.r,hy.r,hx.r',hy.r'⟩,?_⟩
 try simp only [go_sem,byq,aW,aR,aX,aU,aT,aS,aV,aY,h0,h1,h2,h3,h4,h5,h6,h7,h8,h9,true_and,Bool.bne_false,Bool.bne_true]
 refine ⟨x.refs,y.refs,⟨rfl,rfl,hx.x,hy.x⟩,?_⟩
 try simp only [go_sem,byq,aW,aR,aX,aU,aT,aS,aV,aY,h0,h1,h2,h3,h4,h5,h6,h7,h8,h9,true_and,Bool.bne_false,Bool.bne_true]
 simp (disch:=first|exact Zd|omega) [↓zmo,beq,ybc,ybd,ybe,aa,wk,wk2,wk1,wkM,wkL,ak,ybf,hcl]
 first|done|repeat first|exact .refl _|refine .push ?_ _
end Go.AL
