/- Contracts and plain laws, a part of the proof; no condition of its own. -/
import Derived.Test.YtiiiljghmilepaaGreatW03p
set_option maxHeartbeats 32000000
open List renaming length_cons → yaz, length_nil → yba, length_map → ybb, take_of_length_le → ybc, drop_append → ybd, take_append → ybe, drop_eq_nil_of_le → ybf, cons_append → yal, nil_append → yak
open Go Go.AL Go.Proofs
namespace Go.AL
set_option linter.all false
set_option maxRecDepth 10000
theorem y5:ti Tryz.prog 95=some ⟨.struct [(0,3,false),(1,9,false),(2,3,false)],3,32,.agg [.int .i64 0,.str [],.int .i64 0]⟩:=by kernel_rfl
theorem yW:ti Tryz.prog 244=some ⟨.struct [(0,212,false),(2,212,false),(4,3,false)],5,40,.agg [.int .u64 0,.int .u64 0,.int .u64 0,.int .u64 0,.int .i64 0]⟩:=by kernel_rfl
theorem yZ:ti Tryz.prog 247=some ⟨.struct [(0,9,false),(1,3,false)],2,24,.agg [.str [],.int .i64 0]⟩:=by kernel_rfl
theorem yV:ti Tryz.prog 251=some ⟨.struct [(0,3,false),(1,3,false),(2,249,false)],6,48,.agg [.int .i64 0,.int .i64 0,.int .i64 0,.int .i64 0,.int .u64 0,.int .u64 0]⟩:=by kernel_rfl
theorem y6:ti Tryz.prog 204=some ⟨.struct [(0,9,false),(1,3,false),(2,3,false)],3,32,.agg [.str [],.int .i64 0,.int .i64 0]⟩:=by kernel_rfl
theorem yX:ti Tryz.prog 84=some ⟨.struct [(0,3,false),(1,3,false)],2,16,.agg [.int .i64 0,.int .i64 0]⟩:=by kernel_rfl
theorem yP:ti Tryz.prog 90=some ⟨.struct [(0,3,false),(1,3,false),(2,3,false),(3,3,false),(4,3,false),(5,3,false)],6,48,.agg [.int .i64 0,.int .i64 0,.int .i64 0,.int .i64 0,.int .i64 0,.int .i64 0]⟩:=by kernel_rfl
theorem kj:ti Tryz.prog 212=some ⟨.struct [(0,210,false),(1,210,false)],2,16,.agg [.int .u64 0,.int .u64 0]⟩:=by kernel_rfl
theorem kR:ti Tryz.prog 249=some ⟨.struct [(0,3,false),(1,3,false),(2,212,false)],4,32,.agg [.int .i64 0,.int .i64 0,.int .u64 0,.int .u64 0]⟩:=by kernel_rfl
theorem pY:ti Tryz.prog 3=some ⟨.int .i64,1,8,.int .i64 0⟩:=by kernel_rfl
theorem pT:ti Tryz.prog 9=some ⟨.string,1,16,.str []⟩:=by kernel_rfl
theorem HL:ti Tryz.prog 4=some ⟨.bool,1,1,.bool false⟩:=by kernel_rfl
theorem oD:ti Tryz.prog 210=some ⟨.int .u64,1,8,.int .u64 0⟩:=by kernel_rfl
attribute [go_sem] y5 yW yZ yV y6 yX yP kj kR pY pT HL oD
def eqL {α:Type} (p:α→α→Bool):List α→List α→Bool
 |[],[]=>true
 |x::xs,y::ys=>p x y&&eqL p xs ys
 |_,_=>false
theorem gq {α:Type} {p:α→α→Bool}:∀ {xs ys:List α},xs.length≠ys.length→eqL p xs ys=false
 |[],[],h=>absurd rfl h
 |[],_::_,_=>rfl
 |_::_,[],_=>rfl
 |x::xs,y::ys,h=>by
  unfold eqL
  rw [gq (p:=p) (xs:=xs) (ys:=ys) (by simpa using h),Bool.and_false]
def iAV (x:Int):AV:=.int .i64 x
def bAV (x:Bool):AV:=.bool x
def eqI (x y:Int):Bool:=x==y
def eqB (x y:Bool):Bool:=x==y
def eqV (x y:Nat):Bool:=(((x/2^64:Nat):Int)==((y/2^64:Nat):Int))&&((((x % 2^64:Nat):Int)==((y % 2^64:Nat):Int))&&true)
theorem lf (x:Int):eqI x x=true:=by simp [eqI]
theorem ls (x:Bool):eqB x x=true:=by simp [eqB]
theorem lr (x:Nat):eqV x x=true:=by simp [eqV]
theorem bq {α:Type} {p:α→α→Bool} (hp:∀ x,p x x=true):∀ l,eqL p l l=true
 |[]=>rfl
 |x::l=>by unfold eqL;rw [hp,bq hp l];rfl
def j8 (a b:SField):Bool:=(a.id==b.id)&&((a.name==b.name)&&((a.bits==b.bits)&&true))
theorem yk (a:SField):j8 a a=true:=by simp [j8,eqV]
theorem Fu:Tryz.prog.eqGuardType Tryz.prog.depth 95=false:=by kernel_rfl
theorem EN {a b:SField}:teq Tryz.prog 9 95 (.agg [.int .i64 a.id,.str a.name,.int .i64 a.bits]) (.agg [.int .i64 b.id,.str b.name,.int .i64 b.bits])=some (j8 a b):=by
 have g2:Tryz.prog.stoodInHeld 95=false:=by kernel_rfl
 have g3:Tryz.prog.stoodInHeld 212=false:=by kernel_rfl
 simp [y5,kj,kR,teq,teq.go,teq.part,pY,pT,oD,ceq,g2,g3,TD.agg,j8,eqV]
def lE (a b:SCase):Bool:=eqV a.value b.value&&(eqV a.mask b.mask&&((a.next==b.next)&&true))
theorem jA (a:SCase):lE a a=true:=by simp [lE,eqV]
theorem Gs:Tryz.prog.eqGuardType Tryz.prog.depth 244=false:=by kernel_rfl
theorem Fi {a b:SCase}:teq Tryz.prog 9 244 (.agg [.int .u64 ((a.value/2^64:Nat):Int),.int .u64 ((a.value % 2^64:Nat):Int),.int .u64 ((a.mask/2^64:Nat):Int),.int .u64 ((a.mask % 2^64:Nat):Int),.int .i64 a.next]) (.agg [.int .u64 ((b.value/2^64:Nat):Int),.int .u64 ((b.value % 2^64:Nat):Int),.int .u64 ((b.mask/2^64:Nat):Int),.int .u64 ((b.mask % 2^64:Nat):Int),.int .i64 b.next])=some (lE a b):=by
 have g2:Tryz.prog.stoodInHeld 244=false:=by kernel_rfl
 have g3:Tryz.prog.stoodInHeld 212=false:=by kernel_rfl
 simp [yW,kj,kR,teq,teq.go,teq.part,pY,pT,oD,ceq,g2,g3,TD.agg,lE,eqV]
def lh (a b:SParam):Bool:=(a.name==b.name)&&((a.bits==b.bits)&&true)
theorem jJ (a:SParam):lh a a=true:=by simp [lh,eqV]
theorem Fl:Tryz.prog.eqGuardType Tryz.prog.depth 247=false:=by kernel_rfl
theorem Fb {a b:SParam}:teq Tryz.prog 9 247 (.agg [.str a.name,.int .i64 a.bits]) (.agg [.str b.name,.int .i64 b.bits])=some (lh a b):=by
 have g2:Tryz.prog.stoodInHeld 247=false:=by kernel_rfl
 have g3:Tryz.prog.stoodInHeld 212=false:=by kernel_rfl
 simp [yZ,kj,kR,teq,teq.go,teq.part,pY,pT,oD,ceq,g2,g3,TD.agg,lh,eqV]
def lB (a b:SPrim):Bool:=(a.op==b.op)&&((a.dst==b.dst)&&((a.kind==b.kind)&&((a.n==b.n)&&(eqV a.value b.value&&true))))
theorem jN (a:SPrim):lB a a=true:=by simp [lB,eqV]
theorem EO:Tryz.prog.eqGuardType Tryz.prog.depth 251=false:=by kernel_rfl
theorem FN {a b:SPrim}:teq Tryz.prog 9 251 (.agg [.int .i64 a.op,.int .i64 a.dst,.int .i64 a.kind,.int .i64 a.n,.int .u64 ((a.value/2^64:Nat):Int),.int .u64 ((a.value % 2^64:Nat):Int)]) (.agg [.int .i64 b.op,.int .i64 b.dst,.int .i64 b.kind,.int .i64 b.n,.int .u64 ((b.value/2^64:Nat):Int),.int .u64 ((b.value % 2^64:Nat):Int)])=some (lB a b):=by
 have g2:Tryz.prog.stoodInHeld 251=false:=by kernel_rfl
 have g3:Tryz.prog.stoodInHeld 212=false:=by kernel_rfl
 simp [yV,kj,kR,teq,teq.go,teq.part,pY,pT,oD,ceq,g2,g3,TD.agg,lB,eqV]
def lH (a b:SKey):Bool:=(a.name==b.name)&&((a.field==b.field)&&((a.kind==b.kind)&&true))
theorem jL (a:SKey):lH a a=true:=by simp [lH,eqV]
theorem FM:Tryz.prog.eqGuardType Tryz.prog.depth 204=false:=by kernel_rfl
theorem FO {a b:SKey}:teq Tryz.prog 9 204 (.agg [.str a.name,.int .i64 a.field,.int .i64 a.kind]) (.agg [.str b.name,.int .i64 b.field,.int .i64 b.kind])=some (lH a b):=by
 have g2:Tryz.prog.stoodInHeld 204=false:=by kernel_rfl
 have g3:Tryz.prog.stoodInHeld 212=false:=by kernel_rfl
 simp [y6,kj,kR,teq,teq.go,teq.part,pY,pT,oD,ceq,g2,g3,TD.agg,lH,eqV]
def kX (a b:SStage):Bool:=(a.table==b.table)&&((a.header==b.header)&&true)
theorem xZ (a:SStage):kX a a=true:=by simp [kX,eqV]
theorem Gf:Tryz.prog.eqGuardType Tryz.prog.depth 84=false:=by kernel_rfl
theorem Ff {a b:SStage}:teq Tryz.prog 9 84 (.agg [.int .i64 a.table,.int .i64 a.header]) (.agg [.int .i64 b.table,.int .i64 b.header])=some (kX a b):=by
 have g2:Tryz.prog.stoodInHeld 84=false:=by kernel_rfl
 have g3:Tryz.prog.stoodInHeld 212=false:=by kernel_rfl
 simp [yX,kj,kR,teq,teq.go,teq.part,pY,pT,oD,ceq,g2,g3,TD.agg,kX,eqV]
def kK (a b:SRef):Bool:=(a.table==b.table)&&((a.key==b.key)&&((a.action==b.action)&&((a.param==b.param)&&((a.toTable==b.toTable)&&((a.toKey==b.toKey)&&true)))))
theorem xO (a:SRef):kK a a=true:=by simp [kK,eqV]
theorem E4:Tryz.prog.eqGuardType Tryz.prog.depth 90=false:=by kernel_rfl
theorem Fx {a b:SRef}:teq Tryz.prog 9 90 (.agg [.int .i64 a.table,.int .i64 a.key,.int .i64 a.action,.int .i64 a.param,.int .i64 a.toTable,.int .i64 a.toKey]) (.agg [.int .i64 b.table,.int .i64 b.key,.int .i64 b.action,.int .i64 b.param,.int .i64 b.toTable,.int .i64 b.toKey])=some (kK a b):=by
 have g2:Tryz.prog.stoodInHeld 90=false:=by kernel_rfl
 have g3:Tryz.prog.stoodInHeld 212=false:=by kernel_rfl
 simp [yP,kj,kR,teq,teq.go,teq.part,pY,pT,oD,ceq,g2,g3,TD.agg,kK,eqV]
theorem Fq:Tryz.prog.eqGuardType Tryz.prog.depth 212=false:=by kernel_rfl
theorem EY {a b:Nat}:teq Tryz.prog 9 212 (.agg [.int .u64 ((a/2^64:Nat):Int),.int .u64 ((a % 2^64:Nat):Int)]) (.agg [.int .u64 ((b/2^64:Nat):Int),.int .u64 ((b % 2^64:Nat):Int)])=some (eqV a b):=by
 have g3:Tryz.prog.stoodInHeld 212=false:=by kernel_rfl
 simp [kj,teq,teq.go,teq.part,oD,ceq,g3,TD.agg,eqV]
def nd:List AV→AHeap→(AV→Prop)→Prop
 |[.slice _ 3 l,.slice _ 3 k],_,K=>∃ xs ys:List (SField),(l=xs.map ar∧k=ys.map ar∧xs.length≤140737488355328∧ys.length≤140737488355328∧True)∧K (.bool (eqL j8 xs ys))
 |_,_,_=>False
theorem ou:EntOk Tryz.prog 182 (Ent.pure nd):=by
 refine EntOk.pure fun args H K h=>?_
 unfold nd at h
 split at h
 rotate_left
 ·exact h.elim
 rename_i m1 l m2 k
 obtain ⟨xs,ys,⟨rfl,rfl,hl1,hl2,ho⟩,hK⟩:=h
 clear ho
 refine ⟨_,hK,?_⟩
 clear hK
 obtain ⟨R,hR⟩:∃ R,eqL j8 xs ys=R:=⟨_,rfl⟩
 rw [hR]
 by_cases hlen:xs.length=ys.length
 case neg =>
  rw [gq hlen] at hR
  subst hR
  have d0:((xs.length:Int) != (ys.length:Int))=true:=by rw [bne_iff_ne];omega
  refine ACalls.fW aB TblOk.nil Tryz.func182 [.tmp 4] (Nat.le_refl _) (T:=ay []) (h:=fun hcl hlt=>?_)
  clear hlt
  simp only [go_sem,ybb,d0]
  simp (disch:=first|assumption|omega|(simp;done)|(simp;omega)|(simp only [bt,and_true];first|done|omega|(simp;done))) [↓zmi,beq,ybc,ybd,ybe,al,wk,wk2,wk1,wkM,wkL,aG,ybf,hcl]
 have d0:((xs.length:Int) != (ys.length:Int))=false:=by rw [hlen];simp
 refine ACalls.fW aB TblOk.nil Tryz.func182 [.tmp 4] (Nat.le_refl _) (T:=ay []) (h:=fun hcl hlt=>?_)
 have hs1:=hlt (.slice m1 3 (xs.map ar)) (by simp)
 have hs2:=hlt (.slice m2 3 (ys.map ar)) (by simp)
 clear hlt
 simp only [go_sem,ybb,d0]
 refine aA (A:=Nat) (fun k=>[(0,.slice m1 3 (xs.map ar)),(1,.slice m2 3 (ys.map ar)),(12,.int .i64 (xs.length:Int)),(13,.int .i64 (k:Int))]) (fun _=>H) (fun k=>k≤xs.length∧eqL j8 (xs.drop k) (ys.drop k)=R) (fun k=>xs.length - k) 0 ⟨by omega,hR⟩ ?_ fun k hk=>?_
 ·refine ⟨by simp only [zkk,zkp];omega,AHeap.Le.refl _,hcl,?_,?_⟩
  ·simp only [ltF,zmz,and_true,true_and]
   exact ⟨hs1,hs2⟩
  ·simp [bf,wk2,wk1,wkM,Fr.get]
 obtain ⟨hk,hq⟩:=hk
 simp only [go_sem]
 refine ai (fun hc=>?_) (fun hc=>?_)
 ·have hk':k<xs.length:=by simp at hc;omega
  have hk2:k<ys.length:=by omega
  obtain ⟨x,hx⟩:∃ x,x=xs[k]:=⟨_,rfl⟩
  obtain ⟨y,hy⟩:∃ y,y=ys[k]:=⟨_,rfl⟩
  have hd:xs.drop k=x::xs.drop (k+1):=by rw [hx];exact List.drop_eq_getElem_cons hk'
  have hd2:ys.drop k=y::ys.drop (k+1):=by rw [hy];exact List.drop_eq_getElem_cons hk2
  have hg:=bc (f:=ar) (l:=xs) (k:=k) (x:=x) (by rw [List.getElem?_eq_getElem hk',hx])
  have hg2:=bc (f:=ar) (l:=ys) (k:=k) (x:=y) (by rw [List.getElem?_eq_getElem hk2,hy])
  have e5:IntKind.i64.wrap ((k:Int)+1)=((k+1:Nat):Int):=by rw [wrap_i64]<;>omega
  rw [hd,hd2] at hq
  unfold eqL at hq
  simp only [go_sem,Int.toNat_natCast,ybb,hg,hg2,ar,ar,EN,Fu,Bool.bne_false,Bool.bne_true,vc,yal,yak]
  (repeat with_reducible refine And.intro (by first|assumption|decide|omega) ?_)
  refine ai (fun hb=>?_) (fun hb=>?_)
  ·have hb':j8 x y=false:=by first|(simpa using hb;done)|(simpa [j8] using hb)
   rw [hb',Bool.false_and] at hq
   rw [← hq]
   try simp only [go_sem]
   simp (disch:=first|assumption|omega|(simp;done)|(simp;omega)|(simp only [bt,and_true];first|done|omega|(simp;done))) [↓zmi,beq,ybc,ybd,ybe,al,wk,wk2,wk1,wkM,wkL,aG,ybf,hcl]
   first|done|repeat first|exact .refl _|refine .push ?_ _
  ·have hb':j8 x y=true:=by first|(simpa using hb;done)|(simpa [j8] using hb)
   rw [hb',Bool.true_and] at hq
   simp only [go_sem,e5]
   refine ⟨k+1,⟨by omega,hq⟩,by omega,by (try simp only [zky]);omega,by repeat first|exact .refl _|refine .push ?_ _,hcl,?_,?_⟩
   ·simp only [ltF,zmz,and_true,true_and]
    exact ⟨hs1,hs2⟩
   ·simp [bf,wk2,wk1,wkM,Fr.get]
 ·have hk':k=xs.length:=by simp at hc;omega
  subst hk'
  rw [List.drop_length,hlen,List.drop_length] at hq
  rw [← hq]
  simp only [go_sem,eqL]
  simp (disch:=first|assumption|omega|(simp;done)|(simp;omega)|(simp only [bt,and_true];first|done|omega|(simp;done))) [↓zmi,beq,ybc,ybd,ybe,al,wk,wk2,wk1,wkM,wkL,aG,ybf,hcl]
def jU:List AV→AHeap→(AV→Prop)→Prop
 |[.slice _ 5 l,.slice _ 5 k],_,K=>∃ xs ys:List (SCase),(l=xs.map aK∧k=ys.map aK∧xs.length≤140737488355328∧ys.length≤140737488355328∧True)∧K (.bool (eqL lE xs ys))
 |_,_,_=>False
theorem oC:EntOk Tryz.prog 183 (Ent.pure jU):=by
 refine EntOk.pure fun args H K h=>?_
 unfold jU at h
 split at h
 rotate_left
 ·exact h.elim
 rename_i m1 l m2 k
 obtain ⟨xs,ys,⟨rfl,rfl,hl1,hl2,ho⟩,hK⟩:=h
 clear ho
 refine ⟨_,hK,?_⟩
 clear hK
 obtain ⟨R,hR⟩:∃ R,eqL lE xs ys=R:=⟨_,rfl⟩
 rw [hR]
 by_cases hlen:xs.length=ys.length
 case neg =>
  rw [gq hlen] at hR
  subst hR
  have d0:((xs.length:Int) != (ys.length:Int))=true:=by rw [bne_iff_ne];omega
  refine ACalls.fW aB TblOk.nil Tryz.func183 [.tmp 4] (Nat.le_refl _) (T:=ay []) (h:=fun hcl hlt=>?_)
  clear hlt
  simp only [go_sem,ybb,d0]
  simp (disch:=first|assumption|omega|(simp;done)|(simp;omega)|(simp only [bt,and_true];first|done|omega|(simp;done))) [↓zmi,beq,ybc,ybd,ybe,al,wk,wk2,wk1,wkM,wkL,aG,ybf,hcl]
 have d0:((xs.length:Int) != (ys.length:Int))=false:=by rw [hlen];simp
 refine ACalls.fW aB TblOk.nil Tryz.func183 [.tmp 4] (Nat.le_refl _) (T:=ay []) (h:=fun hcl hlt=>?_)
 have hs1:=hlt (.slice m1 5 (xs.map aK)) (by simp)
 have hs2:=hlt (.slice m2 5 (ys.map aK)) (by simp)
 clear hlt
 simp only [go_sem,ybb,d0]
 refine aA (A:=Nat) (fun k=>[(0,.slice m1 5 (xs.map aK)),(1,.slice m2 5 (ys.map aK)),(12,.int .i64 (xs.length:Int)),(13,.int .i64 (k:Int))]) (fun _=>H) (fun k=>k≤xs.length∧eqL lE (xs.drop k) (ys.drop k)=R) (fun k=>xs.length - k) 0 ⟨by omega,hR⟩ ?_ fun k hk=>?_
 ·refine ⟨by simp only [zkk,zkp];omega,AHeap.Le.refl _,hcl,?_,?_⟩
  ·simp only [ltF,zmz,and_true,true_and]
   exact ⟨hs1,hs2⟩
  ·simp [bf,wk2,wk1,wkM,Fr.get]
 obtain ⟨hk,hq⟩:=hk
 simp only [go_sem]
 refine ai (fun hc=>?_) (fun hc=>?_)
 ·have hk':k<xs.length:=by simp at hc;omega
  have hk2:k<ys.length:=by omega
  obtain ⟨x,hx⟩:∃ x,x=xs[k]:=⟨_,rfl⟩
  obtain ⟨y,hy⟩:∃ y,y=ys[k]:=⟨_,rfl⟩
  have hd:xs.drop k=x::xs.drop (k+1):=by rw [hx];exact List.drop_eq_getElem_cons hk'
  have hd2:ys.drop k=y::ys.drop (k+1):=by rw [hy];exact List.drop_eq_getElem_cons hk2
  have hg:=bc (f:=aK) (l:=xs) (k:=k) (x:=x) (by rw [List.getElem?_eq_getElem hk',hx])
  have hg2:=bc (f:=aK) (l:=ys) (k:=k) (x:=y) (by rw [List.getElem?_eq_getElem hk2,hy])
  have e5:IntKind.i64.wrap ((k:Int)+1)=((k+1:Nat):Int):=by rw [wrap_i64]<;>omega
  rw [hd,hd2] at hq
  unfold eqL at hq
  simp only [go_sem,Int.toNat_natCast,ybb,hg,hg2,aK,aK,Fi,Gs,Bool.bne_false,Bool.bne_true,vc,yal,yak]
  (repeat with_reducible refine And.intro (by first|assumption|decide|omega) ?_)
  refine ai (fun hb=>?_) (fun hb=>?_)
  ·have hb':lE x y=false:=by first|(simpa using hb;done)|(simpa [lE] using hb)
   rw [hb',Bool.false_and] at hq
   rw [← hq]
   try simp only [go_sem]
   simp (disch:=first|assumption|omega|(simp;done)|(simp;omega)|(simp only [bt,and_true];first|done|omega|(simp;done))) [↓zmi,beq,ybc,ybd,ybe,al,wk,wk2,wk1,wkM,wkL,aG,ybf,hcl]
   first|done|repeat first|exact .refl _|refine .push ?_ _
  ·have hb':lE x y=true:=by first|(simpa using hb;done)|(simpa [lE] using hb)
   rw [hb',Bool.true_and] at hq
   simp only [go_sem,e5]
   refine ⟨k+1,⟨by omega,hq⟩,by omega,by (try simp only [zky]);omega,by repeat first|exact .refl _|refine .push ?_ _,hcl,?_,?_⟩
   ·simp only [ltF,zmz,and_true,true_and]
    exact ⟨hs1,hs2⟩
   ·simp [bf,wk2,wk1,wkM,Fr.get]
 ·have hk':k=xs.length:=by simp at hc;omega
  subst hk'
  rw [List.drop_length,hlen,List.drop_length] at hq
  rw [← hq]
  simp only [go_sem,eqL]
  simp (disch:=first|assumption|omega|(simp;done)|(simp;omega)|(simp only [bt,and_true];first|done|omega|(simp;done))) [↓zmi,beq,ybc,ybd,ybe,al,wk,wk2,wk1,wkM,wkL,aG,ybf,hcl]
def iK:List AV→AHeap→(AV→Prop)→Prop
 |[.slice _ 2 l,.slice _ 2 k],_,K=>∃ xs ys:List (SParam),(l=xs.map aD∧k=ys.map aD∧xs.length≤140737488355328∧ys.length≤140737488355328∧True)∧K (.bool (eqL lh xs ys))
 |_,_,_=>False
theorem sw:EntOk Tryz.prog 184 (Ent.pure iK):=by
 refine EntOk.pure fun args H K h=>?_
 unfold iK at h
 split at h
 rotate_left
 ·exact h.elim
 rename_i m1 l m2 k
 obtain ⟨xs,ys,⟨rfl,rfl,hl1,hl2,ho⟩,hK⟩:=h
 clear ho
 refine ⟨_,hK,?_⟩
 clear hK
 obtain ⟨R,hR⟩:∃ R,eqL lh xs ys=R:=⟨_,rfl⟩
 rw [hR]
 by_cases hlen:xs.length=ys.length
 case neg =>
  rw [gq hlen] at hR
  subst hR
  have d0:((xs.length:Int) != (ys.length:Int))=true:=by rw [bne_iff_ne];omega
  refine ACalls.fW aB TblOk.nil Tryz.func184 [.tmp 4] (Nat.le_refl _) (T:=ay []) (h:=fun hcl hlt=>?_)
  clear hlt
  simp only [go_sem,ybb,d0]
  simp (disch:=first|assumption|omega|(simp;done)|(simp;omega)|(simp only [bt,and_true];first|done|omega|(simp;done))) [↓zmi,beq,ybc,ybd,ybe,al,wk,wk2,wk1,wkM,wkL,aG,ybf,hcl]
 have d0:((xs.length:Int) != (ys.length:Int))=false:=by rw [hlen];simp
 refine ACalls.fW aB TblOk.nil Tryz.func184 [.tmp 4] (Nat.le_refl _) (T:=ay []) (h:=fun hcl hlt=>?_)
 have hs1:=hlt (.slice m1 2 (xs.map aD)) (by simp)
 have hs2:=hlt (.slice m2 2 (ys.map aD)) (by simp)
 clear hlt
 simp only [go_sem,ybb,d0]
 refine aA (A:=Nat) (fun k=>[(0,.slice m1 2 (xs.map aD)),(1,.slice m2 2 (ys.map aD)),(12,.int .i64 (xs.length:Int)),(13,.int .i64 (k:Int))]) (fun _=>H) (fun k=>k≤xs.length∧eqL lh (xs.drop k) (ys.drop k)=R) (fun k=>xs.length - k) 0 ⟨by omega,hR⟩ ?_ fun k hk=>?_
 ·refine ⟨by simp only [zkk,zkp];omega,AHeap.Le.refl _,hcl,?_,?_⟩
  ·simp only [ltF,zmz,and_true,true_and]
   exact ⟨hs1,hs2⟩
  ·simp [bf,wk2,wk1,wkM,Fr.get]
 obtain ⟨hk,hq⟩:=hk
 simp only [go_sem]
 refine ai (fun hc=>?_) (fun hc=>?_)
 ·have hk':k<xs.length:=by simp at hc;omega
  have hk2:k<ys.length:=by omega
  obtain ⟨x,hx⟩:∃ x,x=xs[k]:=⟨_,rfl⟩
  obtain ⟨y,hy⟩:∃ y,y=ys[k]:=⟨_,rfl⟩
  have hd:xs.drop k=x::xs.drop (k+1):=by rw [hx];exact List.drop_eq_getElem_cons hk'
  have hd2:ys.drop k=y::ys.drop (k+1):=by rw [hy];exact List.drop_eq_getElem_cons hk2
  have hg:=bc (f:=aD) (l:=xs) (k:=k) (x:=x) (by rw [List.getElem?_eq_getElem hk',hx])
  have hg2:=bc (f:=aD) (l:=ys) (k:=k) (x:=y) (by rw [List.getElem?_eq_getElem hk2,hy])
  have e5:IntKind.i64.wrap ((k:Int)+1)=((k+1:Nat):Int):=by rw [wrap_i64]<;>omega
  rw [hd,hd2] at hq
  unfold eqL at hq
  simp only [go_sem,Int.toNat_natCast,ybb,hg,hg2,aD,aD,Fb,Fl,Bool.bne_false,Bool.bne_true,vc,yal,yak]
  (repeat with_reducible refine And.intro (by first|assumption|decide|omega) ?_)
  refine ai (fun hb=>?_) (fun hb=>?_)
  ·have hb':lh x y=false:=by first|(simpa using hb;done)|(simpa [lh] using hb)
   rw [hb',Bool.false_and] at hq
   rw [← hq]
   try simp only [go_sem]
   simp (disch:=first|assumption|omega|(simp;done)|(simp;omega)|(simp only [bt,and_true];first|done|omega|(simp;done))) [↓zmi,beq,ybc,ybd,ybe,al,wk,wk2,wk1,wkM,wkL,aG,ybf,hcl]
   first|done|repeat first|exact .refl _|refine .push ?_ _
  ·have hb':lh x y=true:=by first|(simpa using hb;done)|(simpa [lh] using hb)
   rw [hb',Bool.true_and] at hq
   simp only [go_sem,e5]
   refine ⟨k+1,⟨by omega,hq⟩,by omega,by (try simp only [zky]);omega,by repeat first|exact .refl _|refine .push ?_ _,hcl,?_,?_⟩
   ·simp only [ltF,zmz,and_true,true_and]
    exact ⟨hs1,hs2⟩
   ·simp [bf,wk2,wk1,wkM,Fr.get]
 ·have hk':k=xs.length:=by simp at hc;omega
  subst hk'
  rw [List.drop_length,hlen,List.drop_length] at hq
  rw [← hq]
  simp only [go_sem,eqL]
  simp (disch:=first|assumption|omega|(simp;done)|(simp;omega)|(simp only [bt,and_true];first|done|omega|(simp;done))) [↓zmi,beq,ybc,ybd,ybe,al,wk,wk2,wk1,wkM,wkL,aG,ybf,hcl]
def iF:List AV→AHeap→(AV→Prop)→Prop
 |[.slice _ 6 l,.slice _ 6 k],_,K=>∃ xs ys:List (SPrim),(l=xs.map aL∧k=ys.map aL∧xs.length≤140737488355328∧ys.length≤140737488355328∧True)∧K (.bool (eqL lB xs ys))
 |_,_,_=>False
theorem su:EntOk Tryz.prog 185 (Ent.pure iF):=by
 refine EntOk.pure fun args H K h=>?_
 unfold iF at h
 split at h
 rotate_left
 ·exact h.elim
 rename_i m1 l m2 k
 obtain ⟨xs,ys,⟨rfl,rfl,hl1,hl2,ho⟩,hK⟩:=h
 clear ho
 refine ⟨_,hK,?_⟩
 clear hK
 obtain ⟨R,hR⟩:∃ R,eqL lB xs ys=R:=⟨_,rfl⟩
 rw [hR]
 by_cases hlen:xs.length=ys.length
 case neg =>
  rw [gq hlen] at hR
  subst hR
  have d0:((xs.length:Int) != (ys.length:Int))=true:=by rw [bne_iff_ne];omega
  refine ACalls.fW aB TblOk.nil Tryz.func185 [.tmp 4] (Nat.le_refl _) (T:=ay []) (h:=fun hcl hlt=>?_)
  clear hlt
  simp only [go_sem,ybb,d0]
  simp (disch:=first|assumption|omega|(simp;done)|(simp;omega)|(simp only [bt,and_true];first|done|omega|(simp;done))) [↓zmi,beq,ybc,ybd,ybe,al,wk,wk2,wk1,wkM,wkL,aG,ybf,hcl]
 have d0:((xs.length:Int) != (ys.length:Int))=false:=by rw [hlen];simp
 refine ACalls.fW aB TblOk.nil Tryz.func185 [.tmp 4] (Nat.le_refl _) (T:=ay []) (h:=fun hcl hlt=>?_)
 have hs1:=hlt (.slice m1 6 (xs.map aL)) (by simp)
 have hs2:=hlt (.slice m2 6 (ys.map aL)) (by simp)
 clear hlt
 simp only [go_sem,ybb,d0]
 refine aA (A:=Nat) (fun k=>[(0,.slice m1 6 (xs.map aL)),(1,.slice m2 6 (ys.map aL)),(12,.int .i64 (xs.length:Int)),(13,.int .i64 (k:Int))]) (fun _=>H) (fun k=>k≤xs.length∧eqL lB (xs.drop k) (ys.drop k)=R) (fun k=>xs.length - k) 0 ⟨by omega,hR⟩ ?_ fun k hk=>?_
 ·refine ⟨by simp only [zkk,zkp];omega,AHeap.Le.refl _,hcl,?_,?_⟩
  ·simp only [ltF,zmz,and_true,true_and]
   exact ⟨hs1,hs2⟩
  ·simp [bf,wk2,wk1,wkM,Fr.get]
 obtain ⟨hk,hq⟩:=hk
 simp only [go_sem]
 refine ai (fun hc=>?_) (fun hc=>?_)
 ·have hk':k<xs.length:=by simp at hc;omega
  have hk2:k<ys.length:=by omega
  obtain ⟨x,hx⟩:∃ x,x=xs[k]:=⟨_,rfl⟩
  obtain ⟨y,hy⟩:∃ y,y=ys[k]:=⟨_,rfl⟩
  have hd:xs.drop k=x::xs.drop (k+1):=by rw [hx];exact List.drop_eq_getElem_cons hk'
  have hd2:ys.drop k=y::ys.drop (k+1):=by rw [hy];exact List.drop_eq_getElem_cons hk2
  have hg:=bc (f:=aL) (l:=xs) (k:=k) (x:=x) (by rw [List.getElem?_eq_getElem hk',hx])
  have hg2:=bc (f:=aL) (l:=ys) (k:=k) (x:=y) (by rw [List.getElem?_eq_getElem hk2,hy])
  have e5:IntKind.i64.wrap ((k:Int)+1)=((k+1:Nat):Int):=by rw [wrap_i64]<;>omega
  rw [hd,hd2] at hq
  unfold eqL at hq
  simp only [go_sem,Int.toNat_natCast,ybb,hg,hg2,aL,aL,FN,EO,Bool.bne_false,Bool.bne_true,vc,yal,yak]
  (repeat with_reducible refine And.intro (by first|assumption|decide|omega) ?_)
  refine ai (fun hb=>?_) (fun hb=>?_)
  ·have hb':lB x y=false:=by first|(simpa using hb;done)|(simpa [lB] using hb)
   rw [hb',Bool.false_and] at hq
   rw [← hq]
   try simp only [go_sem]
   simp (disch:=first|assumption|omega|(simp;done)|(simp;omega)|(simp only [bt,and_true];first|done|omega|(simp;done))) [↓zmi,beq,ybc,ybd,ybe,al,wk,wk2,wk1,wkM,wkL,aG,ybf,hcl]
   first|done|repeat first|exact .refl _|refine .push ?_ _
  ·have hb':lB x y=true:=by first|(simpa using hb;done)|(simpa [lB] using hb)
   rw [hb',Bool.true_and] at hq
   simp only [go_sem,e5]
   refine ⟨k+1,⟨by omega,hq⟩,by omega,by (try simp only [zky]);omega,by repeat first|exact .refl _|refine .push ?_ _,hcl,?_,?_⟩
   ·simp only [ltF,zmz,and_true,true_and]
    exact ⟨hs1,hs2⟩
   ·simp [bf,wk2,wk1,wkM,Fr.get]
 ·have hk':k=xs.length:=by simp at hc;omega
  subst hk'
  rw [List.drop_length,hlen,List.drop_length] at hq
  rw [← hq]
  simp only [go_sem,eqL]
  simp (disch:=first|assumption|omega|(simp;done)|(simp;omega)|(simp only [bt,and_true];first|done|omega|(simp;done))) [↓zmi,beq,ybc,ybd,ybe,al,wk,wk2,wk1,wkM,wkL,aG,ybf,hcl]
def dt:List AV→AHeap→(AV→Prop)→Prop
 |[.slice _ 3 l,.slice _ 3 k],_,K=>∃ xs ys:List (SKey),(l=xs.map aQ∧k=ys.map aQ∧xs.length≤140737488355328∧ys.length≤140737488355328∧True)∧K (.bool (eqL lH xs ys))
 |_,_,_=>False
theorem si:EntOk Tryz.prog 186 (Ent.pure dt):=by
 refine EntOk.pure fun args H K h=>?_
 unfold dt at h
 split at h
 rotate_left
 ·exact h.elim
 rename_i m1 l m2 k
 obtain ⟨xs,ys,⟨rfl,rfl,hl1,hl2,ho⟩,hK⟩:=h
 clear ho
 refine ⟨_,hK,?_⟩
 clear hK
 obtain ⟨R,hR⟩:∃ R,eqL lH xs ys=R:=⟨_,rfl⟩
 rw [hR]
 by_cases hlen:xs.length=ys.length
 case neg =>
  rw [gq hlen] at hR
  subst hR
  have d0:((xs.length:Int) != (ys.length:Int))=true:=by rw [bne_iff_ne];omega
  refine ACalls.fW aB TblOk.nil Tryz.func186 [.tmp 4] (Nat.le_refl _) (T:=ay []) (h:=fun hcl hlt=>?_)
  clear hlt
  simp only [go_sem,ybb,d0]
  simp (disch:=first|assumption|omega|(simp;done)|(simp;omega)|(simp only [bt,and_true];first|done|omega|(simp;done))) [↓zmi,beq,ybc,ybd,ybe,al,wk,wk2,wk1,wkM,wkL,aG,ybf,hcl]
 have d0:((xs.length:Int) != (ys.length:Int))=false:=by rw [hlen];simp
 refine ACalls.fW aB TblOk.nil Tryz.func186 [.tmp 4] (Nat.le_refl _) (T:=ay []) (h:=fun hcl hlt=>?_)
 have hs1:=hlt (.slice m1 3 (xs.map aQ)) (by simp)
 have hs2:=hlt (.slice m2 3 (ys.map aQ)) (by simp)
 clear hlt
 simp only [go_sem,ybb,d0]
 refine aA (A:=Nat) (fun k=>[(0,.slice m1 3 (xs.map aQ)),(1,.slice m2 3 (ys.map aQ)),(12,.int .i64 (xs.length:Int)),(13,.int .i64 (k:Int))]) (fun _=>H) (fun k=>k≤xs.length∧eqL lH (xs.drop k) (ys.drop k)=R) (fun k=>xs.length - k) 0 ⟨by omega,hR⟩ ?_ fun k hk=>?_
 ·refine ⟨by simp only [zkk,zkp];omega,AHeap.Le.refl _,hcl,?_,?_⟩
  ·simp only [ltF,zmz,and_true,true_and]
   exact ⟨hs1,hs2⟩
  ·simp [bf,wk2,wk1,wkM,Fr.get]
 obtain ⟨hk,hq⟩:=hk
 simp only [go_sem]
 refine ai (fun hc=>?_) (fun hc=>?_)
 ·have hk':k<xs.length:=by simp at hc;omega
  have hk2:k<ys.length:=by omega
  obtain ⟨x,hx⟩:∃ x,x=xs[k]:=⟨_,rfl⟩
  obtain ⟨y,hy⟩:∃ y,y=ys[k]:=⟨_,rfl⟩
  have hd:xs.drop k=x::xs.drop (k+1):=by rw [hx];exact List.drop_eq_getElem_cons hk'
  have hd2:ys.drop k=y::ys.drop (k+1):=by rw [hy];exact List.drop_eq_getElem_cons hk2
  have hg:=bc (f:=aQ) (l:=xs) (k:=k) (x:=x) (by rw [List.getElem?_eq_getElem hk',hx])
  have hg2:=bc (f:=aQ) (l:=ys) (k:=k) (x:=y) (by rw [List.getElem?_eq_getElem hk2,hy])
  have e5:IntKind.i64.wrap ((k:Int)+1)=((k+1:Nat):Int):=by rw [wrap_i64]<;>omega
  rw [hd,hd2] at hq
  unfold eqL at hq
  simp only [go_sem,Int.toNat_natCast,ybb,hg,hg2,aQ,aQ,FO,FM,Bool.bne_false,Bool.bne_true,vc,yal,yak]
  (repeat with_reducible refine And.intro (by first|assumption|decide|omega) ?_)
  refine ai (fun hb=>?_) (fun hb=>?_)
  ·have hb':lH x y=false:=by first|(simpa using hb;done)|(simpa [lH] using hb)
   rw [hb',Bool.false_and] at hq
   rw [← hq]
   try simp only [go_sem]
   simp (disch:=first|assumption|omega|(simp;done)|(simp;omega)|(simp only [bt,and_true];first|done|omega|(simp;done))) [↓zmi,beq,ybc,ybd,ybe,al,wk,wk2,wk1,wkM,wkL,aG,ybf,hcl]
   first|done|repeat first|exact .refl _|refine .push ?_ _
  ·have hb':lH x y=true:=by first|(simpa using hb;done)|(simpa [lH] using hb)
   rw [hb',Bool.true_and] at hq
   simp only [go_sem,e5]
   refine ⟨k+1,⟨by omega,hq⟩,by omega,by (try simp only [zky]);omega,by repeat first|exact .refl _|refine .push ?_ _,hcl,?_,?_⟩
   ·simp only [ltF,zmz,and_true,true_and]
    exact ⟨hs1,hs2⟩
   ·simp [bf,wk2,wk1,wkM,Fr.get]
 ·have hk':k=xs.length:=by simp at hc;omega
  subst hk'
  rw [List.drop_length,hlen,List.drop_length] at hq
  rw [← hq]
  simp only [go_sem,eqL]
  simp (disch:=first|assumption|omega|(simp;done)|(simp;omega)|(simp only [bt,and_true];first|done|omega|(simp;done))) [↓zmi,beq,ybc,ybd,ybe,al,wk,wk2,wk1,wkM,wkL,aG,ybf,hcl]
def du:List AV→AHeap→(AV→Prop)→Prop
 |[.slice _ 2 l,.slice _ 2 k],_,K=>∃ xs ys:List (SStage),(l=xs.map az∧k=ys.map az∧xs.length≤140737488355328∧ys.length≤140737488355328∧True)∧K (.bool (eqL kX xs ys))
 |_,_,_=>False
theorem jW:EntOk Tryz.prog 71 (Ent.pure du):=by
 refine EntOk.pure fun args H K h=>?_
 unfold du at h
 split at h
 rotate_left
 ·exact h.elim
 rename_i m1 l m2 k
 obtain ⟨xs,ys,⟨rfl,rfl,hl1,hl2,ho⟩,hK⟩:=h
 clear ho
 refine ⟨_,hK,?_⟩
 clear hK
 obtain ⟨R,hR⟩:∃ R,eqL kX xs ys=R:=⟨_,rfl⟩
 rw [hR]
 by_cases hlen:xs.length=ys.length
 case neg =>
  rw [gq hlen] at hR
  subst hR
  have d0:((xs.length:Int) != (ys.length:Int))=true:=by rw [bne_iff_ne];omega
  refine ACalls.fW aB TblOk.nil Tryz.func71 [.tmp 4] (Nat.le_refl _) (T:=ay []) (h:=fun hcl hlt=>?_)
  clear hlt
  simp only [go_sem,ybb,d0]
  simp (disch:=first|assumption|omega|(simp;done)|(simp;omega)|(simp only [bt,and_true];first|done|omega|(simp;done))) [↓zmi,beq,ybc,ybd,ybe,al,wk,wk2,wk1,wkM,wkL,aG,ybf,hcl]
 have d0:((xs.length:Int) != (ys.length:Int))=false:=by rw [hlen];simp
 refine ACalls.fW aB TblOk.nil Tryz.func71 [.tmp 4] (Nat.le_refl _) (T:=ay []) (h:=fun hcl hlt=>?_)
 have hs1:=hlt (.slice m1 2 (xs.map az)) (by simp)
 have hs2:=hlt (.slice m2 2 (ys.map az)) (by simp)
 clear hlt
 simp only [go_sem,ybb,d0]
 refine aA (A:=Nat) (fun k=>[(0,.slice m1 2 (xs.map az)),(1,.slice m2 2 (ys.map az)),(12,.int .i64 (xs.length:Int)),(13,.int .i64 (k:Int))]) (fun _=>H) (fun k=>k≤xs.length∧eqL kX (xs.drop k) (ys.drop k)=R) (fun k=>xs.length - k) 0 ⟨by omega,hR⟩ ?_ fun k hk=>?_
 ·refine ⟨by simp only [zkk,zkp];omega,AHeap.Le.refl _,hcl,?_,?_⟩
  ·simp only [ltF,zmz,and_true,true_and]
   exact ⟨hs1,hs2⟩
  ·simp [bf,wk2,wk1,wkM,Fr.get]
 obtain ⟨hk,hq⟩:=hk
 simp only [go_sem]
 refine ai (fun hc=>?_) (fun hc=>?_)
 ·have hk':k<xs.length:=by simp at hc;omega
  have hk2:k<ys.length:=by omega
  obtain ⟨x,hx⟩:∃ x,x=xs[k]:=⟨_,rfl⟩
  obtain ⟨y,hy⟩:∃ y,y=ys[k]:=⟨_,rfl⟩
  have hd:xs.drop k=x::xs.drop (k+1):=by rw [hx];exact List.drop_eq_getElem_cons hk'
  have hd2:ys.drop k=y::ys.drop (k+1):=by rw [hy];exact List.drop_eq_getElem_cons hk2
  have hg:=bc (f:=az) (l:=xs) (k:=k) (x:=x) (by rw [List.getElem?_eq_getElem hk',hx])
  have hg2:=bc (f:=az) (l:=ys) (k:=k) (x:=y) (by rw [List.getElem?_eq_getElem hk2,hy])
  have e5:IntKind.i64.wrap ((k:Int)+1)=((k+1:Nat):Int):=by rw [wrap_i64]<;>omega
  rw [hd,hd2] at hq
  unfold eqL at hq
  simp only [go_sem,Int.toNat_natCast,ybb,hg,hg2,az,az,Ff,Gf,Bool.bne_false,Bool.bne_true,vc,yal,yak]
  (repeat with_reducible refine And.intro (by first|assumption|decide|omega) ?_)
  refine ai (fun hb=>?_) (fun hb=>?_)
  ·have hb':kX x y=false:=by first|(simpa using hb;done)|(simpa [kX] using hb)
   rw [hb',Bool.false_and] at hq
   rw [← hq]
   try simp only [go_sem]
   simp (disch:=first|assumption|omega|(simp;done)|(simp;omega)|(simp only [bt,and_true];first|done|omega|(simp;done))) [↓zmi,beq,ybc,ybd,ybe,al,wk,wk2,wk1,wkM,wkL,aG,ybf,hcl]
   first|done|repeat first|exact .refl _|refine .push ?_ _
  ·have hb':kX x y=true:=by first|(simpa using hb;done)|(simpa [kX] using hb)
   rw [hb',Bool.true_and] at hq
   simp only [go_sem,e5]
   refine ⟨k+1,⟨by omega,hq⟩,by omega,by (try simp only [zky]);omega,by repeat first|exact .refl _|refine .push ?_ _,hcl,?_,?_⟩
   ·simp only [ltF,zmz,and_true,true_and]
    exact ⟨hs1,hs2⟩
   ·simp [bf,wk2,wk1,wkM,Fr.get]
 ·have hk':k=xs.length:=by simp at hc;omega
  subst hk'
  rw [List.drop_length,hlen,List.drop_length] at hq
  rw [← hq]
  simp only [go_sem,eqL]
  simp (disch:=first|assumption|omega|(simp;done)|(simp;omega)|(simp only [bt,and_true];first|done|omega|(simp;done))) [↓zmi,beq,ybc,ybd,ybe,al,wk,wk2,wk1,wkM,wkL,aG,ybf,hcl]
def dw:List AV→AHeap→(AV→Prop)→Prop
 |[.slice _ 6 l,.slice _ 6 k],_,K=>∃ xs ys:List (SRef),(l=xs.map aR∧k=ys.map aR∧xs.length≤140737488355328∧ys.length≤140737488355328∧True)∧K (.bool (eqL kK xs ys))
 |_,_,_=>False
theorem j2:EntOk Tryz.prog 72 (Ent.pure dw):=by
 refine EntOk.pure fun args H K h=>?_
 unfold dw at h
 split at h
 rotate_left
 ·exact h.elim
 rename_i m1 l m2 k
 obtain ⟨xs,ys,⟨rfl,rfl,hl1,hl2,ho⟩,hK⟩:=h
 clear ho
 refine ⟨_,hK,?_⟩
 clear hK
 obtain ⟨R,hR⟩:∃ R,eqL kK xs ys=R:=⟨_,rfl⟩
 rw [hR]
 by_cases hlen:xs.length=ys.length
 case neg =>
  rw [gq hlen] at hR
  subst hR
  have d0:((xs.length:Int) != (ys.length:Int))=true:=by rw [bne_iff_ne];omega
  refine ACalls.fW aB TblOk.nil Tryz.func72 [.tmp 4] (Nat.le_refl _) (T:=ay []) (h:=fun hcl hlt=>?_)
  clear hlt
  simp only [go_sem,ybb,d0]
  simp (disch:=first|assumption|omega|(simp;done)|(simp;omega)|(simp only [bt,and_true];first|done|omega|(simp;done))) [↓zmi,beq,ybc,ybd,ybe,al,wk,wk2,wk1,wkM,wkL,aG,ybf,hcl]
 have d0:((xs.length:Int) != (ys.length:Int))=false:=by rw [hlen];simp
 refine ACalls.fW aB TblOk.nil Tryz.func72 [.tmp 4] (Nat.le_refl _) (T:=ay []) (h:=fun hcl hlt=>?_)
 have hs1:=hlt (.slice m1 6 (xs.map aR)) (by simp)
 have hs2:=hlt (.slice m2 6 (ys.map aR)) (by simp)
 clear hlt
 simp only [go_sem,ybb,d0]
 refine aA (A:=Nat) (fun k=>[(0,.slice m1 6 (xs.map aR)),(1,.slice m2 6 (ys.map aR)),(12,.int .i64 (xs.length:Int)),(13,.int .i64 (k:Int))]) (fun _=>H) (fun k=>k≤xs.length∧eqL kK (xs.drop k) (ys.drop k)=R) (fun k=>xs.length - k) 0 ⟨by omega,hR⟩ ?_ fun k hk=>?_
 ·refine ⟨by simp only [zkk,zkp];omega,AHeap.Le.refl _,hcl,?_,?_⟩
  ·simp only [ltF,zmz,and_true,true_and]
   exact ⟨hs1,hs2⟩
  ·simp [bf,wk2,wk1,wkM,Fr.get]
 obtain ⟨hk,hq⟩:=hk
 simp only [go_sem]
 refine ai (fun hc=>?_) (fun hc=>?_)
 ·have hk':k<xs.length:=by simp at hc;omega
  have hk2:k<ys.length:=by omega
  obtain ⟨x,hx⟩:∃ x,x=xs[k]:=⟨_,rfl⟩
  obtain ⟨y,hy⟩:∃ y,y=ys[k]:=⟨_,rfl⟩
  have hd:xs.drop k=x::xs.drop (k+1):=by rw [hx];exact List.drop_eq_getElem_cons hk'
  have hd2:ys.drop k=y::ys.drop (k+1):=by rw [hy];exact List.drop_eq_getElem_cons hk2
  have hg:=bc (f:=aR) (l:=xs) (k:=k) (x:=x) (by rw [List.getElem?_eq_getElem hk',hx])
  have hg2:=bc (f:=aR) (l:=ys) (k:=k) (x:=y) (by rw [List.getElem?_eq_getElem hk2,hy])
  have e5:IntKind.i64.wrap ((k:Int)+1)=((k+1:Nat):Int):=by rw [wrap_i64]<;>omega
  rw [hd,hd2] at hq
  unfold eqL at hq
  simp only [go_sem,Int.toNat_natCast,ybb,hg,hg2,aR,aR,Fx,E4,Bool.bne_false,Bool.bne_true,vc,yal,yak]
  (repeat with_reducible refine And.intro (by first|assumption|decide|omega) ?_)
  refine ai (fun hb=>?_) (fun hb=>?_)
  ·have hb':kK x y=false:=by first|(simpa using hb;done)|(simpa [kK] using hb)
   rw [hb',Bool.false_and] at hq
   rw [← hq]
   try simp only [go_sem]
   simp (disch:=first|assumption|omega|(simp;done)|(simp;omega)|(simp only [bt,and_true];first|done|omega|(simp;done))) [↓zmi,beq,ybc,ybd,ybe,al,wk,wk2,wk1,wkM,wkL,aG,ybf,hcl]
   first|done|repeat first|exact .refl _|refine .push ?_ _
  ·have hb':kK x y=true:=by first|(simpa using hb;done)|(simpa [kK] using hb)
   rw [hb',Bool.true_and] at hq
   simp only [go_sem,e5]
   refine ⟨k+1,⟨by omega,hq⟩,by omega,by (try simp only [zky]);omega,by repeat first|exact .refl _|refine .push ?_ _,hcl,?_,?_⟩
   ·simp only [ltF,zmz,and_true,true_and]
    exact ⟨hs1,hs2⟩
   ·simp [bf,wk2,wk1,wkM,Fr.get]
 ·have hk':k=xs.length:=by simp at hc;omega
  subst hk'
  rw [List.drop_length,hlen,List.drop_length] at hq
  rw [← hq]
  simp only [go_sem,eqL]
  simp (disch:=first|assumption|omega|(simp;done)|(simp;omega)|(simp only [bt,and_true];first|done|omega|(simp;done))) [↓zmi,beq,ybc,ybd,ybe,al,wk,wk2,wk1,wkM,wkL,aG,ybf,hcl]
def cj:List AV→AHeap→(AV→Prop)→Prop
 |[.slice _ 1 l,.slice _ 1 k],_,K=>∃ xs ys:List (Int),(l=xs.map iAV∧k=ys.map iAV∧xs.length≤140737488355328∧ys.length≤140737488355328∧True)∧K (.bool (eqL eqI xs ys))
 |_,_,_=>False
theorem fM:EntOk Tryz.prog 73 (Ent.pure cj):=by
 refine EntOk.pure fun args H K h=>?_
 unfold cj at h
 split at h
 rotate_left
 ·exact h.elim
 rename_i m1 l m2 k
 obtain ⟨xs,ys,⟨rfl,rfl,hl1,hl2,ho⟩,hK⟩:=h
 clear ho
 refine ⟨_,hK,?_⟩
 clear hK
 obtain ⟨R,hR⟩:∃ R,eqL eqI xs ys=R:=⟨_,rfl⟩
 rw [hR]
 by_cases hlen:xs.length=ys.length
 case neg =>
  rw [gq hlen] at hR
  subst hR
  have d0:((xs.length:Int) != (ys.length:Int))=true:=by rw [bne_iff_ne];omega
  refine ACalls.fW aB TblOk.nil Tryz.func73 [.tmp 4] (Nat.le_refl _) (T:=ay []) (h:=fun hcl hlt=>?_)
  clear hlt
  simp only [go_sem,ybb,d0]
  simp (disch:=first|assumption|omega|(simp;done)|(simp;omega)|(simp only [bt,and_true];first|done|omega|(simp;done))) [↓zmi,beq,ybc,ybd,ybe,al,wk,wk2,wk1,wkM,wkL,aG,ybf,hcl]
 have d0:((xs.length:Int) != (ys.length:Int))=false:=by rw [hlen];simp
 refine ACalls.fW aB TblOk.nil Tryz.func73 [.tmp 4] (Nat.le_refl _) (T:=ay []) (h:=fun hcl hlt=>?_)
 have hs1:=hlt (.slice m1 1 (xs.map iAV)) (by simp)
 have hs2:=hlt (.slice m2 1 (ys.map iAV)) (by simp)
 clear hlt
 simp only [go_sem,ybb,d0]
 refine aA (A:=Nat) (fun k=>[(0,.slice m1 1 (xs.map iAV)),(1,.slice m2 1 (ys.map iAV)),(12,.int .i64 (xs.length:Int)),(13,.int .i64 (k:Int))]) (fun _=>H) (fun k=>k≤xs.length∧eqL eqI (xs.drop k) (ys.drop k)=R) (fun k=>xs.length - k) 0 ⟨by omega,hR⟩ ?_ fun k hk=>?_
 ·refine ⟨by simp only [zkk,zkp];omega,AHeap.Le.refl _,hcl,?_,?_⟩
  ·simp only [ltF,zmz,and_true,true_and]
   exact ⟨hs1,hs2⟩
  ·simp [bf,wk2,wk1,wkM,Fr.get]
 obtain ⟨hk,hq⟩:=hk
 simp only [go_sem]
 refine ai (fun hc=>?_) (fun hc=>?_)
 ·have hk':k<xs.length:=by simp at hc;omega
  have hk2:k<ys.length:=by omega
  obtain ⟨x,hx⟩:∃ x,x=xs[k]:=⟨_,rfl⟩
  obtain ⟨y,hy⟩:∃ y,y=ys[k]:=⟨_,rfl⟩
  have hd:xs.drop k=x::xs.drop (k+1):=by rw [hx];exact List.drop_eq_getElem_cons hk'
  have hd2:ys.drop k=y::ys.drop (k+1):=by rw [hy];exact List.drop_eq_getElem_cons hk2
  have hg:=bc (f:=iAV) (l:=xs) (k:=k) (x:=x) (by rw [List.getElem?_eq_getElem hk',hx])
  have hg2:=bc (f:=iAV) (l:=ys) (k:=k) (x:=y) (by rw [List.getElem?_eq_getElem hk2,hy])
  have e5:IntKind.i64.wrap ((k:Int)+1)=((k+1:Nat):Int):=by rw [wrap_i64]<;>omega
  rw [hd,hd2] at hq
  unfold eqL at hq
  simp only [go_sem,Int.toNat_natCast,ybb,hg,hg2,iAV,iAV]
  (repeat with_reducible refine And.intro (by first|assumption|decide|omega) ?_)
  refine ai (fun hb=>?_) (fun hb=>?_)
  ·have hb':eqI x y=false:=by first|(simpa using hb;done)|(simpa [eqI] using hb)
   rw [hb',Bool.false_and] at hq
   rw [← hq]
   try simp only [go_sem]
   simp (disch:=first|assumption|omega|(simp;done)|(simp;omega)|(simp only [bt,and_true];first|done|omega|(simp;done))) [↓zmi,beq,ybc,ybd,ybe,al,wk,wk2,wk1,wkM,wkL,aG,ybf,hcl]
   first|done|repeat first|exact .refl _|refine .push ?_ _
  ·have hb':eqI x y=true:=by first|(simpa using hb;done)|(simpa [eqI] using hb)
   rw [hb',Bool.true_and] at hq
   simp only [go_sem,e5]
   refine ⟨k+1,⟨by omega,hq⟩,by omega,by (try simp only [zky]);omega,by repeat first|exact .refl _|refine .push ?_ _,hcl,?_,?_⟩
   ·simp only [ltF,zmz,and_true,true_and]
    exact ⟨hs1,hs2⟩
   ·simp [bf,wk2,wk1,wkM,Fr.get]
 ·have hk':k=xs.length:=by simp at hc;omega
  subst hk'
  rw [List.drop_length,hlen,List.drop_length] at hq
  rw [← hq]
  simp only [go_sem,eqL]
  simp (disch:=first|assumption|omega|(simp;done)|(simp;omega)|(simp only [bt,and_true];first|done|omega|(simp;done))) [↓zmi,beq,ybc,ybd,ybe,al,wk,wk2,wk1,wkM,wkL,aG,ybf,hcl]
def j9:List AV→AHeap→(AV→Prop)→Prop
 |[.slice _ 1 l,.slice _ 1 k],_,K=>∃ xs ys:List (Bool),(l=xs.map bAV∧k=ys.map bAV∧xs.length≤140737488355328∧ys.length≤140737488355328∧True)∧K (.bool (eqL eqB xs ys))
 |_,_,_=>False
theorem j5:EntOk Tryz.prog 74 (Ent.pure j9):=by
 refine EntOk.pure fun args H K h=>?_
 unfold j9 at h
 split at h
 rotate_left
 ·exact h.elim
 rename_i m1 l m2 k
 obtain ⟨xs,ys,⟨rfl,rfl,hl1,hl2,ho⟩,hK⟩:=h
 clear ho
 refine ⟨_,hK,?_⟩
 clear hK
 obtain ⟨R,hR⟩:∃ R,eqL eqB xs ys=R:=⟨_,rfl⟩
 rw [hR]
 by_cases hlen:xs.length=ys.length
 case neg =>
  rw [gq hlen] at hR
  subst hR
  have d0:((xs.length:Int) != (ys.length:Int))=true:=by rw [bne_iff_ne];omega
  refine ACalls.fW aB TblOk.nil Tryz.func74 [.tmp 4] (Nat.le_refl _) (T:=ay []) (h:=fun hcl hlt=>?_)
  clear hlt
  simp only [go_sem,ybb,d0]
  simp (disch:=first|assumption|omega|(simp;done)|(simp;omega)|(simp only [bt,and_true];first|done|omega|(simp;done))) [↓zmi,beq,ybc,ybd,ybe,al,wk,wk2,wk1,wkM,wkL,aG,ybf,hcl]
 have d0:((xs.length:Int) != (ys.length:Int))=false:=by rw [hlen];simp
 refine ACalls.fW aB TblOk.nil Tryz.func74 [.tmp 4] (Nat.le_refl _) (T:=ay []) (h:=fun hcl hlt=>?_)
 have hs1:=hlt (.slice m1 1 (xs.map bAV)) (by simp)
 have hs2:=hlt (.slice m2 1 (ys.map bAV)) (by simp)
 clear hlt
 simp only [go_sem,ybb,d0]
 refine aA (A:=Nat) (fun k=>[(0,.slice m1 1 (xs.map bAV)),(1,.slice m2 1 (ys.map bAV)),(12,.int .i64 (xs.length:Int)),(13,.int .i64 (k:Int))]) (fun _=>H) (fun k=>k≤xs.length∧eqL eqB (xs.drop k) (ys.drop k)=R) (fun k=>xs.length - k) 0 ⟨by omega,hR⟩ ?_ fun k hk=>?_
 ·refine ⟨by simp only [zkk,zkp];omega,AHeap.Le.refl _,hcl,?_,?_⟩
  ·simp only [ltF,zmz,and_true,true_and]
   exact ⟨hs1,hs2⟩
  ·simp [bf,wk2,wk1,wkM,Fr.get]
 obtain ⟨hk,hq⟩:=hk
 simp only [go_sem]
 refine ai (fun hc=>?_) (fun hc=>?_)
 ·have hk':k<xs.length:=by simp at hc;omega
  have hk2:k<ys.length:=by omega
  obtain ⟨x,hx⟩:∃ x,x=xs[k]:=⟨_,rfl⟩
  obtain ⟨y,hy⟩:∃ y,y=ys[k]:=⟨_,rfl⟩
  have hd:xs.drop k=x::xs.drop (k+1):=by rw [hx];exact List.drop_eq_getElem_cons hk'
  have hd2:ys.drop k=y::ys.drop (k+1):=by rw [hy];exact List.drop_eq_getElem_cons hk2
  have hg:=bc (f:=bAV) (l:=xs) (k:=k) (x:=x) (by rw [List.getElem?_eq_getElem hk',hx])
  have hg2:=bc (f:=bAV) (l:=ys) (k:=k) (x:=y) (by rw [List.getElem?_eq_getElem hk2,hy])
  have e5:IntKind.i64.wrap ((k:Int)+1)=((k+1:Nat):Int):=by rw [wrap_i64]<;>omega
  rw [hd,hd2] at hq
  unfold eqL at hq
  simp only [go_sem,Int.toNat_natCast,ybb,hg,hg2,bAV,bAV]
  (repeat with_reducible refine And.intro (by first|assumption|decide|omega) ?_)
  refine ai (fun hb=>?_) (fun hb=>?_)
  ·have hb':eqB x y=false:=by first|(simpa using hb;done)|(simpa [eqB] using hb)
   rw [hb',Bool.false_and] at hq
   rw [← hq]
   try simp only [go_sem]
   simp (disch:=first|assumption|omega|(simp;done)|(simp;omega)|(simp only [bt,and_true];first|done|omega|(simp;done))) [↓zmi,beq,ybc,ybd,ybe,al,wk,wk2,wk1,wkM,wkL,aG,ybf,hcl]
   first|done|repeat first|exact .refl _|refine .push ?_ _
  ·have hb':eqB x y=true:=by first|(simpa using hb;done)|(simpa [eqB] using hb)
   rw [hb',Bool.true_and] at hq
   simp only [go_sem,e5]
   refine ⟨k+1,⟨by omega,hq⟩,by omega,by (try simp only [zky]);omega,by repeat first|exact .refl _|refine .push ?_ _,hcl,?_,?_⟩
   ·simp only [ltF,zmz,and_true,true_and]
    exact ⟨hs1,hs2⟩
   ·simp [bf,wk2,wk1,wkM,Fr.get]
 ·have hk':k=xs.length:=by simp at hc;omega
  subst hk'
  rw [List.drop_length,hlen,List.drop_length] at hq
  rw [← hq]
  simp only [go_sem,eqL]
  simp (disch:=first|assumption|omega|(simp;done)|(simp;omega)|(simp only [bt,and_true];first|done|omega|(simp;done))) [↓zmi,beq,ybc,ybd,ybe,al,wk,wk2,wk1,wkM,wkL,aG,ybf,hcl]
def dr:List AV→AHeap→(AV→Prop)→Prop
 |[.slice _ 2 l,.slice _ 2 k],_,K=>∃ xs ys:List (Nat),(l=xs.map vv∧k=ys.map vv∧xs.length≤140737488355328∧ys.length≤140737488355328∧True)∧K (.bool (eqL eqV xs ys))
 |_,_,_=>False
theorem qO:EntOk Tryz.prog 187 (Ent.pure dr):=by
 refine EntOk.pure fun args H K h=>?_
 unfold dr at h
 split at h
 rotate_left
 ·exact h.elim
 rename_i m1 l m2 k
 obtain ⟨xs,ys,⟨rfl,rfl,hl1,hl2,ho⟩,hK⟩:=h
 clear ho
 refine ⟨_,hK,?_⟩
 clear hK
 obtain ⟨R,hR⟩:∃ R,eqL eqV xs ys=R:=⟨_,rfl⟩
 rw [hR]
 by_cases hlen:xs.length=ys.length
 case neg =>
  rw [gq hlen] at hR
  subst hR
  have d0:((xs.length:Int) != (ys.length:Int))=true:=by rw [bne_iff_ne];omega
  refine ACalls.fW aB TblOk.nil Tryz.func187 [.tmp 4] (Nat.le_refl _) (T:=ay []) (h:=fun hcl hlt=>?_)
  clear hlt
  simp only [go_sem,ybb,d0]
  simp (disch:=first|assumption|omega|(simp;done)|(simp;omega)|(simp only [bt,and_true];first|done|omega|(simp;done))) [↓zmi,beq,ybc,ybd,ybe,al,wk,wk2,wk1,wkM,wkL,aG,ybf,hcl]
 have d0:((xs.length:Int) != (ys.length:Int))=false:=by rw [hlen];simp
 refine ACalls.fW aB TblOk.nil Tryz.func187 [.tmp 4] (Nat.le_refl _) (T:=ay []) (h:=fun hcl hlt=>?_)
 have hs1:=hlt (.slice m1 2 (xs.map vv)) (by simp)
 have hs2:=hlt (.slice m2 2 (ys.map vv)) (by simp)
 clear hlt
 simp only [go_sem,ybb,d0]
 refine aA (A:=Nat) (fun k=>[(0,.slice m1 2 (xs.map vv)),(1,.slice m2 2 (ys.map vv)),(12,.int .i64 (xs.length:Int)),(13,.int .i64 (k:Int))]) (fun _=>H) (fun k=>k≤xs.length∧eqL eqV (xs.drop k) (ys.drop k)=R) (fun k=>xs.length - k) 0 ⟨by omega,hR⟩ ?_ fun k hk=>?_
 ·refine ⟨by simp only [zkk,zkp];omega,AHeap.Le.refl _,hcl,?_,?_⟩
  ·simp only [ltF,zmz,and_true,true_and]
   exact ⟨hs1,hs2⟩
  ·simp [bf,wk2,wk1,wkM,Fr.get]
 obtain ⟨hk,hq⟩:=hk
 simp only [go_sem]
 refine ai (fun hc=>?_) (fun hc=>?_)
 ·have hk':k<xs.length:=by simp at hc;omega
  have hk2:k<ys.length:=by omega
  obtain ⟨x,hx⟩:∃ x,x=xs[k]:=⟨_,rfl⟩
  obtain ⟨y,hy⟩:∃ y,y=ys[k]:=⟨_,rfl⟩
  have hd:xs.drop k=x::xs.drop (k+1):=by rw [hx];exact List.drop_eq_getElem_cons hk'
  have hd2:ys.drop k=y::ys.drop (k+1):=by rw [hy];exact List.drop_eq_getElem_cons hk2
  have hg:=bc (f:=vv) (l:=xs) (k:=k) (x:=x) (by rw [List.getElem?_eq_getElem hk',hx])
  have hg2:=bc (f:=vv) (l:=ys) (k:=k) (x:=y) (by rw [List.getElem?_eq_getElem hk2,hy])
  have e5:IntKind.i64.wrap ((k:Int)+1)=((k+1:Nat):Int):=by rw [wrap_i64]<;>omega
  rw [hd,hd2] at hq
  unfold eqL at hq
  simp only [go_sem,Int.toNat_natCast,ybb,hg,hg2,vv,vv,EY,Fq,Bool.bne_false,Bool.bne_true]
  (repeat with_reducible refine And.intro (by first|assumption|decide|omega) ?_)
  refine ai (fun hb=>?_) (fun hb=>?_)
  ·have hb':eqV x y=false:=by first|(simpa using hb;done)|(simpa [eqV] using hb)
   rw [hb',Bool.false_and] at hq
   rw [← hq]
   try simp only [go_sem]
   simp (disch:=first|assumption|omega|(simp;done)|(simp;omega)|(simp only [bt,and_true];first|done|omega|(simp;done))) [↓zmi,beq,ybc,ybd,ybe,al,wk,wk2,wk1,wkM,wkL,aG,ybf,hcl]
   first|done|repeat first|exact .refl _|refine .push ?_ _
  ·have hb':eqV x y=true:=by first|(simpa using hb;done)|(simpa [eqV] using hb)
   rw [hb',Bool.true_and] at hq
   simp only [go_sem,e5]
   refine ⟨k+1,⟨by omega,hq⟩,by omega,by (try simp only [zky]);omega,by repeat first|exact .refl _|refine .push ?_ _,hcl,?_,?_⟩
   ·simp only [ltF,zmz,and_true,true_and]
    exact ⟨hs1,hs2⟩
   ·simp [bf,wk2,wk1,wkM,Fr.get]
 ·have hk':k=xs.length:=by simp at hc;omega
  subst hk'
  rw [List.drop_length,hlen,List.drop_length] at hq
  rw [← hq]
  simp only [go_sem,eqL]
  simp (disch:=first|assumption|omega|(simp;done)|(simp;omega)|(simp only [bt,and_true];first|done|omega|(simp;done))) [↓zmi,beq,ybc,ybd,ybe,al,wk,wk2,wk1,wkM,wkL,aG,ybf,hcl]
end Go.AL
open Go Go.AL Go.Proofs
namespace Go.AL
set_option linter.all false
set_option maxRecDepth 10000
def DQ (a:SHeader):Prop:=a.fields.length≤140737488355328
def BE (a:SState):Prop:=a.cases.length≤140737488355328
def BQ (a:SAction):Prop:=a.params.length≤140737488355328∧a.body.length≤140737488355328
def Ey (a:STable):Prop:=a.keys.length≤140737488355328∧a.actions.length≤140737488355328∧a.dargs.length≤140737488355328
def Ej (a:SGrant):Prop:=a.keys.length≤140737488355328
def DS (a:SRole):Prop:=a.grants.length≤140737488355328∧a.actions.length≤140737488355328∧∀ g∈a.grants,Ej g
def nA (a b:SHeader):Bool:=(a.id==b.id)&&(a.name==b.name)&&(eqL eqI a.fields b.fields)
theorem xx (a:SHeader):nA a a=true:=by simp [nA,bq lf,bq ls,bq lr,bq jA,bq jJ,bq jN,bq jL]
def nJ (a b:SState):Bool:=(a.id==b.id)&&(a.header==b.header)&&(a.select==b.select)&&(eqL lE a.cases b.cases)&&(a.dflt==b.dflt)
theorem x9 (a:SState):nJ a a=true:=by simp [nJ,bq lf,bq ls,bq lr,bq jA,bq jJ,bq jN,bq jL]
def nv (a b:SAction):Bool:=(a.id==b.id)&&(a.name==b.name)&&(eqL lh a.params b.params)&&(eqL lB a.body b.body)&&(a.restr==b.restr)
theorem xG (a:SAction):nv a a=true:=by simp [nv,bq lf,bq ls,bq lr,bq jA,bq jJ,bq jN,bq jL]
def nt (a b:STable):Bool:=(a.id==b.id)&&(a.name==b.name)&&(eqL lH a.keys b.keys)&&(eqL eqI a.actions b.actions)&&(a.dflt==b.dflt)&&(eqL eqV a.dargs b.dargs)&&(a.size==b.size)&&(a.restr==b.restr)
theorem yw (a:STable):nt a a=true:=by simp [nt,bq lf,bq ls,bq lr,bq jA,bq jJ,bq jN,bq jL]
def tJ (a b:SGrant):Bool:=(a.table==b.table)&&(a.read==b.read)&&(a.write==b.write)&&(eqL eqB a.keys b.keys)
theorem xk (a:SGrant):tJ a a=true:=by simp [tJ,bq lf,bq ls,bq lr,bq jA,bq jJ,bq jN,bq jL]
end Go.AL
open Go Go.AL Go.Proofs
namespace Go.AL
set_option linter.all false
set_option maxRecDepth 10000
def qX (a b:SRole):Bool:=(a.id==b.id)&&(a.name==b.name)&&(eqL tJ a.grants b.grants)&&(eqL eqI a.actions b.actions)&&(a.quota==b.quota)&&(a.audit==b.audit)
theorem xa (a:SRole):qX a a=true:=by simp [qX,bq lf,bq ls,bq lr,bq jA,bq jJ,bq jN,bq jL,bq xk]
/-- a schema whose parts may be compared -/
structure CSch (z:Sch):Prop where
 f:z.fields.length≤140737488355328
 h:z.headers.length≤140737488355328
 h':∀ e∈z.headers,DQ e
 s:z.states.length≤140737488355328
 s':∀ e∈z.states,BE e
 a:z.actions.length≤140737488355328
 a':∀ e∈z.actions,BQ e
 t:z.tables.length≤140737488355328
 t':∀ e∈z.tables,Ey e
 g:z.stages.length≤140737488355328
 r:z.roles.length≤140737488355328
 r':∀ e∈z.roles,DS e
 x:z.refs.length≤140737488355328
def tB (a b:Sch):Bool:=(a.maxBatch==b.maxBatch)&&(a.budget==b.budget)&&(eqL j8 a.fields b.fields)&&(eqL nA a.headers b.headers)&&(eqL nJ a.states b.states)&&(eqL nv a.actions b.actions)&&(eqL nt a.tables b.tables)&&(eqL kX a.stages b.stages)&&(eqL qX a.roles b.roles)&&(eqL kK a.refs b.refs)
theorem x4 (a:Sch):tB a a=true:=by simp [tB,bq yk,bq xx,bq x9,bq xG,bq yw,bq xZ,bq xa,bq xO]
def CQ:List AV→AHeap→(AV→Prop)→Prop
 |[.agg l,.agg k],_,K=>∃ x y:Sch,(l=bL x∧k=bL y∧CSch x∧CSch y)∧K (.bool (tB x y))
 |_,_,_=>False
end Go.AL
