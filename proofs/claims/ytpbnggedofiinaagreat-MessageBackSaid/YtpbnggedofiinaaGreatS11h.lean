/- Lemmas of the proof; no condition. -/
import Derived.Test.YtpbnggedofiinaaGreatS11e
set_option linter.all false
set_option maxRecDepth 10000
open Go Go.AL Go.Proofs
namespace Go.AL
theorem zf:ti Tryz.prog 44=some ⟨.slice 90,1,24,.slice .nil 1 []⟩:=by kernel_rfl
theorem Dd:ti Tryz.prog 90=some ⟨.struct [(0,3,false),(1,88,false),(2,3,false),(3,3,false),(4,85,false)],5,72,.agg [.int .i64 0,.slice .nil 1 [],.int .i64 0,.int .i64 0,.slice .nil 1 []]⟩:=by kernel_rfl
attribute [go_sem] zf Dd
def cO (S:Sch) (b:List UInt8):Nat→Nat→List SEntry × Nat
 |0,v=>([],v)
 |k+1,v=>if v<b.length then ((er S b (v+1) ((cv b v 4:Nat):Int)).1::(cO S b k (er S b (v+1) ((cv b v 4:Nat):Int)).2).1,(cO S b k (er S b (v+1) ((cv b v 4:Nat):Int)).2).2) else ([],v)
theorem kL {S:Sch} (hG:GenS S) {b:List UInt8}:∀ (k v:Nat),(cO S b k v).1.length≤k∧∀ e∈(cO S b k v).1,∃ m,GE S (fH S m) e
 |0,v=>⟨nrq _,by simp [cO]⟩
 |k+1,v=>by
  obtain ⟨i1,i2⟩:=kL hG (b:=b) k (er S b (v+1) ((cv b v 4:Nat):Int)).2
  unfold cO
  split
  ·refine ⟨by simp only [List.length_cons];omega,fun e he=>?_⟩
   rcases List.mem_cons.1 he with rfl|he
   ·exact ⟨_,qR hG⟩
   ·exact i2 e he
  ·exact ⟨by simp,by simp⟩
theorem Bi {i j:Nat} {es:List SEntry} (h:i<j:=by omega):AV.lt j (.slice (.own i) 5 (es.map bc)):=by
 rw [lt_sliceL]
 refine ⟨fun k e=>(by cases e;exact h),ltL_iff.2 fun k hk=>?_⟩
 obtain ⟨x,_,e⟩:=List.mem_map.1 (gMq hk)
 rw [← e];exact dJ x
def jo (m:SMatch):List UInt8:=(if m.present then 1 else 0)::if m.present then bx m.value++bx m.mask++aa m.pfx 1++bx m.high else []
theorem cM {v:Nat} (h:v<2^128):(bx v).length≤17:=by
 unfold bx
 rw [List.length_cons,mE]
 have:=qp h
 omega
theorem tQ {m:SMatch} (h:MOk m):(jo m).length≤60:=by
 have h1:=cM h.v
 have h2:=cM h.k
 have h3:=cM h.h
 have h4:=bW m.pfx 1
 unfold jo
 rw [List.length_cons]
 split
 ·simp only [lAq];omega
 ·simp
def eO (e:SEntry):List UInt8:=aa e.table 2++aa e.ms.length 2++e.ms.flatMap jo++aa e.prio 2++aa e.act 2++aa e.args.length 2++e.args.flatMap bx
def qL:List AV→AHeap→(AV→Prop)→Prop
 |[.slice _ 1 l,.agg le],_,K=>∃ (e:SEntry) (b:List UInt8),(l=bys b∧le=aN e∧b.length≤1000000∧e.ms.length≤1000000∧e.args.length≤1000000∧COk e)∧K (.slice .any 1 (bys (b++eO e)))
 |_,_,_=>False
set_option maxHeartbeats 4000000 in
theorem sV:EntOk Tryz.prog 140 (Ent.pure qL):=by
 refine Ype fun _ H K h=>?_
 unfold qL at h
 split at h
 rotate_left
 ·exact h.elim
 rename_i m1 l le
 obtain ⟨e,b,⟨rfl,rfl,hb,hl1,hl2,he⟩,hK⟩:=h
 refine ⟨_,hK,?_⟩
 clear hK
 generalize hR:b++eO e=R
 unfold eO at hR
 have w1:=bW e.table 2
 have w2:=bW e.ms.length 2
 have w3:=bW e.prio 2
 have w4:=bW e.act 2
 have w5:=bW e.args.length 2
 refine ACalls.fW ah (tCq oM (tCq oS (tCq nC tNq))) Tryz.func140 [.tmp 4] (nrq _) (T:=ae [(8,[[],[],[],[2],[],[],[2,3,5]]),(9,[[],[],[],[2],[],[],[2,3,5]])]) (h:=fun hcl hlt=>?_)
 clear hlt
 simp only [go_sem,byq,aN,List.length_map,fZ]
 refine ⟨by omega,by simp only [lAq];omega,?_⟩
 obtain ⟨T1,hT1⟩:∃ T1,T1=b++aa e.table 2++aa (e.ms.length:Int) 2++e.ms.flatMap jo:=⟨_,rfl⟩
 have hB:(b++aa e.table 2++aa (e.ms.length:Int) 2).length≤1000010:=by simp only [lAq];omega
 refine aK (A:=Nat × List UInt8) (fun x=>[(0,.slice .any 1 (bys x.2)),(3,.ptr H.nx 0),(19,.slice .any 8 (e.ms.map aR)),(20,.int .i64 (e.ms.length:Int)),(21,.int .i64 (x.1:Int))]) (fun _=>H.push (.cells (aN e))) (fun x=>x.1≤e.ms.length∧x.2++(e.ms.drop x.1).flatMap jo=T1∧x.2.length≤1000010+60*x.1) (fun x=>e.ms.length - x.1) (0,b++aa e.table 2++aa (e.ms.length:Int) 2) ⟨by omega,by rw [hT1];rfl,by dsimp only;omega⟩ ?_ fun x hx=>?_
 ·refine ⟨by simp only [zle,zkq,zkv];omega,by repeat first|exact .refl _|refine .push ?_ _,aD hcl (ltL_iff.2 fun j hj=>AV.lt_cells (dJ e) j hj),?_,?_⟩
  ·simp [ltF,zle,znn,znf,lt_sliceL,zmp,bg eJ,rk]
   try exact ltL_iff.2 fun j hj=>by simp [eJ,vv,znr,vc,znu,znv,znf]
  ·simp [cf,wk2,wk1,wkM,Fr.get]
 obtain ⟨k,z⟩:=x
 obtain ⟨hk,hz,hzl⟩:=hx
 dsimp only at hk hz hzl ⊢
 simp only [go_sem]
 refine af (fun hc=>?_) (fun hc=>?_)
 ·have hk':k<e.ms.length:=by simp at hc;omega
  obtain ⟨m,hm⟩:∃ m,m=e.ms[k]:=⟨_,rfl⟩
  have hd:e.ms.drop k=m::e.ms.drop (k+1):=by rw [hm];exact dcq hk'
  have hmg:=bH (f:=aR) (l:=e.ms) (k:=k) (x:=m) (by rw [gQq hk',hm])
  have hmo:=he.ok.mo m (by rw [hm];exact gMq hk')
  have hml:=tQ hmo
  have e5:=Yk5 k
  have i1:=ga hmo.v
  have i2:=ga hmo.k
  have i3:=ga hmo.h
  have l1:=cM hmo.v
  have l2:=cM hmo.k
  have l3:=cM hmo.h
  have l4:=bW m.pfx 1
  rw [hd,List.flatMap_cons,← List.append_assoc] at hz
  cases hp:m.present
  ·have hwm:jo m=[0]:=by unfold jo;rw [hp];rfl
   rw [hwm] at hz
   simp only [go_sem,byq,aN,List.length_map,iNq,hmg,aR,cR,vc,List.cons_append,List.nil_append,hp,iL,e5,Bool.false_eq_true,if_false]
   refine ⟨⟨by omega,by omega⟩,by omega,(k+1,z++[0]),⟨by dsimp only;omega,hz,by simp;omega⟩,by dsimp only;omega,by simp only [zle];omega,by repeat first|exact .refl _|refine .push ?_ _,aD hcl (ltL_iff.2 fun j hj=>AV.lt_cells (dJ e) j hj),?_,?_⟩
   ·simp [ltF,zle,znn,znf,lt_sliceL,zmp,bg eJ,rk]
    try exact ltL_iff.2 fun j hj=>by simp [eJ,vv,znr,vc,znu,znv,znf]
   ·simp [cf,wk2,wk1,wkM,Fr.get]
  ·have hwm:jo m=1::(bx m.value++bx m.mask++aa m.pfx 1++bx m.high):=by unfold jo;rw [hp];rfl
   rw [hwm] at hz
   simp only [go_sem,byq,aN,List.length_map,iNq,hmg,aR,cR,vc,List.cons_append,List.nil_append,hp,iL,fZ,ic,e5,if_true,i1,i2,i3,dr]
   refine ⟨⟨by omega,by omega⟩,by omega,by simp only [lAq,List.length_cons,List.length_nil];omega,by simp only [lAq,List.length_cons,List.length_nil];omega,by simp only [lAq,List.length_cons,List.length_nil];omega,by simp only [lAq,List.length_cons,List.length_nil];omega,(k+1,z++[1]++bx m.value++bx m.mask++aa m.pfx 1++bx m.high),⟨by dsimp only;omega,by rw [← hz];simp [List.append_assoc],by dsimp only;simp only [lAq,List.length_cons,List.length_nil];omega⟩,by dsimp only;omega,by simp only [zle];omega,by repeat first|exact .refl _|refine .push ?_ _,aD hcl (ltL_iff.2 fun j hj=>AV.lt_cells (dJ e) j hj),?_,?_⟩
   ·simp [ltF,zle,znn,znf,lt_sliceL,zmp,bg eJ,rk]
    try exact ltL_iff.2 fun j hj=>by simp [eJ,vv,znr,vc,znu,znv,znf]
   ·simp [cf,wk2,wk1,wkM,Fr.get]
 ·have hk':k=e.ms.length:=by simp at hc;omega
  subst hk'
  rw [List.drop_length,List.flatMap_nil,List.append_nil] at hz
  subst hz
  simp only [go_sem,byq,aN,List.length_map,iNq,fZ]
  refine ⟨by omega,by simp only [lAq,List.length_cons,List.length_nil];omega,by simp only [lAq,List.length_cons,List.length_nil];omega,?_⟩
  have hzb:(z++aa e.prio 2++aa e.act 2++aa (e.args.length:Int) 2).length≤62000000:=by simp only [lAq];omega
  have hR2:z++aa e.prio 2++aa e.act 2++aa (e.args.length:Int) 2++e.args.flatMap bx=R:=by rw [hT1,← hR];simp [List.append_assoc]
  generalize z++aa e.prio 2++aa e.act 2++aa (e.args.length:Int) 2=z2 at *
  refine aK (A:=Nat × List UInt8) (fun x=>[(0,.slice .any 1 (bys x.2)),(60,.slice .any 2 (e.args.map vv)),(61,.int .i64 (e.args.length:Int)),(62,.int .i64 (x.1:Int))]) (fun _=>H) (fun x=>x.1≤e.args.length∧x.2++(e.args.drop x.1).flatMap bx=R∧x.2.length≤62000000+17*x.1) (fun x=>e.args.length - x.1) (0,z2) ⟨by omega,hR2,by dsimp only;omega⟩ ?_ fun x hx=>?_
  ·refine ⟨by (try simp only [zkq,zkv,nK]);omega,by repeat first|exact .refl _|refine .push ?_ _,hcl,?_,?_⟩
   ·simp [ltF,zle,znn,znf,lt_sliceL,zmp,bg eJ,rk]
    try exact ltL_iff.2 fun j hj=>by simp [eJ,vv,znr,vc,znu,znv,znf]
   ·simp [cf,wk2,wk1,wkM,Fr.get]
  obtain ⟨k,y⟩:=x
  obtain ⟨hk,hy,hyl⟩:=hx
  dsimp only at hk hy hyl ⊢
  simp only [go_sem]
  refine af (fun hc=>?_) (fun hc=>?_)
  ·have hk':k<e.args.length:=by simp at hc;omega
   obtain ⟨a,ha⟩:∃ a,a=e.args[k]:=⟨_,rfl⟩
   have hd:e.args.drop k=a::e.args.drop (k+1):=by rw [ha];exact dcq hk'
   have hag:=bH (f:=vv) (l:=e.args) (k:=k) (x:=a) (by rw [gQq hk',ha])
   have hav:=he.ar a (by rw [ha];exact gMq hk')
   have ia:=ga hav
   have la:=cM hav
   have e5:=Yk5 k
   rw [hd,List.flatMap_cons,← List.append_assoc] at hy
   simp only [go_sem,byq,aN,List.length_map,iNq,hag,vv,vc,ic,ia,dr,e5]
   refine ⟨⟨by omega,by omega⟩,by omega,(k+1,y++bx a),⟨by dsimp only;omega,hy,by dsimp only;simp only [lAq];omega⟩,by dsimp only;omega,by (try simp only [zle]);omega,by repeat first|exact .refl _|refine .push ?_ _,hcl,?_,?_⟩
   ·simp [ltF,zle,znn,znf,lt_sliceL,zmp,bg eJ,rk]
    try exact ltL_iff.2 fun j hj=>by simp [eJ,vv,znr,vc,znu,znv,znf]
   ·simp [cf,wk2,wk1,wkM,Fr.get]
  ·have hk':k=e.args.length:=by simp at hc;omega
   subst hk'
   rw [List.drop_length,List.flatMap_nil,List.append_nil] at hy
   subst hy
   simp only [go_sem,byq,aN,List.length_map,iNq]
   simp (disch:=first|exact Zd|omega) [↓zmo,beq,List.take_of_length_le,List.drop_append,List.take_append,ag,wk,wk2,wk1,wkM,wkL,ak,List.drop_eq_nil_of_le,hcl]
   first|done|repeat first|exact .refl _|refine .push ?_ _
end Go.AL
