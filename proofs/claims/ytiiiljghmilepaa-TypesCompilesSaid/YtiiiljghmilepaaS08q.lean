/- Contracts and plain laws, a part of the proof; no condition of its own. -/
import Derived.Test.YtiiiljghmilepaaS08p
import Derived.Test.YtiiiljghmilepaaS07l
open List renaming length_cons → yaz, length_nil → yba, take_succ_cons → yaq, take_zero → yar, drop_succ_cons → yao, drop_zero → yap, map_cons → yae, map_nil → yaf, take_of_length_le → ybc, drop_append → ybd, take_append → ybe, drop_eq_nil_of_le → ybf
open Go Go.AL Go.Proofs
namespace Go.AL
set_option linter.all false
set_option maxRecDepth 10000
theorem xv {kn:VN→Bool} {s:List UInt8}:(comp kn s).1.length≤120:=by
 unfold comp
 split
 ·decide
 ·obtain ⟨f,hf⟩:=md (bp s).1
  have h:=(iT hf).2.1
  unfold rk
  split
  ·exact Nat.zero_le _
  ·split
   ·exact Nat.zero_le _
   ·split
    ·exact Nat.zero_le _
    ·exact h
theorem rZ {n:Nat} {l:List VN}:ltL n (aY l):=by
 have:=(varsAV_lt (m:=.any) (n:=n) (l:=l)).mpr (fun _ h=>by cases h)
 rw [bx] at this
 exact this.2
theorem xc {L:List (List UInt8)} {k:Nat} (h:k<L.length):(sAV L).getD k .junk=.str L[k]:=by rw [gf h];simp [List.getD_eq_getElem?_getD,h]
def iw:List AV→AHeap→(AV→Prop)→Prop
 |[.str s,.slice _ 1 l,.int .i64 n,.bool g],_,K=>(s.length≤140737488351232∧isB l ∧ -9223372036854775808≤n∧n<9223372036854775808)∧K (.bool true)
 |_,_,_=>False
set_option maxHeartbeats 8000000 in
theorem ok_TypesCompiles:EntOk Try.prog 4 (Ent.pure iw):=by
 refine EntOk.pure fun args H K h=>?_
 unfold iw at h
 split at h
 rotate_left
 ·exact h.elim
 rename_i s m l n g
 obtain ⟨⟨hs,hB,hn1,hn2⟩,hK⟩:=h
 obtain ⟨b,rfl⟩:=yV hB
 clear hB
 refine ⟨_,hK,?_⟩
 clear hK
 have h_CSent:=nf (A:=True) 4
 obtain ⟨B1,hB1⟩:∃ B1,b.take (min (b.length:Int) 60).toNat=B1:=⟨_,rfl⟩
 have hL1:B1.length≤60:=by rw [← hB1,List.length_take];omega
 obtain ⟨B2,hB2⟩:∃ B2,b.take (min (b.length:Int) 30).toNat=B2:=⟨_,rfl⟩
 have hL2:B2.length≤30:=by rw [← hB2,List.length_take];omega
 have hb2:bS 4≤1000000:=by decide
 refine ACalls.fW aI (TblOk.cons xG (TblOk.cons zo (TblOk.cons h_CSent (TblOk.cons sF (TblOk.cons lH (TblOk.cons wN (TblOk.cons rA (TblOk.cons sq TblOk.nil)))))))) Try.func4 [.tmp 8] (Nat.le_refl _) (T:=aA []) (h:=fun hcl hlt=>?_)
 clear hlt
 obtain ⟨s1,hs1⟩:∃ s1,(s.take (min (s.length:Int) 60).toNat).drop (0:Int).toNat=s1:=⟨_,rfl⟩
 have hs1l:s1.length≤60:=by rw [← hs1,List.length_drop,List.length_take];omega
 simp only [iP,iC,aP,bhq,Nat.reduceMod,Nat.reduceDiv,ep,ex,eJ,iE,eG,hY,gv,gS,gW,yaq,yar,yao,yap,go_sem,pU]
 refine ⟨by omega,?_⟩
 intro vs hv1 hv2
 have hov:=wM hv1 hv2
 simp only [iP,iC,aP,bhq,Nat.reduceMod,Nat.reduceDiv,ep,ex,eJ,iE,eG,hY,gv,gS,gW,yaq,yar,yao,yap,go_sem,pS,hs1]
 refine ⟨b,⟨rfl,by omega⟩,?_⟩
 rw [hB1]
 simp only [iP,iC,aP,bhq,Nat.reduceMod,Nat.reduceDiv,ep,ex,eJ,iE,eG,hY,gv,gS,gW,yaq,yar,yao,yap,go_sem,bD]
 refine ⟨B1,0,⟨rfl,⟨by omega,by omega⟩,by omega,rfl,by omega⟩,fun q a' hq _ _=>?_⟩
 try simp only [iP,iC,aP,bhq,Nat.reduceMod,Nat.reduceDiv,ep,ex,eJ,iE,eG,hY,gv,gS,gW,yaq,yar,yao,yap,go_sem,pS]
 refine ⟨b,⟨rfl,by omega⟩,?_⟩
 rw [hB2]
 simp only [iP,iC,aP,bhq,Nat.reduceMod,Nat.reduceDiv,ep,ex,eJ,iE,eG,hY,gv,gS,gW,yaq,yar,yao,yap,go_sem,k8]
 refine ⟨B2,0,⟨rfl,⟨by omega,by omega⟩,by omega⟩,fun q2 a2 hq2 _ _=>?_⟩
 obtain ⟨L,hL⟩:∃ L,[s1,[],q,q2]=L:=⟨_,rfl⟩
 have hLl:L.length=4:=by rw [← hL];rfl
 have hLb:∀ k (hk:k<L.length),L[k].length≤2000000:=by
  subst hL
  intro k hk
  have hk2:k<4:=hk
  rcases (by omega:k=0∨k=1∨k=2∨k=3) with rfl|rfl|rfl|rfl
  ·show s1.length≤_;omega
  ·exact Nat.zero_le _
  ·show q.length≤_;omega
  ·show q2.length≤_;omega
 refine ax (A:=Nat) (fun k=>[(9,.slice .any 2 (aY vs)),(33,.slice .any 1 (sAV L)),(34,.int .i64 ((4:Nat):Int)),(35,.int .i64 (k:Int))]) (fun _=>H) (fun k=>k≤4) (fun k=>4 - k) 0 (by omega) ?_ fun k hk=>?_
 ·rw [← hL]
  (simp only [bkq,enterW,aR,ltF,ne_eq,Nat.reduceEqDiff,reduceCtorEq,sAV,yae,yaf,bx,varsAV_lt];try simp (disch:=first|assumption|omega|(simp;done)|(simp;omega)|(simp only [bt,and_true];first|done|omega|(simp;done))) [↓zmi,beq,ybc,ybd,ybe,ag,wk,wk2,wk1,wkM,wkL,am,ybf,byq,biq,ae,hcl,sAV,yae,yaf,bx,varsAV_lt];try (repeat' (first|assumption|omega|exact True.intro|refine And.intro ?_ ?_|refine af ?_|refine aa ?_|refine ac ?_ ?_|refine ah ?_ ?_|refine aj ?_|exact AHeap.Le.refl _|refine AHeap.Le.push ?_ _|refine AHeap.Le.del ?_ ?_|(simp only [bt,and_true,true_and,sAV,yae,yaf,bx,varsAV_lt];first|done|omega|(simp;done)))))
  all_goals exact rZ
 simp only [go_sem]
 refine ak (fun hc=>?_) (fun hc=>?_)
 ·have hk2:k<4:=by simp at hc;omega
  have hk1:k<L.length:=by omega
  have e5:IntKind.i64.wrap ((k:Int)+1)=((k+1:Nat):Int):=by rw [wrap_i64]<;>omega
  have hsg:=xc hk1
  have hlk:=hLb k hk1
  generalize L[k]=x at *
  simp only [iP,iC,aP,bhq,Nat.reduceMod,Nat.reduceDiv,ep,ex,eJ,iE,eG,hY,gv,gS,gW,yaq,yar,yao,yap,go_sem,ai,hLl,hsg,Int.toNat_natCast,eY]
  refine ⟨by omega,vs,⟨rfl,hov,by omega⟩,?_⟩
  simp only [iP,iC,aP,bhq,Nat.reduceMod,Nat.reduceDiv,ep,ex,eJ,iE,eG,hY,gv,gS,gW,yaq,yar,yao,yap,go_sem,pI,dt]
  refine ⟨vs,⟨rfl,by omega⟩,?_⟩
  simp only [iP,iC,aP,bhq,Nat.reduceMod,Nat.reduceDiv,ep,ex,eJ,iE,eG,hY,gv,gS,gW,yaq,yar,yao,yap,go_sem,jX]
  refine ⟨vs,⟨rfl,hov,by omega⟩,?_⟩
  have hcl:=@xv (aZ vs) x
  generalize comp (aZ vs) x=c at *
  obtain ⟨t,e⟩:=c
  dsimp only at hcl
  simp only [iP,iC,aP,bhq,Nat.reduceMod,Nat.reduceDiv,ep,ex,eJ,iE,eG,hY,gv,gS,gW,yaq,yar,yao,yap,go_sem,dt,aD,bne_self_eq_false]
  refine ax (A:=Nat) (fun j=>[(9,.slice .any 2 (aY vs)),(14,.slice .any 7 (nds t)),(33,.slice .any 1 (sAV L)),(34,.int .i64 ((4:Nat):Int)),(35,.int .i64 (k:Int)),(62,.slice .any 7 (nds t)),(63,.int .i64 (t.length:Int)),(64,.int .i64 (j:Int))]) (fun _=>H) (fun j=>j≤t.length) (fun j=>t.length - j) 0 (by omega) ?_ fun j hj=>?_
  ·(simp only [bkq,enterW,aR,ltF,ne_eq,Nat.reduceEqDiff,reduceCtorEq,br,cI,varsAV_lt];try simp (disch:=first|assumption|omega|(simp;done)|(simp;omega)|(simp only [bt,and_true];first|done|omega|(simp;done))) [↓zmi,beq,ybc,ybd,ybe,ag,wk,wk2,wk1,wkM,wkL,am,ybf,byq,biq,ae,hcl,br,cI,varsAV_lt];try (repeat' (first|assumption|omega|exact True.intro|refine And.intro ?_ ?_|refine af ?_|refine aa ?_|refine ac ?_ ?_|refine ah ?_ ?_|refine aj ?_|exact AHeap.Le.refl _|refine AHeap.Le.push ?_ _|refine AHeap.Le.del ?_ ?_|(simp only [bt,and_true,true_and,br,cI,varsAV_lt];first|done|omega|(simp;done)))))
  simp only [go_sem]
  refine ak (fun hc=>?_) (fun hc=>?_)
  ·have hj1:j<t.length:=by simp at hc;omega
   have e6:IntKind.i64.wrap ((j:Int)+1)=((j+1:Nat):Int):=by rw [wrap_i64]<;>omega
   simp only [iP,iC,aP,bhq,Nat.reduceMod,Nat.reduceDiv,ep,ex,eJ,iE,eG,hY,gv,gS,gW,yaq,yar,yao,yap,go_sem,aD,bZ hj1,Int.toNat_natCast,e6,um,ub,bne_self_eq_false]
   refine ⟨by omega,by omega,j+1,by omega,by omega,?_⟩
   (simp only [bkq,enterW,aR,ltF,ne_eq,Nat.reduceEqDiff,reduceCtorEq,br,cI,varsAV_lt];try simp (disch:=first|assumption|omega|(simp;done)|(simp;omega)|(simp only [bt,and_true];first|done|omega|(simp;done))) [↓zmi,beq,ybc,ybd,ybe,ag,wk,wk2,wk1,wkM,wkL,am,ybf,byq,biq,ae,hcl,br,cI,varsAV_lt];try (repeat' (first|assumption|omega|exact True.intro|refine And.intro ?_ ?_|refine af ?_|refine aa ?_|refine ac ?_ ?_|refine ah ?_ ?_|refine aj ?_|exact AHeap.Le.refl _|refine AHeap.Le.push ?_ _|refine AHeap.Le.del ?_ ?_|(simp only [bt,and_true,true_and,br,cI,varsAV_lt];first|done|omega|(simp;done)))))
  ·simp only [iP,iC,aP,bhq,Nat.reduceMod,Nat.reduceDiv,ep,ex,eJ,iE,eG,hY,gv,gS,gW,yaq,yar,yao,yap,go_sem,e5]
   refine ⟨k+1,by omega,by omega,?_⟩
   (simp only [bkq,enterW,aR,ltF,ne_eq,Nat.reduceEqDiff,reduceCtorEq,br,cI,varsAV_lt];try simp (disch:=first|assumption|omega|(simp;done)|(simp;omega)|(simp only [bt,and_true];first|done|omega|(simp;done))) [↓zmi,beq,ybc,ybd,ybe,ag,wk,wk2,wk1,wkM,wkL,am,ybf,byq,biq,ae,hcl,br,cI,varsAV_lt];try (repeat' (first|assumption|omega|exact True.intro|refine And.intro ?_ ?_|refine af ?_|refine aa ?_|refine ac ?_ ?_|refine ah ?_ ?_|refine aj ?_|exact AHeap.Le.refl _|refine AHeap.Le.push ?_ _|refine AHeap.Le.del ?_ ?_|(simp only [bt,and_true,true_and,br,cI,varsAV_lt];first|done|omega|(simp;done)))))
 ·simp only [iP,iC,aP,bhq,Nat.reduceMod,Nat.reduceDiv,ep,ex,eJ,iE,eG,hY,gv,gS,gW,yaq,yar,yao,yap,go_sem,lg]
  simp (disch:=first|assumption|omega|(simp;done)|(simp;omega)|(simp only [bt,and_true];first|done|omega|(simp;done))) [↓zmi,beq,ybc,ybd,ybe,ag,wk,wk2,wk1,wkM,wkL,am,ybf,hcl]
end Go.AL
