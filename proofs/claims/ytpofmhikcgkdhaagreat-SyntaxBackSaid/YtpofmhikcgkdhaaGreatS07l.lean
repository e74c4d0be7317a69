/- Lemmas of the proof; no condition. -/
import Derived.Test.YtpofmhikcgkdhaaGreatS07w
import Derived.Test.YtpofmhikcgkdhaaGreatE06
set_option linter.all false
set_option maxRecDepth 10000
set_option maxHeartbeats 32000000
open Go Go.AL Go.Proofs
namespace Go.AL
theorem pC:ti Tryz.prog 53=some ⟨.int .u64,1,8,.int .u64 0⟩:=by kernel_rfl
theorem rD:ti Tryz.prog 3=some ⟨.int .i64,1,8,.int .i64 0⟩:=by kernel_rfl
theorem ks:ti Tryz.prog 9=some ⟨.string,1,16,.str []⟩:=by kernel_rfl
attribute [go_sem] pC rD ks
theorem xy:Tryz.prog.eqGuardType Tryz.prog.depth 71=false:=by kernel_rfl
theorem sV:Tryz.prog.eqGuardType Tryz.prog.depth 57=false:=by kernel_rfl
theorem xT {a b c hi lo:Int} {n m:List UInt8}:teq Tryz.prog 9 71 (.agg [.int .i64 a,.int .i64 b,.int .i64 c,.str n,.str m,.int .u64 hi,.int .u64 lo]) (.agg [.int .i64 a,.int .i64 b,.int .i64 c,.str n,.str m,.int .u64 hi,.int .u64 lo])=some true:=by
 have g1:Tryz.prog.stoodInHeld 71=false:=by kernel_rfl
 have g2:Tryz.prog.stoodInHeld 55=false:=by kernel_rfl
 simp [tG,jY,teq,teq.go,teq.part,pC,rD,ks,ceq,g1,g2,TD.agg]
theorem tt {a b c hi lo:Int} {n m:List UInt8}:teq Tryz.prog 9 57 (.agg [.int .i64 a,.int .i64 b,.int .i64 c,.str n,.str m,.int .u64 hi,.int .u64 lo]) (.agg [.int .i64 a,.int .i64 b,.int .i64 c,.str n,.str m,.int .u64 hi,.int .u64 lo])=some true:=by
 have g1:Tryz.prog.stoodInHeld 57=false:=by kernel_rfl
 have g2:Tryz.prog.stoodInHeld 55=false:=by kernel_rfl
 simp [rt,jY,teq,teq.go,teq.part,pC,rD,ks,ceq,g1,g2,TD.agg]
def lX:List AV→AHeap→(AV→Prop)→Prop
 |[.slice _ 7 x,.slice _ 7 y],_,K=>∃ t,(x=nds t∧y=nds t∧t.length≤100000)∧K (.bool true)
 |_,_,_=>False
theorem qR:EntOk Tryz.prog 15 (Ent.pure lX):=by
 refine Ype fun _ H K h=>?_
 unfold lX at h
 split at h
 rotate_left
 ·exact h.elim
 rename_i m x m' y
 obtain ⟨t,⟨rfl,rfl,hl⟩,hK⟩:=h
 refine ⟨_,hK,?_⟩
 clear hK
 refine ACalls.fW aE tNq Tryz.func15 [.tmp 4] (nrq _) (T:=ay []) (h:=fun hcl hlt=>?_)
 have hm:∀ n',H.nx≤n'→AV.lt n' (.slice m 7 (nds t)):=fun n' hn=>AV.lt_mono hn _ (hlt (.slice m 7 (nds t)) (by simp))
 have hm':∀ n',H.nx≤n'→AV.lt n' (.slice m' 7 (nds t)):=fun n' hn=>AV.lt_mono hn _ (hlt (.slice m' 7 (nds t)) (by simp))
 clear hlt
 simp only [go_sem,az]
 refine ah (fun hc=>by simp at hc) (fun hc=>?_)
 simp only [go_sem,az]
 refine au (A:=Nat) (fun k=>[(1,.slice m' 7 (nds t)),(12,.slice m 7 (nds t)),(13,.int .i64 (t.length:Int)),(14,.int .i64 (k:Int))]) (fun k=>H) (fun k=>k≤t.length) (fun k=>t.length - k) 0 (by omega) ?_ fun k hk=>?_
 ·exact Z33
 simp only [go_sem]
 refine ah (fun hc=>?_) (fun hc=>?_)
 ·have hk1:k<t.length:=by simp at hc;omega
  have e5:=Yk5 k
  simp only [go_sem,az,cw hk1,iNq,e5,xT,xy,bne_self_eq_false]
  refine ⟨by omega,by omega,k+1,by omega,by omega,?_⟩
  exact Z33
 ·simp only [go_sem]
  exact Z18
def jg (l:List Tok):PR→Option (List Nd)
 |.ok _ p t=>if p<l.length then none else if iI t=true then none else some t
 |.bad _=>none
def uo:Option (List Nd)→AV
 |some t=>.tup [.slice .any 7 (nds t),.slice .any 7 (nds t),.bool true,.bool true]
 |none=>.tup [.slice .any 7 [],.slice .any 7 [],.bool true,.bool false]
theorem Bo {f:Nat} {r:PR} (h:run [] f .imp 0 []=some r):jg [] r=none:=by
 have hw:=aH f h Good.nil trivial (Nat.zero_le _)
 cases r with
 |bad q=>rfl
 |ok a p t =>
  obtain ⟨k1,k2,k3,_⟩:=hw
  simp at k2 k3
  omega
theorem tf {s:List UInt8}:(aT s).2.2=0∨((aT s).1=[]∧((aT s).2.2=3∨(aT s).2.2=10)):=by
 unfold aT
 split
 ·exact .inr ⟨rfl,.inl rfl⟩
 ·split
  ·exact .inl rfl
  ·exact .inr ⟨rfl,.inr rfl⟩
theorem uE (l:List Tok) (r:PR):∃ (u:List Nd) (i e:Int),dM l r=.tup [.slice .any 7 (nds u),.int .i64 i,.int .i64 e]∧u.length≤120∧((jg l r=some u∧e=0)∨(jg l r=none∧u=[]∧(e==0)=false)):=by
 cases r with
 |bad q=>exact ⟨[],_,10,rfl,by simp,.inr ⟨rfl,rfl,rfl⟩⟩
 |ok a p t =>
  by_cases hp:p<l.length
  ·exact ⟨[],(p:Int),10,by simp only [dM];rw [if_pos hp];rfl,by simp,.inr ⟨by simp only [jg];rw [if_pos hp],rfl,rfl⟩⟩
  ·by_cases hb:iI t=true
   ·exact ⟨[],0,11,by simp only [dM];rw [if_neg hp,if_pos hb];rfl,by simp,.inr ⟨by simp only [jg];rw [if_neg hp,if_pos hb],rfl,rfl⟩⟩
   ·refine ⟨t,0,0,by simp only [dM];rw [if_neg hp,if_neg hb],?_,.inl ⟨by simp only [jg];rw [if_neg hp,if_neg hb],rfl⟩⟩
    unfold iI at hb
    simp at hb
    omega
def lU (A:Prop) (_g:Nat):List AV→AHeap→(AV→AHeap→Prop)→Prop
 |[.str s],H,K=>∃ f r,(run (aT s).1 f .imp 0 []=some r∧s.length≤140737488355328∧nX A (aT s).1)∧K (uo (jg (aT s).1 r)) H
 |_,_,_=>False
theorem xB {P:Program} {t s u w n0:Nat} {fr:Fr} {H:AHeap} {Q:AV→AHeap→Prop}:cA P [.tmp t,.tmp s,.tmp u,.tmp w] n0 Q fr H=mv n0 Q (.tup [Fr.get fr t,Fr.get fr s,Fr.get fr u,Fr.get fr w]) H:=by simp [cA,gP,kI,one,mv]
theorem vD {P:Program} {H X:AHeap} {K:AV→AHeap→Prop} {fr:Fr} {m m':Mark} {t:List Nd} {a b:Bool} (hK:K (.tup [.slice .any 7 (nds t),.slice .any 7 (nds t),.bool a,.bool b]) H) (hcl:H.Closed) (hle:H.Le X)
 (f2:Fr.get fr 2=.slice m 7 (nds t)) (f3:Fr.get fr 3=.slice m' 7 (nds t)) (f4:Fr.get fr 4=.bool a) (f5:Fr.get fr 5=.bool b):cA P [.tmp 2,.tmp 3,.tmp 4,.tmp 5] H.nx K fr X:=by
 rw [xB,f2,f3,f4,f5]
 refine ⟨_,H,hK,nrq _,?_,hle,hcl,?_⟩
 ·simp [wk,am,wk2,wk1,wkM]
 ·simp [zns,znu,znv,zng,gH]
theorem ul {A:Prop} {g:Nat} (h_zParse:EntOk Tryz.prog 19 (Ent.some (lR A g))):EntOk Tryz.prog 6 (Ent.some (lU A g)):=by
 refine EntOk.some fun args H K h=>?_
 unfold lU at h
 split at h
 rotate_left
 ·exact h.elim
 rename_i s
 obtain ⟨f,r,⟨hr,hs,hfree⟩,hK⟩:=h
 refine ACallsP.fS aE (tCq o9 (tCq yy (tCq mP (tCq h_zParse (tCq qR tNq))))) Tryz.func6 [.tmp 2,.tmp 3,.tmp 4,.tmp 5] (T:=ay []) (h:=fun hcl=>?_)
 obtain ⟨hg1,hg2⟩:=ge s
 simp only [go_sem,kx,sA,lj,hs]
 rcases tf (s:=s) with he|⟨hl,he⟩
 ·have d1:((((aT s).2.2:Nat):Int) != (((aT s).2.2:Nat):Int))=false:=by simp
  have d2:((((aT s).2.2:Nat):Int) != 0)=false:=by rw [he];rfl
  simp only [go_sem,d1,d2,jz]
  refine ⟨(aT s).1,f,r,⟨rfl,hr,by omega,hg2⟩,?_⟩
  obtain ⟨u,i,e,hpa,hul,hue⟩:=uE (aT s).1 r
  simp only [go_sem,hpa,lR]
  refine ⟨(aT s).1,f,r,⟨rfl,hr,by omega,hg2,hfree⟩,?_⟩
  have d3:(i==i)=true:=by simp
  have d4:(e==e)=true:=by simp
  simp only [aS,go_sem,hpa,d3,d4,lX]
  refine ⟨u,⟨rfl,rfl,by omega⟩,?_⟩
  try simp only [go_sem]
  rcases hue with ⟨ht,rfl⟩|⟨ht,rfl,he0⟩
  ·rw [ht] at hK
   exact vD hK hcl (((((lRq H).push _).push _))) rfl rfl rfl rfl
  ·rw [ht] at hK
   exact vD (t:=[]) hK hcl (((((lRq H).push _).push _))) rfl rfl rfl (by simp [Fr.get,he0])
 ·rw [hl] at hr hK
  rw [Bo hr] at hK
  have d1:((((aT s).2.2:Nat):Int) != (((aT s).2.2:Nat):Int))=false:=by simp
  have d2:((((aT s).2.2:Nat):Int) != 0)=true:=by rcases he with he|he<;>rw [he]<;>rfl
  simp only [go_sem,d1,d2]
  exact vD (t:=[]) hK hcl (((((lRq H).push _).push _).push _).push _) rfl rfl rfl rfl
theorem uq:aT [33,97,32,38,38,32,98,32,45,62,32,99]=([(3,[33],0),(2,[97],1),(3,[38,38],3),(2,[98],6),(3,[45,62],8),(2,[99],11)],0,0):=by decide +kernel
def jD:List Nd:=[⟨3,0,0,[97],[],0⟩,⟨5,0,0,[],[],0⟩,⟨3,0,0,[98],[],0⟩,⟨14,1,2,[],[],0⟩,⟨3,0,0,[99],[],0⟩,⟨16,3,4,[],[],0⟩]
theorem Ba:run [(3,[33],0),(2,[97],1),(3,[38,38],3),(2,[98],6),(3,[45,62],8),(2,[99],11)] 20 .imp 0 []=some (.ok 5 6 jD):=by kernel_rfl
def iz:List AV→AHeap→(AV→Prop)→Prop
 |[],_,K=>K (.bool true)
 |_,_,_=>False
theorem vu:EntOk Tryz.prog 7 (Ent.pure iz):=by
 refine Ype fun _ H K h=>?_
 unfold iz at h
 split at h
 rotate_left
 ·exact h.elim
 refine ⟨_,h,?_⟩
 clear h
 refine ACalls.fW aE (tCq o9 (tCq mP tNq)) Tryz.func7 [.tmp 0] (nrq _) (T:=ay []) (h:=fun hcl hlt=>?_)
 clear hlt
 simp only [go_sem,kx,lj,uq,jz]
 refine ⟨_,20,_,⟨rfl,Ba,by decide,?_⟩,?_⟩
 ·have:=(ge [33,97,32,38,38,32,98,32,45,62,32,99]).2
  rw [uq] at this
  exact this
 have hpa:dM [(3,[33],0),(2,[97],1),(3,[38,38],3),(2,[98],6),(3,[45,62],8),(2,[99],11)] (.ok 5 6 jD)=.tup [.slice .any 7 (nds jD),.int .i64 0,.int .i64 0]:=by
  have hb:iI jD=false:=by decide +kernel
  simp only [dM];rw [if_neg (by decide),hb];rfl
 have hl6:(nds jD).length=6:=rfl
 have q1:(nds jD).getD 1 .junk=.agg [.int .i64 5,.int .i64 0,.int .i64 0,.str [],.str [],.int .u64 0,.int .u64 0]:=rfl
 have q3:(nds jD).getD 3 .junk=.agg [.int .i64 14,.int .i64 1,.int .i64 2,.str [],.str [],.int .u64 0,.int .u64 0]:=rfl
 have q5:(nds jD).getD 5 .junk=.agg [.int .i64 16,.int .i64 3,.int .i64 4,.str [],.str [],.int .u64 0,.int .u64 0]:=rfl
 simp only [go_sem,hpa,hl6,q1,q3,q5,tt,sV]
 refine hY rfl (hY rfl ⟨by omega,hY rfl ⟨by omega,hY rfl ⟨by omega,?_⟩⟩⟩)
 exact Z18
end Go.AL
