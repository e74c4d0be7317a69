/- Lemmas of the proof; no condition. -/
import Derived.Test.YtpbnggedofiinaaGreatM19j
import Derived.Test.YtpbnggedofiinaaGreatM19m
import Derived.Test.YtpbnggedofiinaaGreatM19r
set_option linter.all false
set_option maxRecDepth 10000
set_option maxHeartbeats 32000000
open List renaming length_cons → yaz, length_nil → yba, length_map → ybb, take_of_length_le → ybc, drop_append → ybd, take_append → ybe, drop_eq_nil_of_le → ybf, cons_append → yal, nil_append → yak, take_succ_cons → yaq, take_zero → yar, drop_succ_cons → yao, drop_zero → yap, map_cons → yae, map_nil → yaf, append_nil → yaj
open Go Go.AL Go.Proofs
namespace Go.AL
theorem vf:ti Tryz.prog 97=some ⟨.struct [(0,3,false),(1,3,false),(2,3,false),(3,3,false),(4,43,false),(5,3,false),(6,3,false)],7,56,.agg [.int .i64 0,.int .i64 0,.int .i64 0,.int .i64 0,.int .i64 0,.int .i64 0,.int .i64 0]⟩:=by kernel_rfl
theorem Ao:ti Tryz.prog 45=some ⟨.slice 97,1,24,.slice .nil 1 []⟩:=by kernel_rfl
theorem Ch:ti Tryz.prog 47=some ⟨.struct [(0,4,false),(1,3,false),(2,3,false),(3,22,false)],4,48,.agg [.bool false,.int .i64 0,.int .i64 0,.slice .nil 1 []]⟩:=by kernel_rfl
theorem Fm:ti Tryz.prog 49=some ⟨.struct [(0,43,false),(1,3,false),(2,4,false),(3,44,false),(4,45,false),(5,47,false)],9,120,.agg [.int .i64 0,.int .i64 0,.bool false,.slice .nil 1 [],.slice .nil 1 [],.bool false,.int .i64 0,.int .i64 0,.slice .nil 1 []]⟩:=by kernel_rfl
attribute [go_sem] vf Ao Ch Fm
structure SRec where
 num:Int
 ctl:Int
 role:Int
 kind:Int
 code:Int
 fail:Int
 upd:Int
def mU (r:SRec):List AV:=[.int .i64 r.num,.int .i64 r.ctl,.int .i64 r.role,.int .i64 r.kind,.int .i64 r.code,.int .i64 r.fail,.int .i64 r.upd]
def dT (r:SRec):AV:=.agg (mU r)
theorem qN {n:Nat} (r:SRec):AV.lt n (dT r):=by simp only [dT,mU,znr,znu,znv,znf,and_true]
def ii (a b:SRec):Bool:=(a.num==b.num)&&((a.ctl==b.ctl)&&((a.role==b.role)&&((a.kind==b.kind)&&((a.code==b.code)&&((a.fail==b.fail)&&((a.upd==b.upd)&&true))))))
theorem zT (a:SRec):ii a a=true:=by simp [ii]
theorem BT:Tryz.prog.eqGuardType Tryz.prog.depth 97=false:=by kernel_rfl
theorem Bo {a b:SRec}:teq Tryz.prog 9 97 (.agg [.int .i64 a.num,.int .i64 a.ctl,.int .i64 a.role,.int .i64 a.kind,.int .i64 a.code,.int .i64 a.fail,.int .i64 a.upd]) (.agg [.int .i64 b.num,.int .i64 b.ctl,.int .i64 b.role,.int .i64 b.kind,.int .i64 b.code,.int .i64 b.fail,.int .i64 b.upd])=some (ii a b):=by
 have g2:Tryz.prog.stoodInHeld 97=false:=by kernel_rfl
 simp [vf,teq,teq.go,teq.part,nY,y9,ceq,g2,TD.agg,ii]
def cg:List AV→AHeap→(AV→Prop)→Prop
 |[.slice _ 7 l,.slice _ 7 k],_,K=>∃ xs ys:List (SRec),(l=xs.map dT∧k=ys.map dT∧xs.length≤140737488355328∧ys.length≤140737488355328∧True)∧K (.bool (eqL ii xs ys))
 |_,_,_=>False
theorem gq:EntOk Tryz.prog 60 (Ent.pure cg):=by
 refine Ype fun _ H K h=>?_
 unfold cg at h
 split at h
 rotate_left
 ·exact h.elim
 rename_i m1 l m2 k
 obtain ⟨xs,ys,⟨rfl,rfl,hl1,hl2,ho⟩,hK⟩:=h
 clear ho
 refine ⟨_,hK,?_⟩
 clear hK
 obtain ⟨R,hR⟩:∃ R,eqL ii xs ys=R:=⟨_,rfl⟩
 rw [hR]
 by_cases hlen:xs.length=ys.length
 case neg =>
  rw [mG hlen] at hR
  subst hR
  have d0:((xs.length:Int) != (ys.length:Int))=true:=by rw [bne_iff_ne];omega
  refine ACalls.fW ah tNq Tryz.func60 [.tmp 4] (nrq _) (T:=ae []) (h:=fun hcl hlt=>?_)
  clear hlt
  simp only [go_sem,ybb,d0]
  simp (disch:=first|exact Zd|omega) [↓zmo,beq,ybc,ybd,ybe,ag,wk,wk2,wk1,wkM,wkL,ak,ybf,hcl]
 have d0:((xs.length:Int) != (ys.length:Int))=false:=by rw [hlen];simp
 refine ACalls.fW ah tNq Tryz.func60 [.tmp 4] (nrq _) (T:=ae []) (h:=fun hcl hlt=>?_)
 have hs1:=hlt (.slice m1 7 (xs.map dT)) (by simp)
 have hs2:=hlt (.slice m2 7 (ys.map dT)) (by simp)
 clear hlt
 simp only [go_sem,ybb,d0]
 refine aK (A:=Nat) (fun k=>[(0,.slice m1 7 (xs.map dT)),(1,.slice m2 7 (ys.map dT)),(12,.int .i64 (xs.length:Int)),(13,.int .i64 (k:Int))]) (fun _=>H) (fun k=>k≤xs.length∧eqL ii (xs.drop k) (ys.drop k)=R) (fun k=>xs.length - k) 0 ⟨by omega,hR⟩ ?_ fun k hk=>?_
 ·refine ⟨by simp only [zkq,zkv];omega,lRq _,hcl,?_,?_⟩
  ·simp only [ltF,znf,and_true,true_and]
   exact ⟨hs1,hs2⟩
  ·simp [cf,wk2,wk1,wkM,Fr.get]
 obtain ⟨hk,hq⟩:=hk
 simp only [go_sem]
 refine af (fun hc=>?_) (fun hc=>?_)
 ·have hk':k<xs.length:=by simp at hc;omega
  have hk2:k<ys.length:=by omega
  obtain ⟨x,hx⟩:∃ x,x=xs[k]:=⟨_,rfl⟩
  obtain ⟨y,hy⟩:∃ y,y=ys[k]:=⟨_,rfl⟩
  have hd:xs.drop k=x::xs.drop (k+1):=by rw [hx];exact dcq hk'
  have hd2:ys.drop k=y::ys.drop (k+1):=by rw [hy];exact dcq hk2
  have hg:=bH (f:=dT) (l:=xs) (k:=k) (x:=x) (by rw [gQq hk',hx])
  have hg2:=bH (f:=dT) (l:=ys) (k:=k) (x:=y) (by rw [gQq hk2,hy])
  have e5:=Yk5 k
  rw [hd,hd2] at hq
  unfold eqL at hq
  simp only [go_sem,iNq,ybb,hg,hg2,dT,mU,Bo,BT,Bool.bne_false,Bool.bne_true]
  (repeat with_reducible refine And.intro (by first|assumption|decide|omega) ?_)
  refine af (fun hb=>?_) (fun hb=>?_)
  ·have hb':ii x y=false:=by first|(simpa using hb;done)|(simpa [ii] using hb)
   rw [hb',Bool.false_and] at hq
   rw [← hq]
   try simp only [go_sem]
   simp (disch:=first|exact Zd|omega) [↓zmo,beq,ybc,ybd,ybe,ag,wk,wk2,wk1,wkM,wkL,ak,ybf,hcl]
   first|done|repeat first|exact .refl _|refine .push ?_ _
  ·have hb':ii x y=true:=by first|(simpa using hb;done)|(simpa [ii] using hb)
   rw [hb',Bool.true_and] at hq
   simp only [go_sem,e5]
   refine ⟨k+1,⟨by omega,hq⟩,by omega,by (try simp only [zle]);omega,by repeat first|exact .refl _|refine .push ?_ _,hcl,?_,?_⟩
   ·simp only [ltF,znf,and_true,true_and]
    exact ⟨hs1,hs2⟩
   ·simp [cf,wk2,wk1,wkM,Fr.get]
 ·have hk':k=xs.length:=by simp at hc;omega
  subst hk'
  rw [List.drop_length,hlen,List.drop_length] at hq
  rw [← hq]
  simp only [go_sem,eqL]
  exact Z2
def aT:List AV→AHeap→(AV→Prop)→Prop
 |[.slice _ 7 l,.slice _ 7 k],_,K=>∃ xs ys:List (SRec),(l=xs.map dT∧k=ys.map dT∧xs.length≤140737488355328∧ys.length≤140737488355328∧True)∧K (.bool (eqL ii xs ys))
 |_,_,_=>False
theorem dY:EntOk Tryz.prog 53 (Ent.pure aT):=by
 refine Ype fun _ H K h=>?_
 unfold aT at h
 split at h
 rotate_left
 ·exact h.elim
 rename_i m1 l m2 k
 obtain ⟨xs,ys,⟨rfl,rfl,hl1,hl2,ho⟩,hK⟩:=h
 clear ho
 refine ⟨_,hK,?_⟩
 clear hK
 obtain ⟨R,hR⟩:∃ R,eqL ii xs ys=R:=⟨_,rfl⟩
 rw [hR]
 by_cases hlen:xs.length=ys.length
 case neg =>
  rw [mG hlen] at hR
  subst hR
  have d0:((xs.length:Int) != (ys.length:Int))=true:=by rw [bne_iff_ne];omega
  refine ACalls.fW ah tNq Tryz.func53 [.tmp 4] (nrq _) (T:=ae []) (h:=fun hcl hlt=>?_)
  clear hlt
  simp only [go_sem,ybb,d0]
  simp (disch:=first|exact Zd|omega) [↓zmo,beq,ybc,ybd,ybe,ag,wk,wk2,wk1,wkM,wkL,ak,ybf,hcl]
 have d0:((xs.length:Int) != (ys.length:Int))=false:=by rw [hlen];simp
 refine ACalls.fW ah tNq Tryz.func53 [.tmp 4] (nrq _) (T:=ae []) (h:=fun hcl hlt=>?_)
 have hs1:=hlt (.slice m1 7 (xs.map dT)) (by simp)
 have hs2:=hlt (.slice m2 7 (ys.map dT)) (by simp)
 clear hlt
 simp only [go_sem,ybb,d0]
 refine aK (A:=Nat) (fun k=>[(0,.slice m1 7 (xs.map dT)),(1,.slice m2 7 (ys.map dT)),(12,.int .i64 (xs.length:Int)),(13,.int .i64 (k:Int))]) (fun _=>H) (fun k=>k≤xs.length∧eqL ii (xs.drop k) (ys.drop k)=R) (fun k=>xs.length - k) 0 ⟨by omega,hR⟩ ?_ fun k hk=>?_
 ·refine ⟨by simp only [zkq,zkv];omega,lRq _,hcl,?_,?_⟩
  ·simp only [ltF,znf,and_true,true_and]
   exact ⟨hs1,hs2⟩
  ·simp [cf,wk2,wk1,wkM,Fr.get]
 obtain ⟨hk,hq⟩:=hk
 simp only [go_sem]
 refine af (fun hc=>?_) (fun hc=>?_)
 ·have hk':k<xs.length:=by simp at hc;omega
  have hk2:k<ys.length:=by omega
  obtain ⟨x,hx⟩:∃ x,x=xs[k]:=⟨_,rfl⟩
  obtain ⟨y,hy⟩:∃ y,y=ys[k]:=⟨_,rfl⟩
  have hd:xs.drop k=x::xs.drop (k+1):=by rw [hx];exact dcq hk'
  have hd2:ys.drop k=y::ys.drop (k+1):=by rw [hy];exact dcq hk2
  have hg:=bH (f:=dT) (l:=xs) (k:=k) (x:=x) (by rw [gQq hk',hx])
  have hg2:=bH (f:=dT) (l:=ys) (k:=k) (x:=y) (by rw [gQq hk2,hy])
  have e5:=Yk5 k
  rw [hd,hd2] at hq
  unfold eqL at hq
  simp only [go_sem,iNq,ybb,hg,hg2,dT,mU,Bo,BT,Bool.bne_false,Bool.bne_true]
  (repeat with_reducible refine And.intro (by first|assumption|decide|omega) ?_)
  refine af (fun hb=>?_) (fun hb=>?_)
  ·have hb':ii x y=false:=by first|(simpa using hb;done)|(simpa [ii] using hb)
   rw [hb',Bool.false_and] at hq
   rw [← hq]
   try simp only [go_sem]
   simp (disch:=first|exact Zd|omega) [↓zmo,beq,ybc,ybd,ybe,ag,wk,wk2,wk1,wkM,wkL,ak,ybf,hcl]
   first|done|repeat first|exact .refl _|refine .push ?_ _
  ·have hb':ii x y=true:=by first|(simpa using hb;done)|(simpa [ii] using hb)
   rw [hb',Bool.true_and] at hq
   simp only [go_sem,e5]
   refine ⟨k+1,⟨by omega,hq⟩,by omega,by (try simp only [zle]);omega,by repeat first|exact .refl _|refine .push ?_ _,hcl,?_,?_⟩
   ·simp only [ltF,znf,and_true,true_and]
    exact ⟨hs1,hs2⟩
   ·simp [cf,wk2,wk1,wkM,Fr.get]
 ·have hk':k=xs.length:=by simp at hc;omega
  subst hk'
  rw [List.drop_length,hlen,List.drop_length] at hq
  rw [← hq]
  simp only [go_sem,eqL]
  exact Z2
def bp:List AV→AHeap→(AV→Prop)→Prop
 |[.slice _ 5 l,.slice _ 5 k],_,K=>∃ xs ys:List (SEntry),(l=xs.map bc∧k=ys.map bc∧xs.length≤140737488355328∧ys.length≤140737488355328∧(∀ x∈xs,(COk) x)∧∀ x∈ys,(COk) x)∧K (.bool (eqL eqE xs ys))
 |_,_,_=>False
theorem eT:EntOk Tryz.prog 52 (Ent.pure bp):=by
 refine Ype fun _ H K h=>?_
 unfold bp at h
 split at h
 rotate_left
 ·exact h.elim
 rename_i m1 l m2 k
 obtain ⟨xs,ys,⟨rfl,rfl,hl1,hl2,ho⟩,hK⟩:=h
 obtain ⟨ho1,ho2⟩:=ho
 refine ⟨_,hK,?_⟩
 clear hK
 obtain ⟨R,hR⟩:∃ R,eqL eqE xs ys=R:=⟨_,rfl⟩
 rw [hR]
 by_cases hlen:xs.length=ys.length
 case neg =>
  rw [mG hlen] at hR
  subst hR
  have d0:((xs.length:Int) != (ys.length:Int))=true:=by rw [bne_iff_ne];omega
  refine ACalls.fW ah (tCq ej tNq) Tryz.func52 [.tmp 4] (nrq _) (T:=ae [(6,[[],[],[],[],[],[],[],[],[3,7]])]) (h:=fun hcl hlt=>?_)
  clear hlt
  simp only [go_sem,ybb,d0]
  simp (disch:=first|exact Zd|omega) [↓zmo,beq,ybc,ybd,ybe,ag,wk,wk2,wk1,wkM,wkL,ak,ybf,hcl]
 have d0:((xs.length:Int) != (ys.length:Int))=false:=by rw [hlen];simp
 refine ACalls.fW ah (tCq ej tNq) Tryz.func52 [.tmp 4] (nrq _) (T:=ae [(6,[[],[],[],[],[],[],[],[],[3,7]])]) (h:=fun hcl hlt=>?_)
 have hs1:=hlt (.slice m1 5 (xs.map bc)) (by simp)
 have hs2:=hlt (.slice m2 5 (ys.map bc)) (by simp)
 clear hlt
 simp only [go_sem,ybb,d0]
 refine aK (A:=Nat) (fun k=>[(0,.slice m1 5 (xs.map bc)),(1,.slice m2 5 (ys.map bc)),(12,.int .i64 (xs.length:Int)),(13,.int .i64 (k:Int))]) (fun _=>H) (fun k=>k≤xs.length∧eqL eqE (xs.drop k) (ys.drop k)=R) (fun k=>xs.length - k) 0 ⟨by omega,hR⟩ ?_ fun k hk=>?_
 ·refine ⟨by simp only [zkq,zkv];omega,lRq _,hcl,?_,?_⟩
  ·simp only [ltF,znf,and_true,true_and]
   exact ⟨hs1,hs2⟩
  ·simp [cf,wk2,wk1,wkM,Fr.get]
 obtain ⟨hk,hq⟩:=hk
 simp only [go_sem]
 refine af (fun hc=>?_) (fun hc=>?_)
 ·have hk':k<xs.length:=by simp at hc;omega
  have hk2:k<ys.length:=by omega
  obtain ⟨x,hx⟩:∃ x,x=xs[k]:=⟨_,rfl⟩
  obtain ⟨y,hy⟩:∃ y,y=ys[k]:=⟨_,rfl⟩
  have hd:xs.drop k=x::xs.drop (k+1):=by rw [hx];exact dcq hk'
  have hd2:ys.drop k=y::ys.drop (k+1):=by rw [hy];exact dcq hk2
  have hg:=bH (f:=bc) (l:=xs) (k:=k) (x:=x) (by rw [gQq hk',hx])
  have hg2:=bH (f:=bc) (l:=ys) (k:=k) (x:=y) (by rw [gQq hk2,hy])
  have e5:=Yk5 k
  rw [hd,hd2] at hq
  unfold eqL at hq
  simp only [go_sem,iNq,ybb,hg,hg2,bc,aN,oa]
  (repeat with_reducible refine And.intro (by first|assumption|decide|omega) ?_)
  refine ⟨x,y,⟨rfl,rfl,ho1 x (by rw [hx];exact gMq hk'),ho2 y (by rw [hy];exact gMq hk2)⟩,?_⟩
  try simp only [go_sem]
  refine af (fun hb=>?_) (fun hb=>?_)
  ·have hb':eqE x y=false:=by first|(simpa using hb;done)|(simpa [eqE] using hb)
   rw [hb',Bool.false_and] at hq
   rw [← hq]
   try simp only [go_sem]
   simp (disch:=first|exact Zd|omega) [↓zmo,beq,ybc,ybd,ybe,ag,wk,wk2,wk1,wkM,wkL,ak,ybf,hcl]
   first|done|repeat first|exact .refl _|refine .push ?_ _
  ·have hb':eqE x y=true:=by first|(simpa using hb;done)|(simpa [eqE] using hb)
   rw [hb',Bool.true_and] at hq
   simp only [go_sem,e5]
   refine ⟨k+1,⟨by omega,hq⟩,by omega,by (try simp only [zle]);omega,by repeat first|exact .refl _|refine .push ?_ _,hcl,?_,?_⟩
   ·simp only [ltF,znf,and_true,true_and]
    exact ⟨hs1,hs2⟩
   ·simp [cf,wk2,wk1,wkM,Fr.get]
 ·have hk':k=xs.length:=by simp at hc;omega
  subst hk'
  rw [List.drop_length,hlen,List.drop_length] at hq
  rw [← hq]
  simp only [go_sem,eqL]
  exact Z2
structure SResp where
 code:Int
 fail:Int
 prim:Bool
 ents:List SEntry
 recs:List SRec
 drop:Bool
 reas:Int
 port:Int
 data:List UInt8
def bR (r:SResp):List AV:=[.int .i64 r.code,.int .i64 r.fail,.bool r.prim,.slice .any 5 (r.ents.map bc),.slice .any 7 (r.recs.map dT),.bool r.drop,.int .i64 r.reas,.int .i64 r.port,.slice .any 1 (bys r.data)]
def eA (r:SResp):AV:=.agg (bR r)
theorem pM {n:Nat} (r:SResp):AV.lt n (eA r):=by
 have h1:AV.lt n (.slice .any 5 (r.ents.map bc)):=bg dJ
 have h2:AV.lt n (.slice .any 7 (r.recs.map dT)):=bg qN
 simp only [eA,bR,znr,znu,znv,znf,zng,h1,h2,zms,and_true,true_and]
 intro i e;cases e
structure PC (r:SResp):Prop where
 el:r.ents.length≤140737488355328
 rl:r.recs.length≤140737488355328
 eo:∀ e∈r.ents,COk e
def eqP (r s:SResp):Bool:=(r.code==s.code)&&(r.fail==s.fail)&&(r.prim==s.prim)&&(eqL eqE r.ents s.ents)&&(eqL ii r.recs s.recs)&&(r.drop==s.drop)&&(r.reas==s.reas)&&(r.port==s.port)&&(r.data==s.data)
def ck:List AV→AHeap→(AV→Prop)→Prop
 |[.slice _ 5 l,.slice _ 5 k,.func (.func 56) [] []],_,K=>∃ xs ys:List (SEntry),(l=xs.map bc∧k=ys.map bc∧xs.length≤140737488355328∧ys.length≤140737488355328∧(∀ x∈xs,(COk) x)∧∀ x∈ys,(COk) x)∧K (.bool (eqL eqE xs ys))
 |_,_,_=>False
theorem gp:EntOk Tryz.prog 59 (Ent.pure ck):=by
 refine Ype fun _ H K h=>?_
 unfold ck at h
 split at h
 rotate_left
 ·exact h.elim
 rename_i m1 l m2 k
 obtain ⟨xs,ys,⟨rfl,rfl,hl1,hl2,ho1,ho2⟩,hK⟩:=h
 refine ⟨_,hK,?_⟩
 clear hK
 obtain ⟨R,hR⟩:∃ R,eqL eqE xs ys=R:=⟨_,rfl⟩
 rw [hR]
 by_cases hlen:xs.length=ys.length
 case neg =>
  rw [mG hlen] at hR
  subst hR
  have d0:((xs.length:Int) != (ys.length:Int))=true:=by rw [bne_iff_ne];omega
  refine ACalls.fW ah (tCq qz tNq) Tryz.func59 [.tmp 6] (nrq _) (T:=ae []) (h:=fun hcl hlt=>?_)
  clear hlt
  simp only [go_sem,ybb,d0]
  simp (disch:=first|exact Zd|omega) [↓zmo,beq,ybc,ybd,ybe,ag,wk,wk2,wk1,wkM,wkL,ak,ybf,hcl]
 have d0:((xs.length:Int) != (ys.length:Int))=false:=by rw [hlen];simp
 refine ACalls.fW ah (tCq qz tNq) Tryz.func59 [.tmp 6] (nrq _) (T:=ae []) (h:=fun hcl hlt=>?_)
 have hs1:=hlt (.slice m1 5 (xs.map bc)) (by simp)
 have hs2:=hlt (.slice m2 5 (ys.map bc)) (by simp)
 have hf:AV.lt H.nx (.func (.func 56) [] []):=hlt _ (by simp)
 clear hlt
 simp only [go_sem,ybb,d0]
 refine aK (A:=Nat) (fun k=>[(1,.slice m2 5 (ys.map bc)),(2,.func (.func 56) [] []),(15,.slice m1 5 (xs.map bc)),(16,.int .i64 (xs.length:Int)),(17,.int .i64 (k:Int))]) (fun _=>H) (fun k=>k≤xs.length∧eqL eqE (xs.drop k) (ys.drop k)=R) (fun k=>xs.length - k) 0 ⟨by omega,hR⟩ ?_ fun k hk=>?_
 ·refine ⟨by simp only [zkq,zkv];omega,lRq _,hcl,?_,?_⟩
  ·simp only [ltF,znf,and_true,true_and]
   exact ⟨hs2,hf,hs1⟩
  ·simp [cf,wk2,wk1,wkM,Fr.get]
 obtain ⟨hk,hq⟩:=hk
 simp only [go_sem]
 refine af (fun hc=>?_) (fun hc=>?_)
 ·have hk':k<xs.length:=by simp at hc;omega
  have hk2:k<ys.length:=by omega
  obtain ⟨x,hx⟩:∃ x,x=xs[k]:=⟨_,rfl⟩
  obtain ⟨y,hy⟩:∃ y,y=ys[k]:=⟨_,rfl⟩
  have hd:xs.drop k=x::xs.drop (k+1):=by rw [hx];exact dcq hk'
  have hd2:ys.drop k=y::ys.drop (k+1):=by rw [hy];exact dcq hk2
  have hg:=bH (f:=bc) (l:=xs) (k:=k) (x:=x) (by rw [gQq hk',hx])
  have hg2:=bH (f:=bc) (l:=ys) (k:=k) (x:=y) (by rw [gQq hk2,hy])
  have e5:=Yk5 k
  have hox:=ho1 x (by rw [hx];exact gMq hk')
  have hoy:=ho2 y (by rw [hy];exact gMq hk2)
  rw [hd,hd2] at hq
  unfold eqL at hq
  simp only [go_sem,iNq,ybb,hg,hg2,bc,aN,aN,sA]
  (repeat with_reducible refine And.intro (by first|assumption|decide|omega) ?_)
  refine ⟨x,y,⟨rfl,rfl,hox,hoy⟩,?_⟩
  try simp only [za]
  try simp only [go_sem]
  refine af (fun hb=>?_) (fun hb=>?_)
  ·have hb':eqE x y=false:=by simpa [eqE] using hb
   rw [hb',Bool.false_and] at hq
   rw [← hq]
   try simp only [go_sem]
   simp (disch:=first|exact Zd|omega) [↓zmo,beq,ybc,ybd,ybe,ag,wk,wk2,wk1,wkM,wkL,ak,ybf,hcl]
   first|done|repeat first|exact .refl _|refine .push ?_ _
  ·have hb':eqE x y=true:=by simpa [eqE] using hb
   rw [hb',Bool.true_and] at hq
   simp only [go_sem,e5]
   refine ⟨k+1,⟨by omega,hq⟩,by omega,by (try simp only [zle]);omega,by repeat first|exact .refl _|refine .push ?_ _,hcl,?_,?_⟩
   ·simp only [ltF,znf,and_true,true_and]
    exact ⟨hs2,hf,hs1⟩
   ·simp [cf,wk2,wk1,wkM,Fr.get]
 ·have hk':k=xs.length:=by simp at hc;omega
  subst hk'
  rw [List.drop_length,hlen,List.drop_length] at hq
  rw [← hq]
  simp only [go_sem,eqL]
  exact Z2
def bq:List AV→AHeap→(AV→Prop)→Prop
 |[.agg [.bool d,.int .i64 e,.int .i64 f,.slice _ 1 l],.agg [.bool d',.int .i64 e',.int .i64 f',.slice _ 1 l']],_,K=>∃ a b:List UInt8,(l=bys a∧l'=bys b)∧K (.bool ((d==d')&&((e==e')&&((f==f')&&(a==b)))))
 |_,_,_=>False
theorem eU:EntOk Tryz.prog 54 (Ent.pure bq):=by
 refine Ype fun _ H K h=>?_
 unfold bq at h
 split at h
 rotate_left
 ·exact h.elim
 rename_i d e f m1 l d' e' f' m2 l'
 obtain ⟨a,b,⟨rfl,rfl⟩,hK⟩:=h
 refine ⟨_,hK,?_⟩
 clear hK
 cases h1:(d==d')
 case' true=>cases h2:(e==e')
 case' true.true=>cases h3:(f==f')
 all_goals
  simp only [Bool.false_and,Bool.true_and,Bool.and_false]
  refine ACalls.fW ah tNq Tryz.func54 [.tmp 4] (nrq _) (T:=ae []) (h:=fun hcl hlt=>?_)
  clear hlt
  first|simp only [go_sem,byq,Bool.bne_false,Bool.bne_true,h1,h2,h3]|simp only [go_sem,byq,Bool.bne_false,Bool.bne_true,h1,h2]|simp only [go_sem,byq,Bool.bne_false,Bool.bne_true,h1]
  simp (disch:=first|exact Zd|omega) [↓zmo,beq,ybc,ybd,ybe,ag,wk,wk2,wk1,wkM,wkL,ak,ybf,hcl]
  first|done|repeat first|exact .refl _|refine .push ?_ _
def tI:List AV→AHeap→(AV→Prop)→Prop
 |[.agg l,.agg k],_,K=>∃ r s:SResp,(l=bR r∧k=bR s∧PC r∧PC s)∧K (.bool (eqP r s))
 |_,_,_=>False
theorem CS:EntOk Tryz.prog 16 (Ent.pure tI):=by
 refine Ype fun _ H K h=>?_
 unfold tI at h
 split at h
 rotate_left
 ·exact h.elim
 rename_i l k
 obtain ⟨r,s,⟨rfl,rfl,hr,hs⟩,hK⟩:=h
 refine ⟨_,hK,?_⟩
 clear hK
 obtain ⟨R,hR⟩:∃ R,eqP r s=R:=⟨_,rfl⟩
 rw [hR]
 unfold eqP at hR
 cases h0:(r.code==s.code)
 ·simp only [h0,Bool.false_and,Bool.and_false,Bool.true_and] at hR
  subst hR
  refine ACalls.fW ah (tCq gp (tCq gq (tCq cI tNq))) Tryz.func16 [.tmp 4] (nrq _) (T:=ae [(1,[[],[],[],[],[],[],[1,4,5],[1,3,4,5]]),(801,[[4,47],[5,47]])]) (h:=fun hcl hlt=>?_)
  clear hlt
  try simp only [List.append_eq,yal,yak]
  simp only [go_sem,byq,Bool.bne_false,Bool.bne_true,ck,cg,ba,bR,h0]
  simp (disch:=first|exact Zd|omega) [↓zmo,beq,ybc,ybd,ybe,ag,wk,wk2,wk1,wkM,wkL,ak,ybf,hcl]
  first|done|repeat first|exact .refl _|refine .push ?_ _
 cases h1:(r.fail==s.fail)
 ·simp only [h0,h1,Bool.false_and,Bool.and_false,Bool.true_and] at hR
  subst hR
  refine ACalls.fW ah (tCq gp (tCq gq (tCq cI tNq))) Tryz.func16 [.tmp 4] (nrq _) (T:=ae [(1,[[],[],[],[],[],[],[1,4,5],[1,3,4,5]]),(801,[[4,47],[5,47]])]) (h:=fun hcl hlt=>?_)
  clear hlt
  try simp only [List.append_eq,yal,yak]
  simp only [go_sem,byq,Bool.bne_false,Bool.bne_true,ck,cg,ba,bR,h0,h1]
  simp (disch:=first|exact Zd|omega) [↓zmo,beq,ybc,ybd,ybe,ag,wk,wk2,wk1,wkM,wkL,ak,ybf,hcl]
  first|done|repeat first|exact .refl _|refine .push ?_ _
 cases h2:(r.prim==s.prim)
 ·simp only [h0,h1,h2,Bool.false_and,Bool.and_false,Bool.true_and] at hR
  subst hR
  refine ACalls.fW ah (tCq gp (tCq gq (tCq cI tNq))) Tryz.func16 [.tmp 4] (nrq _) (T:=ae [(1,[[],[],[],[],[],[],[1,4,5],[1,3,4,5]]),(801,[[4,47],[5,47]])]) (h:=fun hcl hlt=>?_)
  clear hlt
  try simp only [List.append_eq,yal,yak]
  simp only [go_sem,byq,Bool.bne_false,Bool.bne_true,ck,cg,ba,bR,h0,h1,h2]
  simp (disch:=first|exact Zd|omega) [↓zmo,beq,ybc,ybd,ybe,ag,wk,wk2,wk1,wkM,wkL,ak,ybf,hcl]
  first|done|repeat first|exact .refl _|refine .push ?_ _
 cases h3:(eqL eqE r.ents s.ents)
 ·simp only [h0,h1,h2,h3,Bool.false_and,Bool.and_false,Bool.true_and] at hR
  subst hR
  refine ACalls.fW ah (tCq gp (tCq gq (tCq cI tNq))) Tryz.func16 [.tmp 4] (nrq _) (T:=ae [(1,[[],[],[],[],[],[],[1,4,5],[1,3,4,5]]),(801,[[4,47],[5,47]])]) (h:=fun hcl hlt=>?_)
  clear hlt
  try simp only [List.append_eq,yal,yak]
  simp only [go_sem,byq,Bool.bne_false,Bool.bne_true,ck,cg,ba,bR,h0,h1,h2,h3]
  refine ⟨r.ents,s.ents,⟨rfl,rfl,hr.el,hs.el,hr.eo,hs.eo⟩,?_⟩
  try simp only [go_sem,byq,Bool.bne_false,Bool.bne_true,ck,cg,ba,h0,h1,h2,h3]
  simp (disch:=first|exact Zd|omega) [↓zmo,beq,ybc,ybd,ybe,ag,wk,wk2,wk1,wkM,wkL,ak,ybf,hcl]
  first|done|repeat first|exact .refl _|refine .push ?_ _
 cases h4:(eqL ii r.recs s.recs)
 ·simp only [h0,h1,h2,h3,h4,Bool.false_and,Bool.and_false,Bool.true_and] at hR
  subst hR
  refine ACalls.fW ah (tCq gp (tCq gq (tCq cI tNq))) Tryz.func16 [.tmp 4] (nrq _) (T:=ae [(1,[[],[],[],[],[],[],[1,4,5],[1,3,4,5]]),(801,[[4,47],[5,47]])]) (h:=fun hcl hlt=>?_)
  clear hlt
  try simp only [List.append_eq,yal,yak]
  simp only [go_sem,byq,Bool.bne_false,Bool.bne_true,ck,cg,ba,bR,h0,h1,h2,h3,h4]
  refine ⟨r.ents,s.ents,⟨rfl,rfl,hr.el,hs.el,hr.eo,hs.eo⟩,?_⟩
  try simp only [go_sem,byq,Bool.bne_false,Bool.bne_true,ck,cg,ba,h0,h1,h2,h3,h4]
  refine ⟨r.recs,s.recs,by first|exact ⟨rfl,rfl,hr.rl,hs.rl,trivial⟩|exact ⟨rfl,rfl,hr.rl,hs.rl⟩,?_⟩
  try simp only [go_sem,byq,Bool.bne_false,Bool.bne_true,ck,cg,ba,h0,h1,h2,h3,h4]
  simp (disch:=first|exact Zd|omega) [↓zmo,beq,ybc,ybd,ybe,ag,wk,wk2,wk1,wkM,wkL,ak,ybf,hcl]
  first|done|repeat first|exact .refl _|refine .push ?_ _
 cases h5:(r.drop==s.drop)
 ·simp only [h0,h1,h2,h3,h4,h5,Bool.false_and,Bool.and_false,Bool.true_and] at hR
  subst hR
  refine ACalls.fW ah (tCq gp (tCq gq (tCq cI tNq))) Tryz.func16 [.tmp 4] (nrq _) (T:=ae [(1,[[],[],[],[],[],[],[1,4,5],[1,3,4,5]]),(801,[[4,47],[5,47]])]) (h:=fun hcl hlt=>?_)
  clear hlt
  try simp only [List.append_eq,yal,yak]
  simp only [go_sem,byq,Bool.bne_false,Bool.bne_true,ck,cg,ba,bR,h0,h1,h2,h3,h4,h5]
  refine ⟨r.ents,s.ents,⟨rfl,rfl,hr.el,hs.el,hr.eo,hs.eo⟩,?_⟩
  try simp only [go_sem,byq,Bool.bne_false,Bool.bne_true,ck,cg,ba,h0,h1,h2,h3,h4,h5]
  refine ⟨r.recs,s.recs,by first|exact ⟨rfl,rfl,hr.rl,hs.rl,trivial⟩|exact ⟨rfl,rfl,hr.rl,hs.rl⟩,?_⟩
  try simp only [go_sem,byq,Bool.bne_false,Bool.bne_true,ck,cg,ba,h0,h1,h2,h3,h4,h5]
  simp (disch:=first|exact Zd|omega) [↓zmo,beq,ybc,ybd,ybe,ag,wk,wk2,wk1,wkM,wkL,ak,ybf,hcl]
  first|done|repeat first|exact .refl _|refine .push ?_ _
 cases h6:(r.reas==s.reas)
 ·simp only [h0,h1,h2,h3,h4,h5,h6,Bool.false_and,Bool.and_false,Bool.true_and] at hR
  subst hR
  refine ACalls.fW ah (tCq gp (tCq gq (tCq cI tNq))) Tryz.func16 [.tmp 4] (nrq _) (T:=ae [(1,[[],[],[],[],[],[],[1,4,5],[1,3,4,5]]),(801,[[4,47],[5,47]])]) (h:=fun hcl hlt=>?_)
  clear hlt
  try simp only [List.append_eq,yal,yak]
  simp only [go_sem,byq,Bool.bne_false,Bool.bne_true,ck,cg,ba,bR,h0,h1,h2,h3,h4,h5,h6]
  refine ⟨r.ents,s.ents,⟨rfl,rfl,hr.el,hs.el,hr.eo,hs.eo⟩,?_⟩
  try simp only [go_sem,byq,Bool.bne_false,Bool.bne_true,ck,cg,ba,h0,h1,h2,h3,h4,h5,h6]
  refine ⟨r.recs,s.recs,by first|exact ⟨rfl,rfl,hr.rl,hs.rl,trivial⟩|exact ⟨rfl,rfl,hr.rl,hs.rl⟩,?_⟩
  try simp only [go_sem,byq,Bool.bne_false,Bool.bne_true,ck,cg,ba,h0,h1,h2,h3,h4,h5,h6]
  simp (disch:=first|exact Zd|omega) [↓zmo,beq,ybc,ybd,ybe,ag,wk,wk2,wk1,wkM,wkL,ak,ybf,hcl]
  first|done|repeat first|exact .refl _|refine .push ?_ _
 cases h7:(r.port==s.port)
 ·simp only [h0,h1,h2,h3,h4,h5,h6,h7,Bool.false_and,Bool.and_false,Bool.true_and] at hR
  subst hR
  refine ACalls.fW ah (tCq gp (tCq gq (tCq cI tNq))) Tryz.func16 [.tmp 4] (nrq _) (T:=ae [(1,[[],[],[],[],[],[],[1,4,5],[1,3,4,5]]),(801,[[4,47],[5,47]])]) (h:=fun hcl hlt=>?_)
  clear hlt
  try simp only [List.append_eq,yal,yak]
  simp only [go_sem,byq,Bool.bne_false,Bool.bne_true,ck,cg,ba,bR,h0,h1,h2,h3,h4,h5,h6,h7]
  refine ⟨r.ents,s.ents,⟨rfl,rfl,hr.el,hs.el,hr.eo,hs.eo⟩,?_⟩
  try simp only [go_sem,byq,Bool.bne_false,Bool.bne_true,ck,cg,ba,h0,h1,h2,h3,h4,h5,h6,h7]
  refine ⟨r.recs,s.recs,by first|exact ⟨rfl,rfl,hr.rl,hs.rl,trivial⟩|exact ⟨rfl,rfl,hr.rl,hs.rl⟩,?_⟩
  try simp only [go_sem,byq,Bool.bne_false,Bool.bne_true,ck,cg,ba,h0,h1,h2,h3,h4,h5,h6,h7]
  simp (disch:=first|exact Zd|omega) [↓zmo,beq,ybc,ybd,ybe,ag,wk,wk2,wk1,wkM,wkL,ak,ybf,hcl]
  first|done|repeat first|exact .refl _|refine .push ?_ _
 cases h8:(r.data==s.data)
 ·simp only [h0,h1,h2,h3,h4,h5,h6,h7,h8,Bool.false_and,Bool.and_false,Bool.true_and] at hR
  subst hR
  refine ACalls.fW ah (tCq gp (tCq gq (tCq cI tNq))) Tryz.func16 [.tmp 4] (nrq _) (T:=ae [(1,[[],[],[],[],[],[],[1,4,5],[1,3,4,5]]),(801,[[4,47],[5,47]])]) (h:=fun hcl hlt=>?_)
  clear hlt
  try simp only [List.append_eq,yal,yak]
  simp only [go_sem,byq,Bool.bne_false,Bool.bne_true,ck,cg,ba,bR,h0,h1,h2,h3,h4,h5,h6,h7,h8]
  refine ⟨r.ents,s.ents,⟨rfl,rfl,hr.el,hs.el,hr.eo,hs.eo⟩,?_⟩
  try simp only [go_sem,byq,Bool.bne_false,Bool.bne_true,ck,cg,ba,h0,h1,h2,h3,h4,h5,h6,h7,h8]
  refine ⟨r.recs,s.recs,by first|exact ⟨rfl,rfl,hr.rl,hs.rl,trivial⟩|exact ⟨rfl,rfl,hr.rl,hs.rl⟩,?_⟩
  try simp only [go_sem,byq,Bool.bne_false,Bool.bne_true,ck,cg,ba,h0,h1,h2,h3,h4,h5,h6,h7,h8]
  refine ⟨r.data,s.data,⟨rfl,rfl⟩,?_⟩
  try simp only [go_sem,byq,Bool.bne_false,Bool.bne_true,ck,cg,ba,h0,h1,h2,h3,h4,h5,h6,h7,h8]
  simp (disch:=first|exact Zd|omega) [↓zmo,beq,ybc,ybd,ybe,ag,wk,wk2,wk1,wkM,wkL,ak,ybf,hcl]
  first|done|repeat first|exact .refl _|refine .push ?_ _
 simp only [h0,h1,h2,h3,h4,h5,h6,h7,h8,Bool.true_and] at hR
 subst hR
 refine ACalls.fW ah (tCq gp (tCq gq (tCq cI tNq))) Tryz.func16 [.tmp 4] (nrq _) (T:=ae [(1,[[],[],[],[],[],[],[1,4,5],[1,3,4,5]]),(801,[[4,47],[5,47]])]) (h:=fun hcl hlt=>?_)
 clear hlt
 try simp only [List.append_eq,yal,yak]
 simp only [go_sem,byq,Bool.bne_false,Bool.bne_true,ck,cg,ba,bR,h0,h1,h2,h3,h4,h5,h6,h7,h8]
 refine ⟨r.ents,s.ents,⟨rfl,rfl,hr.el,hs.el,hr.eo,hs.eo⟩,?_⟩
 try simp only [go_sem,byq,Bool.bne_false,Bool.bne_true,ck,cg,ba,h0,h1,h2,h3,h4,h5,h6,h7,h8]
 refine ⟨r.recs,s.recs,by first|exact ⟨rfl,rfl,hr.rl,hs.rl,trivial⟩|exact ⟨rfl,rfl,hr.rl,hs.rl⟩,?_⟩
 try simp only [go_sem,byq,Bool.bne_false,Bool.bne_true,ck,cg,ba,h0,h1,h2,h3,h4,h5,h6,h7,h8]
 refine ⟨r.data,s.data,⟨rfl,rfl⟩,?_⟩
 try simp only [go_sem,byq,Bool.bne_false,Bool.bne_true,ck,cg,ba,h0,h1,h2,h3,h4,h5,h6,h7,h8]
 simp (disch:=first|exact Zd|omega) [↓zmo,beq,ybc,ybd,ybe,ag,wk,wk2,wk1,wkM,wkL,ak,ybf,hcl]
 first|done|repeat first|exact .refl _|refine .push ?_ _
def t4:List AV→AHeap→(AV→Prop)→Prop
 |[.agg l,.agg k],_,K=>∃ r s:SResp,(l=bR r∧k=bR s∧PC r∧PC s)∧K (.bool (eqP r s))
 |_,_,_=>False
theorem Cl:EntOk Tryz.prog 14 (Ent.pure t4):=by
 refine Ype fun _ H K h=>?_
 unfold t4 at h
 split at h
 rotate_left
 ·exact h.elim
 rename_i l k
 obtain ⟨r,s,⟨rfl,rfl,hr,hs⟩,hK⟩:=h
 refine ⟨_,hK,?_⟩
 clear hK
 obtain ⟨R,hR⟩:∃ R,eqP r s=R:=⟨_,rfl⟩
 rw [hR]
 unfold eqP at hR
 cases h0:(r.code==s.code)
 ·simp only [h0,Bool.false_and,Bool.and_false,Bool.true_and] at hR
  subst hR
  refine ACalls.fW ah (tCq eT (tCq dY (tCq eU tNq))) Tryz.func14 [.tmp 4] (nrq _) (T:=ae []) (h:=fun hcl hlt=>?_)
  clear hlt
  try simp only [List.append_eq,yal,yak]
  simp only [go_sem,byq,Bool.bne_false,Bool.bne_true,bp,aT,bq,Bool.true_and,Bool.false_and,Bool.and_false,Bool.and_true,bR,h0]
  simp (disch:=first|exact Zd|omega) [↓zmo,beq,ybc,ybd,ybe,ag,wk,wk2,wk1,wkM,wkL,ak,ybf,hcl]
  first|done|repeat first|exact .refl _|refine .push ?_ _
 cases h1:(r.fail==s.fail)
 ·simp only [h0,h1,Bool.false_and,Bool.and_false,Bool.true_and] at hR
  subst hR
  refine ACalls.fW ah (tCq eT (tCq dY (tCq eU tNq))) Tryz.func14 [.tmp 4] (nrq _) (T:=ae []) (h:=fun hcl hlt=>?_)
  clear hlt
  try simp only [List.append_eq,yal,yak]
  simp only [go_sem,byq,Bool.bne_false,Bool.bne_true,bp,aT,bq,Bool.true_and,Bool.false_and,Bool.and_false,Bool.and_true,bR,h0,h1]
  simp (disch:=first|exact Zd|omega) [↓zmo,beq,ybc,ybd,ybe,ag,wk,wk2,wk1,wkM,wkL,ak,ybf,hcl]
  first|done|repeat first|exact .refl _|refine .push ?_ _
 cases h2:(r.prim==s.prim)
 ·simp only [h0,h1,h2,Bool.false_and,Bool.and_false,Bool.true_and] at hR
  subst hR
  refine ACalls.fW ah (tCq eT (tCq dY (tCq eU tNq))) Tryz.func14 [.tmp 4] (nrq _) (T:=ae []) (h:=fun hcl hlt=>?_)
  clear hlt
  try simp only [List.append_eq,yal,yak]
  simp only [go_sem,byq,Bool.bne_false,Bool.bne_true,bp,aT,bq,Bool.true_and,Bool.false_and,Bool.and_false,Bool.and_true,bR,h0,h1,h2]
  simp (disch:=first|exact Zd|omega) [↓zmo,beq,ybc,ybd,ybe,ag,wk,wk2,wk1,wkM,wkL,ak,ybf,hcl]
  first|done|repeat first|exact .refl _|refine .push ?_ _
 cases h3:(eqL eqE r.ents s.ents)
 ·simp only [h0,h1,h2,h3,Bool.false_and,Bool.and_false,Bool.true_and] at hR
  subst hR
  refine ACalls.fW ah (tCq eT (tCq dY (tCq eU tNq))) Tryz.func14 [.tmp 4] (nrq _) (T:=ae []) (h:=fun hcl hlt=>?_)
  clear hlt
  try simp only [List.append_eq,yal,yak]
  simp only [go_sem,byq,Bool.bne_false,Bool.bne_true,bp,aT,bq,Bool.true_and,Bool.false_and,Bool.and_false,Bool.and_true,bR,h0,h1,h2,h3]
  refine ⟨r.ents,s.ents,⟨rfl,rfl,hr.el,hs.el,hr.eo,hs.eo⟩,?_⟩
  try simp only [go_sem,byq,Bool.bne_false,Bool.bne_true,bp,aT,bq,Bool.true_and,Bool.false_and,Bool.and_false,Bool.and_true,h0,h1,h2,h3]
  simp (disch:=first|exact Zd|omega) [↓zmo,beq,ybc,ybd,ybe,ag,wk,wk2,wk1,wkM,wkL,ak,ybf,hcl]
  first|done|repeat first|exact .refl _|refine .push ?_ _
 cases h4:(eqL ii r.recs s.recs)
 ·simp only [h0,h1,h2,h3,h4,Bool.false_and,Bool.and_false,Bool.true_and] at hR
  subst hR
  refine ACalls.fW ah (tCq eT (tCq dY (tCq eU tNq))) Tryz.func14 [.tmp 4] (nrq _) (T:=ae []) (h:=fun hcl hlt=>?_)
  clear hlt
  try simp only [List.append_eq,yal,yak]
  simp only [go_sem,byq,Bool.bne_false,Bool.bne_true,bp,aT,bq,Bool.true_and,Bool.false_and,Bool.and_false,Bool.and_true,bR,h0,h1,h2,h3,h4]
  refine ⟨r.ents,s.ents,⟨rfl,rfl,hr.el,hs.el,hr.eo,hs.eo⟩,?_⟩
  try simp only [go_sem,byq,Bool.bne_false,Bool.bne_true,bp,aT,bq,Bool.true_and,Bool.false_and,Bool.and_false,Bool.and_true,h0,h1,h2,h3,h4]
  refine ⟨r.recs,s.recs,by first|exact ⟨rfl,rfl,hr.rl,hs.rl,trivial⟩|exact ⟨rfl,rfl,hr.rl,hs.rl⟩,?_⟩
  try simp only [go_sem,byq,Bool.bne_false,Bool.bne_true,bp,aT,bq,Bool.true_and,Bool.false_and,Bool.and_false,Bool.and_true,h0,h1,h2,h3,h4]
  simp (disch:=first|exact Zd|omega) [↓zmo,beq,ybc,ybd,ybe,ag,wk,wk2,wk1,wkM,wkL,ak,ybf,hcl]
  first|done|repeat first|exact .refl _|refine .push ?_ _
 cases h5:(r.drop==s.drop)
 ·simp only [h0,h1,h2,h3,h4,h5,Bool.false_and,Bool.and_false,Bool.true_and] at hR
  subst hR
  refine ACalls.fW ah (tCq eT (tCq dY (tCq eU tNq))) Tryz.func14 [.tmp 4] (nrq _) (T:=ae []) (h:=fun hcl hlt=>?_)
  clear hlt
  try simp only [List.append_eq,yal,yak]
  simp only [go_sem,byq,Bool.bne_false,Bool.bne_true,bp,aT,bq,Bool.true_and,Bool.false_and,Bool.and_false,Bool.and_true,bR,h0,h1,h2,h3,h4,h5]
  refine ⟨r.ents,s.ents,⟨rfl,rfl,hr.el,hs.el,hr.eo,hs.eo⟩,?_⟩
  try simp only [go_sem,byq,Bool.bne_false,Bool.bne_true,bp,aT,bq,Bool.true_and,Bool.false_and,Bool.and_false,Bool.and_true,h0,h1,h2,h3,h4,h5]
  refine ⟨r.recs,s.recs,by first|exact ⟨rfl,rfl,hr.rl,hs.rl,trivial⟩|exact ⟨rfl,rfl,hr.rl,hs.rl⟩,?_⟩
  try simp only [go_sem,byq,Bool.bne_false,Bool.bne_true,bp,aT,bq,Bool.true_and,Bool.false_and,Bool.and_false,Bool.and_true,h0,h1,h2,h3,h4,h5]
  refine ⟨r.data,s.data,⟨rfl,rfl⟩,?_⟩
  try simp only [go_sem,byq,Bool.bne_false,Bool.bne_true,bp,aT,bq,Bool.true_and,Bool.false_and,Bool.and_false,Bool.and_true,h0,h1,h2,h3,h4,h5]
  simp (disch:=first|exact Zd|omega) [↓zmo,beq,ybc,ybd,ybe,ag,wk,wk2,wk1,wkM,wkL,ak,ybf,hcl]
  first|done|repeat first|exact .refl _|refine .push ?_ _
 cases h6:(r.reas==s.reas)
 ·simp only [h0,h1,h2,h3,h4,h5,h6,Bool.false_and,Bool.and_false,Bool.true_and] at hR
  subst hR
  refine ACalls.fW ah (tCq eT (tCq dY (tCq eU tNq))) Tryz.func14 [.tmp 4] (nrq _) (T:=ae []) (h:=fun hcl hlt=>?_)
  clear hlt
  try simp only [List.append_eq,yal,yak]
  simp only [go_sem,byq,Bool.bne_false,Bool.bne_true,bp,aT,bq,Bool.true_and,Bool.false_and,Bool.and_false,Bool.and_true,bR,h0,h1,h2,h3,h4,h5,h6]
  refine ⟨r.ents,s.ents,⟨rfl,rfl,hr.el,hs.el,hr.eo,hs.eo⟩,?_⟩
  try simp only [go_sem,byq,Bool.bne_false,Bool.bne_true,bp,aT,bq,Bool.true_and,Bool.false_and,Bool.and_false,Bool.and_true,h0,h1,h2,h3,h4,h5,h6]
  refine ⟨r.recs,s.recs,by first|exact ⟨rfl,rfl,hr.rl,hs.rl,trivial⟩|exact ⟨rfl,rfl,hr.rl,hs.rl⟩,?_⟩
  try simp only [go_sem,byq,Bool.bne_false,Bool.bne_true,bp,aT,bq,Bool.true_and,Bool.false_and,Bool.and_false,Bool.and_true,h0,h1,h2,h3,h4,h5,h6]
  refine ⟨r.data,s.data,⟨rfl,rfl⟩,?_⟩
  try simp only [go_sem,byq,Bool.bne_false,Bool.bne_true,bp,aT,bq,Bool.true_and,Bool.false_and,Bool.and_false,Bool.and_true,h0,h1,h2,h3,h4,h5,h6]
  simp (disch:=first|exact Zd|omega) [↓zmo,beq,ybc,ybd,ybe,ag,wk,wk2,wk1,wkM,wkL,ak,ybf,hcl]
  first|done|repeat first|exact .refl _|refine .push ?_ _
 cases h7:(r.port==s.port)
 ·simp only [h0,h1,h2,h3,h4,h5,h6,h7,Bool.false_and,Bool.and_false,Bool.true_and] at hR
  subst hR
  refine ACalls.fW ah (tCq eT (tCq dY (tCq eU tNq))) Tryz.func14 [.tmp 4] (nrq _) (T:=ae []) (h:=fun hcl hlt=>?_)
  clear hlt
  try simp only [List.append_eq,yal,yak]
  simp only [go_sem,byq,Bool.bne_false,Bool.bne_true,bp,aT,bq,Bool.true_and,Bool.false_and,Bool.and_false,Bool.and_true,bR,h0,h1,h2,h3,h4,h5,h6,h7]
  refine ⟨r.ents,s.ents,⟨rfl,rfl,hr.el,hs.el,hr.eo,hs.eo⟩,?_⟩
  try simp only [go_sem,byq,Bool.bne_false,Bool.bne_true,bp,aT,bq,Bool.true_and,Bool.false_and,Bool.and_false,Bool.and_true,h0,h1,h2,h3,h4,h5,h6,h7]
  refine ⟨r.recs,s.recs,by first|exact ⟨rfl,rfl,hr.rl,hs.rl,trivial⟩|exact ⟨rfl,rfl,hr.rl,hs.rl⟩,?_⟩
  try simp only [go_sem,byq,Bool.bne_false,Bool.bne_true,bp,aT,bq,Bool.true_and,Bool.false_and,Bool.and_false,Bool.and_true,h0,h1,h2,h3,h4,h5,h6,h7]
  refine ⟨r.data,s.data,⟨rfl,rfl⟩,?_⟩
  try simp only [go_sem,byq,Bool.bne_false,Bool.bne_true,bp,aT,bq,Bool.true_and,Bool.false_and,Bool.and_false,Bool.and_true,h0,h1,h2,h3,h4,h5,h6,h7]
  simp (disch:=first|exact Zd|omega) [↓zmo,beq,ybc,ybd,ybe,ag,wk,wk2,wk1,wkM,wkL,ak,ybf,hcl]
  first|done|repeat first|exact .refl _|refine .push ?_ _
 cases h8:(r.data==s.data)
 ·simp only [h0,h1,h2,h3,h4,h5,h6,h7,h8,Bool.false_and,Bool.and_false,Bool.true_and] at hR
  subst hR
  refine ACalls.fW ah (tCq eT (tCq dY (tCq eU tNq))) Tryz.func14 [.tmp 4] (nrq _) (T:=ae []) (h:=fun hcl hlt=>?_)
  clear hlt
  try simp only [List.append_eq,yal,yak]
  simp only [go_sem,byq,Bool.bne_false,Bool.bne_true,bp,aT,bq,Bool.true_and,Bool.false_and,Bool.and_false,Bool.and_true,bR,h0,h1,h2,h3,h4,h5,h6,h7,h8]
  refine ⟨r.ents,s.ents,⟨rfl,rfl,hr.el,hs.el,hr.eo,hs.eo⟩,?_⟩
  try simp only [go_sem,byq,Bool.bne_false,Bool.bne_true,bp,aT,bq,Bool.true_and,Bool.false_and,Bool.and_false,Bool.and_true,h0,h1,h2,h3,h4,h5,h6,h7,h8]
  refine ⟨r.recs,s.recs,by first|exact ⟨rfl,rfl,hr.rl,hs.rl,trivial⟩|exact ⟨rfl,rfl,hr.rl,hs.rl⟩,?_⟩
  try simp only [go_sem,byq,Bool.bne_false,Bool.bne_true,bp,aT,bq,Bool.true_and,Bool.false_and,Bool.and_false,Bool.and_true,h0,h1,h2,h3,h4,h5,h6,h7,h8]
  refine ⟨r.data,s.data,⟨rfl,rfl⟩,?_⟩
  try simp only [go_sem,byq,Bool.bne_false,Bool.bne_true,bp,aT,bq,Bool.true_and,Bool.false_and,Bool.and_false,Bool.and_true,h0,h1,h2,h3,h4,h5,h6,h7,h8]
  simp (disch:=first|exact Zd|omega) [↓zmo,beq,ybc,ybd,ybe,ag,wk,wk2,wk1,wkM,wkL,ak,ybf,hcl]
  first|done|repeat first|exact .refl _|refine .push ?_ _
 simp only [h0,h1,h2,h3,h4,h5,h6,h7,h8,Bool.true_and] at hR
 subst hR
 refine ACalls.fW ah (tCq eT (tCq dY (tCq eU tNq))) Tryz.func14 [.tmp 4] (nrq _) (T:=ae []) (h:=fun hcl hlt=>?_)
 clear hlt
 try simp only [List.append_eq,yal,yak]
 simp only [go_sem,byq,Bool.bne_false,Bool.bne_true,bp,aT,bq,Bool.true_and,Bool.false_and,Bool.and_false,Bool.and_true,bR,h0,h1,h2,h3,h4,h5,h6,h7,h8]
 refine ⟨r.ents,s.ents,⟨rfl,rfl,hr.el,hs.el,hr.eo,hs.eo⟩,?_⟩
 try simp only [go_sem,byq,Bool.bne_false,Bool.bne_true,bp,aT,bq,Bool.true_and,Bool.false_and,Bool.and_false,Bool.and_true,h0,h1,h2,h3,h4,h5,h6,h7,h8]
 refine ⟨r.recs,s.recs,by first|exact ⟨rfl,rfl,hr.rl,hs.rl,trivial⟩|exact ⟨rfl,rfl,hr.rl,hs.rl⟩,?_⟩
 try simp only [go_sem,byq,Bool.bne_false,Bool.bne_true,bp,aT,bq,Bool.true_and,Bool.false_and,Bool.and_false,Bool.and_true,h0,h1,h2,h3,h4,h5,h6,h7,h8]
 refine ⟨r.data,s.data,⟨rfl,rfl⟩,?_⟩
 try simp only [go_sem,byq,Bool.bne_false,Bool.bne_true,bp,aT,bq,Bool.true_and,Bool.false_and,Bool.and_false,Bool.and_true,h0,h1,h2,h3,h4,h5,h6,h7,h8]
 simp (disch:=first|exact Zd|omega) [↓zmo,beq,ybc,ybd,ybe,ag,wk,wk2,wk1,wkM,wkL,ak,ybf,hcl]
 first|done|repeat first|exact .refl _|refine .push ?_ _
def rf (b:List UInt8) (v:Nat) (n:Int):Int:=(ior .i64 (ior .i64 (mX .i64 ((cv b (cp v 0) 256:Nat):Int) 16) (mX .i64 ((cv b (cp v 1) 256:Nat):Int) 8)) ((cv b (cp v 2) 256:Nat):Int)).tmod n
theorem kz {b:List UInt8} {v:Nat} {n:Int}:rf b (min v b.length) n=rf b v n:=by
 unfold rf cp
 rw [cD,cD,cD]
def mc:List AV→AHeap→(AEnd→AHeap→Prop)→Prop
 |[.ptr id 0,.int .i64 n],H,K=>onC (H.get id) fun b v=>(1≤n∧n≤1000000000)∧K (.ret (.int .i64 (rf b v n))) (H.set id (cr b (v+3)))
 |_,_,_=>False
theorem FO:EntOk Tryz.prog 33 (Ent.effect mc):=by
 refine EntOk.effect fun args H K h=>?_
 unfold mc at h
 split at h
 rotate_left
 ·exact h.elim
 rename_i id n
 obtain ⟨b,v,hg,hb,hv,⟨hn1,hn2⟩,hK⟩:=fp h
 refine ⟨_,_,hK,?_⟩
 clear hK
 refine ACalls.fW ah (tCq ff tNq) Tryz.func33 [.tmp 4] (by simp only [zlf];omega) (T:=ae []) (h:=fun hcl hlt=>?_)
 clear hlt
 have hid:=glq hg
 have hne:=iJ hid
 have hgc:=fo (b:=b) hid
 have hcl2:∀ w,(H.set id (cr b w)).Closed:=fun w=>aP hcl fk
 have e256:(256:Int).toNat=256:=rfl
 have d1:decide (n<1)=false:=dfq (by omega)
 simp only [go_sem,byq,ay,hg,hgc,hne,av hb,aG,ap,aI,e256,d1]
 refine ⟨⟨by decide,by decide⟩,by decide,⟨by decide,by decide⟩,by decide,⟨by decide,by decide⟩,by omega,rfl,lRq _,hcl2 _,by rw [znf];trivial⟩
def jK:List AV→AHeap→(AEnd→AHeap→Prop)→Prop
 |[.ptr id 0,.agg l,.int .i64 n],H,K=>∃ S:Sch,(l=cQ S∧GenS S∧0≤n∧n≤1000)∧onC (H.get id) fun b v=>K (.ret (.slice (.own (H.nx+1+1)) 5 ((cO S b n.toNat v).1.map bc))) ((((H.set id (cr b (cO S b n.toNat v).2)).push (.cells (cQ S))).push (.buf 5 0)).push (.buf 5 (cO S b n.toNat v).1.length))
 |_,_,_=>False
theorem wU:EntOk Tryz.prog 32 (Ent.effect jK):=by
 refine EntOk.effect fun args H K h=>?_
 unfold jK at h
 split at h
 rotate_left
 ·exact h.elim
 rename_i id l n
 obtain ⟨S,⟨rfl,hG,hn0,hn1⟩,h⟩:=h
 obtain ⟨b,v,hg,hb,hv,hK⟩:=fp h
 obtain ⟨o1,o2⟩:=kL hG (b:=b) n.toNat v
 obtain ⟨R,hRd⟩:∃ R,cO S b n.toNat v=R:=⟨_,rfl⟩
 rw [hRd] at o1 o2 hK
 refine ⟨_,_,hK,?_⟩
 clear hK h
 have nxE:H.nx≤((((H.set id (cr b R.2)).push (.cells (cQ S))).push (.buf 5 0)).push (.buf 5 R.1.length)).nx:=by simp only [zle,zlf];omega
 refine ACalls.fW ah (tCq y8 (tCq ff (tCq vV tNq))) Tryz.func32 [.tmp 6] nxE (T:=ae [(3,[[],[],[],[],[],[2,4],[2,4,5],[2,4,5]])]) (h:=fun hcl hlt=>?_)
 clear hlt
 have hid:=glq hg
 have hne:=iJ hid
 have hne2:=iJ (show id<H.nx+1+1+1 by omega)
 have hgc:=fo (b:=b) hid
 have hcl2:∀ w,(H.set id (cr b w)).Closed:=fun w=>aP hcl fk
 simp only [bk,bh,bhq,Nat.reduceMod,Nat.reduceDiv,aA,az,aB,aZ,aC,aY,aS,aU,aV,yaq,yar,yao,yap,go_sem]
 obtain ⟨HL,hHL⟩:∃ HL:Nat→Nat→AHeap,HL=fun w k=>(((H.set id (cr b w)).push (.cells (cQ S))).push (.buf 5 0)).push (.buf 5 k):=⟨_,rfl⟩
 have hclL:∀ w k,(HL w k).Closed:=fun w k=>by
  rw [hHL]
  exact bj (bj (aD (hcl2 w) (ltL_iff.2 fun j hj=>AV.lt_cells (rh S) j hj)))
 refine aK (A:=List SEntry × Nat) (fun x=>[(0,.ptr id 0),(2,.int .i64 n),(4,.ptr H.nx 0),(7,.slice (.own (H.nx+1+1)) 5 (x.1.map bc))]) (fun x=>HL x.2 x.1.length) (fun x=>x.1.length≤n.toNat∧x.1++(cO S b (n.toNat - x.1.length) x.2).1=R.1∧(cO S b (n.toNat - x.1.length) x.2).2=R.2) (fun x=>n.toNat - x.1.length) ([],v) ⟨by simp,by rw [← hRd];rfl,by rw [← hRd];rfl⟩ ?_ fun x hx=>?_
 ·rw [hHL]
  refine ⟨by simp only [zle,zlf,zkq,zkv];omega,by dsimp only;rw [show cr b v=cr b (cp v 0) from rfl,uS hg];exact lRq _,by have:=hclL v 0;rw [hHL] at this;exact this,?_,?_⟩
  ·simp [ltF,zle,zlf,znn,znf,lt_sliceL,znv]
   omega
  ·simp [cf,wk2,wk1,wkM,Fr.get]
 obtain ⟨es,w⟩:=x
 obtain ⟨hx1,hx2,hx3⟩:=hx
 dsimp only at hx1 hx2 hx3 ⊢
 rw [hHL]
 dsimp only
 by_cases hlt:es.length<n.toNat
 ·have d1:decide ((es.length:Int)<n)=true:=dtq (by omega)
  simp only [bk,bh,bhq,Nat.reduceMod,Nat.reduceDiv,aA,az,aB,aZ,aC,aY,aS,aU,aV,yaq,yar,yao,yap,go_sem,cQ,hg,hgc,hne,hne2,ay,lL,qk,ybb,iNq,d1]
  refine ⟨b,((min w b.length:Nat):Int),rfl,?_⟩
  by_cases hw:w<b.length
  ·have d2:decide (((min w b.length:Nat):Int)<(b.length:Int))=true:=dtq (by omega)
   have hk:n.toNat - es.length=(n.toNat - (es.length+1))+1:=by omega
   rw [hk] at hx2 hx3
   simp only [cO,if_pos hw] at hx2 hx3
   have hst:∀ m v,(oq S m b v)=(bc (er S b v m).1,(er S b v m).2):=fun _ _=>rfl
   have e4:(4:Int).toNat=4:=rfl
   have hcv:=cn (b:=b) (v:=w) (n:=4) (by decide)
   have e4':(1≤(4:Int)∧(4:Int)≤1000000)=True:=by simp
   simp only [bk,bh,bhq,Nat.reduceMod,Nat.reduceDiv,aA,az,aB,aZ,aC,aY,aS,aU,aV,yaq,yar,yao,yap,go_sem,cQ,hg,hgc,hne,hne2,ay,av hb,cz hb (ud _ _),aG,ap,aI,cp0,ybb,iNq,d2,e4,e4',lL]
   refine ⟨S,⟨rfl,hG,by omega,by omega⟩,?_⟩
   simp only [bk,bh,bhq,Nat.reduceMod,Nat.reduceDiv,aA,az,aB,aZ,aC,aY,aS,aU,aV,yaq,yar,yao,yap,go_sem,cQ,hg,hgc,hne,hne2,hst,bc,aN,cp0,ybb,iNq]
   have hsub:n.toNat - (es.length+1)=n.toNat - (es++[(er S b (w+1) ((cv b w 4:Nat):Int)).1]).length:=by simp
   rw [hsub] at hx2 hx3
   have hcl1:=hclL (er S b (w+1) ((cv b w 4:Nat):Int)).2 (es.length+1)
   rw [hHL] at hcl1
   have hlm:∀ j,AV.lt j (.slice (.own (H.nx+1+1)) 5 (es.map bc++[bc (er S b (w+1) ((cv b w 4:Nat):Int)).1]))=(H.nx+1+1<j):=fun j=>by
    rw [lt_sliceL]
    refine propext ⟨fun h=>h.1 _ rfl,fun h=>⟨fun i e=>(by cases e;exact h),ltL_iff.2 fun i hi=>?_⟩⟩
    have:=gMq hi
    rw [List.mem_append,List.mem_map,List.mem_singleton] at this
    rcases this with ⟨x,_,e⟩|e
    ·rw [← e];exact dJ x
    ·rw [e];exact dJ _
   refine ⟨⟨by omega,by omega,fun z hz=>by rw [List.mem_singleton.1 hz];rfl⟩,(es++[(er S b (w+1) ((cv b w 4:Nat):Int)).1],(er S b (w+1) ((cv b w 4:Nat):Int)).2),⟨by simp;omega,by rw [List.append_assoc];exact hx2,hx3⟩,by simp;omega,?_⟩
   dsimp only
   rw [List.map_append,yae,yaf,lAq,yaz,yba,nzq]
   refine ⟨by simp only [zle,zlf,zkv,zkq,nK];omega,by repeat first|exact .refl _|refine .push ?_ _,hcl1,?_,?_⟩
   ·simp only [ltF,zle,zlf,znn,znf,hlm]
    refine ⟨by omega,trivial,by omega,by omega,trivial⟩
   ·simp [cf,wk2,wk1,wkM,Fr.get,bc,aN]
  ·have d2:decide (((min w b.length:Nat):Int)<(b.length:Int))=false:=dfq (by omega)
   have hx2':es=R.1:=by
    rw [← hx2]
    cases h:n.toNat - es.length with
    |zero=>simp [cO]
    |succ k=>simp [cO,hw]
   have hx3':w=R.2:=by
    rw [← hx3]
    cases h:n.toNat - es.length with
    |zero=>simp [cO]
    |succ k=>simp [cO,hw]
   rw [← hx2',← hx3']
   simp only [bk,bh,bhq,Nat.reduceMod,Nat.reduceDiv,aA,az,aB,aZ,aC,aY,aS,aU,aV,yaq,yar,yao,yap,go_sem,cQ,hg,hgc,hne,hne2,ay,av hb,cz hb (ud _ _),aG,ap,aI,cp0,ybb,iNq,d2]
   have hce:=hclL w es.length
   rw [hHL] at hce
   simp only [cQ] at hce
   simp (disch:=first|exact Zd|omega) [↓zmo,beq,ybc,ybd,ybe,ag,wk,wk2,wk1,wkM,wkL,ak,ybf,hcl2,hce]
   exact Bi
 ·have d1:decide ((es.length:Int)<n)=false:=dfq (by omega)
  have h0:n.toNat - es.length=0:=by omega
  rw [h0] at hx2 hx3
  simp only [cO,yaj] at hx2 hx3
  simp only [bk,bh,bhq,Nat.reduceMod,Nat.reduceDiv,aA,az,aB,aZ,aC,aY,aS,aU,aV,yaq,yar,yao,yap,go_sem,cQ,hg,hgc,hne,hne2,ay,lL,qk,ybb,iNq,d1]
  rw [← hx2,← hx3]
  have hce:=hclL w es.length
  rw [hHL] at hce
  simp only [cQ] at hce
  simp (disch:=first|exact Zd|omega) [↓zmo,beq,ybc,ybd,ybe,ag,wk,wk2,wk1,wkM,wkL,ak,ybf,hcl2,hce]
  exact Bi
def sE (b:List UInt8) (v:Nat):SRec × Nat:=(⟨rf b v 1048576,cv b (cp v 3) 6,cv b (cp v 4) 8,cv b (cp v 5) 7,cv b (cp v 6) 27,cv b (cp v 7) 5,cv b (cp v 8) 5⟩,cp v 9)
def kp (b:List UInt8):Nat→Nat→List SRec × Nat
 |0,v=>([],v)
 |n+1,v=>((sE b v).1::(kp b n (sE b v).2).1,(kp b n (sE b v).2).2)
def pH (S:Sch) (b:List UInt8) (v:Nat):SResp × Nat :=
 let co:Int:=cv b (cp v 0) 27
 let fa:Int:=cv b (cp v 1) 20
 let pr:Bool:=decide (cv b (cp v 2) 2=1)
 if cv b (cp v 3) 3=0 then (⟨co,fa,pr,(cO S b 4 (min (cp v 4) b.length)).1,[],false,0,0,[]⟩,(cO S b 4 (min (cp v 4) b.length)).2)
 else if cv b (cp v 3) 3=1 then (⟨co,fa,pr,[],(kp b (cv b (cp v 4) 5) (cp v 5)).1,false,0,0,[]⟩,(kp b (cv b (cp v 4) 5) (cp v 5)).2)
 else (⟨co,fa,pr,[],[],decide (cv b (cp v 4) 2=1),cv b (cp v 5) 6,rf b (cp v 6) 65536,gB b (cv b (cp v 9) 60) (cp v 10)⟩,cp v 11)
def k9:List AV→AHeap→(AEnd→AHeap→Prop)→Prop
 |[.ptr id 0,.agg l],H,K=>∃ S:Sch,(l=cQ S∧GenS S)∧onC (H.get id) fun b v=>K (.ret (eA (pH S b v).1)) (H.set id (cr b (pH S b v).2))
 |_,_,_=>False
theorem xh:EntOk Tryz.prog 8 (Ent.effect k9):=by
 refine EntOk.effect fun args H K h=>?_
 unfold k9 at h
 split at h
 rotate_left
 ·exact h.elim
 rename_i id l
 obtain ⟨S,⟨rfl,hS⟩,h⟩:=h
 obtain ⟨b,v,hg,hb,hv,hK⟩:=fp h
 refine ⟨_,_,hK,?_⟩
 clear hK h
 obtain ⟨R,hR⟩:∃ R,pH S b v=R:=⟨_,rfl⟩
 rw [hR]
 unfold pH at hR
 dsimp only at hR
 refine ACalls.fW ah (tCq ff (tCq jf (tCq wU (tCq FO (tCq vt tNq))))) Tryz.func8 [.cell 4 49] (by simp only [zlf];omega) (T:=ae [(10,[[],[],[],[],[],[3],[],[3,5],[],[3,5,7],[],[3,5,7,9],[],[3,5,7,9,11],[],[3,5,7,9,11,13],[],[3,5,7,9,11,13,15],[1,3,5,7,9,11,13,15],[],[1,3,5,7,9,11,13,15]]),(7,[[1]])]) (h:=fun hcl hlt=>?_)
 clear hlt
 have hid:=glq hg
 have hne:=iJ hid
 have hgc:=fo (b:=b) hid
 have hcl2:∀ w,(H.set id (cr b w)).Closed:=fun w=>aP hcl fk
 have t27:(27:Int).toNat=27:=rfl
 have t20:(20:Int).toNat=20:=rfl
 have t3:(3:Int).toNat=3:=rfl
 have t5:(5:Int).toNat=5:=rfl
 have t6:(6:Int).toNat=6:=rfl
 have t8:(8:Int).toNat=8:=rfl
 have t7:(7:Int).toNat=7:=rfl
 have t60:(60:Int).toNat=60:=rfl
 have t2:(2:Int).toNat=2:=rfl
 have h3:=cn (b:=b) (v:=cp v 3) (n:=3) (by decide)
 simp only [go_sem,byq,Int.reduceBEq,ay,bm,mc,ij,hg,hgc,hne,av hb,aG,ap,aI,iNq,kz,kF,t27,t20,t3,t5,t6,t8,t7,t60,t2,cQ]
 refine ⟨⟨by decide,by decide⟩,⟨by decide,by decide⟩,⟨by decide,by decide⟩,?_⟩
 have hk3:cv b (cp v 3) 3=0∨cv b (cp v 3) 3=1∨cv b (cp v 3) 3=2:=by omega
 rcases hk3 with hk|hk|hk
 ·rw [hk] at hR ⊢
  simp only [Nat.reduceEqDiff,if_true,if_false] at hR
  subst hR
  simp only [go_sem,byq,Int.reduceBEq,ay,bm,mc,ij,hg,hgc,hne,av hb,aG,ap,aI,iNq,kz,kF,t27,t20,t3,t5,t6,t8,t7,t60,t2,Int.natCast_zero,jK,cQ]
  refine ⟨S,⟨rfl,hS,by decide,by decide⟩,?_,by repeat first|exact .refl _|refine .push ?_ _,hcl2 _,pM _⟩
  simp [wk,wk2,wkL,wk1,wkM,eA,bR,zll]
 ·rw [hk] at hR ⊢
  simp only [Nat.reduceEqDiff,if_true,if_false,Nat.one_ne_zero,reduceCtorEq] at hR
  subst hR
  simp only [go_sem,byq,Int.reduceBEq,ay,bm,mc,ij,hg,hgc,hne,av hb,aG,ap,aI,iNq,kz,kF,t27,t20,t3,t5,t6,t8,t7,t60,t2,Int.natCast_one,jK,cQ]
  refine jq 5 4 7 (cs:=[.int .i64 ((cv b (cp v 0) 27:Nat):Int),.int .i64 ((cv b (cp v 1) 20:Nat):Int),.bool (decide (cv b (cp v 2) 2=1)),.slice .nil 1 [],.slice .nil 1 [],.bool false,.int .i64 0,.int .i64 0,.slice .nil 1 []]) rfl (by simp only [go_sem]) rfl ?_
  simp only [bk,bh,bhq,Nat.reduceMod,Nat.reduceDiv,aA,az,aB,aZ,aC,aY,aS,aU,aV,yaq,yar,yao,yap,go_sem,byq,Int.reduceBEq,ay,bm,mc,ij,hg,hgc,hne,av hb,aG,ap,aI,iNq,kz,kF,t27,t20,t3,t5,t6,t8,t7,t60,t2,List.set_cons_succ,List.set_cons_zero]
  have hc5:=cn (b:=b) (v:=cp v 4) (n:=5) (by decide)
  refine ⟨⟨by decide,by decide⟩,?_⟩
  generalize hU:kp b (cv b (cp v 4) 5) (cp v 5)=U
  have hcR:∀ (w:Nat) (us:List SRec),(((((H.set id (cr b w)).push (.cells (cQ S))).push (.cells [.int .i64 0,.int .i64 0,.bool false,.slice .nil 1 [],.slice .nil 1 [],.bool false,.int .i64 0,.int .i64 0,.slice .nil 1 []])).push (.cells [.int .i64 (cv b (cp v 0) 27:Nat),.int .i64 (cv b (cp v 1) 20:Nat),.bool (decide (cv b (cp v 2) 2=1)),.slice .nil 1 [],.slice (.own (H.nx+1+1+1)) 7 (us.map dT),.bool false,.int .i64 0,.int .i64 0,.slice .nil 1 []])).push (.buf 7 us.length)).Closed:=fun w us=>by
   have h0:(((((H.set id (cr b w)).push (.cells (cQ S))).push (.cells [.int .i64 0,.int .i64 0,.bool false,.slice .nil 1 [],.slice .nil 1 [],.bool false,.int .i64 0,.int .i64 0,.slice .nil 1 []])).push (.cells [])).push (.buf 7 us.length)).Closed:=by
    repeat' (first|exact hcl2 _|refine bj ?_|refine aD ?_ ?_)
    ·exact ltL_iff.2 fun j hj=>AV.lt_cells (rh S) j hj
    ·simp [lt_sliceL,znu,znv,znf,zng]
    ·trivial
   have h1:=aP (i:=H.nx+1+1) (cs:=[.int .i64 (cv b (cp v 0) 27:Nat),.int .i64 (cv b (cp v 1) 20:Nat),.bool (decide (cv b (cp v 2) 2=1)),.slice .nil 1 [],.slice (.own (H.nx+1+1+1)) 7 (us.map dT),.bool false,.int .i64 0,.int .i64 0,.slice .nil 1 []]) h0 (by
    simp [znu,znv,znf,zng,zle,zlf,lt_sliceL]
    exact ltL_iff.2 fun j hj=>by rw [List.getElem_map];exact qN _)
   simp only [go_sem,hne] at h1
   exact h1
  refine aK (A:=Nat × Nat × List SRec) (fun x=>[(0,.ptr id 0),(4,.ptr (H.nx+1) 0),(5,.ptr (H.nx+1+1) 0),(6,.int .i64 (x.1:Int))]) (fun x=>(((((H.set id (cr b x.2.1)).push (.cells (cQ S))).push (.cells [.int .i64 0,.int .i64 0,.bool false,.slice .nil 1 [],.slice .nil 1 [],.bool false,.int .i64 0,.int .i64 0,.slice .nil 1 []])).push (.cells [.int .i64 (cv b (cp v 0) 27:Nat),.int .i64 (cv b (cp v 1) 20:Nat),.bool (decide (cv b (cp v 2) 2=1)),.slice .nil 1 [],.slice (.own (H.nx+1+1+1)) 7 (x.2.2.map dT),.bool false,.int .i64 0,.int .i64 0,.slice .nil 1 []])).push (.buf 7 x.2.2.length))) (fun x=>x.2.2.length+x.1≤4∧x.2.2++(kp b x.1 x.2.1).1=U.1∧(kp b x.1 x.2.1).2=U.2) (fun x=>x.1) (cv b (cp v 4) 5,cp v 5,[]) ⟨by simp;omega,by rw [hU];rfl,by rw [hU]⟩ ?_ fun x hx=>?_
  ·refine ⟨by simp only [zkq,zkv,zle,zlf];omega,lRq _,hcR _ _,?_,?_⟩
   ·simp [ltF,znf,znn,zle,zlf]
    try omega
   ·simp [cf,wk2,wk1,wkM,Fr.get]
  obtain ⟨n,w,us⟩:=x
  obtain ⟨hn,h1,h2⟩:=hx
  dsimp only at hn h1 h2 ⊢
  simp only [go_sem]
  refine af (fun hc=>?_) (fun hc=>?_)
  ·obtain ⟨n,rfl⟩:∃ m,n=m+1:=⟨n - 1,by simp at hc;omega⟩
   have e5:IntKind.i64.wrap (((n+1:Nat):Int) - 1)=((n:Nat):Int):=by rw [wrap_i64]<;>omega
   have hcp:cr b w=cr b (cp w 0):=rfl
   have hcp2:cr b (w+3)=cr b (cp w 3):=rfl
   simp only [go_sem,byq,Int.reduceBEq,ay,bm,mc,ij,hg,hgc,hne,av hb,aG,ap,aI,iNq,kz,kF,t27,t20,t3,t5,t6,t8,t7,t60,t2,hcp,List.set_cons_succ,List.set_cons_zero,ybb,e5]
   have hge:kp b (n+1) w=((sE b w).1::(kp b n (sE b w).2).1,(kp b n (sE b w).2).2):=rfl
   rw [hge] at h1 h2
   dsimp only at h1 h2
   refine ⟨⟨by decide,by decide⟩,⟨by decide,by decide⟩,⟨by decide,by decide⟩,⟨by decide,by decide⟩,⟨by decide,by decide⟩,⟨by decide,by decide⟩,⟨by decide,by decide⟩,⟨by omega,by omega,fun z hz=>by rw [List.mem_singleton] at hz;subst hz;rfl⟩,(n,cp w 9,us++[(sE b w).1]),⟨by simp only [lAq,yaz,yba];omega,by rw [← h1];simp [List.append_assoc,sE],h2⟩,by dsimp only;omega,?_⟩
   refine ⟨by simp only [zle,zlf];omega,?_,hcR _ _,?_,?_⟩
   ·simp only [List.map_append,yae,yaf,dT,mU,sE,cp0,lAq,yaz,yba,cQ,yal,yak]
    repeat first|exact .refl _|refine .push ?_ _
   ·simp [ltF,znf,znn,zle,zlf]
    try omega
   ·simp [cf,wk2,wk1,wkM,Fr.get]
  ·have hn0:n=0:=by simp at hc;omega
   subst hn0
   simp only [kp,yaj] at h1 h2
   rw [h1]
   simp only [go_sem,byq,Int.reduceBEq,ay,bm,mc,ij,hg,hgc,hne,av hb,aG,ap,aI,iNq,kz,kF,t27,t20,t3,t5,t6,t8,t7,t60,t2]
   rw [← h2]
   refine ⟨?_,by repeat first|exact .refl _|refine .push ?_ _,hcl2 _,pM _⟩
   simp [wk,wk2,wkL,wk1,wkM,eA,bR,zll]
 ·rw [hk] at hR ⊢
  simp only [Nat.reduceEqDiff,if_true,if_false,reduceCtorEq] at hR
  subst hR
  rw [show ((2:Nat):Int)=2 from rfl]
  simp only [go_sem,byq,Int.reduceBEq,ay,bm,mc,ij,hg,hgc,hne,av hb,aG,ap,aI,iNq,kz,kF,t27,t20,t3,t5,t6,t8,t7,t60,t2,jK,cQ]
  have h60:=cn (b:=b) (v:=cp v 9) (n:=60) (by decide)
  have hGl:=qG (b:=b) (n:=cv b (cp v 9) 60) (v:=cp v 10)
  refine ⟨⟨by decide,by decide⟩,⟨by decide,by decide⟩,⟨by decide,by decide⟩,⟨by omega,by omega⟩,?_,by repeat first|exact .refl _|refine .push ?_ _,hcl2 _,pM _⟩
  simp [wk,wk2,wkL,wk1,wkM,eA,bR,zll]
  simp only [go_sem]
  refine ⟨?_,zmv (by simp only [zlf];omega)⟩
  rw [zmr (by omega),ybc (by omega)]
theorem sD {α:Type} {p:α→α→Bool} (h:∀ x,p x x=true):∀ l:List α,eqL p l l=true
 |[]=>rfl
 |x::l=>by unfold eqL;rw [h,sD h l];rfl
theorem zb (r:SResp):eqP r r=true:=by
 unfold eqP
 rw [sD (fun x=>(Br x x).2 rfl),sD zT]
 simp
theorem yE (r:SReq):eqR r r=true:=(lZ r r).2 rfl
theorem qQ {b:List UInt8}:∀ (n v:Nat),(kp b n v).1.length=n
 |0,v=>rfl
 |n+1,v=>by simp only [kp,yaz,qQ n]
theorem EN {S:Sch} (hG:GenS S) {m:Int} {e:SEntry} (hE:GE S (fH S m) e):COk e:=by
 have hkl:=hG.kl _ (lk (S:=S) (n:=m) hG.t1)
 exact ⟨hE.ok hkl hG.pl,fun x hx=>Nat.lt_of_lt_of_le (hE.ao x hx) (by decide)⟩
theorem DL {S:Sch} (hG:GenS S) {b:List UInt8} {v:Nat}:PC (pH S b v).1:=by
 have z:∀ e:SEntry,e∈([]:List SEntry)→COk e:=fun e he=>by cases he
 obtain ⟨g1,g2⟩:=kL hG (b:=b) 4 (min (cp v 4) b.length)
 have h5:=cn (b:=b) (v:=cp v 4) (n:=5) (by decide)
 have hr:=qQ (b:=b) (cv b (cp v 4) 5) (cp v 5)
 unfold pH
 dsimp only
 repeat' split
 ·exact ⟨by dsimp only;omega,Nat.zero_le _,fun e he=>by obtain ⟨m,hm⟩:=g2 e he;exact EN hG hm⟩
 ·exact ⟨Nat.zero_le _,by dsimp only;omega,z⟩
 ·exact ⟨Nat.zero_le _,Nat.zero_le _,z⟩
end Go.AL
