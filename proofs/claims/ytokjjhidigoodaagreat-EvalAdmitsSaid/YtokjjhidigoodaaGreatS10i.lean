/- Contracts and plain laws, a part of the proof; no condition of its own. -/
import Derived.Test.YtokjjhidigoodaaGreatS10e
import Derived.Test.YtokjjhidigoodaaGreatLEntB
set_option maxHeartbeats 32000000
open List renaming length_cons → yaz, length_nil → yba, take_of_length_le → ybc, drop_append → ybd, take_append → ybe, drop_eq_nil_of_le → ybf, length_map → ybb, map_nil → yaf, getD_cons_zero → yau, getD_cons_succ → yav, take_succ_cons → yaq, take_zero → yar, drop_succ_cons → yao, drop_zero → yap, cons_append → yal, nil_append → yak, append_nil → yaj
open Go Go.AL Go.Proofs
namespace Go.AL
set_option linter.all false
set_option maxRecDepth 10000
theorem Iz {hi lo k:Nat} (h:lo<2^64):vOf hi lo % 2^(64+k)=vOf (hi % 2^k) lo:=by
 unfold vOf
 rw [Nat.pow_add,Nat.mod_mul,show (2^64*hi+lo) % 2^64=lo by omega,show (2^64*hi+lo)/2^64=hi by omega]
 omega
theorem A6 {hi lo k:Nat} (hk:k≤64):vOf hi lo % 2^k=lo % 2^k:=by
 unfold vOf
 rw [show (2:Nat)^64=2^k*2^(64 - k) by rw [← Nat.pow_add];congr 1;omega,Nat.mul_assoc,Nat.mul_add_mod]
theorem qh {k:Nat} (h:k<64):u7 .u64 1 (k:Int)=((2^k:Nat):Int):=by
 have:=lG 1 k
 rw [Nat.shiftLeft_eq,Nat.one_mul,Nat.mod_eq_of_lt (Nat.pow_lt_pow_right (by decide) h)] at this
 exact this
theorem pd {k:Nat} (h:k<64):2^k<2^64:=Nat.pow_lt_pow_right (by decide) h
theorem lj {k:Nat} (h:k<64):IntKind.u64.wrap (((2^k:Nat):Int) - 1)=((2^k - 1:Nat):Int):=by
 have h1:=pd h
 have h2:=Nat.two_pow_pos k
 generalize 2^k=p at *
 rw [cL]<;>omega
theorem yW {a k:Nat} (ha:a<2^64) (h:k<64):uZ .u64 (a:Int) ((2^k - 1:Nat):Int)=((a % 2^k:Nat):Int):=by
 have h1:=pd h
 rw [mI a _ ha (by have:=Nat.two_pow_pos k;omega),Nat.and_two_pow_sub_one_eq_mod]
def sf (hi lo:Int):Prop:=0≤hi∧hi<18446744073709551616∧0≤lo∧lo<18446744073709551616
def iJ:List AV→AHeap→(AV→Prop)→Prop
 |[.agg [.int .u64 a,.int .u64 b],.int .i64 w],_,K=>(sf a b ∧ -9223372036854775808≤w∧w<9223372036854775808)∧K (vv (low (vOf a.toNat b.toNat) w))
 |_,_,_=>False
theorem Cf:EntOk Tryz.prog 20 (Ent.pure iJ):=by
 refine EntOk.pure fun args H K h=>?_
 unfold iJ at h
 split at h
 rotate_left
 ·exact h.elim
 rename_i a b w
 obtain ⟨⟨⟨h0,h1,h2,h3⟩,hw1,hw2⟩,hK⟩:=h
 refine ⟨_,hK,?_⟩
 obtain ⟨x,rfl⟩:=cf h0
 obtain ⟨y,rfl⟩:=cf h2
 clear hK h0 h2
 simp only [Int.toNat_natCast]
 have hx:x<2^64:=by omega
 have hy:y<2^64:=by omega
 unfold low
 rcases (by omega:128≤w∨(64≤w∧w<128)∨w≤0∨(0<w∧w<64)) with h|h|h|h
 ·rw [if_pos h,tY hy]
  have d1:decide (w ≥ 128)=true:=decide_eq_true h
  refine ACalls.fW aB TblOk.nil Tryz.func20 [.cell 4 48] (Nat.le_refl _) (T:=aA []) (h:=fun hcl hlt=>?_)
  clear hlt
  simp only [go_sem,d1]
  exact Z0
 ·rw [if_neg (by omega)]
  obtain ⟨k,rfl⟩:∃ k:Nat,w=k+64:=⟨(w - 64).toNat,by omega⟩
  have hk:k<64:=by omega
  rw [show ((k:Int)+64).toNat=64+k by omega,Iz hy,tY hy]
  have d1:decide ((k:Int)+64 ≥ 128)=false:=decide_eq_false (by omega)
  have d2:decide ((k:Int)+64 ≥ 64)=true:=decide_eq_true (by omega)
  have e1:IntKind.i64.wrap ((k:Int)+64 - 64)=(k:Int):=by rw [wrap_i64]<;>omega
  have e2:IntKind.u64.wrap (k:Int)=(k:Int):=by rw [cL]<;>omega
  refine ACalls.fW aB TblOk.nil Tryz.func20 [.cell 4 48] (Nat.le_refl _) (T:=aA []) (h:=fun hcl hlt=>?_)
  clear hlt
  simp only [go_sem,d1,d2,e1,e2,qh hk,lj hk,yW hx hk]
  (repeat with_reducible refine And.intro (by first|exact True.intro|decide|omega|(simp [zim,zgm,zgn,zgo,zgq,zgp,zgu];first|done|omega)) ?_)
  exact Z0
 ·rw [if_neg (by omega),show w.toNat=0 by omega,Nat.pow_zero,Nat.mod_one]
  have v0:vv 0=.agg [.int .u64 0,.int .u64 0]:=rfl
  have d1:decide (w ≥ 128)=false:=decide_eq_false (by omega)
  have d2:decide (w ≥ 64)=false:=decide_eq_false (by omega)
  have d3:decide (w≤0)=true:=decide_eq_true (by omega)
  refine ACalls.fW aB TblOk.nil Tryz.func20 [.cell 4 48] (Nat.le_refl _) (T:=aA []) (h:=fun hcl hlt=>?_)
  clear hlt
  simp only [go_sem,d1,d2,d3,v0]
  exact Z0
 ·rw [if_neg (by omega)]
  obtain ⟨k,rfl⟩:∃ k:Nat,w=k:=⟨w.toNat,by omega⟩
  have hk:k<64:=by omega
  rw [Int.toNat_natCast,A6 (by omega)]
  have v0:vv (y % 2^k)=.agg [.int .u64 0,.int .u64 ((y % 2^k:Nat):Int)]:=by
   have:=tY (hi:=0) (lo:=y % 2^k) (Nat.lt_of_le_of_lt (Nat.mod_le _ _) hy)
   simpa [vOf] using this
  have d1:decide ((k:Int) ≥ 128)=false:=decide_eq_false (by omega)
  have d2:decide ((k:Int) ≥ 64)=false:=decide_eq_false (by omega)
  have d3:decide ((k:Int)≤0)=false:=decide_eq_false (by omega)
  have e2:IntKind.u64.wrap (k:Int)=(k:Int):=by rw [cL]<;>omega
  refine ACalls.fW aB TblOk.nil Tryz.func20 [.cell 4 48] (Nat.le_refl _) (T:=aA []) (h:=fun hcl hlt=>?_)
  clear hlt
  simp only [go_sem,d1,d2,d3,e2,qh hk,lj hk,yW hy hk,v0]
  (repeat with_reducible refine And.intro (by first|exact True.intro|decide|omega|(simp [zim,zgm,zgn,zgo,zgq,zgp,zgu];first|done|omega)) ?_)
  exact Z0
def xw:List AV→AHeap→(AV→Prop)→Prop
 |[.int .i64 w,.int .i64 n],_,K=>(1≤n∧n≤w∧w≤63)∧K (.agg [.int .u64 0,.int .u64 ((oa w n:Nat):Int)])
 |_,_,_=>False
theorem Ff:EntOk Tryz.prog 139 (Ent.pure xw):=by
 refine EntOk.pure fun args H K h=>?_
 unfold xw at h
 split at h
 rotate_left
 ·exact h.elim
 rename_i w n
 obtain ⟨⟨h1,h2,h3⟩,hK⟩:=h
 refine ⟨_,hK,?_⟩
 clear hK
 obtain ⟨w,rfl⟩:∃ k:Nat,w=k:=⟨w.toNat,by omega⟩
 obtain ⟨n,rfl⟩:∃ k:Nat,n=k:=⟨n.toNat,by omega⟩
 have hw:w<64:=by omega
 have hk:w - n<64:=by omega
 have e1:IntKind.i64.wrap ((w:Int) - (n:Int))=((w - n:Nat):Int):=by rw [wrap_i64]<;>omega
 have e2:IntKind.u64.wrap (w:Int)=(w:Int):=by rw [cL]<;>omega
 have e3:IntKind.u64.wrap ((w - n:Nat):Int)=((w - n:Nat):Int):=by rw [cL]<;>omega
 have e4:IntKind.u64.wrap (((2^w - 1:Nat):Int) - ((2^(w - n) - 1:Nat):Int))=((2^w - 2^(w - n):Nat):Int):=by
  have q1:=pd hw
  have q2:=Nat.two_pow_pos (w - n)
  have q3:2^(w - n)≤2^w:=Nat.pow_le_pow_right (by decide) (by omega)
  generalize 2^w=p at *
  generalize 2^(w - n)=q at *
  rw [cL]<;>omega
 have e5:oa (w:Int) (n:Int)=2^w - 2^(w - n):=by
  unfold oa
  rw [Int.toNat_natCast,show ((w:Int) - (n:Int)).toNat=w - n by omega]
 rw [e5]
 refine ACalls.fW aB TblOk.nil Tryz.func139 [.cell 4 48] (Nat.le_refl _) (T:=aA []) (h:=fun hcl hlt=>?_)
 clear hlt
 simp only [go_sem,e1,e2,e3,qh hw,qh hk,lj hw,lj hk,e4]
 (repeat with_reducible refine And.intro (by first|exact True.intro|decide|omega|(simp [zim,zgm,zgn,zgo,zgq,zgp,zgu];first|done|omega)) ?_)
 exact Z0
theorem cl {α:Type} {f:α→AV} {l:List α} {k:Nat} {x:α} (hx:l[k]?=some x):(l.map f).getD k .junk=f x:=by
 rw [List.getD_eq_getElem?_getD,List.getElem?_map,hx];rfl
def fH:List AV→AHeap→(AV→Prop)→Prop
 |[.agg l,.int .i64 id],_,K=>∃ S:Sch,(l=br S∧S.fields.length≤1000000)∧K (.int .i64 (eD S id))
 |_,_,_=>False
theorem Bk:EntOk Tryz.prog 138 (Ent.pure fH):=by
 refine EntOk.pure fun args H K h=>?_
 unfold fH at h
 split at h
 rotate_left
 ·exact h.elim
 rename_i l id
 obtain ⟨S,⟨rfl,hl⟩,hK⟩:=h
 refine ⟨_,hK,?_⟩
 clear hK
 generalize hR:eD S id=R
 unfold eD at hR
 refine ACalls.fW aB TblOk.nil Tryz.func138 [.tmp 4] (Nat.le_refl _) (T:=aA []) (h:=fun hcl hlt=>?_)
 clear hlt
 simp only [go_sem,br,ybb]
 refine ay (A:=Nat) (fun k=>[(1,.int .i64 id),(8,.slice .any 3 (S.fields.map ce)),(9,.int .i64 (S.fields.length:Int)),(10,.int .i64 (k:Int))]) (fun _=>H) (fun k=>k≤S.fields.length∧gh (S.fields.drop k) id=R) (fun k=>S.fields.length - k) 0 ⟨by omega,hR⟩ ?_ fun k hk=>?_
 ·refine ⟨Nat.le_refl _,(AHeap.Le.refl _).push _,hcl,?_,?_⟩
  ·simp [ltF,znb,bn j6]
  ·simp [aI,wk2,wk1,wkM,Fr.get]
 clear hR
 obtain ⟨hk,hR⟩:=hk
 simp only [go_sem]
 refine aq (fun hc=>?_) (fun hc=>?_)
 ·have hk':k<S.fields.length:=by simp at hc;omega
  obtain ⟨x,hx⟩:∃ x,x=S.fields[k]:=⟨_,rfl⟩
  have hd:S.fields.drop k=x::S.fields.drop (k+1):=by rw [hx];exact List.drop_eq_getElem_cons hk'
  have hg:=cl (f:=ce) (l:=S.fields) (k:=k) (x:=x) (by rw [List.getElem?_eq_getElem hk',hx])
  have e5:IntKind.i64.wrap ((k:Int)+1)=((k+1:Nat):Int):=by rw [wrap_i64]<;>omega
  rw [hd] at hR
  unfold gh at hR
  by_cases he:x.id=id
  ·rw [if_pos he] at hR
   subst he
   simp only [go_sem,Int.toNat_natCast,ybb,hg,ce,beq_self_eq_true,hR]
   (repeat with_reducible refine And.intro (by first|exact True.intro|decide|omega|(simp [zim,zgm,zgn,zgo,zgq,zgp,zgu];first|done|omega)) ?_)
   exact Z0
  ·rw [if_neg he] at hR
   have d1:(x.id==id)=false:=by simpa using he
   simp only [go_sem,Int.toNat_natCast,ybb,hg,ce,d1,e5]
   (repeat with_reducible refine And.intro (by first|exact True.intro|decide|omega|(simp [zim,zgm,zgn,zgo,zgq,zgp,zgu];first|done|omega)) ?_)
   refine ⟨k+1,⟨by omega,hR⟩,by omega,Nat.le_refl _,(AHeap.Le.refl _).push _,hcl,?_,?_⟩
   ·simp [ltF,znb,bn j6]
   ·simp [aI,wk2,wk1,wkM,Fr.get]
 ·have hk':k=S.fields.length:=by simp at hc;omega
  subst hk'
  rw [List.drop_length] at hR
  unfold gh at hR
  simp only [go_sem,hR]
  exact Z0
def jo:List AV→AHeap→(AV→Prop)→Prop
 |[.agg l,.int .i64 id],_,K=>∃ S:Sch,(l=br S∧S.actions.length≤1000000)∧K (a8 (fu S.actions id))
 |_,_,_=>False
theorem yn:EntOk Tryz.prog 65 (Ent.pure jo):=by
 refine EntOk.pure fun args H K h=>?_
 unfold jo at h
 split at h
 rotate_left
 ·exact h.elim
 rename_i l id
 obtain ⟨S,⟨rfl,hl⟩,hK⟩:=h
 refine ⟨_,hK,?_⟩
 clear hK
 generalize hR:fu S.actions id=R
 refine ACalls.fW aB TblOk.nil Tryz.func65 [.cell 4 103] (Nat.le_refl _) (T:=aA []) (h:=fun hcl hlt=>?_)
 clear hlt
 simp only [go_sem,br,ybb]
 have hcz:((H.push (.cells (br S))).push (.cells [.int .i64 0,.str [],.slice .nil 1 [],.slice .nil 1 [],.str []])).Closed :=
  ae (ae hcl (ltL_iff.2 fun j hj=>AV.lt_cells (qF S) j hj)) (by simp [znq,znr,znb,znd,aM])
 refine ay (A:=Nat) (fun k=>[(1,.int .i64 id),(4,.ptr (H.nx+1) 0),(8,.slice .any 5 (S.actions.map a8)),(9,.int .i64 (S.actions.length:Int)),(10,.int .i64 (k:Int))]) (fun _=>(H.push (.cells (br S))).push (.cells [.int .i64 0,.str [],.slice .nil 1 [],.slice .nil 1 [],.str []])) (fun k=>k≤S.actions.length∧fu (S.actions.drop k) id=R) (fun k=>S.actions.length - k) 0 ⟨by omega,hR⟩ ?_ fun k hk=>?_
 ·refine ⟨by simp only [zla,zkm,zkr];omega,AHeap.Le.refl _,hcz,?_,?_⟩
  ·simp [ltF,znb,znj,zla,bn gr]
  ·simp [aI,wk2,wk1,wkM,Fr.get]
 clear hR
 obtain ⟨hk,hR⟩:=hk
 simp only [go_sem]
 refine aq (fun hc=>?_) (fun hc=>?_)
 ·have hk':k<S.actions.length:=by simp at hc;omega
  obtain ⟨x,hx⟩:∃ x,x=S.actions[k]:=⟨_,rfl⟩
  have hd:S.actions.drop k=x::S.actions.drop (k+1):=by rw [hx];exact List.drop_eq_getElem_cons hk'
  have hg:=cl (f:=a8) (l:=S.actions) (k:=k) (x:=x) (by rw [List.getElem?_eq_getElem hk',hx])
  have e5:IntKind.i64.wrap ((k:Int)+1)=((k+1:Nat):Int):=by rw [wrap_i64]<;>omega
  rw [hd] at hR
  unfold fu at hR
  by_cases he:x.id=id
  ·rw [if_pos he] at hR
   subst he
   subst hR
   simp only [go_sem,Int.toNat_natCast,ybb,hg,a8,beq_self_eq_true]
   (repeat with_reducible refine And.intro (by first|exact True.intro|decide|omega|(simp [zim,zgm,zgn,zgo,zgq,zgp,zgu];first|done|omega)) ?_)
   have:=gr (n:=H.nx) x
   simp only [a8] at this
   simp (disch:=first|exact Zd|omega) [↓zmk,beq,ybc,ybd,ybe,ag,wk,wk2,wk1,wkM,wkL,au,ybf,hcl,this]
  ·rw [if_neg he] at hR
   have d1:(x.id==id)=false:=by simpa using he
   simp only [go_sem,Int.toNat_natCast,ybb,hg,a8,d1,e5]
   (repeat with_reducible refine And.intro (by first|exact True.intro|decide|omega|(simp [zim,zgm,zgn,zgo,zgq,zgp,zgu];first|done|omega)) ?_)
   refine ⟨k+1,⟨by omega,hR⟩,by omega,by simp only [zla];omega,(AHeap.Le.refl _).push _,hcz,?_,?_⟩
   ·simp [ltF,znb,znj,zla,bn gr]
   ·simp [aI,wk2,wk1,wkM,Fr.get,a8]
 ·have hk':k=S.actions.length:=by simp at hc;omega
  subst hk'
  rw [List.drop_length] at hR
  unfold fu at hR
  subst hR
  simp only [go_sem,a8,yaf]
  exact Z0
end Go.AL
open Go Go.AL Go.Proofs
namespace Go.AL
set_option linter.all false
set_option maxRecDepth 10000
def nJ (w kind:Int):List UInt8→Nat→AV × Nat:=fun b v=>(bu (cA b v w kind).1,(cA b v w kind).2)
theorem FO {b:List UInt8} {v:Nat}:qq b (min v b.length)=qq b v:=by unfold qq;simp only [cT,bw]
theorem zT {b:List UInt8} {v k:Nat} {w:Int}:q0 b (min v b.length+k) w=q0 b (v+k) w:=by unfold q0 ci;simp only [Nat.add_assoc,cT]
theorem vp {b:List UInt8} {v k:Nat}:mg b (min v b.length+k)=mg b (v+k):=by unfold mg;simp only [Nat.add_assoc,cT]
theorem pU (w kind:Int):oD (nJ w kind):=fun b v=>by
 unfold nJ cA
 simp only [FO,zT,vp,cT]
 by_cases h2:kind=2
 ·simp only [if_pos h2]
  by_cases h:0<cv b (v+3) 5
  ·simp only [if_pos h];first|exact ⟨rfl,6,rfl,rfl⟩|exact ⟨trivial,6,rfl,rfl⟩
  ·simp only [if_neg h];first|exact ⟨rfl,4,rfl,rfl⟩|exact ⟨trivial,4,rfl,rfl⟩
 by_cases h3:kind=3
 ·simp only [if_neg h2,if_pos h3]
  split<;>first|exact ⟨rfl,5,rfl,rfl⟩|exact ⟨trivial,5,rfl,rfl⟩
 by_cases h4:kind=4
 ·simp only [if_neg h2,if_neg h3,if_pos h4]
  split<;>first|exact ⟨rfl,5,rfl,rfl⟩|exact ⟨trivial,5,rfl,rfl⟩
 ·simp only [if_neg h2,if_neg h3,if_neg h4]
  first|exact ⟨rfl,3,rfl,rfl⟩|exact ⟨trivial,3,rfl,rfl⟩
def yD:List AV→AHeap→(AEnd→AHeap→Prop)→Prop
 |[.ptr id 0,.agg l,.agg [.str nm,.int .i64 fld,.int .i64 kind]],H,K=>∃ S:Sch,(l=br S∧S.fields.length≤1000000∧1≤eD S fld∧eD S fld≤32∧(kind=2→16≤eD S fld)) ∧
   onS (H.get id) (nJ (eD S fld) kind) fun x o=>K (.ret x) (H.set id o)
 |_,_,_=>False
theorem G7 {x:Nat} (h:x<2^64):vv x=.agg [.int .u64 0,.int .u64 (x:Int)]:=by
 unfold vv
 rw [Nat.div_eq_of_lt h,Nat.mod_eq_of_lt h];rfl
theorem fT (x:Nat):vOf 0 x=x:=by unfold vOf;omega
theorem p7 {x:Nat} {w:Int} (h1:1≤w) (h2:w≤32):low x w<2^32:=by
 unfold low
 rw [if_neg (by omega)]
 exact Nat.lt_of_lt_of_le (Nat.mod_lt _ (Nat.two_pow_pos _)) (Nat.pow_le_pow_right (by decide) (by omega))
theorem GQ {b:List UInt8} {u:Nat} {w:Int}:([.int .i64 w,.int .i64 8,.int .i64 16,.int .i64 1,.int .i64 (1+((cv b (cp u 0) w.toNat:Nat):Int))]:List AV).getD (cv b (cp u 1) 5) .junk=.int .i64 (q0 b u w):=by
 have h:=dV (b:=b) (v:=u+1) (n:=5) (by decide)
 unfold q0 cp ci
 rw [Nat.add_zero]
 rcases (by omega:cv b (u+1) 5=0∨cv b (u+1) 5=1∨cv b (u+1) 5=2∨cv b (u+1) 5=3∨cv b (u+1) 5=4) with e|e|e|e|e<;>rw [e]<;>rfl
theorem BK {b:List UInt8} {u:Nat} {w:Int} (h1:16≤w):1≤q0 b u w∧q0 b u w≤w:=by
 have h:=dV (b:=b) (v:=u+1) (n:=5) (by decide)
 have h':=dV (b:=b) (v:=u) (n:=w.toNat) (by omega)
 unfold q0 ci
 rcases (by omega:cv b (u+1) 5=0∨cv b (u+1) 5=1∨cv b (u+1) 5=2∨cv b (u+1) 5=3∨cv b (u+1) 5=4) with e|e|e|e|e<;>rw [e]<;>simp only [yau,yav]<;>omega
theorem D3 {b:List UInt8} {u:Nat}:([.int .i64 255,.int .i64 15,.int .i64 1,.int .i64 12,.int .i64 ((cv b (cp u 0) 256:Nat):Int)]:List AV).getD (cv b (cp u 1) 5) .junk=.int .i64 ((mg b u:Nat):Int):=by
 have h:=dV (b:=b) (v:=u+1) (n:=5) (by decide)
 unfold mg cp
 rw [Nat.add_zero]
 rcases (by omega:cv b (u+1) 5=0∨cv b (u+1) 5=1∨cv b (u+1) 5=2∨cv b (u+1) 5=3∨cv b (u+1) 5=4) with e|e|e|e|e<;>rw [e]<;>rfl
theorem Gw {b:List UInt8} {u:Nat}:mg b u<256:=by
 have h:=dV (b:=b) (v:=u+1) (n:=5) (by decide)
 have h':=dV (b:=b) (v:=u) (n:=256) (by decide)
 unfold mg
 rcases (by omega:cv b (u+1) 5=0∨cv b (u+1) 5=1∨cv b (u+1) 5=2∨cv b (u+1) 5=3∨cv b (u+1) 5=4) with e|e|e|e|e<;>rw [e]<;>simp only [yau,yav]<;>omega
theorem Jn {b:List UInt8} {v:Nat}:qq b v<2^32:=by
 unfold qq
 refine Nat.or_lt_two_pow (Nat.or_lt_two_pow ?_ ?_) ?_
 ·have:=dV (b:=b) (v:=v) (n:=256) (by decide)
  rw [Nat.shiftLeft_eq];omega
 ·have:=dV (b:=b) (v:=v+1) (n:=16) (by decide)
  rw [Nat.shiftLeft_eq];omega
 ·have:=dV (b:=b) (v:=v+2) (n:=16) (by decide)
  omega
theorem F2 {w n:Int} (h:w≤32):oa w n<2^33:=by
 unfold oa
 have:2^w.toNat≤2^32:=Nat.pow_le_pow_right (by decide) (by omega)
 have:=Nat.sub_le (2^w.toNat) (2^(w - n).toNat)
 omega
theorem xQ {p:Prop} [Decidable p] {t:Bool} (h:decide p=t):p=(t=true):=by subst h;simp
theorem EJ:EntOk Tryz.prog 64 (Ent.effect yD):=by
 refine EntOk.effect fun args H K h=>?_
 unfold yD at h
 split at h
 rotate_left
 ·exact h.elim
 rename_i id l nm fld kind
 obtain ⟨S,⟨rfl,hf,hw1,hw2,hk2⟩,h⟩:=h
 generalize hwo:eD S fld=w at *
 obtain ⟨w,rfl⟩:∃ k:Nat,w=k:=⟨w.toNat,by omega⟩
 unfold onS at h
 obtain ⟨b,v,hg,hb,hv,hK⟩:=jc h
 refine ⟨_,_,hK,?_⟩
 clear hK h
 unfold nJ
 dsimp only
 generalize hr:cA b v w kind=r
 obtain ⟨m,p⟩:=r
 dsimp only
 refine ACalls.fW aB (TblOk.cons ir (TblOk.cons Bk (TblOk.cons Cf (TblOk.cons Ff TblOk.nil)))) Tryz.func64 [.cell 6 114] (Nat.le_refl _) (T:=aA [(8,[[],[],[],[],[],[],[],[],[],[],[2,5]]),(14,[[],[],[],[],[3]])]) (h:=fun hcl hlt=>?_)
 clear hlt
 have hid:=AHeap.get_lt hg
 have hne:=mj hid
 have hgc:=ji (b:=b) hid
 have hcl2:∀ w,(H.set id (di b w)).Closed:=fun w=>ai hcl gN
 have e256:(256:Int).toNat=256:=rfl
 have e16:(16:Int).toNat=16:=rfl
 have e5:(5:Int).toNat=5:=rfl
 have c256:∀ u,cv b u 256<256:=fun u=>dV (by decide)
 have c16:∀ u,cv b u 16<16:=fun u=>dV (by decide)
 have c5:∀ u,cv b u 5<5:=fun u=>dV (by decide)
 have u256:∀ u,IntKind.u64.wrap ((cv b u 256:Nat):Int)=((cv b u 256:Nat):Int):=fun u=>by have:=c256 u;rw [cL (by omega) (by omega)]
 have u16:∀ u,IntKind.u64.wrap ((cv b u 16:Nat):Int)=((cv b u 16:Nat):Int):=fun u=>by have:=c16 u;rw [cL (by omega) (by omega)]
 have s24:∀ u,u7 .u64 ((cv b u 256:Nat):Int) 24=((cv b u 256 <<< 24:Nat):Int):=fun u=>by
  have:=c256 u
  have e:=lG (cv b u 256) 24
  rw [Nat.mod_eq_of_lt (by rw [Nat.shiftLeft_eq];omega)] at e
  exact e
 have s8:∀ u,u7 .u64 ((cv b u 16:Nat):Int) 8=((cv b u 16 <<< 8:Nat):Int):=fun u=>by
  have:=c16 u
  have e:=lG (cv b u 16) 8
  rw [Nat.mod_eq_of_lt (by rw [Nat.shiftLeft_eq];omega)] at e
  exact e
 have l24:∀ u,cv b u 256 <<< 24<2^64:=fun u=>by have:=c256 u;rw [Nat.shiftLeft_eq];omega
 have l8:∀ u,cv b u 16 <<< 8<2^64:=fun u=>by have:=c16 u;rw [Nat.shiftLeft_eq];omega
 have o1:∀ u u',ior .u64 ((cv b u 256 <<< 24:Nat):Int) ((cv b u' 16 <<< 8:Nat):Int)=((cv b u 256 <<< 24 ||| cv b u' 16 <<< 8:Nat):Int):=fun u u'=>l5 _ _ (l24 u) (l8 u')
 have o2:∀ u u' u'',ior .u64 ((cv b u 256 <<< 24 ||| cv b u' 16 <<< 8:Nat):Int) ((cv b u'' 16:Nat):Int)=((cv b u 256 <<< 24 ||| cv b u' 16 <<< 8 ||| cv b u'' 16:Nat):Int):=fun u u' u''=>l5 _ _ (Nat.or_lt_two_pow (l24 u) (l8 u')) (by have:=c16 u'';omega)
 have hN:(cv b (cp v 0) 256 <<< 24 ||| cv b (cp v 1) 16 <<< 8 ||| cv b (cp v 2) 16)=qq b v:=rfl
 have hNl:=Jn (b:=b) (v:=v)
 have hXl:=p7 (x:=qq b v) hw1 hw2
 have hvv:∀ x:Nat,x<2^32→vv x=.agg [.int .u64 0,.int .u64 (x:Int)]:=fun x hx=>G7 (by omega)
 simp only [go_sem,aY,fH,iJ,sf,br,hg,hgc,aZ hb,bw,aS,bG,hne,e256,e16,e5,u256,u16,s24,s8,o1,o2,hN,Int.toNat_natCast,Int.toNat_zero,fT]
 (repeat with_reducible refine And.intro (by first|exact True.intro|decide|omega|(simp [zim,zgm,zgn,zgo,zgq,zgp,zgu];first|done|omega)) ?_)
 refine ⟨S,⟨rfl,hf⟩,?_⟩
 rw [hwo]
 simp only [cr,bv,bhq,Nat.reduceMod,Nat.reduceDiv,bc,bf,bg,bX,bh,bV,bQ,bT,bU,yaq,yar,yao,yap,go_sem,aY,fH,iJ,sf,br,hg,hgc,aZ hb,bw,aS,bG,hne,e256,e16,e5,u256,u16,s24,s8,o1,o2,hN,Int.toNat_natCast,Int.toNat_zero,fT,hvv _ hXl]
 (repeat with_reducible refine And.intro (by first|exact True.intro|decide|omega|(simp [zim,zgm,zgn,zgo,zgq,zgp,zgu];first|done|omega)) ?_)
 have hX64:low (qq b v) (w:Int)<2^64:=by omega
 have i5:∀ u,(0≤((cv b u 5:Nat):Int)∧((cv b u 5:Nat):Int)<((5:Nat):Int))=True:=fun u=>HI (by decide)
 have zm:bu cS=.agg [.bool false,.int .u64 0,.int .u64 0,.int .u64 0,.int .u64 0,.int .i64 0,.int .u64 0,.int .u64 0]:=rfl
 have v0:vc 0=[.int .u64 0,.int .u64 0]:=rfl
 generalize hX:low (qq b v) (w:Int)=X at *
 unfold cA at hr
 dsimp only at hr
 rw [hX] at hr
 by_cases q2:kind=2
 ·subst q2
  have hw16:=hk2 rfl
  rw [if_pos rfl] at hr
  obtain ⟨p1,p2⟩:=BK (b:=b) (u:=v+4) hw16
  have pg:([.int .i64 (w:Int),.int .i64 8,.int .i64 16,.int .i64 1,.int .i64 (1+((cv b (cp v 4) w:Nat):Int))]:List AV).getD (cv b (cp v 5) 5) .junk=.int .i64 (q0 b (v+4) (w:Int)):=GQ (u:=v+4) (w:=(w:Int))
  have pl:cv b (cp v 4) w<w:=dV (by omega)
  have pw:IntKind.i64.wrap (1+((cv b (cp v 4) w:Nat):Int))=1+((cv b (cp v 4) w:Nat):Int):=by rw [wrap_i64]<;>omega
  have hM:=F2 (w:=(w:Int)) (n:=q0 b (v+4) (w:Int)) hw2
  generalize q0 b (v+4) (w:Int)=n at *
  have ia:uZ .u64 (X:Int) ((oa (w:Int) n:Nat):Int)=((X &&& oa (w:Int) n:Nat):Int):=mI _ _ hX64 (by omega)
  have iv:vc (X &&& oa (w:Int) n)=[.int .u64 0,.int .u64 ((X &&& oa (w:Int) n:Nat):Int)]:=gI (Nat.lt_of_le_of_lt Nat.and_le_left hX64)
  by_cases h5:0<cv b (v+3) 5
  ·rw [if_pos h5] at hr
   cases hr
   have d1:decide (((cv b (cp v 3) 5:Nat):Int) > 0)=true:=decide_eq_true (by unfold cp;omega)
   simp only [cr,bv,bhq,Nat.reduceMod,Nat.reduceDiv,bc,bf,bg,bX,bh,bV,bQ,bT,bU,yaq,yar,yao,yap,go_sem,aY,fH,iJ,sf,br,hg,hgc,aZ hb,bw,aS,bG,hne,e256,e16,e5,u256,u16,s24,s8,o1,o2,hN,Int.toNat_natCast,Int.toNat_zero,fT,hvv _ hXl,beq_self_eq_true,d1,pw,i5,pg,xw,ia,bu,ea,iv,v0,yal,yak]
   (repeat with_reducible refine And.intro (by first|exact True.intro|decide|omega|(simp [zim,zgm,zgn,zgo,zgq,zgp,zgu];first|done|omega)) ?_)
   simp (disch:=first|exact Zd|omega) [↓zmk,beq,ybc,ybd,ybe,ag,wk,wk2,wk1,wkM,wkL,au,ybf,hcl2]
   first|done|repeat first|exact .refl _|refine .push ?_ _
  ·rw [if_neg h5] at hr
   cases hr
   have d1:decide (((cv b (cp v 3) 5:Nat):Int) > 0)=false:=decide_eq_false (by unfold cp;omega)
   simp only [cr,bv,bhq,Nat.reduceMod,Nat.reduceDiv,bc,bf,bg,bX,bh,bV,bQ,bT,bU,yaq,yar,yao,yap,go_sem,aY,fH,iJ,sf,br,hg,hgc,aZ hb,bw,aS,bG,hne,e256,e16,e5,u256,u16,s24,s8,o1,o2,hN,Int.toNat_natCast,Int.toNat_zero,fT,hvv _ hXl,beq_self_eq_true,d1,zm]
   (repeat with_reducible refine And.intro (by first|exact True.intro|decide|omega|(simp [zim,zgm,zgn,zgo,zgq,zgp,zgu];first|done|omega)) ?_)
   simp (disch:=first|exact Zd|omega) [↓zmk,beq,ybc,ybd,ybe,ag,wk,wk2,wk1,wkM,wkL,au,ybf,hcl2]
   first|done|repeat first|exact .refl _|refine .push ?_ _
 rw [if_neg q2] at hr
 have k2:(kind==2)=false:=by simpa using q2
 by_cases q3:kind=3
 ·subst q3
  rw [if_pos rfl] at hr
  have pg:([.int .i64 255,.int .i64 15,.int .i64 1,.int .i64 12,.int .i64 ((cv b (cp v 3) 256:Nat):Int)]:List AV).getD (cv b (cp v 4) 5) .junk=.int .i64 ((mg b (v+3):Nat):Int):=D3 (u:=v+3)
  have hMl:=Gw (b:=b) (u:=v+3)
  generalize mg b (v+3)=g at *
  have ug:IntKind.u64.wrap (g:Int)=(g:Int):=by rw [cL]<;>omega
  have hYl:=p7 (x:=g) hw1 hw2
  have hYv:=hvv _ hYl
  obtain ⟨Y,hY⟩:∃ Y,low g (w:Int)=Y:=⟨_,rfl⟩
  rw [hY] at hYl hYv hr
  have ia:uZ .u64 (X:Int) (Y:Int)=((X &&& Y:Nat):Int):=mI _ _ hX64 (by omega)
  have iv:vc (X &&& Y)=[.int .u64 0,.int .u64 ((X &&& Y:Nat):Int)]:=gI (Nat.lt_of_le_of_lt Nat.and_le_left hX64)
  have iv2:vc Y=[.int .u64 0,.int .u64 (Y:Int)]:=gI (by omega)
  by_cases h5:Y≠0
  ·rw [if_pos h5] at hr
   cases hr
   have d1:((Y:Int) != 0)=true:=by simpa using h5
   simp only [cr,bv,bhq,Nat.reduceMod,Nat.reduceDiv,bc,bf,bg,bX,bh,bV,bQ,bT,bU,yaq,yar,yao,yap,go_sem,aY,fH,iJ,sf,br,hg,hgc,aZ hb,bw,aS,bG,hne,e256,e16,e5,u256,u16,s24,s8,o1,o2,hN,Int.toNat_natCast,Int.toNat_zero,fT,hvv _ hXl,k2,beq_self_eq_true,d1,i5,pg,ug,hY,hYv,ia,bu,ea,iv,iv2,v0,yal,yak]
   (repeat with_reducible refine And.intro (by first|exact True.intro|decide|omega|(simp [zim,zgm,zgn,zgo,zgq,zgp,zgu];first|done|omega)) ?_)
   simp (disch:=first|exact Zd|omega) [↓zmk,beq,ybc,ybd,ybe,ag,wk,wk2,wk1,wkM,wkL,au,ybf,hcl2]
   first|done|repeat first|exact .refl _|refine .push ?_ _
  ·rw [if_neg h5] at hr
   cases hr
   have d1:((Y:Int) != 0)=false:=by simpa using h5
   simp only [cr,bv,bhq,Nat.reduceMod,Nat.reduceDiv,bc,bf,bg,bX,bh,bV,bQ,bT,bU,yaq,yar,yao,yap,go_sem,aY,fH,iJ,sf,br,hg,hgc,aZ hb,bw,aS,bG,hne,e256,e16,e5,u256,u16,s24,s8,o1,o2,hN,Int.toNat_natCast,Int.toNat_zero,fT,hvv _ hXl,k2,beq_self_eq_true,d1,i5,pg,ug,hY,hYv,zm]
   (repeat with_reducible refine And.intro (by first|exact True.intro|decide|omega|(simp [zim,zgm,zgn,zgo,zgq,zgp,zgu];first|done|omega)) ?_)
   simp (disch:=first|exact Zd|omega) [↓zmk,beq,ybc,ybd,ybe,ag,wk,wk2,wk1,wkM,wkL,au,ybf,hcl2]
   first|done|repeat first|exact .refl _|refine .push ?_ _
 rw [if_neg q3] at hr
 have k3:(kind==3)=false:=by simpa using q3
 have iv2:vc X=[.int .u64 0,.int .u64 (X:Int)]:=gI hX64
 by_cases q4:kind=4
 ·subst q4
  rw [if_pos rfl] at hr
  have uw:IntKind.u64.wrap (w:Int)=(w:Int):=by rw [cL]<;>omega
  have hw64:w<64:=by omega
  have c9:=c256 (cp v 3)
  have ws:IntKind.u64.wrap ((X:Int)+((cv b (cp v 3) 256:Nat):Int))=((X+cv b (cp v 3) 256:Nat):Int):=by rw [cL]<;>omega
  have mn:min (((X+cv b (cp v 3) 256:Nat):Int)) (((2^w - 1:Nat):Int))=((n9 X (cv b (cp v 3) 256) (w:Int):Nat):Int):=by
   unfold n9;rw [Int.toNat_natCast];omega
  have hHl:n9 X (cv b (cp v 3) 256) (w:Int)<2^64:=by
   unfold n9;omega
  have hHc:n9 X (cv b (v+3) 256) (w:Int)=n9 X (cv b (cp v 3) 256) (w:Int):=rfl
  rw [hHc,Int.toNat_natCast] at hr
  clear hHc
  generalize n9 X (cv b (cp v 3) 256) (w:Int)=Z at *
  have iv3:vc Z=[.int .u64 0,.int .u64 (Z:Int)]:=gI hHl
  have kk2:((4:Int)==2)=false:=rfl
  have kk3:((4:Int)==3)=false:=rfl
  have dz:((X:Int)==0)=decide (X=0):=by rw [Bool.eq_iff_iff];simp
  have dh:((Z:Int)==((2^w - 1:Nat):Int))=decide (Z=2^w - 1):=by rw [Bool.eq_iff_iff];simp only [beq_iff_eq,decide_eq_true_eq];omega
  have dc:decide (((cv b (cp v 4) 5:Nat):Int) > 0)=decide (0<cv b (v+4) 5):=by rw [decide_eq_decide];unfold cp;omega
  cases hz:((X:Int)==0)<;>cases hh:((Z:Int)==((2^w - 1:Nat):Int))<;>cases hcv:decide (((cv b (cp v 4) 5:Nat):Int) > 0)
  all_goals
   have g1:=xQ (dc.symm.trans hcv)
   have g2:=xQ (dz.symm.trans hz)
   have g3:=xQ (dh.symm.trans hh)
   simp only [g1,g2,g3,Bool.false_eq_true,not_true_eq_false,not_false_eq_true,and_self,and_true,and_false,true_and,false_and,if_true,if_false] at hr
   cases hr
  all_goals
   simp only [cr,bv,bhq,Nat.reduceMod,Nat.reduceDiv,bc,bf,bg,bX,bh,bV,bQ,bT,bU,yaq,yar,yao,yap,go_sem,aY,fH,iJ,sf,br,hg,hgc,aZ hb,bw,aS,bG,hne,e256,e16,e5,u256,u16,s24,s8,o1,o2,hN,Int.toNat_natCast,Int.toNat_zero,fT,hvv _ hXl,kk2,kk3,beq_self_eq_true,uw,ws,qh hw64,lj hw64,mn,hz,hh,hcv,↓zm,bu,ea,iv2,iv3,v0,yal,yak,Bool.not_true,Bool.not_false]
   (repeat with_reducible refine And.intro (by first|exact True.intro|decide|omega|(simp [zim,zgm,zgn,zgo,zgq,zgp,zgu];first|done|omega)) ?_)
   simp (disch:=first|exact Zd|omega) [↓zmk,beq,ybc,ybd,ybe,ag,wk,wk2,wk1,wkM,wkL,au,ybf,hcl2]
   first|done|repeat first|exact .refl _|refine .push ?_ _
 rw [if_neg q4] at hr
 cases hr
 have k4:(kind==4)=false:=by simpa using q4
 simp only [cr,bv,bhq,Nat.reduceMod,Nat.reduceDiv,bc,bf,bg,bX,bh,bV,bQ,bT,bU,yaq,yar,yao,yap,go_sem,aY,fH,iJ,sf,br,hg,hgc,aZ hb,bw,aS,bG,hne,e256,e16,e5,u256,u16,s24,s8,o1,o2,hN,Int.toNat_natCast,Int.toNat_zero,fT,hvv _ hXl,k2,k3,k4,bu,ea,iv2,v0,yal,yak]
 (repeat with_reducible refine And.intro (by first|exact True.intro|decide|omega|(simp [zim,zgm,zgn,zgo,zgq,zgp,zgu];first|done|omega)) ?_)
 simp (disch:=first|exact Zd|omega) [↓zmk,beq,ybc,ybd,ybe,ag,wk,wk2,wk1,wkM,wkL,au,ybf,hcl2]
 first|done|repeat first|exact .refl _|refine .push ?_ _
end Go.AL
open Go Go.AL Go.Proofs
namespace Go.AL
set_option linter.all false
set_option maxRecDepth 10000
theorem CI {b:List UInt8} {v k:Nat}:qq b (min v b.length+k)=qq b (v+k):=by unfold qq;simp only [Nat.add_assoc,cT]
theorem AR {b:List UInt8} {v k:Nat} {w kind:Int}:(cA b (min v b.length+k) w kind).1=(cA b (v+k) w kind).1∧∃ c,(cA b (min v b.length+k) w kind).2=min v b.length+c∧(cA b (v+k) w kind).2=v+c:=by
 unfold cA
 simp only [CI,Nat.add_assoc,zT,vp,cT]
 by_cases h2:kind=2
 ·simp only [if_pos h2]
  by_cases h:0<cv b (v+(k+3)) 5
  ·simp only [if_pos h];exact ⟨trivial,_,rfl,rfl⟩
  ·simp only [if_neg h];exact ⟨trivial,_,rfl,rfl⟩
 by_cases h3:kind=3
 ·simp only [if_neg h2,if_pos h3]
  split<;>exact ⟨rfl,_,rfl,rfl⟩
 by_cases h4:kind=4
 ·simp only [if_neg h2,if_neg h3,if_pos h4]
  split<;>exact ⟨rfl,_,rfl,rfl⟩
 ·simp only [if_neg h2,if_neg h3,if_neg h4]
  exact ⟨trivial,_,rfl,rfl⟩
theorem lL {S:Sch} {b:List UInt8} {v:Nat}:∀ (ks:List SKey) (k:Nat) (p:Int),(cJ S b ks (min v b.length+k) p).1=(cJ S b ks (v+k) p).1∧∃ c,(cJ S b ks (min v b.length+k) p).2=min v b.length+c∧(cJ S b ks (v+k) p).2=v+c
 |[],k,p=>⟨rfl,k,rfl,rfl⟩
 |x::ks,k,p=>by
  obtain ⟨h1,c,h2,h3⟩:=AR (b:=b) (v:=v) (k:=k) (w:=eD S x.field) (kind:=x.kind)
  by_cases hk:x.kind=3∨x.kind=4
  ·obtain ⟨i1,d,i2,i3⟩:=lL (b:=b) (v:=v) ks (c+1) (1+ci b (v+c) 5)
   simp only [cJ,if_pos hk,h1,h2,h3,ci,cT,Nat.add_assoc]
   simp only [ci] at i1 i2 i3
   rw [i1]
   exact ⟨rfl,d,i2,i3⟩
  ·obtain ⟨i1,d,i2,i3⟩:=lL (b:=b) (v:=v) ks c p
   simp only [cJ,if_neg hk,h1,h2,h3]
   rw [i1]
   exact ⟨rfl,d,i2,i3⟩
theorem vV {b:List UInt8} {v:Nat}:∀ (ps:List SParam) (k:Nat),(jd b ps (min v b.length+k)).1=(jd b ps (v+k)).1∧∃ c,(jd b ps (min v b.length+k)).2=min v b.length+c∧(jd b ps (v+k)).2=v+c
 |[],k=>⟨rfl,k,rfl,rfl⟩
 |p::ps,k=>by
  obtain ⟨i1,d,i2,i3⟩:=vV (b:=b) (v:=v) ps (k+1)
  simp only [jd,cT,Nat.add_assoc]
  rw [i1]
  exact ⟨rfl,d,i2,i3⟩
def pC (S:Sch) (n:Int):List UInt8→Nat→AV × Nat:=fun b v=>(cW (fe S b v n).1,(fe S b v n).2)
theorem zz (S:Sch) (n:Int):oD (pC S n):=fun b v=>by
 obtain ⟨i1,c,i2,i3⟩:=lL (S:=S) (b:=b) (v:=v) (eO S n).keys 0 0
 simp only [Nat.add_zero] at i1 i2 i3
 unfold pC fe
 dsimp only
 rw [i1,i2,i3,cT]
 obtain ⟨j1,d,j2,j3⟩:=vV (b:=b) (v:=v) (fu S.actions ((eO S n).actions.getD (cv b (v+c) (eO S n).actions.length) 0)).params (c+1)
 simp only [Nat.add_assoc]
 rw [j1,j2,j3]
 exact ⟨rfl,d,rfl,rfl⟩
/-- schemas of which entries are made -/
structure GenS (S:Sch):Prop where
 fl:S.fields.length≤1000
 al:S.actions.length≤1000
 tl:S.tables.length≤1000
 t1:1≤S.tables.length
 kl:∀ t∈S.tables,t.keys.length≤100
 kb:∀ t∈S.tables,∀ k∈t.keys,1≤eD S k.field∧eD S k.field≤32∧(k.kind=2→16≤eD S k.field)
 a1:∀ t∈S.tables,1≤t.actions.length∧t.actions.length≤100
 pl:∀ a:Int,(fu S.actions a).params.length≤100
 pb:∀ a:Int,∀ p∈(fu S.actions a).params,0≤p.bits∧p.bits≤1000
def mS:List AV→AHeap→(AEnd→AHeap→Prop)→Prop
 |[.ptr id 0,.agg l,.int .i64 n],H,K=>∃ S:Sch,(l=br S∧GenS S ∧ -9223372036854775808≤n∧n<9223372036854775808)∧onS (H.get id) (pC S n) fun x o=>K (.ret x) (H.set id o)
 |_,_,_=>False
theorem Kh {b:List UInt8} {v:Nat} {w k:Int}:(nJ w k b v).1=.agg [.bool (cA b v w k).1.present,.int .u64 (((cA b v w k).1.value/2^64:Nat):Int),.int .u64 (((cA b v w k).1.value % 2^64:Nat):Int),.int .u64 (((cA b v w k).1.mask/2^64:Nat):Int),.int .u64 (((cA b v w k).1.mask % 2^64:Nat):Int),.int .i64 (cA b v w k).1.pfx,.int .u64 (((cA b v w k).1.high/2^64:Nat):Int),.int .u64 (((cA b v w k).1.high % 2^64:Nat):Int)]:=(rfl)
theorem Ka {b:List UInt8} {v:Nat} {w k:Int}:(nJ w k b v).2=cp (cA b v w k).2 0:=(rfl)
theorem vy {H:AHeap} {id:Nat} {o:AObj} (h:H.get id=some o):H.set id o=H:=by
 have hl:=AHeap.get_lt h
 unfold AHeap.get at h
 rw [if_pos hl] at h
 unfold AHeap.set
 cases H with
 |mk nx f =>
  simp only [AHeap.mk.injEq,true_and]
  funext j
  by_cases e:j=id
  ·rw [if_pos e,e];exact h.symm
  ·rw [if_neg e]
/-- the heap at the head of the loop over the keys -/
def ku (H:AHeap) (id:Nat) (b:List UInt8) (S:Sch) (t:STable) (w:Nat) (a1:List AV) (p:Int):AHeap :=
 ((((((H.set id (di b (cp w 0))).push (.cells (br S))).push (.cells [.int .i64 0,.slice .nil 1 [],.int .i64 0,.int .i64 0,.slice .nil 1 []])).push (.cells [.int .i64 t.id,.str t.name,.slice .any 3 (t.keys.map ct),.slice .any 1 (inL t.actions),.int .i64 t.dflt,.slice .any 2 (t.dargs.map vv),.int .i64 t.size,.str t.restr])).push (.buf 8 a1.length)).push (.buf 2 0)).push (.cells [.int .i64 t.id,.slice (.own (H.nx+1+1+1)) 8 a1,.int .i64 p,.int .i64 0,.slice (.own (H.nx+1+1+1+1)) 2 []])
/-- the heap at the head of the loop over the parameters -/
def sg (H:AHeap) (id:Nat) (b:List UInt8) (S:Sch) (t:STable) (w:Nat) (a1 a2:List AV) (p act:Int):AHeap :=
 ((((((H.set id (di b (cp w 0))).push (.cells (br S))).push (.cells [.int .i64 0,.slice .nil 1 [],.int .i64 0,.int .i64 0,.slice .nil 1 []])).push (.cells [.int .i64 t.id,.str t.name,.slice .any 3 (t.keys.map ct),.slice .any 1 (inL t.actions),.int .i64 t.dflt,.slice .any 2 (t.dargs.map vv),.int .i64 t.size,.str t.restr])).push (.buf 8 a1.length)).push (.buf 2 a2.length)).push (.cells [.int .i64 t.id,.slice (.own (H.nx+1+1+1)) 8 a1,.int .i64 p,.int .i64 act,.slice (.own (H.nx+1+1+1+1)) 2 a2])
theorem nw {n:Nat} (x:SMatch):AV.lt n (bu x):=by
 simp only [bu,ea,vc,znn,znq,znr,znb,znc,List.append_assoc,yal,yak,and_true]
theorem F1 {n:Nat} (x:Nat):AV.lt n (vv x):=by simp only [vv,znn,znq,znr,znb,and_true]
theorem lh {n:Nat} (x:SEntry):AV.lt n (cW x):=by
 simp only [cW,eA,znn,znq,znr,znb,and_true,true_and]
 exact ⟨bn nw,bn F1⟩
theorem rB {H:AHeap} {id:Nat} {b:List UInt8} {S:Sch} {t:STable} {w:Nat} {a1 a2:List AV} {p act:Int} (hcl:H.Closed) (h1:∀ n,ltL n a1=True) (h2:∀ n,ltL n a2=True):(sg H id b S t w a1 a2 p act).Closed:=by
 unfold sg
 repeat' (first|exact ai hcl gN|refine af ?_|refine ae ?_ ?_)
 ·exact ltL_iff.2 fun j hj=>AV.lt_cells (qF S) j hj
 ·simp [znq,znr,znb,aM]
 ·exact ltL_iff.2 fun j hj=>AV.lt_cells (dp t) j hj
 ·simp [aM,znq,znr,znb,zla,zlb,h1,h2]
  try omega
theorem ES:EntOk Tryz.prog 18 (Ent.effect mS):=by
 refine EntOk.effect fun args H K h=>?_
 unfold mS at h
 split at h
 rotate_left
 ·exact h.elim
 rename_i id l n
 obtain ⟨S,⟨rfl,hS,hn1,hn2⟩,h⟩:=h
 unfold onS at h
 obtain ⟨b,v,hg,hb,hv,hK⟩:=jc h
 refine ⟨_,_,hK,?_⟩
 clear hK h
 unfold pC
 dsimp only
 generalize hres:(fe S b v n).1=res
 generalize hpos:(fe S b v n).2=pos
 refine ACalls.fW aB (TblOk.cons ir (TblOk.cons Co (TblOk.cons EJ (TblOk.cons yn (TblOk.cons Cf TblOk.nil))))) Tryz.func18 [.cell 6 26] (Nat.le_refl _) (T:=aA [(1,[[],[],[],[],[],[],[4],[],[6],[],[1,4,6,8]]),(6,[[],[],[],[],[],[3,4],[3,4,5],[1,3,4,5],[],[1,3,4,5]]),(10,[[],[],[],[],[],[],[4],[],[6],[],[1,4,6,8]]),(14,[[],[],[],[],[3],[],[],[],[3,4,7],[3,7,8],[1,3,7,8],[],[1,3,7,8]]),(2,[[10,1]]),(16,[[4]])]) (h:=fun hcl hlt=>?_)
 clear hlt
 have hid:=AHeap.get_lt hg
 have hne:=mj hid
 have hgc:=ji (b:=b) hid
 have hcl2:∀ w,(H.set id (di b w)).Closed:=fun w=>ai hcl gN
 obtain ⟨f1,f2,f3,f4,f5,f6,f7,f8,f9⟩:=hS
 obtain ⟨t,ht⟩:∃ t,eO S n=t:=⟨_,rfl⟩
 have hm1:=Int.emod_nonneg n (show ((S.tables.length:Nat):Int)≠0 by omega)
 have hm2:=Int.emod_lt_of_pos n (show (0:Int)<((S.tables.length:Nat):Int) by omega)
 have hmi:(n % ((S.tables.length:Nat):Int)).toNat<S.tables.length:=by omega
 have htm:t∈S.tables:=by
  rw [← ht];unfold eO
  rw [List.getD_eq_getElem?_getD,List.getElem?_eq_getElem hmi]
  exact List.getElem_mem hmi
 have htg:(S.tables.map bx).getD (n % ((S.tables.length:Nat):Int)).toNat .junk=.agg [.int .i64 t.id,.str t.name,.slice .any 3 (t.keys.map ct),.slice .any 1 (inL t.actions),.int .i64 t.dflt,.slice .any 2 (t.dargs.map vv),.int .i64 t.size,.str t.restr]:=by
  rw [← ht];unfold eO
  exact cl (f:=bx) (by rw [List.getElem?_eq_getElem hmi,List.getD_eq_getElem?_getD,List.getElem?_eq_getElem hmi];rfl)
 simp only [cr,bv,bhq,Nat.reduceMod,Nat.reduceDiv,bc,bf,bg,bX,bh,bV,bQ,bT,bU,yaq,yar,yao,yap,go_sem,iq,aY,br,hg,hgc,hne,aZ hb,bw,aS,bG,ybb,htg,Int.toNat_natCast,List.set_cons_succ,List.set_cons_zero]
 (repeat with_reducible refine And.intro (by first|exact True.intro|decide|omega|(simp [zim,zgm,zgn,zgo,zgq,zgp,zgu];first|done|omega)) ?_)
 refine jV 24 1 8 _ rfl rfl ?_
 simp only [cr,bv,bhq,Nat.reduceMod,Nat.reduceDiv,bc,bf,bg,bX,bh,bV,bQ,bT,bU,yaq,yar,yao,yap,go_sem,iq,aY,br,hg,hgc,hne,aZ hb,bw,aS,bG,ybb,htg,Int.toNat_natCast,List.set_cons_succ,List.set_cons_zero]
 refine jV 24 4 2 _ rfl rfl ?_
 simp only [cr,bv,bhq,Nat.reduceMod,Nat.reduceDiv,bc,bf,bg,bX,bh,bV,bQ,bT,bU,yaq,yar,yao,yap,go_sem,iq,aY,br,hg,hgc,hne,aZ hb,bw,aS,bG,ybb,htg,Int.toNat_natCast,List.set_cons_succ,List.set_cons_zero]
 (repeat with_reducible refine And.intro (by first|exact True.intro|decide|omega|(simp [zim,zgm,zgn,zgo,zgq,zgp,zgu];first|done|omega)) ?_)
 generalize hR:cJ S b t.keys v 0=R
 have hcM:∀ w a1 p,(∀ n,ltL n a1=True)→(ku H id b S t w a1 p).Closed:=fun w a1 p h1=>rB (a2:=[]) (act:=0) hcl h1 (fun n=>by simp [znr])
 refine ay (A:=Nat × Nat × List AV × Int) (fun x=>[(0,.ptr id 0),(4,.ptr H.nx 0),(6,.ptr (H.nx+1) 0),(7,.ptr (H.nx+1+1) 0),(8,.ptr (H.nx+1+1+1+1+1) 0),(26,.slice .any 3 (t.keys.map ct)),(27,.int .i64 (t.keys.length:Int)),(28,.int .i64 (x.1:Int))]) (fun x=>ku H id b S t x.2.1 x.2.2.1 x.2.2.2) (fun x=>x.1≤t.keys.length∧x.2.2.1.length≤x.1∧x.2.2.1++(cJ S b (t.keys.drop x.1) x.2.1 x.2.2.2).1.1.map bu=R.1.1.map bu∧(cJ S b (t.keys.drop x.1) x.2.1 x.2.2.2).1.2=R.1.2∧(cJ S b (t.keys.drop x.1) x.2.1 x.2.2.2).2=R.2) (fun x=>t.keys.length - x.1) (0,v,[],0) ⟨by omega,by simp,by rw [← hR];rfl,by rw [← hR];rfl,by rw [← hR];rfl⟩ ?_ fun x hx=>?_
 ·refine ⟨by simp only [ku,zla,zlb,zkm,zkr];omega,by dsimp only;unfold ku;rw [show di b (cp v 0)=di b (cp v 0) from rfl,vy hg];exact AHeap.Le.refl _,hcM _ _ _ (fun n=>by simp [znr]),?_,?_⟩
  ·simp [ltF,ku,znj,znb,zla,zlb,bn uJ]
   omega
  ·simp [aI,wk2,wk1,wkM,Fr.get]
 obtain ⟨k,w,a1,p⟩:=x
 dsimp only at hx ⊢
 obtain ⟨hk,l1,i1,i2,i3⟩:=hx
 have hlA:=fun n=>ky (n:=n) i1 nw
 simp only [go_sem]
 refine aq (fun hc=>?_) (fun hc=>?_)
 ·have hk':k<t.keys.length:=by simp at hc;omega
  obtain ⟨x,hx⟩:∃ x,x=t.keys[k]:=⟨_,rfl⟩
  have hd:t.keys.drop k=x::t.keys.drop (k+1):=by rw [hx];exact List.drop_eq_getElem_cons hk'
  have hxm:x∈t.keys:=by rw [hx];exact List.getElem_mem hk'
  have hkg:=cl (f:=ct) (l:=t.keys) (k:=k) (x:=x) (by rw [List.getElem?_eq_getElem hk',hx])
  have hkk:=f5 t htm
  have e5:IntKind.i64.wrap ((k:Int)+1)=((k+1:Nat):Int):=by rw [wrap_i64]<;>omega
  obtain ⟨b1,b2,b3⟩:=f6 t htm x hxm
  simp only [cr,bv,bhq,Nat.reduceMod,Nat.reduceDiv,bc,bf,bg,bX,bh,bV,bQ,bT,bU,yaq,yar,yao,yap,go_sem,iq,aY,br,hg,hgc,hne,aZ hb,bw,aS,bG,ybb,htg,Int.toNat_natCast,List.set_cons_succ,List.set_cons_zero,ku,hkg,ct]
  (repeat with_reducible refine And.intro (by first|exact True.intro|decide|omega|(simp [zim,zgm,zgn,zgo,zgq,zgp,zgu];first|done|omega)) ?_)
  refine ⟨S,⟨rfl,by omega,b1,b2,b3⟩,?_⟩
  simp only [cr,bv,bhq,Nat.reduceMod,Nat.reduceDiv,bc,bf,bg,bX,bh,bV,bQ,bT,bU,yaq,yar,yao,yap,go_sem,iq,aY,br,hg,hgc,hne,aZ hb,bw,aS,bG,ybb,htg,Int.toNat_natCast,List.set_cons_succ,List.set_cons_zero,ku,hkg,ct,cC hb (pU _ _)]
  have five:(5:Int).toNat=5:=rfl
  have a15:∀ u,IntKind.i64.wrap (1+((cv b u 5:Nat):Int))=1+((cv b u 5:Nat):Int):=fun u=>by
   have:=dV (b:=b) (v:=u) (n:=5) (by decide)
   rw [wrap_i64 (by omega) (by omega)]
  by_cases hk34:x.kind=3∨x.kind=4
  ·rcases hk34 with h3|h3
   ·have hk34:x.kind=3∨x.kind=4:=.inl h3
    have d3:(x.kind==3)=true:=by simp [h3]
    simp only [cr,bv,bhq,Nat.reduceMod,Nat.reduceDiv,bc,bf,bg,bX,bh,bV,bQ,bT,bU,yaq,yar,yao,yap,go_sem,iq,aY,br,hg,hgc,hne,aZ hb,bw,aS,bG,ybb,htg,Int.toNat_natCast,List.set_cons_succ,List.set_cons_zero,ku,hkg,ct,cC hb (pU _ _),Kh,Ka,e5,a15,five,d3]
    (repeat with_reducible refine And.intro (by first|exact True.intro|decide|omega|(simp [zim,zgm,zgn,zgo,zgq,zgp,zgu];first|done|omega)) ?_)
    rw [hd] at i1 i2 i3
    simp only [cJ,if_pos hk34] at i1 i2 i3
    have i1':(a1++[bu (cA b (cp w 0) (eD S x.field) x.kind).1])++_=R.1.1.map bu:=(List.append_assoc _ _ _).trans i1
    refine ⟨(k+1,cp (cA b (cp w 0) (eD S x.field) x.kind).2 1,a1++[bu (cA b (cp w 0) (eD S x.field) x.kind).1],1+ci b (cp (cA b (cp w 0) (eD S x.field) x.kind).2 0) 5),⟨by dsimp only;omega,by simp only [List.length_append,yaz,yba];omega,i1',i2,i3⟩,by dsimp only;omega,by simp only [ku,zla,zlb,zkm,zkr];omega,?_,hcM _ _ _ (fun n=>ky (n:=n) i1' nw),?_,?_⟩
    ·simp only [ku,List.length_append,yaz,yba]
     repeat first|exact .refl _|refine .push ?_ _
    ·simp [ltF,ku,znj,znb,zla,zlb,bn uJ]
     omega
    ·simp [aI,wk2,wk1,wkM,Fr.get]
   ·have hk34:x.kind=3∨x.kind=4:=.inr h3
    have d3:(x.kind==3)=false:=by simp [h3]
    have d4:(x.kind==4)=true:=by simp [h3]
    simp only [cr,bv,bhq,Nat.reduceMod,Nat.reduceDiv,bc,bf,bg,bX,bh,bV,bQ,bT,bU,yaq,yar,yao,yap,go_sem,iq,aY,br,hg,hgc,hne,aZ hb,bw,aS,bG,ybb,htg,Int.toNat_natCast,List.set_cons_succ,List.set_cons_zero,ku,hkg,ct,cC hb (pU _ _),Kh,Ka,e5,a15,five,d3,d4]
    (repeat with_reducible refine And.intro (by first|exact True.intro|decide|omega|(simp [zim,zgm,zgn,zgo,zgq,zgp,zgu];first|done|omega)) ?_)
    rw [hd] at i1 i2 i3
    simp only [cJ,if_pos hk34] at i1 i2 i3
    have i1':(a1++[bu (cA b (cp w 0) (eD S x.field) x.kind).1])++_=R.1.1.map bu:=(List.append_assoc _ _ _).trans i1
    refine ⟨(k+1,cp (cA b (cp w 0) (eD S x.field) x.kind).2 1,a1++[bu (cA b (cp w 0) (eD S x.field) x.kind).1],1+ci b (cp (cA b (cp w 0) (eD S x.field) x.kind).2 0) 5),⟨by dsimp only;omega,by simp only [List.length_append,yaz,yba];omega,i1',i2,i3⟩,by dsimp only;omega,by simp only [ku,zla,zlb,zkm,zkr];omega,?_,hcM _ _ _ (fun n=>ky (n:=n) i1' nw),?_,?_⟩
    ·simp only [ku,List.length_append,yaz,yba]
     repeat first|exact .refl _|refine .push ?_ _
    ·simp [ltF,ku,znj,znb,zla,zlb,bn uJ]
     omega
    ·simp [aI,wk2,wk1,wkM,Fr.get]
  ·have d3:(x.kind==3)=false:=by simp;intro h;exact hk34 (.inl h)
   have d4:(x.kind==4)=false:=by simp;intro h;exact hk34 (.inr h)
   simp only [cr,bv,bhq,Nat.reduceMod,Nat.reduceDiv,bc,bf,bg,bX,bh,bV,bQ,bT,bU,yaq,yar,yao,yap,go_sem,iq,aY,br,hg,hgc,hne,aZ hb,bw,aS,bG,ybb,htg,Int.toNat_natCast,List.set_cons_succ,List.set_cons_zero,ku,hkg,ct,cC hb (pU _ _),Kh,Ka,e5,a15,five,d3,d4]
   (repeat with_reducible refine And.intro (by first|exact True.intro|decide|omega|(simp [zim,zgm,zgn,zgo,zgq,zgp,zgu];first|done|omega)) ?_)
   rw [hd] at i1 i2 i3
   simp only [cJ,if_neg hk34] at i1 i2 i3
   have i1':(a1++[bu (cA b (cp w 0) (eD S x.field) x.kind).1])++_=R.1.1.map bu:=(List.append_assoc _ _ _).trans i1
   refine ⟨(k+1,cp (cA b (cp w 0) (eD S x.field) x.kind).2 0,a1++[bu (cA b (cp w 0) (eD S x.field) x.kind).1],p),⟨by dsimp only;omega,by simp only [List.length_append,yaz,yba];omega,i1',i2,i3⟩,by dsimp only;omega,by simp only [ku,zla,zlb,zkm,zkr];omega,?_,hcM _ _ _ (fun n=>ky (n:=n) i1' nw),?_,?_⟩
   ·simp only [ku,List.length_append,yaz,yba]
    repeat first|exact .refl _|refine .push ?_ _
   ·simp [ltF,ku,znj,znb,zla,zlb,bn uJ]
    omega
   ·simp [aI,wk2,wk1,wkM,Fr.get]
 ·have hk':k=t.keys.length:=by simp at hc;omega
  subst hk'
  rw [List.drop_length] at i1 i2 i3
  simp only [cJ,yaf,yaj] at i1 i2 i3
  obtain ⟨g1,g2⟩:=f7 t htm
  have hkk:=f5 t htm
  have hcl3:cv b (cp w 0) t.actions.length<t.actions.length:=dV (by omega)
  obtain ⟨act,hact⟩:∃ act,t.actions.getD (cv b w t.actions.length) 0=act:=⟨_,rfl⟩
  have hag:(inL t.actions).getD (cv b (cp w 0) t.actions.length) .junk=.int .i64 act:=by
   rw [← hact]
   unfold inL
   exact cl (f:=fun n=>AV.int .i64 n) (by rw [List.getElem?_eq_getElem hcl3,List.getD_eq_getElem?_getD,show cv b w t.actions.length=cv b (cp w 0) t.actions.length from rfl,List.getElem?_eq_getElem hcl3];rfl)
  have hil:(inL t.actions).length=t.actions.length:=by simp [inL]
  have hsp:=f8 act
  have hpb:=f9 act
  have e256:(256:Int).toNat=256:=rfl
  have u256:∀ u,IntKind.u64.wrap ((cv b u 256:Nat):Int)=((cv b u 256:Nat):Int):=fun u=>by
   have:=dV (b:=b) (v:=u) (n:=256) (by decide)
   rw [cL (by omega) (by omega)]
  have hb1:(0≤((cv b (cp w 0) t.actions.length:Nat):Int)∧((cv b (cp w 0) t.actions.length:Nat):Int)<(((inL t.actions).length:Nat):Int))=True:=eq_true ⟨by omega,by rw [hil];omega⟩
  simp only [cr,bv,bhq,Nat.reduceMod,Nat.reduceDiv,bc,bf,bg,bX,bh,bV,bQ,bT,bU,yaq,yar,yao,yap,go_sem,iq,aY,br,hg,hgc,hne,aZ hb,bw,aS,bG,ybb,htg,Int.toNat_natCast,List.set_cons_succ,List.set_cons_zero,ku,sg,hag,jo,a8,iJ,sf,fT,Int.toNat_zero,u256,e256,vv,hil]
  (repeat with_reducible refine And.intro (by first|exact True.intro|decide|omega|(simp [zim,zgm,zgn,zgo,zgq,zgp,zgu];first|done|omega)) ?_)
  refine ⟨S,⟨rfl,by omega⟩,?_⟩
  generalize hao:fu S.actions act=a at *
  generalize hG:jd b a.params (cp w 1)=G
  have hcM2:∀ w' a2,(∀ n,ltL n a2=True)→(sg H id b S t w' a1 a2 p act).Closed:=fun w' a2 h2=>rB hcl hlA h2
  refine ay (A:=Nat × Nat × List AV) (fun x=>[(0,.ptr id 0),(6,.ptr (H.nx+1) 0),(8,.ptr (H.nx+1+1+1+1+1) 0),(68,.slice .any 2 (a.params.map bK)),(69,.int .i64 (a.params.length:Int)),(70,.int .i64 (x.1:Int))]) (fun x=>sg H id b S t x.2.1 a1 x.2.2 p act) (fun x=>x.1≤a.params.length∧x.2.2.length≤x.1∧x.2.2++(jd b (a.params.drop x.1) x.2.1).1.map vv=G.1.map vv∧(jd b (a.params.drop x.1) x.2.1).2=G.2) (fun x=>a.params.length - x.1) (0,cp w 1,[]) ⟨by omega,by simp,by rw [← hG];rfl,by rw [← hG];rfl⟩ ?_ fun x hx=>?_
  ·refine ⟨by simp only [sg,zla,zlb,zkm,zkr];omega,AHeap.Le.refl _,hcM2 _ _ (fun n=>by simp [znr]),?_,?_⟩
   ·simp [ltF,sg,znj,znb,zla,zlb,bn tU]
    omega
   ·simp [aI,wk2,wk1,wkM,Fr.get]
  obtain ⟨j,w2,a2⟩:=x
  dsimp only at hx ⊢
  obtain ⟨hj,m1,j1,j2⟩:=hx
  simp only [go_sem]
  refine aq (fun hc=>?_) (fun hc=>?_)
  ·have hj':j<a.params.length:=by simp at hc;omega
   obtain ⟨x,hx⟩:∃ x,x=a.params[j]:=⟨_,rfl⟩
   have hd:a.params.drop j=x::a.params.drop (j+1):=by rw [hx];exact List.drop_eq_getElem_cons hj'
   have hxm:x∈a.params:=by rw [hx];exact List.getElem_mem hj'
   have hkg:=cl (f:=bK) (l:=a.params) (k:=j) (x:=x) (by rw [List.getElem?_eq_getElem hj',hx])
   have e5:IntKind.i64.wrap ((j:Int)+1)=((j+1:Nat):Int):=by rw [wrap_i64]<;>omega
   have hxb:=hpb x hxm
   rw [hd] at j1 j2
   simp only [jd] at j1 j2
   have j1':(a2++[vv (low (cv b w2 256) x.bits)])++_=G.1.map vv:=(List.append_assoc _ _ _).trans j1
   have c256:=dV (b:=b) (v:=cp w2 0) (n:=256) (by decide)
   simp only [cr,bv,bhq,Nat.reduceMod,Nat.reduceDiv,bc,bf,bg,bX,bh,bV,bQ,bT,bU,yaq,yar,yao,yap,go_sem,iq,aY,br,hg,hgc,hne,aZ hb,bw,aS,bG,ybb,htg,Int.toNat_natCast,List.set_cons_succ,List.set_cons_zero,ku,sg,hag,jo,a8,iJ,sf,fT,Int.toNat_zero,u256,e256,vv,hkg,bK,e5]
   (repeat with_reducible refine And.intro (by first|exact True.intro|decide|omega|(simp [zim,zgm,zgn,zgo,zgq,zgp,zgu];first|done|omega)) ?_)
   refine ⟨(j+1,cp w2 1,a2++[vv (low (cv b w2 256) x.bits)]),⟨by dsimp only;omega,by simp only [List.length_append,yaz,yba];omega,j1',j2⟩,by dsimp only;omega,by simp only [sg,zla,zlb,zkm,zkr];omega,?_,hcM2 _ _ (fun n=>ky (n:=n) j1' F1),?_,?_⟩
   ·simp only [sg,List.length_append,yaz,yba]
    repeat first|exact .refl _|refine .push ?_ _
   ·simp [ltF,sg,znj,znb,zla,zlb,bn tU]
    omega
   ·simp [aI,wk2,wk1,wkM,Fr.get]
  ·have hj':j=a.params.length:=by simp at hc;omega
   subst hj'
   rw [List.drop_length] at j1 j2
   simp only [jd,yaf,yaj] at j1 j2
   simp only [cr,bv,bhq,Nat.reduceMod,Nat.reduceDiv,bc,bf,bg,bX,bh,bV,bQ,bT,bU,yaq,yar,yao,yap,go_sem,iq,aY,br,hg,hgc,hne,aZ hb,bw,aS,bG,ybb,htg,Int.toNat_natCast,List.set_cons_succ,List.set_cons_zero,ku,sg,hag,jo,a8,iJ,sf,fT,Int.toNat_zero,u256,e256,vv]
   (repeat with_reducible refine And.intro (by first|exact True.intro|decide|omega|(simp [zim,zgm,zgn,zgo,zgq,zgp,zgu];first|done|omega)) ?_)
   have hE:fe S b v n=(⟨t.id,R.1.1,R.1.2,act,G.1⟩,G.2):=by
    unfold fe
    dsimp only
    rw [ht,hR,← i3,hact,hao,show w+1=cp w 1 from rfl,hG]
   rw [hE] at hres hpos
   dsimp only at hres hpos
   subst hres
   subst hpos
   refine hP 87 (cW ⟨t.id,R.1.1,R.1.2,act,G.1⟩) ?_ ?_
   ·simp [Fr.get,cW,eA,jG,cn,ck,cH,eW,cG,i8,wkM,qQ,i1,i2,j1]
   simp only [bhq,Nat.reduceMod,Nat.reduceDiv,bc,bf,bg,bX,bh,bV,bQ,bT,bU,yaq,yar,yao,yap,go_sem,cW,eA]
   rw [j2]
   refine ⟨?_,?_,hcl2 _,lh ⟨t.id,R.1.1,R.1.2,act,G.1⟩⟩
   ·simp [wk,wk2,wkL,wk1,wkM]
   ·repeat first|exact .refl _|refine .push ?_ _
end Go.AL
open Go Go.AL Go.Proofs
namespace Go.AL
set_option linter.all false
set_option maxRecDepth 10000
end Go.AL
