/- Lemmas of the proof; no condition. -/
import Derived.Test.YtpbnggedofiinaaGreatS10e
import Derived.Test.YtpbnggedofiinaaGreatLEntB
set_option linter.all false
set_option maxRecDepth 10000
open List renaming length_cons → yaz, length_nil → yba, take_of_length_le → ybc, drop_append → ybd, take_append → ybe, drop_eq_nil_of_le → ybf, length_map → ybb, map_nil → yaf, getD_cons_zero → yau, getD_cons_succ → yav, take_succ_cons → yaq, take_zero → yar, drop_succ_cons → yao, drop_zero → yap, cons_append → yal, nil_append → yak
open Go Go.AL Go.Proofs
namespace Go.AL
theorem FQ {hi lo k:Nat} (h:lo<2^64):vOf hi lo % 2^(64+k)=vOf (hi % 2^k) lo:=by
 unfold vOf
 rw [Nat.pow_add,Nat.mod_mul,show (2^64*hi+lo) % 2^64=lo by omega,show (2^64*hi+lo)/2^64=hi by omega]
 omega
theorem z8 {hi lo k:Nat} (hk:k≤64):vOf hi lo % 2^k=lo % 2^k:=by
 unfold vOf
 rw [show (2:Nat)^64=2^k*2^(64 - k) by rw [← Nat.pow_add];congr 1;omega,Nat.mul_assoc,Nat.mul_add_mod]
theorem pN {k:Nat} (h:k<64):mX .u64 1 (k:Int)=((2^k:Nat):Int):=by
 have:=kv 1 k
 rw [Nat.shiftLeft_eq,Nat.one_mul,Nat.mod_eq_of_lt (Nat.pow_lt_pow_right (by decide) h)] at this
 exact this
theorem pu {k:Nat} (h:k<64):2^k<2^64:=Nat.pow_lt_pow_right (by decide) h
theorem lE {k:Nat} (h:k<64):IntKind.u64.wrap (((2^k:Nat):Int) - 1)=((2^k - 1:Nat):Int):=by
 have h1:=pu h
 have h2:=Nat.two_pow_pos k
 generalize 2^k=p at *
 rw [cG]<;>omega
theorem xL {a k:Nat} (ha:a<2^64) (h:k<64):we .u64 (a:Int) ((2^k - 1:Nat):Int)=((a % 2^k:Nat):Int):=by
 have h1:=pu h
 rw [pV a _ ha (by have:=Nat.two_pow_pos k;omega),Nat.and_two_pow_sub_one_eq_mod]
def r6 (hi lo:Int):Prop:=0≤hi∧hi<18446744073709551616∧0≤lo∧lo<18446744073709551616
def jt:List AV→AHeap→(AV→Prop)→Prop
 |[.agg [.int .u64 a,.int .u64 b],.int .i64 w],_,K=>(r6 a b ∧ -9223372036854775808≤w∧w<9223372036854775808)∧K (vv (low (vOf a.toNat b.toNat) w))
 |_,_,_=>False
theorem BF:EntOk Tryz.prog 206 (Ent.pure jt):=by
 refine Ype fun _ H K h=>?_
 unfold jt at h
 split at h
 rotate_left
 ·exact h.elim
 rename_i a b w
 obtain ⟨⟨⟨h0,h1,h2,h3⟩,hw1,hw2⟩,hK⟩:=h
 refine ⟨_,hK,?_⟩
 obtain ⟨x,rfl⟩:=bY h0
 obtain ⟨y,rfl⟩:=bY h2
 clear hK h0 h2
 simp only [iNq]
 have hx:x<2^64:=by omega
 have hy:y<2^64:=by omega
 unfold low
 rcases (by omega:128≤w∨(64≤w∧w<128)∨w≤0∨(0<w∧w<64)) with h|h|h|h
 ·rw [if_pos h,lY hy]
  have d1:decide (w ≥ 128)=true:=dtq h
  refine ACalls.fW ah tNq Tryz.func206 [.cell 4 38] (nrq _) (T:=ae []) (h:=fun hcl hlt=>?_)
  clear hlt
  simp only [go_sem,d1]
  exact Z2
 ·rw [if_neg (by omega)]
  obtain ⟨k,rfl⟩:∃ k:Nat,w=k+64:=⟨(w - 64).toNat,by omega⟩
  have hk:k<64:=by omega
  rw [show ((k:Int)+64).toNat=64+k by omega,FQ hy,lY hy]
  have d1:decide ((k:Int)+64 ≥ 128)=false:=dfq (by omega)
  have d2:decide ((k:Int)+64 ≥ 64)=true:=dtq (by omega)
  have e1:IntKind.i64.wrap ((k:Int)+64 - 64)=(k:Int):=by rw [wrap_i64]<;>omega
  have e2:IntKind.u64.wrap (k:Int)=(k:Int):=by rw [cG]<;>omega
  refine ACalls.fW ah tNq Tryz.func206 [.cell 4 38] (nrq _) (T:=ae []) (h:=fun hcl hlt=>?_)
  clear hlt
  simp only [go_sem,d1,d2,e1,e2,pN hk,lE hk,xL hx hk]
  (repeat with_reducible refine Yq ?_)
  exact Z2
 ·rw [if_neg (by omega),show w.toNat=0 by omega,Nat.pow_zero,Nat.mod_one]
  have v0:vv 0=.agg [.int .u64 0,.int .u64 0]:=rfl
  have d1:decide (w ≥ 128)=false:=dfq (by omega)
  have d2:decide (w ≥ 64)=false:=dfq (by omega)
  have d3:decide (w≤0)=true:=dtq (by omega)
  refine ACalls.fW ah tNq Tryz.func206 [.cell 4 38] (nrq _) (T:=ae []) (h:=fun hcl hlt=>?_)
  clear hlt
  simp only [go_sem,d1,d2,d3,v0]
  exact Z2
 ·rw [if_neg (by omega)]
  obtain ⟨k,rfl⟩:∃ k:Nat,w=k:=⟨w.toNat,by omega⟩
  have hk:k<64:=by omega
  rw [iNq,z8 (by omega)]
  have v0:vv (y % 2^k)=.agg [.int .u64 0,.int .u64 ((y % 2^k:Nat):Int)]:=by
   have:=lY (hi:=0) (lo:=y % 2^k) (Nat.lt_of_le_of_lt (Nat.mod_le _ _) hy)
   simpa [vOf] using this
  have d1:decide ((k:Int) ≥ 128)=false:=dfq (by omega)
  have d2:decide ((k:Int) ≥ 64)=false:=dfq (by omega)
  have d3:decide ((k:Int)≤0)=false:=dfq (by omega)
  have e2:IntKind.u64.wrap (k:Int)=(k:Int):=by rw [cG]<;>omega
  refine ACalls.fW ah tNq Tryz.func206 [.cell 4 38] (nrq _) (T:=ae []) (h:=fun hcl hlt=>?_)
  clear hlt
  simp only [go_sem,d1,d2,d3,e2,pN hk,lE hk,xL hy hk,v0]
  (repeat with_reducible refine Yq ?_)
  exact Z2
def xl:List AV→AHeap→(AV→Prop)→Prop
 |[.int .i64 w,.int .i64 n],_,K=>(1≤n∧n≤w∧w≤63)∧K (.agg [.int .u64 0,.int .u64 ((oJ w n:Nat):Int)])
 |_,_,_=>False
theorem Dv:EntOk Tryz.prog 237 (Ent.pure xl):=by
 refine Ype fun _ H K h=>?_
 unfold xl at h
 split at h
 rotate_left
 ·exact h.elim
 rename_i w n
 obtain ⟨⟨h1,h2,h3⟩,hK⟩:=h
 refine ⟨_,hK,?_⟩
 clear hK
 obtain ⟨w,rfl⟩:∃ k:Nat,w=k:=⟨w.toNat,by omega⟩
 obtain ⟨n,rfl⟩:∃ k:Nat,n=k:=⟨n.toNat,by omega⟩
 have hw:w<64:=by omega
 have hk:w - n<64:=by omega
 have e1:IntKind.i64.wrap ((w:Int) - (n:Int))=((w - n:Nat):Int):=by rw [wrap_i64]<;>omega
 have e2:IntKind.u64.wrap (w:Int)=(w:Int):=by rw [cG]<;>omega
 have e3:IntKind.u64.wrap ((w - n:Nat):Int)=((w - n:Nat):Int):=by rw [cG]<;>omega
 have e4:IntKind.u64.wrap (((2^w - 1:Nat):Int) - ((2^(w - n) - 1:Nat):Int))=((2^w - 2^(w - n):Nat):Int):=by
  have q1:=pu hw
  have q2:=Nat.two_pow_pos (w - n)
  have q3:2^(w - n)≤2^w:=Nat.pow_le_pow_right (by decide) (by omega)
  generalize 2^w=p at *
  generalize 2^(w - n)=q at *
  rw [cG]<;>omega
 have e5:oJ (w:Int) (n:Int)=2^w - 2^(w - n):=by
  unfold oJ
  rw [iNq,show ((w:Int) - (n:Int)).toNat=w - n by omega]
 rw [e5]
 refine ACalls.fW ah tNq Tryz.func237 [.cell 4 38] (nrq _) (T:=ae []) (h:=fun hcl hlt=>?_)
 clear hlt
 simp only [go_sem,e1,e2,e3,pN hw,pN hk,lE hw,lE hk,e4]
 (repeat with_reducible refine Yq ?_)
 exact Z2
theorem bH {α:Type} {f:α→AV} {l:List α} {k:Nat} {x:α} (hx:l[k]?=some x):(l.map f).getD k .junk=f x:=by
 rw [gEq,List.getElem?_map,hx];rfl
def gr:List AV→AHeap→(AV→Prop)→Prop
 |[.agg l,.int .i64 id],_,K=>∃ S:Sch,(l=cQ S∧S.fields.length≤1000000)∧K (.int .i64 (eW S id))
 |_,_,_=>False
theorem AB:EntOk Tryz.prog 236 (Ent.pure gr):=by
 refine Ype fun _ H K h=>?_
 unfold gr at h
 split at h
 rotate_left
 ·exact h.elim
 rename_i l id
 obtain ⟨S,⟨rfl,hl⟩,hK⟩:=h
 refine ⟨_,hK,?_⟩
 clear hK
 generalize hR:eW S id=R
 unfold eW at hR
 refine ACalls.fW ah tNq Tryz.func236 [.tmp 4] (nrq _) (T:=ae []) (h:=fun hcl hlt=>?_)
 clear hlt
 simp only [go_sem,cQ,ybb]
 refine aK (A:=Nat) (fun k=>[(1,.int .i64 id),(8,.slice .any 3 (S.fields.map lf)),(9,.int .i64 (S.fields.length:Int)),(10,.int .i64 (k:Int))]) (fun _=>H) (fun k=>k≤S.fields.length∧rZ (S.fields.drop k) id=R) (fun k=>S.fields.length - k) 0 ⟨by omega,hR⟩ ?_ fun k hk=>?_
 ·refine ⟨nrq _,(lRq _).push _,hcl,?_,?_⟩
  ·simp [ltF,znf,bg tx]
  ·simp [cf,wk2,wk1,wkM,Fr.get]
 clear hR
 obtain ⟨hk,hR⟩:=hk
 simp only [go_sem]
 refine af (fun hc=>?_) (fun hc=>?_)
 ·have hk':k<S.fields.length:=by simp at hc;omega
  obtain ⟨x,hx⟩:∃ x,x=S.fields[k]:=⟨_,rfl⟩
  have hd:S.fields.drop k=x::S.fields.drop (k+1):=by rw [hx];exact dcq hk'
  have hg:=bH (f:=lf) (l:=S.fields) (k:=k) (x:=x) (by rw [gQq hk',hx])
  have e5:=Yk5 k
  rw [hd] at hR
  unfold rZ at hR
  by_cases he:x.id=id
  ·rw [if_pos he] at hR
   subst he
   simp only [go_sem,iNq,ybb,hg,lf,beq_self_eq_true,hR]
   (repeat with_reducible refine Yq ?_)
   exact Z2
  ·rw [if_neg he] at hR
   have d1:(x.id==id)=false:=by simpa using he
   simp only [go_sem,iNq,ybb,hg,lf,d1,e5]
   (repeat with_reducible refine Yq ?_)
   refine ⟨k+1,⟨by omega,hR⟩,by omega,nrq _,(lRq _).push _,hcl,?_,?_⟩
   ·simp [ltF,znf,bg tx]
   ·simp [cf,wk2,wk1,wkM,Fr.get]
 ·have hk':k=S.fields.length:=by simp at hc;omega
  subst hk'
  rw [List.drop_length] at hR
  unfold rZ at hR
  simp only [go_sem,hR]
  exact Z2
def jA:List AV→AHeap→(AV→Prop)→Prop
 |[.agg l,.int .i64 id],_,K=>∃ S:Sch,(l=cQ S∧S.actions.length≤1000000)∧K (cy (fx S.actions id))
 |_,_,_=>False
theorem xa:EntOk Tryz.prog 205 (Ent.pure jA):=by
 refine Ype fun _ H K h=>?_
 unfold jA at h
 split at h
 rotate_left
 ·exact h.elim
 rename_i l id
 obtain ⟨S,⟨rfl,hl⟩,hK⟩:=h
 refine ⟨_,hK,?_⟩
 clear hK
 generalize hR:fx S.actions id=R
 refine ACalls.fW ah tNq Tryz.func205 [.cell 4 157] (nrq _) (T:=ae []) (h:=fun hcl hlt=>?_)
 clear hlt
 simp only [go_sem,cQ,ybb]
 have hcz:((H.push (.cells (cQ S))).push (.cells [.int .i64 0,.str [],.slice .nil 1 [],.slice .nil 1 [],.str []])).Closed :=
  aD (aD hcl (ltL_iff.2 fun j hj=>AV.lt_cells (rh S) j hj)) (by simp [znu,znv,znf,znh,lt_sliceL])
 refine aK (A:=Nat) (fun k=>[(1,.int .i64 id),(4,.ptr (H.nx+1) 0),(8,.slice .any 5 (S.actions.map cy)),(9,.int .i64 (S.actions.length:Int)),(10,.int .i64 (k:Int))]) (fun _=>(H.push (.cells (cQ S))).push (.cells [.int .i64 0,.str [],.slice .nil 1 [],.slice .nil 1 [],.str []])) (fun k=>k≤S.actions.length∧fx (S.actions.drop k) id=R) (fun k=>S.actions.length - k) 0 ⟨by omega,hR⟩ ?_ fun k hk=>?_
 ·refine ⟨by simp only [zle,zkq,zkv];omega,lRq _,hcz,?_,?_⟩
  ·simp [ltF,znf,znn,zle,bg lN]
  ·simp [cf,wk2,wk1,wkM,Fr.get]
 clear hR
 obtain ⟨hk,hR⟩:=hk
 simp only [go_sem]
 refine af (fun hc=>?_) (fun hc=>?_)
 ·have hk':k<S.actions.length:=by simp at hc;omega
  obtain ⟨x,hx⟩:∃ x,x=S.actions[k]:=⟨_,rfl⟩
  have hd:S.actions.drop k=x::S.actions.drop (k+1):=by rw [hx];exact dcq hk'
  have hg:=bH (f:=cy) (l:=S.actions) (k:=k) (x:=x) (by rw [gQq hk',hx])
  have e5:=Yk5 k
  rw [hd] at hR
  unfold fx at hR
  by_cases he:x.id=id
  ·rw [if_pos he] at hR
   subst he
   subst hR
   simp only [go_sem,iNq,ybb,hg,cy,beq_self_eq_true]
   (repeat with_reducible refine Yq ?_)
   have:=lN (n:=H.nx) x
   simp only [cy] at this
   simp (disch:=first|exact Zd|omega) [↓zmo,beq,ybc,ybd,ybe,ag,wk,wk2,wk1,wkM,wkL,ak,ybf,hcl,this]
  ·rw [if_neg he] at hR
   have d1:(x.id==id)=false:=by simpa using he
   simp only [go_sem,iNq,ybb,hg,cy,d1,e5]
   (repeat with_reducible refine Yq ?_)
   refine ⟨k+1,⟨by omega,hR⟩,by omega,by simp only [zle];omega,(lRq _).push _,hcz,?_,?_⟩
   ·simp [ltF,znf,znn,zle,bg lN]
   ·simp [cf,wk2,wk1,wkM,Fr.get,cy]
 ·have hk':k=S.actions.length:=by simp at hc;omega
  subst hk'
  rw [List.drop_length] at hR
  unfold fx at hR
  subst hR
  simp only [go_sem,cy,yaf]
  exact Z2
def od (w kind:Int):List UInt8→Nat→AV × Nat:=fun b v=>(aR (cq b v w kind).1,(cq b v w kind).2)
theorem DU {b:List UInt8} {v:Nat}:qy b (min v b.length)=qy b v:=by unfold qy;simp only [cD,aG]
theorem yn {b:List UInt8} {v k:Nat} {w:Int}:ra b (min v b.length+k) w=ra b (v+k) w:=by unfold ra ci;simp only [Nat.add_assoc,cD]
theorem u1 {b:List UInt8} {v k:Nat}:mJ b (min v b.length+k)=mJ b (v+k):=by unfold mJ;simp only [Nat.add_assoc,cD]
theorem qf (w kind:Int):pk (od w kind):=fun b v=>by
 unfold od cq
 simp only [DU,yn,u1,cD]
 by_cases h2:kind=2
 ·simp only [if_pos h2]
  by_cases h:0<cv b (v+3) 5
  ·simp only [if_pos h];first|exact ⟨rfl,6,rfl,rfl⟩|exact ⟨trivial,6,rfl,rfl⟩
  ·simp only [if_neg h];first|exact ⟨rfl,4,rfl,rfl⟩|exact ⟨trivial,4,rfl,rfl⟩
 by_cases h3:kind=3
 ·simp only [if_neg h2,if_pos h3]
  split<;>first|exact ⟨rfl,5,rfl,rfl⟩|exact ⟨trivial,5,rfl,rfl⟩
 by_cases h4:kind=4
 ·simp only [if_neg h2,if_neg h3,if_pos h4]
  split<;>first|exact ⟨rfl,5,rfl,rfl⟩|exact ⟨trivial,5,rfl,rfl⟩
 ·simp only [if_neg h2,if_neg h3,if_neg h4]
  first|exact ⟨rfl,3,rfl,rfl⟩|exact ⟨trivial,3,rfl,rfl⟩
def xI:List AV→AHeap→(AEnd→AHeap→Prop)→Prop
 |[.ptr id 0,.agg l,.agg [.str nm,.int .i64 fld,.int .i64 kind]],H,K=>∃ S:Sch,(l=cQ S∧S.fields.length≤1000000∧1≤eW S fld∧eW S fld≤32∧(kind=2→16≤eW S fld)) ∧
   onS (H.get id) (od (eW S fld) kind) fun x o=>K (.ret x) (H.set id o)
 |_,_,_=>False
theorem E1 {x:Nat} (h:x<2^64):vv x=.agg [.int .u64 0,.int .u64 (x:Int)]:=by
 unfold vv
 rw [Nat.div_eq_of_lt h,Nat.mod_eq_of_lt h];rfl
theorem gA (x:Nat):vOf 0 x=x:=by unfold vOf;omega
theorem pO {x:Nat} {w:Int} (h1:1≤w) (h2:w≤32):low x w<2^32:=by
 unfold low
 rw [if_neg (by omega)]
 exact Nat.lt_of_lt_of_le (Nat.mod_lt _ (Nat.two_pow_pos _)) (Nat.pow_le_pow_right (by decide) (by omega))
theorem DN {b:List UInt8} {u:Nat} {w:Int}:([.int .i64 w,.int .i64 8,.int .i64 16,.int .i64 1,.int .i64 (1+((cv b (cp u 0) w.toNat:Nat):Int))]:List AV).getD (cv b (cp u 1) 5) .junk=.int .i64 (ra b u w):=by
 have h:=cn (b:=b) (v:=u+1) (n:=5) (by decide)
 unfold ra cp ci
 rw [Nat.add_zero]
 rcases (by omega:cv b (u+1) 5=0∨cv b (u+1) 5=1∨cv b (u+1) 5=2∨cv b (u+1) 5=3∨cv b (u+1) 5=4) with e|e|e|e|e<;>rw [e]<;>rfl
theorem BI {b:List UInt8} {u:Nat} {w:Int} (h1:16≤w):1≤ra b u w∧ra b u w≤w:=by
 have h:=cn (b:=b) (v:=u+1) (n:=5) (by decide)
 have h':=cn (b:=b) (v:=u) (n:=w.toNat) (by omega)
 unfold ra ci
 rcases (by omega:cv b (u+1) 5=0∨cv b (u+1) 5=1∨cv b (u+1) 5=2∨cv b (u+1) 5=3∨cv b (u+1) 5=4) with e|e|e|e|e<;>rw [e]<;>simp only [yau,yav]<;>omega
theorem Cd {b:List UInt8} {u:Nat}:([.int .i64 255,.int .i64 15,.int .i64 1,.int .i64 12,.int .i64 ((cv b (cp u 0) 256:Nat):Int)]:List AV).getD (cv b (cp u 1) 5) .junk=.int .i64 ((mJ b u:Nat):Int):=by
 have h:=cn (b:=b) (v:=u+1) (n:=5) (by decide)
 unfold mJ cp
 rw [Nat.add_zero]
 rcases (by omega:cv b (u+1) 5=0∨cv b (u+1) 5=1∨cv b (u+1) 5=2∨cv b (u+1) 5=3∨cv b (u+1) 5=4) with e|e|e|e|e<;>rw [e]<;>rfl
theorem Er {b:List UInt8} {u:Nat}:mJ b u<256:=by
 have h:=cn (b:=b) (v:=u+1) (n:=5) (by decide)
 have h':=cn (b:=b) (v:=u) (n:=256) (by decide)
 unfold mJ
 rcases (by omega:cv b (u+1) 5=0∨cv b (u+1) 5=1∨cv b (u+1) 5=2∨cv b (u+1) 5=3∨cv b (u+1) 5=4) with e|e|e|e|e<;>rw [e]<;>simp only [yau,yav]<;>omega
theorem FR {b:List UInt8} {v:Nat}:qy b v<2^32:=by
 unfold qy
 refine Nat.or_lt_two_pow (Nat.or_lt_two_pow ?_ ?_) ?_
 ·have:=cn (b:=b) (v:=v) (n:=256) (by decide)
  rw [Nat.shiftLeft_eq];omega
 ·have:=cn (b:=b) (v:=v+1) (n:=16) (by decide)
  rw [Nat.shiftLeft_eq];omega
 ·have:=cn (b:=b) (v:=v+2) (n:=16) (by decide)
  omega
theorem ED {w n:Int} (h:w≤32):oJ w n<2^33:=by
 unfold oJ
 have:2^w.toNat≤2^32:=Nat.pow_le_pow_right (by decide) (by omega)
 have:=Nat.sub_le (2^w.toNat) (2^(w - n).toNat)
 omega
theorem wM {p:Prop} [Decidable p] {t:Bool} (h:decide p=t):p=(t=true):=by subst h;simp
set_option maxHeartbeats 4000000 in
theorem CI:EntOk Tryz.prog 204 (Ent.effect xI):=by
 refine EntOk.effect fun args H K h=>?_
 unfold xI at h
 split at h
 rotate_left
 ·exact h.elim
 rename_i id l nm fld kind
 obtain ⟨S,⟨rfl,hf,hw1,hw2,hk2⟩,h⟩:=h
 generalize hwo:eW S fld=w at *
 obtain ⟨w,rfl⟩:∃ k:Nat,w=k:=⟨w.toNat,by omega⟩
 unfold onS at h
 obtain ⟨b,v,hg,hb,hv,hK⟩:=fp h
 refine ⟨_,_,hK,?_⟩
 clear hK h
 unfold od
 dsimp only
 generalize hr:cq b v w kind=r
 obtain ⟨m,p⟩:=r
 dsimp only
 refine ACalls.fW ah (tCq ff (tCq AB (tCq BF (tCq Dv tNq)))) Tryz.func204 [.cell 6 254] (nrq _) (T:=ae [(8,[[],[],[],[],[],[],[],[],[],[],[2,5]]),(14,[[],[],[],[],[3]])]) (h:=fun hcl hlt=>?_)
 clear hlt
 have hid:=glq hg
 have hne:=iJ hid
 have hgc:=fo (b:=b) hid
 have hcl2:∀ w,(H.set id (cr b w)).Closed:=fun w=>aP hcl fk
 have e256:(256:Int).toNat=256:=rfl
 have e16:(16:Int).toNat=16:=rfl
 have e5:(5:Int).toNat=5:=rfl
 have c256:∀ u,cv b u 256<256:=fun u=>cn (by decide)
 have c16:∀ u,cv b u 16<16:=fun u=>cn (by decide)
 have c5:∀ u,cv b u 5<5:=fun u=>cn (by decide)
 have u256:∀ u,IntKind.u64.wrap ((cv b u 256:Nat):Int)=((cv b u 256:Nat):Int):=fun u=>by have:=c256 u;rw [cG (by omega) (by omega)]
 have u16:∀ u,IntKind.u64.wrap ((cv b u 16:Nat):Int)=((cv b u 16:Nat):Int):=fun u=>by have:=c16 u;rw [cG (by omega) (by omega)]
 have s24:∀ u,mX .u64 ((cv b u 256:Nat):Int) 24=((cv b u 256 <<< 24:Nat):Int):=fun u=>by
  have:=c256 u
  have e:=kv (cv b u 256) 24
  rw [Nat.mod_eq_of_lt (by rw [Nat.shiftLeft_eq];omega)] at e
  exact e
 have s8:∀ u,mX .u64 ((cv b u 16:Nat):Int) 8=((cv b u 16 <<< 8:Nat):Int):=fun u=>by
  have:=c16 u
  have e:=kv (cv b u 16) 8
  rw [Nat.mod_eq_of_lt (by rw [Nat.shiftLeft_eq];omega)] at e
  exact e
 have l24:∀ u,cv b u 256 <<< 24<2^64:=fun u=>by have:=c256 u;rw [Nat.shiftLeft_eq];omega
 have l8:∀ u,cv b u 16 <<< 8<2^64:=fun u=>by have:=c16 u;rw [Nat.shiftLeft_eq];omega
 have o1:∀ u u',ior .u64 ((cv b u 256 <<< 24:Nat):Int) ((cv b u' 16 <<< 8:Nat):Int)=((cv b u 256 <<< 24 ||| cv b u' 16 <<< 8:Nat):Int):=fun u u'=>ou _ _ (l24 u) (l8 u')
 have o2:∀ u u' u'',ior .u64 ((cv b u 256 <<< 24 ||| cv b u' 16 <<< 8:Nat):Int) ((cv b u'' 16:Nat):Int)=((cv b u 256 <<< 24 ||| cv b u' 16 <<< 8 ||| cv b u'' 16:Nat):Int):=fun u u' u''=>ou _ _ (Nat.or_lt_two_pow (l24 u) (l8 u')) (by have:=c16 u'';omega)
 have hN:(cv b (cp v 0) 256 <<< 24 ||| cv b (cp v 1) 16 <<< 8 ||| cv b (cp v 2) 16)=qy b v:=rfl
 have hNl:=FR (b:=b) (v:=v)
 have hXl:=pO (x:=qy b v) hw1 hw2
 have hvv:∀ x:Nat,x<2^32→vv x=.agg [.int .u64 0,.int .u64 (x:Int)]:=fun x hx=>E1 (by omega)
 simp only [go_sem,ay,gr,jt,r6,cQ,hg,hgc,av hb,aG,ap,aI,hne,e256,e16,e5,u256,u16,s24,s8,o1,o2,hN,iNq,Int.toNat_zero,gA]
 (repeat with_reducible refine Yq ?_)
 refine ⟨S,⟨rfl,hf⟩,?_⟩
 rw [hwo]
 simp only [bk,bh,bhq,Nat.reduceMod,Nat.reduceDiv,aA,az,aB,aZ,aC,aY,aS,aU,aV,yaq,yar,yao,yap,go_sem,ay,gr,jt,r6,cQ,hg,hgc,av hb,aG,ap,aI,hne,e256,e16,e5,u256,u16,s24,s8,o1,o2,hN,iNq,Int.toNat_zero,gA,hvv _ hXl]
 (repeat with_reducible refine Yq ?_)
 have hX64:low (qy b v) (w:Int)<2^64:=by omega
 have i5:∀ u,(0≤((cv b u 5:Nat):Int)∧((cv b u 5:Nat):Int)<((5:Nat):Int))=True:=fun u=>ET (by decide)
 have zm:aR dV=.agg [.bool false,.int .u64 0,.int .u64 0,.int .u64 0,.int .u64 0,.int .i64 0,.int .u64 0,.int .u64 0]:=rfl
 have v0:vc 0=[.int .u64 0,.int .u64 0]:=rfl
 generalize hX:low (qy b v) (w:Int)=X at *
 unfold cq at hr
 dsimp only at hr
 rw [hX] at hr
 by_cases q2:kind=2
 ·subst q2
  have hw16:=hk2 rfl
  rw [if_pos rfl] at hr
  obtain ⟨p1,p2⟩:=BI (b:=b) (u:=v+4) hw16
  have pg:([.int .i64 (w:Int),.int .i64 8,.int .i64 16,.int .i64 1,.int .i64 (1+((cv b (cp v 4) w:Nat):Int))]:List AV).getD (cv b (cp v 5) 5) .junk=.int .i64 (ra b (v+4) (w:Int)):=DN (u:=v+4) (w:=(w:Int))
  have pl:cv b (cp v 4) w<w:=cn (by omega)
  have pw:IntKind.i64.wrap (1+((cv b (cp v 4) w:Nat):Int))=1+((cv b (cp v 4) w:Nat):Int):=by rw [wrap_i64]<;>omega
  have hM:=ED (w:=(w:Int)) (n:=ra b (v+4) (w:Int)) hw2
  generalize ra b (v+4) (w:Int)=n at *
  have ia:we .u64 (X:Int) ((oJ (w:Int) n:Nat):Int)=((X &&& oJ (w:Int) n:Nat):Int):=pV _ _ hX64 (by omega)
  have iv:vc (X &&& oJ (w:Int) n)=[.int .u64 0,.int .u64 ((X &&& oJ (w:Int) n:Nat):Int)]:=gY (Nat.lt_of_le_of_lt Nat.and_le_left hX64)
  by_cases h5:0<cv b (v+3) 5
  ·rw [if_pos h5] at hr
   cases hr
   have d1:decide (((cv b (cp v 3) 5:Nat):Int) > 0)=true:=dtq (by unfold cp;omega)
   simp only [bk,bh,bhq,Nat.reduceMod,Nat.reduceDiv,aA,az,aB,aZ,aC,aY,aS,aU,aV,yaq,yar,yao,yap,go_sem,ay,gr,jt,r6,cQ,hg,hgc,av hb,aG,ap,aI,hne,e256,e16,e5,u256,u16,s24,s8,o1,o2,hN,iNq,Int.toNat_zero,gA,hvv _ hXl,beq_self_eq_true,d1,pw,i5,pg,xl,ia,aR,cR,iv,v0,yal,yak]
   (repeat with_reducible refine Yq ?_)
   simp (disch:=first|exact Zd|omega) [↓zmo,beq,ybc,ybd,ybe,ag,wk,wk2,wk1,wkM,wkL,ak,ybf,hcl2]
   first|done|repeat first|exact .refl _|refine .push ?_ _
  ·rw [if_neg h5] at hr
   cases hr
   have d1:decide (((cv b (cp v 3) 5:Nat):Int) > 0)=false:=dfq (by unfold cp;omega)
   simp only [bk,bh,bhq,Nat.reduceMod,Nat.reduceDiv,aA,az,aB,aZ,aC,aY,aS,aU,aV,yaq,yar,yao,yap,go_sem,ay,gr,jt,r6,cQ,hg,hgc,av hb,aG,ap,aI,hne,e256,e16,e5,u256,u16,s24,s8,o1,o2,hN,iNq,Int.toNat_zero,gA,hvv _ hXl,beq_self_eq_true,d1,zm]
   (repeat with_reducible refine Yq ?_)
   simp (disch:=first|exact Zd|omega) [↓zmo,beq,ybc,ybd,ybe,ag,wk,wk2,wk1,wkM,wkL,ak,ybf,hcl2]
   first|done|repeat first|exact .refl _|refine .push ?_ _
 rw [if_neg q2] at hr
 have k2:(kind==2)=false:=by simpa using q2
 by_cases q3:kind=3
 ·subst q3
  rw [if_pos rfl] at hr
  have pg:([.int .i64 255,.int .i64 15,.int .i64 1,.int .i64 12,.int .i64 ((cv b (cp v 3) 256:Nat):Int)]:List AV).getD (cv b (cp v 4) 5) .junk=.int .i64 ((mJ b (v+3):Nat):Int):=Cd (u:=v+3)
  have hMl:=Er (b:=b) (u:=v+3)
  generalize mJ b (v+3)=g at *
  have ug:IntKind.u64.wrap (g:Int)=(g:Int):=by rw [cG]<;>omega
  have hYl:=pO (x:=g) hw1 hw2
  have hYv:=hvv _ hYl
  obtain ⟨Y,hY⟩:∃ Y,low g (w:Int)=Y:=⟨_,rfl⟩
  rw [hY] at hYl hYv hr
  have ia:we .u64 (X:Int) (Y:Int)=((X &&& Y:Nat):Int):=pV _ _ hX64 (by omega)
  have iv:vc (X &&& Y)=[.int .u64 0,.int .u64 ((X &&& Y:Nat):Int)]:=gY (Nat.lt_of_le_of_lt Nat.and_le_left hX64)
  have iv2:vc Y=[.int .u64 0,.int .u64 (Y:Int)]:=gY (by omega)
  by_cases h5:Y≠0
  ·rw [if_pos h5] at hr
   cases hr
   have d1:((Y:Int) != 0)=true:=by simpa using h5
   simp only [bk,bh,bhq,Nat.reduceMod,Nat.reduceDiv,aA,az,aB,aZ,aC,aY,aS,aU,aV,yaq,yar,yao,yap,go_sem,ay,gr,jt,r6,cQ,hg,hgc,av hb,aG,ap,aI,hne,e256,e16,e5,u256,u16,s24,s8,o1,o2,hN,iNq,Int.toNat_zero,gA,hvv _ hXl,k2,beq_self_eq_true,d1,i5,pg,ug,hY,hYv,ia,aR,cR,iv,iv2,v0,yal,yak]
   (repeat with_reducible refine Yq ?_)
   simp (disch:=first|exact Zd|omega) [↓zmo,beq,ybc,ybd,ybe,ag,wk,wk2,wk1,wkM,wkL,ak,ybf,hcl2]
   first|done|repeat first|exact .refl _|refine .push ?_ _
  ·rw [if_neg h5] at hr
   cases hr
   have d1:((Y:Int) != 0)=false:=by simpa using h5
   simp only [bk,bh,bhq,Nat.reduceMod,Nat.reduceDiv,aA,az,aB,aZ,aC,aY,aS,aU,aV,yaq,yar,yao,yap,go_sem,ay,gr,jt,r6,cQ,hg,hgc,av hb,aG,ap,aI,hne,e256,e16,e5,u256,u16,s24,s8,o1,o2,hN,iNq,Int.toNat_zero,gA,hvv _ hXl,k2,beq_self_eq_true,d1,i5,pg,ug,hY,hYv,zm]
   (repeat with_reducible refine Yq ?_)
   simp (disch:=first|exact Zd|omega) [↓zmo,beq,ybc,ybd,ybe,ag,wk,wk2,wk1,wkM,wkL,ak,ybf,hcl2]
   first|done|repeat first|exact .refl _|refine .push ?_ _
 rw [if_neg q3] at hr
 have k3:(kind==3)=false:=by simpa using q3
 have iv2:vc X=[.int .u64 0,.int .u64 (X:Int)]:=gY hX64
 by_cases q4:kind=4
 ·subst q4
  rw [if_pos rfl] at hr
  have uw:IntKind.u64.wrap (w:Int)=(w:Int):=by rw [cG]<;>omega
  have hw64:w<64:=by omega
  have c9:=c256 (cp v 3)
  have ws:IntKind.u64.wrap ((X:Int)+((cv b (cp v 3) 256:Nat):Int))=((X+cv b (cp v 3) 256:Nat):Int):=by rw [cG]<;>omega
  have mn:min (((X+cv b (cp v 3) 256:Nat):Int)) (((2^w - 1:Nat):Int))=((oR X (cv b (cp v 3) 256) (w:Int):Nat):Int):=by
   unfold oR;rw [iNq];omega
  have hHl:oR X (cv b (cp v 3) 256) (w:Int)<2^64:=by
   unfold oR;omega
  have hHc:oR X (cv b (v+3) 256) (w:Int)=oR X (cv b (cp v 3) 256) (w:Int):=rfl
  rw [hHc,iNq] at hr
  clear hHc
  generalize oR X (cv b (cp v 3) 256) (w:Int)=Z at *
  have iv3:vc Z=[.int .u64 0,.int .u64 (Z:Int)]:=gY hHl
  have kk2:((4:Int)==2)=false:=rfl
  have kk3:((4:Int)==3)=false:=rfl
  have dz:((X:Int)==0)=decide (X=0):=by rw [Bool.eq_iff_iff];simp
  have dh:((Z:Int)==((2^w - 1:Nat):Int))=decide (Z=2^w - 1):=by rw [Bool.eq_iff_iff];simp only [beq_iff_eq,decide_eq_true_eq];omega
  have dc:decide (((cv b (cp v 4) 5:Nat):Int) > 0)=decide (0<cv b (v+4) 5):=by rw [decide_eq_decide];unfold cp;omega
  cases hz:((X:Int)==0)<;>cases hh:((Z:Int)==((2^w - 1:Nat):Int))<;>cases hcv:decide (((cv b (cp v 4) 5:Nat):Int) > 0)
  all_goals
   have g1:=wM (dc.symm.trans hcv)
   have g2:=wM (dz.symm.trans hz)
   have g3:=wM (dh.symm.trans hh)
   simp only [g1,g2,g3,Bool.false_eq_true,not_true_eq_false,nFq,and_self,and_true,and_false,true_and,false_and,if_true,if_false] at hr
   cases hr
  all_goals
   simp only [bk,bh,bhq,Nat.reduceMod,Nat.reduceDiv,aA,az,aB,aZ,aC,aY,aS,aU,aV,yaq,yar,yao,yap,go_sem,ay,gr,jt,r6,cQ,hg,hgc,av hb,aG,ap,aI,hne,e256,e16,e5,u256,u16,s24,s8,o1,o2,hN,iNq,Int.toNat_zero,gA,hvv _ hXl,kk2,kk3,beq_self_eq_true,uw,ws,pN hw64,lE hw64,mn,hz,hh,hcv,↓zm,aR,cR,iv2,iv3,v0,yal,yak,Bool.not_true,Bool.not_false]
   (repeat with_reducible refine Yq ?_)
   simp (disch:=first|exact Zd|omega) [↓zmo,beq,ybc,ybd,ybe,ag,wk,wk2,wk1,wkM,wkL,ak,ybf,hcl2]
   first|done|repeat first|exact .refl _|refine .push ?_ _
 rw [if_neg q4] at hr
 cases hr
 have k4:(kind==4)=false:=by simpa using q4
 simp only [bk,bh,bhq,Nat.reduceMod,Nat.reduceDiv,aA,az,aB,aZ,aC,aY,aS,aU,aV,yaq,yar,yao,yap,go_sem,ay,gr,jt,r6,cQ,hg,hgc,av hb,aG,ap,aI,hne,e256,e16,e5,u256,u16,s24,s8,o1,o2,hN,iNq,Int.toNat_zero,gA,hvv _ hXl,k2,k3,k4,aR,cR,iv2,v0,yal,yak]
 (repeat with_reducible refine Yq ?_)
 simp (disch:=first|exact Zd|omega) [↓zmo,beq,ybc,ybd,ybe,ag,wk,wk2,wk1,wkM,wkL,ak,ybf,hcl2]
 first|done|repeat first|exact .refl _|refine .push ?_ _
end Go.AL
