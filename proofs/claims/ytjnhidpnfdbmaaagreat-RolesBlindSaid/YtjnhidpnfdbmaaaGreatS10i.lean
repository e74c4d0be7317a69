/- Lemmas of the proof; no condition. -/
import Derived.Test.YtjnhidpnfdbmaaaGreatS10e
import Derived.Test.YtjnhidpnfdbmaaaGreatLEntB
set_option linter.all false
set_option maxRecDepth 10000
set_option maxHeartbeats 32000000
open List renaming length_cons → yaz, length_nil → yba, take_of_length_le → ybc, drop_append → ybd, take_append → ybe, drop_eq_nil_of_le → ybf, length_map → ybb, map_nil → yaf, getD_cons_zero → yau, getD_cons_succ → yav, take_succ_cons → yaq, take_zero → yar, drop_succ_cons → yao, drop_zero → yap, cons_append → yal, nil_append → yak, append_nil → yaj
open Go Go.AL Go.Proofs
namespace Go.AL
theorem I4 {hi lo k:Nat} (h:lo<2^64):vOf hi lo % 2^(64+k)=vOf (hi % 2^k) lo:=by
 unfold vOf
 rw [Nat.pow_add,Nat.mod_mul,show (2^64*hi+lo) % 2^64=lo by omega,show (2^64*hi+lo)/2^64=hi by omega]
 omega
theorem Ap {hi lo k:Nat} (hk:k≤64):vOf hi lo % 2^k=lo % 2^k:=by
 unfold vOf
 rw [show (2:Nat)^64=2^k*2^(64 - k) by rw [← Nat.pow_add];congr 1;omega,Nat.mul_assoc,Nat.mul_add_mod]
theorem oW {k:Nat} (h:k<64):yP .u64 1 (k:Int)=((2^k:Nat):Int):=by
 have:=qc 1 k
 rw [Nat.shiftLeft_eq,Nat.one_mul,Nat.mod_eq_of_lt (Nat.pow_lt_pow_right (by decide) h)] at this
 exact this
theorem oK {k:Nat} (h:k<64):2^k<2^64:=Nat.pow_lt_pow_right (by decide) h
theorem kW {k:Nat} (h:k<64):IntKind.u64.wrap (((2^k:Nat):Int) - 1)=((2^k - 1:Nat):Int):=by
 have h1:=oK h
 have h2:=Nat.two_pow_pos k
 generalize 2^k=p at *
 rw [cP]<;>omega
theorem ya {a k:Nat} (ha:a<2^64) (h:k<64):u6 .u64 (a:Int) ((2^k - 1:Nat):Int)=((a % 2^k:Nat):Int):=by
 have h1:=oK h
 rw [jE a _ ha (by have:=Nat.two_pow_pos k;omega),Nat.and_two_pow_sub_one_eq_mod]
def rZ (hi lo:Int):Prop:=0≤hi∧hi<18446744073709551616∧0≤lo∧lo<18446744073709551616
def iI:List AV→AHeap→(AV→Prop)→Prop
 |[.agg [.int .u64 a,.int .u64 b],.int .i64 w],_,K=>(rZ a b ∧ -9223372036854775808≤w∧w<9223372036854775808)∧K (vv (low (vOf a.toNat b.toNat) w))
 |_,_,_=>False
theorem Ck:EntOk Tryz.prog 60 (Ent.pure iI):=by
 refine Ype fun _ H K h=>?_
 unfold iI at h
 split at h
 rotate_left
 ·exact h.elim
 rename_i a b w
 obtain ⟨⟨⟨h0,h1,h2,h3⟩,hw1,hw2⟩,hK⟩:=h
 refine ⟨_,hK,?_⟩
 obtain ⟨x,rfl⟩:=bL h0
 obtain ⟨y,rfl⟩:=bL h2
 clear hK h0 h2
 simp only [iNq]
 have hx:x<2^64:=by omega
 have hy:y<2^64:=by omega
 unfold low
 rcases (by omega:128≤w∨(64≤w∧w<128)∨w≤0∨(0<w∧w<64)) with h|h|h|h
 ·rw [if_pos h,oE hy]
  have d1:decide (w ≥ 128)=true:=dtq h
  refine ACalls.fW au tNq Tryz.func60 [.cell 4 29] (nrq _) (T:=aq []) (h:=fun hcl hlt=>?_)
  clear hlt
  simp only [go_sem,d1]
  exact Z0
 ·rw [if_neg (by omega)]
  obtain ⟨k,rfl⟩:∃ k:Nat,w=k+64:=⟨(w - 64).toNat,by omega⟩
  have hk:k<64:=by omega
  rw [show ((k:Int)+64).toNat=64+k by omega,I4 hy,oE hy]
  have d1:decide ((k:Int)+64 ≥ 128)=false:=dfq (by omega)
  have d2:decide ((k:Int)+64 ≥ 64)=true:=dtq (by omega)
  have e1:IntKind.i64.wrap ((k:Int)+64 - 64)=(k:Int):=by rw [wrap_i64]<;>omega
  have e2:IntKind.u64.wrap (k:Int)=(k:Int):=by rw [cP]<;>omega
  refine ACalls.fW au tNq Tryz.func60 [.cell 4 29] (nrq _) (T:=aq []) (h:=fun hcl hlt=>?_)
  clear hlt
  simp only [go_sem,d1,d2,e1,e2,oW hk,kW hk,ya hx hk]
  (repeat with_reducible refine Yq ?_)
  exact Z0
 ·rw [if_neg (by omega),show w.toNat=0 by omega,Nat.pow_zero,Nat.mod_one]
  have v0:vv 0=.agg [.int .u64 0,.int .u64 0]:=rfl
  have d1:decide (w ≥ 128)=false:=dfq (by omega)
  have d2:decide (w ≥ 64)=false:=dfq (by omega)
  have d3:decide (w≤0)=true:=dtq (by omega)
  refine ACalls.fW au tNq Tryz.func60 [.cell 4 29] (nrq _) (T:=aq []) (h:=fun hcl hlt=>?_)
  clear hlt
  simp only [go_sem,d1,d2,d3,v0]
  exact Z0
 ·rw [if_neg (by omega)]
  obtain ⟨k,rfl⟩:∃ k:Nat,w=k:=⟨w.toNat,by omega⟩
  have hk:k<64:=by omega
  rw [iNq,Ap (by omega)]
  have v0:vv (y % 2^k)=.agg [.int .u64 0,.int .u64 ((y % 2^k:Nat):Int)]:=by
   have:=oE (hi:=0) (lo:=y % 2^k) (Nat.lt_of_le_of_lt (Nat.mod_le _ _) hy)
   simpa [vOf] using this
  have d1:decide ((k:Int) ≥ 128)=false:=dfq (by omega)
  have d2:decide ((k:Int) ≥ 64)=false:=dfq (by omega)
  have d3:decide ((k:Int)≤0)=false:=dfq (by omega)
  have e2:IntKind.u64.wrap (k:Int)=(k:Int):=by rw [cP]<;>omega
  refine ACalls.fW au tNq Tryz.func60 [.cell 4 29] (nrq _) (T:=aq []) (h:=fun hcl hlt=>?_)
  clear hlt
  simp only [go_sem,d1,d2,d3,e2,oW hk,kW hk,ya hy hk,v0]
  (repeat with_reducible refine Yq ?_)
  exact Z0
def xd:List AV→AHeap→(AV→Prop)→Prop
 |[.int .i64 w,.int .i64 n],_,K=>(1≤n∧n≤w∧w≤63)∧K (.agg [.int .u64 0,.int .u64 ((nP w n:Nat):Int)])
 |_,_,_=>False
theorem FT:EntOk Tryz.prog 101 (Ent.pure xd):=by
 refine Ype fun _ H K h=>?_
 unfold xd at h
 split at h
 rotate_left
 ·exact h.elim
 rename_i w n
 obtain ⟨⟨h1,h2,h3⟩,hK⟩:=h
 refine ⟨_,hK,?_⟩
 clear hK
 obtain ⟨w,rfl⟩:∃ k:Nat,w=k:=⟨w.toNat,by omega⟩
 obtain ⟨n,rfl⟩:∃ k:Nat,n=k:=⟨n.toNat,by omega⟩
 have hw:w<64:=by omega
 have hk:w - n<64:=by omega
 have e1:IntKind.i64.wrap ((w:Int) - (n:Int))=((w - n:Nat):Int):=by rw [wrap_i64]<;>omega
 have e2:IntKind.u64.wrap (w:Int)=(w:Int):=by rw [cP]<;>omega
 have e3:IntKind.u64.wrap ((w - n:Nat):Int)=((w - n:Nat):Int):=by rw [cP]<;>omega
 have e4:IntKind.u64.wrap (((2^w - 1:Nat):Int) - ((2^(w - n) - 1:Nat):Int))=((2^w - 2^(w - n):Nat):Int):=by
  have q1:=oK hw
  have q2:=Nat.two_pow_pos (w - n)
  have q3:2^(w - n)≤2^w:=Nat.pow_le_pow_right (by decide) (by omega)
  generalize 2^w=p at *
  generalize 2^(w - n)=q at *
  rw [cP]<;>omega
 have e5:nP (w:Int) (n:Int)=2^w - 2^(w - n):=by
  unfold nP
  rw [iNq,show ((w:Int) - (n:Int)).toNat=w - n by omega]
 rw [e5]
 refine ACalls.fW au tNq Tryz.func101 [.cell 4 29] (nrq _) (T:=aq []) (h:=fun hcl hlt=>?_)
 clear hlt
 simp only [go_sem,e1,e2,e3,oW hw,oW hk,kW hw,kW hk,e4]
 (repeat with_reducible refine Yq ?_)
 exact Z0
theorem aU {α:Type} {f:α→AV} {l:List α} {k:Nat} {x:α} (hx:l[k]?=some x):(l.map f).getD k .junk=f x:=by
 rw [gEq,List.getElem?_map,hx];rfl
def fj:List AV→AHeap→(AV→Prop)→Prop
 |[.agg l,.int .i64 id],_,K=>∃ S:Sch,(l=aW S∧S.fields.length≤1000000)∧K (.int .i64 (cO S id))
 |_,_,_=>False
theorem zZ:EntOk Tryz.prog 100 (Ent.pure fj):=by
 refine Ype fun _ H K h=>?_
 unfold fj at h
 split at h
 rotate_left
 ·exact h.elim
 rename_i l id
 obtain ⟨S,⟨rfl,hl⟩,hK⟩:=h
 refine ⟨_,hK,?_⟩
 clear hK
 generalize hR:cO S id=R
 unfold cO at hR
 refine ACalls.fW au tNq Tryz.func100 [.tmp 4] (nrq _) (T:=aq []) (h:=fun hcl hlt=>?_)
 clear hlt
 simp only [go_sem,aW,ybb]
 refine az (A:=Nat) (fun k=>[(1,.int .i64 id),(8,.slice .any 3 (S.fields.map cn)),(9,.int .i64 (S.fields.length:Int)),(10,.int .i64 (k:Int))]) (fun _=>H) (fun k=>k≤S.fields.length∧io (S.fields.drop k) id=R) (fun k=>S.fields.length - k) 0 ⟨by omega,hR⟩ ?_ fun k hk=>?_
 ·refine ⟨nrq _,(lRq _).push _,hcl,?_,?_⟩
  ·simp [ltF,znf,a8 mR]
  ·simp [aJ,wk2,wk1,wkM,Fr.get]
 clear hR
 obtain ⟨hk,hR⟩:=hk
 simp only [go_sem]
 refine ai (fun hc=>?_) (fun hc=>?_)
 ·have hk':k<S.fields.length:=by simp at hc;omega
  obtain ⟨x,hx⟩:∃ x,x=S.fields[k]:=⟨_,rfl⟩
  have hd:S.fields.drop k=x::S.fields.drop (k+1):=by rw [hx];exact dcq hk'
  have hg:=aU (f:=cn) (l:=S.fields) (k:=k) (x:=x) (by rw [gQq hk',hx])
  have e5:=Yk5 k
  rw [hd] at hR
  unfold io at hR
  by_cases he:x.id=id
  ·rw [if_pos he] at hR
   subst he
   simp only [go_sem,iNq,ybb,hg,cn,beq_self_eq_true,hR]
   (repeat with_reducible refine Yq ?_)
   exact Z0
  ·rw [if_neg he] at hR
   have d1:(x.id==id)=false:=by simpa using he
   simp only [go_sem,iNq,ybb,hg,cn,d1,e5]
   (repeat with_reducible refine Yq ?_)
   refine ⟨k+1,⟨by omega,hR⟩,by omega,nrq _,(lRq _).push _,hcl,?_,?_⟩
   ·simp [ltF,znf,a8 mR]
   ·simp [aJ,wk2,wk1,wkM,Fr.get]
 ·have hk':k=S.fields.length:=by simp at hc;omega
  subst hk'
  rw [List.drop_length] at hR
  unfold io at hR
  simp only [go_sem,hR]
  exact Z0
def i8:List AV→AHeap→(AV→Prop)→Prop
 |[.agg l,.int .i64 id],_,K=>∃ S:Sch,(l=aW S∧S.actions.length≤1000000)∧K (bg (eX S.actions id))
 |_,_,_=>False
theorem xK:EntOk Tryz.prog 59 (Ent.pure i8):=by
 refine Ype fun _ H K h=>?_
 unfold i8 at h
 split at h
 rotate_left
 ·exact h.elim
 rename_i l id
 obtain ⟨S,⟨rfl,hl⟩,hK⟩:=h
 refine ⟨_,hK,?_⟩
 clear hK
 generalize hR:eX S.actions id=R
 refine ACalls.fW au tNq Tryz.func59 [.cell 4 107] (nrq _) (T:=aq []) (h:=fun hcl hlt=>?_)
 clear hlt
 simp only [go_sem,aW,ybb]
 have hcz:((H.push (.cells (aW S))).push (.cells [.int .i64 0,.str [],.slice .nil 1 [],.slice .nil 1 [],.str []])).Closed :=
  aa (aa hcl (ltL_iff.2 fun j hj=>AV.lt_cells (qH S) j hj)) (by simp [znu,znv,znf,znh,aF])
 refine az (A:=Nat) (fun k=>[(1,.int .i64 id),(4,.ptr (H.nx+1) 0),(8,.slice .any 5 (S.actions.map bg)),(9,.int .i64 (S.actions.length:Int)),(10,.int .i64 (k:Int))]) (fun _=>(H.push (.cells (aW S))).push (.cells [.int .i64 0,.str [],.slice .nil 1 [],.slice .nil 1 [],.str []])) (fun k=>k≤S.actions.length∧eX (S.actions.drop k) id=R) (fun k=>S.actions.length - k) 0 ⟨by omega,hR⟩ ?_ fun k hk=>?_
 ·refine ⟨by simp only [zle,zkq,zkv];omega,lRq _,hcz,?_,?_⟩
  ·simp [ltF,znf,znn,zle,a8 iK]
  ·simp [aJ,wk2,wk1,wkM,Fr.get]
 clear hR
 obtain ⟨hk,hR⟩:=hk
 simp only [go_sem]
 refine ai (fun hc=>?_) (fun hc=>?_)
 ·have hk':k<S.actions.length:=by simp at hc;omega
  obtain ⟨x,hx⟩:∃ x,x=S.actions[k]:=⟨_,rfl⟩
  have hd:S.actions.drop k=x::S.actions.drop (k+1):=by rw [hx];exact dcq hk'
  have hg:=aU (f:=bg) (l:=S.actions) (k:=k) (x:=x) (by rw [gQq hk',hx])
  have e5:=Yk5 k
  rw [hd] at hR
  unfold eX at hR
  by_cases he:x.id=id
  ·rw [if_pos he] at hR
   subst he
   subst hR
   simp only [go_sem,iNq,ybb,hg,bg,beq_self_eq_true]
   (repeat with_reducible refine Yq ?_)
   have:=iK (n:=H.nx) x
   simp only [bg] at this
   simp (disch:=first|exact Zd|omega) [↓zmo,beq,ybc,ybd,ybe,ae,wk,wk2,wk1,wkM,wkL,ah,ybf,hcl,this]
  ·rw [if_neg he] at hR
   have d1:(x.id==id)=false:=by simpa using he
   simp only [go_sem,iNq,ybb,hg,bg,d1,e5]
   (repeat with_reducible refine Yq ?_)
   refine ⟨k+1,⟨by omega,hR⟩,by omega,by simp only [zle];omega,(lRq _).push _,hcz,?_,?_⟩
   ·simp [ltF,znf,znn,zle,a8 iK]
   ·simp [aJ,wk2,wk1,wkM,Fr.get,bg]
 ·have hk':k=S.actions.length:=by simp at hc;omega
  subst hk'
  rw [List.drop_length] at hR
  unfold eX at hR
  subst hR
  simp only [go_sem,bg,yaf]
  exact Z0
def nF (w kind:Int):List UInt8→Nat→AV × Nat:=fun b v=>(aI (cg b v w kind).1,(cg b v w kind).2)
theorem Fc {b:List UInt8} {v:Nat}:pt b (min v b.length)=pt b v:=by unfold pt;simp only [cF,bm]
theorem y9 {b:List UInt8} {v k:Nat} {w:Int}:qY b (min v b.length+k) w=qY b (v+k) w:=by unfold qY ci;simp only [Nat.add_assoc,cF]
theorem vO {b:List UInt8} {v k:Nat}:l6 b (min v b.length+k)=l6 b (v+k):=by unfold l6;simp only [Nat.add_assoc,cF]
theorem pe (w kind:Int):oU (nF w kind):=fun b v=>by
 unfold nF cg
 simp only [Fc,y9,vO,cF]
 by_cases h2:kind=2
 ·simp only [if_pos h2]
  by_cases h:0<cv b (v+3) 5
  ·simp only [if_pos h];first|exact ⟨rfl,6,rfl,rfl⟩|exact ⟨trivial,6,rfl,rfl⟩
  ·simp only [if_neg h];first|exact ⟨rfl,4,rfl,rfl⟩|exact ⟨trivial,4,rfl,rfl⟩
 by_cases h3:kind=3
 ·simp only [if_neg h2,if_pos h3]
  split<;>first|exact ⟨rfl,5,rfl,rfl⟩|exact ⟨trivial,5,rfl,rfl⟩
 by_cases h4:kind=4
 ·simp only [if_neg h2,if_neg h3,if_pos h4]
  split<;>first|exact ⟨rfl,5,rfl,rfl⟩|exact ⟨trivial,5,rfl,rfl⟩
 ·simp only [if_neg h2,if_neg h3,if_neg h4]
  first|exact ⟨rfl,3,rfl,rfl⟩|exact ⟨trivial,3,rfl,rfl⟩
def yL:List AV→AHeap→(AEnd→AHeap→Prop)→Prop
 |[.ptr id 0,.agg l,.agg [.str nm,.int .i64 fld,.int .i64 kind]],H,K=>∃ S:Sch,(l=aW S∧S.fields.length≤1000000∧1≤cO S fld∧cO S fld≤32∧(kind=2→16≤cO S fld)) ∧
   onS (H.get id) (nF (cO S fld) kind) fun x o=>K (.ret x) (H.set id o)
 |_,_,_=>False
theorem Gx {x:Nat} (h:x<2^64):vv x=.agg [.int .u64 0,.int .u64 (x:Int)]:=by
 unfold vv
 rw [Nat.div_eq_of_lt h,Nat.mod_eq_of_lt h];rfl
theorem fG (x:Nat):vOf 0 x=x:=by unfold vOf;omega
theorem oZ {x:Nat} {w:Int} (h1:1≤w) (h2:w≤32):low x w<2^32:=by
 unfold low
 rw [if_neg (by omega)]
 exact Nat.lt_of_lt_of_le (Nat.mod_lt _ (Nat.two_pow_pos _)) (Nat.pow_le_pow_right (by decide) (by omega))
theorem Ho {b:List UInt8} {u:Nat} {w:Int}:([.int .i64 w,.int .i64 8,.int .i64 16,.int .i64 1,.int .i64 (1+((cv b (cp u 0) w.toNat:Nat):Int))]:List AV).getD (cv b (cp u 1) 5) .junk=.int .i64 (qY b u w):=by
 have h:=c8 (b:=b) (v:=u+1) (n:=5) (by decide)
 unfold qY cp ci
 rw [Nat.add_zero]
 rcases (by omega:cv b (u+1) 5=0∨cv b (u+1) 5=1∨cv b (u+1) 5=2∨cv b (u+1) 5=3∨cv b (u+1) 5=4) with e|e|e|e|e<;>rw [e]<;>rfl
theorem Cl {b:List UInt8} {u:Nat} {w:Int} (h1:16≤w):1≤qY b u w∧qY b u w≤w:=by
 have h:=c8 (b:=b) (v:=u+1) (n:=5) (by decide)
 have h':=c8 (b:=b) (v:=u) (n:=w.toNat) (by omega)
 unfold qY ci
 rcases (by omega:cv b (u+1) 5=0∨cv b (u+1) 5=1∨cv b (u+1) 5=2∨cv b (u+1) 5=3∨cv b (u+1) 5=4) with e|e|e|e|e<;>rw [e]<;>simp only [yau,yav]<;>omega
theorem Ep {b:List UInt8} {u:Nat}:([.int .i64 255,.int .i64 15,.int .i64 1,.int .i64 12,.int .i64 ((cv b (cp u 0) 256:Nat):Int)]:List AV).getD (cv b (cp u 1) 5) .junk=.int .i64 ((l6 b u:Nat):Int):=by
 have h:=c8 (b:=b) (v:=u+1) (n:=5) (by decide)
 unfold l6 cp
 rw [Nat.add_zero]
 rcases (by omega:cv b (u+1) 5=0∨cv b (u+1) 5=1∨cv b (u+1) 5=2∨cv b (u+1) 5=3∨cv b (u+1) 5=4) with e|e|e|e|e<;>rw [e]<;>rfl
theorem Gq {b:List UInt8} {u:Nat}:l6 b u<256:=by
 have h:=c8 (b:=b) (v:=u+1) (n:=5) (by decide)
 have h':=c8 (b:=b) (v:=u) (n:=256) (by decide)
 unfold l6
 rcases (by omega:cv b (u+1) 5=0∨cv b (u+1) 5=1∨cv b (u+1) 5=2∨cv b (u+1) 5=3∨cv b (u+1) 5=4) with e|e|e|e|e<;>rw [e]<;>simp only [yau,yav]<;>omega
theorem Jx {b:List UInt8} {v:Nat}:pt b v<2^32:=by
 unfold pt
 refine Nat.or_lt_two_pow (Nat.or_lt_two_pow ?_ ?_) ?_
 ·have:=c8 (b:=b) (v:=v) (n:=256) (by decide)
  rw [Nat.shiftLeft_eq];omega
 ·have:=c8 (b:=b) (v:=v+1) (n:=16) (by decide)
  rw [Nat.shiftLeft_eq];omega
 ·have:=c8 (b:=b) (v:=v+2) (n:=16) (by decide)
  omega
theorem FZ {w n:Int} (h:w≤32):nP w n<2^33:=by
 unfold nP
 have:2^w.toNat≤2^32:=Nat.pow_le_pow_right (by decide) (by omega)
 have:=Nat.sub_le (2^w.toNat) (2^(w - n).toNat)
 omega
theorem xb {p:Prop} [Decidable p] {t:Bool} (h:decide p=t):p=(t=true):=by subst h;simp
theorem DU:EntOk Tryz.prog 58 (Ent.effect yL):=by
 refine EntOk.effect fun args H K h=>?_
 unfold yL at h
 split at h
 rotate_left
 ·exact h.elim
 rename_i id l nm fld kind
 obtain ⟨S,⟨rfl,hf,hw1,hw2,hk2⟩,h⟩:=h
 generalize hwo:cO S fld=w at *
 obtain ⟨w,rfl⟩:∃ k:Nat,w=k:=⟨w.toNat,by omega⟩
 unfold onS at h
 obtain ⟨b,v,hg,hb,hv,hK⟩:=iQ h
 refine ⟨_,_,hK,?_⟩
 clear hK h
 unfold nF
 dsimp only
 generalize hr:cg b v w kind=r
 obtain ⟨m,p⟩:=r
 dsimp only
 refine ACalls.fW au (tCq gQ (tCq zZ (tCq Ck (tCq FT tNq)))) Tryz.func58 [.cell 6 47] (nrq _) (T:=aq [(8,[[],[],[],[],[],[],[],[],[],[],[2,5]]),(14,[[],[],[],[],[3]])]) (h:=fun hcl hlt=>?_)
 clear hlt
 have hid:=glq hg
 have hne:=jf hid
 have hgc:=jJ (b:=b) hid
 have hcl2:∀ w,(H.set id (cL b w)).Closed:=fun w=>aj hcl eC
 have e256:(256:Int).toNat=256:=rfl
 have e16:(16:Int).toNat=16:=rfl
 have e5:(5:Int).toNat=5:=rfl
 have c256:∀ u,cv b u 256<256:=fun u=>c8 (by decide)
 have c16:∀ u,cv b u 16<16:=fun u=>c8 (by decide)
 have c5:∀ u,cv b u 5<5:=fun u=>c8 (by decide)
 have u256:∀ u,IntKind.u64.wrap ((cv b u 256:Nat):Int)=((cv b u 256:Nat):Int):=fun u=>by have:=c256 u;rw [cP (by omega) (by omega)]
 have u16:∀ u,IntKind.u64.wrap ((cv b u 16:Nat):Int)=((cv b u 16:Nat):Int):=fun u=>by have:=c16 u;rw [cP (by omega) (by omega)]
 have s24:∀ u,yP .u64 ((cv b u 256:Nat):Int) 24=((cv b u 256 <<< 24:Nat):Int):=fun u=>by
  have:=c256 u
  have e:=qc (cv b u 256) 24
  rw [Nat.mod_eq_of_lt (by rw [Nat.shiftLeft_eq];omega)] at e
  exact e
 have s8:∀ u,yP .u64 ((cv b u 16:Nat):Int) 8=((cv b u 16 <<< 8:Nat):Int):=fun u=>by
  have:=c16 u
  have e:=qc (cv b u 16) 8
  rw [Nat.mod_eq_of_lt (by rw [Nat.shiftLeft_eq];omega)] at e
  exact e
 have l24:∀ u,cv b u 256 <<< 24<2^64:=fun u=>by have:=c256 u;rw [Nat.shiftLeft_eq];omega
 have l8:∀ u,cv b u 16 <<< 8<2^64:=fun u=>by have:=c16 u;rw [Nat.shiftLeft_eq];omega
 have o1:∀ u u',ior .u64 ((cv b u 256 <<< 24:Nat):Int) ((cv b u' 16 <<< 8:Nat):Int)=((cv b u 256 <<< 24 ||| cv b u' 16 <<< 8:Nat):Int):=fun u u'=>xg _ _ (l24 u) (l8 u')
 have o2:∀ u u' u'',ior .u64 ((cv b u 256 <<< 24 ||| cv b u' 16 <<< 8:Nat):Int) ((cv b u'' 16:Nat):Int)=((cv b u 256 <<< 24 ||| cv b u' 16 <<< 8 ||| cv b u'' 16:Nat):Int):=fun u u' u''=>xg _ _ (Nat.or_lt_two_pow (l24 u) (l8 u')) (by have:=c16 u'';omega)
 have hN:(cv b (cp v 0) 256 <<< 24 ||| cv b (cp v 1) 16 <<< 8 ||| cv b (cp v 2) 16)=pt b v:=rfl
 have hNl:=Jx (b:=b) (v:=v)
 have hXl:=oZ (x:=pt b v) hw1 hw2
 have hvv:∀ x:Nat,x<2^32→vv x=.agg [.int .u64 0,.int .u64 (x:Int)]:=fun x hx=>Gx (by omega)
 simp only [go_sem,aV,fj,iI,rZ,aW,hg,hgc,aT hb,bm,aL,bx,hne,e256,e16,e5,u256,u16,s24,s8,o1,o2,hN,iNq,Int.toNat_zero,fG]
 (repeat with_reducible refine Yq ?_)
 refine ⟨S,⟨rfl,hf⟩,?_⟩
 rw [hwo]
 simp only [aZ,aH,bhq,Nat.reduceMod,Nat.reduceDiv,aC,aB,aE,aS,aD,aR,aO,aP,aQ,yaq,yar,yao,yap,go_sem,aV,fj,iI,rZ,aW,hg,hgc,aT hb,bm,aL,bx,hne,e256,e16,e5,u256,u16,s24,s8,o1,o2,hN,iNq,Int.toNat_zero,fG,hvv _ hXl]
 (repeat with_reducible refine Yq ?_)
 have hX64:low (pt b v) (w:Int)<2^64:=by omega
 have i5:∀ u,(0≤((cv b u 5:Nat):Int)∧((cv b u 5:Nat):Int)<((5:Nat):Int))=True:=fun u=>Ft (by decide)
 have zm:aI cA=.agg [.bool false,.int .u64 0,.int .u64 0,.int .u64 0,.int .u64 0,.int .i64 0,.int .u64 0,.int .u64 0]:=rfl
 have v0:vc 0=[.int .u64 0,.int .u64 0]:=rfl
 generalize hX:low (pt b v) (w:Int)=X at *
 unfold cg at hr
 dsimp only at hr
 rw [hX] at hr
 by_cases q2:kind=2
 ·subst q2
  have hw16:=hk2 rfl
  rw [if_pos rfl] at hr
  obtain ⟨p1,p2⟩:=Cl (b:=b) (u:=v+4) hw16
  have pg:([.int .i64 (w:Int),.int .i64 8,.int .i64 16,.int .i64 1,.int .i64 (1+((cv b (cp v 4) w:Nat):Int))]:List AV).getD (cv b (cp v 5) 5) .junk=.int .i64 (qY b (v+4) (w:Int)):=Ho (u:=v+4) (w:=(w:Int))
  have pl:cv b (cp v 4) w<w:=c8 (by omega)
  have pw:IntKind.i64.wrap (1+((cv b (cp v 4) w:Nat):Int))=1+((cv b (cp v 4) w:Nat):Int):=by rw [wrap_i64]<;>omega
  have hM:=FZ (w:=(w:Int)) (n:=qY b (v+4) (w:Int)) hw2
  generalize qY b (v+4) (w:Int)=n at *
  have ia:u6 .u64 (X:Int) ((nP (w:Int) n:Nat):Int)=((X &&& nP (w:Int) n:Nat):Int):=jE _ _ hX64 (by omega)
  have iv:vc (X &&& nP (w:Int) n)=[.int .u64 0,.int .u64 ((X &&& nP (w:Int) n:Nat):Int)]:=fY (Nat.lt_of_le_of_lt Nat.and_le_left hX64)
  by_cases h5:0<cv b (v+3) 5
  ·rw [if_pos h5] at hr
   cases hr
   have d1:decide (((cv b (cp v 3) 5:Nat):Int) > 0)=true:=dtq (by unfold cp;omega)
   simp only [aZ,aH,bhq,Nat.reduceMod,Nat.reduceDiv,aC,aB,aE,aS,aD,aR,aO,aP,aQ,yaq,yar,yao,yap,go_sem,aV,fj,iI,rZ,aW,hg,hgc,aT hb,bm,aL,bx,hne,e256,e16,e5,u256,u16,s24,s8,o1,o2,hN,iNq,Int.toNat_zero,fG,hvv _ hXl,beq_self_eq_true,d1,pw,i5,pg,xd,ia,aI,bq,iv,v0,yal,yak]
   (repeat with_reducible refine Yq ?_)
   simp (disch:=first|exact Zd|omega) [↓zmo,beq,ybc,ybd,ybe,ae,wk,wk2,wk1,wkM,wkL,ah,ybf,hcl2]
   first|done|repeat first|exact .refl _|refine .push ?_ _
  ·rw [if_neg h5] at hr
   cases hr
   have d1:decide (((cv b (cp v 3) 5:Nat):Int) > 0)=false:=dfq (by unfold cp;omega)
   simp only [aZ,aH,bhq,Nat.reduceMod,Nat.reduceDiv,aC,aB,aE,aS,aD,aR,aO,aP,aQ,yaq,yar,yao,yap,go_sem,aV,fj,iI,rZ,aW,hg,hgc,aT hb,bm,aL,bx,hne,e256,e16,e5,u256,u16,s24,s8,o1,o2,hN,iNq,Int.toNat_zero,fG,hvv _ hXl,beq_self_eq_true,d1,zm]
   (repeat with_reducible refine Yq ?_)
   simp (disch:=first|exact Zd|omega) [↓zmo,beq,ybc,ybd,ybe,ae,wk,wk2,wk1,wkM,wkL,ah,ybf,hcl2]
   first|done|repeat first|exact .refl _|refine .push ?_ _
 rw [if_neg q2] at hr
 have k2:(kind==2)=false:=by simpa using q2
 by_cases q3:kind=3
 ·subst q3
  rw [if_pos rfl] at hr
  have pg:([.int .i64 255,.int .i64 15,.int .i64 1,.int .i64 12,.int .i64 ((cv b (cp v 3) 256:Nat):Int)]:List AV).getD (cv b (cp v 4) 5) .junk=.int .i64 ((l6 b (v+3):Nat):Int):=Ep (u:=v+3)
  have hMl:=Gq (b:=b) (u:=v+3)
  generalize l6 b (v+3)=g at *
  have ug:IntKind.u64.wrap (g:Int)=(g:Int):=by rw [cP]<;>omega
  have hYl:=oZ (x:=g) hw1 hw2
  have hYv:=hvv _ hYl
  obtain ⟨Y,hY⟩:∃ Y,low g (w:Int)=Y:=⟨_,rfl⟩
  rw [hY] at hYl hYv hr
  have ia:u6 .u64 (X:Int) (Y:Int)=((X &&& Y:Nat):Int):=jE _ _ hX64 (by omega)
  have iv:vc (X &&& Y)=[.int .u64 0,.int .u64 ((X &&& Y:Nat):Int)]:=fY (Nat.lt_of_le_of_lt Nat.and_le_left hX64)
  have iv2:vc Y=[.int .u64 0,.int .u64 (Y:Int)]:=fY (by omega)
  by_cases h5:Y≠0
  ·rw [if_pos h5] at hr
   cases hr
   have d1:((Y:Int) != 0)=true:=by simpa using h5
   simp only [aZ,aH,bhq,Nat.reduceMod,Nat.reduceDiv,aC,aB,aE,aS,aD,aR,aO,aP,aQ,yaq,yar,yao,yap,go_sem,aV,fj,iI,rZ,aW,hg,hgc,aT hb,bm,aL,bx,hne,e256,e16,e5,u256,u16,s24,s8,o1,o2,hN,iNq,Int.toNat_zero,fG,hvv _ hXl,k2,beq_self_eq_true,d1,i5,pg,ug,hY,hYv,ia,aI,bq,iv,iv2,v0,yal,yak]
   (repeat with_reducible refine Yq ?_)
   simp (disch:=first|exact Zd|omega) [↓zmo,beq,ybc,ybd,ybe,ae,wk,wk2,wk1,wkM,wkL,ah,ybf,hcl2]
   first|done|repeat first|exact .refl _|refine .push ?_ _
  ·rw [if_neg h5] at hr
   cases hr
   have d1:((Y:Int) != 0)=false:=by simpa using h5
   simp only [aZ,aH,bhq,Nat.reduceMod,Nat.reduceDiv,aC,aB,aE,aS,aD,aR,aO,aP,aQ,yaq,yar,yao,yap,go_sem,aV,fj,iI,rZ,aW,hg,hgc,aT hb,bm,aL,bx,hne,e256,e16,e5,u256,u16,s24,s8,o1,o2,hN,iNq,Int.toNat_zero,fG,hvv _ hXl,k2,beq_self_eq_true,d1,i5,pg,ug,hY,hYv,zm]
   (repeat with_reducible refine Yq ?_)
   simp (disch:=first|exact Zd|omega) [↓zmo,beq,ybc,ybd,ybe,ae,wk,wk2,wk1,wkM,wkL,ah,ybf,hcl2]
   first|done|repeat first|exact .refl _|refine .push ?_ _
 rw [if_neg q3] at hr
 have k3:(kind==3)=false:=by simpa using q3
 have iv2:vc X=[.int .u64 0,.int .u64 (X:Int)]:=fY hX64
 by_cases q4:kind=4
 ·subst q4
  rw [if_pos rfl] at hr
  have uw:IntKind.u64.wrap (w:Int)=(w:Int):=by rw [cP]<;>omega
  have hw64:w<64:=by omega
  have c9:=c256 (cp v 3)
  have ws:IntKind.u64.wrap ((X:Int)+((cv b (cp v 3) 256:Nat):Int))=((X+cv b (cp v 3) 256:Nat):Int):=by rw [cP]<;>omega
  have mn:min (((X+cv b (cp v 3) 256:Nat):Int)) (((2^w - 1:Nat):Int))=((nT X (cv b (cp v 3) 256) (w:Int):Nat):Int):=by
   unfold nT;rw [iNq];omega
  have hHl:nT X (cv b (cp v 3) 256) (w:Int)<2^64:=by
   unfold nT;omega
  have hHc:nT X (cv b (v+3) 256) (w:Int)=nT X (cv b (cp v 3) 256) (w:Int):=rfl
  rw [hHc,iNq] at hr
  clear hHc
  generalize nT X (cv b (cp v 3) 256) (w:Int)=Z at *
  have iv3:vc Z=[.int .u64 0,.int .u64 (Z:Int)]:=fY hHl
  have kk2:((4:Int)==2)=false:=rfl
  have kk3:((4:Int)==3)=false:=rfl
  have dz:((X:Int)==0)=decide (X=0):=by rw [Bool.eq_iff_iff];simp
  have dh:((Z:Int)==((2^w - 1:Nat):Int))=decide (Z=2^w - 1):=by rw [Bool.eq_iff_iff];simp only [beq_iff_eq,decide_eq_true_eq];omega
  have dc:decide (((cv b (cp v 4) 5:Nat):Int) > 0)=decide (0<cv b (v+4) 5):=by rw [decide_eq_decide];unfold cp;omega
  cases hz:((X:Int)==0)<;>cases hh:((Z:Int)==((2^w - 1:Nat):Int))<;>cases hcv:decide (((cv b (cp v 4) 5:Nat):Int) > 0)
  all_goals
   have g1:=xb (dc.symm.trans hcv)
   have g2:=xb (dz.symm.trans hz)
   have g3:=xb (dh.symm.trans hh)
   simp only [g1,g2,g3,Bool.false_eq_true,not_true_eq_false,nFq,and_self,and_true,and_false,true_and,false_and,if_true,if_false] at hr
   cases hr
  all_goals
   simp only [aZ,aH,bhq,Nat.reduceMod,Nat.reduceDiv,aC,aB,aE,aS,aD,aR,aO,aP,aQ,yaq,yar,yao,yap,go_sem,aV,fj,iI,rZ,aW,hg,hgc,aT hb,bm,aL,bx,hne,e256,e16,e5,u256,u16,s24,s8,o1,o2,hN,iNq,Int.toNat_zero,fG,hvv _ hXl,kk2,kk3,beq_self_eq_true,uw,ws,oW hw64,kW hw64,mn,hz,hh,hcv,↓zm,aI,bq,iv2,iv3,v0,yal,yak,Bool.not_true,Bool.not_false]
   (repeat with_reducible refine Yq ?_)
   simp (disch:=first|exact Zd|omega) [↓zmo,beq,ybc,ybd,ybe,ae,wk,wk2,wk1,wkM,wkL,ah,ybf,hcl2]
   first|done|repeat first|exact .refl _|refine .push ?_ _
 rw [if_neg q4] at hr
 cases hr
 have k4:(kind==4)=false:=by simpa using q4
 simp only [aZ,aH,bhq,Nat.reduceMod,Nat.reduceDiv,aC,aB,aE,aS,aD,aR,aO,aP,aQ,yaq,yar,yao,yap,go_sem,aV,fj,iI,rZ,aW,hg,hgc,aT hb,bm,aL,bx,hne,e256,e16,e5,u256,u16,s24,s8,o1,o2,hN,iNq,Int.toNat_zero,fG,hvv _ hXl,k2,k3,k4,aI,bq,iv2,v0,yal,yak]
 (repeat with_reducible refine Yq ?_)
 simp (disch:=first|exact Zd|omega) [↓zmo,beq,ybc,ybd,ybe,ae,wk,wk2,wk1,wkM,wkL,ah,ybf,hcl2]
 first|done|repeat first|exact .refl _|refine .push ?_ _
theorem Eq {b:List UInt8} {v k:Nat}:pt b (min v b.length+k)=pt b (v+k):=by unfold pt;simp only [Nat.add_assoc,cF]
theorem z4 {b:List UInt8} {v k:Nat} {w kind:Int}:(cg b (min v b.length+k) w kind).1=(cg b (v+k) w kind).1∧∃ c,(cg b (min v b.length+k) w kind).2=min v b.length+c∧(cg b (v+k) w kind).2=v+c:=by
 unfold cg
 simp only [Eq,Nat.add_assoc,y9,vO,cF]
 by_cases h2:kind=2
 ·simp only [if_pos h2]
  by_cases h:0<cv b (v+(k+3)) 5
  ·simp only [if_pos h];exact ⟨trivial,_,rfl,rfl⟩
  ·simp only [if_neg h];exact ⟨trivial,_,rfl,rfl⟩
 by_cases h3:kind=3
 ·simp only [if_neg h2,if_pos h3]
  split<;>exact ⟨rfl,_,rfl,rfl⟩
 by_cases h4:kind=4
 ·simp only [if_neg h2,if_neg h3,if_pos h4]
  split<;>exact ⟨rfl,_,rfl,rfl⟩
 ·simp only [if_neg h2,if_neg h3,if_neg h4]
  exact ⟨trivial,_,rfl,rfl⟩
theorem lO {S:Sch} {b:List UInt8} {v:Nat}:∀ (ks:List SKey) (k:Nat) (p:Int),(cx S b ks (min v b.length+k) p).1=(cx S b ks (v+k) p).1∧∃ c,(cx S b ks (min v b.length+k) p).2=min v b.length+c∧(cx S b ks (v+k) p).2=v+c
 |[],k,p=>⟨rfl,k,rfl,rfl⟩
 |x::ks,k,p=>by
  obtain ⟨h1,c,h2,h3⟩:=z4 (b:=b) (v:=v) (k:=k) (w:=cO S x.field) (kind:=x.kind)
  by_cases hk:x.kind=3∨x.kind=4
  ·obtain ⟨i1,d,i2,i3⟩:=lO (b:=b) (v:=v) ks (c+1) (1+ci b (v+c) 5)
   simp only [cx,if_pos hk,h1,h2,h3,ci,cF,Nat.add_assoc]
   simp only [ci] at i1 i2 i3
   rw [i1]
   exact ⟨rfl,d,i2,i3⟩
  ·obtain ⟨i1,d,i2,i3⟩:=lO (b:=b) (v:=v) ks c p
   simp only [cx,if_neg hk,h1,h2,h3]
   rw [i1]
   exact ⟨rfl,d,i2,i3⟩
theorem wq {b:List UInt8} {v:Nat}:∀ (ps:List SParam) (k:Nat),(jj b ps (min v b.length+k)).1=(jj b ps (v+k)).1∧∃ c,(jj b ps (min v b.length+k)).2=min v b.length+c∧(jj b ps (v+k)).2=v+c
 |[],k=>⟨rfl,k,rfl,rfl⟩
 |p::ps,k=>by
  obtain ⟨i1,d,i2,i3⟩:=wq (b:=b) (v:=v) ps (k+1)
  simp only [jj,cF,Nat.add_assoc]
  rw [i1]
  exact ⟨rfl,d,i2,i3⟩
def pp (S:Sch) (n:Int):List UInt8→Nat→AV × Nat:=fun b v=>(dZ (iw S b v n).1,(iw S b v n).2)
theorem x9 (S:Sch) (n:Int):oU (pp S n):=fun b v=>by
 obtain ⟨i1,c,i2,i3⟩:=lO (S:=S) (b:=b) (v:=v) (dT S n).keys 0 0
 simp only [Nat.add_zero] at i1 i2 i3
 unfold pp iw
 dsimp only
 rw [i1,i2,i3,cF]
 obtain ⟨j1,d,j2,j3⟩:=wq (b:=b) (v:=v) (eX S.actions ((dT S n).actions.getD (cv b (v+c) (dT S n).actions.length) 0)).params (c+1)
 simp only [Nat.add_assoc]
 rw [j1,j2,j3]
 exact ⟨rfl,d,rfl,rfl⟩
structure GenS (S:Sch):Prop where
 fl:S.fields.length≤1000
 al:S.actions.length≤1000
 tl:S.tables.length≤1000
 t1:1≤S.tables.length
 kl:∀ t∈S.tables,t.keys.length≤100
 kb:∀ t∈S.tables,∀ k∈t.keys,1≤cO S k.field∧cO S k.field≤32∧(k.kind=2→16≤cO S k.field)
 a1:∀ t∈S.tables,1≤t.actions.length∧t.actions.length≤100
 pl:∀ a:Int,(eX S.actions a).params.length≤100
 pb:∀ a:Int,∀ p∈(eX S.actions a).params,0≤p.bits∧p.bits≤1000
def tO:List AV→AHeap→(AEnd→AHeap→Prop)→Prop
 |[.ptr id 0,.agg l,.int .i64 n],H,K=>∃ S:Sch,(l=aW S∧GenS S ∧ -9223372036854775808≤n∧n<9223372036854775808)∧onS (H.get id) (pp S n) fun x o=>K (.ret x) (H.set id o)
 |_,_,_=>False
theorem KK {b:List UInt8} {v:Nat} {w k:Int}:(nF w k b v).1=.agg [.bool (cg b v w k).1.present,.int .u64 (((cg b v w k).1.value/2^64:Nat):Int),.int .u64 (((cg b v w k).1.value % 2^64:Nat):Int),.int .u64 (((cg b v w k).1.mask/2^64:Nat):Int),.int .u64 (((cg b v w k).1.mask % 2^64:Nat):Int),.int .i64 (cg b v w k).1.pfx,.int .u64 (((cg b v w k).1.high/2^64:Nat):Int),.int .u64 (((cg b v w k).1.high % 2^64:Nat):Int)]:=(rfl)
theorem KQ {b:List UInt8} {v:Nat} {w k:Int}:(nF w k b v).2=cp (cg b v w k).2 0:=(rfl)
theorem Em {H:AHeap} {id:Nat} {o:AObj} (h:H.get id=some o):H.set id o=H:=by
 have hl:=glq h
 unfold AHeap.get at h
 rw [if_pos hl] at h
 unfold AHeap.set
 cases H with
 |mk nx f =>
  simp only [AHeap.mk.injEq,true_and]
  funext j
  by_cases e:j=id
  ·rw [if_pos e,e];exact h.symm
  ·rw [if_neg e]
def jU (H:AHeap) (id:Nat) (b:List UInt8) (S:Sch) (t:STable) (w:Nat) (a1:List AV) (p:Int):AHeap :=
 ((((((H.set id (cL b (cp w 0))).push (.cells (aW S))).push (.cells [.int .i64 0,.slice .nil 1 [],.int .i64 0,.int .i64 0,.slice .nil 1 []])).push (.cells [.int .i64 t.id,.str t.name,.slice .any 3 (t.keys.map bU),.slice .any 1 (inL t.actions),.int .i64 t.dflt,.slice .any 2 (t.dargs.map vv),.int .i64 t.size,.str t.restr])).push (.buf 8 a1.length)).push (.buf 2 0)).push (.cells [.int .i64 t.id,.slice (.own (H.nx+1+1+1)) 8 a1,.int .i64 p,.int .i64 0,.slice (.own (H.nx+1+1+1+1)) 2 []])
def rW (H:AHeap) (id:Nat) (b:List UInt8) (S:Sch) (t:STable) (w:Nat) (a1 a2:List AV) (p act:Int):AHeap :=
 ((((((H.set id (cL b (cp w 0))).push (.cells (aW S))).push (.cells [.int .i64 0,.slice .nil 1 [],.int .i64 0,.int .i64 0,.slice .nil 1 []])).push (.cells [.int .i64 t.id,.str t.name,.slice .any 3 (t.keys.map bU),.slice .any 1 (inL t.actions),.int .i64 t.dflt,.slice .any 2 (t.dargs.map vv),.int .i64 t.size,.str t.restr])).push (.buf 8 a1.length)).push (.buf 2 a2.length)).push (.cells [.int .i64 t.id,.slice (.own (H.nx+1+1+1)) 8 a1,.int .i64 p,.int .i64 act,.slice (.own (H.nx+1+1+1+1)) 2 a2])
theorem dO {n:Nat} (x:SMatch):AV.lt n (aI x):=by
 simp only [aI,bq,vc,znr,znu,znv,znf,zng,List.append_assoc,yal,yak,and_true]
theorem Fj {n:Nat} (x:Nat):AV.lt n (vv x):=by simp only [vv,znr,znu,znv,znf,and_true]
theorem li {n:Nat} (x:SEntry):AV.lt n (dZ x):=by
 simp only [dZ,aK,znr,znu,znv,znf,and_true,true_and]
 exact ⟨a8 dO,a8 Fj⟩
theorem rh {H:AHeap} {id:Nat} {b:List UInt8} {S:Sch} {t:STable} {w:Nat} {a1 a2:List AV} {p act:Int} (hcl:H.Closed) (h1:∀ n,ltL n a1=True) (h2:∀ n,ltL n a2=True):(rW H id b S t w a1 a2 p act).Closed:=by
 unfold rW
 repeat' (first|exact aj hcl eC|refine ag ?_|refine aa ?_ ?_)
 ·exact ltL_iff.2 fun j hj=>AV.lt_cells (qH S) j hj
 ·simp [znu,znv,znf,aF]
 ·exact ltL_iff.2 fun j hj=>AV.lt_cells (cS t) j hj
 ·simp [aF,znu,znv,znf,zle,zlf,h1,h2]
  try omega
theorem En:EntOk Tryz.prog 22 (Ent.effect tO):=by
 refine EntOk.effect fun args H K h=>?_
 unfold tO at h
 split at h
 rotate_left
 ·exact h.elim
 rename_i id l n
 obtain ⟨S,⟨rfl,hS,hn1,hn2⟩,h⟩:=h
 unfold onS at h
 obtain ⟨b,v,hg,hb,hv,hK⟩:=iQ h
 refine ⟨_,_,hK,?_⟩
 clear hK h
 unfold pp
 dsimp only
 generalize hres:(iw S b v n).1=res
 generalize hpos:(iw S b v n).2=pos
 refine ACalls.fW au (tCq gQ (tCq JL (tCq DU (tCq xK (tCq Ck tNq))))) Tryz.func22 [.cell 6 26] (nrq _) (T:=aq [(1,[[],[],[],[],[],[],[4],[],[6],[],[1,4,6,8]]),(6,[[],[],[],[],[],[3,4],[3,4,5],[1,3,4,5],[],[1,3,4,5]]),(10,[[],[],[],[],[],[],[4],[],[6],[],[1,4,6,8]]),(14,[[],[],[],[],[3],[],[],[],[3,4,7],[3,7,8],[1,3,7,8],[],[1,3,7,8]]),(2,[[10,1]]),(16,[[4]])]) (h:=fun hcl hlt=>?_)
 clear hlt
 have hid:=glq hg
 have hne:=jf hid
 have hgc:=jJ (b:=b) hid
 have hcl2:∀ w,(H.set id (cL b w)).Closed:=fun w=>aj hcl eC
 obtain ⟨f1,f2,f3,f4,f5,f6,f7,f8,f9⟩:=hS
 obtain ⟨t,ht⟩:∃ t,dT S n=t:=⟨_,rfl⟩
 have hm1:=Int.emod_nonneg n (show ((S.tables.length:Nat):Int)≠0 by omega)
 have hm2:=Int.emod_lt_of_pos n (show (0:Int)<((S.tables.length:Nat):Int) by omega)
 have hmi:(n % ((S.tables.length:Nat):Int)).toNat<S.tables.length:=by omega
 have htm:t∈S.tables:=by
  rw [← ht];unfold dT
  rw [gEq,gQq hmi]
  exact gMq hmi
 have htg:(S.tables.map ba).getD (n % ((S.tables.length:Nat):Int)).toNat .junk=.agg [.int .i64 t.id,.str t.name,.slice .any 3 (t.keys.map bU),.slice .any 1 (inL t.actions),.int .i64 t.dflt,.slice .any 2 (t.dargs.map vv),.int .i64 t.size,.str t.restr]:=by
  rw [← ht];unfold dT
  exact aU (f:=ba) (by rw [gQq hmi,gEq,gQq hmi];rfl)
 simp only [aZ,aH,bhq,Nat.reduceMod,Nat.reduceDiv,aC,aB,aE,aS,aD,aR,aO,aP,aQ,yaq,yar,yao,yap,go_sem,iN,aV,aW,hg,hgc,hne,aT hb,bm,aL,bx,ybb,htg,iNq,List.set_cons_succ,List.set_cons_zero]
 (repeat with_reducible refine Yq ?_)
 refine kY 24 1 8 _ rfl rfl ?_
 simp only [aZ,aH,bhq,Nat.reduceMod,Nat.reduceDiv,aC,aB,aE,aS,aD,aR,aO,aP,aQ,yaq,yar,yao,yap,go_sem,iN,aV,aW,hg,hgc,hne,aT hb,bm,aL,bx,ybb,htg,iNq,List.set_cons_succ,List.set_cons_zero]
 refine kY 24 4 2 _ rfl rfl ?_
 simp only [aZ,aH,bhq,Nat.reduceMod,Nat.reduceDiv,aC,aB,aE,aS,aD,aR,aO,aP,aQ,yaq,yar,yao,yap,go_sem,iN,aV,aW,hg,hgc,hne,aT hb,bm,aL,bx,ybb,htg,iNq,List.set_cons_succ,List.set_cons_zero]
 (repeat with_reducible refine Yq ?_)
 generalize hR:cx S b t.keys v 0=R
 have hcM:∀ w a1 p,(∀ n,ltL n a1=True)→(jU H id b S t w a1 p).Closed:=fun w a1 p h1=>rh (a2:=[]) (act:=0) hcl h1 (fun n=>by simp [znv])
 refine az (A:=Nat × Nat × List AV × Int) (fun x=>[(0,.ptr id 0),(4,.ptr H.nx 0),(6,.ptr (H.nx+1) 0),(7,.ptr (H.nx+1+1) 0),(8,.ptr (H.nx+1+1+1+1+1) 0),(26,.slice .any 3 (t.keys.map bU)),(27,.int .i64 (t.keys.length:Int)),(28,.int .i64 (x.1:Int))]) (fun x=>jU H id b S t x.2.1 x.2.2.1 x.2.2.2) (fun x=>x.1≤t.keys.length∧x.2.2.1.length≤x.1∧x.2.2.1++(cx S b (t.keys.drop x.1) x.2.1 x.2.2.2).1.1.map aI=R.1.1.map aI∧(cx S b (t.keys.drop x.1) x.2.1 x.2.2.2).1.2=R.1.2∧(cx S b (t.keys.drop x.1) x.2.1 x.2.2.2).2=R.2) (fun x=>t.keys.length - x.1) (0,v,[],0) ⟨by omega,by simp,by rw [← hR];rfl,by rw [← hR];rfl,by rw [← hR];rfl⟩ ?_ fun x hx=>?_
 ·refine ⟨by simp only [jU,zle,zlf,zkq,zkv];omega,by dsimp only;unfold jU;rw [show cL b (cp v 0)=cL b (cp v 0) from rfl,Em hg];exact lRq _,hcM _ _ _ (fun n=>by simp [znv]),?_,?_⟩
  ·simp [ltF,jU,znn,znf,zle,zlf,a8 tB]
   omega
  ·simp [aJ,wk2,wk1,wkM,Fr.get]
 obtain ⟨k,w,a1,p⟩:=x
 dsimp only at hx ⊢
 obtain ⟨hk,l1,i1,i2,i3⟩:=hx
 have hlA:=fun n=>jY (n:=n) i1 dO
 simp only [go_sem]
 refine ai (fun hc=>?_) (fun hc=>?_)
 ·have hk':k<t.keys.length:=by simp at hc;omega
  obtain ⟨x,hx⟩:∃ x,x=t.keys[k]:=⟨_,rfl⟩
  have hd:t.keys.drop k=x::t.keys.drop (k+1):=by rw [hx];exact dcq hk'
  have hxm:x∈t.keys:=by rw [hx];exact gMq hk'
  have hkg:=aU (f:=bU) (l:=t.keys) (k:=k) (x:=x) (by rw [gQq hk',hx])
  have hkk:=f5 t htm
  have e5:=Yk5 k
  obtain ⟨b1,b2,b3⟩:=f6 t htm x hxm
  simp only [aZ,aH,bhq,Nat.reduceMod,Nat.reduceDiv,aC,aB,aE,aS,aD,aR,aO,aP,aQ,yaq,yar,yao,yap,go_sem,iN,aV,aW,hg,hgc,hne,aT hb,bm,aL,bx,ybb,htg,iNq,List.set_cons_succ,List.set_cons_zero,jU,hkg,bU]
  (repeat with_reducible refine Yq ?_)
  refine ⟨S,⟨rfl,by omega,b1,b2,b3⟩,?_⟩
  simp only [aZ,aH,bhq,Nat.reduceMod,Nat.reduceDiv,aC,aB,aE,aS,aD,aR,aO,aP,aQ,yaq,yar,yao,yap,go_sem,iN,aV,aW,hg,hgc,hne,aT hb,bm,aL,bx,ybb,htg,iNq,List.set_cons_succ,List.set_cons_zero,jU,hkg,bU,cm hb (pe _ _)]
  have five:(5:Int).toNat=5:=rfl
  have a15:∀ u,IntKind.i64.wrap (1+((cv b u 5:Nat):Int))=1+((cv b u 5:Nat):Int):=fun u=>by
   have:=c8 (b:=b) (v:=u) (n:=5) (by decide)
   rw [wrap_i64 (by omega) (by omega)]
  by_cases hk34:x.kind=3∨x.kind=4
  ·rcases hk34 with h3|h3
   ·have hk34:x.kind=3∨x.kind=4:=.inl h3
    have d3:(x.kind==3)=true:=by simp [h3]
    simp only [aZ,aH,bhq,Nat.reduceMod,Nat.reduceDiv,aC,aB,aE,aS,aD,aR,aO,aP,aQ,yaq,yar,yao,yap,go_sem,iN,aV,aW,hg,hgc,hne,aT hb,bm,aL,bx,ybb,htg,iNq,List.set_cons_succ,List.set_cons_zero,jU,hkg,bU,cm hb (pe _ _),KK,KQ,e5,a15,five,d3]
    (repeat with_reducible refine Yq ?_)
    rw [hd] at i1 i2 i3
    simp only [cx,if_pos hk34] at i1 i2 i3
    have i1':(a1++[aI (cg b (cp w 0) (cO S x.field) x.kind).1])++_=R.1.1.map aI:=(List.append_assoc _ _ _).trans i1
    refine ⟨(k+1,cp (cg b (cp w 0) (cO S x.field) x.kind).2 1,a1++[aI (cg b (cp w 0) (cO S x.field) x.kind).1],1+ci b (cp (cg b (cp w 0) (cO S x.field) x.kind).2 0) 5),⟨by dsimp only;omega,by simp only [lAq,yaz,yba];omega,i1',i2,i3⟩,by dsimp only;omega,by simp only [jU,zle,zlf,zkq,zkv];omega,?_,hcM _ _ _ (fun n=>jY (n:=n) i1' dO),?_,?_⟩
    ·simp only [jU,lAq,yaz,yba]
     repeat first|exact .refl _|refine .push ?_ _
    ·simp [ltF,jU,znn,znf,zle,zlf,a8 tB]
     omega
    ·simp [aJ,wk2,wk1,wkM,Fr.get]
   ·have hk34:x.kind=3∨x.kind=4:=.inr h3
    have d3:(x.kind==3)=false:=by simp [h3]
    have d4:(x.kind==4)=true:=by simp [h3]
    simp only [aZ,aH,bhq,Nat.reduceMod,Nat.reduceDiv,aC,aB,aE,aS,aD,aR,aO,aP,aQ,yaq,yar,yao,yap,go_sem,iN,aV,aW,hg,hgc,hne,aT hb,bm,aL,bx,ybb,htg,iNq,List.set_cons_succ,List.set_cons_zero,jU,hkg,bU,cm hb (pe _ _),KK,KQ,e5,a15,five,d3,d4]
    (repeat with_reducible refine Yq ?_)
    rw [hd] at i1 i2 i3
    simp only [cx,if_pos hk34] at i1 i2 i3
    have i1':(a1++[aI (cg b (cp w 0) (cO S x.field) x.kind).1])++_=R.1.1.map aI:=(List.append_assoc _ _ _).trans i1
    refine ⟨(k+1,cp (cg b (cp w 0) (cO S x.field) x.kind).2 1,a1++[aI (cg b (cp w 0) (cO S x.field) x.kind).1],1+ci b (cp (cg b (cp w 0) (cO S x.field) x.kind).2 0) 5),⟨by dsimp only;omega,by simp only [lAq,yaz,yba];omega,i1',i2,i3⟩,by dsimp only;omega,by simp only [jU,zle,zlf,zkq,zkv];omega,?_,hcM _ _ _ (fun n=>jY (n:=n) i1' dO),?_,?_⟩
    ·simp only [jU,lAq,yaz,yba]
     repeat first|exact .refl _|refine .push ?_ _
    ·simp [ltF,jU,znn,znf,zle,zlf,a8 tB]
     omega
    ·simp [aJ,wk2,wk1,wkM,Fr.get]
  ·have d3:(x.kind==3)=false:=by simp;intro h;exact hk34 (.inl h)
   have d4:(x.kind==4)=false:=by simp;intro h;exact hk34 (.inr h)
   simp only [aZ,aH,bhq,Nat.reduceMod,Nat.reduceDiv,aC,aB,aE,aS,aD,aR,aO,aP,aQ,yaq,yar,yao,yap,go_sem,iN,aV,aW,hg,hgc,hne,aT hb,bm,aL,bx,ybb,htg,iNq,List.set_cons_succ,List.set_cons_zero,jU,hkg,bU,cm hb (pe _ _),KK,KQ,e5,a15,five,d3,d4]
   (repeat with_reducible refine Yq ?_)
   rw [hd] at i1 i2 i3
   simp only [cx,if_neg hk34] at i1 i2 i3
   have i1':(a1++[aI (cg b (cp w 0) (cO S x.field) x.kind).1])++_=R.1.1.map aI:=(List.append_assoc _ _ _).trans i1
   refine ⟨(k+1,cp (cg b (cp w 0) (cO S x.field) x.kind).2 0,a1++[aI (cg b (cp w 0) (cO S x.field) x.kind).1],p),⟨by dsimp only;omega,by simp only [lAq,yaz,yba];omega,i1',i2,i3⟩,by dsimp only;omega,by simp only [jU,zle,zlf,zkq,zkv];omega,?_,hcM _ _ _ (fun n=>jY (n:=n) i1' dO),?_,?_⟩
   ·simp only [jU,lAq,yaz,yba]
    repeat first|exact .refl _|refine .push ?_ _
   ·simp [ltF,jU,znn,znf,zle,zlf,a8 tB]
    omega
   ·simp [aJ,wk2,wk1,wkM,Fr.get]
 ·have hk':k=t.keys.length:=by simp at hc;omega
  subst hk'
  rw [List.drop_length] at i1 i2 i3
  simp only [cx,yaf,yaj] at i1 i2 i3
  obtain ⟨g1,g2⟩:=f7 t htm
  have hkk:=f5 t htm
  have hcl3:cv b (cp w 0) t.actions.length<t.actions.length:=c8 (by omega)
  obtain ⟨act,hact⟩:∃ act,t.actions.getD (cv b w t.actions.length) 0=act:=⟨_,rfl⟩
  have hag:(inL t.actions).getD (cv b (cp w 0) t.actions.length) .junk=.int .i64 act:=by
   rw [← hact]
   unfold inL
   exact aU (f:=fun n=>AV.int .i64 n) (by rw [gQq hcl3,gEq,show cv b w t.actions.length=cv b (cp w 0) t.actions.length from rfl,gQq hcl3];rfl)
  have hil:(inL t.actions).length=t.actions.length:=by simp [inL]
  have hsp:=f8 act
  have hpb:=f9 act
  have e256:(256:Int).toNat=256:=rfl
  have u256:∀ u,IntKind.u64.wrap ((cv b u 256:Nat):Int)=((cv b u 256:Nat):Int):=fun u=>by
   have:=c8 (b:=b) (v:=u) (n:=256) (by decide)
   rw [cP (by omega) (by omega)]
  have hb1:(0≤((cv b (cp w 0) t.actions.length:Nat):Int)∧((cv b (cp w 0) t.actions.length:Nat):Int)<(((inL t.actions).length:Nat):Int))=True:=eq_true ⟨by omega,by rw [hil];omega⟩
  simp only [aZ,aH,bhq,Nat.reduceMod,Nat.reduceDiv,aC,aB,aE,aS,aD,aR,aO,aP,aQ,yaq,yar,yao,yap,go_sem,iN,aV,aW,hg,hgc,hne,aT hb,bm,aL,bx,ybb,htg,iNq,List.set_cons_succ,List.set_cons_zero,jU,rW,hag,i8,bg,iI,rZ,fG,Int.toNat_zero,u256,e256,vv,hil]
  (repeat with_reducible refine Yq ?_)
  refine ⟨S,⟨rfl,by omega⟩,?_⟩
  generalize hao:eX S.actions act=a at *
  generalize hG:jj b a.params (cp w 1)=G
  have hcM2:∀ w' a2,(∀ n,ltL n a2=True)→(rW H id b S t w' a1 a2 p act).Closed:=fun w' a2 h2=>rh hcl hlA h2
  refine az (A:=Nat × Nat × List AV) (fun x=>[(0,.ptr id 0),(6,.ptr (H.nx+1) 0),(8,.ptr (H.nx+1+1+1+1+1) 0),(68,.slice .any 2 (a.params.map cq)),(69,.int .i64 (a.params.length:Int)),(70,.int .i64 (x.1:Int))]) (fun x=>rW H id b S t x.2.1 a1 x.2.2 p act) (fun x=>x.1≤a.params.length∧x.2.2.length≤x.1∧x.2.2++(jj b (a.params.drop x.1) x.2.1).1.map vv=G.1.map vv∧(jj b (a.params.drop x.1) x.2.1).2=G.2) (fun x=>a.params.length - x.1) (0,cp w 1,[]) ⟨by omega,by simp,by rw [← hG];rfl,by rw [← hG];rfl⟩ ?_ fun x hx=>?_
  ·refine ⟨by simp only [rW,zle,zlf,zkq,zkv];omega,lRq _,hcM2 _ _ (fun n=>by simp [znv]),?_,?_⟩
   ·simp [ltF,rW,znn,znf,zle,zlf,a8 mW]
    omega
   ·simp [aJ,wk2,wk1,wkM,Fr.get]
  obtain ⟨j,w2,a2⟩:=x
  dsimp only at hx ⊢
  obtain ⟨hj,m1,j1,j2⟩:=hx
  simp only [go_sem]
  refine ai (fun hc=>?_) (fun hc=>?_)
  ·have hj':j<a.params.length:=by simp at hc;omega
   obtain ⟨x,hx⟩:∃ x,x=a.params[j]:=⟨_,rfl⟩
   have hd:a.params.drop j=x::a.params.drop (j+1):=by rw [hx];exact dcq hj'
   have hxm:x∈a.params:=by rw [hx];exact gMq hj'
   have hkg:=aU (f:=cq) (l:=a.params) (k:=j) (x:=x) (by rw [gQq hj',hx])
   have e5:IntKind.i64.wrap ((j:Int)+1)=((j+1:Nat):Int):=by rw [wrap_i64]<;>omega
   have hxb:=hpb x hxm
   rw [hd] at j1 j2
   simp only [jj] at j1 j2
   have j1':(a2++[vv (low (cv b w2 256) x.bits)])++_=G.1.map vv:=(List.append_assoc _ _ _).trans j1
   have c256:=c8 (b:=b) (v:=cp w2 0) (n:=256) (by decide)
   simp only [aZ,aH,bhq,Nat.reduceMod,Nat.reduceDiv,aC,aB,aE,aS,aD,aR,aO,aP,aQ,yaq,yar,yao,yap,go_sem,iN,aV,aW,hg,hgc,hne,aT hb,bm,aL,bx,ybb,htg,iNq,List.set_cons_succ,List.set_cons_zero,jU,rW,hag,i8,bg,iI,rZ,fG,Int.toNat_zero,u256,e256,vv,hkg,cq,e5]
   (repeat with_reducible refine Yq ?_)
   refine ⟨(j+1,cp w2 1,a2++[vv (low (cv b w2 256) x.bits)]),⟨by dsimp only;omega,by simp only [lAq,yaz,yba];omega,j1',j2⟩,by dsimp only;omega,by simp only [rW,zle,zlf,zkq,zkv];omega,?_,hcM2 _ _ (fun n=>jY (n:=n) j1' Fj),?_,?_⟩
   ·simp only [rW,lAq,yaz,yba]
    repeat first|exact .refl _|refine .push ?_ _
   ·simp [ltF,rW,znn,znf,zle,zlf,a8 mW]
    omega
   ·simp [aJ,wk2,wk1,wkM,Fr.get]
  ·have hj':j=a.params.length:=by simp at hc;omega
   subst hj'
   rw [List.drop_length] at j1 j2
   simp only [jj,yaf,yaj] at j1 j2
   simp only [aZ,aH,bhq,Nat.reduceMod,Nat.reduceDiv,aC,aB,aE,aS,aD,aR,aO,aP,aQ,yaq,yar,yao,yap,go_sem,iN,aV,aW,hg,hgc,hne,aT hb,bm,aL,bx,ybb,htg,iNq,List.set_cons_succ,List.set_cons_zero,jU,rW,hag,i8,bg,iI,rZ,fG,Int.toNat_zero,u256,e256,vv]
   (repeat with_reducible refine Yq ?_)
   have hE:iw S b v n=(⟨t.id,R.1.1,R.1.2,act,G.1⟩,G.2):=by
    unfold iw
    dsimp only
    rw [ht,hR,← i3,hact,hao,show w+1=cp w 1 from rfl,hG]
   rw [hE] at hres hpos
   dsimp only at hres hpos
   subst hres
   subst hpos
   refine iq 87 (dZ ⟨t.id,R.1.1,R.1.2,act,G.1⟩) ?_ ?_
   ·simp [Fr.get,dZ,aK,gU,bN,bO,ce,dH,bY,gr,wkM,ll,i1,i2,j1]
   simp only [bhq,Nat.reduceMod,Nat.reduceDiv,aC,aB,aE,aS,aD,aR,aO,aP,aQ,yaq,yar,yao,yap,go_sem,dZ,aK]
   rw [j2]
   refine ⟨?_,?_,hcl2 _,li ⟨t.id,R.1.1,R.1.2,act,G.1⟩⟩
   ·simp [wk,wk2,wkL,wk1,wkM]
   ·repeat first|exact .refl _|refine .push ?_ _
end Go.AL
