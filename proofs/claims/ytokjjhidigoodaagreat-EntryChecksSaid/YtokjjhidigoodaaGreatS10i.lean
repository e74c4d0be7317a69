/- Lemmas of the proof; no condition. -/
import Derived.Test.YtokjjhidigoodaaGreatS10e
import Derived.Test.YtokjjhidigoodaaGreatLEntB
set_option linter.all false
set_option maxRecDepth 10000
set_option maxHeartbeats 32000000
open List renaming length_cons → yaz, length_nil → yba, take_of_length_le → ybc, drop_append → ybd, take_append → ybe, drop_eq_nil_of_le → ybf, length_map → ybb, map_nil → yaf, getD_cons_zero → yau, getD_cons_succ → yav, take_succ_cons → yaq, take_zero → yar, drop_succ_cons → yao, drop_zero → yap, cons_append → yal, nil_append → yak, append_nil → yaj
open Go Go.AL Go.Proofs
namespace Go.AL
theorem Mb {hi lo k:Nat} (h:lo<2^64):vOf hi lo % 2^(64+k)=vOf (hi % 2^k) lo:=by
 unfold vOf
 rw [Nat.pow_add,Nat.mod_mul,show (2^64*hi+lo) % 2^64=lo by omega,show (2^64*hi+lo)/2^64=hi by omega]
 omega
theorem CU {hi lo k:Nat} (hk:k≤64):vOf hi lo % 2^k=lo % 2^k:=by
 unfold vOf
 rw [show (2:Nat)^64=2^k*2^(64 - k) by rw [← Nat.pow_add];congr 1;omega,Nat.mul_assoc,Nat.mul_add_mod]
theorem su {k:Nat} (h:k<64):xt .u64 1 (k:Int)=((2^k:Nat):Int):=by
 have:=nd 1 k
 rw [Nat.shiftLeft_eq,Nat.one_mul,Nat.mod_eq_of_lt (Nat.pow_lt_pow_right (by decide) h)] at this
 exact this
theorem rd {k:Nat} (h:k<64):2^k<2^64:=Nat.pow_lt_pow_right (by decide) h
theorem mX {k:Nat} (h:k<64):IntKind.u64.wrap (((2^k:Nat):Int) - 1)=((2^k - 1:Nat):Int):=by
 have h1:=rd h
 have h2:=Nat.two_pow_pos k
 generalize 2^k=p at *
 rw [cV]<;>omega
theorem Bl {a k:Nat} (ha:a<2^64) (h:k<64):jA .u64 (a:Int) ((2^k - 1:Nat):Int)=((a % 2^k:Nat):Int):=by
 have h1:=rd h
 rw [lI a _ ha (by have:=Nat.two_pow_pos k;omega),Nat.and_two_pow_sub_one_eq_mod]
def qF (hi lo:Int):Prop:=0≤hi∧hi<18446744073709551616∧0≤lo∧lo<18446744073709551616
def gl:List AV→AHeap→(AV→Prop)→Prop
 |[.agg [.int .u64 a,.int .u64 b],.int .i64 w],_,K=>(qF a b ∧ -9223372036854775808≤w∧w<9223372036854775808)∧K (vv (low (vOf a.toNat b.toNat) w))
 |_,_,_=>False
theorem pR:EntOk Tryz.prog 20 (Ent.pure gl):=by
 refine Ype fun _ H K h=>?_
 unfold gl at h
 split at h
 rotate_left
 ·exact h.elim
 rename_i a b w
 obtain ⟨⟨⟨h0,h1,h2,h3⟩,hw1,hw2⟩,hK⟩:=h
 refine ⟨_,hK,?_⟩
 obtain ⟨x,rfl⟩:=bj h0
 obtain ⟨y,rfl⟩:=bj h2
 clear hK h0 h2
 simp only [iNq]
 have hx:x<2^64:=by omega
 have hy:y<2^64:=by omega
 unfold low
 rcases (by omega:128≤w∨(64≤w∧w<128)∨w≤0∨(0<w∧w<64)) with h|h|h|h
 ·rw [if_pos h,qx hy]
  have d1:decide (w ≥ 128)=true:=dtq h
  refine Yfv ax tNq Tryz.func20 [.cell 4 48] fun hcl hlt=>?_
  clear hlt
  simp only [go_sem,d1]
  exact Z0
 ·rw [if_neg (by omega)]
  obtain ⟨k,rfl⟩:∃ k:Nat,w=k+64:=⟨(w - 64).toNat,by omega⟩
  have hk:k<64:=by omega
  rw [show ((k:Int)+64).toNat=64+k by omega,Mb hy,qx hy]
  have d1:decide ((k:Int)+64 ≥ 128)=false:=dfq (by omega)
  have d2:decide ((k:Int)+64 ≥ 64)=true:=dtq (by omega)
  have e1:IntKind.i64.wrap ((k:Int)+64 - 64)=(k:Int):=by rw [wrap_i64]<;>omega
  have e2:IntKind.u64.wrap (k:Int)=(k:Int):=by rw [cV]<;>omega
  refine Yfv ax tNq Tryz.func20 [.cell 4 48] fun hcl hlt=>?_
  clear hlt
  simp only [go_sem,d1,d2,e1,e2,su hk,mX hk,Bl hx hk]
  (repeat with_reducible refine Yq ?_)
  exact Z0
 ·rw [if_neg (by omega),show w.toNat=0 by omega,Nat.pow_zero,Nat.mod_one]
  have v0:vv 0=.agg [.int .u64 0,.int .u64 0]:=rfl
  have d1:decide (w ≥ 128)=false:=dfq (by omega)
  have d2:decide (w ≥ 64)=false:=dfq (by omega)
  have d3:decide (w≤0)=true:=dtq (by omega)
  refine Yfv ax tNq Tryz.func20 [.cell 4 48] fun hcl hlt=>?_
  clear hlt
  simp only [go_sem,d1,d2,d3,v0]
  exact Z0
 ·rw [if_neg (by omega)]
  obtain ⟨k,rfl⟩:∃ k:Nat,w=k:=⟨w.toNat,by omega⟩
  have hk:k<64:=by omega
  rw [iNq,CU (by omega)]
  have v0:vv (y % 2^k)=.agg [.int .u64 0,.int .u64 ((y % 2^k:Nat):Int)]:=by
   have:=qx (hi:=0) (lo:=y % 2^k) (Nat.lt_of_le_of_lt (Nat.mod_le _ _) hy)
   simpa [vOf] using this
  have d1:decide ((k:Int) ≥ 128)=false:=dfq (by omega)
  have d2:decide ((k:Int) ≥ 64)=false:=dfq (by omega)
  have d3:decide ((k:Int)≤0)=false:=dfq (by omega)
  have e2:IntKind.u64.wrap (k:Int)=(k:Int):=by rw [cV]<;>omega
  refine Yfv ax tNq Tryz.func20 [.cell 4 48] fun hcl hlt=>?_
  clear hlt
  simp only [go_sem,d1,d2,d3,e2,su hk,mX hk,Bl hy hk,v0]
  (repeat with_reducible refine Yq ?_)
  exact Z0
def zu:List AV→AHeap→(AV→Prop)→Prop
 |[.int .i64 w,.int .i64 n],_,K=>(1≤n∧n≤w∧w≤63)∧K (.agg [.int .u64 0,.int .u64 ((qf w n:Nat):Int)])
 |_,_,_=>False
theorem Je:EntOk Tryz.prog 139 (Ent.pure zu):=by
 refine Ype fun _ H K h=>?_
 unfold zu at h
 split at h
 rotate_left
 ·exact h.elim
 rename_i w n
 obtain ⟨⟨h1,h2,h3⟩,hK⟩:=h
 refine ⟨_,hK,?_⟩
 clear hK
 obtain ⟨w,rfl⟩:∃ k:Nat,w=k:=⟨w.toNat,by omega⟩
 obtain ⟨n,rfl⟩:∃ k:Nat,n=k:=⟨n.toNat,by omega⟩
 have hw:w<64:=by omega
 have hk:w - n<64:=by omega
 have e1:IntKind.i64.wrap ((w:Int) - (n:Int))=((w - n:Nat):Int):=by rw [wrap_i64]<;>omega
 have e2:IntKind.u64.wrap (w:Int)=(w:Int):=by rw [cV]<;>omega
 have e3:IntKind.u64.wrap ((w - n:Nat):Int)=((w - n:Nat):Int):=by rw [cV]<;>omega
 have e4:IntKind.u64.wrap (((2^w - 1:Nat):Int) - ((2^(w - n) - 1:Nat):Int))=((2^w - 2^(w - n):Nat):Int):=by
  have q1:=rd hw
  have q2:=Nat.two_pow_pos (w - n)
  have q3:2^(w - n)≤2^w:=Nat.pow_le_pow_right (by decide) (by omega)
  generalize 2^w=p at *
  generalize 2^(w - n)=q at *
  rw [cV]<;>omega
 have e5:qf (w:Int) (n:Int)=2^w - 2^(w - n):=by
  unfold qf
  rw [iNq,show ((w:Int) - (n:Int)).toNat=w - n by omega]
 rw [e5]
 refine Yfv ax tNq Tryz.func139 [.cell 4 48] fun hcl hlt=>?_
 clear hlt
 simp only [go_sem,e1,e2,e3,su hw,su hk,mX hw,mX hk,e4]
 (repeat with_reducible refine Yq ?_)
 exact Z0
theorem bC {α:Type} {f:α→AV} {l:List α} {k:Nat} {x:α} (hx:l[k]?=some x):(l.map f).getD k .junk=f x:=by
 rw [gEq,List.getElem?_map,hx];rfl
def gH:List AV→AHeap→(AV→Prop)→Prop
 |[.agg l,.int .i64 id],_,K=>∃ S:Sch,(l=bv S∧S.fields.length≤1000000)∧K (.int .i64 (cR S id))
 |_,_,_=>False
theorem Dv:EntOk Tryz.prog 138 (Ent.pure gH):=by
 refine Ype fun _ H K h=>?_
 unfold gH at h
 split at h
 rotate_left
 ·exact h.elim
 rename_i l id
 obtain ⟨S,⟨rfl,hl⟩,hK⟩:=h
 refine ⟨_,hK,?_⟩
 clear hK
 generalize hR:cR S id=R
 unfold cR at hR
 refine Yfv ax tNq Tryz.func138 [.tmp 4] fun hcl hlt=>?_
 clear hlt
 simp only [go_sem,bv,ybb]
 refine az (A:=Nat) (fun k=>[(1,.int .i64 id),(8,.slice .any 3 (S.fields.map bX)),(9,.int .i64 (S.fields.length:Int)),(10,.int .i64 (k:Int))]) (fun _=>H) (fun k=>k≤S.fields.length∧gR (S.fields.drop k) id=R) (fun k=>S.fields.length - k) 0 ⟨by omega,hR⟩ ?_ fun k hk=>?_
 ·refine ⟨nrq _,(lRq _).push _,hcl,?_,?_⟩
  ·simp [ltF,znb,bw ls]
  ·exact Y10
 clear hR
 obtain ⟨hk,hR⟩:=hk
 simp only [go_sem]
 refine au (fun hc=>?_) (fun hc=>?_)
 ·have hk':k<S.fields.length:=by simp at hc;omega
  obtain ⟨x,hx⟩:∃ x,x=S.fields[k]:=⟨_,rfl⟩
  have hd:S.fields.drop k=x::S.fields.drop (k+1):=by rw [hx];exact dcq hk'
  have hg:=bC (f:=bX) (l:=S.fields) (k:=k) (x:=x) (by rw [gQq hk',hx])
  have e5:=Yk5 k
  rw [hd] at hR
  unfold gR at hR
  by_cases he:x.id=id
  ·rw [if_pos he] at hR
   subst he
   simp only [go_sem,iNq,ybb,hg,bX,beq_self_eq_true,hR]
   (repeat with_reducible refine Yq ?_)
   exact Z0
  ·rw [if_neg he] at hR
   have d1:(x.id==id)=false:=by simpa using he
   simp only [go_sem,iNq,ybb,hg,bX,d1,e5]
   (repeat with_reducible refine Yq ?_)
   refine ⟨k+1,⟨by omega,hR⟩,by omega,nrq _,(lRq _).push _,hcl,?_,?_⟩
   ·simp [ltF,znb,bw ls]
   ·exact Y10
 ·have hk':k=S.fields.length:=by simp at hc;omega
  subst hk'
  rw [List.drop_length] at hR
  unfold gR at hR
  simp only [go_sem,hR]
  exact Z0
def kg:List AV→AHeap→(AV→Prop)→Prop
 |[.agg l,.int .i64 id],_,K=>∃ S:Sch,(l=bv S∧S.actions.length≤1000000)∧K (a8 (gm S.actions id))
 |_,_,_=>False
theorem Aw:EntOk Tryz.prog 65 (Ent.pure kg):=by
 refine Ype fun _ H K h=>?_
 unfold kg at h
 split at h
 rotate_left
 ·exact h.elim
 rename_i l id
 obtain ⟨S,⟨rfl,hl⟩,hK⟩:=h
 refine ⟨_,hK,?_⟩
 clear hK
 generalize hR:gm S.actions id=R
 refine Yfv ax tNq Tryz.func65 [.cell 4 103] fun hcl hlt=>?_
 clear hlt
 simp only [go_sem,bv,ybb]
 have hcz:((H.push (.cells (bv S))).push (.cells [.int .i64 0,.str [],.slice .nil 1 [],.slice .nil 1 [],.str []])).Closed :=
  ae (ae hcl (ltL_iff.2 fun j hj=>AV.lt_cells (tf S) j hj)) (by simp [znq,znr,znb,znd,aS])
 refine az (A:=Nat) (fun k=>[(1,.int .i64 id),(4,.ptr (H.nx+1) 0),(8,.slice .any 5 (S.actions.map a8)),(9,.int .i64 (S.actions.length:Int)),(10,.int .i64 (k:Int))]) (fun _=>(H.push (.cells (bv S))).push (.cells [.int .i64 0,.str [],.slice .nil 1 [],.slice .nil 1 [],.str []])) (fun k=>k≤S.actions.length∧gm (S.actions.drop k) id=R) (fun k=>S.actions.length - k) 0 ⟨by omega,hR⟩ ?_ fun k hk=>?_
 ·refine ⟨by simp only [zla,zkm,zkr];omega,lRq _,hcz,?_,?_⟩
  ·simp [ltF,znb,znj,zla,bw ip]
  ·exact Y10
 clear hR
 obtain ⟨hk,hR⟩:=hk
 simp only [go_sem]
 refine au (fun hc=>?_) (fun hc=>?_)
 ·have hk':k<S.actions.length:=by simp at hc;omega
  obtain ⟨x,hx⟩:∃ x,x=S.actions[k]:=⟨_,rfl⟩
  have hd:S.actions.drop k=x::S.actions.drop (k+1):=by rw [hx];exact dcq hk'
  have hg:=bC (f:=a8) (l:=S.actions) (k:=k) (x:=x) (by rw [gQq hk',hx])
  have e5:=Yk5 k
  rw [hd] at hR
  unfold gm at hR
  by_cases he:x.id=id
  ·rw [if_pos he] at hR
   subst he
   subst hR
   simp only [go_sem,iNq,ybb,hg,a8,beq_self_eq_true]
   (repeat with_reducible refine Yq ?_)
   have:=ip (n:=H.nx) x
   simp only [a8] at this
   simp (disch:=first|exact Zd|omega) [↓zmk,beq,ybc,ybd,ybe,af,wk,wk2,wk1,wkM,wkL,aj,ybf,hcl,this]
  ·rw [if_neg he] at hR
   have d1:(x.id==id)=false:=by simpa using he
   simp only [go_sem,iNq,ybb,hg,a8,d1,e5]
   (repeat with_reducible refine Yq ?_)
   refine ⟨k+1,⟨by omega,hR⟩,by omega,by simp only [zla];omega,(lRq _).push _,hcz,?_,?_⟩
   ·simp [ltF,znb,znj,zla,bw ip]
   ·simp [aK,wk2,wk1,wkM,Fr.get,a8]
 ·have hk':k=S.actions.length:=by simp at hc;omega
  subst hk'
  rw [List.drop_length] at hR
  unfold gm at hR
  subst hR
  simp only [go_sem,a8,yaf]
  exact Z0
def pm (w kind:Int):List UInt8→Nat→AV × Nat:=fun b v=>(aQ (cN b v w kind).1,(cN b v w kind).2)
theorem Ig {b:List UInt8} {v:Nat}:sL b (min v b.length)=sL b v:=by unfold sL;simp only [dp,bQ]
theorem A3 {b:List UInt8} {v k:Nat} {w:Int}:sX b (min v b.length+k) w=sX b (v+k) w:=by unfold sX ci;simp only [Nat.add_assoc,dp]
theorem yp {b:List UInt8} {v k:Nat}:nT b (min v b.length+k)=nT b (v+k):=by unfold nT;simp only [Nat.add_assoc,dp]
theorem rC (w kind:Int):qz (pm w kind):=fun b v=>by
 unfold pm cN
 simp only [Ig,A3,yp,dp]
 by_cases h2:kind=2
 ·simp only [if_pos h2]
  by_cases h:0<cv b (v+3) 5
  ·simp only [if_pos h];first|exact ⟨rfl,6,rfl,rfl⟩|exact ⟨trivial,6,rfl,rfl⟩
  ·simp only [if_neg h];first|exact ⟨rfl,4,rfl,rfl⟩|exact ⟨trivial,4,rfl,rfl⟩
 by_cases h3:kind=3
 ·simp only [if_neg h2,if_pos h3]
  split<;>first|exact ⟨rfl,5,rfl,rfl⟩|exact ⟨trivial,5,rfl,rfl⟩
 by_cases h4:kind=4
 ·simp only [if_neg h2,if_neg h3,if_pos h4]
  split<;>first|exact ⟨rfl,5,rfl,rfl⟩|exact ⟨trivial,5,rfl,rfl⟩
 ·simp only [if_neg h2,if_neg h3,if_neg h4]
  first|exact ⟨rfl,3,rfl,rfl⟩|exact ⟨trivial,3,rfl,rfl⟩
def Bk:List AV→AHeap→(AEnd→AHeap→Prop)→Prop
 |[.ptr id 0,.agg l,.agg [.str nm,.int .i64 fld,.int .i64 kind]],H,K=>∃ S:Sch,(l=bv S∧S.fields.length≤1000000∧1≤cR S fld∧cR S fld≤32∧(kind=2→16≤cR S fld)) ∧
   onS (H.get id) (pm (cR S fld) kind) fun x o=>K (.ret x) (H.set id o)
 |_,_,_=>False
theorem Iz {x:Nat} (h:x<2^64):vv x=.agg [.int .u64 0,.int .u64 (x:Int)]:=by
 unfold vv
 rw [Nat.div_eq_of_lt h,Nat.mod_eq_of_lt h];rfl
theorem gB (x:Nat):vOf 0 x=x:=by unfold vOf;omega
theorem sv {x:Nat} {w:Int} (h1:1≤w) (h2:w≤32):low x w<2^32:=by
 unfold low
 rw [if_neg (by omega)]
 exact Nat.lt_of_lt_of_le (Nat.mod_lt _ (Nat.two_pow_pos _)) (Nat.pow_le_pow_right (by decide) (by omega))
theorem Ko {b:List UInt8} {u:Nat} {w:Int}:([.int .i64 w,.int .i64 8,.int .i64 16,.int .i64 1,.int .i64 (1+((cv b (cp u 0) w.toNat:Nat):Int))]:List AV).getD (cv b (cp u 1) 5) .junk=.int .i64 (sX b u w):=by
 have h:=eR (b:=b) (v:=u+1) (n:=5) (by decide)
 unfold sX cp ci
 exact Y111
theorem E9 {b:List UInt8} {u:Nat} {w:Int} (h1:16≤w):1≤sX b u w∧sX b u w≤w:=by
 have h:=eR (b:=b) (v:=u+1) (n:=5) (by decide)
 have h':=eR (b:=b) (v:=u) (n:=w.toNat) (by omega)
 unfold sX ci
 exact Y108
theorem G1 {b:List UInt8} {u:Nat}:([.int .i64 255,.int .i64 15,.int .i64 1,.int .i64 12,.int .i64 ((cv b (cp u 0) 256:Nat):Int)]:List AV).getD (cv b (cp u 1) 5) .junk=.int .i64 ((nT b u:Nat):Int):=by
 have h:=eR (b:=b) (v:=u+1) (n:=5) (by decide)
 unfold nT cp
 exact Y111
theorem JY {b:List UInt8} {u:Nat}:nT b u<256:=by
 have h:=eR (b:=b) (v:=u+1) (n:=5) (by decide)
 have h':=eR (b:=b) (v:=u) (n:=256) (by decide)
 unfold nT
 exact Y108
theorem Lt {b:List UInt8} {v:Nat}:sL b v<2^32:=by
 unfold sL
 refine Nat.or_lt_two_pow (Nat.or_lt_two_pow ?_ ?_) ?_
 ·have:=eR (b:=b) (v:=v) (n:=256) (by decide)
  rw [Nat.shiftLeft_eq];omega
 ·have:=eR (b:=b) (v:=v+1) (n:=16) (by decide)
  rw [Nat.shiftLeft_eq];omega
 ·have:=eR (b:=b) (v:=v+2) (n:=16) (by decide)
  omega
theorem Jv {w n:Int} (h:w≤32):qf w n<2^33:=by
 unfold qf
 have:2^w.toNat≤2^32:=Nat.pow_le_pow_right (by decide) (by omega)
 have:=Nat.sub_le (2^w.toNat) (2^(w - n).toNat)
 omega
theorem Au {p:Prop} [Decidable p] {t:Bool} (h:decide p=t):p=(t=true):=by subst h;simp
theorem FV:EntOk Tryz.prog 64 (Ent.effect Bk):=by
 refine EntOk.effect fun args H K h=>?_
 unfold Bk at h
 split at h
 rotate_left
 ·exact h.elim
 rename_i id l nm fld kind
 obtain ⟨S,⟨rfl,hf,hw1,hw2,hk2⟩,h⟩:=h
 generalize hwo:cR S fld=w at *
 obtain ⟨w,rfl⟩:∃ k:Nat,w=k:=⟨w.toNat,by omega⟩
 unfold onS at h
 obtain ⟨b,v,hg,hb,hv,hK⟩:=kQ h
 refine ⟨_,_,hK,?_⟩
 clear hK h
 unfold pm
 dsimp only
 generalize hr:cN b v w kind=r
 obtain ⟨m,p⟩:=r
 dsimp only
 refine ACalls.fW ax (tCq ke (tCq Dv (tCq pR (tCq Je tNq)))) Tryz.func64 [.cell 6 114] (nrq _) (T:=av [(8,[[],[],[],[],[],[],[],[],[],[],[2,5]]),(14,[[],[],[],[],[3]])]) (h:=fun hcl hlt=>?_)
 clear hlt
 have hid:=glq hg
 have hne:=qk hid
 have hgc:=li (b:=b) hid
 have hcl2:∀ w,(H.set id (dZ b w)).Closed:=fun w=>ai hcl ji
 have e256:(256:Int).toNat=256:=rfl
 have e16:(16:Int).toNat=16:=rfl
 have e5:(5:Int).toNat=5:=rfl
 have c256:∀ u,cv b u 256<256:=fun u=>eR (by decide)
 have c16:∀ u,cv b u 16<16:=fun u=>eR (by decide)
 have c5:∀ u,cv b u 5<5:=fun u=>eR (by decide)
 have u256:∀ u,IntKind.u64.wrap ((cv b u 256:Nat):Int)=((cv b u 256:Nat):Int):=fun u=>by have:=c256 u;rw [cV (by omega) (by omega)]
 have u16:∀ u,IntKind.u64.wrap ((cv b u 16:Nat):Int)=((cv b u 16:Nat):Int):=fun u=>by have:=c16 u;rw [cV (by omega) (by omega)]
 have s24:∀ u,xt .u64 ((cv b u 256:Nat):Int) 24=((cv b u 256 <<< 24:Nat):Int):=fun u=>by
  have:=c256 u
  have e:=nd (cv b u 256) 24
  rw [Nat.mod_eq_of_lt (by rw [Nat.shiftLeft_eq];omega)] at e
  exact e
 have s8:∀ u,xt .u64 ((cv b u 16:Nat):Int) 8=((cv b u 16 <<< 8:Nat):Int):=fun u=>by
  have:=c16 u
  have e:=nd (cv b u 16) 8
  rw [Nat.mod_eq_of_lt (by rw [Nat.shiftLeft_eq];omega)] at e
  exact e
 have l24:∀ u,cv b u 256 <<< 24<2^64:=fun u=>by have:=c256 u;rw [Nat.shiftLeft_eq];omega
 have l8:∀ u,cv b u 16 <<< 8<2^64:=fun u=>by have:=c16 u;rw [Nat.shiftLeft_eq];omega
 have o1:∀ u u',ior .u64 ((cv b u 256 <<< 24:Nat):Int) ((cv b u' 16 <<< 8:Nat):Int)=((cv b u 256 <<< 24 ||| cv b u' 16 <<< 8:Nat):Int):=fun u u'=>nE _ _ (l24 u) (l8 u')
 have o2:∀ u u' u'',ior .u64 ((cv b u 256 <<< 24 ||| cv b u' 16 <<< 8:Nat):Int) ((cv b u'' 16:Nat):Int)=((cv b u 256 <<< 24 ||| cv b u' 16 <<< 8 ||| cv b u'' 16:Nat):Int):=fun u u' u''=>nE _ _ (Nat.or_lt_two_pow (l24 u) (l8 u')) (by have:=c16 u'';omega)
 have hN:(cv b (cp v 0) 256 <<< 24 ||| cv b (cp v 1) 16 <<< 8 ||| cv b (cp v 2) 16)=sL b v:=rfl
 have hNl:=Lt (b:=b) (v:=v)
 have hXl:=sv (x:=sL b v) hw1 hw2
 have hvv:∀ x:Nat,x<2^32→vv x=.agg [.int .u64 0,.int .u64 (x:Int)]:=fun x hx=>Iz (by omega)
 simp only [go_sem,bB,gH,gl,qF,bv,hg,hgc,bu hb,bQ,bh,bW,hne,e256,e16,e5,u256,u16,s24,s8,o1,o2,hN,iNq,Int.toNat_zero,gB]
 (repeat with_reducible refine Yq ?_)
 refine ⟨S,⟨rfl,hf⟩,?_⟩
 rw [hwo]
 simp only [bp,aM,bhq,Nat.reduceMod,Nat.reduceDiv,aD,aE,aF,bf,aG,bc,aZ,bb,a9,yaq,yar,yao,yap,go_sem,bB,gH,gl,qF,bv,hg,hgc,bu hb,bQ,bh,bW,hne,e256,e16,e5,u256,u16,s24,s8,o1,o2,hN,iNq,Int.toNat_zero,gB,hvv _ hXl]
 (repeat with_reducible refine Yq ?_)
 have hX64:low (sL b v) (w:Int)<2^64:=by omega
 have i5:∀ u,(0≤((cv b u 5:Nat):Int)∧((cv b u 5:Nat):Int)<((5:Nat):Int))=True:=fun u=>JI (by decide)
 have zm:aQ cu=.agg [.bool false,.int .u64 0,.int .u64 0,.int .u64 0,.int .u64 0,.int .i64 0,.int .u64 0,.int .u64 0]:=rfl
 have v0:vc 0=[.int .u64 0,.int .u64 0]:=rfl
 generalize hX:low (sL b v) (w:Int)=X at *
 unfold cN at hr
 dsimp only at hr
 rw [hX] at hr
 by_cases q2:kind=2
 ·subst q2
  have hw16:=hk2 rfl
  rw [if_pos rfl] at hr
  obtain ⟨p1,p2⟩:=E9 (b:=b) (u:=v+4) hw16
  have pg:([.int .i64 (w:Int),.int .i64 8,.int .i64 16,.int .i64 1,.int .i64 (1+((cv b (cp v 4) w:Nat):Int))]:List AV).getD (cv b (cp v 5) 5) .junk=.int .i64 (sX b (v+4) (w:Int)):=Ko (u:=v+4) (w:=(w:Int))
  have pl:cv b (cp v 4) w<w:=eR (by omega)
  have pw:IntKind.i64.wrap (1+((cv b (cp v 4) w:Nat):Int))=1+((cv b (cp v 4) w:Nat):Int):=by rw [wrap_i64]<;>omega
  have hM:=Jv (w:=(w:Int)) (n:=sX b (v+4) (w:Int)) hw2
  generalize sX b (v+4) (w:Int)=n at *
  have ia:jA .u64 (X:Int) ((qf (w:Int) n:Nat):Int)=((X &&& qf (w:Int) n:Nat):Int):=lI _ _ hX64 (by omega)
  have iv:vc (X &&& qf (w:Int) n)=[.int .u64 0,.int .u64 ((X &&& qf (w:Int) n:Nat):Int)]:=iB (Nat.lt_of_le_of_lt Nat.and_le_left hX64)
  by_cases h5:0<cv b (v+3) 5
  ·rw [if_pos h5] at hr
   cases hr
   have d1:decide (((cv b (cp v 3) 5:Nat):Int) > 0)=true:=dtq (by unfold cp;omega)
   simp only [bp,aM,bhq,Nat.reduceMod,Nat.reduceDiv,aD,aE,aF,bf,aG,bc,aZ,bb,a9,yaq,yar,yao,yap,go_sem,bB,gH,gl,qF,bv,hg,hgc,bu hb,bQ,bh,bW,hne,e256,e16,e5,u256,u16,s24,s8,o1,o2,hN,iNq,Int.toNat_zero,gB,hvv _ hXl,beq_self_eq_true,d1,pw,i5,pg,zu,ia,aQ,bE,iv,v0,yal,yak]
   (repeat with_reducible refine Yq ?_)
   simp (disch:=first|exact Zd|omega) [↓zmk,beq,ybc,ybd,ybe,af,wk,wk2,wk1,wkM,wkL,aj,ybf,hcl2]
   exact Y18
  ·rw [if_neg h5] at hr
   cases hr
   have d1:decide (((cv b (cp v 3) 5:Nat):Int) > 0)=false:=dfq (by unfold cp;omega)
   simp only [bp,aM,bhq,Nat.reduceMod,Nat.reduceDiv,aD,aE,aF,bf,aG,bc,aZ,bb,a9,yaq,yar,yao,yap,go_sem,bB,gH,gl,qF,bv,hg,hgc,bu hb,bQ,bh,bW,hne,e256,e16,e5,u256,u16,s24,s8,o1,o2,hN,iNq,Int.toNat_zero,gB,hvv _ hXl,beq_self_eq_true,d1,zm]
   (repeat with_reducible refine Yq ?_)
   simp (disch:=first|exact Zd|omega) [↓zmk,beq,ybc,ybd,ybe,af,wk,wk2,wk1,wkM,wkL,aj,ybf,hcl2]
   exact Y18
 rw [if_neg q2] at hr
 have k2:(kind==2)=false:=by simpa using q2
 by_cases q3:kind=3
 ·subst q3
  rw [if_pos rfl] at hr
  have pg:([.int .i64 255,.int .i64 15,.int .i64 1,.int .i64 12,.int .i64 ((cv b (cp v 3) 256:Nat):Int)]:List AV).getD (cv b (cp v 4) 5) .junk=.int .i64 ((nT b (v+3):Nat):Int):=G1 (u:=v+3)
  have hMl:=JY (b:=b) (u:=v+3)
  generalize nT b (v+3)=g at *
  have ug:IntKind.u64.wrap (g:Int)=(g:Int):=by rw [cV]<;>omega
  have hYl:=sv (x:=g) hw1 hw2
  have hYv:=hvv _ hYl
  obtain ⟨Y,hY⟩:∃ Y,low g (w:Int)=Y:=⟨_,rfl⟩
  rw [hY] at hYl hYv hr
  have ia:jA .u64 (X:Int) (Y:Int)=((X &&& Y:Nat):Int):=lI _ _ hX64 (by omega)
  have iv:vc (X &&& Y)=[.int .u64 0,.int .u64 ((X &&& Y:Nat):Int)]:=iB (Nat.lt_of_le_of_lt Nat.and_le_left hX64)
  have iv2:vc Y=[.int .u64 0,.int .u64 (Y:Int)]:=iB (by omega)
  by_cases h5:Y≠0
  ·rw [if_pos h5] at hr
   cases hr
   have d1:((Y:Int) != 0)=true:=by simpa using h5
   simp only [bp,aM,bhq,Nat.reduceMod,Nat.reduceDiv,aD,aE,aF,bf,aG,bc,aZ,bb,a9,yaq,yar,yao,yap,go_sem,bB,gH,gl,qF,bv,hg,hgc,bu hb,bQ,bh,bW,hne,e256,e16,e5,u256,u16,s24,s8,o1,o2,hN,iNq,Int.toNat_zero,gB,hvv _ hXl,k2,beq_self_eq_true,d1,i5,pg,ug,hY,hYv,ia,aQ,bE,iv,iv2,v0,yal,yak]
   (repeat with_reducible refine Yq ?_)
   simp (disch:=first|exact Zd|omega) [↓zmk,beq,ybc,ybd,ybe,af,wk,wk2,wk1,wkM,wkL,aj,ybf,hcl2]
   exact Y18
  ·rw [if_neg h5] at hr
   cases hr
   have d1:((Y:Int) != 0)=false:=by simpa using h5
   simp only [bp,aM,bhq,Nat.reduceMod,Nat.reduceDiv,aD,aE,aF,bf,aG,bc,aZ,bb,a9,yaq,yar,yao,yap,go_sem,bB,gH,gl,qF,bv,hg,hgc,bu hb,bQ,bh,bW,hne,e256,e16,e5,u256,u16,s24,s8,o1,o2,hN,iNq,Int.toNat_zero,gB,hvv _ hXl,k2,beq_self_eq_true,d1,i5,pg,ug,hY,hYv,zm]
   (repeat with_reducible refine Yq ?_)
   simp (disch:=first|exact Zd|omega) [↓zmk,beq,ybc,ybd,ybe,af,wk,wk2,wk1,wkM,wkL,aj,ybf,hcl2]
   exact Y18
 rw [if_neg q3] at hr
 have k3:(kind==3)=false:=by simpa using q3
 have iv2:vc X=[.int .u64 0,.int .u64 (X:Int)]:=iB hX64
 by_cases q4:kind=4
 ·subst q4
  rw [if_pos rfl] at hr
  have uw:IntKind.u64.wrap (w:Int)=(w:Int):=by rw [cV]<;>omega
  have hw64:w<64:=by omega
  have c9:=c256 (cp v 3)
  have ws:IntKind.u64.wrap ((X:Int)+((cv b (cp v 3) 256:Nat):Int))=((X+cv b (cp v 3) 256:Nat):Int):=by rw [cV]<;>omega
  have mn:min (((X+cv b (cp v 3) 256:Nat):Int)) (((2^w - 1:Nat):Int))=((qo X (cv b (cp v 3) 256) (w:Int):Nat):Int):=by
   unfold qo;rw [iNq];omega
  have hHl:qo X (cv b (cp v 3) 256) (w:Int)<2^64:=by
   unfold qo;omega
  have hHc:qo X (cv b (v+3) 256) (w:Int)=qo X (cv b (cp v 3) 256) (w:Int):=rfl
  rw [hHc,iNq] at hr
  clear hHc
  generalize qo X (cv b (cp v 3) 256) (w:Int)=Z at *
  have iv3:vc Z=[.int .u64 0,.int .u64 (Z:Int)]:=iB hHl
  have kk2:((4:Int)==2)=false:=rfl
  have kk3:((4:Int)==3)=false:=rfl
  have dz:((X:Int)==0)=decide (X=0):=by rw [Bool.eq_iff_iff];simp
  have dh:((Z:Int)==((2^w - 1:Nat):Int))=decide (Z=2^w - 1):=by rw [Bool.eq_iff_iff];simp only [beq_iff_eq,decide_eq_true_eq];omega
  have dc:decide (((cv b (cp v 4) 5:Nat):Int) > 0)=decide (0<cv b (v+4) 5):=by rw [decide_eq_decide];unfold cp;omega
  cases hz:((X:Int)==0)<;>cases hh:((Z:Int)==((2^w - 1:Nat):Int))<;>cases hcv:decide (((cv b (cp v 4) 5:Nat):Int) > 0)
  all_goals
   have g1:=Au (dc.symm.trans hcv)
   have g2:=Au (dz.symm.trans hz)
   have g3:=Au (dh.symm.trans hh)
   simp only [g1,g2,g3,Bool.false_eq_true,not_true_eq_false,nFq,and_self,and_true,and_false,true_and,false_and,if_true,if_false] at hr
   cases hr
  all_goals
   simp only [bp,aM,bhq,Nat.reduceMod,Nat.reduceDiv,aD,aE,aF,bf,aG,bc,aZ,bb,a9,yaq,yar,yao,yap,go_sem,bB,gH,gl,qF,bv,hg,hgc,bu hb,bQ,bh,bW,hne,e256,e16,e5,u256,u16,s24,s8,o1,o2,hN,iNq,Int.toNat_zero,gB,hvv _ hXl,kk2,kk3,beq_self_eq_true,uw,ws,su hw64,mX hw64,mn,hz,hh,hcv,↓zm,aQ,bE,iv2,iv3,v0,yal,yak,Bool.not_true,Bool.not_false]
   (repeat with_reducible refine Yq ?_)
   simp (disch:=first|exact Zd|omega) [↓zmk,beq,ybc,ybd,ybe,af,wk,wk2,wk1,wkM,wkL,aj,ybf,hcl2]
   first|done|repeat first|exact .refl _|refine .push ?_ _
 rw [if_neg q4] at hr
 cases hr
 have k4:(kind==4)=false:=by simpa using q4
 simp only [bp,aM,bhq,Nat.reduceMod,Nat.reduceDiv,aD,aE,aF,bf,aG,bc,aZ,bb,a9,yaq,yar,yao,yap,go_sem,bB,gH,gl,qF,bv,hg,hgc,bu hb,bQ,bh,bW,hne,e256,e16,e5,u256,u16,s24,s8,o1,o2,hN,iNq,Int.toNat_zero,gB,hvv _ hXl,k2,k3,k4,aQ,bE,iv2,v0,yal,yak]
 (repeat with_reducible refine Yq ?_)
 simp (disch:=first|exact Zd|omega) [↓zmk,beq,ybc,ybd,ybe,af,wk,wk2,wk1,wkM,wkL,aj,ybf,hcl2]
 exact Y18
theorem Hv {b:List UInt8} {v k:Nat}:sL b (min v b.length+k)=sL b (v+k):=by unfold sL;simp only [Nat.add_assoc,dp]
theorem Du {b:List UInt8} {v k:Nat} {w kind:Int}:(cN b (min v b.length+k) w kind).1=(cN b (v+k) w kind).1∧∃ c,(cN b (min v b.length+k) w kind).2=min v b.length+c∧(cN b (v+k) w kind).2=v+c:=by
 unfold cN
 simp only [Hv,Nat.add_assoc,A3,yp,dp]
 by_cases h2:kind=2
 ·simp only [if_pos h2]
  by_cases h:0<cv b (v+(k+3)) 5
  ·simp only [if_pos h];exact ⟨trivial,_,rfl,rfl⟩
  ·simp only [if_neg h];exact ⟨trivial,_,rfl,rfl⟩
 by_cases h3:kind=3
 ·simp only [if_neg h2,if_pos h3]
  split<;>exact ⟨rfl,_,rfl,rfl⟩
 by_cases h4:kind=4
 ·simp only [if_neg h2,if_neg h3,if_pos h4]
  split<;>exact ⟨rfl,_,rfl,rfl⟩
 ·simp only [if_neg h2,if_neg h3,if_neg h4]
  exact ⟨trivial,_,rfl,rfl⟩
theorem nr {S:Sch} {b:List UInt8} {v:Nat}:∀ (ks:List SKey) (k:Nat) (p:Int),(cX S b ks (min v b.length+k) p).1=(cX S b ks (v+k) p).1∧∃ c,(cX S b ks (min v b.length+k) p).2=min v b.length+c∧(cX S b ks (v+k) p).2=v+c
 |[],k,p=>⟨rfl,k,rfl,rfl⟩
 |x::ks,k,p=>by
  obtain ⟨h1,c,h2,h3⟩:=Du (b:=b) (v:=v) (k:=k) (w:=cR S x.field) (kind:=x.kind)
  by_cases hk:x.kind=3∨x.kind=4
  ·obtain ⟨i1,d,i2,i3⟩:=nr (b:=b) (v:=v) ks (c+1) (1+ci b (v+c) 5)
   simp only [cX,if_pos hk,h1,h2,h3,ci,dp,Nat.add_assoc]
   simp only [ci] at i1 i2 i3
   rw [i1]
   exact ⟨rfl,d,i2,i3⟩
  ·obtain ⟨i1,d,i2,i3⟩:=nr (b:=b) (v:=v) ks c p
   simp only [cX,if_neg hk,h1,h2,h3]
   rw [i1]
   exact ⟨rfl,d,i2,i3⟩
theorem y3 {b:List UInt8} {v:Nat}:∀ (ps:List SParam) (k:Nat),(kz b ps (min v b.length+k)).1=(kz b ps (v+k)).1∧∃ c,(kz b ps (min v b.length+k)).2=min v b.length+c∧(kz b ps (v+k)).2=v+c
 |[],k=>⟨rfl,k,rfl,rfl⟩
 |p::ps,k=>by
  obtain ⟨i1,d,i2,i3⟩:=y3 (b:=b) (v:=v) ps (k+1)
  simp only [kz,dp,Nat.add_assoc]
  rw [i1]
  exact ⟨rfl,d,i2,i3⟩
def rG (S:Sch) (n:Int):List UInt8→Nat→AV × Nat:=fun b v=>(cJ (kC S b v n).1,(kC S b v n).2)
theorem I4 (S:Sch) (n:Int):qz (rG S n):=fun b v=>by
 obtain ⟨i1,c,i2,i3⟩:=nr (S:=S) (b:=b) (v:=v) (fM S n).keys 0 0
 simp only [Nat.add_zero] at i1 i2 i3
 unfold rG kC
 dsimp only
 rw [i1,i2,i3,dp]
 obtain ⟨j1,d,j2,j3⟩:=y3 (b:=b) (v:=v) (gm S.actions ((fM S n).actions.getD (cv b (v+c) (fM S n).actions.length) 0)).params (c+1)
 simp only [Nat.add_assoc]
 rw [j1,j2,j3]
 exact ⟨rfl,d,rfl,rfl⟩
structure GenS (S:Sch):Prop where
 fl:S.fields.length≤1000
 al:S.actions.length≤1000
 tl:S.tables.length≤1000
 t1:1≤S.tables.length
 kl:∀ t∈S.tables,t.keys.length≤100
 kb:∀ t∈S.tables,∀ k∈t.keys,1≤cR S k.field∧cR S k.field≤32∧(k.kind=2→16≤cR S k.field)
 a1:∀ t∈S.tables,1≤t.actions.length∧t.actions.length≤100
 pl:∀ a:Int,(gm S.actions a).params.length≤100
 pb:∀ a:Int,∀ p∈(gm S.actions a).params,0≤p.bits∧p.bits≤1000
def vy:List AV→AHeap→(AEnd→AHeap→Prop)→Prop
 |[.ptr id 0,.agg l,.int .i64 n],H,K=>∃ S:Sch,(l=bv S∧GenS S ∧ -9223372036854775808≤n∧n<9223372036854775808)∧onS (H.get id) (rG S n) fun x o=>K (.ret x) (H.set id o)
 |_,_,_=>False
theorem NH {b:List UInt8} {v:Nat} {w k:Int}:(pm w k b v).1=.agg [.bool (cN b v w k).1.present,.int .u64 (((cN b v w k).1.value/2^64:Nat):Int),.int .u64 (((cN b v w k).1.value % 2^64:Nat):Int),.int .u64 (((cN b v w k).1.mask/2^64:Nat):Int),.int .u64 (((cN b v w k).1.mask % 2^64:Nat):Int),.int .i64 (cN b v w k).1.pfx,.int .u64 (((cN b v w k).1.high/2^64:Nat):Int),.int .u64 (((cN b v w k).1.high % 2^64:Nat):Int)]:=(rfl)
theorem Nh {b:List UInt8} {v:Nat} {w k:Int}:(pm w k b v).2=cp (cN b v w k).2 0:=(rfl)
theorem Hm {H:AHeap} {id:Nat} {o:AObj} (h:H.get id=some o):H.set id o=H:=by
 have hl:=glq h
 unfold AHeap.get at h
 rw [if_pos hl] at h
 unfold AHeap.set
 cases H with
 |mk nx f =>
  simp only [AHeap.mk.injEq,true_and]
  funext j
  by_cases e:j=id
  ·rw [if_pos e,e];exact h.symm
  ·rw [if_neg e]
def lM (H:AHeap) (id:Nat) (b:List UInt8) (S:Sch) (t:STable) (w:Nat) (a1:List AV) (p:Int):AHeap :=
 ((((((H.set id (dZ b (cp w 0))).push (.cells (bv S))).push (.cells [.int .i64 0,.slice .nil 1 [],.int .i64 0,.int .i64 0,.slice .nil 1 []])).push (.cells [.int .i64 t.id,.str t.name,.slice .any 3 (t.keys.map bL),.slice .any 1 (inL t.actions),.int .i64 t.dflt,.slice .any 2 (t.dargs.map vv),.int .i64 t.size,.str t.restr])).push (.buf 8 a1.length)).push (.buf 2 0)).push (.cells [.int .i64 t.id,.slice (.own (H.nx+1+1+1)) 8 a1,.int .i64 p,.int .i64 0,.slice (.own (H.nx+1+1+1+1)) 2 []])
def uC (H:AHeap) (id:Nat) (b:List UInt8) (S:Sch) (t:STable) (w:Nat) (a1 a2:List AV) (p act:Int):AHeap :=
 ((((((H.set id (dZ b (cp w 0))).push (.cells (bv S))).push (.cells [.int .i64 0,.slice .nil 1 [],.int .i64 0,.int .i64 0,.slice .nil 1 []])).push (.cells [.int .i64 t.id,.str t.name,.slice .any 3 (t.keys.map bL),.slice .any 1 (inL t.actions),.int .i64 t.dflt,.slice .any 2 (t.dargs.map vv),.int .i64 t.size,.str t.restr])).push (.buf 8 a1.length)).push (.buf 2 a2.length)).push (.cells [.int .i64 t.id,.slice (.own (H.nx+1+1+1)) 8 a1,.int .i64 p,.int .i64 act,.slice (.own (H.nx+1+1+1+1)) 2 a2])
theorem iF {n:Nat} (x:SMatch):AV.lt n (aQ x):=by
 simp only [aQ,bE,vc,znn,znq,znr,znb,znc,List.append_assoc,yal,yak,and_true]
theorem Ka {n:Nat} (x:Nat):AV.lt n (vv x):=by simp only [vv,znn,znq,znr,znb,and_true]
theorem gE {n:Nat} (x:SEntry):AV.lt n (cJ x):=by
 simp only [cJ,bG,znn,znq,znr,znb,and_true,true_and]
 exact ⟨bw iF,bw Ka⟩
theorem ut {H:AHeap} {id:Nat} {b:List UInt8} {S:Sch} {t:STable} {w:Nat} {a1 a2:List AV} {p act:Int} (hcl:H.Closed) (h1:∀ n,ltL n a1=True) (h2:∀ n,ltL n a2=True):(uC H id b S t w a1 a2 p act).Closed:=by
 unfold uC
 repeat' (first|exact ai hcl ji|refine ag ?_|refine ae ?_ ?_)
 ·exact ltL_iff.2 fun j hj=>AV.lt_cells (tf S) j hj
 ·simp [znq,znr,znb,aS]
 ·exact ltL_iff.2 fun j hj=>AV.lt_cells (cZ t) j hj
 ·simp [aS,znq,znr,znb,zla,zlb,h1,h2]
  try omega
theorem FK:EntOk Tryz.prog 18 (Ent.effect vy):=by
 refine EntOk.effect fun args H K h=>?_
 unfold vy at h
 split at h
 rotate_left
 ·exact h.elim
 rename_i id l n
 obtain ⟨S,⟨rfl,hS,hn1,hn2⟩,h⟩:=h
 unfold onS at h
 obtain ⟨b,v,hg,hb,hv,hK⟩:=kQ h
 refine ⟨_,_,hK,?_⟩
 clear hK h
 unfold rG
 dsimp only
 generalize hres:(kC S b v n).1=res
 generalize hpos:(kC S b v n).2=pos
 refine ACalls.fW ax (tCq ke (tCq u4 (tCq FV (tCq Aw (tCq pR tNq))))) Tryz.func18 [.cell 6 26] (nrq _) (T:=av [(1,[[],[],[],[],[],[],[4],[],[6],[],[1,4,6,8]]),(6,[[],[],[],[],[],[3,4],[3,4,5],[1,3,4,5],[],[1,3,4,5]]),(10,[[],[],[],[],[],[],[4],[],[6],[],[1,4,6,8]]),(14,[[],[],[],[],[3],[],[],[],[3,4,7],[3,7,8],[1,3,7,8],[],[1,3,7,8]]),(2,[[10,1]]),(16,[[4]])]) (h:=fun hcl hlt=>?_)
 clear hlt
 have hid:=glq hg
 have hne:=qk hid
 have hgc:=li (b:=b) hid
 have hcl2:∀ w,(H.set id (dZ b w)).Closed:=fun w=>ai hcl ji
 obtain ⟨f1,f2,f3,f4,f5,f6,f7,f8,f9⟩:=hS
 obtain ⟨t,ht⟩:∃ t,fM S n=t:=⟨_,rfl⟩
 have hm1:=Int.emod_nonneg n (show ((S.tables.length:Nat):Int)≠0 by omega)
 have hm2:=Int.emod_lt_of_pos n (show (0:Int)<((S.tables.length:Nat):Int) by omega)
 have hmi:(n % ((S.tables.length:Nat):Int)).toNat<S.tables.length:=by omega
 have htm:t∈S.tables:=by
  rw [← ht];unfold fM
  exact Y155
 have htg:(S.tables.map aV).getD (n % ((S.tables.length:Nat):Int)).toNat .junk=.agg [.int .i64 t.id,.str t.name,.slice .any 3 (t.keys.map bL),.slice .any 1 (inL t.actions),.int .i64 t.dflt,.slice .any 2 (t.dargs.map vv),.int .i64 t.size,.str t.restr]:=by
  rw [← ht];unfold fM
  exact bC (f:=aV) (by rw [gQq hmi,gEq,gQq hmi];rfl)
 simp only [bp,aM,bhq,Nat.reduceMod,Nat.reduceDiv,aD,aE,aF,bf,aG,bc,aZ,bb,a9,yaq,yar,yao,yap,go_sem,gI,bB,bv,hg,hgc,hne,bu hb,bQ,bh,bW,ybb,htg,iNq,List.set_cons_succ,List.set_cons_zero]
 (repeat with_reducible refine Yq ?_)
 refine lJ 24 1 8 _ rfl rfl ?_
 simp only [bp,aM,bhq,Nat.reduceMod,Nat.reduceDiv,aD,aE,aF,bf,aG,bc,aZ,bb,a9,yaq,yar,yao,yap,go_sem,gI,bB,bv,hg,hgc,hne,bu hb,bQ,bh,bW,ybb,htg,iNq,List.set_cons_succ,List.set_cons_zero]
 refine lJ 24 4 2 _ rfl rfl ?_
 simp only [bp,aM,bhq,Nat.reduceMod,Nat.reduceDiv,aD,aE,aF,bf,aG,bc,aZ,bb,a9,yaq,yar,yao,yap,go_sem,gI,bB,bv,hg,hgc,hne,bu hb,bQ,bh,bW,ybb,htg,iNq,List.set_cons_succ,List.set_cons_zero]
 (repeat with_reducible refine Yq ?_)
 generalize hR:cX S b t.keys v 0=R
 have hcM:∀ w a1 p,(∀ n,ltL n a1=True)→(lM H id b S t w a1 p).Closed:=fun w a1 p h1=>ut (a2:=[]) (act:=0) hcl h1 (fun n=>by simp [znr])
 refine az (A:=Nat × Nat × List AV × Int) (fun x=>[(0,.ptr id 0),(4,.ptr H.nx 0),(6,.ptr (H.nx+1) 0),(7,.ptr (H.nx+1+1) 0),(8,.ptr (H.nx+1+1+1+1+1) 0),(26,.slice .any 3 (t.keys.map bL)),(27,.int .i64 (t.keys.length:Int)),(28,.int .i64 (x.1:Int))]) (fun x=>lM H id b S t x.2.1 x.2.2.1 x.2.2.2) (fun x=>x.1≤t.keys.length∧x.2.2.1.length≤x.1∧x.2.2.1++(cX S b (t.keys.drop x.1) x.2.1 x.2.2.2).1.1.map aQ=R.1.1.map aQ∧(cX S b (t.keys.drop x.1) x.2.1 x.2.2.2).1.2=R.1.2∧(cX S b (t.keys.drop x.1) x.2.1 x.2.2.2).2=R.2) (fun x=>t.keys.length - x.1) (0,v,[],0) ⟨by omega,by simp,by rw [← hR];rfl,by rw [← hR];rfl,by rw [← hR];rfl⟩ ?_ fun x hx=>?_
 ·refine ⟨by simp only [lM,zla,zlb,zkm,zkr];omega,by dsimp only;unfold lM;rw [show dZ b (cp v 0)=dZ b (cp v 0) from rfl,Hm hg];exact lRq _,hcM _ _ _ (fun n=>by simp [znr]),?_,?_⟩
  ·exact Y137
  ·exact Y10
 obtain ⟨k,w,a1,p⟩:=x
 dsimp only at hx ⊢
 obtain ⟨hk,l1,i1,i2,i3⟩:=hx
 have hlA:=fun n=>lP (n:=n) i1 iF
 simp only [go_sem]
 refine au (fun hc=>?_) (fun hc=>?_)
 ·have hk':k<t.keys.length:=by simp at hc;omega
  obtain ⟨x,hx⟩:∃ x,x=t.keys[k]:=⟨_,rfl⟩
  have hd:t.keys.drop k=x::t.keys.drop (k+1):=by rw [hx];exact dcq hk'
  have hxm:x∈t.keys:=by rw [hx];exact gMq hk'
  have hkg:=bC (f:=bL) (l:=t.keys) (k:=k) (x:=x) (by rw [gQq hk',hx])
  have hkk:=f5 t htm
  have e5:=Yk5 k
  obtain ⟨b1,b2,b3⟩:=f6 t htm x hxm
  simp only [bp,aM,bhq,Nat.reduceMod,Nat.reduceDiv,aD,aE,aF,bf,aG,bc,aZ,bb,a9,yaq,yar,yao,yap,go_sem,gI,bB,bv,hg,hgc,hne,bu hb,bQ,bh,bW,ybb,htg,iNq,List.set_cons_succ,List.set_cons_zero,lM,hkg,bL]
  (repeat with_reducible refine Yq ?_)
  refine ⟨S,⟨rfl,by omega,b1,b2,b3⟩,?_⟩
  simp only [bp,aM,bhq,Nat.reduceMod,Nat.reduceDiv,aD,aE,aF,bf,aG,bc,aZ,bb,a9,yaq,yar,yao,yap,go_sem,gI,bB,bv,hg,hgc,hne,bu hb,bQ,bh,bW,ybb,htg,iNq,List.set_cons_succ,List.set_cons_zero,lM,hkg,bL,cT hb (rC _ _)]
  have five:(5:Int).toNat=5:=rfl
  have a15:∀ u,IntKind.i64.wrap (1+((cv b u 5:Nat):Int))=1+((cv b u 5:Nat):Int):=fun u=>by
   have:=eR (b:=b) (v:=u) (n:=5) (by decide)
   exact Y118
  by_cases hk34:x.kind=3∨x.kind=4
  ·rcases hk34 with h3|h3
   ·have hk34:x.kind=3∨x.kind=4:=.inl h3
    have d3:(x.kind==3)=true:=by simp [h3]
    simp only [bp,aM,bhq,Nat.reduceMod,Nat.reduceDiv,aD,aE,aF,bf,aG,bc,aZ,bb,a9,yaq,yar,yao,yap,go_sem,gI,bB,bv,hg,hgc,hne,bu hb,bQ,bh,bW,ybb,htg,iNq,List.set_cons_succ,List.set_cons_zero,lM,hkg,bL,cT hb (rC _ _),NH,Nh,e5,a15,five,d3]
    (repeat with_reducible refine Yq ?_)
    rw [hd] at i1 i2 i3
    simp only [cX,if_pos hk34] at i1 i2 i3
    have i1':(a1++[aQ (cN b (cp w 0) (cR S x.field) x.kind).1])++_=R.1.1.map aQ:=(List.append_assoc _ _ _).trans i1
    refine ⟨(k+1,cp (cN b (cp w 0) (cR S x.field) x.kind).2 1,a1++[aQ (cN b (cp w 0) (cR S x.field) x.kind).1],1+ci b (cp (cN b (cp w 0) (cR S x.field) x.kind).2 0) 5),⟨by dsimp only;omega,by simp only [lAq,yaz,yba];omega,i1',i2,i3⟩,by dsimp only;omega,by simp only [lM,zla,zlb,zkm,zkr];omega,?_,hcM _ _ _ (fun n=>lP (n:=n) i1' iF),?_,?_⟩
    ·exact Y100
    ·exact Y137
    ·exact Y10
   ·have hk34:x.kind=3∨x.kind=4:=.inr h3
    have d3:(x.kind==3)=false:=by simp [h3]
    have d4:(x.kind==4)=true:=by simp [h3]
    simp only [bp,aM,bhq,Nat.reduceMod,Nat.reduceDiv,aD,aE,aF,bf,aG,bc,aZ,bb,a9,yaq,yar,yao,yap,go_sem,gI,bB,bv,hg,hgc,hne,bu hb,bQ,bh,bW,ybb,htg,iNq,List.set_cons_succ,List.set_cons_zero,lM,hkg,bL,cT hb (rC _ _),NH,Nh,e5,a15,five,d3,d4]
    (repeat with_reducible refine Yq ?_)
    rw [hd] at i1 i2 i3
    simp only [cX,if_pos hk34] at i1 i2 i3
    have i1':(a1++[aQ (cN b (cp w 0) (cR S x.field) x.kind).1])++_=R.1.1.map aQ:=(List.append_assoc _ _ _).trans i1
    refine ⟨(k+1,cp (cN b (cp w 0) (cR S x.field) x.kind).2 1,a1++[aQ (cN b (cp w 0) (cR S x.field) x.kind).1],1+ci b (cp (cN b (cp w 0) (cR S x.field) x.kind).2 0) 5),⟨by dsimp only;omega,by simp only [lAq,yaz,yba];omega,i1',i2,i3⟩,by dsimp only;omega,by simp only [lM,zla,zlb,zkm,zkr];omega,?_,hcM _ _ _ (fun n=>lP (n:=n) i1' iF),?_,?_⟩
    ·exact Y100
    ·exact Y137
    ·exact Y10
  ·have d3:(x.kind==3)=false:=by simp;intro h;exact hk34 (.inl h)
   have d4:(x.kind==4)=false:=by simp;intro h;exact hk34 (.inr h)
   simp only [bp,aM,bhq,Nat.reduceMod,Nat.reduceDiv,aD,aE,aF,bf,aG,bc,aZ,bb,a9,yaq,yar,yao,yap,go_sem,gI,bB,bv,hg,hgc,hne,bu hb,bQ,bh,bW,ybb,htg,iNq,List.set_cons_succ,List.set_cons_zero,lM,hkg,bL,cT hb (rC _ _),NH,Nh,e5,a15,five,d3,d4]
   (repeat with_reducible refine Yq ?_)
   rw [hd] at i1 i2 i3
   simp only [cX,if_neg hk34] at i1 i2 i3
   have i1':(a1++[aQ (cN b (cp w 0) (cR S x.field) x.kind).1])++_=R.1.1.map aQ:=(List.append_assoc _ _ _).trans i1
   refine ⟨(k+1,cp (cN b (cp w 0) (cR S x.field) x.kind).2 0,a1++[aQ (cN b (cp w 0) (cR S x.field) x.kind).1],p),⟨by dsimp only;omega,by simp only [lAq,yaz,yba];omega,i1',i2,i3⟩,by dsimp only;omega,by simp only [lM,zla,zlb,zkm,zkr];omega,?_,hcM _ _ _ (fun n=>lP (n:=n) i1' iF),?_,?_⟩
   ·exact Y100
   ·exact Y137
   ·exact Y10
 ·have hk':k=t.keys.length:=by simp at hc;omega
  subst hk'
  rw [List.drop_length] at i1 i2 i3
  simp only [cX,yaf,yaj] at i1 i2 i3
  obtain ⟨g1,g2⟩:=f7 t htm
  have hkk:=f5 t htm
  have hcl3:cv b (cp w 0) t.actions.length<t.actions.length:=eR (by omega)
  obtain ⟨act,hact⟩:∃ act,t.actions.getD (cv b w t.actions.length) 0=act:=⟨_,rfl⟩
  have hag:(inL t.actions).getD (cv b (cp w 0) t.actions.length) .junk=.int .i64 act:=by
   rw [← hact]
   unfold inL
   exact bC (f:=fun n=>AV.int .i64 n) (by rw [gQq hcl3,gEq,show cv b w t.actions.length=cv b (cp w 0) t.actions.length from rfl,gQq hcl3];rfl)
  have hil:(inL t.actions).length=t.actions.length:=by simp [inL]
  have hsp:=f8 act
  have hpb:=f9 act
  have e256:(256:Int).toNat=256:=rfl
  have u256:∀ u,IntKind.u64.wrap ((cv b u 256:Nat):Int)=((cv b u 256:Nat):Int):=fun u=>by
   exact Y171
  have hb1:(0≤((cv b (cp w 0) t.actions.length:Nat):Int)∧((cv b (cp w 0) t.actions.length:Nat):Int)<(((inL t.actions).length:Nat):Int))=True:=eq_true ⟨by omega,by rw [hil];omega⟩
  simp only [bp,aM,bhq,Nat.reduceMod,Nat.reduceDiv,aD,aE,aF,bf,aG,bc,aZ,bb,a9,yaq,yar,yao,yap,go_sem,gI,bB,bv,hg,hgc,hne,bu hb,bQ,bh,bW,ybb,htg,iNq,List.set_cons_succ,List.set_cons_zero,lM,uC,hag,kg,a8,gl,qF,gB,Int.toNat_zero,u256,e256,vv,hil]
  (repeat with_reducible refine Yq ?_)
  refine ⟨S,⟨rfl,by omega⟩,?_⟩
  generalize hao:gm S.actions act=a at *
  generalize hG:kz b a.params (cp w 1)=G
  have hcM2:∀ w' a2,(∀ n,ltL n a2=True)→(uC H id b S t w' a1 a2 p act).Closed:=fun w' a2 h2=>ut hcl hlA h2
  refine az (A:=Nat × Nat × List AV) (fun x=>[(0,.ptr id 0),(6,.ptr (H.nx+1) 0),(8,.ptr (H.nx+1+1+1+1+1) 0),(68,.slice .any 2 (a.params.map bS)),(69,.int .i64 (a.params.length:Int)),(70,.int .i64 (x.1:Int))]) (fun x=>uC H id b S t x.2.1 a1 x.2.2 p act) (fun x=>x.1≤a.params.length∧x.2.2.length≤x.1∧x.2.2++(kz b (a.params.drop x.1) x.2.1).1.map vv=G.1.map vv∧(kz b (a.params.drop x.1) x.2.1).2=G.2) (fun x=>a.params.length - x.1) (0,cp w 1,[]) ⟨by omega,by simp,by rw [← hG];rfl,by rw [← hG];rfl⟩ ?_ fun x hx=>?_
  ·refine ⟨by simp only [uC,zla,zlb,zkm,zkr];omega,lRq _,hcM2 _ _ (fun n=>by simp [znr]),?_,?_⟩
   ·simp [ltF,uC,znj,znb,zla,zlb,bw je]
    omega
   ·exact Y10
  obtain ⟨j,w2,a2⟩:=x
  dsimp only at hx ⊢
  obtain ⟨hj,m1,j1,j2⟩:=hx
  simp only [go_sem]
  refine au (fun hc=>?_) (fun hc=>?_)
  ·have hj':j<a.params.length:=by simp at hc;omega
   obtain ⟨x,hx⟩:∃ x,x=a.params[j]:=⟨_,rfl⟩
   have hd:a.params.drop j=x::a.params.drop (j+1):=by rw [hx];exact dcq hj'
   have hxm:x∈a.params:=by rw [hx];exact gMq hj'
   have hkg:=bC (f:=bS) (l:=a.params) (k:=j) (x:=x) (by rw [gQq hj',hx])
   have e5:IntKind.i64.wrap ((j:Int)+1)=((j+1:Nat):Int):=by rw [wrap_i64]<;>omega
   have hxb:=hpb x hxm
   rw [hd] at j1 j2
   simp only [kz] at j1 j2
   have j1':(a2++[vv (low (cv b w2 256) x.bits)])++_=G.1.map vv:=(List.append_assoc _ _ _).trans j1
   have c256:=eR (b:=b) (v:=cp w2 0) (n:=256) (by decide)
   simp only [bp,aM,bhq,Nat.reduceMod,Nat.reduceDiv,aD,aE,aF,bf,aG,bc,aZ,bb,a9,yaq,yar,yao,yap,go_sem,gI,bB,bv,hg,hgc,hne,bu hb,bQ,bh,bW,ybb,htg,iNq,List.set_cons_succ,List.set_cons_zero,lM,uC,hag,kg,a8,gl,qF,gB,Int.toNat_zero,u256,e256,vv,hkg,bS,e5]
   (repeat with_reducible refine Yq ?_)
   refine ⟨(j+1,cp w2 1,a2++[vv (low (cv b w2 256) x.bits)]),⟨by dsimp only;omega,by simp only [lAq,yaz,yba];omega,j1',j2⟩,by dsimp only;omega,by simp only [uC,zla,zlb,zkm,zkr];omega,?_,hcM2 _ _ (fun n=>lP (n:=n) j1' Ka),?_,?_⟩
   ·simp only [uC,lAq,yaz,yba]
    repeat first|exact .refl _|refine .push ?_ _
   ·simp [ltF,uC,znj,znb,zla,zlb,bw je]
    omega
   ·exact Y10
  ·have hj':j=a.params.length:=by simp at hc;omega
   subst hj'
   rw [List.drop_length] at j1 j2
   simp only [kz,yaf,yaj] at j1 j2
   simp only [bp,aM,bhq,Nat.reduceMod,Nat.reduceDiv,aD,aE,aF,bf,aG,bc,aZ,bb,a9,yaq,yar,yao,yap,go_sem,gI,bB,bv,hg,hgc,hne,bu hb,bQ,bh,bW,ybb,htg,iNq,List.set_cons_succ,List.set_cons_zero,lM,uC,hag,kg,a8,gl,qF,gB,Int.toNat_zero,u256,e256,vv]
   (repeat with_reducible refine Yq ?_)
   have hE:kC S b v n=(⟨t.id,R.1.1,R.1.2,act,G.1⟩,G.2):=by
    unfold kC
    dsimp only
    rw [ht,hR,← i3,hact,hao,show w+1=cp w 1 from rfl,hG]
   rw [hE] at hres hpos
   dsimp only at hres hpos
   subst hres
   subst hpos
   refine im 87 (cJ ⟨t.id,R.1.1,R.1.2,act,G.1⟩) ?_ ?_
   ·simp [Fr.get,cJ,bG,j6,cw,cx,cQ,fu,cP,jg,wkM,tn,i1,i2,j1]
   simp only [bhq,Nat.reduceMod,Nat.reduceDiv,aD,aE,aF,bf,aG,bc,aZ,bb,a9,yaq,yar,yao,yap,go_sem,cJ,bG]
   rw [j2]
   refine ⟨?_,?_,hcl2 _,gE ⟨t.id,R.1.1,R.1.2,act,G.1⟩⟩
   ·simp [wk,wk2,wkL,wk1,wkM]
   ·repeat first|exact .refl _|refine .push ?_ _
end Go.AL
