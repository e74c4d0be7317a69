/- Lemmas of the proof; no condition. -/
import Derived.Test.YthnlhjalhflgfaaGreatLVal
import Derived.Test.YthnlhjalhflgfaaGreatAlBun
import Derived.Test.YthnlhjalhflgfaaGreatLSyn
set_option linter.all false
set_option maxRecDepth 10000
open List renaming length_cons → yaz, length_nil → yba, take_of_length_le → ybc, drop_append → ybd, take_append → ybe, drop_eq_nil_of_le → ybf, map_cons → yae, map_nil → yaf, drop_zero → yap, nil_append → yak
open Option renaming map_some → yag
open Go Go.AL Go.Proofs
namespace Go.AL
theorem Ek:ti Tryz.prog 22=some ⟨.slice 5,1,24,.slice .nil 1 []⟩:=by kernel_rfl
theorem KY:ti Tryz.prog 3=some ⟨.int .i64,1,8,.int .i64 0⟩:=by kernel_rfl
theorem G9:ti Tryz.prog 94=some ⟨.int .u64,1,8,.int .u64 0⟩:=by kernel_rfl
theorem L5:ti Tryz.prog 5=some ⟨.int .u8,1,1,.int .u8 0⟩:=by kernel_rfl
theorem I1:ti Tryz.prog 4=some ⟨.bool,1,1,.bool false⟩:=by kernel_rfl
theorem zS:ti Tryz.prog 9=some ⟨.string,1,16,.str []⟩:=by kernel_rfl
attribute [go_sem] Ek KY G9 L5 I1 zS
def jO:List AV→AHeap→(AV→Prop)→Prop
 |[.slice _ 1 l1,.slice _ 1 l2],_,K=>(isB l1∧isB l2∧l1.length+l2.length≤140737488355328)∧K (.slice .any 1 (bys (unb l1++unb l2)))
 |_,_,_=>False
theorem lB:EntOk Tryz.prog 289 (Ent.pure jO):=by
 refine Ype fun _ H K h=>?_
 unfold jO at h
 split at h
 rotate_left
 ·exact h.elim
 rename_i m1 l1 m2 l2
 obtain ⟨⟨c1,c2,hle⟩,hK⟩:=h
 refine ⟨_,hK,?_⟩
 obtain ⟨xs,rfl⟩:=ic c1
 obtain ⟨ys,rfl⟩:=ic c2
 simp only [zlz]
 rw [zlk,zlk] at hle
 refine ACalls.of_aw (Ω:=[]) (T:=aj []) ak tNq Tryz.func289 (by kernel_rfl) (by rfl) (rs:=[.tmp 4]) (by rfl) (by kernel_rfl) (by simp only [Tryz.ntmps289,yaz,yba];decide) (nrq _) fun hcl hlt=>?_
 clear hK hlt
 change aw _ _ _ (KI Tryz.prog [] (nf Tryz.prog [.tmp 4] H.nx (.ret (.slice .any 1 (bys (xs++ys)))) H) []) _ _
 have hw:IntKind.i64.wrap (↑xs.length+↑ys.length)=((xs.length+ys.length:Nat):Int):=by rw [wrap_i64]<;>omega
 have e2:(↑(xs.length+ys.length) - ↑xs.length:Int).toNat=ys.length:=by omega
 simp only [go_sem,zav,byq,hw,e2]
 simp (disch:=first|exact Zd|omega) [↓zmo,beq,ybc,ybd,ybe,aa,wk,wk2,wk1,wkM,wkL,af,ybf,byq,hcl]
 omega
def v6 (n:Int) (j:Nat):UInt8:=UInt8.ofNat (tH .i64 n (8*(j:Int)) % 256).toNat
def ko (n:Int) (w k:Nat):List UInt8:=(List.range (w - k)).map fun i=>v6 n (w - 1 - i)
def be (n:Int) (w:Nat):List UInt8:=ko n w 0
theorem wK (n:Int) (w:Nat):ko n w w=[]:=by simp [ko]
theorem qq (n:Int) (w k:Nat):(ko n w k).length=w - k:=by simp [ko]
theorem uu (n:Int) (w j:Nat) (h:j+1≤w):ko n w (j+1)++[v6 n j]=ko n w j:=by
 unfold ko
 have e:w - j=(w - (j+1))+1:=by omega
 rw [e,List.range_succ,List.map_append]
 congr 2
 simp only [yae,yaf]
 congr 2;omega
def ng:List AV→AHeap→(AEnd→AHeap→Prop)→Prop
 |[.int .i64 n,.int .i64 w],H,K=>(0≤w∧w≤8)∧K (.ret (.slice (.own (H.nx+1)) 1 (bys (be n w.toNat)))) ((H.push (.buf 1 0)).push (.buf 1 w.toNat))
 |_,_,_=>False
theorem rP:EntOk Tryz.prog 290 (Ent.effect ng):=by
 refine EntOk.effect fun args H K h=>?_
 unfold ng at h
 split at h
 rotate_left
 ·exact h.elim
 rename_i n w
 obtain ⟨hw,hK⟩:=h
 refine ⟨_,_,hK,?_⟩
 refine ACalls.of_aw (Ω:=[]) (T:=aj []) ak tNq Tryz.func290 (by kernel_rfl) (by rfl) (rs:=[.tmp 4]) (by rfl) (by kernel_rfl) (by simp only [Tryz.ntmps290,yaz,yba];decide) (by simp only [zle];omega) fun hcl hlt=>?_
 clear hK hlt
 change aw _ _ _ (KI Tryz.prog [] (nf Tryz.prog [.tmp 4] H.nx _ _) []) _ _
 simp only [go_sem,zav,byq]
 refine qp (A:=Nat) (fun k=>[(6,.int .i64 ((k:Int) - 1)),(5,.slice (.own (H.nx+1)) 1 (bys (ko n w.toNat k))),(0,.int .i64 n)])
  (fun k=>(H.push (.buf 1 0)).push (.buf 1 (w.toNat - k))) (fun k=>k≤w.toNat) (fun k=>k) w.toNat (nrq _) ?_ fun k hk=>?_
 ·have ew:IntKind.i64.wrap (w - 1)=w - 1:=by rw [wrap_i64]<;>omega
  simp only [bnq,enter,vR,ltF,ne_eq,Nat.reduceEqDiff,reduceCtorEq,wK,zll,ew,Nat.sub_self,true_or,and_true]
  congr 1;omega
 simp only [go_sem,byq]
 refine ah (fun hc=>?_) (fun hc=>?_)
 ·have hk0:1≤k:=by simp at hc;omega
  obtain ⟨j,rfl⟩:∃ j,k=j+1:=⟨k - 1,by omega⟩
  have e1:IntKind.i64.wrap (8*(((j+1:Nat):Int) - 1))=8*j:=by rw [wrap_i64]<;>omega
  have e3:IntKind.u64.wrap (8*(j:Int))=8*j:=by rw [jB]<;>omega
  have e4:IntKind.i64.wrap (((j+1:Nat):Int) - 1 - 1)=(j:Int) - 1:=by rw [wrap_i64]<;>omega
  simp only [go_sem,byq,e1,e3,e4,yx,qq]
  have e5:=uu n w.toNat j hk
  unfold v6 at e5
  refine ⟨by omega,⟨by omega,by omega⟩,j,by omega,by omega,?_⟩
  simp only [bnq,enter,vR,ltF,ne_eq,Nat.reduceEqDiff,reduceCtorEq,e5]
  rw [show w.toNat - (j+1)+1=w.toNat - j by omega]
  simp (disch:=first|exact Zd|omega) [↓zmo,beq,ybc,ybd,ybe,aa,wk,wk2,wk1,wkM,wkL,af,ybf]
  exact .inr (by omega)
 ·have hk0:k=0:=by simp at hc;omega
  subst hk0
  simp only [go_sem,byq]
  simp (disch:=first|exact Zd|omega) [↓zmo,beq,ybc,ybd,ybe,aa,wk,wk2,wk1,wkM,wkL,af,ybf,byq,be]
def iE (n w:Int):List UInt8:=if 1≤w∧w≤4 then be n w.toNat else []
theorem nP (n:Int) (w:Nat):(be n w).length=w:=by simp [be,qq]
def aN:List AV→AHeap→(AV→Prop)→Prop
 |[.slice _ 1 l,.int .i64 n,.int .i64 w],_,K=>(isB l∧l.length≤140737488355000)∧K (.slice .any 1 (bys (unb l++iE n w)))
 |_,_,_=>False
theorem bJ:EntOk Tryz.prog 190 (Ent.pure aN):=by
 refine Ype fun _ H K h=>?_
 unfold aN at h
 split at h
 rotate_left
 ·exact h.elim
 rename_i m l n w
 obtain ⟨⟨c1,hle⟩,hK⟩:=h
 refine ⟨_,hK,?_⟩
 obtain ⟨xs,rfl⟩:=ic c1
 simp only [zlz]
 rw [zlk] at hle
 refine ACalls.fW ak (tCq rP (tCq lB tNq)) Tryz.func190 [.tmp 6] (nrq _) (T:=aj []) (h:=fun hcl hlt=>?_)
 clear hK hlt
 simp only [go_sem,zav,byq,jO,ng]
 refine cy (fun h1=>?_) (fun h1=>cy (fun h2=>?_) (fun h2=>?_))
 all_goals simp only [decide_eq_true_eq,decide_eq_false_iff_not] at *
 ·have e:iE n w=[]:=by unfold iE;rw [if_neg (by omega)]
  simp (disch:=first|exact Zd|omega) [↓zmo,beq,ybc,ybd,ybe,aa,wk,wk2,wk1,wkM,wkL,af,ybf,byq,e,hcl]
  omega
 ·have e:iE n w=[]:=by unfold iE;rw [if_neg (by omega)]
  simp (disch:=first|exact Zd|omega) [↓zmo,beq,ybc,ybd,ybe,aa,wk,wk2,wk1,wkM,wkL,af,ybf,byq,e,hcl]
  omega
 ·have e:iE n w=be n w.toNat:=by unfold iE;rw [if_pos (by omega)]
  simp (disch:=first|exact Zd|omega) [↓zmo,beq,ybc,ybd,ybe,aa,wk,wk2,wk1,wkM,wkL,af,ybf,byq,e,nP,hcl]
  omega
def kc:List AV→AHeap→(AV→Prop)→Prop
 |[.slice _ 1 l,.bool b],_,K=>(isB l∧l.length≤140737488355000)∧K (.slice .any 1 (bys (unb l++[if b then 1 else 0])))
 |_,_,_=>False
theorem qK:EntOk Tryz.prog 317 (Ent.pure kc):=by
 refine Ype fun _ H K h=>?_
 unfold kc at h
 split at h
 rotate_left
 ·exact h.elim
 rename_i m l b
 obtain ⟨⟨c1,hle⟩,hK⟩:=h
 refine ⟨_,hK,?_⟩
 obtain ⟨xs,rfl⟩:=ic c1
 simp only [zlz]
 rw [zlk] at hle
 refine ACalls.fW ak (tCq lB tNq) Tryz.func317 [.tmp 4] (nrq _) (T:=aj []) (h:=fun hcl hlt=>?_)
 clear hK hlt
 have l1:AV.int .u8 1=bo 1:=rfl
 have l0:AV.int .u8 0=bo 0:=rfl
 simp only [go_sem,zav,byq,jO,l1,l0]
 refine cy (fun h1=>?_) (fun h1=>?_)
 all_goals
  subst h1
  simp (disch:=first|exact Zd|omega) [↓zmo,beq,ybc,ybd,ybe,aa,wk,wk2,wk1,wkM,wkL,af,ybf,byq,hcl]
  omega
def kF (bs:List UInt8):List UInt8:=be (min (bs.length:Int) 65535) 2++bs.take (min (bs.length:Int) 65535).toNat
theorem vI (bs:List UInt8):(kF bs).length≤65537:=by
 unfold kF
 rw [lAq,nP,List.length_take]
 omega
def jv:List AV→AHeap→(AV→Prop)→Prop
 |[.slice _ 1 l,.slice _ 1 l2],_,K=>(isB l∧isB l2∧l.length≤140737488000000)∧K (.slice .any 1 (bys (unb l++kF (unb l2))))
 |_,_,_=>False
theorem pO:EntOk Tryz.prog 337 (Ent.pure jv):=by
 refine Ype fun _ H K h=>?_
 unfold jv at h
 split at h
 rotate_left
 ·exact h.elim
 rename_i m l m2 l2
 obtain ⟨⟨c1,c2,hle⟩,hK⟩:=h
 refine ⟨_,hK,?_⟩
 obtain ⟨xs,rfl⟩:=ic c1
 obtain ⟨ys,rfl⟩:=ic c2
 simp only [zlz,zlk] at *
 refine ACalls.fW ak (tCq rP (tCq lB tNq)) Tryz.func337 [.tmp 4] (nrq _) (T:=aj []) (h:=fun hcl hlt=>?_)
 clear hK hlt
 have el:((ys.take (min (ys.length:Int) 65535).toNat).length:Int)=min (ys.length:Int) 65535:=by rw [List.length_take];omega
 have el2:(ys.take (min (ys.length:Int) 65535).toNat).length≤65535:=by rw [List.length_take];omega
 simp only [go_sem,zav,byq,jO,ng,yap,el,Int.reduceToNat,nP,lAq]
 have e:be (min (ys.length:Int) 65535) 2++ys.take (min (ys.length:Int) 65535).toNat=kF ys:=rfl
 simp only [e]
 refine ⟨by omega,by omega,⟨by omega,by omega⟩,by omega,?_⟩
 exact Z0
def iG:List AV→AHeap→(AV→Prop)→Prop
 |[.slice _ 1 l,.str s],_,K=>(isB l∧l.length≤140737488000000∧s.length≤140737488000000)∧K (.slice .any 1 (bys (unb l++kF s)))
 |_,_,_=>False
theorem qL:EntOk Tryz.prog 291 (Ent.pure iG):=by
 refine Ype fun _ H K h=>?_
 unfold iG at h
 split at h
 rotate_left
 ·exact h.elim
 rename_i m l s
 obtain ⟨⟨c1,hle,hs⟩,hK⟩:=h
 refine ⟨_,hK,?_⟩
 obtain ⟨xs,rfl⟩:=ic c1
 simp only [zlz,zlk] at *
 refine ACalls.fW ak (tCq pO tNq) Tryz.func291 [.tmp 4] (nrq _) (T:=aj []) (h:=fun hcl hlt=>?_)
 clear hK hlt
 simp only [go_sem,zav,byq,jv]
 refine ⟨by omega,by omega,?_⟩
 exact Z0
theorem KV:ti Tryz.prog 104=some ⟨.int .u64,1,8,.int .u64 0⟩:=by kernel_rfl
theorem Kk:ti Tryz.prog 106=some ⟨.struct [(0,104,false),(1,104,false)],2,16,.agg [.int .u64 0,.int .u64 0]⟩:=by kernel_rfl
theorem Kq:ti Tryz.prog 361=some ⟨.array 16 5,16,16,.agg (List.replicate 16 (.int .u8 0))⟩:=by kernel_rfl
attribute [go_sem] KV Kk Kq
def sS:List AV→AHeap→(AV→Prop)→Prop
 |[.int .u64 n],_,K=>(0≤n∧n<18446744073709551616)∧K (.int .i64 (bl n.toNat:Nat))
 |_,_,_=>False
def lenTab:List UInt8:=(List.range 256).map fun n=>UInt8.ofNat (bl n)
theorem z8:([0,1,2,2,3,3,3,3,4,4,4,4,4,4,4,4,5,5,5,5,5,5,5,5,5,5,5,5,5,5,5,5,6,6,6,6,6,6,6,6,6,6,6,6,6,6,6,6,6,6,6,6,6,6,6,6,6,6,6,6,6,6,6,6].append [7,7,7,7,7,7,7,7,7,7,7,7,7,7,7,7,7,7,7,7,7,7,7,7,7,7,7,7,7,7,7,7,7,7,7,7,7,7,7,7,7,7,7,7,7,7,7,7,7,7,7,7,7,7,7,7,7,7,7,7,7,7,7,7]).append ([8,8,8,8,8,8,8,8,8,8,8,8,8,8,8,8,8,8,8,8,8,8,8,8,8,8,8,8,8,8,8,8,8,8,8,8,8,8,8,8,8,8,8,8,8,8,8,8,8,8,8,8,8,8,8,8,8,8,8,8,8,8,8,8].append [8,8,8,8,8,8,8,8,8,8,8,8,8,8,8,8,8,8,8,8,8,8,8,8,8,8,8,8,8,8,8,8,8,8,8,8,8,8,8,8,8,8,8,8,8,8,8,8,8,8,8,8,8,8,8,8,8,8,8,8,8,8,8,8])=lenTab:=by decide +kernel
theorem wD:lenTab.length=256:=by simp [lenTab]
theorem wz (n:Nat) (h:n<256):(lenTab.getD n 0).toNat=bl n:=by
 unfold lenTab
 rw [gEq,List.getElem?_map,List.getElem?_range h]
 have:bl n≤8:=bl_le.2 h
 simp only [yag,Option.getD_some]
 rw [UInt8.toNat_ofNat_of_lt' (by simp [UInt8.size];omega)]
theorem Ao {m s:Nat} {H:AHeap} (hcl:H.Closed) (hm:m<2^64) (h:m >>> s<256) (hs:s=0∨2^s≤m) :
 (0≤IntKind.u8.wrap ((m >>> s:Nat):Int)∧IntKind.u8.wrap ((m >>> s:Nat):Int)<(lenTab.length:Int)) ∧
 aa H (AV.int IntKind.i64 (IntKind.i64.wrap ((s:Int)+IntKind.i64.wrap ((lenTab.getD (IntKind.u8.wrap ((m >>> s:Nat):Int)).toNat 0).toNat:Int)))) H (AV.int IntKind.i64 (bl m:Nat)):=by
 have e:IntKind.u8.wrap ((m >>> s:Nat):Int)=((m >>> s:Nat):Int):=by
  have:IntKind.u8.wrap ((m >>> s:Nat):Int)=((m >>> s:Nat):Int) % 256:=by simp [IntKind.wrap,IntKind.signed,IntKind.bits]
  rw [this]
  generalize m >>> s=x at h ⊢
  omega
 rw [e,wD,iNq,wz _ h]
 refine ⟨⟨Int.natCast_nonneg _,by generalize m >>> s=x at h ⊢;omega⟩,?_⟩
 have hb:bl m=s+bl (m >>> s):=by
  rcases hs with rfl|hs
  ·simp
  ·exact vj m s hs
 have h8:bl (m >>> s)≤8:=bl_le.2 h
 have h64:bl m≤64:=bl_le.2 hm
 have e2:IntKind.i64.wrap ((bl (m >>> s):Nat):Int)=(bl (m >>> s):Nat):=by rw [wrap_i64]<;>omega
 have e3:IntKind.i64.wrap ((s:Int)+(bl (m >>> s):Nat))=(bl m:Nat):=by rw [wrap_i64]<;>omega
 rw [e2,e3]
 simp [aa,wk,wk2,wk1,zmw,hcl,znf]
theorem DU:EntOk Tryz.prog 343 (Ent.pure sS):=by
 refine Ype fun _ H K h=>?_
 unfold sS at h
 split at h
 rotate_left
 ·exact h.elim
 rename_i n
 obtain ⟨⟨h0,h1⟩,hK⟩:=h
 refine ⟨_,hK,?_⟩
 obtain ⟨m,rfl⟩:=dZ h0
 clear hK h0
 rw [iNq]
 have hm:m<2^64:=by omega
 clear h1
 refine ACalls.fW ak tNq Tryz.func343 [.tmp 2] (nrq _) (T:=aj []) (h:=fun hcl hlt=>?_)
 clear hlt
 have s32:∀ a:Nat,a<2^64→tH .u64 (a:Int) 32=((a >>> 32:Nat):Int):=fun a h=>jE a 32 h
 have s16:∀ a:Nat,a<2^64→tH .u64 (a:Int) 16=((a >>> 16:Nat):Int):=fun a h=>jE a 16 h
 have s8:∀ a:Nat,a<2^64→tH .u64 (a:Int) 8=((a >>> 8:Nat):Int):=fun a h=>jE a 8 h
 have q1:m >>> 32<2^64:=nK hm
 have q2:m >>> 16<2^64:=nK hm
 have q3:m >>> 32 >>> 16<2^64:=nK q1
 have w48:IntKind.i64.wrap 48=48:=by decide
 have w40:IntKind.i64.wrap 40=40:=by decide
 have w24:IntKind.i64.wrap 24=24:=by decide
 have w56:IntKind.i64.wrap (48+8)=56:=by decide
 have w56':IntKind.i64.wrap 56=56:=by decide
 have wn:∀ k:Nat,(0≤IntKind.u8.wrap ((m >>> k:Nat):Int))=True:=fun k=>eq_true (by simp [IntKind.wrap,IntKind.signed,IntKind.bits];try omega)
 have q4:m >>> 48<2^64:=nK hm
 simp only [go_sem,zav,byq,z8,s32,s16,s8,hm,q1,q2,q3,q4,w48,w40,w24,w56,w56',← Nat.shiftRight_add]
 have sr:∀ k:Nat,m >>> k=m/2^k:=fun k=>Nat.shiftRight_eq_div_pow m k
 have fin:=fun s=>@Ao m s H hcl hm
 refine cy (fun t1=>⟨by decide,cy (fun t2=>⟨by decide,cy (fun t3=>⟨by decide,?_⟩) (fun t3=>?_)⟩) (fun t2=>cy (fun t3=>⟨by decide,?_⟩) (fun t3=>?_))⟩)
  (fun t1=>cy (fun t2=>⟨by decide,cy (fun t3=>⟨by decide,?_⟩) (fun t3=>?_)⟩) (fun t2=>cy (fun t3=>⟨by decide,?_⟩) (fun t3=>?_)))
 all_goals simp only [decide_eq_true_eq,decide_eq_false_iff_not,sr,ge_iff_le] at t1 t2 t3
 ·first|exact fin 56 (by rw [sr];omega) (.inr (by omega))|exact ⟨(fin 56 (by rw [sr];omega) (.inr (by omega))).1.2,(fin 56 (by rw [sr];omega) (.inr (by omega))).2⟩
 ·first|exact fin 48 (by rw [sr];omega) (.inr (by omega))|exact ⟨(fin 48 (by rw [sr];omega) (.inr (by omega))).1.2,(fin 48 (by rw [sr];omega) (.inr (by omega))).2⟩
 ·first|exact fin 40 (by rw [sr];omega) (.inr (by omega))|exact ⟨(fin 40 (by rw [sr];omega) (.inr (by omega))).1.2,(fin 40 (by rw [sr];omega) (.inr (by omega))).2⟩
 ·first|exact fin 32 (by rw [sr];omega) (.inr (by omega))|exact ⟨(fin 32 (by rw [sr];omega) (.inr (by omega))).1.2,(fin 32 (by rw [sr];omega) (.inr (by omega))).2⟩
 ·first|exact fin 24 (by rw [sr];omega) (.inr (by omega))|exact ⟨(fin 24 (by rw [sr];omega) (.inr (by omega))).1.2,(fin 24 (by rw [sr];omega) (.inr (by omega))).2⟩
 ·first|exact fin 16 (by rw [sr];omega) (.inr (by omega))|exact ⟨(fin 16 (by rw [sr];omega) (.inr (by omega))).1.2,(fin 16 (by rw [sr];omega) (.inr (by omega))).2⟩
 ·first|exact fin 8 (by rw [sr];omega) (.inr (by omega))|exact ⟨(fin 8 (by rw [sr];omega) (.inr (by omega))).1.2,(fin 8 (by rw [sr];omega) (.inr (by omega))).2⟩
 ·first|exact fin 0 (by rw [sr];omega) (.inl rfl)|exact ⟨(fin 0 (by rw [sr];omega) (.inl rfl)).1.2,(fin 0 (by rw [sr];omega) (.inl rfl)).2⟩
def oQ:List AV→AHeap→(AV→Prop)→Prop
 |[.agg [.int .u64 hi,.int .u64 lo]],_,K=>(0≤hi∧hi<18446744073709551616∧0≤lo∧lo<18446744073709551616)∧K (.int .i64 (bl (vOf hi.toNat lo.toNat):Nat))
 |_,_,_=>False
theorem uI:EntOk Tryz.prog 332 (Ent.pure oQ):=by
 refine Ype fun _ H K h=>?_
 unfold oQ at h
 split at h
 rotate_left
 ·exact h.elim
 rename_i hi lo
 obtain ⟨⟨h0,h1,h2,h3⟩,hK⟩:=h
 refine ⟨_,hK,?_⟩
 obtain ⟨x,rfl⟩:=dZ h0
 obtain ⟨y,rfl⟩:=dZ h2
 clear hK h0 h2
 rw [iNq,iNq]
 have hx:x<2^64:=by omega
 have hy:y<2^64:=by omega
 refine ACalls.fW ak (tCq DU tNq) Tryz.func332 [.tmp 2] (nrq _) (T:=aj []) (h:=fun hcl hlt=>?_)
 clear hlt
 have b1:bl x≤64:=bl_le.2 hx
 have hw:IntKind.i64.wrap (64+((bl x:Nat):Int))=((64+bl x:Nat):Int):=by rw [wrap_i64]<;>omega
 simp only [go_sem,zav,byq,sS,iNq,hw]
 rw [Lv hy]
 refine cy (fun t=>?_) (fun t=>?_)
 ·have t':x≠0:=by simpa using t
  rw [if_neg t']
  repeat refine ⟨by omega,?_⟩
  exact Z1
 ·have t':x=0:=by simpa using t
  rw [if_pos t']
  repeat refine ⟨by omega,?_⟩
  exact Z1
def isV (hi lo:Int):Prop:=0≤hi∧hi<18446744073709551616∧0≤lo∧lo<18446744073709551616
def pT:List AV→AHeap→(AV→Prop)→Prop
 |[.agg [.int .u64 hi,.int .u64 lo],.int .i64 n],_,K=>(isV hi lo∧n<9223372036854775808)∧K (vv (vOf hi.toNat lo.toNat >>> n.toNat))
 |_,_,_=>False
theorem zz:EntOk Tryz.prog 352 (Ent.pure pT):=by
 refine Ype fun _ H K h=>?_
 unfold pT at h
 split at h
 rotate_left
 ·exact h.elim
 rename_i hi lo n
 obtain ⟨⟨⟨h0,h1,h2,h3⟩,hn⟩,hK⟩:=h
 refine ⟨_,hK,?_⟩
 obtain ⟨x,rfl⟩:=dZ h0
 obtain ⟨y,rfl⟩:=dZ h2
 clear hK h0 h2
 rw [iNq,iNq]
 have hx:x<2^64:=by omega
 have hy:y<2^64:=by omega
 refine ACalls.fW ak tNq Tryz.func352 [.cell 4 106] (nrq _) (T:=aj []) (h:=fun hcl hlt=>?_)
 clear hlt
 simp only [go_sem,zav,byq]
 refine cy (fun t=>?_) (fun t=>cy (fun s=>?_) (fun s=>?_))
 ·have t':n.toNat=0:=by simp at t;omega
  rw [t',Nat.shiftRight_zero,wx hy]
  exact Z1
 ·simp at t s
  obtain ⟨m,rfl⟩:∃ m:Nat,n=m+64:=⟨(n - 64).toNat,by omega⟩
  have e1:IntKind.i64.wrap ((m:Int)+64 - 64)=m:=by rw [wrap_i64]<;>omega
  have e2:IntKind.u64.wrap (m:Int)=m:=by rw [jB]<;>omega
  have e3:((m:Int)+64).toNat=m+64:=by omega
  have e4:vv (vOf x y >>> (m+64))=.agg [.int .u64 0,.int .u64 ((x >>> m:Nat):Int)]:=by
   rw [yQ x y _ hy hx (by omega),Nat.add_sub_cancel]
   have:=wx (hi:=0) (lo:=x >>> m) (nK hx)
   simpa [vOf] using this
  rw [e3,e4,e1,e2,jE x m hx]
  repeat refine ⟨by omega,?_⟩
  exact Z1
 ·simp at t s
  obtain ⟨m,rfl⟩:∃ m:Nat,n=m:=⟨n.toNat,by omega⟩
  have hm:m<64:=by omega
  have e1:IntKind.i64.wrap (64 - (m:Int))=((64 - m:Nat):Int):=by rw [wrap_i64]<;>omega
  have e2:IntKind.u64.wrap (m:Int)=m:=by rw [jB]<;>omega
  have e3:IntKind.u64.wrap ((64 - m:Nat):Int)=((64 - m:Nat):Int):=by rw [jB]<;>omega
  have e4:vv (vOf x y >>> m)=.agg [.int .u64 ((x >>> m:Nat):Int),.int .u64 (((y >>> m ||| (x <<< (64 - m)) % 2^64:Nat)):Int)]:=by
   unfold vv
   rw [Dr x y m hy,Dy x y m hy hm]
  rw [e1,e2,e3,iNq,e4,jE x m hx,jE y m hy,BK,Hv _ _ (nK hy) (Nat.mod_lt _ (by decide))]
  repeat refine ⟨by omega,?_⟩
  exact Z1
theorem rC {n:Nat}:List.replicate n (AV.int .u8 0)=bys (List.replicate n 0):=by simp [bys,bo]
theorem LT (a:Nat):UInt8.ofNat (((a % 2^64:Nat):Int) % 256).toNat=UInt8.ofNat a:=by
 rw [UInt8.ofNat_eq_iff_mod_eq_toNat,UInt8.toNat_ofNat']
 omega
def gC (l:List UInt8) (k:Nat):List UInt8:=l.take k++List.replicate (l.length - k) 0
theorem uT (l:List UInt8):gC l 0=List.replicate l.length 0:=by simp [gC]
theorem wF (l:List UInt8):gC l l.length=l:=by simp [gC]
theorem ph (l:List UInt8) (k:Nat) (h:k≤l.length):(gC l k).length=l.length:=by simp [gC];omega
theorem uR (l:List UInt8) (k:Nat) (h:k<l.length):(gC l k).take k++[l[k]]++(gC l k).drop (k+1)=gC l (k+1):=by
 unfold gC
 have e1:(l.take k).length=k:=by simp;omega
 rw [List.take_append_of_le_length (by omega),ybd,ybc (by omega),e1,List.drop_of_length_le (by omega),yak,List.drop_replicate,List.take_succ_eq_append_getElem h,Nat.add_sub_cancel_left]
 rfl
def v4:List AV→AHeap→(AV→Prop)→Prop
 |[.agg [.int .u64 hi,.int .u64 lo]],_,K=>isV hi lo∧K (.agg (bys (beN (vOf hi.toNat lo.toNat) 16)))
 |_,_,_=>False
theorem Gr:EntOk Tryz.prog 351 (Ent.pure v4):=by
 refine Ype fun _ H K h=>?_
 unfold v4 at h
 split at h
 rotate_left
 ·exact h.elim
 rename_i hi lo
 obtain ⟨⟨h0,h1,h2,h3⟩,hK⟩:=h
 refine ⟨_,hK,?_⟩
 obtain ⟨x,rfl⟩:=dZ h0
 obtain ⟨y,rfl⟩:=dZ h2
 clear hK h0 h2
 rw [iNq,iNq]
 have hx:x<2^64:=by omega
 have hy:y<2^64:=by omega
 refine ACalls.fW ak (tCq zz tNq) Tryz.func351 [.cell 2 361] (nrq _) (T:=aj []) (h:=fun hcl hlt=>?_)
 clear hlt
 have hv:=vK hx hy
 generalize hvo:vOf x y=v at hv ⊢
 simp only [go_sem,byq,rC]
 refine qp (A:=Nat) (fun k=>[(5,.int .i64 (k:Int)),(3,.ptr (H.nx+1+1) 0),(1,.ptr H.nx 0),(2,.ptr (H.nx+1) 0)])
  (fun k=>((H.push (.cells [.int .u64 (x:Int),.int .u64 (y:Int)])).push (.cells (bys (List.replicate 16 0)))).push (.cells (bys (gC (beN v 16) k)))) (fun k=>k≤16) (fun k=>16 - k) 0 (by omega) ?_ fun k hk=>?_
 ·simp only [bnq,enter,vR,ltF,ne_eq,Nat.reduceEqDiff,reduceCtorEq,uT,dO,true_or,and_true]
  all_goals rfl
 simp only [go_sem,byq]
 refine ah (fun hc=>?_) (fun hc=>?_)
 ·have hk:k<16:=by simp at hc;omega
  have e1:IntKind.i64.wrap (15 - (k:Int))=((15 - k:Nat):Int):=by rw [wrap_i64]<;>omega
  have e2:IntKind.i64.wrap (8*((15 - k:Nat):Int))=((8*(15 - k):Nat):Int):=by rw [wrap_i64]<;>omega
  have e3:IntKind.i64.wrap ((k:Int)+1)=((k+1:Nat):Int):=by rw [wrap_i64]<;>omega
  simp only [go_sem,byq,e1,e2,e3,pT,isV,vv,iNq,hvo,yx,LT,nzq,zlq]
  have hs:splice (bys (gC (beN v 16) k)) k (bys [UInt8.ofNat (v >>> (8*(15 - k)))])=bys (gC (beN v 16) (k+1)):=by
   rw [zmq (by rw [ph _ _ (by rw [dO];omega),dO];simp;omega),← uR _ _ (by rw [dO];exact hk)]
   simp [beN]
  rw [ph _ _ (by rw [dO];omega),dO,hs]
  refine ⟨by omega,by omega,by omega,k+1,by omega,by omega,?_⟩
  simp only [bnq,enter,vR,ltF,ne_eq,Nat.reduceEqDiff,reduceCtorEq,true_or,and_self]
 ·have hk:k=16:=by simp at hc;omega
  subst hk
  have ef:gC (beN v 16) 16=beN v 16:=by have:=wF (beN v 16);rwa [dO] at this
  have h16:(bys (beN v 16)).length=16:=by rw [zlk,dO]
  have e0:splice (bys (List.replicate 16 0)) 0 (bys (beN v 16))=bys (beN v 16):=by
   rw [zmq (by simp [dO])];simp [dO]
  have et:List.take 16 (beN v 16)=beN v 16:=ybc (by rw [dO];omega)
  simp only [go_sem,byq,ef,dO,et,e0]
  refine ⟨by simp,?_⟩
  exact Z1
def nN:List AV→AHeap→(AV→Prop)→Prop
 |[.agg [.int .u64 hi,.int .u64 lo]],_,K=>isV hi lo∧K (.slice .any 1 (bys (kT (vOf hi.toNat lo.toNat))))
 |_,_,_=>False
theorem wT:EntOk Tryz.prog 347 (Ent.pure nN):=by
 refine Ype fun _ H K h=>?_
 unfold nN at h
 split at h
 rotate_left
 ·exact h.elim
 rename_i hi lo
 obtain ⟨⟨h0,h1,h2,h3⟩,hK⟩:=h
 refine ⟨_,hK,?_⟩
 obtain ⟨x,rfl⟩:=dZ h0
 obtain ⟨y,rfl⟩:=dZ h2
 clear hK h0 h2
 rw [iNq,iNq]
 have hx:x<2^64:=by omega
 have hy:y<2^64:=by omega
 refine ACalls.fW ak (tCq Gr (tCq uI tNq)) Tryz.func347 [.tmp 2] (nrq _) (T:=aj []) (h:=fun hcl hlt=>?_)
 clear hlt
 have hv:=vK hx hy
 generalize hvo:vOf x y=v at hv ⊢
 have b1:bl v≤128:=bl_le.2 hv
 have w1:IntKind.i64.wrap (((bl v:Nat):Int)+7)=((bl v+7:Nat):Int):=by rw [wrap_i64]<;>omega
 have w2:IntKind.i64.wrap (((bl v+7:Nat):Int).tdiv 8)=(((bl v+7)/8:Nat):Int):=by
  rw [Int.tdiv_eq_ediv_of_nonneg (by omega),wrap_i64]<;>omega
 have w3:max (1:Int) (((bl v+7)/8:Nat):Int)=(jt v:Nat):=by unfold jt;omega
 have hle:=sW hv
 have w4:IntKind.i64.wrap (16 - ((jt v:Nat):Int))=((16 - jt v:Nat):Int):=by rw [wrap_i64]<;>omega
 have e0:splice (bys (List.replicate 16 0)) 0 (bys (beN v 16))=bys (beN v 16):=by
  rw [zmq (by simp [dO])];simp [dO]
 have e5:((16:Nat):Int) - ((16 - jt v:Nat):Int)=((jt v:Nat):Int):=by omega
 have e6:bV 1 (jt v) (bys ((beN v 16).drop (16 - jt v)))=bys (kT v):=by
  rw [Es v 16 _ hle,zmr (by rw [dO];exact nrq _),ybc (by rw [dO];exact nrq _)];rfl
 have e7:(kT v).length=jt v:=dO _ _
 simp only [go_sem,zav,byq,v4,oQ,isV,iNq,hvo,w1,w2,w3,w4,rC,dO,e0,e5,e6,e7,List.length_replicate]
 refine ⟨by omega,by omega,by decide,by omega,by omega,?_⟩
 exact Z1
theorem HD:ti Tryz.prog 312=some ⟨.array 128 4,128,128,.agg (List.replicate 128 (.bool false))⟩:=by kernel_rfl
attribute [go_sem] HD
def kM (v:Nat):List UInt8:=UInt8.ofNat (jt v)::kT v
theorem mj (v:Nat):(kT v).length=jt v:=dO _ _
def jy:List AV→AHeap→(AV→Prop)→Prop
 |[.slice _ 1 l,.agg [.int .u64 hi,.int .u64 lo]],_,K=>(isV hi lo∧isB l∧l.length≤140737488000000)∧K (.slice .any 1 (bys (unb l++kM (vOf hi.toNat lo.toNat))))
 |_,_,_=>False
theorem pr:EntOk Tryz.prog 340 (Ent.pure jy):=by
 refine Ype fun _ H K h=>?_
 unfold jy at h
 split at h
 rotate_left
 ·exact h.elim
 rename_i m l hi lo
 obtain ⟨⟨⟨h0,h1,h2,h3⟩,c1,hle⟩,hK⟩:=h
 refine ⟨_,hK,?_⟩
 obtain ⟨x,rfl⟩:=dZ h0
 obtain ⟨y,rfl⟩:=dZ h2
 obtain ⟨xs,rfl⟩:=ic c1
 clear hK h0 h2
 simp only [zlz,zlk] at *
 rw [iNq,iNq]
 have hx:x<2^64:=by omega
 have hy:y<2^64:=by omega
 refine ACalls.fW ak (tCq lB (tCq wT tNq)) Tryz.func340 [.tmp 4] (nrq _) (T:=aj []) (h:=fun hcl hlt=>?_)
 clear hlt
 have hv:=vK hx hy
 have hvl:=sW hv
 generalize hvo:vOf x y=v at hv hvl ⊢
 have w1:IntKind.u8.wrap ((jt v:Nat):Int)=((jt v:Nat):Int):=by rw [ur];omega
 have w2:AV.int .u8 ((jt v:Nat):Int)=bo (UInt8.ofNat (jt v)):=yF (by omega)
 have w3:UInt8.ofNat (jt v)::kT v=kM v:=rfl
 simp only [go_sem,zav,byq,jO,nN,isV,iNq,hvo,mj,w1,w2]
 refine ⟨by omega,by omega,by first|omega|(simp only [lAq,yaz,yba,mj];omega),?_⟩
 have w4:UInt8.ofNat (jt v)::kT v=kM v:=rfl
 have w5:[UInt8.ofNat (jt v)]++kT v=kM v:=rfl
 first|rw [w4]|rw [w5]
 exact Z1
theorem cr (n w:Int):(iE n w).length≤4:=by
 unfold iE;split
 ·rw [nP];omega
 ·simp
theorem Ae:ti Tryz.prog 323=some ⟨.struct [(0,22,false),(1,40,false)],2,32,.agg [.slice .nil 1 [],.int .i64 0]⟩:=by kernel_rfl
theorem A8:ti Tryz.prog 40=some ⟨.int .i64,1,8,.int .i64 0⟩:=by kernel_rfl
theorem vZ:ti Tryz.prog 247=some ⟨.ptr 323,1,8,.nilp⟩:=by kernel_rfl
attribute [go_sem] Ae A8 vZ
end Go.AL
