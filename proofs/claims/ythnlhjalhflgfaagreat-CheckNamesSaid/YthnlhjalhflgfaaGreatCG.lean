/- Lemmas of the proof; no condition. -/
import Derived.Test.YthnlhjalhflgfaaGreatLVal
import Derived.Test.YthnlhjalhflgfaaGreatAlBun
import Derived.Test.YthnlhjalhflgfaaGreatLSyn
set_option linter.all false
set_option maxRecDepth 10000
open List renaming length_cons → yaz, length_nil → yba, take_of_length_le → ybc, drop_append → ybd, take_append → ybe, drop_eq_nil_of_le → ybf, map_cons → yae, map_nil → yaf, drop_zero → yap, nil_append → yak
open Option renaming map_some → yag
open Go Go.AL Go.Proofs
namespace Go.AL
theorem Ed:ti Tryz.prog 22=some ⟨.slice 5,1,24,.slice .nil 1 []⟩:=by kernel_rfl
theorem Mn:ti Tryz.prog 3=some ⟨.int .i64,1,8,.int .i64 0⟩:=by kernel_rfl
theorem II:ti Tryz.prog 94=some ⟨.int .u64,1,8,.int .u64 0⟩:=by kernel_rfl
theorem NL:ti Tryz.prog 5=some ⟨.int .u8,1,1,.int .u8 0⟩:=by kernel_rfl
theorem Lc:ti Tryz.prog 4=some ⟨.bool,1,1,.bool false⟩:=by kernel_rfl
theorem Cp:ti Tryz.prog 9=some ⟨.string,1,16,.str []⟩:=by kernel_rfl
attribute [go_sem] Ed Mn II NL Lc Cp
def lj:List AV→AHeap→(AV→Prop)→Prop
 |[.slice _ 1 l1,.slice _ 1 l2],_,K=>(isB l1∧isB l2∧l1.length+l2.length≤140737488355328)∧K (.slice .any 1 (bys (unb l1++unb l2)))
 |_,_,_=>False
theorem mR:EntOk Tryz.prog 289 (Ent.pure lj):=by
 refine Ype fun _ H K h=>?_
 unfold lj at h
 split at h
 rotate_left
 ·exact h.elim
 rename_i m1 l1 m2 l2
 obtain ⟨⟨c1,c2,hle⟩,hK⟩:=h
 refine ⟨_,hK,?_⟩
 obtain ⟨xs,rfl⟩:=jj c1
 obtain ⟨ys,rfl⟩:=jj c2
 simp only [zlz]
 rw [zlk,zlk] at hle
 refine ACalls.of_aw (Ω:=[]) (T:=aj []) ap tNq Tryz.func289 (by kernel_rfl) (by rfl) (rs:=[.tmp 4]) (by rfl) (by kernel_rfl) (by simp only [Tryz.ntmps289,yaz,yba];decide) (nrq _) fun hcl hlt=>?_
 clear hK hlt
 change aw _ _ _ (KI Tryz.prog [] (pg Tryz.prog [.tmp 4] H.nx (.ret (.slice .any 1 (bys (xs++ys)))) H) []) _ _
 have hw:IntKind.i64.wrap (↑xs.length+↑ys.length)=((xs.length+ys.length:Nat):Int):=by rw [wrap_i64]<;>omega
 have e2:(↑(xs.length+ys.length) - ↑xs.length:Int).toNat=ys.length:=by omega
 simp only [go_sem,zav,byq,hw,e2]
 simp (disch:=first|exact Zd|omega) [↓zmo,beq,ybc,ybd,ybe,aa,wk,wk2,wk1,wkM,wkL,ae,ybf,byq,hcl]
 omega
def xH (n:Int) (j:Nat):UInt8:=UInt8.ofNat (db .i64 n (8*(j:Int)) % 256).toNat
def lz (n:Int) (w k:Nat):List UInt8:=(List.range (w - k)).map fun i=>xH n (w - 1 - i)
def be (n:Int) (w:Nat):List UInt8:=lz n w 0
theorem xT (n:Int) (w:Nat):lz n w w=[]:=by simp [lz]
theorem rQ (n:Int) (w k:Nat):(lz n w k).length=w - k:=by simp [lz]
theorem wu (n:Int) (w j:Nat) (h:j+1≤w):lz n w (j+1)++[xH n j]=lz n w j:=by
 unfold lz
 have e:w - j=(w - (j+1))+1:=by omega
 rw [e,List.range_succ,List.map_append]
 congr 2
 simp only [yae,yaf]
 congr 2;omega
def oL:List AV→AHeap→(AEnd→AHeap→Prop)→Prop
 |[.int .i64 n,.int .i64 w],H,K=>(0≤w∧w≤8)∧K (.ret (.slice (.own (H.nx+1)) 1 (bys (be n w.toNat)))) ((H.push (.buf 1 0)).push (.buf 1 w.toNat))
 |_,_,_=>False
theorem tM:EntOk Tryz.prog 290 (Ent.effect oL):=by
 refine EntOk.effect fun args H K h=>?_
 unfold oL at h
 split at h
 rotate_left
 ·exact h.elim
 rename_i n w
 obtain ⟨hw,hK⟩:=h
 refine ⟨_,_,hK,?_⟩
 refine ACalls.of_aw (Ω:=[]) (T:=aj []) ap tNq Tryz.func290 (by kernel_rfl) (by rfl) (rs:=[.tmp 4]) (by rfl) (by kernel_rfl) (by simp only [Tryz.ntmps290,yaz,yba];decide) (by simp only [zle];omega) fun hcl hlt=>?_
 clear hK hlt
 change aw _ _ _ (KI Tryz.prog [] (pg Tryz.prog [.tmp 4] H.nx _ _) []) _ _
 simp only [go_sem,zav,byq]
 refine sE (A:=Nat) (fun k=>[(6,.int .i64 ((k:Int) - 1)),(5,.slice (.own (H.nx+1)) 1 (bys (lz n w.toNat k))),(0,.int .i64 n)])
  (fun k=>(H.push (.buf 1 0)).push (.buf 1 (w.toNat - k))) (fun k=>k≤w.toNat) (fun k=>k) w.toNat (nrq _) ?_ fun k hk=>?_
 ·have ew:IntKind.i64.wrap (w - 1)=w - 1:=by rw [wrap_i64]<;>omega
  simp only [bnq,enter,ym,ltF,ne_eq,Nat.reduceEqDiff,reduceCtorEq,xT,zll,ew,Nat.sub_self,true_or,and_true]
  congr 1;omega
 simp only [go_sem,byq]
 refine ak (fun hc=>?_) (fun hc=>?_)
 ·have hk0:1≤k:=by simp at hc;omega
  obtain ⟨j,rfl⟩:∃ j,k=j+1:=⟨k - 1,by omega⟩
  have e1:IntKind.i64.wrap (8*(((j+1:Nat):Int) - 1))=8*j:=by rw [wrap_i64]<;>omega
  have e3:IntKind.u64.wrap (8*(j:Int))=8*j:=by rw [lk]<;>omega
  have e4:IntKind.i64.wrap (((j+1:Nat):Int) - 1 - 1)=(j:Int) - 1:=by rw [wrap_i64]<;>omega
  simp only [go_sem,byq,e1,e3,e4,zg,rQ]
  have e5:=wu n w.toNat j hk
  unfold xH at e5
  refine ⟨by omega,⟨by omega,by omega⟩,j,by omega,by omega,?_⟩
  simp only [bnq,enter,ym,ltF,ne_eq,Nat.reduceEqDiff,reduceCtorEq,e5]
  rw [show w.toNat - (j+1)+1=w.toNat - j by omega]
  simp (disch:=first|exact Zd|omega) [↓zmo,beq,ybc,ybd,ybe,aa,wk,wk2,wk1,wkM,wkL,ae,ybf]
  exact .inr (by omega)
 ·have hk0:k=0:=by simp at hc;omega
  subst hk0
  simp only [go_sem,byq]
  simp (disch:=first|exact Zd|omega) [↓zmo,beq,ybc,ybd,ybe,aa,wk,wk2,wk1,wkM,wkL,ae,ybf,byq,be]
def jz (n w:Int):List UInt8:=if 1≤w∧w≤4 then be n w.toNat else []
theorem nZ (n:Int) (w:Nat):(be n w).length=w:=by simp [be,rQ]
def aW:List AV→AHeap→(AV→Prop)→Prop
 |[.slice _ 1 l,.int .i64 n,.int .i64 w],_,K=>(isB l∧l.length≤140737488355000)∧K (.slice .any 1 (bys (unb l++jz n w)))
 |_,_,_=>False
theorem cb:EntOk Tryz.prog 190 (Ent.pure aW):=by
 refine Ype fun _ H K h=>?_
 unfold aW at h
 split at h
 rotate_left
 ·exact h.elim
 rename_i m l n w
 obtain ⟨⟨c1,hle⟩,hK⟩:=h
 refine ⟨_,hK,?_⟩
 obtain ⟨xs,rfl⟩:=jj c1
 simp only [zlz]
 rw [zlk] at hle
 refine ACalls.fW ap (tCq tM (tCq mR tNq)) Tryz.func190 [.tmp 6] (nrq _) (T:=aj []) (h:=fun hcl hlt=>?_)
 clear hK hlt
 simp only [go_sem,zav,byq,lj,oL]
 refine cZ (fun h1=>?_) (fun h1=>cZ (fun h2=>?_) (fun h2=>?_))
 all_goals simp only [decide_eq_true_eq,decide_eq_false_iff_not] at *
 ·have e:jz n w=[]:=by unfold jz;rw [if_neg (by omega)]
  simp (disch:=first|exact Zd|omega) [↓zmo,beq,ybc,ybd,ybe,aa,wk,wk2,wk1,wkM,wkL,ae,ybf,byq,e,hcl]
  omega
 ·have e:jz n w=[]:=by unfold jz;rw [if_neg (by omega)]
  simp (disch:=first|exact Zd|omega) [↓zmo,beq,ybc,ybd,ybe,aa,wk,wk2,wk1,wkM,wkL,ae,ybf,byq,e,hcl]
  omega
 ·have e:jz n w=be n w.toNat:=by unfold jz;rw [if_pos (by omega)]
  simp (disch:=first|exact Zd|omega) [↓zmo,beq,ybc,ybd,ybe,aa,wk,wk2,wk1,wkM,wkL,ae,ybf,byq,e,nZ,hcl]
  omega
def lH:List AV→AHeap→(AV→Prop)→Prop
 |[.slice _ 1 l,.bool b],_,K=>(isB l∧l.length≤140737488355000)∧K (.slice .any 1 (bys (unb l++[if b then 1 else 0])))
 |_,_,_=>False
theorem s5:EntOk Tryz.prog 317 (Ent.pure lH):=by
 refine Ype fun _ H K h=>?_
 unfold lH at h
 split at h
 rotate_left
 ·exact h.elim
 rename_i m l b
 obtain ⟨⟨c1,hle⟩,hK⟩:=h
 refine ⟨_,hK,?_⟩
 obtain ⟨xs,rfl⟩:=jj c1
 simp only [zlz]
 rw [zlk] at hle
 refine ACalls.fW ap (tCq mR tNq) Tryz.func317 [.tmp 4] (nrq _) (T:=aj []) (h:=fun hcl hlt=>?_)
 clear hK hlt
 have l1:AV.int .u8 1=bC 1:=rfl
 have l0:AV.int .u8 0=bC 0:=rfl
 simp only [go_sem,zav,byq,lj,l1,l0]
 refine cZ (fun h1=>?_) (fun h1=>?_)
 all_goals
  subst h1
  simp (disch:=first|exact Zd|omega) [↓zmo,beq,ybc,ybd,ybe,aa,wk,wk2,wk1,wkM,wkL,ae,ybf,byq,hcl]
  omega
def lG (bs:List UInt8):List UInt8:=be (min (bs.length:Int) 65535) 2++bs.take (min (bs.length:Int) 65535).toNat
theorem xV (bs:List UInt8):(lG bs).length≤65537:=by
 unfold lG
 rw [lAq,nZ,List.length_take]
 omega
def kG:List AV→AHeap→(AV→Prop)→Prop
 |[.slice _ 1 l,.slice _ 1 l2],_,K=>(isB l∧isB l2∧l.length≤140737488000000)∧K (.slice .any 1 (bys (unb l++lG (unb l2))))
 |_,_,_=>False
theorem qV:EntOk Tryz.prog 337 (Ent.pure kG):=by
 refine Ype fun _ H K h=>?_
 unfold kG at h
 split at h
 rotate_left
 ·exact h.elim
 rename_i m l m2 l2
 obtain ⟨⟨c1,c2,hle⟩,hK⟩:=h
 refine ⟨_,hK,?_⟩
 obtain ⟨xs,rfl⟩:=jj c1
 obtain ⟨ys,rfl⟩:=jj c2
 simp only [zlz,zlk] at *
 refine ACalls.fW ap (tCq tM (tCq mR tNq)) Tryz.func337 [.tmp 4] (nrq _) (T:=aj []) (h:=fun hcl hlt=>?_)
 clear hK hlt
 have el:((ys.take (min (ys.length:Int) 65535).toNat).length:Int)=min (ys.length:Int) 65535:=by rw [List.length_take];omega
 have el2:(ys.take (min (ys.length:Int) 65535).toNat).length≤65535:=by rw [List.length_take];omega
 simp only [go_sem,zav,byq,lj,oL,yap,el,Int.reduceToNat,nZ,lAq]
 have e:be (min (ys.length:Int) 65535) 2++ys.take (min (ys.length:Int) 65535).toNat=lG ys:=rfl
 simp only [e]
 refine ⟨by omega,by omega,⟨by omega,by omega⟩,by omega,?_⟩
 exact Z0
def jB:List AV→AHeap→(AV→Prop)→Prop
 |[.slice _ 1 l,.str s],_,K=>(isB l∧l.length≤140737488000000∧s.length≤140737488000000)∧K (.slice .any 1 (bys (unb l++lG s)))
 |_,_,_=>False
theorem tt:EntOk Tryz.prog 291 (Ent.pure jB):=by
 refine Ype fun _ H K h=>?_
 unfold jB at h
 split at h
 rotate_left
 ·exact h.elim
 rename_i m l s
 obtain ⟨⟨c1,hle,hs⟩,hK⟩:=h
 refine ⟨_,hK,?_⟩
 obtain ⟨xs,rfl⟩:=jj c1
 simp only [zlz,zlk] at *
 refine ACalls.fW ap (tCq qV tNq) Tryz.func291 [.tmp 4] (nrq _) (T:=aj []) (h:=fun hcl hlt=>?_)
 clear hK hlt
 simp only [go_sem,zav,byq,kG]
 refine ⟨by omega,by omega,?_⟩
 exact Z0
theorem Mt:ti Tryz.prog 104=some ⟨.int .u64,1,8,.int .u64 0⟩:=by kernel_rfl
theorem MA:ti Tryz.prog 106=some ⟨.struct [(0,104,false),(1,104,false)],2,16,.agg [.int .u64 0,.int .u64 0]⟩:=by kernel_rfl
theorem Mk:ti Tryz.prog 361=some ⟨.array 16 5,16,16,.agg (List.replicate 16 (.int .u8 0))⟩:=by kernel_rfl
attribute [go_sem] Mt MA Mk
def u5:List AV→AHeap→(AV→Prop)→Prop
 |[.int .u64 n],_,K=>(0≤n∧n<18446744073709551616)∧K (.int .i64 (bl n.toNat:Nat))
 |_,_,_=>False
def lenTab:List UInt8:=(List.range 256).map fun n=>UInt8.ofNat (bl n)
theorem AX:([0,1,2,2,3,3,3,3,4,4,4,4,4,4,4,4,5,5,5,5,5,5,5,5,5,5,5,5,5,5,5,5,6,6,6,6,6,6,6,6,6,6,6,6,6,6,6,6,6,6,6,6,6,6,6,6,6,6,6,6,6,6,6,6].append [7,7,7,7,7,7,7,7,7,7,7,7,7,7,7,7,7,7,7,7,7,7,7,7,7,7,7,7,7,7,7,7,7,7,7,7,7,7,7,7,7,7,7,7,7,7,7,7,7,7,7,7,7,7,7,7,7,7,7,7,7,7,7,7]).append ([8,8,8,8,8,8,8,8,8,8,8,8,8,8,8,8,8,8,8,8,8,8,8,8,8,8,8,8,8,8,8,8,8,8,8,8,8,8,8,8,8,8,8,8,8,8,8,8,8,8,8,8,8,8,8,8,8,8,8,8,8,8,8,8].append [8,8,8,8,8,8,8,8,8,8,8,8,8,8,8,8,8,8,8,8,8,8,8,8,8,8,8,8,8,8,8,8,8,8,8,8,8,8,8,8,8,8,8,8,8,8,8,8,8,8,8,8,8,8,8,8,8,8,8,8,8,8,8,8])=lenTab:=by decide +kernel
theorem yY:lenTab.length=256:=by simp [lenTab]
theorem yD (n:Nat) (h:n<256):(lenTab.getD n 0).toNat=bl n:=by
 unfold lenTab
 rw [gEq,List.getElem?_map,List.getElem?_range h]
 have:bl n≤8:=bl_le.2 h
 simp only [yag,Option.getD_some]
 rw [UInt8.toNat_ofNat_of_lt' (by simp [UInt8.size];omega)]
theorem BR {m s:Nat} {H:AHeap} (hcl:H.Closed) (hm:m<2^64) (h:m >>> s<256) (hs:s=0∨2^s≤m) :
 (0≤IntKind.u8.wrap ((m >>> s:Nat):Int)∧IntKind.u8.wrap ((m >>> s:Nat):Int)<(lenTab.length:Int)) ∧
 aa H (AV.int IntKind.i64 (IntKind.i64.wrap ((s:Int)+IntKind.i64.wrap ((lenTab.getD (IntKind.u8.wrap ((m >>> s:Nat):Int)).toNat 0).toNat:Int)))) H (AV.int IntKind.i64 (bl m:Nat)):=by
 have e:IntKind.u8.wrap ((m >>> s:Nat):Int)=((m >>> s:Nat):Int):=by
  have:IntKind.u8.wrap ((m >>> s:Nat):Int)=((m >>> s:Nat):Int) % 256:=by simp [IntKind.wrap,IntKind.signed,IntKind.bits]
  rw [this]
  generalize m >>> s=x at h ⊢
  omega
 rw [e,yY,iNq,yD _ h]
 refine ⟨⟨Int.natCast_nonneg _,by generalize m >>> s=x at h ⊢;omega⟩,?_⟩
 have hb:bl m=s+bl (m >>> s):=by
  rcases hs with rfl|hs
  ·simp
  ·exact wU m s hs
 have h8:bl (m >>> s)≤8:=bl_le.2 h
 have h64:bl m≤64:=bl_le.2 hm
 have e2:IntKind.i64.wrap ((bl (m >>> s):Nat):Int)=(bl (m >>> s):Nat):=by rw [wrap_i64]<;>omega
 have e3:IntKind.i64.wrap ((s:Int)+(bl (m >>> s):Nat))=(bl m:Nat):=by rw [wrap_i64]<;>omega
 rw [e2,e3]
 simp [aa,wk,wk2,wk1,zmw,hcl,znf]
theorem DX:EntOk Tryz.prog 343 (Ent.pure u5):=by
 refine Ype fun _ H K h=>?_
 unfold u5 at h
 split at h
 rotate_left
 ·exact h.elim
 rename_i n
 obtain ⟨⟨h0,h1⟩,hK⟩:=h
 refine ⟨_,hK,?_⟩
 obtain ⟨m,rfl⟩:=eQ h0
 clear hK h0
 rw [iNq]
 have hm:m<2^64:=by omega
 clear h1
 refine ACalls.fW ap tNq Tryz.func343 [.tmp 2] (nrq _) (T:=aj []) (h:=fun hcl hlt=>?_)
 clear hlt
 have s32:∀ a:Nat,a<2^64→db .u64 (a:Int) 32=((a >>> 32:Nat):Int):=fun a h=>lf a 32 h
 have s16:∀ a:Nat,a<2^64→db .u64 (a:Int) 16=((a >>> 16:Nat):Int):=fun a h=>lf a 16 h
 have s8:∀ a:Nat,a<2^64→db .u64 (a:Int) 8=((a >>> 8:Nat):Int):=fun a h=>lf a 8 h
 have q1:m >>> 32<2^64:=pI hm
 have q2:m >>> 16<2^64:=pI hm
 have q3:m >>> 32 >>> 16<2^64:=pI q1
 have w48:IntKind.i64.wrap 48=48:=by decide
 have w40:IntKind.i64.wrap 40=40:=by decide
 have w24:IntKind.i64.wrap 24=24:=by decide
 have w56:IntKind.i64.wrap (48+8)=56:=by decide
 have w56':IntKind.i64.wrap 56=56:=by decide
 have wn:∀ k:Nat,(0≤IntKind.u8.wrap ((m >>> k:Nat):Int))=True:=fun k=>eq_true (by simp [IntKind.wrap,IntKind.signed,IntKind.bits];try omega)
 have q4:m >>> 48<2^64:=pI hm
 simp only [go_sem,zav,byq,AX,s32,s16,s8,hm,q1,q2,q3,q4,w48,w40,w24,w56,w56',← Nat.shiftRight_add]
 have sr:∀ k:Nat,m >>> k=m/2^k:=fun k=>Nat.shiftRight_eq_div_pow m k
 have fin:=fun s=>@BR m s H hcl hm
 refine cZ (fun t1=>⟨by decide,cZ (fun t2=>⟨by decide,cZ (fun t3=>⟨by decide,?_⟩) (fun t3=>?_)⟩) (fun t2=>cZ (fun t3=>⟨by decide,?_⟩) (fun t3=>?_))⟩)
  (fun t1=>cZ (fun t2=>⟨by decide,cZ (fun t3=>⟨by decide,?_⟩) (fun t3=>?_)⟩) (fun t2=>cZ (fun t3=>⟨by decide,?_⟩) (fun t3=>?_)))
 all_goals simp only [decide_eq_true_eq,decide_eq_false_iff_not,sr,ge_iff_le] at t1 t2 t3
 ·first|exact fin 56 (by rw [sr];omega) (.inr (by omega))|exact ⟨(fin 56 (by rw [sr];omega) (.inr (by omega))).1.2,(fin 56 (by rw [sr];omega) (.inr (by omega))).2⟩
 ·first|exact fin 48 (by rw [sr];omega) (.inr (by omega))|exact ⟨(fin 48 (by rw [sr];omega) (.inr (by omega))).1.2,(fin 48 (by rw [sr];omega) (.inr (by omega))).2⟩
 ·first|exact fin 40 (by rw [sr];omega) (.inr (by omega))|exact ⟨(fin 40 (by rw [sr];omega) (.inr (by omega))).1.2,(fin 40 (by rw [sr];omega) (.inr (by omega))).2⟩
 ·first|exact fin 32 (by rw [sr];omega) (.inr (by omega))|exact ⟨(fin 32 (by rw [sr];omega) (.inr (by omega))).1.2,(fin 32 (by rw [sr];omega) (.inr (by omega))).2⟩
 ·first|exact fin 24 (by rw [sr];omega) (.inr (by omega))|exact ⟨(fin 24 (by rw [sr];omega) (.inr (by omega))).1.2,(fin 24 (by rw [sr];omega) (.inr (by omega))).2⟩
 ·first|exact fin 16 (by rw [sr];omega) (.inr (by omega))|exact ⟨(fin 16 (by rw [sr];omega) (.inr (by omega))).1.2,(fin 16 (by rw [sr];omega) (.inr (by omega))).2⟩
 ·first|exact fin 8 (by rw [sr];omega) (.inr (by omega))|exact ⟨(fin 8 (by rw [sr];omega) (.inr (by omega))).1.2,(fin 8 (by rw [sr];omega) (.inr (by omega))).2⟩
 ·first|exact fin 0 (by rw [sr];omega) (.inl rfl)|exact ⟨(fin 0 (by rw [sr];omega) (.inl rfl)).1.2,(fin 0 (by rw [sr];omega) (.inl rfl)).2⟩
def qF:List AV→AHeap→(AV→Prop)→Prop
 |[.agg [.int .u64 hi,.int .u64 lo]],_,K=>(0≤hi∧hi<18446744073709551616∧0≤lo∧lo<18446744073709551616)∧K (.int .i64 (bl (vOf hi.toNat lo.toNat):Nat))
 |_,_,_=>False
theorem vZ:EntOk Tryz.prog 332 (Ent.pure qF):=by
 refine Ype fun _ H K h=>?_
 unfold qF at h
 split at h
 rotate_left
 ·exact h.elim
 rename_i hi lo
 obtain ⟨⟨h0,h1,h2,h3⟩,hK⟩:=h
 refine ⟨_,hK,?_⟩
 obtain ⟨x,rfl⟩:=eQ h0
 obtain ⟨y,rfl⟩:=eQ h2
 clear hK h0 h2
 rw [iNq,iNq]
 have hx:x<2^64:=by omega
 have hy:y<2^64:=by omega
 refine ACalls.fW ap (tCq DX tNq) Tryz.func332 [.tmp 2] (nrq _) (T:=aj []) (h:=fun hcl hlt=>?_)
 clear hlt
 have b1:bl x≤64:=bl_le.2 hx
 have hw:IntKind.i64.wrap (64+((bl x:Nat):Int))=((64+bl x:Nat):Int):=by rw [wrap_i64]<;>omega
 simp only [go_sem,zav,byq,u5,iNq,hw]
 rw [Mz hy]
 refine cZ (fun t=>?_) (fun t=>?_)
 ·have t':x≠0:=by simpa using t
  rw [if_neg t']
  repeat refine ⟨by omega,?_⟩
  exact Z1
 ·have t':x=0:=by simpa using t
  rw [if_pos t']
  repeat refine ⟨by omega,?_⟩
  exact Z1
def isV (hi lo:Int):Prop:=0≤hi∧hi<18446744073709551616∧0≤lo∧lo<18446744073709551616
def sM:List AV→AHeap→(AV→Prop)→Prop
 |[.agg [.int .u64 hi,.int .u64 lo],.int .i64 n],_,K=>(isV hi lo∧n<9223372036854775808)∧K (vv (vOf hi.toNat lo.toNat >>> n.toNat))
 |_,_,_=>False
theorem AH:EntOk Tryz.prog 352 (Ent.pure sM):=by
 refine Ype fun _ H K h=>?_
 unfold sM at h
 split at h
 rotate_left
 ·exact h.elim
 rename_i hi lo n
 obtain ⟨⟨⟨h0,h1,h2,h3⟩,hn⟩,hK⟩:=h
 refine ⟨_,hK,?_⟩
 obtain ⟨x,rfl⟩:=eQ h0
 obtain ⟨y,rfl⟩:=eQ h2
 clear hK h0 h2
 rw [iNq,iNq]
 have hx:x<2^64:=by omega
 have hy:y<2^64:=by omega
 refine ACalls.fW ap tNq Tryz.func352 [.cell 4 106] (nrq _) (T:=aj []) (h:=fun hcl hlt=>?_)
 clear hlt
 simp only [go_sem,zav,byq]
 refine cZ (fun t=>?_) (fun t=>cZ (fun s=>?_) (fun s=>?_))
 ·have t':n.toNat=0:=by simp at t;omega
  rw [t',Nat.shiftRight_zero,x5 hy]
  exact Z1
 ·simp at t s
  obtain ⟨m,rfl⟩:∃ m:Nat,n=m+64:=⟨(n - 64).toNat,by omega⟩
  have e1:IntKind.i64.wrap ((m:Int)+64 - 64)=m:=by rw [wrap_i64]<;>omega
  have e2:IntKind.u64.wrap (m:Int)=m:=by rw [lk]<;>omega
  have e3:((m:Int)+64).toNat=m+64:=by omega
  have e4:vv (vOf x y >>> (m+64))=.agg [.int .u64 0,.int .u64 ((x >>> m:Nat):Int)]:=by
   rw [B7 x y _ hy hx (by omega),Nat.add_sub_cancel]
   have:=x5 (hi:=0) (lo:=x >>> m) (pI hx)
   simpa [vOf] using this
  rw [e3,e4,e1,e2,lf x m hx]
  repeat refine ⟨by omega,?_⟩
  exact Z1
 ·simp at t s
  obtain ⟨m,rfl⟩:∃ m:Nat,n=m:=⟨n.toNat,by omega⟩
  have hm:m<64:=by omega
  have e1:IntKind.i64.wrap (64 - (m:Int))=((64 - m:Nat):Int):=by rw [wrap_i64]<;>omega
  have e2:IntKind.u64.wrap (m:Int)=m:=by rw [lk]<;>omega
  have e3:IntKind.u64.wrap ((64 - m:Nat):Int)=((64 - m:Nat):Int):=by rw [lk]<;>omega
  have e4:vv (vOf x y >>> m)=.agg [.int .u64 ((x >>> m:Nat):Int),.int .u64 (((y >>> m ||| (x <<< (64 - m)) % 2^64:Nat)):Int)]:=by
   unfold vv
   rw [EB x y m hy,Dp x y m hy hm]
  rw [e1,e2,e3,iNq,e4,lf x m hx,lf y m hy,FC,K7 _ _ (pI hy) (Nat.mod_lt _ (by decide))]
  repeat refine ⟨by omega,?_⟩
  exact Z1
theorem um {n:Nat}:List.replicate n (AV.int .u8 0)=bys (List.replicate n 0):=by simp [bys,bC]
theorem Og (a:Nat):UInt8.ofNat (((a % 2^64:Nat):Int) % 256).toNat=UInt8.ofNat a:=by
 rw [UInt8.ofNat_eq_iff_mod_eq_toNat,UInt8.toNat_ofNat']
 omega
def iy (l:List UInt8) (k:Nat):List UInt8:=l.take k++List.replicate (l.length - k) 0
theorem xk (l:List UInt8):iy l 0=List.replicate l.length 0:=by simp [iy]
theorem xM (l:List UInt8):iy l l.length=l:=by simp [iy]
theorem rD (l:List UInt8) (k:Nat) (h:k≤l.length):(iy l k).length=l.length:=by simp [iy];omega
theorem vY (l:List UInt8) (k:Nat) (h:k<l.length):(iy l k).take k++[l[k]]++(iy l k).drop (k+1)=iy l (k+1):=by
 unfold iy
 have e1:(l.take k).length=k:=by simp;omega
 rw [List.take_append_of_le_length (by omega),ybd,ybc (by omega),e1,List.drop_of_length_le (by omega),yak,List.drop_replicate,List.take_succ_eq_append_getElem h,Nat.add_sub_cancel_left]
 rfl
def xz:List AV→AHeap→(AV→Prop)→Prop
 |[.agg [.int .u64 hi,.int .u64 lo]],_,K=>isV hi lo∧K (.agg (bys (beN (vOf hi.toNat lo.toNat) 16)))
 |_,_,_=>False
theorem KO:EntOk Tryz.prog 351 (Ent.pure xz):=by
 refine Ype fun _ H K h=>?_
 unfold xz at h
 split at h
 rotate_left
 ·exact h.elim
 rename_i hi lo
 obtain ⟨⟨h0,h1,h2,h3⟩,hK⟩:=h
 refine ⟨_,hK,?_⟩
 obtain ⟨x,rfl⟩:=eQ h0
 obtain ⟨y,rfl⟩:=eQ h2
 clear hK h0 h2
 rw [iNq,iNq]
 have hx:x<2^64:=by omega
 have hy:y<2^64:=by omega
 refine ACalls.fW ap (tCq AH tNq) Tryz.func351 [.cell 2 361] (nrq _) (T:=aj []) (h:=fun hcl hlt=>?_)
 clear hlt
 have hv:=xF hx hy
 generalize hvo:vOf x y=v at hv ⊢
 simp only [go_sem,byq,um]
 refine sE (A:=Nat) (fun k=>[(5,.int .i64 (k:Int)),(3,.ptr (H.nx+1+1) 0),(1,.ptr H.nx 0),(2,.ptr (H.nx+1) 0)])
  (fun k=>((H.push (.cells [.int .u64 (x:Int),.int .u64 (y:Int)])).push (.cells (bys (List.replicate 16 0)))).push (.cells (bys (iy (beN v 16) k)))) (fun k=>k≤16) (fun k=>16 - k) 0 (by omega) ?_ fun k hk=>?_
 ·simp only [bnq,enter,ym,ltF,ne_eq,Nat.reduceEqDiff,reduceCtorEq,xk,eK,true_or,and_true]
  all_goals rfl
 simp only [go_sem,byq]
 refine ak (fun hc=>?_) (fun hc=>?_)
 ·have hk:k<16:=by simp at hc;omega
  have e1:IntKind.i64.wrap (15 - (k:Int))=((15 - k:Nat):Int):=by rw [wrap_i64]<;>omega
  have e2:IntKind.i64.wrap (8*((15 - k:Nat):Int))=((8*(15 - k):Nat):Int):=by rw [wrap_i64]<;>omega
  have e3:IntKind.i64.wrap ((k:Int)+1)=((k+1:Nat):Int):=by rw [wrap_i64]<;>omega
  simp only [go_sem,byq,e1,e2,e3,sM,isV,vv,iNq,hvo,zg,Og,nzq,zlq]
  have hs:splice (bys (iy (beN v 16) k)) k (bys [UInt8.ofNat (v >>> (8*(15 - k)))])=bys (iy (beN v 16) (k+1)):=by
   rw [zmq (by rw [rD _ _ (by rw [eK];omega),eK];simp;omega),← vY _ _ (by rw [eK];exact hk)]
   simp [beN]
  rw [rD _ _ (by rw [eK];omega),eK,hs]
  refine ⟨by omega,by omega,by omega,k+1,by omega,by omega,?_⟩
  simp only [bnq,enter,ym,ltF,ne_eq,Nat.reduceEqDiff,reduceCtorEq,true_or,and_self]
 ·have hk:k=16:=by simp at hc;omega
  subst hk
  have ef:iy (beN v 16) 16=beN v 16:=by have:=xM (beN v 16);rwa [eK] at this
  have h16:(bys (beN v 16)).length=16:=by rw [zlk,eK]
  have e0:splice (bys (List.replicate 16 0)) 0 (bys (beN v 16))=bys (beN v 16):=by
   rw [zmq (by simp [eK])];simp [eK]
  have et:List.take 16 (beN v 16)=beN v 16:=ybc (by rw [eK];omega)
  simp only [go_sem,byq,ef,eK,et,e0]
  refine ⟨by simp,?_⟩
  exact Z1
def pu:List AV→AHeap→(AV→Prop)→Prop
 |[.agg [.int .u64 hi,.int .u64 lo]],_,K=>isV hi lo∧K (.slice .any 1 (bys (l7 (vOf hi.toNat lo.toNat))))
 |_,_,_=>False
theorem yl:EntOk Tryz.prog 347 (Ent.pure pu):=by
 refine Ype fun _ H K h=>?_
 unfold pu at h
 split at h
 rotate_left
 ·exact h.elim
 rename_i hi lo
 obtain ⟨⟨h0,h1,h2,h3⟩,hK⟩:=h
 refine ⟨_,hK,?_⟩
 obtain ⟨x,rfl⟩:=eQ h0
 obtain ⟨y,rfl⟩:=eQ h2
 clear hK h0 h2
 rw [iNq,iNq]
 have hx:x<2^64:=by omega
 have hy:y<2^64:=by omega
 refine ACalls.fW ap (tCq KO (tCq vZ tNq)) Tryz.func347 [.tmp 2] (nrq _) (T:=aj []) (h:=fun hcl hlt=>?_)
 clear hlt
 have hv:=xF hx hy
 generalize hvo:vOf x y=v at hv ⊢
 have b1:bl v≤128:=bl_le.2 hv
 have w1:IntKind.i64.wrap (((bl v:Nat):Int)+7)=((bl v+7:Nat):Int):=by rw [wrap_i64]<;>omega
 have w2:IntKind.i64.wrap (((bl v+7:Nat):Int).tdiv 8)=(((bl v+7)/8:Nat):Int):=by
  rw [Int.tdiv_eq_ediv_of_nonneg (by omega),wrap_i64]<;>omega
 have w3:max (1:Int) (((bl v+7)/8:Nat):Int)=(kF v:Nat):=by unfold kF;omega
 have hle:=vr hv
 have w4:IntKind.i64.wrap (16 - ((kF v:Nat):Int))=((16 - kF v:Nat):Int):=by rw [wrap_i64]<;>omega
 have e0:splice (bys (List.replicate 16 0)) 0 (bys (beN v 16))=bys (beN v 16):=by
  rw [zmq (by simp [eK])];simp [eK]
 have e5:((16:Nat):Int) - ((16 - kF v:Nat):Int)=((kF v:Nat):Int):=by omega
 have e6:bH 1 (kF v) (bys ((beN v 16).drop (16 - kF v)))=bys (l7 v):=by
  rw [GF v 16 _ hle,zmr (by rw [eK];exact nrq _),ybc (by rw [eK];exact nrq _)];rfl
 have e7:(l7 v).length=kF v:=eK _ _
 simp only [go_sem,zav,byq,xz,qF,isV,iNq,hvo,w1,w2,w3,w4,um,eK,e0,e5,e6,e7,List.length_replicate]
 refine ⟨by omega,by omega,by decide,by omega,by omega,?_⟩
 exact Z1
theorem It:ti Tryz.prog 312=some ⟨.array 128 4,128,128,.agg (List.replicate 128 (.bool false))⟩:=by kernel_rfl
attribute [go_sem] It
def mH (v:Nat):List UInt8:=UInt8.ofNat (kF v)::l7 v
theorem n8 (v:Nat):(l7 v).length=kF v:=eK _ _
def kK:List AV→AHeap→(AV→Prop)→Prop
 |[.slice _ 1 l,.agg [.int .u64 hi,.int .u64 lo]],_,K=>(isV hi lo∧isB l∧l.length≤140737488000000)∧K (.slice .any 1 (bys (unb l++mH (vOf hi.toNat lo.toNat))))
 |_,_,_=>False
theorem rf:EntOk Tryz.prog 340 (Ent.pure kK):=by
 refine Ype fun _ H K h=>?_
 unfold kK at h
 split at h
 rotate_left
 ·exact h.elim
 rename_i m l hi lo
 obtain ⟨⟨⟨h0,h1,h2,h3⟩,c1,hle⟩,hK⟩:=h
 refine ⟨_,hK,?_⟩
 obtain ⟨x,rfl⟩:=eQ h0
 obtain ⟨y,rfl⟩:=eQ h2
 obtain ⟨xs,rfl⟩:=jj c1
 clear hK h0 h2
 simp only [zlz,zlk] at *
 rw [iNq,iNq]
 have hx:x<2^64:=by omega
 have hy:y<2^64:=by omega
 refine ACalls.fW ap (tCq mR (tCq yl tNq)) Tryz.func340 [.tmp 4] (nrq _) (T:=aj []) (h:=fun hcl hlt=>?_)
 clear hlt
 have hv:=xF hx hy
 have hvl:=vr hv
 generalize hvo:vOf x y=v at hv hvl ⊢
 have w1:IntKind.u8.wrap ((kF v:Nat):Int)=((kF v:Nat):Int):=by rw [v4];omega
 have w2:AV.int .u8 ((kF v:Nat):Int)=bC (UInt8.ofNat (kF v)):=B8 (by omega)
 have w3:UInt8.ofNat (kF v)::l7 v=mH v:=rfl
 simp only [go_sem,zav,byq,lj,pu,isV,iNq,hvo,n8,w1,w2]
 refine ⟨by omega,by omega,by first|omega|(simp only [lAq,yaz,yba,n8];omega),?_⟩
 have w4:UInt8.ofNat (kF v)::l7 v=mH v:=rfl
 have w5:[UInt8.ofNat (kF v)]++l7 v=mH v:=rfl
 first|rw [w4]|rw [w5]
 exact Z1
theorem cO (n w:Int):(jz n w).length≤4:=by
 unfold jz;split
 ·rw [nZ];omega
 ·simp
theorem Be:ti Tryz.prog 323=some ⟨.struct [(0,22,false),(1,40,false)],2,32,.agg [.slice .nil 1 [],.int .i64 0]⟩:=by kernel_rfl
theorem Ew:ti Tryz.prog 40=some ⟨.int .i64,1,8,.int .i64 0⟩:=by kernel_rfl
theorem ya:ti Tryz.prog 247=some ⟨.ptr 323,1,8,.nilp⟩:=by kernel_rfl
attribute [go_sem] Be Ew ya
end Go.AL
