/- Contracts and plain laws, a part of the proof; no condition of its own. -/
import Derived.Test.YtokjjhidigoodaaS09e
import Derived.Test.YtokjjhidigoodaaS10j
set_option maxHeartbeats 32000000
open List renaming length_cons → yaz, length_nil → yba, take_of_length_le → ybc, drop_append → ybd, take_append → ybe, drop_eq_nil_of_le → ybf, length_map → ybb, cons_append → yal, nil_append → yak
open Go Go.AL Go.Proofs
namespace Go.AL
set_option linter.all false
set_option maxRecDepth 10000
theorem uS {l:List Tok}:∀ p t a q t',bA l p t=.ok a q t'→AllN qw t→AllN qw t':=by
 intro p t a q t' h hg
 unfold bA at h
 repeat' split at h
 all_goals first|(cases h;done)|(cases h;exact hg.snoc fun h2=>by first|(exact absurd (show (1:Nat)=2 from h2) (by decide))|(exact absurd (show (3:Nat)=2 from h2) (by decide))|exact Nat.le_refl 1|exact Nat.zero_le 1)
theorem rg {l:List Tok} {r:PR} {f:Nat} (h:run l f .imp 0 []=some r):AllN qw (ca l r).1:=by
 have h0:AllN qw ([]:List Nd):=fun n hn=>by cases hn
 cases r with
 |bad p=>exact h0
 |ok a p t =>
  dsimp only [ca]
  split
  ·exact h0
  ·split
   ·exact h0
   ·exact oJ (fun _ _ _ h=>fun h3=>by simp only [nd2] at h3;omega) uS f h h0
theorem rh {kn:VN→Bool} {s:List UInt8} (h:(comp kn s).2=0):okC (comp kn s).1:=by
 obtain ⟨h1,h2,h3,h4⟩:=zR h
 refine ⟨h3,h1,h2,?_,h4⟩
 unfold comp
 split
 ·intro n hn
  have:n=⟨2,0,0,[],[],1⟩:=by simpa [oneT] using hn
  subst this
  intro _
  decide
 ·obtain ⟨f,hf⟩:=ly (bh s).1
  unfold nL
  repeat' split
  all_goals first|exact rg hf|(intro n hn;cases hn)
theorem ws {P:Program} {t s u w:Nat} {x:AV} {H1:AHeap} {fr:Fr} {H:AHeap}:co P [.tmp t,.tmp s,.tmp u,.tmp w] (.ret x) H1 fr H=ae H (.tup [Fr.get fr t,Fr.get fr s,Fr.get fr u,Fr.get fr w]) H1 x:=by simp [co,fM,jc,one]
def bndV:List VN:=[([97],[]),([98],[]),([100],[112,114,101,102,105,120,95,108,101,110,103,116,104]),([101],[109,97,115,107]),([102],[104,105,103,104]),([112,114,105,111,114,105,116,121],[]),([120],[])]
def dj (l:List Nat):List AV:=l.map fun v=>.agg [.int .u64 ((v/2^64:Nat):Int),.int .u64 ((v % 2^64:Nat):Int)]
theorem i9 {l:List Nat}:(dj l).length=l.length:=by simp [dj]
theorem sB {l:List Nat} {k:Nat} (h:k<l.length):(dj l).getD k .junk=.agg [.int .u64 ((l[k]/2^64:Nat):Int),.int .u64 ((l[k] % 2^64:Nat):Int)]:=by
 simp [dj,List.getD_eq_getElem?_getD,h]
/-- the values that variables are given -/
def eu (l:List Nat):List (VN × Nat):=(List.range 7).map fun i=>(bndV.getD i default,l.getD i 0)
def qy:List AV→AHeap→(AV→Prop)→Prop
 |[.slice _ 2 x],_,K=>∃ l,x=dj l∧K (.tup [.slice .any 2 (bj bndV),.slice .any 2 (bj bndV),.slice .any 4 (bf (eu l)),.slice .any 4 (bf (eu l))])
 |_,_,_=>False
theorem ve:EntOk Try.prog 19 (Ent.pure qy):=by
 refine EntOk.pure fun args H K h=>?_
 unfold qy at h
 split at h
 rotate_left
 ·exact h.elim
 rename_i m x
 obtain ⟨l,rfl,hK⟩:=h
 refine ⟨_,hK,?_⟩
 clear hK
 refine ACalls.fW ay TblOk.nil Try.func19 [.tmp 2,.tmp 3,.tmp 4,.tmp 5] (Nat.le_refl _) (T:=ap [(11,[[],[],[],[1],[],[],[],[],[],[],[],[1,6,8]]),(12,[[],[],[],[],[],[],[],[],[2,4,5],[],[],[],[],[],[],[],[],[2,4,5,11,13,14]]),(811,[[100002],[100010]]),(812,[[100007],[100016]])]) (h:=fun hcl hlt=>?_)
 have hm:∀ n',H.nx≤n'→AV.lt n' (.slice m 2 (dj l)):=fun n' hn=>AV.lt_mono hn _ (hlt (.slice m 2 (dj l)) (by simp))
 clear hlt
 simp only [go_sem]
 refine aJ (A:=Nat) (fun k=>[(0,.slice m 2 (dj l)),(6,.slice (.own (H.nx+1+1+1+1)) 2 (bj (bndV.take k))),(7,.slice (.own (H.nx+1+1+1+1+1)) 2 (bj (bndV.take k))),(8,.slice (.own (H.nx+1+1+1+1+1+1)) 4 (bf ((eu l).take k))),(9,.slice (.own (H.nx+1+1+1+1+1+1+1)) 4 (bf ((eu l).take k))),(20,.slice (.own (H.nx+1+1+1+1+1+1+1+1)) 2 (bj bndV)),(21,.int .i64 7),(22,.int .i64 (k:Int))])
  (fun k=>(((((((((H.push (.buf 2 0)).push (.buf 2 0)).push (.buf 4 0)).push (.buf 4 0)).push (.buf 2 k)).push (.buf 2 k)).push (.buf 4 k)).push (.buf 4 k)).push (.buf 2 7))) (fun k=>k≤7) (fun k=>7 - k) 0 (Nat.zero_le _) ?_ fun k hk=>?_
 ·(simp only [bkq,enterW,bn,ltF,ne_eq,Nat.reduceEqDiff,reduceCtorEq,hm,varsAV_lt,aE];try simp (disch:=first|assumption|omega|(simp;done)|(simp;omega)|(simp only [bt,and_true];first|done|omega|(simp;done))) [↓zmk,beq,ybc,ybd,ybe,ae,wk,wk2,wk1,wkM,wkL,ai,ybf,byq,biq,ak,hcl,hm,varsAV_lt,aE];try (repeat' (first|assumption|omega|exact True.intro|refine And.intro ?_ ?_|refine af ?_|refine aa ?_|refine ac ?_ ?_|refine ag ?_ ?_|refine ah ?_|exact AHeap.Le.refl _|refine AHeap.Le.push ?_ _|refine AHeap.Le.del ?_ ?_|(simp only [bt,and_true,true_and,hm,varsAV_lt,aE];first|done|omega|(simp;done)))))<;>rfl
 simp only [go_sem]
 refine al (fun hc=>?_) (fun hc=>?_)
 ·have hk1:k<7:=by simp at hc;omega
  have hkv:k<bndV.length:=hk1
  have e5:IntKind.i64.wrap ((k:Int)+1)=((k+1:Nat):Int):=by rw [wrap_i64]<;>omega
  obtain ⟨X,hX⟩:∃ X,bndV[k]=X:=⟨_,rfl⟩
  have tv:bndV.take (k+1)=bndV.take k++[X]:=by rw [List.take_succ_eq_append_getElem hkv,hX]
  have he:(eu l).length=7:=by simp [eu]
  have te:(eu l).take (k+1)=(eu l).take k++[(X,l.getD k 0)]:=by
   rw [List.take_succ_eq_append_getElem (by omega)]
   congr 1
   simp [eu,List.getD_eq_getElem?_getD,hkv,hX]
  have lv:(bndV.take k).length=k:=by rw [List.length_take];exact Nat.min_eq_left (Nat.le_of_lt hkv)
  have le:((eu l).take k).length=k:=by rw [List.length_take,he];omega
  have gv:=gy hkv
  rw [hX] at gv
  have fv:bj (bndV.take k)++[.agg [.str X.1,.str X.2]]=bj (bndV.take (k+1)):=by rw [tv];simp [bj,dp]
  by_cases hlk:k<l.length
  ·have hvg:l.getD k 0=l[k]:=by simp [List.getD_eq_getElem?_getD,hlk]
   have d1:decide ((k:Int)<(l.length:Int))=true:=decide_eq_true (by omega)
   simp only [go_sem,gv,i9,sB hlk,d1,Int.toNat_natCast,e5]
   have fb:bf ((eu l).take k)++[.agg [.str X.1,.str X.2,.int .u64 ((l[k]/2^64:Nat):Int),.int .u64 ((l[k] % 2^64:Nat):Int)]]=bf ((eu l).take (k+1)):=by rw [te,hvg];simp [bf,kp]
   refine ⟨by rw [aA];exact ⟨by omega,by exact_mod_cast hkv⟩,by omega,⟨by rw [aA,lv],by rw [aA,lv];omega,by rw [aA,lv];omega,fun z hz=>by rw [List.mem_singleton.1 hz];rfl⟩,⟨by rw [aA,lv],by rw [aA,lv];omega,by rw [aA,lv];omega,fun z hz=>by rw [List.mem_singleton.1 hz];rfl⟩,⟨by rw [av,le],by rw [av,le];omega,by rw [av,le];omega,fun z hz=>by rw [List.mem_singleton.1 hz];rfl⟩,⟨by rw [av,le],by rw [av,le];omega,by rw [av,le];omega,fun z hz=>by rw [List.mem_singleton.1 hz];rfl⟩,k+1,by omega,by omega,?_⟩
   simp only [fv,fb,aA,av,lv,le]
   (simp only [bkq,enterW,bn,ltF,ne_eq,Nat.reduceEqDiff,reduceCtorEq,hm,varsAV_lt,aE];try simp (disch:=first|assumption|omega|(simp;done)|(simp;omega)|(simp only [bt,and_true];first|done|omega|(simp;done))) [↓zmk,beq,ybc,ybd,ybe,ae,wk,wk2,wk1,wkM,wkL,ai,ybf,byq,biq,ak,hcl,hm,varsAV_lt,aE];try (repeat' (first|assumption|omega|exact True.intro|refine And.intro ?_ ?_|refine af ?_|refine aa ?_|refine ac ?_ ?_|refine ag ?_ ?_|refine ah ?_|exact AHeap.Le.refl _|refine AHeap.Le.push ?_ _|refine AHeap.Le.del ?_ ?_|(simp only [bt,and_true,true_and,hm,varsAV_lt,aE];first|done|omega|(simp;done)))))
  ·have hvg:l.getD k 0=0:=by rw [List.getD_eq_getElem?_getD,List.getElem?_eq_none (by omega)];rfl
   have d1:decide ((k:Int)<(l.length:Int))=false:=decide_eq_false (by omega)
   simp only [go_sem,gv,i9,d1,Int.toNat_natCast,e5]
   have fb:bf ((eu l).take k)++[.agg [.str X.1,.str X.2,.int .u64 0,.int .u64 0]]=bf ((eu l).take (k+1)):=by rw [te,hvg];simp [bf,kp]
   refine ⟨by rw [aA];exact ⟨by omega,by exact_mod_cast hkv⟩,⟨by rw [aA,lv],by rw [aA,lv];omega,by rw [aA,lv];omega,fun z hz=>by rw [List.mem_singleton.1 hz];rfl⟩,⟨by rw [aA,lv],by rw [aA,lv];omega,by rw [aA,lv];omega,fun z hz=>by rw [List.mem_singleton.1 hz];rfl⟩,⟨by rw [av,le],by rw [av,le];omega,by rw [av,le];omega,fun z hz=>by rw [List.mem_singleton.1 hz];rfl⟩,⟨by rw [av,le],by rw [av,le];omega,by rw [av,le];omega,fun z hz=>by rw [List.mem_singleton.1 hz];rfl⟩,k+1,by omega,by omega,?_⟩
   simp only [fv,fb,aA,av,lv,le]
   (simp only [bkq,enterW,bn,ltF,ne_eq,Nat.reduceEqDiff,reduceCtorEq,hm,varsAV_lt,aE];try simp (disch:=first|assumption|omega|(simp;done)|(simp;omega)|(simp only [bt,and_true];first|done|omega|(simp;done))) [↓zmk,beq,ybc,ybd,ybe,ae,wk,wk2,wk1,wkM,wkL,ai,ybf,byq,biq,ak,hcl,hm,varsAV_lt,aE];try (repeat' (first|assumption|omega|exact True.intro|refine And.intro ?_ ?_|refine af ?_|refine aa ?_|refine ac ?_ ?_|refine ag ?_ ?_|refine ah ?_|exact AHeap.Le.refl _|refine AHeap.Le.push ?_ _|refine AHeap.Le.del ?_ ?_|(simp only [bt,and_true,true_and,hm,varsAV_lt,aE];first|done|omega|(simp;done)))))
 ·have hk1:k=7:=by simp at hc;omega
  subst hk1
  have t7v:bndV.take 7=bndV:=rfl
  have t7e:(eu l).take 7=eu l:=ybc (by simp [eu])
  simp only [go_sem,t7v,t7e,ws]
  simp (disch:=first|assumption|omega|(simp;done)|(simp;omega)|(simp only [bt,and_true];first|done|omega|(simp;done))) [↓zmk,beq,ybc,ybd,ybe,ae,wk,wk2,wk1,wkM,wkL,ai,ybf,hcl]
  refine ⟨by repeat first|exact .refl _|refine .push ?_ _,?_⟩
  exact ⟨varsAV_lt.mpr (fun _ h=>by cases h),by rw [aE];intro _ h;cases h⟩
end Go.AL
open Go Go.AL Go.Proofs
namespace Go.AL
set_option linter.all false
set_option maxRecDepth 10000
theorem Ce {P:Program} {f:FuncId} {p q:List AV→AHeap→(AV→Prop)→Prop} (h1:EntOk P f (Ent.pure p)) (h2:EntOk P f (Ent.pure q)):EntOk P f (Ent.pure fun a H K=>p a H K∨q a H K) :=
 EntOk.pure fun a H K h=>h.elim (h1.1 rfl a H K) (h2.1 rfl a H K)
/-- a slice of these rows, or none -/
def yz (x:AV) (sz:Nat) (l:List AV):Prop:=(∃ m,x=.slice m sz l)∨(x=.slice .nil 1 []∧l=[])
def lu:List AV→AHeap→(AV→Prop)→Prop
 |[.slice .nil 1 [],.func f [] [.ptr c 0]],_,K=>K (.int .i64 (-1))
 |_,_,_=>False
theorem yg:EntOk Try.prog 65 (Ent.pure lu):=by
 refine EntOk.pure fun args H K h=>?_
 unfold lu at h
 split at h
 rotate_left
 ·exact h.elim
 rename_i f c
 refine ⟨_,h,?_⟩
 clear h
 refine ACalls.fW ay TblOk.nil Try.func65 [.tmp 4] (Nat.le_refl _) (T:=ap []) (h:=fun hcl hlt=>?_)
 have hf:AV.lt H.nx (.func f [] [.ptr c 0]):=hlt _ (by simp)
 clear hlt
 simp only [go_sem]
 refine aJ (A:=Nat) (fun k=>[(0,.slice .nil 1 []),(1,.func f [] [.ptr c 0]),(7,.int .i64 0),(8,.int .i64 0)]) (fun _=>H) (fun k=>True) (fun k=>0) 0 trivial ?_ fun k hk=>?_
 ·refine ⟨Nat.le_refl _,AHeap.Le.refl _,hcl,?_,?_⟩
  ·simp [ltF,znb,hf,zmj]
  ·simp [bn,wk2,wk1,wkM,Fr.get]
 have d0:decide ((0:Int)<0)=false:=rfl
 simp only [go_sem,d0]
 simp (disch:=first|assumption|omega|(simp;done)|(simp;omega)|(simp only [bt,and_true];first|done|omega|(simp;done))) [↓zmk,beq,ybc,ybd,ybe,ae,wk,wk2,wk1,wkM,wkL,ai,ybf,hcl]
def zQ:List AV→AHeap→(AV→Prop)→Prop:=fun a H K=>rK a H K∨lu a H K
theorem rD:EntOk Try.prog 65 (Ent.pure zQ):=Ce y4 yg
def gm:List AV→AHeap→(AV→Prop)→Prop
 |[.agg [x,_,_,_,_,_,_,_,_,_],.int .i64 n],_,K=>∃ fs:List SField,(yz x 3 (fs.map cW)∧fs.length≤1000000)∧K (.int .i64 (ixP (fun t:SField=>t.id==n) fs 0))
 |_,_,_=>False
theorem lg:EntOk Try.prog 46 (Ent.pure gm):=by
 refine EntOk.pure fun args H K h=>?_
 unfold gm at h
 split at h
 rotate_left
 ·exact h.elim
 rename_i x b1 b2 b3 b4 b5 b6 b7 b8 b9 n
 obtain ⟨fs,⟨hx,hl⟩,hK⟩:=h
 refine ⟨_,hK,?_⟩
 clear hK
 rcases hx with ⟨m,rfl⟩|⟨rfl,he⟩
 ·skip
  refine ACalls.fW ay (TblOk.cons rD TblOk.nil) Try.func46 [.tmp 4] (Nat.le_refl _) (T:=ap []) (h:=fun hcl hlt=>?_)
  clear hlt
  simp only [go_sem]
  refine .inl ⟨fs,n,⟨rfl,by simp only [go_sem],hl⟩,?_⟩
  simp only [go_sem]
  simp (disch:=first|assumption|omega|(simp;done)|(simp;omega)|(simp only [bt,and_true];first|done|omega|(simp;done))) [↓zmk,beq,ybc,ybd,ybe,ae,wk,wk2,wk1,wkM,wkL,ai,ybf,hcl]
 ·obtain rfl:fs=[]:=List.map_eq_nil_iff.1 he
  refine ACalls.fW ay (TblOk.cons rD TblOk.nil) Try.func46 [.tmp 4] (Nat.le_refl _) (T:=ap []) (h:=fun hcl hlt=>?_)
  clear hlt
  simp only [go_sem]
  refine .inr ?_
  simp only [go_sem,lu,ixP]
  simp (disch:=first|assumption|omega|(simp;done)|(simp;omega)|(simp only [bt,and_true];first|done|omega|(simp;done))) [↓zmk,beq,ybc,ybd,ybe,ae,wk,wk2,wk1,wkM,wkL,ai,ybf,hcl]
def tC:List AV→AHeap→(AV→Prop)→Prop
 |[.agg [x,_,_,_,_,_,_,_,_,_],.int .i64 n],_,K=>∃ fs:List SField,(yz x 3 (fs.map cW)∧fs.length≤1000000)∧K (.int .i64 (il fs n))
 |_,_,_=>False
theorem xq:EntOk Try.prog 29 (Ent.pure tC):=by
 refine EntOk.pure fun args H K h=>?_
 unfold tC at h
 split at h
 rotate_left
 ·exact h.elim
 rename_i x b1' b2' b3 b4 b5 b6 b7 b8 b9 fld
 obtain ⟨fs,⟨hx,hl⟩,hK⟩:=h
 refine ⟨_,hK,?_⟩
 clear hK
 rw [w6]
 obtain ⟨b1,b2⟩:=rS (q:=fun f:SField=>f.id==fld) (l:=fs) (k:=0)
 rcases b2 with b2|b2
 ·rw [qp b2]
  refine ACalls.fW ay (TblOk.cons lg TblOk.nil) Try.func29 [.tmp 4] (Nat.le_refl _) (T:=ap []) (h:=fun hcl hlt=>?_)
  clear hlt
  simp only [go_sem,gm]
  (repeat with_reducible refine And.intro (by first|exact True.intro|decide|omega|(simp [zim,zgm,zgn,zgo,zgq,zgp,zgu];first|done|omega)) ?_)
  refine ⟨fs,⟨hx,hl⟩,?_⟩
  rw [b2]
  have d:decide ((-1:Int)<0)=true:=rfl
  simp only [oR,go_sem,d]
  simp (disch:=first|assumption|omega|(simp;done)|(simp;omega)|(simp only [bt,and_true];first|done|omega|(simp;done))) [↓zmk,beq,ybc,ybd,ybe,ae,wk,wk2,wk1,wkM,wkL,ai,ybf,hcl]
 ·obtain ⟨i,hi⟩:∃ i:Nat,ixP (fun f:SField=>f.id==fld) fs 0=((0+i:Nat):Int):=⟨(ixP (fun f:SField=>f.id==fld) fs 0).toNat,by omega⟩
  obtain ⟨y,h1,h2,h3⟩:=tx hi
  rw [h3]
  rw [Nat.zero_add] at hi
  have hil:i<fs.length:=by
   rcases Nat.lt_or_ge i fs.length with h|h
   ·exact h
   ·rw [List.getElem?_eq_none h] at h1;cases h1
  have hg':=lY (f:=cW) (l:=fs) (k:=i) (x:=y) h1
  have d:decide ((i:Int)<0)=false:=by simp
  obtain ⟨m,rfl⟩:∃ m,x=.slice m 3 (fs.map cW):=by
   rcases hx with h|⟨_,h⟩
   ·exact h
   ·rw [List.map_eq_nil_iff.1 h] at hil;exact absurd hil (by simp)
  refine ACalls.fW ay (TblOk.cons lg TblOk.nil) Try.func29 [.tmp 4] (Nat.le_refl _) (T:=ap []) (h:=fun hcl hlt=>?_)
  clear hlt
  simp only [go_sem,gm]
  (repeat with_reducible refine And.intro (by first|exact True.intro|decide|omega|(simp [zim,zgm,zgn,zgo,zgq,zgp,zgu];first|done|omega)) ?_)
  refine ⟨fs,⟨hx,hl⟩,?_⟩
  rw [hi]
  simp only [oR,go_sem,d,Int.toNat_natCast,hg',cW,ybb]
  (repeat with_reducible refine And.intro (by first|exact True.intro|decide|omega|(simp [zim,zgm,zgn,zgo,zgq,zgp,zgu];first|done|omega)) ?_)
  simp (disch:=first|assumption|omega|(simp;done)|(simp;omega)|(simp only [bt,and_true];first|done|omega|(simp;done))) [↓zmk,beq,ybc,ybd,ybe,ae,wk,wk2,wk1,wkM,wkL,ai,ybf,hcl]
def pO:List AV→AHeap→(AV→Prop)→Prop
 |[.int .i64 n],_,K=>n<9223372036854775808∧K (vv n.toNat)
 |_,_,_=>False
theorem Bu {n:Int} (h:n<9223372036854775808):vv n.toNat=.agg [.int .u64 0,.int .u64 (max 0 n)]:=by
 unfold vv
 have h1:n.toNat/2^64=0:=by omega
 have h2:((n.toNat % 2^64:Nat):Int)=max 0 n:=by omega
 rw [h1,h2];rfl
theorem t5:EntOk Try.prog 30 (Ent.pure pO):=by
 refine EntOk.pure fun args H K h=>?_
 unfold pO at h
 split at h
 rotate_left
 ·exact h.elim
 rename_i n
 obtain ⟨h1,hK⟩:=h
 refine ⟨_,hK,?_⟩
 clear hK
 rw [Bu h1]
 have e1:IntKind.u64.wrap (max 0 n)=max 0 n:=by rw [jV]<;>omega
 refine ACalls.fW ay (TblOk.cons kb TblOk.nil) Try.func30 [.cell 2 95] (Nat.le_refl _) (T:=ap []) (h:=fun hcl hlt=>?_)
 clear hlt
 simp only [go_sem,kG,e1]
 simp (disch:=first|assumption|omega|(simp;done)|(simp;omega)|(simp only [bt,and_true];first|done|omega|(simp;done))) [↓zmk,beq,ybc,ybd,ybe,ae,wk,wk2,wk1,wkM,wkL,ai,ybf,hcl]
def BG:List UInt8:=[112,114,101,102,105,120,95,108,101,110,103,116,104]
def zZ:List UInt8:=[109,97,115,107]
def Ah:List UInt8:=[104,105,103,104]
/-- the value that an attribute of a match has -/
def gN (x:SMatch) (a:List UInt8) (w:Int):Nat :=
 if a=BG then x.pfx.toNat else if a=zZ then x.mask else if a=Ah then (if x.present=true then x.high else tJ w) else x.value
def qX:List AV→AHeap→(AV→Prop)→Prop
 |[.agg l,.str a,.int .i64 w],_,K=>∃ x,(l=ic x∧x.pfx<9223372036854775808)∧K (vv (gN x a w))
 |_,_,_=>False
theorem vG:EntOk Try.prog 28 (Ent.pure qX):=by
 refine EntOk.pure fun args H K h=>?_
 unfold qX at h
 split at h
 rotate_left
 ·exact h.elim
 rename_i l a w
 obtain ⟨x,⟨rfl,hp⟩,hK⟩:=h
 refine ⟨_,hK,?_⟩
 clear hK
 refine ACalls.fW ay (TblOk.cons t5 (TblOk.cons xh TblOk.nil)) Try.func28 [.cell 6 95] (Nat.le_refl _) (T:=ap []) (h:=fun hcl hlt=>?_)
 clear hlt
 by_cases h1:a=BG
 ·have hw:gN x a w=x.pfx.toNat:=by unfold gN;rw [if_pos h1]
  rw [hw,h1]
  simp only [go_sem,ic,vc,yal,yak,List.append_assoc,BG,beq_self_eq_true,pO,vv]
  refine ⟨hp,?_⟩
  simp (disch:=first|assumption|omega|(simp;done)|(simp;omega)|(simp only [bt,and_true];first|done|omega|(simp;done))) [↓zmk,beq,ybc,ybd,ybe,ae,wk,wk2,wk1,wkM,wkL,ai,ybf,hcl]
 have d1:(a==[112,114,101,102,105,120,95,108,101,110,103,116,104])=false:=beq_eq_false_iff_ne.2 h1
 by_cases h2:a=zZ
 ·have d2:(a==[109,97,115,107])=true:=by rw [h2];rfl
  have hw:gN x a w=x.mask:=by unfold gN;rw [if_neg h1,if_pos h2]
  rw [hw]
  simp only [go_sem,ic,vc,yal,yak,List.append_assoc,d1,d2,vv]
  simp (disch:=first|assumption|omega|(simp;done)|(simp;omega)|(simp only [bt,and_true];first|done|omega|(simp;done))) [↓zmk,beq,ybc,ybd,ybe,ae,wk,wk2,wk1,wkM,wkL,ai,ybf,hcl]
 have d2:(a==[109,97,115,107])=false:=beq_eq_false_iff_ne.2 h2
 by_cases h3:a=Ah
 ·have d3:(a==[104,105,103,104])=true:=by rw [h3];rfl
  cases hx:x.present
  ·have hw:gN x a w=tJ w:=by unfold gN;rw [if_neg h1,if_neg h2,if_pos h3,hx,if_neg (by decide)]
   rw [hw]
   simp only [go_sem,ic,vc,yal,yak,List.append_assoc,d1,d2,d3,hx,pg,vv]
   simp (disch:=first|assumption|omega|(simp;done)|(simp;omega)|(simp only [bt,and_true];first|done|omega|(simp;done))) [↓zmk,beq,ybc,ybd,ybe,ae,wk,wk2,wk1,wkM,wkL,ai,ybf,hcl]
  ·have hw:gN x a w=x.high:=by unfold gN;rw [if_neg h1,if_neg h2,if_pos h3,hx,if_pos rfl]
   rw [hw]
   simp only [go_sem,ic,vc,yal,yak,List.append_assoc,d1,d2,d3,hx,vv]
   simp (disch:=first|assumption|omega|(simp;done)|(simp;omega)|(simp only [bt,and_true];first|done|omega|(simp;done))) [↓zmk,beq,ybc,ybd,ybe,ae,wk,wk2,wk1,wkM,wkL,ai,ybf,hcl]
 have d3:(a==[104,105,103,104])=false:=beq_eq_false_iff_ne.2 h3
 have hw:gN x a w=x.value:=by unfold gN;rw [if_neg h1,if_neg h2,if_neg h3]
 rw [hw]
 simp only [go_sem,ic,vc,yal,yak,List.append_assoc,d1,d2,d3,vv]
 simp (disch:=first|assumption|omega|(simp;done)|(simp;omega)|(simp only [bt,and_true];first|done|omega|(simp;done))) [↓zmk,beq,ybc,ybd,ybe,ae,wk,wk2,wk1,wkM,wkL,ai,ybf,hcl]
end Go.AL
open Go Go.AL Go.Proofs
namespace Go.AL
set_option linter.all false
set_option maxRecDepth 10000
/-- the bindings of one key -/
def fo (fs:List SField) (q:SKey) (x:SMatch):List (VN × Nat):=(jD q.kind).map fun a=>((q.name,a),gN x a (il fs q.field))
def mA (fs:List SField) (keys:List SKey) (ms:List SMatch) (k:Nat):List (VN × Nat):=match keys[k]? with
 |some q=>fo fs q (ms.getD k da)
 |none=>[]
def cS (fs:List SField) (keys:List SKey) (ms:List SMatch):Nat→List (VN × Nat)
 |0=>[]
 |k+1=>cS fs keys ms k++mA fs keys ms k
/-- the bindings of an entry -/
def qm (fs:List SField) (keys:List SKey) (ms:List SMatch) (p:Int):List (VN × Nat):=cS fs keys ms keys.length++[(jT,p.toNat)]
theorem ur {k:Int}:(jD k).length≤2:=by
 unfold jD
 repeat' split
 all_goals simp
theorem vD {fs:List SField} {keys:List SKey} {ms:List SMatch} {k:Nat}:(mA fs keys ms k).length≤2:=by
 unfold mA
 split
 ·unfold fo;rw [ybb];exact ur
 ·simp
theorem gx {fs:List SField} {keys:List SKey} {ms:List SMatch}:∀ {k:Nat},(cS fs keys ms k).length≤2*k
 |0=>Nat.le_refl _
 |k+1=>by
  rw [cS,List.length_append]
  have:=@gx fs keys ms k
  have:=@vD fs keys ms k
  omega
theorem gA {l:List (VN × Nat)} {a b:List UInt8} {v:Nat}:bf l++[.agg [.str a,.str b,.int .u64 ((v/2^64:Nat):Int),.int .u64 ((v % 2^64:Nat):Int)]]=bf (l++[((a,b),v)]):=by
 simp [bf,kp]
def tT:List AV→AHeap→(AV→Prop)→Prop
 |[.agg [x,b1,b2,b3,b4,b5,b6,b7,b8,b9],.agg [a1,a2,.slice _ 3 y,a3,a4,a5,a6,a7],.agg [.int .i64 n1,z,.int .i64 pr,.int .i64 n2,b]],_,K=>∃ (fs:List SField) (keys:List SKey) (ms:List SMatch),
   (yz x 3 (fs.map cW)∧fs.length≤1000000∧y=keys.map eg∧keys.length≤1000∧yz z 8 (ms.map eZ)∧ms.length≤4611686018427387904∧(∀ m∈ms,m.pfx<9223372036854775808)∧pr<9223372036854775808) ∧
   K (.slice .any 4 (bf (qm fs keys ms pr)))
 |_,_,_=>False
theorem xP:EntOk Try.prog 13 (Ent.pure tT):=by
 refine EntOk.pure fun args H K h=>?_
 unfold tT at h
 split at h
 rotate_left
 ·exact h.elim
 rename_i x b1 b2 b3 b4 b5 b6 b7 b8 b9 a1 a2 m y a3 a4 a5 a6 a7 n1 z pr n2 b
 obtain ⟨fs,keys,ms,⟨hx,hfl,rfl,hkl,hz,hml,hmp,hpr⟩,hK⟩:=h
 refine ⟨_,hK,?_⟩
 clear hK
 refine ACalls.fW ay (TblOk.cons iW (TblOk.cons xq (TblOk.cons vG (TblOk.cons t5 TblOk.nil)))) Try.func13 [.tmp 6] (Nat.le_refl _) (T:=ap [(12,[[],[],[],[],[],[],[],[],[],[],[],[8,10],[5,7,8,10,11],[],[2,4,5,7,8,10,11,12],[2,4,5,7,8,10,11,12]])]) (h:=fun hcl hlt=>?_)
 have hsc:=AV.lt_mono (Nat.le_succ H.nx) _ (hlt (.agg [x,b1,b2,b3,b4,b5,b6,b7,b8,b9]) (by simp))
 have htc:=fun n' (hn:H.nx≤n')=>AV.lt_mono hn _ (hlt (.agg [a1,a2,.slice m 3 (keys.map eg),a3,a4,a5,a6,a7]) (by simp))
 have hec:=fun n' (hn:H.nx≤n')=>AV.lt_mono hn _ (hlt (.agg [.int .i64 n1,z,.int .i64 pr,.int .i64 n2,b]) (by simp))
 have hm:∀ n',H.nx≤n'→AV.lt n' (.slice m 3 (keys.map eg)):=fun n' hn=>by have h1:=htc n' hn;rw [znn] at h1;exact h1.2.2.1
 simp only [znn] at hsc htc hec
 clear hlt
 obtain ⟨zm,zs,rfl,hzs⟩:∃ zm zs,z=.slice zm zs (ms.map eZ)∧(zs=8∨ms=[]):=by
  rcases hz with ⟨zm,rfl⟩|⟨rfl,h⟩
  ·exact ⟨zm,8,rfl,.inl rfl⟩
  ·exact ⟨.nil,1,by rw [h],.inr (List.map_eq_nil_iff.1 h)⟩
 simp only [go_sem,jN]
 have hc0:(((((H.push (.cells [x,b1,b2,b3,b4,b5,b6,b7,b8,b9])).push (.cells [a1,a2,.slice m 3 (keys.map eg),a3,a4,a5,a6,a7])).push (.cells [.int .i64 n1,.slice zm zs (ms.map eZ),.int .i64 pr,.int .i64 n2,b])).push (.buf 4 0)).push (.buf 4 0)).Closed :=
  af (af (ac (ac (ac hcl hsc) (htc _ (by simp only [go_sem];omega))) (hec _ (by simp only [go_sem];omega))))
 refine aJ (A:=Nat × AHeap) (fun a=>[(3,.ptr H.nx 0),(5,.ptr (H.nx+1+1) 0),(7,.slice (.own (H.nx+1+1+1+1)) 4 (bf (cS fs keys ms a.1))),(15,.slice m 3 (keys.map eg)),(16,.int .i64 (keys.length:Int)),(17,.int .i64 (a.1:Int))]) (fun a=>a.2)
  (fun a=>a.1≤keys.length∧H.Le a.2∧a.2.Closed∧a.2.get H.nx=some (.cells [x,b1,b2,b3,b4,b5,b6,b7,b8,b9])∧a.2.get (H.nx+1+1)=some (.cells [.int .i64 n1,.slice zm zs (ms.map eZ),.int .i64 pr,.int .i64 n2,b])∧a.2.get (H.nx+1+1+1+1)=some (.buf 4 (cS fs keys ms a.1).length)) (fun a=>keys.length - a.1)
  (0,(((((H.push (.cells [x,b1,b2,b3,b4,b5,b6,b7,b8,b9])).push (.cells [a1,a2,.slice m 3 (keys.map eg),a3,a4,a5,a6,a7])).push (.cells [.int .i64 n1,.slice zm zs (ms.map eZ),.int .i64 pr,.int .i64 n2,b])).push (.buf 4 0)).push (.buf 4 0))) ⟨Nat.zero_le _,by repeat first|exact .refl _|refine .push ?_ _,hc0,by simp only [go_sem],by simp only [go_sem],by simp only [go_sem];rfl⟩ ?_ fun a ha=>?_
 ·(simp only [bkq,enterW,bn,ltF,ne_eq,Nat.reduceEqDiff,reduceCtorEq,hc0,hm,aE];try simp (disch:=first|assumption|omega|(simp;done)|(simp;omega)|(simp only [bt,and_true];first|done|omega|(simp;done))) [↓zmk,beq,ybc,ybd,ybe,ae,wk,wk2,wk1,wkM,wkL,ai,ybf,byq,biq,ak,hcl,hc0,hm,aE];try (repeat' (first|assumption|omega|exact True.intro|refine And.intro ?_ ?_|refine af ?_|refine aa ?_|refine ac ?_ ?_|refine ag ?_ ?_|refine ah ?_|exact AHeap.Le.refl _|refine AHeap.Le.push ?_ _|refine AHeap.Le.del ?_ ?_|(simp only [bt,and_true,true_and,hc0,hm,aE];first|done|omega|(simp;done)))))
  simp [bf,cS]
 obtain ⟨k,Hc⟩:=a
 obtain ⟨hk,hle,hcc,g1,g2,g3⟩:=ha
 dsimp only at hk hle hcc g1 g2 g3 ⊢
 have nx3:=AHeap.get_lt g3
 simp only [go_sem]
 refine al (fun hc=>?_) (fun hc=>?_)
 ·have hk1:k<keys.length:=by simp at hc;omega
  have e5:IntKind.i64.wrap ((k:Int)+1)=((k+1:Nat):Int):=by rw [wrap_i64]<;>omega
  have n1':(H.nx+1+1=Hc.nx)=False:=eq_false (by omega)
  have n2':(H.nx+1+1=Hc.nx+1)=False:=eq_false (by omega)
  have n3':(H.nx=Hc.nx)=False:=eq_false (by omega)
  have n4':(H.nx=Hc.nx+1)=False:=eq_false (by omega)
  have n5':(H.nx+1=Hc.nx)=False:=eq_false (by omega)
  have hvl:=@kC keys[k].name keys[k].kind
  obtain ⟨V,hV⟩:∃ V,dD keys[k].name keys[k].kind=V:=⟨_,rfl⟩
  rw [hV] at hvl
  have htv:qC [keys[k]]=V++[jT]:=by simp [qC,hV]
  have e7:IntKind.i64.wrap (((V.length+(0+1):Nat):Int) - 1)=(V.length:Int):=by rw [wrap_i64]<;>omega
  have hvt:(bj (V++[jT])).take V.length=bj V:=by rw [bj,List.map_append,List.take_left' (by rw [ybb])];rfl
  simp only [go_sem,jN,qN hk1,Int.toNat_natCast,g2,ax g2,n1',n2',n5',ybb]
  by_cases hkm:k<ms.length
  ·have d1:decide ((k:Int)<(ms.length:Int))=true:=decide_eq_true (by omega)
   obtain rfl:zs=8:=by rcases hzs with h|h;exact h;rw [h] at hkm;exact absurd hkm (by simp)
   have hgm:=lY (f:=eZ) (l:=ms) (k:=k) (x:=ms[k]) (List.getElem?_eq_getElem hkm)
   simp only [go_sem,g2,ax g2,n1',n2',n5',d1,hgm,eZ,ic,vc,yal,yak,List.append_assoc,Int.toNat_natCast,ybb]
   have hkt:mA fs keys ms k=fo fs keys[k] ms[k]:=by
    unfold mA;rw [List.getElem?_eq_getElem hk1];simp only [List.getD_eq_getElem?_getD,List.getElem?_eq_getElem hkm,Option.getD_some]
   have hkb:(fo fs keys[k] ms[k]).length=V.length:=by rw [← hV];unfold fo dD;rw [ybb,ybb]
   refine ⟨by omega,by omega,[keys[k]],⟨rfl,by simp⟩,?_⟩
   rw [htv]
   simp only [go_sem,aA,List.length_append,yaz,yba,e7,hvt]
   refine ⟨by omega,?_⟩
   have hcq:(((Hc.push (.cells [.str keys[k].name,.int .i64 keys[k].field,.int .i64 keys[k].kind])).push (.cells [.bool ms[k].present,.int .u64 ((ms[k].value/2^64:Nat):Int),.int .u64 ((ms[k].value % 2^64:Nat):Int),.int .u64 ((ms[k].mask/2^64:Nat):Int),.int .u64 ((ms[k].mask % 2^64:Nat):Int),.int .i64 ms[k].pfx,.int .u64 ((ms[k].high/2^64:Nat):Int),.int .u64 ((ms[k].high % 2^64:Nat):Int)])).push (.buf 3 1)).Closed:=af (ac (ac hcc (by simp [znq,znr,znd,znb])) (by simp [znq,znr,znc,znb]))
   refine aJ (A:=Nat × AHeap) (fun a=>[(3,.ptr H.nx 0),(5,.ptr (H.nx+1+1) 0),(7,.slice (.own (H.nx+1+1+1+1)) 4 (bf (cS fs keys ms k++(fo fs keys[k] ms[k]).take a.1))),(9,.ptr Hc.nx 0),(10,.ptr (Hc.nx+1) 0),(15,.slice m 3 (keys.map eg)),(16,.int .i64 (keys.length:Int)),(17,.int .i64 (k:Int)),(40,.slice .any 2 (bj V)),(41,.int .i64 (V.length:Int)),(42,.int .i64 (a.1:Int))]) (fun a=>a.2)
    (fun a=>a.1≤V.length∧H.Le a.2∧a.2.Closed∧a.2.get H.nx=some (.cells [x,b1,b2,b3,b4,b5,b6,b7,b8,b9])∧a.2.get (H.nx+1+1)=some (.cells [.int .i64 n1,.slice zm 8 (ms.map eZ),.int .i64 pr,.int .i64 n2,b])∧a.2.get (H.nx+1+1+1+1)=some (.buf 4 (cS fs keys ms k++(fo fs keys[k] ms[k]).take a.1).length)∧a.2.get Hc.nx=some (.cells [.str keys[k].name,.int .i64 keys[k].field,.int .i64 keys[k].kind])∧a.2.get (Hc.nx+1)=some (.cells [.bool ms[k].present,.int .u64 ((ms[k].value/2^64:Nat):Int),.int .u64 ((ms[k].value % 2^64:Nat):Int),.int .u64 ((ms[k].mask/2^64:Nat):Int),.int .u64 ((ms[k].mask % 2^64:Nat):Int),.int .i64 ms[k].pfx,.int .u64 ((ms[k].high/2^64:Nat):Int),.int .u64 ((ms[k].high % 2^64:Nat):Int)])) (fun a=>V.length - a.1)
    (0,((Hc.push (.cells [.str keys[k].name,.int .i64 keys[k].field,.int .i64 keys[k].kind])).push (.cells [.bool ms[k].present,.int .u64 ((ms[k].value/2^64:Nat):Int),.int .u64 ((ms[k].value % 2^64:Nat):Int),.int .u64 ((ms[k].mask/2^64:Nat):Int),.int .u64 ((ms[k].mask % 2^64:Nat):Int),.int .i64 ms[k].pfx,.int .u64 ((ms[k].high/2^64:Nat):Int),.int .u64 ((ms[k].high % 2^64:Nat):Int)])).push (.buf 3 1)) ⟨Nat.zero_le _,((hle.push _).push _).push _,hcq,?_,?_,?_,by simp only [go_sem],by simp only [go_sem]⟩ ?_ fun a ha=>?_
   ·dsimp only
    rw [AHeap.get_push_lt _ _ (by simp only [zla];omega),AHeap.get_push_lt _ _ (by simp only [zla];omega),AHeap.get_push_lt _ _ (by omega)];exact g1
   ·dsimp only
    rw [AHeap.get_push_lt _ _ (by simp only [zla];omega),AHeap.get_push_lt _ _ (by simp only [zla];omega),AHeap.get_push_lt _ _ (by omega)];exact g2
   ·dsimp only
    rw [AHeap.get_push_lt _ _ (by simp only [zla];omega),AHeap.get_push_lt _ _ (by simp only [zla];omega),AHeap.get_push_lt _ _ (by omega),g3];simp
   ·have hnn:H.nx≤Hc.nx:=by omega
    have hmi:min V.length (bj (V++[jT])).length=V.length:=by rw [aA,List.length_append];omega
    (simp only [bkq,enterW,bn,ltF,ne_eq,Nat.reduceEqDiff,reduceCtorEq,hcq,hm,aE,varsAV_lt,hnn];try simp (disch:=first|assumption|omega|(simp;done)|(simp;omega)|(simp only [bt,and_true];first|done|omega|(simp;done))) [↓zmk,beq,ybc,ybd,ybe,ae,wk,wk2,wk1,wkM,wkL,ai,ybf,byq,biq,ak,hcl,hcq,hm,aE,varsAV_lt,hnn];try (repeat' (first|assumption|omega|exact True.intro|refine And.intro ?_ ?_|refine af ?_|refine aa ?_|refine ac ?_ ?_|refine ag ?_ ?_|refine ah ?_|exact AHeap.Le.refl _|refine AHeap.Le.push ?_ _|refine AHeap.Le.del ?_ ?_|(simp only [bt,and_true,true_and,hcq,hm,aE,varsAV_lt,hnn];first|done|omega|(simp;done)))))
    all_goals rw [hmi]
   obtain ⟨j,Hd⟩:=a
   obtain ⟨hj,hle2,hcd,q1,q2,q3,q4,q5⟩:=ha
   dsimp only at hj hle2 hcd q1 q2 q3 q4 q5 ⊢
   have p3:=AHeap.get_lt q3
   have p4:=AHeap.get_lt q4
   have p5:=AHeap.get_lt q5
   simp only [go_sem]
   refine al (fun hc=>?_) (fun hc=>?_)
   ·have hj1:j<V.length:=by simp at hc;omega
    have e6:IntKind.i64.wrap ((j:Int)+1)=((j+1:Nat):Int):=by rw [wrap_i64]<;>omega
    have hVj:=gy hj1
    have htk:(fo fs keys[k] ms[k]).take (j+1)=(fo fs keys[k] ms[k]).take j++[((V[j].1,V[j].2),gN ms[k] V[j].2 (il fs keys[k].field))]:=by
     rw [List.take_succ_eq_append_getElem (by rw [hkb];exact hj1)]
     congr 1
     subst hV
     simp [fo,dD]
    have r1:(H.nx=Hd.nx)=False:=eq_false (by omega)
    have r2:(Hc.nx=Hd.nx)=False:=eq_false (by omega)
    have r3:(Hc.nx+1=Hd.nx)=False:=eq_false (by omega)
    have r5:(H.nx+1+1+1=Hd.nx)=False:=eq_false (by omega)
    have r4:(H.nx+1+1+1+1=Hd.nx)=False:=eq_false (by omega)
    simp only [go_sem,aA,hVj,Int.toNat_natCast,q1,ax q1,q4,ax q4,q5,ax q5,r1,r2,r3,r4,r5,e6]
    refine ⟨by omega,fs,⟨hx,hfl⟩,?_⟩
    simp only [go_sem,q1,ax q1,q4,ax q4,q5,ax q5,r1,r2,r3,r4,r5,e6]
    refine ⟨ms[k],⟨rfl,hmp _ (List.getElem_mem hkm)⟩,?_⟩
    simp only [go_sem,q1,ax q1,q3,q4,ax q4,q5,ax q5,r1,r2,r3,r4,r5,e6,vv]
    obtain ⟨LL,hLL⟩:∃ LL,cS fs keys ms k++(fo fs keys[k] ms[k]).take j=LL:=⟨_,rfl⟩
    have hll:LL.length≤2*k+2:=by
     have:=@gx fs keys ms k
     rw [← hLL,List.length_append,List.length_take];omega
    have hln:cS fs keys ms k++(fo fs keys[k] ms[k]).take (j+1)=LL++[((V[j].1,V[j].2),gN ms[k] V[j].2 (il fs keys[k].field))]:=by rw [htk,← List.append_assoc,hLL]
    rw [hLL]
    have hsn:=gA (l:=LL) (a:=V[j].1) (b:=V[j].2) (v:=gN ms[k] V[j].2 (il fs keys[k].field))
    refine ⟨⟨by rw [av],by rw [av];omega,by rw [av];omega,fun z hz=>by rw [List.mem_singleton.1 hz];rfl⟩,(j+1,Hd.set (H.nx+1+1+1+1) (.buf 4 (LL.length+1))),⟨by dsimp only;omega,cp hle2 (by omega),aa hcd,?_,?_,?_,?_,?_⟩,by dsimp only;omega,?_⟩
    ·dsimp only
     rw [aR,if_neg (by omega)];exact q1
    ·dsimp only
     rw [aR,if_neg (by omega)];exact q2
    ·dsimp only
     rw [aR,if_pos rfl,if_pos p3,hln];simp
    ·dsimp only
     rw [aR,if_neg (by omega)];exact q4
    ·dsimp only
     rw [aR,if_neg (by omega)];exact q5
    ·have hnn:H.nx≤Hd.nx:=by omega
     have hcs:=@aa Hd (H.nx+1+1+1+1) 4 (LL.length+1) hcd
     dsimp only
     rw [hln,hsn]
     simp only [av]
     (simp only [bkq,enterW,bn,ltF,ne_eq,Nat.reduceEqDiff,reduceCtorEq,hcs,hm,aE,varsAV_lt,hnn];try simp (disch:=first|assumption|omega|(simp;done)|(simp;omega)|(simp only [bt,and_true];first|done|omega|(simp;done))) [↓zmk,beq,ybc,ybd,ybe,ae,wk,wk2,wk1,wkM,wkL,ai,ybf,byq,biq,ak,hcl,hcs,hm,aE,varsAV_lt,hnn];try (repeat' (first|assumption|omega|exact True.intro|refine And.intro ?_ ?_|refine af ?_|refine aa ?_|refine ac ?_ ?_|refine ag ?_ ?_|refine ah ?_|exact AHeap.Le.refl _|refine AHeap.Le.push ?_ _|refine AHeap.Le.del ?_ ?_|(simp only [bt,and_true,true_and,hcs,hm,aE,varsAV_lt,hnn];first|done|omega|(simp;done)))))
   ·have hj1:j=V.length:=by simp at hc;omega
    subst hj1
    simp only [go_sem,e5]
    rw [ybc (by rw [hkb];exact Nat.le_refl _),← hkt] at q3
    rw [ybc (by rw [hkb];exact Nat.le_refl _),← hkt]
    refine ⟨(k+1,Hd),⟨by dsimp only;omega,hle2,hcd,q1,q2,q3⟩,by dsimp only;omega,?_⟩
    have hnn:H.nx≤Hd.nx:=by omega
    (simp only [bkq,enterW,bn,ltF,ne_eq,Nat.reduceEqDiff,reduceCtorEq,hcd,hm,aE,hnn];try simp (disch:=first|assumption|omega|(simp;done)|(simp;omega)|(simp only [bt,and_true];first|done|omega|(simp;done))) [↓zmk,beq,ybc,ybd,ybe,ae,wk,wk2,wk1,wkM,wkL,ai,ybf,byq,biq,ak,hcl,hcd,hm,aE,hnn];try (repeat' (first|assumption|omega|exact True.intro|refine And.intro ?_ ?_|refine af ?_|refine aa ?_|refine ac ?_ ?_|refine ag ?_ ?_|refine ah ?_|exact AHeap.Le.refl _|refine AHeap.Le.push ?_ _|refine AHeap.Le.del ?_ ?_|(simp only [bt,and_true,true_and,hcd,hm,aE,hnn];first|done|omega|(simp;done)))))
    all_goals rfl
  ·have d1:decide ((k:Int)<(ms.length:Int))=false:=decide_eq_false (by omega)
   simp only [go_sem,d1]
   have hkt:mA fs keys ms k=fo fs keys[k] da:=by
    unfold mA;rw [List.getElem?_eq_getElem hk1];simp only [List.getD_eq_getElem?_getD,List.getElem?_eq_none (show ms.length≤k by omega),Option.getD_none]
   have hkb:(fo fs keys[k] da).length=V.length:=by rw [← hV];unfold fo dD;rw [ybb,ybb]
   refine ⟨by omega,[keys[k]],⟨rfl,by simp⟩,?_⟩
   rw [htv]
   simp only [go_sem,aA,List.length_append,yaz,yba,e7,hvt]
   refine ⟨by omega,?_⟩
   have hcq:(((Hc.push (.cells [.str keys[k].name,.int .i64 keys[k].field,.int .i64 keys[k].kind])).push (.cells [.bool false,.int .u64 0,.int .u64 0,.int .u64 0,.int .u64 0,.int .i64 0,.int .u64 0,.int .u64 0])).push (.buf 3 1)).Closed:=af (ac (ac hcc (by simp [znq,znr,znd,znb])) (by simp [znq,znr,znc,znb]))
   refine aJ (A:=Nat × AHeap) (fun a=>[(3,.ptr H.nx 0),(5,.ptr (H.nx+1+1) 0),(7,.slice (.own (H.nx+1+1+1+1)) 4 (bf (cS fs keys ms k++(fo fs keys[k] da).take a.1))),(9,.ptr Hc.nx 0),(10,.ptr (Hc.nx+1) 0),(15,.slice m 3 (keys.map eg)),(16,.int .i64 (keys.length:Int)),(17,.int .i64 (k:Int)),(40,.slice .any 2 (bj V)),(41,.int .i64 (V.length:Int)),(42,.int .i64 (a.1:Int))]) (fun a=>a.2)
    (fun a=>a.1≤V.length∧H.Le a.2∧a.2.Closed∧a.2.get H.nx=some (.cells [x,b1,b2,b3,b4,b5,b6,b7,b8,b9])∧a.2.get (H.nx+1+1)=some (.cells [.int .i64 n1,.slice zm zs (ms.map eZ),.int .i64 pr,.int .i64 n2,b])∧a.2.get (H.nx+1+1+1+1)=some (.buf 4 (cS fs keys ms k++(fo fs keys[k] da).take a.1).length)∧a.2.get Hc.nx=some (.cells [.str keys[k].name,.int .i64 keys[k].field,.int .i64 keys[k].kind])∧a.2.get (Hc.nx+1)=some (.cells [.bool false,.int .u64 0,.int .u64 0,.int .u64 0,.int .u64 0,.int .i64 0,.int .u64 0,.int .u64 0])) (fun a=>V.length - a.1)
    (0,((Hc.push (.cells [.str keys[k].name,.int .i64 keys[k].field,.int .i64 keys[k].kind])).push (.cells [.bool false,.int .u64 0,.int .u64 0,.int .u64 0,.int .u64 0,.int .i64 0,.int .u64 0,.int .u64 0])).push (.buf 3 1)) ⟨Nat.zero_le _,((hle.push _).push _).push _,hcq,?_,?_,?_,by simp only [go_sem],by simp only [go_sem]⟩ ?_ fun a ha=>?_
   ·dsimp only
    rw [AHeap.get_push_lt _ _ (by simp only [zla];omega),AHeap.get_push_lt _ _ (by simp only [zla];omega),AHeap.get_push_lt _ _ (by omega)];exact g1
   ·dsimp only
    rw [AHeap.get_push_lt _ _ (by simp only [zla];omega),AHeap.get_push_lt _ _ (by simp only [zla];omega),AHeap.get_push_lt _ _ (by omega)];exact g2
   ·dsimp only
    rw [AHeap.get_push_lt _ _ (by simp only [zla];omega),AHeap.get_push_lt _ _ (by simp only [zla];omega),AHeap.get_push_lt _ _ (by omega),g3];simp
   ·have hnn:H.nx≤Hc.nx:=by omega
    have hmi:min V.length (bj (V++[jT])).length=V.length:=by rw [aA,List.length_append];omega
    (simp only [bkq,enterW,bn,ltF,ne_eq,Nat.reduceEqDiff,reduceCtorEq,hcq,hm,aE,varsAV_lt,hnn];try simp (disch:=first|assumption|omega|(simp;done)|(simp;omega)|(simp only [bt,and_true];first|done|omega|(simp;done))) [↓zmk,beq,ybc,ybd,ybe,ae,wk,wk2,wk1,wkM,wkL,ai,ybf,byq,biq,ak,hcl,hcq,hm,aE,varsAV_lt,hnn];try (repeat' (first|assumption|omega|exact True.intro|refine And.intro ?_ ?_|refine af ?_|refine aa ?_|refine ac ?_ ?_|refine ag ?_ ?_|refine ah ?_|exact AHeap.Le.refl _|refine AHeap.Le.push ?_ _|refine AHeap.Le.del ?_ ?_|(simp only [bt,and_true,true_and,hcq,hm,aE,varsAV_lt,hnn];first|done|omega|(simp;done)))))
    all_goals rw [hmi]
   obtain ⟨j,Hd⟩:=a
   obtain ⟨hj,hle2,hcd,q1,q2,q3,q4,q5⟩:=ha
   dsimp only at hj hle2 hcd q1 q2 q3 q4 q5 ⊢
   have p3:=AHeap.get_lt q3
   have p4:=AHeap.get_lt q4
   have p5:=AHeap.get_lt q5
   simp only [go_sem]
   refine al (fun hc=>?_) (fun hc=>?_)
   ·have hj1:j<V.length:=by simp at hc;omega
    have e6:IntKind.i64.wrap ((j:Int)+1)=((j+1:Nat):Int):=by rw [wrap_i64]<;>omega
    have hVj:=gy hj1
    have htk:(fo fs keys[k] da).take (j+1)=(fo fs keys[k] da).take j++[((V[j].1,V[j].2),gN da V[j].2 (il fs keys[k].field))]:=by
     rw [List.take_succ_eq_append_getElem (by rw [hkb];exact hj1)]
     congr 1
     subst hV
     simp [fo,dD]
    have r1:(H.nx=Hd.nx)=False:=eq_false (by omega)
    have r2:(Hc.nx=Hd.nx)=False:=eq_false (by omega)
    have r3:(Hc.nx+1=Hd.nx)=False:=eq_false (by omega)
    have r5:(H.nx+1+1+1=Hd.nx)=False:=eq_false (by omega)
    have r4:(H.nx+1+1+1+1=Hd.nx)=False:=eq_false (by omega)
    simp only [go_sem,aA,hVj,Int.toNat_natCast,q1,ax q1,q4,ax q4,q5,ax q5,r1,r2,r3,r4,r5,e6]
    refine ⟨by omega,fs,⟨hx,hfl⟩,?_⟩
    simp only [go_sem,q1,ax q1,q4,ax q4,q5,ax q5,r1,r2,r3,r4,r5,e6]
    refine ⟨da,⟨rfl,by decide⟩,?_⟩
    simp only [go_sem,q1,ax q1,q3,q4,ax q4,q5,ax q5,r1,r2,r3,r4,r5,e6,vv]
    obtain ⟨LL,hLL⟩:∃ LL,cS fs keys ms k++(fo fs keys[k] da).take j=LL:=⟨_,rfl⟩
    have hll:LL.length≤2*k+2:=by
     have:=@gx fs keys ms k
     rw [← hLL,List.length_append,List.length_take];omega
    have hln:cS fs keys ms k++(fo fs keys[k] da).take (j+1)=LL++[((V[j].1,V[j].2),gN da V[j].2 (il fs keys[k].field))]:=by rw [htk,← List.append_assoc,hLL]
    rw [hLL]
    have hsn:=gA (l:=LL) (a:=V[j].1) (b:=V[j].2) (v:=gN da V[j].2 (il fs keys[k].field))
    refine ⟨⟨by rw [av],by rw [av];omega,by rw [av];omega,fun z hz=>by rw [List.mem_singleton.1 hz];rfl⟩,(j+1,Hd.set (H.nx+1+1+1+1) (.buf 4 (LL.length+1))),⟨by dsimp only;omega,cp hle2 (by omega),aa hcd,?_,?_,?_,?_,?_⟩,by dsimp only;omega,?_⟩
    ·dsimp only
     rw [aR,if_neg (by omega)];exact q1
    ·dsimp only
     rw [aR,if_neg (by omega)];exact q2
    ·dsimp only
     rw [aR,if_pos rfl,if_pos p3,hln];simp
    ·dsimp only
     rw [aR,if_neg (by omega)];exact q4
    ·dsimp only
     rw [aR,if_neg (by omega)];exact q5
    ·have hnn:H.nx≤Hd.nx:=by omega
     have hcs:=@aa Hd (H.nx+1+1+1+1) 4 (LL.length+1) hcd
     dsimp only
     rw [hln,hsn]
     simp only [av]
     (simp only [bkq,enterW,bn,ltF,ne_eq,Nat.reduceEqDiff,reduceCtorEq,hcs,hm,aE,varsAV_lt,hnn];try simp (disch:=first|assumption|omega|(simp;done)|(simp;omega)|(simp only [bt,and_true];first|done|omega|(simp;done))) [↓zmk,beq,ybc,ybd,ybe,ae,wk,wk2,wk1,wkM,wkL,ai,ybf,byq,biq,ak,hcl,hcs,hm,aE,varsAV_lt,hnn];try (repeat' (first|assumption|omega|exact True.intro|refine And.intro ?_ ?_|refine af ?_|refine aa ?_|refine ac ?_ ?_|refine ag ?_ ?_|refine ah ?_|exact AHeap.Le.refl _|refine AHeap.Le.push ?_ _|refine AHeap.Le.del ?_ ?_|(simp only [bt,and_true,true_and,hcs,hm,aE,varsAV_lt,hnn];first|done|omega|(simp;done)))))
   ·have hj1:j=V.length:=by simp at hc;omega
    subst hj1
    simp only [go_sem,e5]
    rw [ybc (by rw [hkb];exact Nat.le_refl _),← hkt] at q3
    rw [ybc (by rw [hkb];exact Nat.le_refl _),← hkt]
    refine ⟨(k+1,Hd),⟨by dsimp only;omega,hle2,hcd,q1,q2,q3⟩,by dsimp only;omega,?_⟩
    have hnn:H.nx≤Hd.nx:=by omega
    (simp only [bkq,enterW,bn,ltF,ne_eq,Nat.reduceEqDiff,reduceCtorEq,hcd,hm,aE,hnn];try simp (disch:=first|assumption|omega|(simp;done)|(simp;omega)|(simp only [bt,and_true];first|done|omega|(simp;done))) [↓zmk,beq,ybc,ybd,ybe,ae,wk,wk2,wk1,wkM,wkL,ai,ybf,byq,biq,ak,hcl,hcd,hm,aE,hnn];try (repeat' (first|assumption|omega|exact True.intro|refine And.intro ?_ ?_|refine af ?_|refine aa ?_|refine ac ?_ ?_|refine ag ?_ ?_|refine ah ?_|exact AHeap.Le.refl _|refine AHeap.Le.push ?_ _|refine AHeap.Le.del ?_ ?_|(simp only [bt,and_true,true_and,hcd,hm,aE,hnn];first|done|omega|(simp;done)))))
    all_goals rfl
 ·have hk1:k=keys.length:=by simp at hc;omega
  subst hk1
  have hbl:=@gx fs keys ms keys.length
  simp only [go_sem,g2,ax g2,g3,pO,av,vv]
  refine ⟨hpr,?_⟩
  have n6:(H.nx+1+1+1+1=Hc.nx)=False:=eq_false (by omega)
  have hsn:=gA (l:=cS fs keys ms keys.length) (a:=[112,114,105,111,114,105,116,121]) (b:=[]) (v:=pr.toNat)
  have htb:qm fs keys ms pr=cS fs keys ms keys.length++[(([112,114,105,111,114,105,116,121],[]),pr.toNat)]:=rfl
  rw [htb]
  generalize cS fs keys ms keys.length=G at *
  simp only [n6,if_false]
  refine ⟨⟨trivial,by omega,by omega,fun z hz=>by rw [List.mem_singleton.1 hz];rfl⟩,?_⟩
  rw [hsn]
  have hle3:=(cp hle (show H.nx≤(H.nx+1+1+1+1) by omega) (o:=.buf 4 (G.length+1))).push (.buf 4 1)
  simp (disch:=first|assumption|omega|(simp;done)|(simp;omega)|(simp only [bt,and_true];first|done|omega|(simp;done))) [↓zmk,beq,ybc,ybd,ybe,ae,wk,wk2,wk1,wkM,wkL,ai,ybf,hcl,hle3,aE]
end Go.AL
