/- Lemmas of the proof; no condition. -/
import Derived.Test.YthnlhjalhflgfaaGreatE05s
import Derived.Test.YthnlhjalhflgfaaGreatE05e
import Derived.Test.YthnlhjalhflgfaaGreatLChain
set_option linter.all false
set_option maxRecDepth 10000
set_option maxHeartbeats 32000000
open Go Go.AL Go.Proofs
namespace Go.AL
def rdR (S:Sch) (out:List Nat) (x:STable) (r:SRef):Bool:=(r.table != x.id)||out.contains (ixT S r.toTable)
def Hm:PCt
 |[x,.ptr c 0,.ptr ci 0,.ptr co 0],H,K=>∃ (r:SRef) (S:Sch) (out:List Nat) (i:Nat) (t:STable) (m:Mark),(x=a9 r∧H.get c=some (.cells (aR S))∧H.get ci=some (.cells [.int .i64 (i:Int)])∧H.get co=some (.cells [.slice m 1 (inL (iN out))])∧SLen S∧S.tables[i]?=some t∧r.toTable∈fE S∧out.length≤1000000)∧K (.bool (rdR S out t r))
 |_,_,_=>False
theorem M6:EPp 53 Hm:=by
 refine Ype fun _ H K h=>?_
 unfold Hm at h
 split at h<;>try exact h.elim
 rename_i x c ci co
 obtain ⟨r,S,out,i,t,m,⟨rfl,hg,hgi,hgo,hS,ht,hr,hol⟩,hK⟩:=h
 refine ⟨_,hK,?_⟩
 clear hK
 have hl:=glq hg
 have hli:=glq hgi
 have hlo:=glq hgo
 have hne:(c=H.nx)=False:=eFo
 have hnei:(ci=H.nx)=False:=eFo
 have hneo:(co=H.nx)=False:=eFo
 have hcs:=aM hg
 have hci:=aM hgi
 have hco:=aM hgo
 have hgt:=aV (f:=ax) ht
 have hil:=(List.getElem?_eq_some_iff.1 ht).1
 have ixt:=xB hr
 generalize hR:rdR S out t r=R
 unfold rdR at hR
 unfold a9
 unfold aR at hg hcs
 refine Yfw aE (tCq nG (tCq gO tNq)) Tryz.func53 [.tmp 5] (nrq _) (T:=aB [(1,[[],[],[],[],[],[],[],[],[],[],[],[],[],[],[1,3,4,7,11,13],[1,3,4,7,10,11,13,14]])]) (h:=fun hcl=>?_)
 replace hgt:_=AV.agg [.int .i64 t.id,.str t.name,.slice .any 3 (t.keys.map ba),.slice .any 1 (inL t.actions),.int .i64 t.dflt,.slice .any 2 (t.dargs.map vv),.int .i64 t.size,.str t.restr]:=hgt
 simp only [go_sem,hcs,hne,hg,hnei,hci,hneo,hco,hgt,iNq,ybb,gA,d9]
 refine Tq3 ?_
 cases c1:(r.table != t.id) with
 |true =>
  rw [c1,Bool.true_or] at hR
  subst hR
  exact Y135
 |false =>
  rw [c1,Bool.false_or] at hR
  subst hR
  simp only [go_sem,hcs,hne,hg,hnei,hci,hneo,hco,c1,gA,d9]
  refine ⟨S,⟨rfl,hS.tl⟩,?_⟩
  rw [ixt]
  try simp only [go_sem,hcs,hne,hg,hnei,hci,hneo,hco,c1,gA,d9]
  refine ⟨iN out,⟨rfl,by rw [pr];exact hol⟩,?_⟩
  rw [ub]
  exact Y135
def rdQ (S:Sch) (out:List Nat) (i:Nat):Bool:=oJ (kh S.refs) (fE S) (ixT S) out i
theorem P6 {S:Sch} {out:List Nat} {i:Nat} {t:STable} (ht:S.tables[i]?=some t):rdQ S out i=(!(out.contains i)&&S.refs.all (rdR S out t)):=by
 have hgD:(fE S).getD i 0=t.id:=by
  unfold fE
  rw [gEq,List.getElem?_map,ht];rfl
 unfold rdQ oJ kh
 rw [List.all_map,hgD]
 congr 1
def BN:PCt
 |[.int .i64 i,.ptr co 0,.ptr c 0],H,K=>∃ (S:Sch) (out:List Nat) (k:Nat) (t:STable) (m:Mark),(i=(k:Int)∧H.get c=some (.cells (aR S))∧H.get co=some (.cells [.slice m 1 (inL (iN out))])∧SB S∧ov S∧S.tables[k]?=some t∧out.length≤1000000)∧K (.bool (rdQ S out k))
 |_,_,_=>False
theorem OS:EPp 50 BN:=by
 refine Ype fun _ H K h=>?_
 unfold BN at h
 split at h<;>try exact h.elim
 rename_i i co c
 obtain ⟨S,out,k,t,m,⟨rfl,hg,hgo,hB,hI,ht,hol⟩,hK⟩:=h
 refine ⟨_,hK,?_⟩
 clear hK
 have hS:=hB.sl
 have hl:=glq hg
 have hlo:=glq hgo
 have hne:(c=H.nx)=False:=eFo
 have hneo:(co=H.nx)=False:=eFo
 have hcs:=aM hg
 have hco:=aM hgo
 have hg0:=hg
 unfold aR at hg hcs
 generalize hR:rdQ S out k=R
 rw [P6 ht] at hR
 refine Yfu aE (tCq nG (tCq oO tNq)) Tryz.func50 [.tmp 4] fun hcl=>?_
 simp only [go_sem,hcs,hne,hg,hneo,hco,iNq,ybb,gA]
 refine ⟨iN out,⟨rfl,by rw [pr];exact hol⟩,?_⟩
 rw [ub]
 cases c1:out.contains k with
 |true =>
  rw [c1,Bool.not_true,Bool.false_and] at hR
  subst hR
  exact Y135
 |false =>
  rw [c1,Bool.not_false,Bool.true_and] at hR
  simp only [go_sem,hcs,hne,hg,hneo,hco,c1,cL]
  refine ⟨S.refs,rdR S out t,⟨rfl,hB.xl,fun x hx H' hle' hcl'=>clB M6 ⟨x,S,out,k,t,m,⟨rfl,hle'.get _ _ (by simp only [go_sem,hne,hg];rfl),hle'.get _ _ (by simp only [go_sem]),hle'.get _ _ (by simp only [go_sem,hneo,hgo]),hS,ht,(hI x hx).2,hol⟩,rfl⟩⟩,?_⟩
  rw [hR]
  exact Y135
theorem Ss {H:AHeap} (hcl:H.Closed) (S:Sch) (o:List Nat):((((H.push (.cells [.slice .any 3 (S.fields.map aG),.slice .any 3 (S.headers.map az),.slice .any 5 (S.states.map aA),.slice .any 5 (S.actions.map ap),.slice .any 8 (S.tables.map ax),.slice .any 2 (S.stages.map aO),.slice .any 6 (S.roles.map aN),.slice .any 6 (S.refs.map a9),.int .i64 S.maxBatch,.int .i64 S.budget])).push (.buf 1 0)).push (.cells [.slice (.own (H.nx+1+1+1)) 1 (inL (iN o))])).push (.buf 1 o.length)).Closed:=by
 have h1:=bG (i:=H.nx+1+1) (cs:=[.slice (.own (H.nx+1+1+1)) 1 (inL (iN o))]) (bc (a:=1) (b:=o.length) (ah (cs:=[]) (bc (a:=1) (b:=0) (ah hcl (nJ S))) trivial)) (by
  simp only [znu,znv,and_true,zle]
  rw [AV.lt]
  exact ⟨fun id e=>by cases e;omega,fun j hj=>by simp only [inL,List.getElem_map,znf]⟩)
 simp only [go_sem] at h1
 exact h1
theorem RW {n f a b:Nat} (h:a<n) (h2:b<n):AV.lt n (.func (.func f) [] [.ptr a 0,.ptr b 0]):=by
 rw [AV.lt]
 refine ⟨fun j hj=>absurd hj (by simp),fun j hj=>?_⟩
 have:j=0∨j=1:=by simp only [yaz,yba] at hj;omega
 rcases this with rfl|rfl
 ·simpa [znn] using h
 ·simpa [znn] using h2
def Ar:PCt
 |[.agg l],_,K=>∃ S:Sch,(l=aR S∧SB S∧ov S)∧K (.slice .any 1 (inL (iN (l8 S))))
 |_,_,_=>False
theorem NI:EPp 17 Ar:=by
 refine Ype fun _ H K h=>?_
 unfold Ar at h
 split at h<;>try exact h.elim
 rename_i l
 obtain ⟨S,⟨rfl,hB,hI⟩,hK⟩:=h
 refine ⟨_,hK,?_⟩
 clear hK
 have sl:=hB.sl
 have htl:=sl.tl
 obtain ⟨O,hO⟩:∃ O,l8 S=O:=⟨_,rfl⟩
 rw [hO]
 have hR:nT (rdQ S) S.tables.length S.tables.length []=O:=by rw [← hO];rfl
 clear hO
 refine Yfw aE (tCq OS tNq) Tryz.func17 [.tmp 2] (nrq _) (T:=aB [(3,[[1]])]) (h:=fun hcl=>?_)
 unfold aR
 refine Tq15 ?_
 refine r8 3 0 1 (cs:=[AV.slice .nil 1 []]) rfl (by simp only [go_sem]) rfl ?_
 have hcO:=fun o=>Ss hcl S o
 have hF:∀ n',H.nx+1+1+1≤n'→AV.lt n' (.func (.func 50) [] [.ptr (H.nx+1+1) 0,.ptr H.nx 0]):=fun n' hn=>RW (by omega) (by omega)
 simp only [bhq,Nat.reduceMod,Nat.reduceDiv,aW,aX,aZ,bx,aY,bw,bo,bp,bv,yaq,yar,yao,yap,go_sem,List.set_cons_zero,ybb]
 refine aC (A:=Nat × List Nat) (fun a=>[(1,.ptr H.nx 0),(3,.ptr (H.nx+1+1) 0),(4,.func (.func 50) [] [.ptr (H.nx+1+1) 0,.ptr H.nx 0]),(9,.int .i64 (S.tables.length:Int)),(10,.int .i64 (a.1:Int))]) (fun a=>((((H.push (.cells [.slice .any 3 (S.fields.map aG),.slice .any 3 (S.headers.map az),.slice .any 5 (S.states.map aA),.slice .any 5 (S.actions.map ap),.slice .any 8 (S.tables.map ax),.slice .any 2 (S.stages.map aO),.slice .any 6 (S.roles.map aN),.slice .any 6 (S.refs.map a9),.int .i64 S.maxBatch,.int .i64 S.budget])).push (.buf 1 0)).push (.cells [.slice (.own (H.nx+1+1+1)) 1 (inL (iN a.2))])).push (.buf 1 (a.2).length))) (fun a=>a.1≤S.tables.length∧nT (rdQ S) S.tables.length (S.tables.length - a.1) a.2=O∧a.2.length≤a.1) (fun a=>S.tables.length - a.1) (0,[]) ⟨Nat.zero_le _,hR,nrq _⟩ ?_ fun a ha=>?_
 ·refine ⟨by (try simp only [zkq,zkv,zle]);omega,lRq _,hcO [],?_,?_⟩
  ·exact Y132
  ·exact Y13
 obtain ⟨k,out⟩:=a
 obtain ⟨hk,hRn,hol⟩:=ha
 dsimp only at hk hRn hol ⊢
 clear hR
 refine Tq15 ?_
 refine au (fun hc=>?_) (fun hc=>?_)
 ·have hk':k<S.tables.length:=sHc
  clear hc
  have ek:IntKind.i64.wrap ((k:Int)+1)=((k+1:Nat):Int):=by rw [wrap_i64]<;>omega
  rw [show S.tables.length - k=(S.tables.length - (k+1))+1 by omega,nT,De] at hRn
  simp only [go_sem,ybb]
  obtain ⟨FR,hFR⟩:∃ FR,fnd (rdQ S out) S.tables.length S.tables.length 0=FR:=⟨_,rfl⟩
  rw [hFR] at hRn
  refine aC (A:=Nat) (fun i=>[(1,.ptr H.nx 0),(3,.ptr (H.nx+1+1) 0),(4,.func (.func 50) [] [.ptr (H.nx+1+1) 0,.ptr H.nx 0]),(9,.int .i64 (S.tables.length:Int)),(10,.int .i64 (k:Int)),(14,.int .i64 (S.tables.length:Int)),(15,.int .i64 (i:Int))]) (fun _=>((((H.push (.cells [.slice .any 3 (S.fields.map aG),.slice .any 3 (S.headers.map az),.slice .any 5 (S.states.map aA),.slice .any 5 (S.actions.map ap),.slice .any 8 (S.tables.map ax),.slice .any 2 (S.stages.map aO),.slice .any 6 (S.roles.map aN),.slice .any 6 (S.refs.map a9),.int .i64 S.maxBatch,.int .i64 S.budget])).push (.buf 1 0)).push (.cells [.slice (.own (H.nx+1+1+1)) 1 (inL (iN out))])).push (.buf 1 (out).length)))
   (fun i=>i≤S.tables.length∧fnd (rdQ S out) S.tables.length (S.tables.length - i) i=FR) (fun i=>S.tables.length - i) 0 ⟨Nat.zero_le _,hFR⟩ ?_ fun i hi=>?_
  ·refine eNt (hcO out) ?_ ?_
   ·exact Y132
   ·exact Y13
  clear hFR
  obtain ⟨hi,hFR⟩:=hi
  refine Tq15 ?_
  refine au (fun hc=>?_) (fun hc=>?_)
  ·have hi':i<S.tables.length:=sHc
   clear hc
   have ei:IntKind.i64.wrap ((i:Int)+1)=((i+1:Nat):Int):=by rw [wrap_i64]<;>omega
   rw [show S.tables.length - i=(S.tables.length - (i+1))+1 by omega,fnd,if_pos hi'] at hFR
   simp only [bm,aD,bhq,Nat.reduceMod,Nat.reduceDiv,aW,aX,aZ,bx,aY,bw,bo,bp,bv,yaq,yar,yao,yap,go_sem,BN,ei,ek]
   refine ⟨S,out,i,S.tables[i],.own (H.nx+1+1+1),⟨rfl,rfl,rfl,hB,hI,gQq hi',by omega⟩,?_⟩
   cases hq:rdQ S out i with
   |true =>
    rw [hq,if_pos rfl] at hFR
    subst hFR
    have hsn:inL (iN out)++[.int .i64 (i:Int)]=inL (iN (out++[i])):=by simp [inL,iN]
    have hln:(inL (iN out)).length=out.length:=by simp [inL,iN]
    have hl2:(out++[i]).length=out.length+1:=by simp
    simp only [bm,aD,bhq,Nat.reduceMod,Nat.reduceDiv,aW,aX,aZ,bx,aY,bw,bo,bp,bv,yaq,yar,yao,yap,go_sem,ei,ek,hsn,hln]
    refine ⟨⟨by omega,by omega,fun z hz=>by rw [List.mem_singleton.1 hz];rfl⟩,(k+1,out++[i]),⟨by dsimp only;omega,hRn,by dsimp only;omega⟩,by dsimp only;omega,?_⟩
    dsimp only
    rw [hl2]
    refine eNt (by have:=hcO (out++[i]);rwa [hl2] at this) ?_ ?_
    ·exact Y132
    ·exact Y13
   |false =>
    rw [hq,if_neg Bool.false_ne_true] at hFR
    simp only [bm,aD,bhq,Nat.reduceMod,Nat.reduceDiv,aW,aX,aZ,bx,aY,bw,bo,bp,bv,yaq,yar,yao,yap,go_sem,ei,ek]
    refine ⟨i+1,⟨by omega,hFR⟩,by omega,?_⟩
    refine eNt (hcO _) ?_ ?_
    ·exact Y132
    ·exact Y13
  ·have hi':i=S.tables.length:=sHc
   subst hi'
   rw [Nat.sub_self,fnd] at hFR
   subst hFR
   simp only [bm,aD,bhq,Nat.reduceMod,Nat.reduceDiv,aW,aX,aZ,bx,aY,bw,bo,bp,bv,yaq,yar,yao,yap,go_sem,ek]
   refine ⟨(k+1,out),⟨by dsimp only;omega,hRn,by dsimp only;omega⟩,by dsimp only;omega,?_⟩
   refine eNt (hcO _) ?_ ?_
   ·exact Y132
   ·exact Y13
 ·have hk':k=S.tables.length:=sHc
  subst hk'
  rw [Nat.sub_self,nT] at hRn
  subst hRn
  refine Tq20 ?_
  refine ⟨?_,by repeat first|exact .refl _|refine .push ?_ _,hcl,?_⟩
  ·simp [wk,wk2,wk1,wkM]
  ·rw [cC]
   exact ⟨by simp,ltL_iff.2 fun j hj=>by simp only [inL,List.getElem_map,znf]⟩
theorem NO {S:Sch} (h:x6 S=0):nS S=true:=by
 cases ha:nS S with
 |true=>rfl
 |false =>
  unfold x6 at h
  rw [ha] at h
  split at h
  ·rename_i h1;rw [h] at h1;cases h1
  ·exfalso
   revert h
   (repeat' split)<;>first|(simp;done)|(rename_i h9;exact absurd rfl h9)
theorem K0 {S:Sch} (h:SmP 40 100000 S):SB S:=by
 have he:=bJ
 have ok:∀ {s:List UInt8},oB s→s.length≤140737488355328:=fun h=>by unfold oB at h;omega
 refine ⟨⟨by have:=h.f.1;omega,by have:=h.h.1;omega,by have:=h.s.1;omega,by have:=h.a.1;omega,by have:=h.t.1;omega,by have:=h.r.1;omega⟩,by have:=h.g;omega,by have:=h.x;omega,fun x hx=>ok (h.f.2 x hx),fun x hx=>⟨ok (h.h.2 x hx).1,by have:=(h.h.2 x hx).2;omega⟩,fun x hx=>by have:=(h.s.2 x hx).1;omega,fun x hx=>?_,fun x hx=>?_,fun x hx=>?_⟩
 ·obtain ⟨⟨a1,a2,_,_⟩,a3,a4⟩:=h.a.2 x hx
  exact ⟨ok a1,by omega,by omega,fun p hp=>ok (a2 p hp)⟩
 ·obtain ⟨⟨a1,a2,_,_⟩,a3,a4,a5⟩:=h.t.2 x hx
  exact ⟨ok a1,by omega,by omega,by omega,fun p hp=>ok (a2 p hp)⟩
 ·obtain ⟨a1,a3,a4,a5⟩:=h.r.2 x hx
  exact ⟨ok a1,by omega,by omega,fun p hp=>by have:=a5 p hp;omega⟩
theorem CT (b:List UInt8) (v:Nat):fE (gL b v).1=[1,2,3,4]:=rfl
theorem B4 (b:List UInt8) (v:Nat):∀ r∈(gL b v).1.refs,(r.table=2∨r.table=3∨r.table=4)∧r.toTable=1:=by
 unfold gL
 dsimp only
 intro r hr
 rw [List.mem_append,List.mem_append] at hr
 rcases hr with (hr|hr)|hr<;>split at hr<;>simp only [List.mem_cons,List.not_mem_nil,or_false] at hr
 ·subst hr;exact ⟨.inl rfl,rfl⟩
 ·subst hr;exact ⟨.inr (.inl rfl),rfl⟩
 ·rcases hr with rfl|rfl<;>exact ⟨.inr (.inr rfl),rfl⟩
structure GoodR (S T:Sch):Prop where
 eq:∃ R,T={ S with refs:=R }
 len:T.refs.length≤1001
 mem:∀ r∈T.refs,(1≤r.table∧r.table≤4)∧1≤r.toTable∧r.toTable≤4
 acy:nS T=true
theorem RD {S:Sch} (h:fE S=[1,2,3,4]) {n:Int} (h1:1≤n∧n≤4):n∈fE S:=by
 rw [h]
 have:n=1∨n=2∨n=3∨n=4:=by omega
 rcases this with rfl|rfl|rfl|rfl<;>simp
theorem Kr {S:Sch} (h:fE S=[1,2,3,4]) (hm:∀ r∈S.refs,(1≤r.table∧r.table≤4)∧1≤r.toTable∧r.toTable≤4):ov S:=fun r hr=>⟨RD h (hm r hr).1,RD h (hm r hr).2⟩
theorem RL (b:List UInt8) (v:Nat):GoodR (gL b v).1 (gL b v).1:=by
 have hm:∀ r∈(gL b v).1.refs,(1≤r.table∧r.table≤4)∧1≤r.toTable∧r.toTable≤4:=fun r hr=>by
  have:=B4 b v r hr
  omega
 refine ⟨⟨_,rfl⟩,Nat.le_succ_of_le (tT b v).x,hm,(Fz (Kr (CT b v) hm)).2 ⟨fun n=>if n=1 then 0 else 1,fun r hr=>?_⟩⟩
 obtain ⟨h1,h2⟩:=B4 b v r hr
 dsimp only
 rw [h2,if_pos rfl,if_neg (by omega)]
 omega
theorem G4 {S:Sch} (hr:ov S) (hn:(fE S).Nodup) (ha:nS S=true):(l8 S).length=S.tables.length∧(∀ i∈l8 S,i<S.tables.length)∧(l8 S).Nodup∧(∀ i,i<S.tables.length→i∈l8 S)∧∀ r∈S.refs,(l8 S).idxOf (ixT S r.toTable)<(l8 S).idxOf (ixT S r.table):=by
 have hl:(fE S).length=S.tables.length:=ybb _
 have hx:=yf hn
 have hle:(l8 S).length≤S.tables.length:=by
  exact Y136
 have h1:=Cd hr hn
 rw [ha] at h1
 have hf:(l8 S).length=S.tables.length:=by
  have:=of_decide_eq_false h1
  omega
 have hrd:Rdy (oJ (kh S.refs) (fE S) (ixT S)) (fE S).length (l8 S):=by
  rw [hl]
  exact uu _ .nil
 obtain ⟨a1,a2,a3⟩:=CN hrd
 rw [hl] at a2
 have hall:∀ i,i<S.tables.length→i∈l8 S:=by
  intro i hil
  refine Classical.byContradiction fun hn=>?_
  have:=qQ (l:=i::l8 S) (o:=List.range S.tables.length) (List.nodup_cons.2 ⟨hn,a1⟩) (fun x hx=>by
   rcases List.mem_cons.1 hx with rfl|hx
   ·exact List.mem_range.2 hil
   ·exact List.mem_range.2 (a2 x hx))
  rw [yaz,List.length_range] at this
  omega
 refine ⟨hf,a2,a1,hall,fun r hr'=>?_⟩
 obtain ⟨g1,g2⟩:=hx.lt r.table (hr r hr').1
 rw [hl] at g1
 exact (a3 _ (hall _ g1) (r.table,r.toTable) (List.mem_map.2 ⟨r,hr',rfl⟩) g2.symm).2
def qG (O:List Nat) (n j:Nat):List Int:=(List.range n).map fun k=>if O.idxOf k<j then ((O.idxOf k:Nat):Int) else 0
theorem CJ {O:List Nat} {n j:Nat}:(qG O n j).length=n:=by simp [qG]
theorem GV {O:List Nat} {n:Nat}:qG O n 0=List.replicate n 0:=by
 unfold qG
 refine List.ext_getElem (by simp) fun i h1 h2=>?_
 rw [List.getElem_map,List.getElem_replicate,if_neg (Nat.not_lt_zero _)]
theorem NZ {O:List Nat} {n j:Nat} (hn:O.Nodup) (hj:j<O.length):(qG O n j).set (O[j]) (j:Int)=qG O n (j+1):=by
 have hi:O.idxOf O[j]=j:=hn.idxOf_getElem j hj
 unfold qG
 refine List.ext_getElem (by simp) fun i h1 h2=>?_
 rw [List.getElem_set,List.getElem_map,List.getElem_map,List.getElem_range]
 by_cases he:O[j]=i
 ·subst he
  rw [if_pos rfl,hi,if_pos (by omega)]
 ·rw [if_neg he]
  by_cases h3:O.idxOf i<j
  ·rw [if_pos h3,if_pos (by omega)]
  ·rw [if_neg h3]
   by_cases h4:O.idxOf i<j+1
   ·exfalso
    have h5:O.idxOf i=j:=by omega
    have h6:O.idxOf i<O.length:=by omega
    have h7:=List.getElem_idxOf h6
    apply he
    rw [← h7]
    congr 1
    exact h5.symm
   ·rw [if_neg h4]
theorem LS {O:List Nat} {n k:Nat} (hk:k<n) (h:O.idxOf k<n):(qG O n n).getD k 0=((O.idxOf k:Nat):Int):=by
 unfold qG
 rw [gEq,List.getElem?_map,List.getElem?_range hk]
 simp [h]
def p7:PCt
 |[.slice _ 1 l1,.int .i64 a,.int .i64 b],_,K=>(isB l1∧i64 a∧i64 b)∧K (.bool true)
 |_,_,_=>False
theorem ok_CheckOrders:EPp 7 p7:=by
 refine Ype fun _ H K h=>?_
 unfold p7 at h
 split at h<;>try exact h.elim
 rename_i m1 l1 a b
 obtain ⟨⟨c1,ha,hb⟩,hK⟩:=h
 refine ⟨_,hK,?_⟩
 clear hK
 obtain ⟨x1,rfl⟩:=iu c1
 obtain ⟨B1,hB1⟩:∃ B1,x1.take (min (x1.length:Int) 120).toNat=B1:=⟨_,rfl⟩
 have hL1:B1.length≤1000000:=by rw [← hB1,List.length_take];omega
 have hz1:zod B1 0=gI B1 (cp 0 0):=wd
 have hSm:=tT B1 0
 have hG0:=RL B1 0
 have hT0:=CT B1 0
 generalize hSS:gL B1 0=SS at *
 obtain ⟨S,w1⟩:=SS
 dsimp only at hSm hG0 hT0
 refine Yfw aE (tCq Dh (tCq uS (tCq MJ (tCq Og (tCq NI (tCq B3 (tCq gO (tCq BC tNq)))))))) Tryz.func7 [.tmp 6] (nrq _) (T:=aB [(7,[[],[0],[],[0,1,2]]),(21,[[],[],[],[],[1,3],[],[4],[],[],[],[],[1,3,4,8,10],[],[4,11]]),(5,[[1]]),(407,[[0]])]) (h:=fun hcl=>?_)
 unfold i64 at ha hb
 have hSch:pF=eG fun b v=>(eE (gL b v).1,(gL b v).2):=rfl
 simp only [go_sem,vE]
 refine ⟨x1,⟨rfl,by decide⟩,?_⟩
 rw [hB1,hz1]
 apply iG (α:=Sch) (fun _=>[(7,.ptr (H.nx+1) 0)]) (fun T=>(H.push (gI B1 w1)).push (.cells (aR T))) (fun T=>GoodR S T)
 ·intro J
  simp only [bm,aD,bhq,Nat.reduceMod,Nat.reduceDiv,aW,aX,aZ,bx,aY,bw,bo,bp,bv,yaq,yar,yao,yap,go_sem,hSch,eG,cY hL1,Nat.zero_min,cp0,hSS,eE,aR,tR]
  refine Tq3 ?_
  refine au (fun hc=>?_) (fun hc=>?_)
  ·have w1a:IntKind.i64.wrap (1+a % 4)=1+a % 4:=by rw [wrap_i64]<;>omega
   have w1b:IntKind.i64.wrap (1+b % 4)=1+b % 4:=by rw [wrap_i64]<;>omega
   have hrok:∀ z∈S.refs.map a9,cM z.cells=true:=fun z hz=>by
    obtain ⟨x,_,rfl⟩:=List.mem_map.1 hz;rfl
   have hrl:=hSm.x
   simp only [bm,aD,bhq,Nat.reduceMod,Nat.reduceDiv,aW,aX,aZ,bx,aY,bw,bo,bp,bv,yaq,yar,yao,yap,go_sem,tR,w1a,w1b,ybb]
   refine ⟨⟨by omega,by omega,hrok⟩,⟨by omega,by omega,by decide,by decide⟩,⟨by omega,by omega,by decide,by decide⟩,⟨by omega,by omega,fun z hz=>by rw [List.mem_singleton.1 hz];rfl⟩,?_⟩
   obtain ⟨R,hR⟩:∃ R:List SRef,R=S.refs++[⟨1+a % 4,0,0,0,1+b % 4,0⟩]:=⟨_,rfl⟩
   have hRm:R.map a9=S.refs.map a9++[.agg [.int .i64 (1+a % 4),.int .i64 0,.int .i64 0,.int .i64 0,.int .i64 (1+b % 4),.int .i64 0]]:=by rw [hR,List.map_append];rfl
   refine gT (H.nx+1+1) (cs:=[.slice .any 3 (S.fields.map aG),.slice .any 3 (S.headers.map az),.slice .any 5 (S.states.map aA),.slice .any 5 (S.actions.map ap),.slice .any 8 (S.tables.map ax),.slice .any 2 (S.stages.map aO),.slice .any 6 (S.roles.map aN),(.slice (.own (H.nx+1+1+1)) 6 (S.refs.map a9++[.agg [.int .i64 (1+a % 4),.int .i64 0,.int .i64 0,.int .i64 0,.int .i64 (1+b % 4),.int .i64 0]])),.int .i64 S.maxBatch,.int .i64 S.budget]) [.slice .any 3 (S.fields.map aG),.slice .any 3 (S.headers.map az),.slice .any 5 (S.states.map aA),.slice .any 5 (S.actions.map ap),.slice .any 8 (S.tables.map ax),.slice .any 2 (S.stages.map aO),.slice .any 6 (S.roles.map aN),.slice .any 6 (R.map a9),.int .i64 S.maxBatch,.int .i64 S.budget] (by simp only [go_sem]) ?_ ?_
   ·rw [hRm]
    simp [dO,eI,dN,wkM,po,rT]
   obtain ⟨T,hT⟩:∃ T:Sch,T={ S with refs:=R }:=⟨_,rfl⟩
   have hsC:aR T=[.slice .any 3 (S.fields.map aG),.slice .any 3 (S.headers.map az),.slice .any 5 (S.states.map aA),.slice .any 5 (S.actions.map ap),.slice .any 8 (S.tables.map ax),.slice .any 2 (S.stages.map aO),.slice .any 6 (S.roles.map aN),.slice .any 6 (R.map a9),.int .i64 S.maxBatch,.int .i64 S.budget]:=by rw [hT];rfl
   have hTm:SmP 40 1001 T:=by
    rw [hT]
    have hS1:=hSm.mono (N':=40) (R':=1001) (by decide) (by decide)
    exact ⟨hS1.f,hS1.h,hS1.s,hS1.a,hS1.t,hS1.g,hS1.r,by dsimp only;rw [hR,lAq];simp;omega⟩
   have hTl:=(hTm.mono (N':=50) (R':=1100000) (by decide) (by decide)).len
   simp only [bm,aD,bhq,Nat.reduceMod,Nat.reduceDiv,aW,aX,aZ,bx,aY,bw,bo,bp,bv,yaq,yar,yao,yap,go_sem,Bg]
   refine ⟨T,⟨hsC.symm,hTm.ok,hTl⟩,?_⟩
   refine au (fun hc2=>?_) (fun hc2=>?_)
   ·refine Tq20 ?_
    refine bC J T ⟨⟨R,hT⟩,hTm.x,?_,NO (by simpa using hc2)⟩ ?_
    ·rw [hT]
     dsimp only
     rw [hR]
     intro r hr
     rcases List.mem_append.1 hr with hr|hr
     ·exact hG0.mem r hr
     ·rw [List.mem_singleton.1 hr]
      dsimp only
      omega
    rw [hsC]
    refine eNt (ah (ah hcl jW) (by have h9:=@nJ ((H.push (gI B1 w1)).nx+1) T;unfold aR at hsC;rw [hsC] at h9;exact h9)) ?_ ?_
    ·simp [ltF,znn,zle]
    ·exact Y13
   ·refine Tq20 ?_
    refine bC J S hG0 ?_
    dsimp only [aR]
    refine eNt (ah (ah hcl jW) (nJ _)) ?_ ?_
    ·simp [ltF,znn,zle]
    ·exact Y13
  ·simp only [bm,aD,bhq,Nat.reduceMod,Nat.reduceDiv,aW,aX,aZ,bx,aY,bw,bo,bp,bv,yaq,yar,yao,yap,go_sem,tR]
   refine bC J S hG0 ?_
   dsimp only [aR]
   refine eNt (ah (ah hcl jW) (nJ _)) ?_ ?_
   ·simp [ltF,znn,zle]
   ·exact Y13
 ·intro T hT
  obtain ⟨O,hO⟩:∃ O,l8 T=O:=⟨_,rfl⟩
  obtain ⟨R,hTR⟩:=hT.eq
  have hTt:T.tables=S.tables:=by rw [hTR]
  have hti:fE T=[1,2,3,4]:=by unfold fE at hT0 ⊢;rw [hTt];exact hT0
  have hri:=Kr hti hT.mem
  have hnd:(fE T).Nodup:=by rw [hti];decide
  obtain ⟨o1,o2,o3,o4,o5⟩:=G4 hri hnd hT.acy
  have hs1:=hSm.mono (N':=40) (R':=1001) (by decide) (by decide)
  have hTm:SmP 40 1001 T:=by
   have h9:=hT.len
   rw [hTR] at h9 ⊢
   exact ⟨hs1.f,hs1.h,hs1.s,hs1.a,hs1.t,hs1.g,hs1.r,h9⟩
  have hTb:=K0 (hTm.mono (N':=40) (R':=100000) (by decide) (by decide))
  dsimp only
  unfold aR
  simp only [bm,aD,bhq,Nat.reduceMod,Nat.reduceDiv,aW,aX,aZ,bx,aY,bw,bo,bp,bv,yaq,yar,yao,yap,go_sem,Ar]
  refine ⟨T,⟨rfl,hTb,hri⟩,?_⟩
  simp only [bm,aD,bhq,Nat.reduceMod,Nat.reduceDiv,aW,aX,aZ,bx,aY,bw,bo,bp,bv,yaq,yar,yao,yap,go_sem,fQ]
  refine ⟨T,⟨rfl,hTb,hri⟩,?_⟩
  rw [hO] at o1 o2 o3 o4 o5 ⊢
  have hlO:(inL (iN O)).length=T.tables.length:=by simp only [inL,ybb,pr,o1]
  simp only [bm,aD,bhq,Nat.reduceMod,Nat.reduceDiv,aW,aX,aZ,bx,aY,bw,bo,bp,bv,yaq,yar,yao,yap,go_sem,hlO,bne_self_eq_false,ybb]
  have htn:=hTb.sl.tl
  refine ⟨⟨by omega,by omega,by omega⟩,?_⟩
  have hz:(List.replicate T.tables.length [AV.int .i64 0]).flatten=inL (qG O T.tables.length 0):=by
   rw [GV]
   simp [inL]
  rw [hz]
  have hcP:∀ l,(((H.push (gI B1 w1)).push (.cells [.slice .any 3 (T.fields.map aG),.slice .any 3 (T.headers.map az),.slice .any 5 (T.states.map aA),.slice .any 5 (T.actions.map ap),.slice .any 8 (T.tables.map ax),.slice .any 2 (T.stages.map aO),.slice .any 6 (T.roles.map aN),.slice .any 6 (T.refs.map a9),.int .i64 T.maxBatch,.int .i64 T.budget])).push (.cells (inL l))).Closed:=fun l=>ah (ah (ah hcl jW) (nJ T)) (ltL_iff.2 fun j hj=>by simp only [inL,List.getElem_map,znf])
  refine aC (A:=Nat) (fun j=>[(7,.ptr (H.nx+1) 0),(10,.slice .any 1 (inL (iN O))),(11,.ms (H.nx+1+1) 0 1 T.tables.length),(64,.slice .any 1 (inL (iN O))),(65,.int .i64 (T.tables.length:Int)),(66,.int .i64 (j:Int))]) (fun j=>(((H.push (gI B1 w1)).push (.cells [.slice .any 3 (T.fields.map aG),.slice .any 3 (T.headers.map az),.slice .any 5 (T.states.map aA),.slice .any 5 (T.actions.map ap),.slice .any 8 (T.tables.map ax),.slice .any 2 (T.stages.map aO),.slice .any 6 (T.roles.map aN),.slice .any 6 (T.refs.map a9),.int .i64 T.maxBatch,.int .i64 T.budget])).push (.cells (inL (qG O T.tables.length j))))) (fun j=>j≤T.tables.length) (fun j=>T.tables.length - j) 0 (Nat.zero_le _) ?_ fun j hj=>?_
  ·refine eNt (hcP _) ?_ ?_
   ·exact Y145
   ·exact Y13
  refine Tq15 ?_
  refine au (fun hc=>?_) (fun hc=>?_)
  ·have hj':j<T.tables.length:=sHc
   have hjO:j<O.length:=by omega
   obtain ⟨k,hk⟩:∃ k,k=O[j]:=⟨_,rfl⟩
   have hkl:k<T.tables.length:=o2 k (by rw [hk];exact gMq hjO)
   have hg:=aV (f:=AV.int .i64) (l:=iN O) (k:=j) (x:=(k:Int)) (by unfold iN;rw [List.getElem?_map,gQq hjO,hk];rfl)
   have hps:=NZ (n:=T.tables.length) o3 hjO
   rw [← hk] at hps
   have hsp:splice (inL (qG O T.tables.length j)) k [.int .i64 (j:Int)]=inL (qG O T.tables.length (j+1)):=by
    rw [j0,← hps];simp [inL,List.map_set]
   unfold inL at hsp
   have ej:IntKind.i64.wrap ((j:Int)+1)=((j+1:Nat):Int):=by rw [wrap_i64]<;>omega
   simp only [bm,aD,bhq,Nat.reduceMod,Nat.reduceDiv,aW,aX,aZ,bx,aY,bw,bo,bp,bv,yaq,yar,yao,yap,go_sem,iNq,hlO,inL,hg,bne_self_eq_false,ej,ybb,pr,CJ]
   refine ⟨⟨by omega,by omega⟩,⟨by omega,by omega⟩,⟨by omega,by omega⟩,by omega,j+1,by omega,by omega,?_⟩
   rw [hsp]
   refine eNt (hcP _) ?_ ?_
   ·simp [ltF,znf,znn,znp,zle,fD,aa iJ]
    exact fD
   ·exact Y13
  ·have hj':j=T.tables.length:=sHc
   subst hj'
   simp only [bm,aD,bhq,Nat.reduceMod,Nat.reduceDiv,aW,aX,aZ,bx,aY,bw,bo,bp,bv,yaq,yar,yao,yap,go_sem,ybb]
   have hxl:=hTb.xl
   obtain ⟨P,hP⟩:∃ P,qG O T.tables.length T.tables.length=P:=⟨_,rfl⟩
   have hPl:P.length=T.tables.length:=by rw [← hP,CJ]
   have hPg:∀ k,k<T.tables.length→(inL P).getD k .junk=.int .i64 ((O.idxOf k:Nat):Int):=fun k hk=>by
    have h1:=LS (O:=O) hk (by have:=List.idxOf_lt_length_of_mem (o4 k hk);omega)
    rw [hP] at h1
    refine aV (f:=AV.int .i64) ?_
    rw [gEq] at h1
    rw [gQq (by omega)] at h1 ⊢
    rw [← h1];rfl
   rw [hP]
   refine aC (A:=Nat) (fun j=>[(7,.ptr (H.nx+1) 0),(11,.ms (H.nx+1+1) 0 1 T.tables.length),(83,.slice .any 6 (T.refs.map a9)),(84,.int .i64 (T.refs.length:Int)),(85,.int .i64 (j:Int))]) (fun j=>(((H.push (gI B1 w1)).push (.cells [.slice .any 3 (T.fields.map aG),.slice .any 3 (T.headers.map az),.slice .any 5 (T.states.map aA),.slice .any 5 (T.actions.map ap),.slice .any 8 (T.tables.map ax),.slice .any 2 (T.stages.map aO),.slice .any 6 (T.roles.map aN),.slice .any 6 (T.refs.map a9),.int .i64 T.maxBatch,.int .i64 T.budget])).push (.cells (inL P)))) (fun j=>j≤T.refs.length) (fun j=>T.refs.length - j) 0 (Nat.zero_le _) ?_ fun j hj=>?_
   ·refine eNt (hcP _) ?_ ?_
    ·exact Y145
    ·exact Y13
   refine Tq15 ?_
   refine au (fun hc=>?_) (fun hc=>?_)
   ·have hj':j<T.refs.length:=sHc
    obtain ⟨r,hr⟩:∃ r,r=T.refs[j]:=⟨_,rfl⟩
    have hrm:r∈T.refs:=by rw [hr];exact gMq hj'
    have hgr:=aV (f:=a9) (l:=T.refs) (k:=j) (x:=r) (by rw [gQq hj',hr])
    replace hgr:_=AV.agg [.int .i64 r.table,.int .i64 r.key,.int .i64 r.action,.int .i64 r.param,.int .i64 r.toTable,.int .i64 r.toKey]:=hgr
    have x1:=xB (hri r hrm).1
    have x2:=xB (hri r hrm).2
    have hix:=yf hnd
    have hl4:(fE T).length=T.tables.length:=ybb _
    have y1:=(hix.lt _ (hri r hrm).1).1
    have y2:=(hix.lt _ (hri r hrm).2).1
    rw [hl4] at y1 y2
    have g1:=hPg _ y1
    have g2:=hPg _ y2
    have hlt2:=o5 r hrm
    have d1:decide (((O.idxOf (ixT T r.table):Nat):Int)≤((O.idxOf (ixT T r.toTable):Nat):Int))=false:=dfq (by omega)
    have ej:IntKind.i64.wrap ((j:Int)+1)=((j+1:Nat):Int):=by rw [wrap_i64]<;>omega
    simp only [bm,aD,bhq,Nat.reduceMod,Nat.reduceDiv,aW,aX,aZ,bx,aY,bw,bo,bp,bv,yaq,yar,yao,yap,go_sem,iNq,hgr,ej,ybb,d9]
    have hPi:(inL P).length=T.tables.length:=by simp [inL,hPl]
    refine ⟨⟨by omega,by omega⟩,T,⟨rfl,htn⟩,?_⟩
    rw [x1,iNq]
    refine ⟨⟨by omega,by omega⟩,by omega,T,⟨rfl,htn⟩,?_⟩
    rw [x2,iNq]
    refine ⟨⟨by omega,by omega⟩,by omega,?_⟩
    rw [g1,g2]
    simp only [bm,aD,bhq,Nat.reduceMod,Nat.reduceDiv,aW,aX,aZ,bx,aY,bw,bo,bp,bv,yaq,yar,yao,yap,go_sem,d1,ej]
    refine ⟨j+1,by omega,by omega,?_⟩
    refine eNt (hcP _) ?_ ?_
    ·exact Y145
    ·exact Y13
   ·have hj':j=T.refs.length:=sHc
    subst hj'
    simp only [bm,aD,bhq,Nat.reduceMod,Nat.reduceDiv,aW,aX,aZ,bx,aY,bw,bo,bp,bv,yaq,yar,yao,yap,go_sem,sc]
    refine ⟨rfl,by repeat first|exact .refl _|refine .push ?_ _,hcl,by rw [zng];trivial⟩
end Go.AL
