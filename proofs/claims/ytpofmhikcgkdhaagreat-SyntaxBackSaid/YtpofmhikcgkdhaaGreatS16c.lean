/- Lemmas of the proof; no condition. -/
import Derived.Test.YtpofmhikcgkdhaaGreatS07n
import Derived.Test.YtpofmhikcgkdhaaGreatN05d
import Derived.Test.YtpofmhikcgkdhaaGreatLFmt3
set_option linter.all false
set_option maxRecDepth 10000
set_option maxHeartbeats 32000000
open List renaming length_cons → yaz, length_nil → yba, take_of_length_le → ybc, drop_append → ybd, take_append → ybe, drop_eq_nil_of_le → ybf, length_map → ybb
open Go Go.AL Go.Proofs
namespace Go.AL
theorem iQ:Tryz.prog.eqGuardType Tryz.prog.depth 55=false:=by kernel_rfl
theorem iP {a b c d:Int}:teq Tryz.prog 9 55 (.agg [.int .u64 a,.int .u64 b]) (.agg [.int .u64 c,.int .u64 d])=some ((a==c)&&((b==d)&&true)):=by
 have g2:Tryz.prog.stoodInHeld 55=false:=by kernel_rfl
 simp [jY,teq,teq.go,teq.part,pC,ceq,g2,TD.agg]
def FOk (t:List Nd):Prop:=AllN jC t∧Good t∧t.length≤120
theorem FOk.len {t:List Nd} {s k:Nat} (h:FOk t) (hs:Sb t s k):(bL t k).length≤300000:=by
 have h1:=hs.len h.1 h.2.1
 have h2:=hs.le
 have h3:=h.2.2
 omega
def ip (_A:Prop) (d:Nat):List AV→AHeap→(AV→Prop)→Prop
 |[.slice _ 7 x,.int .i64 i],_,K=>∃ t k s,(x=nds t∧i=((k:Nat):Int)∧k<d∧Sb t s k∧FOk t)∧K (.str (bL t k))
 |_,_,_=>False
theorem zl {A:Prop} {d:Nat} (h_xFmt:EntOk Tryz.prog 27 (Ent.pure (ip A d))):EntOk Tryz.prog 27 (Ent.pure (ip A (d+1))):=by
 refine Ype fun _ H K h=>?_
 unfold ip at h
 split at h
 rotate_left
 ·exact h.elim
 rename_i m x i
 obtain ⟨t,k,s,⟨rfl,rfl,hkd,hS,hF⟩,hK⟩:=h
 have hk:=hS.le.2
 have hln:=hF.2.2
 refine ⟨_,hK,?_⟩
 clear hK
 refine ACalls.fW aE (tCq Ap (tCq Al (tCq h_xFmt tNq))) Tryz.func27 [.tmp 4] (nrq _) (T:=ay [(18,[[],[],[],[2],[],[],[],[],[],[],[],[],[2,3,11]])]) (h:=fun hcl hlt=>?_)
 have hm:∀ n',H.nx≤n'→AV.lt n' (.slice m 7 (nds t)):=fun n' hn=>AV.lt_mono hn _ (hlt (.slice m 7 (nds t)) (by simp))
 clear hlt
 cases hS with
 |leaf h1 h2 =>
  obtain ⟨_,e⟩:=get_lt h1
  rw [eZ h1]
  cases h2 with
  |num hv =>
   rename_i v
   have hg:(nds t).getD k .junk=.agg [.int .i64 1,.int .i64 0,.int .i64 0,.str [],.str [],.int .u64 ((v/2^64:Nat):Int),.int .u64 ((v % 2^64:Nat):Int)]:=by rw [cw hk,e];first|rfl|simp
   have hz:((v/2^64:Nat):Int)*2^64+((v % 2^64:Nat):Int)=(v:Int):=by omega
   have hsm:cO (v:Int):=by
    unfold cO
    exact Nat.lt_of_lt_of_le (show (v:Int).natAbs<2^128 from hv) (by decide)
   have ht:txt (v:Int)=dtx v []:=by unfold txt;rw [if_neg (by omega)];rfl
   have hf:fp (cm (t.take k)) ⟨1,0,0,[],[],v⟩=dtx v []:=rfl
   have hvn:gI ((v/2^64:Nat):Int) ((v % 2^64:Nat):Int):=by unfold gI;omega
   simp only [go_sem,az,hg,iNq,Int.reduceBEq,rS,rI]
   refine ⟨by omega,hvn,v,⟨by rw [hz],hsm⟩,?_⟩
   rw [ht,hf]
   exact Z0
  |tru =>
   rename_i b
   cases b
   ·have hg:(nds t).getD k .junk=.agg [.int .i64 2,.int .i64 0,.int .i64 0,.str [],.str [],.int .u64 0,.int .u64 0]:=by rw [cw hk,e];first|rfl|simp
    have hf:fp (cm (t.take k)) ⟨2,0,0,[],[],if false=true then 1 else 0⟩=cP:=rfl
    rw [hf]
    simp only [go_sem,az,hg,iNq,Int.reduceBEq,iP,iQ,zat,zau,Bool.bne_false,Bool.and_true,Bool.true_and,Int.reduceBEq,Bool.false_eq_true,if_false,bne_self_eq_false,beq_self_eq_true]
    refine ⟨by omega,?_⟩
    exact Z34
   ·have hg:(nds t).getD k .junk=.agg [.int .i64 2,.int .i64 0,.int .i64 0,.str [],.str [],.int .u64 0,.int .u64 1]:=by rw [cw hk,e];first|rfl|simp
    have hf:fp (cm (t.take k)) ⟨2,0,0,[],[],if true=true then 1 else 0⟩=ey:=rfl
    rw [hf]
    simp only [go_sem,az,hg,iNq,Int.reduceBEq,iP,iQ,zat,zau,Bool.bne_false,Bool.and_true,Bool.true_and,Int.reduceBEq,Bool.false_eq_true,if_false,bne_self_eq_false,beq_self_eq_true]
    refine ⟨by omega,?_⟩
    exact Z34
  |var hx a1 a2 =>
   rename_i x
   have hg:(nds t).getD k .junk=.agg [.int .i64 3,.int .i64 0,.int .i64 0,.str x,.str [],.int .u64 0,.int .u64 0]:=by rw [cw hk,e];first|rfl|simp
   have hf:fp (cm (t.take k)) ⟨3,0,0,x,[],0⟩=x:=rfl
   rw [hf]
   simp only [go_sem,az,hg,iNq,Int.reduceBEq,beq_self_eq_true]
   refine ⟨by omega,?_⟩
   exact Z0
  |att hx a1 a2 hy =>
   rename_i x y
   have hg:(nds t).getD k .junk=.agg [.int .i64 3,.int .i64 0,.int .i64 0,.str x,.str y,.int .u64 0,.int .u64 0]:=by rw [cw hk,e];first|rfl|simp
   have hf:fp (cm (t.take k)) ⟨3,0,0,x,y,0⟩=x++([58,58]++y):=by
    show (if y=[] then x else x++([58,58]++y))=_
    rw [if_neg hy.2.1]
   have hyb:(y==[])=false:=beq_eq_false_iff_ne.2 hy.2.1
   have hsh:=hF.1 _ (List.mem_of_getElem? h1)
   have hxl:x.length≤1000:=hsh.1
   have hyl:y.length≤1000:=hsh.2.1
   rw [hf]
   simp only [go_sem,az,hg,iNq,Int.reduceBEq,hyb]
   refine ⟨by omega,by unfold bZ;omega,by unfold bZ;rw [lAq];simp;omega,?_⟩
   exact Z0
 |un h1 h2 ho =>
  rename_i a op
  obtain ⟨_,e⟩:=get_lt h2
  have hln1:=hF.len h1
  rw [eZ h2]
  have e3:(cm (t.take (a+1))).getD a []=bL t a:=cG (by omega) (by omega)
  rcases ho with rfl|rfl
  ·have hg:(nds t).getD (a+1) .junk=.agg [.int .i64 4,.int .i64 (a:Int),.int .i64 0,.str [],.str [],.int .u64 0,.int .u64 0]:=by rw [cw hk,e];first|rfl|simp [nd2]
   have hf:fp (cm (t.take (a+1))) (nd2 4 a 0)=45::40::(bL t a++[41]):=by rw [← e3];rfl
   rw [hf]
   simp only [go_sem,az,hg,iNq,Int.reduceBEq,ip]
   refine ⟨by omega,t,a,s,⟨rfl,rfl,by omega,h1,hF⟩,by unfold bZ;omega,by unfold bZ;omega,?_⟩
   exact Z0
  ·have hg:(nds t).getD (a+1) .junk=.agg [.int .i64 5,.int .i64 (a:Int),.int .i64 0,.str [],.str [],.int .u64 0,.int .u64 0]:=by rw [cw hk,e];first|rfl|simp [nd2]
   have hf:fp (cm (t.take (a+1))) (nd2 5 a 0)=33::40::(bL t a++[41]):=by rw [← e3];rfl
   rw [hf]
   simp only [go_sem,az,hg,iNq,Int.reduceBEq,ip]
   refine ⟨by omega,t,a,s,⟨rfl,rfl,by omega,h1,hF⟩,by unfold bZ;omega,by unfold bZ;omega,?_⟩
   exact Z0
 |bin h1 h2 h3 ho =>
  rename_i a b op
  obtain ⟨_,e⟩:=get_lt h3
  have hab:=h2.le.1
  have hl1:=hF.len h1
  have hl2:=hF.len h2
  rw [eZ h3]
  have e3:(cm (t.take (b+1))).getD a []=bL t a:=cG (by omega) (by omega)
  have e3':(cm (t.take (b+1))).getD b []=bL t b:=cG (by omega) (by omega)
  have hf:fp (cm (t.take (b+1))) (nd2 op a b)=40::(bL t a++41::32::(iF op++32::40::(bL t b++[41]))):=by
   rw [← e3,← e3']
   unfold fp nd2
   rw [if_neg (by show ¬ op≤3;omega),if_neg (by show ¬ op=4;omega),if_neg (by show ¬ op=5;omega)]
   simp [fU]
  have hg:(nds t).getD (b+1) .junk=.agg [.int .i64 (op:Int),.int .i64 (a:Int),.int .i64 (b:Int),.str [],.str [],.int .u64 0,.int .u64 0]:=by rw [cw hk,e];first|rfl|simp [nd2]
  rw [hf]
  have d1:((op:Int)==1)=false:=beq_eq_false_iff_ne.2 (by omega)
  have d2:((op:Int)==2)=false:=beq_eq_false_iff_ne.2 (by omega)
  have d3:((op:Int)==3)=false:=beq_eq_false_iff_ne.2 (by omega)
  have d4:((op:Int)==4)=false:=beq_eq_false_iff_ne.2 (by omega)
  have d5:((op:Int)==5)=false:=beq_eq_false_iff_ne.2 (by omega)
  have hop:([AV.str [43],AV.str [45],AV.str [61,61],AV.str [33,61],AV.str [60],AV.str [60,61],AV.str [62],AV.str [62,61],AV.str [38,38],AV.str [124,124],AV.str [45,62]]:List AV).getD (IntKind.i64.wrap ((op:Int) - 6)).toNat AV.junk=AV.str (iF op):=by
   rcases (by omega:op=6∨op=7∨op=8∨op=9∨op=10∨op=11∨op=12∨op=13∨op=14∨op=15∨op=16) with rfl|rfl|rfl|rfl|rfl|rfl|rfl|rfl|rfl|rfl|rfl<;>rfl
  have hw:IntKind.i64.wrap ((op:Int) - 6)=(op:Int) - 6:=by rw [wrap_i64]<;>omega
  have hol:=oa (op:=op)
  simp only [go_sem,az,hg,iNq,d1,d2,d3,d4,d5,ip,hop]
  refine ⟨by omega,by rw [hw];omega,t,a,s,⟨rfl,rfl,by omega,h1,hF⟩,by unfold bZ;omega,by unfold bZ;omega,?_⟩
  refine ⟨by unfold bZ;simp only [lAq,yaz,yba];omega,by unfold bZ;simp only [lAq,yaz,yba];omega,t,b,a+1,⟨rfl,rfl,by omega,h2,hF⟩,by unfold bZ;simp only [lAq,yaz,yba];omega,by unfold bZ;simp only [lAq,yaz,yba];omega,?_⟩
  exact Z0
theorem uF {A:Prop}:∀ d,EntOk Tryz.prog 27 (Ent.pure (ip A d))
 |0=>by
  refine Ype fun _ H K h=>?_
  unfold ip at h
  split at h
  ·obtain ⟨t,k,s,⟨_,_,h0,_⟩,_⟩:=h
   exact absurd h0 (Nat.not_lt_zero _)
  ·exact h.elim
 |d+1=>zl (uF d)
def mE:List AV→AHeap→(AV→Prop)→Prop
 |[.slice _ 7 x],_,K=>∃ t,(x=nds t∧t≠[]∧Sb t 0 (t.length - 1)∧FOk t)∧K (.str (bL t (t.length - 1)))
 |_,_,_=>False
theorem li {h_xFmt:EntOk Tryz.prog 27 (Ent.pure (ip True 1000))}:EntOk Tryz.prog 9 (Ent.pure mE):=by
 refine Ype fun _ H K h=>?_
 unfold mE at h
 split at h
 rotate_left
 ·exact h.elim
 rename_i m x
 obtain ⟨t,⟨rfl,h0,hS,hF⟩,hK⟩:=h
 refine ⟨_,hK,?_⟩
 clear hK
 have hpos:=List.length_pos_iff.2 h0
 have hln:=hF.2.2
 have hw:IntKind.i64.wrap ((t.length:Int) - 1)=((t.length - 1:Nat):Int):=by rw [wrap_i64]<;>omega
 have hz:((t.length:Int)==0)=false:=beq_eq_false_iff_ne.2 (by omega)
 refine ACalls.fW aE (tCq h_xFmt tNq) Tryz.func9 [.tmp 2] (nrq _) (T:=ay []) (h:=fun hcl hlt=>?_)
 have hm:∀ n',H.nx≤n'→AV.lt n' (.slice m 7 (nds t)):=fun n' hn=>AV.lt_mono hn _ (hlt (.slice m 7 (nds t)) (by simp))
 clear hlt
 simp only [go_sem,az,hz,hw,ip]
 refine ⟨t,t.length - 1,0,⟨rfl,rfl,by omega,hS,hF⟩,?_⟩
 exact Z0
def lP:List AV→AHeap→(AV→Prop)→Prop
 |[.str s],_,K=>s.length≤1000000∧K (.str (fU s))
 |_,_,_=>False
theorem yN:EntOk Tryz.prog 25 (Ent.pure lP):=by
 refine Ype fun _ H K h=>?_
 unfold lP at h
 split at h
 rotate_left
 ·exact h.elim
 rename_i s
 obtain ⟨hl,hK⟩:=h
 refine ⟨_,hK,?_⟩
 clear hK
 refine ACalls.fW aE tNq Tryz.func25 [.tmp 2] (nrq _) (T:=ay []) (h:=fun hcl hlt=>?_)
 clear hlt
 simp only [go_sem]
 refine ⟨by unfold bZ;omega,by unfold bZ;omega,?_⟩
 simp (disch:=first|exact Zd|omega) [↓zmo,beq,ybc,ybd,ybe,af,wk,wk2,wk1,wkM,wkL,am,ybf,hcl,fU]
def si (l:List (List UInt8)) (a i:Int):List UInt8:=if a<0∨a ≥ i then [] else l.getD a.toNat []
def uW:List AV→AHeap→(AV→Prop)→Prop
 |[.slice _ 1 x,.int .i64 a,.int .i64 i],_,K=>∃ l:List (List UInt8),(x=l.map .str∧l.length≤1000)∧K (.str (si l a i))
 |_,_,_=>False
theorem Az:EntOk Tryz.prog 21 (Ent.pure uW):=by
 refine Ype fun _ H K h=>?_
 unfold uW at h
 split at h
 rotate_left
 ·exact h.elim
 rename_i m x a i
 obtain ⟨l,⟨rfl,hl⟩,hK⟩:=h
 refine ⟨_,hK,?_⟩
 clear hK
 refine ACalls.fW aE tNq Tryz.func21 [.tmp 6] (nrq _) (T:=ay []) (h:=fun hcl hlt=>?_)
 have hm:∀ n',H.nx≤n'→AV.lt n' (.slice m 1 (l.map .str)):=fun n' hn=>AV.lt_mono hn _ (hlt (.slice m 1 (l.map .str)) (by simp))
 clear hlt
 obtain ⟨R,hR⟩:∃ R,si l a i=R:=⟨_,rfl⟩
 rw [hR]
 unfold si at hR
 simp only [go_sem]
 refine aP (fun h1=>?_) (fun h1=>aP (fun h2=>?_) (fun h2=>?_))
 ·rw [if_pos (.inl (by simpa using h1))] at hR
  subst hR
  exact Z0
 ·rw [if_pos (.inr (by simpa using h2))] at hR
  subst hR
  exact Z0
 ·have h1':¬ a<0:=by simpa using h1
  have h2':¬ a ≥ i:=by simpa using h2
  rw [if_neg (by omega)] at hR
  refine ah (fun h3=>?_) (fun h3=>?_)
  ·have h3':a ≥ l.length:=by simpa using h3
   rw [gEq,gNq (by omega)] at hR
   subst hR
   simp only [go_sem]
   exact Z0
  ·have h3':¬ a ≥ l.length:=by simpa using h3
   have hg:(l.map AV.str).getD a.toNat .junk=.str R:=by
    rw [← hR,gEq,gEq,List.getElem?_map]
    cases hx:l[a.toNat]? with
    |none=>rw [List.getElem?_eq_none_iff] at hx;omega
    |some y=>rfl
   simp only [go_sem,ybb,hg]
   refine ⟨by omega,?_⟩
   exact Z0
def ni:List AV→AHeap→(AV→Prop)→Prop
 |[x],_,K=>∃ n,(x=gJ n∧LfOk n∧jC n)∧K (.str (io n))
 |_,_,_=>False
theorem uI:EntOk Tryz.prog 26 (Ent.pure ni):=by
 refine Ype fun _ H K h=>?_
 unfold ni at h
 split at h
 rotate_left
 ·exact h.elim
 rename_i x
 obtain ⟨n,⟨rfl,hn,hs⟩,hK⟩:=h
 refine ⟨_,hK,?_⟩
 clear hK
 refine ACalls.fW aE (tCq zg (tCq Ai (tCq rp tNq))) Tryz.func26 [.tmp 2] (nrq _) (T:=ay [(3,[[],[],[],[],[],[],[1]])]) (h:=fun hcl hlt=>?_)
 clear hlt
 cases hn with
 |num hv =>
  rename_i v
  rw [show gJ ⟨1,0,0,[],[],v⟩=.agg [.int .i64 1,.int .i64 0,.int .i64 0,.str [],.str [],.int .u64 ((v/2^64:Nat):Int),.int .u64 ((v % 2^64:Nat):Int)] from (by first|rfl|simp [gJ]),show io ⟨1,0,0,[],[],v⟩=dtx v [] from rfl]
  have hz:((v/2^64:Nat):Int)*2^64+((v % 2^64:Nat):Int)=(v:Int):=by omega
  have ht:txt (v:Int)=dtx v []:=by unfold txt;rw [if_neg (by omega)];rfl
  simp only [go_sem,Int.reduceBEq,zat,zau,beq_self_eq_true,bne_self_eq_false,Bool.bne_false,Bool.and_true,Bool.true_and,sR,se]
  refine ⟨by omega,v,⟨by rw [hz],by omega,by omega⟩,?_⟩
  rw [ht]
  exact Z0
 |tru =>
  rename_i b
  cases b
  ·rw [show gJ ⟨2,0,0,[],[],if false=true then 1 else 0⟩=.agg [.int .i64 2,.int .i64 0,.int .i64 0,.str [],.str [],.int .u64 0,.int .u64 0] from (by first|rfl|simp [gJ]),show io ⟨2,0,0,[],[],if false=true then 1 else 0⟩=cP from rfl]
   simp only [go_sem,Int.reduceBEq,zat,zau,beq_self_eq_true,bne_self_eq_false,Bool.bne_false,Bool.and_true,Bool.true_and,mj,iP,iQ]
   exact Z34
  ·rw [show gJ ⟨2,0,0,[],[],if true=true then 1 else 0⟩=.agg [.int .i64 2,.int .i64 0,.int .i64 0,.str [],.str [],.int .u64 0,.int .u64 1] from (by first|rfl|simp [gJ]),show io ⟨2,0,0,[],[],if true=true then 1 else 0⟩=ey from rfl]
   simp only [go_sem,Int.reduceBEq,zat,zau,beq_self_eq_true,bne_self_eq_false,Bool.bne_false,Bool.and_true,Bool.true_and,mj,iP,iQ]
   exact Z34
 |var hx a1 a2 =>
  rename_i x
  rw [show gJ ⟨3,0,0,x,[],0⟩=.agg [.int .i64 3,.int .i64 0,.int .i64 0,.str x,.str [],.int .u64 0,.int .u64 0] from (by first|rfl|simp [gJ]),show io ⟨3,0,0,x,[],0⟩=x from rfl]
  simp only [go_sem,Int.reduceBEq,zat,zau,beq_self_eq_true,bne_self_eq_false,Bool.bne_false,Bool.and_true,Bool.true_and,mj,iP,iQ]
  exact Z0
 |att hx a1 a2 hy =>
  rename_i x y
  have hyb:(y==[])=false:=beq_eq_false_iff_ne.2 hy.2.1
  have hyb2:(y != [])=true:=by rw [bne,hyb];rfl
  have hxl:x.length≤1000:=hs.1
  have hyl:y.length≤1000:=hs.2.1
  rw [show gJ ⟨3,0,0,x,y,0⟩=.agg [.int .i64 3,.int .i64 0,.int .i64 0,.str x,.str y,.int .u64 0,.int .u64 0] from (by first|rfl|simp [gJ]),show io ⟨3,0,0,x,y,0⟩=x++([58,58]++y) from (by show (if y=[] then x else x++([58,58]++y))=_;rw [if_neg hy.2.1])]
  simp only [go_sem,Int.reduceBEq,zat,zau,beq_self_eq_true,bne_self_eq_false,Bool.bne_false,Bool.and_true,Bool.true_and,mj,iP,iQ,hyb,hyb2]
  refine ⟨by unfold bZ;omega,by unfold bZ;rw [lAq];simp;omega,?_⟩
  exact Z0
theorem Ar:ti Tryz.prog 63=some ⟨.struct [(0,3,false),(1,9,false)],2,24,.agg [.int .i64 0,.str []]⟩:=by kernel_rfl
theorem xw:ti Tryz.prog 61=some ⟨.slice 63,1,24,.slice .nil 1 []⟩:=by kernel_rfl
attribute [go_sem] Ar xw
def ixO {α:Type} (q:α→Bool):List α→Nat→Int
 |[],_ => -1
 |x::xs,k=>if q x=true then (k:Int) else ixO q xs (k+1)
theorem qi {α:Type} {f:α→AV} {l:List α} {k:Nat} {x:α} (hx:l[k]?=some x):(l.map f).getD k .junk=f x:=by
 rw [gEq,List.getElem?_map,hx];rfl
def gr (x:Int × List UInt8):AV:=.agg [.int .i64 x.1,.str x.2]
def ndC (n:Nd):List AV:=[.int .i64 (n.op:Int),.int .i64 (n.a:Int),.int .i64 (n.b:Int),.str n.name,.str n.attr,.int .u64 ((n.v/2^64:Nat):Int),.int .u64 ((n.v % 2^64:Nat):Int)]
def sw:List AV→AHeap→(AV→Prop)→Prop
 |[x,.ptr c 0],H,K=>∃ t n,(x=gr t∧H.get c=some (.cells (ndC n)))∧K (.bool (t.1==(n.op:Int)))
 |_,_,_=>False
theorem zz:EntOk Tryz.prog 24 (Ent.pure sw):=by
 refine Ype fun _ H K h=>?_
 unfold sw at h
 split at h
 rotate_left
 ·exact h.elim
 rename_i x c
 obtain ⟨t,n,⟨rfl,hg⟩,hK⟩:=h
 refine ⟨_,hK,?_⟩
 clear hK
 unfold gr
 unfold ndC at hg
 refine ACalls.fW aE tNq Tryz.func24 [.tmp 3] (nrq _) (T:=ay []) (h:=fun hcl hlt=>?_)
 clear hlt
 have hcs:=bg hg
 have hl:=glq hg
 have hne:(c=H.nx)=False:=eq_false (by omega)
 simp only [go_sem,hcs,hne]
 (repeat with_reducible refine Yq ?_)
 exact Z0
def uS:List AV→AHeap→(AV→Prop)→Prop
 |[.slice _ 2 l,.func (.func 24) [] [.ptr c 0]],H,K=>∃ (ts:List (Int × List UInt8)) (n:Nd),(l=ts.map gr∧H.get c=some (.cells (ndC n))∧ts.length≤1000000)∧K (.int .i64 (ixO (fun t:Int × List UInt8=>t.1==(n.op:Int)) ts 0))
 |_,_,_=>False
theorem AU:EntOk Tryz.prog 22 (Ent.pure uS):=by
 refine Ype fun _ H K h=>?_
 unfold uS at h
 split at h
 rotate_left
 ·exact h.elim
 rename_i m l c
 obtain ⟨ts,n,⟨rfl,hg,hl⟩,hK⟩:=h
 refine ⟨_,hK,?_⟩
 clear hK
 generalize hR:ixO (fun t:Int × List UInt8=>t.1==(n.op:Int)) ts 0=R
 refine ACalls.fW aE (tCq zz tNq) Tryz.func22 [.tmp 4] (nrq _) (T:=ay []) (h:=fun hcl hlt=>?_)
 have hm:AV.lt H.nx (.slice m 2 (ts.map gr)):=hlt _ (by simp)
 have hf:AV.lt H.nx (.func (.func 24) [] [.ptr c 0]):=hlt _ (by simp)
 clear hlt
 simp only [go_sem,ybb]
 refine au (A:=Nat) (fun k=>[(0,.slice m 2 (ts.map gr)),(1,.func (.func 24) [] [.ptr c 0]),(7,.int .i64 (ts.length:Int)),(8,.int .i64 (k:Int))]) (fun _=>H) (fun k=>k≤ts.length∧ixO (fun t:Int × List UInt8=>t.1==(n.op:Int)) (ts.drop k) k=R) (fun k=>ts.length - k) 0 ⟨by omega,hR⟩ ?_ fun k hk=>?_
 ·refine ⟨nrq _,lRq _,hcl,?_,?_⟩
  ·simp [ltF,znf,hm,hf]
  ·simp [aU,wk2,wk1,wkM,Fr.get]
 clear hR
 obtain ⟨hk,hR⟩:=hk
 simp only [go_sem]
 refine ah (fun hc=>?_) (fun hc=>?_)
 ·have hk':k<ts.length:=by simp at hc;omega
  obtain ⟨x,hx⟩:∃ x,x=ts[k]:=⟨_,rfl⟩
  have hd:ts.drop k=x::ts.drop (k+1):=by rw [hx];exact dcq hk'
  have hg':=qi (f:=gr) (l:=ts) (k:=k) (x:=x) (by rw [gQq hk',hx])
  have e5:=Yk5 k
  have hcell:(gr x).cells.length=2:=rfl
  rw [hd] at hR
  unfold ixO at hR
  have hag:∃ cs,gr x=.agg cs∧cs.length=2:=⟨_,rfl,rfl⟩
  obtain ⟨cs,hcs,hcl3⟩:=hag
  have hts:List.take 2 cs=cs:=ybc (by omega)
  simp only [go_sem,iNq,ybb,hg',hcs,hcl3,hts,sw]
  (repeat with_reducible refine Yq ?_)
  refine ⟨x,n,⟨hcs.symm,hg⟩,?_⟩
  try simp only [uU,go_sem]
  (repeat with_reducible refine Yq ?_)
  refine ah (fun hq=>?_) (fun hq=>?_)
  ·rw [if_pos hq] at hR
   subst hR
   simp only [go_sem]
   exact Z0
  ·rw [if_neg (by rw [hq];decide)] at hR
   simp only [go_sem,e5]
   refine ⟨k+1,⟨by omega,hR⟩,by omega,nrq _,lRq _,hcl,?_,?_⟩
   ·simp [ltF,znf,hm,hf]
   ·simp [aU,wk2,wk1,wkM,Fr.get]
 ·have hk':k=ts.length:=by simp at hc;omega
  subst hk'
  rw [List.drop_length] at hR
  unfold ixO at hR
  subst hR
  simp only [go_sem]
  exact Z0
end Go.AL
