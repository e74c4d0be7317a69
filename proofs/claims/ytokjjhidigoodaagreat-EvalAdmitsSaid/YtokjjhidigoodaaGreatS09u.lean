/- Contracts and plain laws, a part of the proof; no condition of its own. -/
import Derived.Test.YtokjjhidigoodaaGreatS09h
import Derived.Test.YtokjjhidigoodaaGreatS10r
import Derived.Test.YtokjjhidigoodaaGreatS08k
import Derived.Test.YtokjjhidigoodaaGreatS09i
set_option maxHeartbeats 32000000
open List renaming length_cons → yaz, length_nil → yba, length_map → ybb, take_of_length_le → ybc, drop_append → ybd, take_append → ybe, drop_eq_nil_of_le → ybf, cons_append → yal, nil_append → yak
open Go Go.AL Go.Proofs
namespace Go.AL
set_option linter.all false
set_option maxRecDepth 10000
/-- the bindings of arguments -/
def gH (ps:List SParam) (ws:List Nat):Nat→List (VN × Nat)
 |0=>[]
 |k+1=>gH ps ws k++[(((ps.map (·.name)).getD k [],[]),ws.getD k 0)]
theorem nG {ps:List SParam} {ws:List Nat}:∀ {k:Nat},(gH ps ws k).length=k
 |0=>rfl
 |k+1=>by rw [gH,List.length_append,nG];rfl
def tm:List AV→AHeap→(AV→Prop)→Prop
 |[.agg [a1,a2,.slice _ 2 ap,a3,a4],z],_,K=>∃ (ps:List SParam) (ws:List Nat),(ap=ps.map bK∧ps.length≤1000∧Bq z 2 (il ws))∧K (.slice .any 4 (aN (gH ps ws ps.length)))
 |_,_,_=>False
theorem EW:EntOk Tryz.prog 58 (Ent.pure tm):=by
 refine EntOk.pure fun args H K h=>?_
 unfold tm at h
 split at h
 rotate_left
 ·exact h.elim
 rename_i a1 a2 m ap a3 a4 z
 obtain ⟨ps,ws,⟨rfl,hpl,hz⟩,hK⟩:=h
 refine ⟨_,hK,?_⟩
 clear hK
 obtain ⟨zm,zs,rfl,hzs⟩:∃ zm zs,z=.slice zm zs (il ws)∧(zs=2∨ws=[]):=by
  rcases hz with ⟨zm,rfl⟩|⟨rfl,h⟩
  ·exact ⟨zm,2,rfl,.inl rfl⟩
  ·exact ⟨.nil,1,by rw [h],.inr (List.map_eq_nil_iff.1 h)⟩
 refine ACalls.fW aB (TblOk.cons ne TblOk.nil) Tryz.func58 [.tmp 4] (Nat.le_refl _) (T:=aA []) (h:=fun hcl hlt=>?_)
 have hac:=AV.lt_mono (Nat.le_succ H.nx) _ (hlt (.agg [a1,a2,.slice m 2 (ps.map bK),a3,a4]) (by simp))
 have hm:∀ n',H.nx≤n'→AV.lt n' (.slice zm zs (il ws)):=fun n' hn=>AV.lt_mono hn _ (hlt (.slice zm zs (il ws)) (by simp))
 have hm2:∀ n',H.nx≤n'→AV.lt n' (.slice m 2 (ps.map bK)):=fun n' hn=>by
  have h1:=AV.lt_mono hn _ (hlt (.agg [a1,a2,.slice m 2 (ps.map bK),a3,a4]) (by simp))
  rw [znn] at h1;exact h1.2.2.1
 simp only [znn] at hac
 clear hlt
 have hc0:(((H.push (.cells [a1,a2,.slice m 2 (ps.map bK),a3,a4])).push (.buf 4 0)).push (.buf 4 0)).Closed:=af (af (ae hcl hac))
 have hal:(dx ps).length=ps.length:=by simp [dx]
 simp only [go_sem,ybb]
 refine ⟨ps,⟨rfl,hpl⟩,?_⟩
 simp only [go_sem,bk,hal]
 refine ay (A:=Nat × AHeap) (fun a=>[(1,.slice zm zs (il ws)),(5,.slice (.own (H.nx+1+1)) 4 (aN (gH ps ws a.1))),(10,.slice .any 2 (a9 (dx ps))),(11,.int .i64 (ps.length:Int)),(12,.int .i64 (a.1:Int))]) (fun a=>a.2)
  (fun a=>a.1≤ps.length∧H.Le a.2∧a.2.Closed∧a.2.get (H.nx+1+1)=some (.buf 4 a.1)) (fun a=>ps.length - a.1)
  (0,((H.push (.cells [a1,a2,.slice m 2 (ps.map bK),a3,a4])).push (.buf 4 0)).push (.buf 4 0)) ⟨Nat.zero_le _,by repeat first|exact .refl _|refine .push ?_ _,hc0,by simp only [go_sem]⟩ ?_ fun a ha=>?_
 ·(simp only [bkq,enterW,aI,ltF,ne_eq,Nat.reduceEqDiff,reduceCtorEq,hc0,hm,hm2,ax,aD];try simp (disch:=first|exact Zd|omega) [↓zmk,beq,ybc,ybd,ybe,ag,wk,wk2,wk1,wkM,wkL,au,ybf,byq,biq,ah,hcl,hc0,hm,hm2,ax,aD];try (repeat' (first|assumption|omega|exact True.intro|refine And.intro ?_ ?_|refine af ?_|refine aa ?_|refine ae ?_ ?_|refine ai ?_ ?_|refine aj ?_|exact AHeap.Le.refl _|refine AHeap.Le.push ?_ _|refine AHeap.Le.del ?_ ?_|(simp only [bt,and_true,true_and,hc0,hm,hm2,ax,aD];first|done|omega|(simp;done)))))
  all_goals simp [aN,gH]
 obtain ⟨k,Hc⟩:=a
 obtain ⟨hk,hle,hcc,g1⟩:=ha
 dsimp only at hk hle hcc g1 ⊢
 have nx1:=AHeap.get_lt g1
 simp only [go_sem]
 refine aq (fun hc=>?_) (fun hc=>?_)
 ·have hk1:k<ps.length:=by simp at hc;omega
  have e5:IntKind.i64.wrap ((k:Int)+1)=((k+1:Nat):Int):=by rw [wrap_i64]<;>omega
  have hkv:k<(dx ps).length:=by rw [hal];exact hk1
  have gv:=iS hkv
  have gw:(dx ps)[k]=(ps[k].name,[]):=by simp [dx]
  rw [gw] at gv
  have gp:=cl (f:=bK) (l:=ps) (k:=k) (x:=ps[k]) (List.getElem?_eq_getElem hk1)
  have hgd:(ps.map (·.name)).getD k []=ps[k].name:=by simp [List.getD_eq_getElem?_getD,hk1]
  have r1:((H.nx+1+1)=Hc.nx)=False:=eq_false (by omega)
  have r3:(H.nx=Hc.nx)=False:=eq_false (by omega)
  have r2:((H.nx+1+1)=Hc.nx+1)=False:=eq_false (by omega)
  have hsn:∀ v,ws.getD k 0=v→aN (gH ps ws k)++[.agg [.str ps[k].name,.str [],.int .u64 ((v/2^64:Nat):Int),.int .u64 ((v % 2^64:Nat):Int)]]=aN (gH ps ws (k+1)):=by
   intro v hv
   rw [gH,hgd,hv,gk]
  have hgl:=@nG ps ws k
  by_cases hkw:k<ws.length
  ·have hvg:ws.getD k 0=ws[k]:=by simp [List.getD_eq_getElem?_getD,hkw]
   have d1:decide ((k:Int)<(ws.length:Int))=true:=decide_eq_true (by omega)
   obtain rfl:zs=2:=by
    rcases hzs with h|h
    ·exact h
    ·rw [h] at hkw;exact absurd hkw (by simp)
   simp only [go_sem,bk,hal,ybb,gv,gp,bK,i9,uh hkw,d1,Int.toNat_natCast,e5,r1,r2,r3,if_false,hsn _ hvg,aC,hgl,g1]
   refine ⟨by omega,by omega,⟨by omega,by omega,fun z hz=>by rw [List.mem_singleton.1 hz];rfl⟩,(k+1,Hc.set (H.nx+1+1) (.buf 4 (k+1))),⟨by dsimp only;omega,bj hle (by omega),aa hcc,?_⟩,by dsimp only;omega,?_⟩
   ·dsimp only
    rw [az,if_pos rfl,if_pos nx1]
   ·have hnn:H.nx≤Hc.nx:=by omega
    have hcs:=@aa Hc (H.nx+1+1) 4 (k+1) hcc
    exact Z55
  ·have hvg:ws.getD k 0=0:=by rw [List.getD_eq_getElem?_getD,List.getElem?_eq_none (by omega)];rfl
   have d1:decide ((k:Int)<(ws.length:Int))=false:=decide_eq_false (by omega)
   have hs0:=hsn _ hvg
   simp only [go_sem,bk,hal,ybb,gv,gp,bK,i9,d1,Int.toNat_natCast,e5,r1,r2,r3,if_false,aC,hgl,g1]
   refine ⟨by omega,⟨by omega,by omega,fun z hz=>by rw [List.mem_singleton.1 hz];rfl⟩,(k+1,Hc.set (H.nx+1+1) (.buf 4 (k+1))),⟨by dsimp only;omega,bj hle (by omega),aa hcc,?_⟩,by dsimp only;omega,?_⟩
   ·dsimp only
    rw [az,if_pos rfl,if_pos nx1]
   ·have hnn:H.nx≤Hc.nx:=by omega
    have hcs:=@aa Hc (H.nx+1+1) 4 (k+1) hcc
    exact Z55
 ·have hk1:k=ps.length:=by simp at hc;omega
  subst hk1
  simp only [go_sem]
  exact Z56
def t9:List AV→AHeap→(AV→Prop)→Prop
 |[.agg [a1,a2,.slice _ 2 ap,a3,a4],z],_,K=>∃ (ps:List SParam) (ws:List Nat),(ap=ps.map bK∧ps.length≤1000∧Bq z 2 (il ws))∧K (.slice .any 4 (aN (gH ps ws ps.length)))
 |_,_,_=>False
theorem CZ:EntOk Tryz.prog 63 (Ent.pure t9):=by
 refine EntOk.pure fun args H K h=>?_
 unfold t9 at h
 split at h
 rotate_left
 ·exact h.elim
 rename_i a1 a2 m ap a3 a4 z
 obtain ⟨ps,ws,⟨rfl,hpl,hz⟩,hK⟩:=h
 refine ⟨_,hK,?_⟩
 clear hK
 obtain ⟨zm,zs,rfl,hzs⟩:∃ zm zs,z=.slice zm zs (il ws)∧(zs=2∨ws=[]):=by
  rcases hz with ⟨zm,rfl⟩|⟨rfl,h⟩
  ·exact ⟨zm,2,rfl,.inl rfl⟩
  ·exact ⟨.nil,1,by rw [h],.inr (List.map_eq_nil_iff.1 h)⟩
 refine ACalls.fW aB TblOk.nil Tryz.func63 [.tmp 4] (Nat.le_refl _) (T:=aA []) (h:=fun hcl hlt=>?_)
 have hac:=AV.lt_mono (Nat.le_succ H.nx) _ (hlt (.agg [a1,a2,.slice m 2 (ps.map bK),a3,a4]) (by simp))
 have hm:∀ n',H.nx≤n'→AV.lt n' (.slice zm zs (il ws)):=fun n' hn=>AV.lt_mono hn _ (hlt (.slice zm zs (il ws)) (by simp))
 have hm2:∀ n',H.nx≤n'→AV.lt n' (.slice m 2 (ps.map bK)):=fun n' hn=>by
  have h1:=AV.lt_mono hn _ (hlt (.agg [a1,a2,.slice m 2 (ps.map bK),a3,a4]) (by simp))
  rw [znn] at h1;exact h1.2.2.1
 simp only [znn] at hac
 clear hlt
 have hc0:(((H.push (.cells [a1,a2,.slice m 2 (ps.map bK),a3,a4])).push (.buf 4 0)).push (.buf 4 0)).Closed:=af (af (ae hcl hac))
 have hal:(dx ps).length=ps.length:=by simp [dx]
 simp only [go_sem,ybb]
 refine ay (A:=Nat × AHeap) (fun a=>[(1,.slice zm zs (il ws)),(5,.slice (.own (H.nx+1+1)) 4 (aN (gH ps ws a.1))),(10,.slice m 2 (ps.map bK)),(11,.int .i64 (ps.length:Int)),(12,.int .i64 (a.1:Int))]) (fun a=>a.2)
  (fun a=>a.1≤ps.length∧H.Le a.2∧a.2.Closed∧a.2.get (H.nx+1+1)=some (.buf 4 a.1)) (fun a=>ps.length - a.1)
  (0,((H.push (.cells [a1,a2,.slice m 2 (ps.map bK),a3,a4])).push (.buf 4 0)).push (.buf 4 0)) ⟨Nat.zero_le _,by repeat first|exact .refl _|refine .push ?_ _,hc0,by simp only [go_sem]⟩ ?_ fun a ha=>?_
 ·(simp only [bkq,enterW,aI,ltF,ne_eq,Nat.reduceEqDiff,reduceCtorEq,hc0,hm,hm2,ax,aD];try simp (disch:=first|exact Zd|omega) [↓zmk,beq,ybc,ybd,ybe,ag,wk,wk2,wk1,wkM,wkL,au,ybf,byq,biq,ah,hcl,hc0,hm,hm2,ax,aD];try (repeat' (first|assumption|omega|exact True.intro|refine And.intro ?_ ?_|refine af ?_|refine aa ?_|refine ae ?_ ?_|refine ai ?_ ?_|refine aj ?_|exact AHeap.Le.refl _|refine AHeap.Le.push ?_ _|refine AHeap.Le.del ?_ ?_|(simp only [bt,and_true,true_and,hc0,hm,hm2,ax,aD];first|done|omega|(simp;done)))))
  all_goals simp [aN,gH]
 obtain ⟨k,Hc⟩:=a
 obtain ⟨hk,hle,hcc,g1⟩:=ha
 dsimp only at hk hle hcc g1 ⊢
 have nx1:=AHeap.get_lt g1
 simp only [go_sem]
 refine aq (fun hc=>?_) (fun hc=>?_)
 ·have hk1:k<ps.length:=by simp at hc;omega
  have e5:IntKind.i64.wrap ((k:Int)+1)=((k+1:Nat):Int):=by rw [wrap_i64]<;>omega
  have hkv:k<(dx ps).length:=by rw [hal];exact hk1
  have gv:=iS hkv
  have gw:(dx ps)[k]=(ps[k].name,[]):=by simp [dx]
  rw [gw] at gv
  have gp:=cl (f:=bK) (l:=ps) (k:=k) (x:=ps[k]) (List.getElem?_eq_getElem hk1)
  have hgd:(ps.map (·.name)).getD k []=ps[k].name:=by simp [List.getD_eq_getElem?_getD,hk1]
  have r1:((H.nx+1+1)=Hc.nx)=False:=eq_false (by omega)
  have r3:(H.nx=Hc.nx)=False:=eq_false (by omega)
  have r2:((H.nx+1+1)=Hc.nx+1)=False:=eq_false (by omega)
  have hsn:∀ v,ws.getD k 0=v→aN (gH ps ws k)++[.agg [.str ps[k].name,.str [],.int .u64 ((v/2^64:Nat):Int),.int .u64 ((v % 2^64:Nat):Int)]]=aN (gH ps ws (k+1)):=by
   intro v hv
   rw [gH,hgd,hv,gk]
  have hgl:=@nG ps ws k
  by_cases hkw:k<ws.length
  ·have hvg:ws.getD k 0=ws[k]:=by simp [List.getD_eq_getElem?_getD,hkw]
   have d1:decide ((k:Int)<(ws.length:Int))=true:=decide_eq_true (by omega)
   obtain rfl:zs=2:=by
    rcases hzs with h|h
    ·exact h
    ·rw [h] at hkw;exact absurd hkw (by simp)
   simp only [go_sem,bk,hal,ybb,gv,gp,bK,i9,uh hkw,d1,Int.toNat_natCast,e5,r1,r2,r3,if_false,hsn _ hvg,aC,hgl,g1]
   refine ⟨by omega,by omega,⟨by omega,by omega,fun z hz=>by rw [List.mem_singleton.1 hz];rfl⟩,(k+1,Hc.set (H.nx+1+1) (.buf 4 (k+1))),⟨by dsimp only;omega,bj hle (by omega),aa hcc,?_⟩,by dsimp only;omega,?_⟩
   ·dsimp only
    rw [az,if_pos rfl,if_pos nx1]
   ·have hnn:H.nx≤Hc.nx:=by omega
    have hcs:=@aa Hc (H.nx+1+1) 4 (k+1) hcc
    exact Z55
  ·have hvg:ws.getD k 0=0:=by rw [List.getD_eq_getElem?_getD,List.getElem?_eq_none (by omega)];rfl
   have d1:decide ((k:Int)<(ws.length:Int))=false:=decide_eq_false (by omega)
   have hs0:=hsn _ hvg
   simp only [go_sem,bk,hal,ybb,gv,gp,bK,i9,d1,Int.toNat_natCast,e5,r1,r2,r3,if_false,aC,hgl,g1]
   refine ⟨by omega,⟨by omega,by omega,fun z hz=>by rw [List.mem_singleton.1 hz];rfl⟩,(k+1,Hc.set (H.nx+1+1) (.buf 4 (k+1))),⟨by dsimp only;omega,bj hle (by omega),aa hcc,?_⟩,by dsimp only;omega,?_⟩
   ·dsimp only
    rw [az,if_pos rfl,if_pos nx1]
   ·have hnn:H.nx≤Hc.nx:=by omega
    have hcs:=@aa Hc (H.nx+1+1) 4 (k+1) hcc
    exact Z55
 ·have hk1:k=ps.length:=by simp at hc;omega
  subst hk1
  simp only [go_sem]
  exact Z56
end Go.AL
open Go Go.AL Go.Proofs
namespace Go.AL
set_option linter.all false
set_option maxRecDepth 10000
def Bt:List AV→AHeap→(AV→Prop)→Prop
 |[.int .i64 n],_,K=>n<9223372036854775808∧K (vv n.toNat)
 |_,_,_=>False
theorem Ju:EntOk Tryz.prog 137 (Ent.pure Bt):=by
 refine EntOk.pure fun args H K h=>?_
 unfold Bt at h
 split at h
 rotate_left
 ·exact h.elim
 rename_i n
 obtain ⟨h1,hK⟩:=h
 refine ⟨_,hK,?_⟩
 clear hK
 rw [HH h1]
 have e1:IntKind.u64.wrap (max n 0)=max 0 n:=by rw [cL]<;>omega
 refine ACalls.fW aB TblOk.nil Tryz.func137 [.cell 2 48] (Nat.le_refl _) (T:=aA []) (h:=fun hcl hlt=>?_)
 clear hlt
 simp only [go_sem,e1]
 exact Z0
def BS:List AV→AHeap→(AV→Prop)→Prop
 |[.agg l,.agg [a1,.int .i64 n,a2]],_,K=>∃ S:Sch,(l=br S∧SLen S)∧K (.int .i64 (gh S.fields n))
 |_,_,_=>False
theorem F9:EntOk Tryz.prog 136 (Ent.pure BS):=by
 refine EntOk.pure fun args H K h=>?_
 unfold BS at h
 split at h
 rotate_left
 ·exact h.elim
 rename_i l a1 fld a2
 obtain ⟨S,⟨rfl,hS⟩,hK⟩:=h
 refine ⟨_,hK,?_⟩
 clear hK
 rw [zg]
 obtain ⟨b1,b2⟩:=um (q:=fun f:SField=>f.id==fld) (l:=S.fields) (k:=0)
 rcases b2 with b2|b2
 ·rw [qf b2]
  refine ACalls.fW aB (TblOk.cons sc TblOk.nil) Tryz.func136 [.tmp 4] (Nat.le_refl _) (T:=aA []) (h:=fun hcl hlt=>?_)
  clear hlt
  simp only [go_sem,br,l4]
  refine ⟨S,⟨rfl,hS⟩,?_⟩
  rw [b2]
  have d:decide ((-1:Int)<0)=true:=rfl
  simp only [bv,go_sem,d]
  exact Z0
 ·obtain ⟨i,hi⟩:∃ i:Nat,ixP (fun f:SField=>f.id==fld) S.fields 0=((0+i:Nat):Int):=⟨(ixP (fun f:SField=>f.id==fld) S.fields 0).toNat,by omega⟩
  obtain ⟨y,h1,h2,h3⟩:=sC hi
  rw [h3]
  rw [Nat.zero_add] at hi
  have hil:i<S.fields.length:=by
   rcases Nat.lt_or_ge i S.fields.length with h|h
   ·exact h
   ·rw [List.getElem?_eq_none h] at h1;cases h1
  have hg':=cl (f:=ce) (l:=S.fields) (k:=i) (x:=y) h1
  have d:decide ((i:Int)<0)=false:=by simp
  refine ACalls.fW aB (TblOk.cons sc TblOk.nil) Tryz.func136 [.tmp 4] (Nat.le_refl _) (T:=aA []) (h:=fun hcl hlt=>?_)
  clear hlt
  simp only [go_sem,br,l4]
  refine ⟨S,⟨rfl,hS⟩,?_⟩
  rw [hi]
  simp only [bv,go_sem,d,Int.toNat_natCast,hg',ce,ybb]
  (repeat with_reducible refine And.intro (by first|exact True.intro|decide|omega|(simp [zim,zgm,zgn,zgo,zgq,zgp,zgu];first|done|omega)) ?_)
  exact Z0
end Go.AL
open Go Go.AL Go.Proofs
namespace Go.AL
set_option linter.all false
set_option maxRecDepth 10000
def wN:List AV→AHeap→(AV→Prop)→Prop
 |[.agg l,.agg [a1,a2,.slice _ 3 y,a3,a4,a5,a6,a7],.agg [.int .i64 n1,z,.int .i64 pr,.int .i64 n2,b]],_,K=>∃ (S:Sch) (keys:List SKey) (ms:List SMatch),
   (l=br S∧SLen S∧y=keys.map ct∧keys.length≤1000∧Bq z 8 (ms.map bu)∧ms.length≤4611686018427387904∧(∀ m∈ms,m.pfx<9223372036854775808)∧pr<9223372036854775808) ∧
   K (.slice .any 4 (aN (ke S.fields keys ms pr)))
 |_,_,_=>False
theorem Fe:EntOk Tryz.prog 61 (Ent.pure wN):=by
 refine EntOk.pure fun args H K h=>?_
 unfold wN at h
 split at h
 rotate_left
 ·exact h.elim
 rename_i l a1 a2 m y a3 a4 a5 a6 a7 n1 z pr n2 b
 obtain ⟨S,keys,ms,⟨rfl,hS,rfl,hkl,hz,hml,hmp,hpr⟩,hK⟩:=h
 refine ⟨_,hK,?_⟩
 clear hK
 refine ACalls.fW aB (TblOk.cons F9 (TblOk.cons Ju (TblOk.cons FD TblOk.nil))) Tryz.func61 [.tmp 6] (Nat.le_refl _) (T:=aA [(15,[[],[],[],[],[],[],[],[],[],[],[9],[],[2,4,7,9,10],[2,4,7,9,10]])]) (h:=fun hcl hlt=>?_)
 have hsc:=AV.lt_mono (Nat.le_succ H.nx) _ (hlt (.agg (br S)) (by simp))
 have htc:=fun n' (hn:H.nx≤n')=>AV.lt_mono hn _ (hlt (.agg [a1,a2,.slice m 3 (keys.map ct),a3,a4,a5,a6,a7]) (by simp))
 have hec:=fun n' (hn:H.nx≤n')=>AV.lt_mono hn _ (hlt (.agg [.int .i64 n1,z,.int .i64 pr,.int .i64 n2,b]) (by simp))
 have hm:∀ n',H.nx≤n'→AV.lt n' (.slice m 3 (keys.map ct)):=fun n' hn=>by have h1:=htc n' hn;rw [znn] at h1;exact h1.2.2.1
 obtain ⟨zm,zs,rfl,hzs⟩:∃ zm zs,z=.slice zm zs (ms.map bu)∧(zs=8∨ms=[]):=by
  rcases hz with ⟨zm,rfl⟩|⟨rfl,h⟩
  ·exact ⟨zm,8,rfl,.inl rfl⟩
  ·exact ⟨.nil,1,by rw [h],.inr (List.map_eq_nil_iff.1 h)⟩
 simp only [znn] at hsc htc hec
 clear hlt
 simp only [go_sem,bC]
 have hc0:(((((H.push (.cells (br S))).push (.cells [a1,a2,.slice m 3 (keys.map ct),a3,a4,a5,a6,a7])).push (.cells [.int .i64 n1,.slice zm zs (ms.map bu),.int .i64 pr,.int .i64 n2,b])).push (.buf 4 0)).push (.buf 4 0)).Closed :=
  af (af (ae (ae (ae hcl hsc) (htc _ (by simp only [go_sem];omega))) (hec _ (by simp only [go_sem];omega))))
 refine ay (A:=Nat × AHeap) (fun a=>[(3,.ptr H.nx 0),(5,.ptr (H.nx+1+1) 0),(7,.slice (.own (H.nx+1+1+1+1)) 4 (aN (bF S.fields keys ms a.1))),(13,.slice m 3 (keys.map ct)),(14,.int .i64 (keys.length:Int)),(15,.int .i64 (a.1:Int))]) (fun a=>a.2)
  (fun a=>a.1≤keys.length∧H.Le a.2∧a.2.Closed∧a.2.get H.nx=some (.cells (br S))∧a.2.get (H.nx+1+1)=some (.cells [.int .i64 n1,.slice zm zs (ms.map bu),.int .i64 pr,.int .i64 n2,b])∧a.2.get (H.nx+1+1+1+1)=some (.buf 4 (bF S.fields keys ms a.1).length)) (fun a=>keys.length - a.1)
  (0,(((((H.push (.cells (br S))).push (.cells [a1,a2,.slice m 3 (keys.map ct),a3,a4,a5,a6,a7])).push (.cells [.int .i64 n1,.slice zm zs (ms.map bu),.int .i64 pr,.int .i64 n2,b])).push (.buf 4 0)).push (.buf 4 0))) ⟨Nat.zero_le _,by repeat first|exact .refl _|refine .push ?_ _,hc0,by simp only [go_sem],by simp only [go_sem],by simp only [go_sem];rfl⟩ ?_ fun a ha=>?_
 ·(simp only [bkq,enterW,aI,ltF,ne_eq,Nat.reduceEqDiff,reduceCtorEq,hc0,hm,ax];try simp (disch:=first|exact Zd|omega) [↓zmk,beq,ybc,ybd,ybe,ag,wk,wk2,wk1,wkM,wkL,au,ybf,byq,biq,ah,hcl,hc0,hm,ax];try (repeat' (first|assumption|omega|exact True.intro|refine And.intro ?_ ?_|refine af ?_|refine aa ?_|refine ae ?_ ?_|refine ai ?_ ?_|refine aj ?_|exact AHeap.Le.refl _|refine AHeap.Le.push ?_ _|refine AHeap.Le.del ?_ ?_|(simp only [bt,and_true,true_and,hc0,hm,ax];first|done|omega|(simp;done)))))
  simp [aN,bF]
 obtain ⟨k,Hc⟩:=a
 obtain ⟨hk,hle,hcc,g1,g2,g3⟩:=ha
 dsimp only at hk hle hcc g1 g2 g3 ⊢
 have nx3:=AHeap.get_lt g3
 simp only [go_sem]
 refine aq (fun hc=>?_) (fun hc=>?_)
 ·have hk1:k<keys.length:=by simp at hc;omega
  have e5:IntKind.i64.wrap ((k:Int)+1)=((k+1:Nat):Int):=by rw [wrap_i64]<;>omega
  have r1:(H.nx=Hc.nx)=False:=eq_false (by omega)
  have r2:(H.nx=Hc.nx+1)=False:=eq_false (by omega)
  have r3:(H.nx=Hc.nx+1+1)=False:=eq_false (by omega)
  have r4:(H.nx+1+1=Hc.nx)=False:=eq_false (by omega)
  have r5:(H.nx+1+1=Hc.nx+1)=False:=eq_false (by omega)
  have r6:(H.nx+1+1=Hc.nx+1+1)=False:=eq_false (by omega)
  have r7:(H.nx+1+1+1+1=Hc.nx)=False:=eq_false (by omega)
  have r8:(H.nx+1+1+1+1=Hc.nx+1)=False:=eq_false (by omega)
  have r9:(H.nx+1+1+1+1=Hc.nx+1+1)=False:=eq_false (by omega)
  have r10:(H.nx+1=Hc.nx)=False:=eq_false (by omega)
  have r11:(H.nx+1+1+1=Hc.nx)=False:=eq_false (by omega)
  have r12:(H.nx+1+1+1=Hc.nx+1)=False:=eq_false (by omega)
  obtain ⟨LL,hLL⟩:∃ LL,bF S.fields keys ms k=LL:=⟨_,rfl⟩
  have hll:LL.length≤2*k:=by rw [← hLL];exact gV
  have hkt:∀ X,ms.getD k cS=X→bF S.fields keys ms (k+1)=LL++dU S.fields keys[k] X:=by
   intro X hX
   rw [bF,hLL]
   unfold pZ
   rw [List.getElem?_eq_getElem hk1]
   dsimp only
   rw [hX]
  rw [hLL] at g3
  rw [hLL]
  obtain ⟨q,hq⟩:∃ q,keys[k]=q:=⟨_,rfl⟩
  have hkg:=jv hk1
  rw [hq] at hkg hkt
  by_cases hkm:k<ms.length
  ·have d1:decide ((k:Int)<(ms.length:Int))=true:=decide_eq_true (by omega)
   obtain rfl:zs=8:=by
    rcases hzs with h|h
    ·exact h
    ·rw [h] at hkm;exact absurd hkm (by simp)
   obtain ⟨X,hX⟩:∃ X,ms[k]=X:=⟨_,rfl⟩
   have hXp:X.pfx<9223372036854775808:=by rw [← hX];exact hmp _ (List.getElem_mem hkm)
   have hkt:=hkt X (by simp only [List.getD_eq_getElem?_getD,List.getElem?_eq_getElem hkm,Option.getD_some];exact hX)
   have hgm:=cl (f:=bu) (l:=ms) (k:=k) (x:=X) (by rw [List.getElem?_eq_getElem hkm,hX])
   cases hpres:X.present with
   |true =>
    have hs10:(br S).length=10:=rfl
    have ht10:(br S).take 10=br S:=rfl
    have hle10:(10≤10)=True:=eq_true (Nat.le_refl _)
    rcases (by omega:q.kind=1∨q.kind=2∨q.kind=3∨q.kind=4∨(q.kind≠1∧q.kind≠2∧q.kind≠3∧q.kind≠4)) with hkd|hkd|hkd|hkd|⟨hq1,hq2,hq3,hq4⟩
    ·skip
     have hrow:aN LL++[.agg [.str q.name,.str [],.int .u64 ((X.value/2^64:Nat):Int),.int .u64 ((X.value % 2^64:Nat):Int)],.agg [.str q.name,.str [118,97,108,117,101],.int .u64 ((X.value/2^64:Nat):Int),.int .u64 ((X.value % 2^64:Nat):Int)]]=aN (bF S.fields keys ms (k+1)):=by
      rw [hkt];simp [aN,gA,dU,dd,hkd,gD,oG,kD,kS,hpres,]
     have hln:(bF S.fields keys ms (k+1)).length=LL.length+2:=by rw [hkt];simp [dU,dd,hkd]
     have c1:(q.kind==1)=true:=by rw [hkd];rfl
     have c2:(q.kind==2)=false:=by rw [hkd];rfl
     have c3:(q.kind==3)=false:=by rw [hkd];rfl
     have c4:(q.kind==4)=false:=by rw [hkd];rfl
     simp only [go_sem,hkg,bC,Int.toNat_natCast,g1,av g1,g2,av g2,g3,r1,r2,r3,r4,r5,r6,r7,r8,r9,r10,r11,r12,if_false,d1,ybb,e5,hgm,bu,ea,vc,yal,yak,List.append_assoc,hpres,c1,c2,c3,c4,hs10,ht10,hle10,aC]
     refine ⟨by omega,by omega,⟨by omega,by omega,fun z hz=>by
      rcases List.mem_cons.1 hz with rfl|hz
      ·rfl
      ·rw [List.mem_singleton.1 hz];rfl⟩,(k+1,Hc.set (H.nx+1+1+1+1) (.buf 4 (LL.length+2))),⟨by dsimp only;omega,bj hle (by omega),aa hcc,?_,?_,?_⟩,by dsimp only;omega,?_⟩
     ·dsimp only
      rw [az,if_neg (by omega)];exact g1
     ·dsimp only
      rw [az,if_neg (by omega)];exact g2
     ·dsimp only
      rw [az,if_pos rfl,if_pos nx3,hln]
     ·have hnn:H.nx≤Hc.nx:=by omega
      have hcs:=@aa Hc (H.nx+1+1+1+1) 4 (LL.length+2) hcc
      dsimp only
      try simp only [hrow]
      exact Z57
    ·skip
     have hrow:aN LL++[.agg [.str q.name,.str [118,97,108,117,101],.int .u64 ((X.value/2^64:Nat):Int),.int .u64 ((X.value % 2^64:Nat):Int)],.agg [.str q.name,.str [112,114,101,102,105,120,95,108,101,110,103,116,104],.int .u64 ((X.pfx.toNat/2^64:Nat):Int),.int .u64 ((X.pfx.toNat % 2^64:Nat):Int)]]=aN (bF S.fields keys ms (k+1)):=by
      rw [hkt];simp [aN,gA,dU,dd,hkd,gD,oG,kD,kS,hpres,]
     have hln:(bF S.fields keys ms (k+1)).length=LL.length+2:=by rw [hkt];simp [dU,dd,hkd]
     have c1:(q.kind==1)=false:=by rw [hkd];rfl
     have c2:(q.kind==2)=true:=by rw [hkd];rfl
     have c3:(q.kind==3)=false:=by rw [hkd];rfl
     have c4:(q.kind==4)=false:=by rw [hkd];rfl
     simp only [go_sem,hkg,bC,Int.toNat_natCast,g1,av g1,g2,av g2,g3,r1,r2,r3,r4,r5,r6,r7,r8,r9,r10,r11,r12,if_false,d1,ybb,e5,hgm,bu,ea,vc,yal,yak,List.append_assoc,hpres,c1,c2,c3,c4,hs10,ht10,hle10,aC]
     refine ⟨by omega,by omega,hXp,?_⟩
     simp only [go_sem,hkg,bC,Int.toNat_natCast,g1,av g1,g2,av g2,g3,r1,r2,r3,r4,r5,r6,r7,r8,r9,r10,r11,r12,if_false,d1,ybb,e5,c1,c2,c3,c4,vv,aC]
     refine ⟨⟨by omega,by omega,fun z hz=>by
      rcases List.mem_cons.1 hz with rfl|hz
      ·rfl
      ·rw [List.mem_singleton.1 hz];rfl⟩,(k+1,Hc.set (H.nx+1+1+1+1) (.buf 4 (LL.length+2))),⟨by dsimp only;omega,bj hle (by omega),aa hcc,?_,?_,?_⟩,by dsimp only;omega,?_⟩
     ·dsimp only
      rw [az,if_neg (by omega)];exact g1
     ·dsimp only
      rw [az,if_neg (by omega)];exact g2
     ·dsimp only
      rw [az,if_pos rfl,if_pos nx3,hln]
     ·have hnn:H.nx≤Hc.nx:=by omega
      have hcs:=@aa Hc (H.nx+1+1+1+1) 4 (LL.length+2) hcc
      dsimp only
      try simp only [hrow]
      exact Z57
    ·skip
     have hrow:aN LL++[.agg [.str q.name,.str [118,97,108,117,101],.int .u64 ((X.value/2^64:Nat):Int),.int .u64 ((X.value % 2^64:Nat):Int)],.agg [.str q.name,.str [109,97,115,107],.int .u64 ((X.mask/2^64:Nat):Int),.int .u64 ((X.mask % 2^64:Nat):Int)]]=aN (bF S.fields keys ms (k+1)):=by
      rw [hkt];simp [aN,gA,dU,dd,hkd,gD,oG,kD,kS,hpres,]
     have hln:(bF S.fields keys ms (k+1)).length=LL.length+2:=by rw [hkt];simp [dU,dd,hkd]
     have c1:(q.kind==1)=false:=by rw [hkd];rfl
     have c2:(q.kind==2)=false:=by rw [hkd];rfl
     have c3:(q.kind==3)=true:=by rw [hkd];rfl
     have c4:(q.kind==4)=false:=by rw [hkd];rfl
     simp only [go_sem,hkg,bC,Int.toNat_natCast,g1,av g1,g2,av g2,g3,r1,r2,r3,r4,r5,r6,r7,r8,r9,r10,r11,r12,if_false,d1,ybb,e5,hgm,bu,ea,vc,yal,yak,List.append_assoc,hpres,c1,c2,c3,c4,hs10,ht10,hle10,aC]
     refine ⟨by omega,by omega,⟨by omega,by omega,fun z hz=>by
      rcases List.mem_cons.1 hz with rfl|hz
      ·rfl
      ·rw [List.mem_singleton.1 hz];rfl⟩,(k+1,Hc.set (H.nx+1+1+1+1) (.buf 4 (LL.length+2))),⟨by dsimp only;omega,bj hle (by omega),aa hcc,?_,?_,?_⟩,by dsimp only;omega,?_⟩
     ·dsimp only
      rw [az,if_neg (by omega)];exact g1
     ·dsimp only
      rw [az,if_neg (by omega)];exact g2
     ·dsimp only
      rw [az,if_pos rfl,if_pos nx3,hln]
     ·have hnn:H.nx≤Hc.nx:=by omega
      have hcs:=@aa Hc (H.nx+1+1+1+1) 4 (LL.length+2) hcc
      dsimp only
      try simp only [hrow]
      exact Z57
    ·skip
     have hrow:aN LL++[.agg [.str q.name,.str [108,111,119],.int .u64 ((X.value/2^64:Nat):Int),.int .u64 ((X.value % 2^64:Nat):Int)],.agg [.str q.name,.str [104,105,103,104],.int .u64 ((X.high/2^64:Nat):Int),.int .u64 ((X.high % 2^64:Nat):Int)]]=aN (bF S.fields keys ms (k+1)):=by
      rw [hkt];simp [aN,gA,dU,dd,hkd,gD,oG,kD,kS,hpres,]
     have hln:(bF S.fields keys ms (k+1)).length=LL.length+2:=by rw [hkt];simp [dU,dd,hkd]
     have c1:(q.kind==1)=false:=by rw [hkd];rfl
     have c2:(q.kind==2)=false:=by rw [hkd];rfl
     have c3:(q.kind==3)=false:=by rw [hkd];rfl
     have c4:(q.kind==4)=true:=by rw [hkd];rfl
     simp only [go_sem,hkg,bC,Int.toNat_natCast,g1,av g1,g2,av g2,g3,r1,r2,r3,r4,r5,r6,r7,r8,r9,r10,r11,r12,if_false,d1,ybb,e5,hgm,bu,ea,vc,yal,yak,List.append_assoc,hpres,c1,c2,c3,c4,hs10,ht10,hle10,aC]
     refine ⟨by omega,by omega,⟨by omega,by omega,fun z hz=>by
      rcases List.mem_cons.1 hz with rfl|hz
      ·rfl
      ·rw [List.mem_singleton.1 hz];rfl⟩,(k+1,Hc.set (H.nx+1+1+1+1) (.buf 4 (LL.length+2))),⟨by dsimp only;omega,bj hle (by omega),aa hcc,?_,?_,?_⟩,by dsimp only;omega,?_⟩
     ·dsimp only
      rw [az,if_neg (by omega)];exact g1
     ·dsimp only
      rw [az,if_neg (by omega)];exact g2
     ·dsimp only
      rw [az,if_pos rfl,if_pos nx3,hln]
     ·have hnn:H.nx≤Hc.nx:=by omega
      have hcs:=@aa Hc (H.nx+1+1+1+1) 4 (LL.length+2) hcc
      dsimp only
      try simp only [hrow]
      exact Z57
    ·skip
     have hrow:bF S.fields keys ms (k+1)=LL:=by rw [hkt];simp [dU,dd,hq1,hq2,hq3,hq4]
     have c1:(q.kind==1)=false:=by simp [hq1]
     have c2:(q.kind==2)=false:=by simp [hq2]
     have c3:(q.kind==3)=false:=by simp [hq3]
     have c4:(q.kind==4)=false:=by simp [hq4]
     simp only [go_sem,hkg,bC,Int.toNat_natCast,g1,av g1,g2,av g2,g3,r1,r2,r3,r4,r5,r6,r7,r8,r9,r10,r11,r12,if_false,d1,ybb,e5,hgm,bu,ea,vc,yal,yak,List.append_assoc,hpres,c1,c2,c3,c4,hs10,ht10,hle10,aC]
     refine ⟨by omega,by omega,(k+1,Hc),⟨by dsimp only;omega,hle,hcc,g1,g2,by dsimp only;rw [hrow];exact g3⟩,by dsimp only;omega,?_⟩
     have hnn:H.nx≤Hc.nx:=by omega
     dsimp only
     simp only [hrow]
     exact Z58
   |false =>
    have hs10:(br S).length=10:=rfl
    have ht10:(br S).take 10=br S:=rfl
    have hle10:(10≤10)=True:=eq_true (Nat.le_refl _)
    rcases (by omega:q.kind=1∨q.kind=2∨q.kind=3∨q.kind=4∨(q.kind≠1∧q.kind≠2∧q.kind≠3∧q.kind≠4)) with hkd|hkd|hkd|hkd|⟨hq1,hq2,hq3,hq4⟩
    ·skip
     have hrow:aN LL++[.agg [.str q.name,.str [],.int .u64 ((X.value/2^64:Nat):Int),.int .u64 ((X.value % 2^64:Nat):Int)],.agg [.str q.name,.str [118,97,108,117,101],.int .u64 ((X.value/2^64:Nat):Int),.int .u64 ((X.value % 2^64:Nat):Int)]]=aN (bF S.fields keys ms (k+1)):=by
      rw [hkt];simp [aN,gA,dU,dd,hkd,gD,oG,kD,kS,hpres,]
     have hln:(bF S.fields keys ms (k+1)).length=LL.length+2:=by rw [hkt];simp [dU,dd,hkd]
     have c1:(q.kind==1)=true:=by rw [hkd];rfl
     have c2:(q.kind==2)=false:=by rw [hkd];rfl
     have c3:(q.kind==3)=false:=by rw [hkd];rfl
     have c4:(q.kind==4)=false:=by rw [hkd];rfl
     simp only [go_sem,hkg,bC,Int.toNat_natCast,g1,av g1,g2,av g2,g3,r1,r2,r3,r4,r5,r6,r7,r8,r9,r10,r11,r12,if_false,d1,ybb,e5,hgm,bu,ea,vc,yal,yak,List.append_assoc,hpres,c1,c2,c3,c4,hs10,ht10,hle10,aC]
     refine ⟨by omega,by omega,S,⟨rfl,hS⟩,?_⟩
     simp only [go_sem,hkg,bC,Int.toNat_natCast,g1,av g1,g2,av g2,g3,r1,r2,r3,r4,r5,r6,r7,r8,r9,r10,r11,r12,if_false,d1,ybb,e5,c1,c2,c3,c4,gM,vv,aC]
     refine ⟨⟨by omega,by omega,fun z hz=>by
      rcases List.mem_cons.1 hz with rfl|hz
      ·rfl
      ·rw [List.mem_singleton.1 hz];rfl⟩,(k+1,Hc.set (H.nx+1+1+1+1) (.buf 4 (LL.length+2))),⟨by dsimp only;omega,bj hle (by omega),aa hcc,?_,?_,?_⟩,by dsimp only;omega,?_⟩
     ·dsimp only
      rw [az,if_neg (by omega)];exact g1
     ·dsimp only
      rw [az,if_neg (by omega)];exact g2
     ·dsimp only
      rw [az,if_pos rfl,if_pos nx3,hln]
     ·have hnn:H.nx≤Hc.nx:=by omega
      have hcs:=@aa Hc (H.nx+1+1+1+1) 4 (LL.length+2) hcc
      dsimp only
      try simp only [hrow]
      exact Z57
    ·skip
     have hrow:aN LL++[.agg [.str q.name,.str [118,97,108,117,101],.int .u64 ((X.value/2^64:Nat):Int),.int .u64 ((X.value % 2^64:Nat):Int)],.agg [.str q.name,.str [112,114,101,102,105,120,95,108,101,110,103,116,104],.int .u64 ((X.pfx.toNat/2^64:Nat):Int),.int .u64 ((X.pfx.toNat % 2^64:Nat):Int)]]=aN (bF S.fields keys ms (k+1)):=by
      rw [hkt];simp [aN,gA,dU,dd,hkd,gD,oG,kD,kS,hpres,]
     have hln:(bF S.fields keys ms (k+1)).length=LL.length+2:=by rw [hkt];simp [dU,dd,hkd]
     have c1:(q.kind==1)=false:=by rw [hkd];rfl
     have c2:(q.kind==2)=true:=by rw [hkd];rfl
     have c3:(q.kind==3)=false:=by rw [hkd];rfl
     have c4:(q.kind==4)=false:=by rw [hkd];rfl
     simp only [go_sem,hkg,bC,Int.toNat_natCast,g1,av g1,g2,av g2,g3,r1,r2,r3,r4,r5,r6,r7,r8,r9,r10,r11,r12,if_false,d1,ybb,e5,hgm,bu,ea,vc,yal,yak,List.append_assoc,hpres,c1,c2,c3,c4,hs10,ht10,hle10,aC]
     refine ⟨by omega,by omega,S,⟨rfl,hS⟩,?_⟩
     simp only [go_sem,hkg,bC,Int.toNat_natCast,g1,av g1,g2,av g2,g3,r1,r2,r3,r4,r5,r6,r7,r8,r9,r10,r11,r12,if_false,d1,ybb,e5,c1,c2,c3,c4,gM,vv,aC]
     refine ⟨hXp,?_⟩
     simp only [go_sem,hkg,bC,Int.toNat_natCast,g1,av g1,g2,av g2,g3,r1,r2,r3,r4,r5,r6,r7,r8,r9,r10,r11,r12,if_false,d1,ybb,e5,c1,c2,c3,c4,vv,aC]
     refine ⟨⟨by omega,by omega,fun z hz=>by
      rcases List.mem_cons.1 hz with rfl|hz
      ·rfl
      ·rw [List.mem_singleton.1 hz];rfl⟩,(k+1,Hc.set (H.nx+1+1+1+1) (.buf 4 (LL.length+2))),⟨by dsimp only;omega,bj hle (by omega),aa hcc,?_,?_,?_⟩,by dsimp only;omega,?_⟩
     ·dsimp only
      rw [az,if_neg (by omega)];exact g1
     ·dsimp only
      rw [az,if_neg (by omega)];exact g2
     ·dsimp only
      rw [az,if_pos rfl,if_pos nx3,hln]
     ·have hnn:H.nx≤Hc.nx:=by omega
      have hcs:=@aa Hc (H.nx+1+1+1+1) 4 (LL.length+2) hcc
      dsimp only
      try simp only [hrow]
      exact Z57
    ·skip
     have hrow:aN LL++[.agg [.str q.name,.str [118,97,108,117,101],.int .u64 ((X.value/2^64:Nat):Int),.int .u64 ((X.value % 2^64:Nat):Int)],.agg [.str q.name,.str [109,97,115,107],.int .u64 ((X.mask/2^64:Nat):Int),.int .u64 ((X.mask % 2^64:Nat):Int)]]=aN (bF S.fields keys ms (k+1)):=by
      rw [hkt];simp [aN,gA,dU,dd,hkd,gD,oG,kD,kS,hpres,]
     have hln:(bF S.fields keys ms (k+1)).length=LL.length+2:=by rw [hkt];simp [dU,dd,hkd]
     have c1:(q.kind==1)=false:=by rw [hkd];rfl
     have c2:(q.kind==2)=false:=by rw [hkd];rfl
     have c3:(q.kind==3)=true:=by rw [hkd];rfl
     have c4:(q.kind==4)=false:=by rw [hkd];rfl
     simp only [go_sem,hkg,bC,Int.toNat_natCast,g1,av g1,g2,av g2,g3,r1,r2,r3,r4,r5,r6,r7,r8,r9,r10,r11,r12,if_false,d1,ybb,e5,hgm,bu,ea,vc,yal,yak,List.append_assoc,hpres,c1,c2,c3,c4,hs10,ht10,hle10,aC]
     refine ⟨by omega,by omega,S,⟨rfl,hS⟩,?_⟩
     simp only [go_sem,hkg,bC,Int.toNat_natCast,g1,av g1,g2,av g2,g3,r1,r2,r3,r4,r5,r6,r7,r8,r9,r10,r11,r12,if_false,d1,ybb,e5,c1,c2,c3,c4,gM,vv,aC]
     refine ⟨⟨by omega,by omega,fun z hz=>by
      rcases List.mem_cons.1 hz with rfl|hz
      ·rfl
      ·rw [List.mem_singleton.1 hz];rfl⟩,(k+1,Hc.set (H.nx+1+1+1+1) (.buf 4 (LL.length+2))),⟨by dsimp only;omega,bj hle (by omega),aa hcc,?_,?_,?_⟩,by dsimp only;omega,?_⟩
     ·dsimp only
      rw [az,if_neg (by omega)];exact g1
     ·dsimp only
      rw [az,if_neg (by omega)];exact g2
     ·dsimp only
      rw [az,if_pos rfl,if_pos nx3,hln]
     ·have hnn:H.nx≤Hc.nx:=by omega
      have hcs:=@aa Hc (H.nx+1+1+1+1) 4 (LL.length+2) hcc
      dsimp only
      try simp only [hrow]
      exact Z57
    ·skip
     have hrow:aN LL++[.agg [.str q.name,.str [108,111,119],.int .u64 ((X.value/2^64:Nat):Int),.int .u64 ((X.value % 2^64:Nat):Int)],.agg [.str q.name,.str [104,105,103,104],.int .u64 ((kh (gh S.fields q.field)/2^64:Nat):Int),.int .u64 ((kh (gh S.fields q.field) % 2^64:Nat):Int)]]=aN (bF S.fields keys ms (k+1)):=by
      rw [hkt];simp [aN,gA,dU,dd,hkd,gD,oG,kD,kS,hpres,]
     have hln:(bF S.fields keys ms (k+1)).length=LL.length+2:=by rw [hkt];simp [dU,dd,hkd]
     have c1:(q.kind==1)=false:=by rw [hkd];rfl
     have c2:(q.kind==2)=false:=by rw [hkd];rfl
     have c3:(q.kind==3)=false:=by rw [hkd];rfl
     have c4:(q.kind==4)=true:=by rw [hkd];rfl
     simp only [go_sem,hkg,bC,Int.toNat_natCast,g1,av g1,g2,av g2,g3,r1,r2,r3,r4,r5,r6,r7,r8,r9,r10,r11,r12,if_false,d1,ybb,e5,hgm,bu,ea,vc,yal,yak,List.append_assoc,hpres,c1,c2,c3,c4,hs10,ht10,hle10,aC]
     refine ⟨by omega,by omega,S,⟨rfl,hS⟩,?_⟩
     simp only [go_sem,hkg,bC,Int.toNat_natCast,g1,av g1,g2,av g2,g3,r1,r2,r3,r4,r5,r6,r7,r8,r9,r10,r11,r12,if_false,d1,ybb,e5,c1,c2,c3,c4,gM,vv,aC]
     refine ⟨⟨by omega,by omega,fun z hz=>by
      rcases List.mem_cons.1 hz with rfl|hz
      ·rfl
      ·rw [List.mem_singleton.1 hz];rfl⟩,(k+1,Hc.set (H.nx+1+1+1+1) (.buf 4 (LL.length+2))),⟨by dsimp only;omega,bj hle (by omega),aa hcc,?_,?_,?_⟩,by dsimp only;omega,?_⟩
     ·dsimp only
      rw [az,if_neg (by omega)];exact g1
     ·dsimp only
      rw [az,if_neg (by omega)];exact g2
     ·dsimp only
      rw [az,if_pos rfl,if_pos nx3,hln]
     ·have hnn:H.nx≤Hc.nx:=by omega
      have hcs:=@aa Hc (H.nx+1+1+1+1) 4 (LL.length+2) hcc
      dsimp only
      try simp only [hrow]
      exact Z57
    ·skip
     have hrow:bF S.fields keys ms (k+1)=LL:=by rw [hkt];simp [dU,dd,hq1,hq2,hq3,hq4]
     have c1:(q.kind==1)=false:=by simp [hq1]
     have c2:(q.kind==2)=false:=by simp [hq2]
     have c3:(q.kind==3)=false:=by simp [hq3]
     have c4:(q.kind==4)=false:=by simp [hq4]
     simp only [go_sem,hkg,bC,Int.toNat_natCast,g1,av g1,g2,av g2,g3,r1,r2,r3,r4,r5,r6,r7,r8,r9,r10,r11,r12,if_false,d1,ybb,e5,hgm,bu,ea,vc,yal,yak,List.append_assoc,hpres,c1,c2,c3,c4,hs10,ht10,hle10,aC]
     refine ⟨by omega,by omega,S,⟨rfl,hS⟩,?_⟩
     simp only [go_sem,hkg,bC,Int.toNat_natCast,g1,av g1,g2,av g2,g3,r1,r2,r3,r4,r5,r6,r7,r8,r9,r10,r11,r12,if_false,d1,ybb,e5,c1,c2,c3,c4,gM,vv,aC]
     refine ⟨(k+1,Hc),⟨by dsimp only;omega,hle,hcc,g1,g2,by dsimp only;rw [hrow];exact g3⟩,by dsimp only;omega,?_⟩
     have hnn:H.nx≤Hc.nx:=by omega
     dsimp only
     simp only [hrow]
     exact Z58
  ·have d1:decide ((k:Int)<(ms.length:Int))=false:=decide_eq_false (by omega)
   have hkt:=hkt cS (by simp only [List.getD_eq_getElem?_getD,List.getElem?_eq_none (show ms.length≤k by omega),Option.getD_none])
   have hs10:(br S).length=10:=rfl
   have ht10:(br S).take 10=br S:=rfl
   have hle10:(10≤10)=True:=eq_true (Nat.le_refl _)
   rcases (by omega:q.kind=1∨q.kind=2∨q.kind=3∨q.kind=4∨(q.kind≠1∧q.kind≠2∧q.kind≠3∧q.kind≠4)) with hkd|hkd|hkd|hkd|⟨hq1,hq2,hq3,hq4⟩
   ·skip
    have hrow:aN LL++[.agg [.str q.name,.str [],.int .u64 0,.int .u64 0],.agg [.str q.name,.str [118,97,108,117,101],.int .u64 0,.int .u64 0]]=aN (bF S.fields keys ms (k+1)):=by
     rw [hkt];simp [aN,gA,dU,dd,hkd,gD,oG,kD,kS,cS,]
    have hln:(bF S.fields keys ms (k+1)).length=LL.length+2:=by rw [hkt];simp [dU,dd,hkd]
    have c1:(q.kind==1)=true:=by rw [hkd];rfl
    have c2:(q.kind==2)=false:=by rw [hkd];rfl
    have c3:(q.kind==3)=false:=by rw [hkd];rfl
    have c4:(q.kind==4)=false:=by rw [hkd];rfl
    simp only [go_sem,hkg,bC,Int.toNat_natCast,g1,av g1,g2,av g2,g3,r1,r2,r3,r4,r5,r6,r7,r8,r9,r10,r11,r12,if_false,d1,ybb,e5,c1,c2,c3,c4,hs10,ht10,hle10,aC]
    refine ⟨by omega,S,⟨rfl,hS⟩,?_⟩
    simp only [go_sem,hkg,bC,Int.toNat_natCast,g1,av g1,g2,av g2,g3,r1,r2,r3,r4,r5,r6,r7,r8,r9,r10,r11,r12,if_false,d1,ybb,e5,c1,c2,c3,c4,gM,vv,aC]
    refine ⟨⟨by omega,by omega,fun z hz=>by
     rcases List.mem_cons.1 hz with rfl|hz
     ·rfl
     ·rw [List.mem_singleton.1 hz];rfl⟩,(k+1,Hc.set (H.nx+1+1+1+1) (.buf 4 (LL.length+2))),⟨by dsimp only;omega,bj hle (by omega),aa hcc,?_,?_,?_⟩,by dsimp only;omega,?_⟩
    ·dsimp only
     rw [az,if_neg (by omega)];exact g1
    ·dsimp only
     rw [az,if_neg (by omega)];exact g2
    ·dsimp only
     rw [az,if_pos rfl,if_pos nx3,hln]
    ·have hnn:H.nx≤Hc.nx:=by omega
     have hcs:=@aa Hc (H.nx+1+1+1+1) 4 (LL.length+2) hcc
     dsimp only
     try simp only [hrow]
     exact Z57
   ·skip
    have hrow:aN LL++[.agg [.str q.name,.str [118,97,108,117,101],.int .u64 0,.int .u64 0],.agg [.str q.name,.str [112,114,101,102,105,120,95,108,101,110,103,116,104],.int .u64 (((0:Int).toNat/2^64:Nat):Int),.int .u64 (((0:Int).toNat % 2^64:Nat):Int)]]=aN (bF S.fields keys ms (k+1)):=by
     rw [hkt];simp [aN,gA,dU,dd,hkd,gD,oG,kD,kS,cS,]
    have hln:(bF S.fields keys ms (k+1)).length=LL.length+2:=by rw [hkt];simp [dU,dd,hkd]
    have c1:(q.kind==1)=false:=by rw [hkd];rfl
    have c2:(q.kind==2)=true:=by rw [hkd];rfl
    have c3:(q.kind==3)=false:=by rw [hkd];rfl
    have c4:(q.kind==4)=false:=by rw [hkd];rfl
    simp only [go_sem,hkg,bC,Int.toNat_natCast,g1,av g1,g2,av g2,g3,r1,r2,r3,r4,r5,r6,r7,r8,r9,r10,r11,r12,if_false,d1,ybb,e5,c1,c2,c3,c4,hs10,ht10,hle10,aC]
    refine ⟨by omega,S,⟨rfl,hS⟩,?_⟩
    simp only [go_sem,hkg,bC,Int.toNat_natCast,g1,av g1,g2,av g2,g3,r1,r2,r3,r4,r5,r6,r7,r8,r9,r10,r11,r12,if_false,d1,ybb,e5,c1,c2,c3,c4,gM,vv,aC]
    refine ⟨by decide,?_⟩
    simp only [go_sem,hkg,bC,Int.toNat_natCast,g1,av g1,g2,av g2,g3,r1,r2,r3,r4,r5,r6,r7,r8,r9,r10,r11,r12,if_false,d1,ybb,e5,c1,c2,c3,c4,vv,aC]
    refine ⟨⟨by omega,by omega,fun z hz=>by
     rcases List.mem_cons.1 hz with rfl|hz
     ·rfl
     ·rw [List.mem_singleton.1 hz];rfl⟩,(k+1,Hc.set (H.nx+1+1+1+1) (.buf 4 (LL.length+2))),⟨by dsimp only;omega,bj hle (by omega),aa hcc,?_,?_,?_⟩,by dsimp only;omega,?_⟩
    ·dsimp only
     rw [az,if_neg (by omega)];exact g1
    ·dsimp only
     rw [az,if_neg (by omega)];exact g2
    ·dsimp only
     rw [az,if_pos rfl,if_pos nx3,hln]
    ·have hnn:H.nx≤Hc.nx:=by omega
     have hcs:=@aa Hc (H.nx+1+1+1+1) 4 (LL.length+2) hcc
     dsimp only
     try simp only [hrow]
     exact Z57
   ·skip
    have hrow:aN LL++[.agg [.str q.name,.str [118,97,108,117,101],.int .u64 0,.int .u64 0],.agg [.str q.name,.str [109,97,115,107],.int .u64 0,.int .u64 0]]=aN (bF S.fields keys ms (k+1)):=by
     rw [hkt];simp [aN,gA,dU,dd,hkd,gD,oG,kD,kS,cS,]
    have hln:(bF S.fields keys ms (k+1)).length=LL.length+2:=by rw [hkt];simp [dU,dd,hkd]
    have c1:(q.kind==1)=false:=by rw [hkd];rfl
    have c2:(q.kind==2)=false:=by rw [hkd];rfl
    have c3:(q.kind==3)=true:=by rw [hkd];rfl
    have c4:(q.kind==4)=false:=by rw [hkd];rfl
    simp only [go_sem,hkg,bC,Int.toNat_natCast,g1,av g1,g2,av g2,g3,r1,r2,r3,r4,r5,r6,r7,r8,r9,r10,r11,r12,if_false,d1,ybb,e5,c1,c2,c3,c4,hs10,ht10,hle10,aC]
    refine ⟨by omega,S,⟨rfl,hS⟩,?_⟩
    simp only [go_sem,hkg,bC,Int.toNat_natCast,g1,av g1,g2,av g2,g3,r1,r2,r3,r4,r5,r6,r7,r8,r9,r10,r11,r12,if_false,d1,ybb,e5,c1,c2,c3,c4,gM,vv,aC]
    refine ⟨⟨by omega,by omega,fun z hz=>by
     rcases List.mem_cons.1 hz with rfl|hz
     ·rfl
     ·rw [List.mem_singleton.1 hz];rfl⟩,(k+1,Hc.set (H.nx+1+1+1+1) (.buf 4 (LL.length+2))),⟨by dsimp only;omega,bj hle (by omega),aa hcc,?_,?_,?_⟩,by dsimp only;omega,?_⟩
    ·dsimp only
     rw [az,if_neg (by omega)];exact g1
    ·dsimp only
     rw [az,if_neg (by omega)];exact g2
    ·dsimp only
     rw [az,if_pos rfl,if_pos nx3,hln]
    ·have hnn:H.nx≤Hc.nx:=by omega
     have hcs:=@aa Hc (H.nx+1+1+1+1) 4 (LL.length+2) hcc
     dsimp only
     try simp only [hrow]
     exact Z57
   ·skip
    have hrow:aN LL++[.agg [.str q.name,.str [108,111,119],.int .u64 0,.int .u64 0],.agg [.str q.name,.str [104,105,103,104],.int .u64 ((kh (gh S.fields q.field)/2^64:Nat):Int),.int .u64 ((kh (gh S.fields q.field) % 2^64:Nat):Int)]]=aN (bF S.fields keys ms (k+1)):=by
     rw [hkt];simp [aN,gA,dU,dd,hkd,gD,oG,kD,kS,cS,]
    have hln:(bF S.fields keys ms (k+1)).length=LL.length+2:=by rw [hkt];simp [dU,dd,hkd]
    have c1:(q.kind==1)=false:=by rw [hkd];rfl
    have c2:(q.kind==2)=false:=by rw [hkd];rfl
    have c3:(q.kind==3)=false:=by rw [hkd];rfl
    have c4:(q.kind==4)=true:=by rw [hkd];rfl
    simp only [go_sem,hkg,bC,Int.toNat_natCast,g1,av g1,g2,av g2,g3,r1,r2,r3,r4,r5,r6,r7,r8,r9,r10,r11,r12,if_false,d1,ybb,e5,c1,c2,c3,c4,hs10,ht10,hle10,aC]
    refine ⟨by omega,S,⟨rfl,hS⟩,?_⟩
    simp only [go_sem,hkg,bC,Int.toNat_natCast,g1,av g1,g2,av g2,g3,r1,r2,r3,r4,r5,r6,r7,r8,r9,r10,r11,r12,if_false,d1,ybb,e5,c1,c2,c3,c4,gM,vv,aC]
    refine ⟨⟨by omega,by omega,fun z hz=>by
     rcases List.mem_cons.1 hz with rfl|hz
     ·rfl
     ·rw [List.mem_singleton.1 hz];rfl⟩,(k+1,Hc.set (H.nx+1+1+1+1) (.buf 4 (LL.length+2))),⟨by dsimp only;omega,bj hle (by omega),aa hcc,?_,?_,?_⟩,by dsimp only;omega,?_⟩
    ·dsimp only
     rw [az,if_neg (by omega)];exact g1
    ·dsimp only
     rw [az,if_neg (by omega)];exact g2
    ·dsimp only
     rw [az,if_pos rfl,if_pos nx3,hln]
    ·have hnn:H.nx≤Hc.nx:=by omega
     have hcs:=@aa Hc (H.nx+1+1+1+1) 4 (LL.length+2) hcc
     dsimp only
     try simp only [hrow]
     exact Z57
   ·skip
    have hrow:bF S.fields keys ms (k+1)=LL:=by rw [hkt];simp [dU,dd,hq1,hq2,hq3,hq4]
    have c1:(q.kind==1)=false:=by simp [hq1]
    have c2:(q.kind==2)=false:=by simp [hq2]
    have c3:(q.kind==3)=false:=by simp [hq3]
    have c4:(q.kind==4)=false:=by simp [hq4]
    simp only [go_sem,hkg,bC,Int.toNat_natCast,g1,av g1,g2,av g2,g3,r1,r2,r3,r4,r5,r6,r7,r8,r9,r10,r11,r12,if_false,d1,ybb,e5,c1,c2,c3,c4,hs10,ht10,hle10,aC]
    refine ⟨by omega,S,⟨rfl,hS⟩,?_⟩
    simp only [go_sem,hkg,bC,Int.toNat_natCast,g1,av g1,g2,av g2,g3,r1,r2,r3,r4,r5,r6,r7,r8,r9,r10,r11,r12,if_false,d1,ybb,e5,c1,c2,c3,c4,gM,vv,aC]
    refine ⟨(k+1,Hc),⟨by dsimp only;omega,hle,hcc,g1,g2,by dsimp only;rw [hrow];exact g3⟩,by dsimp only;omega,?_⟩
    have hnn:H.nx≤Hc.nx:=by omega
    dsimp only
    simp only [hrow]
    exact Z58
 ·have hk1:k=keys.length:=by simp at hc;omega
  subst hk1
  have hbl:=@gV S.fields keys ms keys.length
  simp only [go_sem,g2,av g2,g3,Bt,aC,vv]
  refine ⟨hpr,?_⟩
  have n6:(H.nx+1+1+1+1=Hc.nx)=False:=eq_false (by omega)
  have hsn:=gk (l:=bF S.fields keys ms keys.length) (a:=[112,114,105,111,114,105,116,121]) (b:=[]) (v:=pr.toNat)
  have htb:ke S.fields keys ms pr=bF S.fields keys ms keys.length++[(([112,114,105,111,114,105,116,121],[]),pr.toNat)]:=rfl
  rw [htb]
  generalize bF S.fields keys ms keys.length=G at *
  simp only [n6,if_false]
  refine ⟨⟨trivial,by omega,by omega,fun z hz=>by rw [List.mem_singleton.1 hz];rfl⟩,?_⟩
  rw [hsn]
  have hle3:=(bj hle (show H.nx≤(H.nx+1+1+1+1) by omega) (o:=.buf 4 (G.length+1))).push (.buf 4 1)
  exact Z54
end Go.AL
open Go Go.AL Go.Proofs
namespace Go.AL
set_option linter.all false
set_option maxRecDepth 10000
theorem In:ti Tryz.prog 67=some ⟨.struct [(0,3,false),(1,9,false),(2,65,false),(3,56,false),(4,3,false),(5,24,false),(6,3,false),(7,9,false)],8,128,.agg [.int .i64 0,.str [],.slice .nil 1 [],.slice .nil 1 [],.int .i64 0,.slice .nil 1 [],.int .i64 0,.str []]⟩:=by kernel_rfl
theorem Iv:ti Tryz.prog 103=some ⟨.struct [(0,3,false),(1,9,false),(2,100,false),(3,101,false),(4,9,false)],5,88,.agg [.int .i64 0,.str [],.slice .nil 1 [],.slice .nil 1 [],.str []]⟩:=by kernel_rfl
theorem Jt:ti Tryz.prog 26=some ⟨.struct [(0,3,false),(1,23,false),(2,3,false),(3,3,false),(4,24,false)],5,72,.agg [.int .i64 0,.slice .nil 1 [],.int .i64 0,.int .i64 0,.slice .nil 1 []]⟩:=by kernel_rfl
theorem IZ:ti Tryz.prog 36=some ⟨.struct [(0,27,false),(1,28,false),(2,29,false),(3,30,false),(4,31,false),(5,32,false),(6,33,false),(7,34,false),(8,3,false),(9,3,false)],10,208,.agg [.slice .nil 1 [],.slice .nil 1 [],.slice .nil 1 [],.slice .nil 1 [],.slice .nil 1 [],.slice .nil 1 [],.slice .nil 1 [],.slice .nil 1 [],.int .i64 0,.int .i64 0]⟩:=by kernel_rfl
attribute [go_sem] In Iv Jt IZ
end Go.AL
