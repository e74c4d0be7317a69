/- Lemmas of the proof; no condition. -/
import Derived.Test.YtjnhidpnfdbmaaaGreatS09i
import Derived.Test.YtjnhidpnfdbmaaaGreatS10r
import Derived.Test.YtjnhidpnfdbmaaaGreatS08k
set_option linter.all false
set_option maxRecDepth 10000
open Go Go.AL Go.Proofs
namespace Go.AL
def jM (ps:List SParam) (ws:List Nat):Nat→List (VN × Nat)
 |0=>[]
 |k+1=>jM ps ws k++[(((ps.map (·.name)).getD k [],[]),ws.getD k 0)]
theorem qF {ps:List SParam} {ws:List Nat}:∀ {k:Nat},(jM ps ws k).length=k
 |0=>rfl
 |k+1=>by rw [jM,lAq,qF];rfl
def uG:List AV→AHeap→(AV→Prop)→Prop
 |[.agg [a1,a2,.slice _ 2 ap,a3,a4],z],_,K=>∃ (ps:List SParam) (ws:List Nat),(ap=ps.map cq∧ps.length≤1000∧Gh z 2 (lI ws))∧K (.slice .any 4 (cz (jM ps ws ps.length)))
 |_,_,_=>False
set_option maxHeartbeats 2000000 in
theorem Ew:EntOk Tryz.prog 83 (Ent.pure uG):=by
 refine Ype fun _ H K h=>?_
 unfold uG at h
 split at h
 rotate_left
 ·exact h.elim
 rename_i a1 a2 m ap a3 a4 z
 obtain ⟨ps,ws,⟨rfl,hpl,hz⟩,hK⟩:=h
 refine ⟨_,hK,?_⟩
 clear hK
 obtain ⟨zm,zs,rfl,hzs⟩:∃ zm zs,z=.slice zm zs (lI ws)∧(zs=2∨ws=[]):=by
  rcases hz with ⟨zm,rfl⟩|⟨rfl,h⟩
  ·exact ⟨zm,2,rfl,.inl rfl⟩
  ·exact ⟨.nil,1,by rw [h],.inr (List.map_eq_nil_iff.1 h)⟩
 refine ACalls.fW au (tCq nb tNq) Tryz.func83 [.tmp 4] (nrq _) (T:=aq []) (h:=fun hcl hlt=>?_)
 have hac:=AV.lt_mono (Nat.le_succ H.nx) _ (hlt (.agg [a1,a2,.slice m 2 (ps.map cq),a3,a4]) (by simp))
 have hm:∀ n',H.nx≤n'→AV.lt n' (.slice zm zs (lI ws)):=fun n' hn=>AV.lt_mono hn _ (hlt (.slice zm zs (lI ws)) (by simp))
 have hm2:∀ n',H.nx≤n'→AV.lt n' (.slice m 2 (ps.map cq)):=fun n' hn=>by
  have h1:=AV.lt_mono hn _ (hlt (.agg [a1,a2,.slice m 2 (ps.map cq),a3,a4]) (by simp))
  rw [znr] at h1;exact h1.2.2.1
 simp only [znr] at hac
 clear hlt
 have hc0:(((H.push (.cells [a1,a2,.slice m 2 (ps.map cq),a3,a4])).push (.buf 4 0)).push (.buf 4 0)).Closed:=ag (ag (aa hcl hac))
 have hal:(gq ps).length=ps.length:=by simp [gq]
 simp only [go_sem,List.length_map]
 refine ⟨ps,⟨rfl,hpl⟩,?_⟩
 simp only [go_sem,bV,hal]
 refine az (A:=Nat × AHeap) (fun a=>[(1,.slice zm zs (lI ws)),(5,.slice (.own (H.nx+1+1)) 4 (cz (jM ps ws a.1))),(10,.slice .any 2 (cd (gq ps))),(11,.int .i64 (ps.length:Int)),(12,.int .i64 (a.1:Int))]) (fun a=>a.2)
  (fun a=>a.1≤ps.length∧H.Le a.2∧a.2.Closed∧a.2.get (H.nx+1+1)=some (.buf 4 a.1)) (fun a=>ps.length - a.1)
  (0,((H.push (.cells [a1,a2,.slice m 2 (ps.map cq),a3,a4])).push (.buf 4 0)).push (.buf 4 0)) ⟨Nat.zero_le _,by repeat first|exact .refl _|refine .push ?_ _,hc0,by simp only [go_sem]⟩ ?_ fun a ha=>?_
 ·(simp only [bkq,enterW,aJ,ltF,ne_eq,Nat.reduceEqDiff,reduceCtorEq,hc0,hm,hm2,bd,aY];try simp (disch:=first|exact Zd|omega) [↓zmo,beq,List.take_of_length_le,List.drop_append,List.take_append,ae,wk,wk2,wk1,wkM,wkL,ah,List.drop_eq_nil_of_le,byq,biq,aG,hcl,hc0,hm,hm2,bd,aY];try (repeat' (first|assumption|omega|exact True.intro|refine And.intro ?_ ?_|refine ag ?_|refine af ?_|refine aa ?_ ?_|refine aj ?_ ?_|refine ay ?_|exact lRq _|refine lPq ?_ _|refine AHeap.Le.del ?_ ?_|(simp only [bt,and_true,true_and,hc0,hm,hm2,bd,aY];first|done|omega|(simp;done)))))
  all_goals simp [cz,jM]
 obtain ⟨k,Hc⟩:=a
 obtain ⟨hk,hle,hcc,g1⟩:=ha
 dsimp only at hk hle hcc g1 ⊢
 have nx1:=glq g1
 simp only [go_sem]
 refine ai (fun hc=>?_) (fun hc=>?_)
 ·have hk1:k<ps.length:=by simp at hc;omega
  have e5:=Yk5 k
  have hkv:k<(gq ps).length:=by rw [hal];exact hk1
  have gv:=lA hkv
  have gw:(gq ps)[k]=(ps[k].name,[]):=by simp [gq]
  rw [gw] at gv
  have gp:=aU (f:=cq) (l:=ps) (k:=k) (x:=ps[k]) (gQq hk1)
  have hgd:(ps.map (·.name)).getD k []=ps[k].name:=by simp [gEq,hk1]
  have r1:((H.nx+1+1)=Hc.nx)=False:=eq_false (by omega)
  have r3:(H.nx=Hc.nx)=False:=eq_false (by omega)
  have r2:((H.nx+1+1)=Hc.nx+1)=False:=eq_false (by omega)
  have hsn:∀ v,ws.getD k 0=v→cz (jM ps ws k)++[.agg [.str ps[k].name,.str [],.int .u64 ((v/2^64:Nat):Int),.int .u64 ((v % 2^64:Nat):Int)]]=cz (jM ps ws (k+1)):=by
   intro v hv
   rw [jM,hgd,hv,jt]
  have hgl:=@qF ps ws k
  by_cases hkw:k<ws.length
  ·have hvg:ws.getD k 0=ws[k]:=by simp [gEq,hkw]
   have d1:decide ((k:Int)<(ws.length:Int))=true:=dtq (by omega)
   obtain rfl:zs=2:=by
    rcases hzs with h|h
    ·exact h
    ·rw [h] at hkw;exact absurd hkw (by simp)
   simp only [go_sem,bV,hal,List.length_map,gv,gp,cq,nN,Bd hkw,d1,iNq,e5,r1,r2,r3,if_false,hsn _ hvg,bT,hgl,g1]
   refine ⟨by omega,by omega,⟨by omega,by omega,fun z hz=>by rw [List.mem_singleton.1 hz];rfl⟩,(k+1,Hc.set (H.nx+1+1) (.buf 4 (k+1))),⟨by dsimp only;omega,cU hle (by omega),af hcc,?_⟩,by dsimp only;omega,?_⟩
   ·dsimp only
    rw [bv,if_pos rfl,if_pos nx1]
   ·have hnn:H.nx≤Hc.nx:=by omega
    have hcs:=@af Hc (H.nx+1+1) 4 (k+1) hcc
    exact Z28
  ·have hvg:ws.getD k 0=0:=by rw [gEq,gNq (by omega)];rfl
   have d1:decide ((k:Int)<(ws.length:Int))=false:=dfq (by omega)
   have hs0:=hsn _ hvg
   simp only [go_sem,bV,hal,List.length_map,gv,gp,cq,nN,d1,iNq,e5,r1,r2,r3,if_false,bT,hgl,g1]
   refine ⟨by omega,⟨by omega,by omega,fun z hz=>by rw [List.mem_singleton.1 hz];rfl⟩,(k+1,Hc.set (H.nx+1+1) (.buf 4 (k+1))),⟨by dsimp only;omega,cU hle (by omega),af hcc,?_⟩,by dsimp only;omega,?_⟩
   ·dsimp only
    rw [bv,if_pos rfl,if_pos nx1]
   ·have hnn:H.nx≤Hc.nx:=by omega
    have hcs:=@af Hc (H.nx+1+1) 4 (k+1) hcc
    exact Z28
 ·have hk1:k=ps.length:=by simp at hc;omega
  subst hk1
  simp only [go_sem]
  simp (disch:=first|exact Zd|omega) [↓zmo,beq,List.take_of_length_le,List.drop_append,List.take_append,ae,wk,wk2,wk1,wkM,wkL,ah,List.drop_eq_nil_of_le,hcl,hle,bd]
theorem JM:ti Tryz.prog 91=some ⟨.struct [(0,3,false),(1,9,false),(2,89,false),(3,50,false),(4,3,false),(5,24,false),(6,3,false),(7,9,false)],8,128,.agg [.int .i64 0,.str [],.slice .nil 1 [],.slice .nil 1 [],.int .i64 0,.slice .nil 1 [],.int .i64 0,.str []]⟩:=by kernel_rfl
theorem J4:ti Tryz.prog 107=some ⟨.struct [(0,3,false),(1,9,false),(2,104,false),(3,105,false),(4,9,false)],5,88,.agg [.int .i64 0,.str [],.slice .nil 1 [],.slice .nil 1 [],.str []]⟩:=by kernel_rfl
theorem H5:ti Tryz.prog 26=some ⟨.struct [(0,3,false),(1,23,false),(2,3,false),(3,3,false),(4,24,false)],5,72,.agg [.int .i64 0,.slice .nil 1 [],.int .i64 0,.int .i64 0,.slice .nil 1 []]⟩:=by kernel_rfl
theorem Ic:ti Tryz.prog 39=some ⟨.struct [(0,30,false),(1,31,false),(2,32,false),(3,33,false),(4,34,false),(5,35,false),(6,36,false),(7,37,false),(8,3,false),(9,3,false)],10,208,.agg [.slice .nil 1 [],.slice .nil 1 [],.slice .nil 1 [],.slice .nil 1 [],.slice .nil 1 [],.slice .nil 1 [],.slice .nil 1 [],.slice .nil 1 [],.int .i64 0,.int .i64 0]⟩:=by kernel_rfl
attribute [go_sem] JM J4 H5 Ic
end Go.AL
