/- Lemmas of the proof; no condition. -/
import Derived.Test.YtpbnggedofiinaaGreatW03u
set_option linter.all false
set_option maxRecDepth 10000
set_option maxHeartbeats 32000000
open List renaming length_cons → yaz, length_nil → yba, length_map → ybb, take_of_length_le → ybc, drop_append → ybd, take_append → ybe, drop_eq_nil_of_le → ybf, cons_append → yal, nil_append → yak
open Go Go.AL Go.Proofs
namespace Go.AL
def bn:List AV→AHeap→(AV→Prop)→Prop
 |[.agg l,.agg k],_,K=>∃ x y:Sch,(l=a9 x∧k=a9 y∧CSch x∧CSch y)∧K (.bool (eqL gB x.fields y.fields&&(eqL i0 x.headers y.headers&&eqL i5 x.states y.states)))
 |_,_,_=>False
theorem fU:EntOk Tryz.prog 86 (Ent.pure bn):=by
 refine Ype fun _ H K h=>?_
 unfold bn at h
 split at h
 rotate_left
 ·exact h.elim
 rename_i l k
 obtain ⟨X,Y,⟨rfl,rfl,hX,hY⟩,hK⟩:=h
 refine ⟨_,hK,?_⟩
 clear hK
 have hC1:=kA (n:=H.nx+1) X
 have hC2:=kA (n:=H.nx+1+1) Y
 simp only [fL,znr] at hC1 hC2
 have hl1:=hX.h
 have hl2:=hX.s
 obtain ⟨A0,hA⟩:∃ R,(eqL gB X.fields Y.fields)=R:=⟨_,rfl⟩
 obtain ⟨B1,hB1⟩:∃ R,eqL i0 X.headers Y.headers=R:=⟨_,rfl⟩
 obtain ⟨B2,hB2⟩:∃ R,eqL i5 X.states Y.states=R:=⟨_,rfl⟩
 rw [hA,hB1,hB2]
 cases A0
 ·rw [Bool.false_and]
  refine ACalls.fW ag (tCq oO (tCq eS (tCq oC tNq))) Tryz.func86 [.tmp 4] (nrq _) (T:=af []) (h:=fun hcl hlt=>?_)
  clear hlt
  simp only [go_sem,mS,a9,ybb,true_and]
  refine ⟨X.fields,Y.fields,⟨rfl,rfl,hX.f,hY.f⟩,?_⟩
  try simp only [go_sem,hA,Bool.not_true,Bool.not_false,ybb]
  first
   |(simp (disch:=first|exact Zd|omega) [↓zmo,beq,ybc,ybd,ybe,aa,wk,wk2,wk1,wkM,wkL,ak,ybf,hcl];repeat first|exact .refl _|refine .push ?_ _)
   |(refine ⟨?_,by repeat first|exact .refl _|refine .push ?_ _,hcl,?_⟩
     ·simp [wk,wk2,wk1]
     ·simp [zng];done)
 by_cases hlen_Hdr:X.headers.length=Y.headers.length
 case neg =>
  rw [cf hlen_Hdr] at hB1
  subst hB1
  have d0:((X.headers.length:Int) != (Y.headers.length:Int))=true:=by rw [bne_iff_ne];omega
  simp only [Bool.false_and,Bool.and_false]
  refine ACalls.fW ag (tCq oO (tCq eS (tCq oC tNq))) Tryz.func86 [.tmp 4] (nrq _) (T:=af []) (h:=fun hcl hlt=>?_)
  clear hlt
  simp only [go_sem,mS,a9,ybb,true_and,d0]
  refine ⟨X.fields,Y.fields,⟨rfl,rfl,hX.f,hY.f⟩,?_⟩
  try simp only [go_sem,hA,Bool.not_true,Bool.not_false,ybb,d0]
  first
   |(simp (disch:=first|exact Zd|omega) [↓zmo,beq,ybc,ybd,ybe,aa,wk,wk2,wk1,wkM,wkL,ak,ybf,hcl];repeat first|exact .refl _|refine .push ?_ _)
   |(refine ⟨?_,by repeat first|exact .refl _|refine .push ?_ _,hcl,?_⟩
     ·simp [wk,wk2,wk1]
     ·simp [zng];done)
 have d1:((X.headers.length:Int) != (Y.headers.length:Int))=false:=by rw [hlen_Hdr];simp
 by_cases hlen_Sta:X.states.length=Y.states.length
 case neg =>
  rw [cf hlen_Sta] at hB2
  subst hB2
  have d0:((X.states.length:Int) != (Y.states.length:Int))=true:=by rw [bne_iff_ne];omega
  simp only [Bool.false_and,Bool.and_false]
  refine ACalls.fW ag (tCq oO (tCq eS (tCq oC tNq))) Tryz.func86 [.tmp 4] (nrq _) (T:=af []) (h:=fun hcl hlt=>?_)
  clear hlt
  simp only [go_sem,mS,a9,ybb,true_and,d0,d1]
  refine ⟨X.fields,Y.fields,⟨rfl,rfl,hX.f,hY.f⟩,?_⟩
  try simp only [go_sem,hA,Bool.not_true,Bool.not_false,ybb,d0,d1]
  first
   |(simp (disch:=first|exact Zd|omega) [↓zmo,beq,ybc,ybd,ybe,aa,wk,wk2,wk1,wkM,wkL,ak,ybf,hcl];repeat first|exact .refl _|refine .push ?_ _)
   |(refine ⟨?_,by repeat first|exact .refl _|refine .push ?_ _,hcl,?_⟩
     ·simp [wk,wk2,wk1]
     ·simp [zng];done)
 have d2:((X.states.length:Int) != (Y.states.length:Int))=false:=by rw [hlen_Sta];simp
 refine ACalls.fW ag (tCq oO (tCq eS (tCq oC tNq))) Tryz.func86 [.tmp 4] (nrq _) (T:=af []) (h:=fun hcl hlt=>?_)
 clear hlt
 simp only [go_sem,mS,a9,ybb,true_and,d1,d2]
 refine ⟨X.fields,Y.fields,⟨rfl,rfl,hX.f,hY.f⟩,?_⟩
 try simp only [go_sem,hA,Bool.not_true,Bool.not_false,ybb,d1,d2]
 have hcl2:((H.push (.cells (a9 X))).push (.cells (a9 Y))).Closed:=aj (aj hcl hC1) hC2
 refine aq (A:=Nat) (fun k=>[(2,.ptr H.nx 0),(3,.ptr (H.nx+1) 0),(36,.slice .any 3 (X.headers.map bc)),(37,.int .i64 (X.headers.length:Int)),(38,.int .i64 (k:Int))]) (fun _=>((H.push (.cells (a9 X))).push (.cells (a9 Y)))) (fun k=>k≤X.headers.length∧eqL i0 (X.headers.drop k) (Y.headers.drop k)=B1) (fun k=>X.headers.length - k) 0 ⟨by omega,hB1⟩ ?_ fun k hk=>?_
 ·refine ⟨by simp only [zkq,zkv,zle];omega,by repeat first|exact .refl _|refine .push ?_ _,hcl2,?_,?_⟩
  ·first|(simp [ltF,zle,znn,znf,aA fm];done)|(simp [ltF,zle,znn,znf,aA fm];omega)
  ·simp [aM,wk2,wk1,wkM,Fr.get]
 obtain ⟨hk,hq⟩:=hk
 simp only [go_sem]
 refine ae (fun hc=>?_) (fun hc=>?_)
 ·have hk':k<X.headers.length:=by simp at hc;omega
  have hk2:k<Y.headers.length:=by omega
  obtain ⟨x,hx⟩:∃ x,x=X.headers[k]:=⟨_,rfl⟩
  obtain ⟨y,hy⟩:∃ y,y=Y.headers[k]:=⟨_,rfl⟩
  have hd:X.headers.drop k=x::X.headers.drop (k+1):=by rw [hx];exact dcq hk'
  have hd2:Y.headers.drop k=y::Y.headers.drop (k+1):=by rw [hy];exact dcq hk2
  have hg:=av (f:=bc) (l:=X.headers) (k:=k) (x:=x) (by rw [gQq hk',hx])
  have hg2:=av (f:=bc) (l:=Y.headers) (k:=k) (x:=y) (by rw [gQq hk2,hy])
  have e5:=Yk5 k
  have hox:ub x:=hX.h' x (by rw [hx];exact gMq hk')
  have hoy:ub y:=hY.h' y (by rw [hy];exact gMq hk2)
  rw [hd,hd2] at hq
  unfold eqL at hq
  obtain ⟨G,hG⟩:∃ G,i0 x y=G:=⟨_,rfl⟩
  rw [hG] at hq
  unfold i0 at hG
  simp only [go_sem,iNq,ybb,hg,hg2,bc,a9]
  (repeat with_reducible refine And.intro (by first|assumption|decide|omega) ?_)
  try simp only [go_sem,iNq,ybb,hg,hg2,bc]
  (repeat with_reducible refine And.intro (by first|assumption|decide|omega) ?_)
  cases h0:(x.id==y.id)
  ·have b0:(x.id != y.id)=true:=by rw [bne,h0];rfl
   simp only [h0,Bool.false_and,Bool.and_false,Bool.true_and] at hG
   subst hG
   rw [Bool.false_and] at hq
   try simp only [go_sem,byq,bp,h0,b0,true_and,Bool.bne_false,Bool.bne_true,Bool.not_true,Bool.not_false]
   rw [← hq]
   simp only [Bool.false_and,Bool.and_false]
   try simp only [go_sem]
   first
    |(simp (disch:=first|exact Zd|omega) [↓zmo,beq,ybc,ybd,ybe,aa,wk,wk2,wk1,wkM,wkL,ak,ybf,hcl];repeat first|exact .refl _|refine .push ?_ _)
    |(refine ⟨?_,by repeat first|exact .refl _|refine .push ?_ _,hcl,?_⟩
      ·simp [wk,wk2,wk1]
      ·simp [zng];done)
  have b0:(x.id != y.id)=false:=by rw [bne,h0];rfl
  cases h1:(x.name==y.name)
  ·have b1:(x.name != y.name)=true:=by rw [bne,h1];rfl
   simp only [h0,h1,Bool.false_and,Bool.and_false,Bool.true_and] at hG
   subst hG
   rw [Bool.false_and] at hq
   try simp only [go_sem,byq,bp,h0,b0,h1,b1,true_and,Bool.bne_false,Bool.bne_true,Bool.not_true,Bool.not_false]
   rw [← hq]
   simp only [Bool.false_and,Bool.and_false]
   try simp only [go_sem]
   first
    |(simp (disch:=first|exact Zd|omega) [↓zmo,beq,ybc,ybd,ybe,aa,wk,wk2,wk1,wkM,wkL,ak,ybf,hcl];repeat first|exact .refl _|refine .push ?_ _)
    |(refine ⟨?_,by repeat first|exact .refl _|refine .push ?_ _,hcl,?_⟩
      ·simp [wk,wk2,wk1]
      ·simp [zng];done)
  have b1:(x.name != y.name)=false:=by rw [bne,h1];rfl
  cases h2:(eqL eqI x.fields y.fields)
  ·simp only [h0,h1,h2,Bool.false_and,Bool.and_false,Bool.true_and] at hG
   subst hG
   rw [Bool.false_and] at hq
   try simp only [go_sem,byq,bp,h0,b0,h1,b1,h2,true_and,Bool.bne_false,Bool.bne_true,Bool.not_true,Bool.not_false]
   refine ⟨x.fields,y.fields,⟨rfl,rfl,hox,hoy⟩,?_⟩
   try simp only [go_sem,byq,bp,h0,b0,h1,b1,h2,true_and,Bool.bne_false,Bool.bne_true,Bool.not_true,Bool.not_false]
   rw [← hq]
   simp only [Bool.false_and,Bool.and_false]
   try simp only [go_sem]
   first
    |(simp (disch:=first|exact Zd|omega) [↓zmo,beq,ybc,ybd,ybe,aa,wk,wk2,wk1,wkM,wkL,ak,ybf,hcl];repeat first|exact .refl _|refine .push ?_ _)
    |(refine ⟨?_,by repeat first|exact .refl _|refine .push ?_ _,hcl,?_⟩
      ·simp [wk,wk2,wk1]
      ·simp [zng];done)
  simp only [h0,h1,h2,Bool.and_true,Bool.true_and] at hG
  subst hG
  rw [Bool.true_and] at hq
  try simp only [go_sem,byq,bp,h0,b0,h1,b1,h2,true_and,Bool.bne_false,Bool.bne_true,Bool.not_true,Bool.not_false]
  refine ⟨x.fields,y.fields,⟨rfl,rfl,hox,hoy⟩,?_⟩
  try simp only [go_sem,byq,bp,h0,b0,h1,b1,h2,true_and,Bool.bne_false,Bool.bne_true,Bool.not_true,Bool.not_false]
  try simp only [go_sem,e5]
  refine ⟨k+1,⟨by omega,hq⟩,by omega,by (try simp only [zkq,zkv,zle]);omega,by repeat first|exact .refl _|refine .push ?_ _,hcl2,?_,?_⟩
  ·first|(simp [ltF,zle,znn,znf,aA fm];done)|(simp [ltF,zle,znn,znf,aA fm];omega)
  ·simp [aM,wk2,wk1,wkM,Fr.get]
 have hk':k=X.headers.length:=by simp at hc;omega
 subst hk'
 rw [List.drop_length,hlen_Hdr,List.drop_length] at hq
 unfold eqL at hq
 subst hq
 simp only [go_sem,a9,ybb]
 refine aq (A:=Nat) (fun k=>[(3,.ptr (H.nx+1) 0),(70,.slice .any 5 (X.states.map a0)),(71,.int .i64 (X.states.length:Int)),(72,.int .i64 (k:Int))]) (fun _=>((H.push (.cells (a9 X))).push (.cells (a9 Y)))) (fun k=>k≤X.states.length∧eqL i5 (X.states.drop k) (Y.states.drop k)=B2) (fun k=>X.states.length - k) 0 ⟨by omega,hB2⟩ ?_ fun k hk=>?_
 ·refine ⟨by simp only [zkq,zkv,zle];omega,by repeat first|exact .refl _|refine .push ?_ _,hcl2,?_,?_⟩
  ·first|(simp [ltF,zle,znn,znf,aA gc];done)|(simp [ltF,zle,znn,znf,aA gc];omega)
  ·simp [aM,wk2,wk1,wkM,Fr.get]
 obtain ⟨hk,hq⟩:=hk
 simp only [go_sem]
 refine ae (fun hc=>?_) (fun hc=>?_)
 ·have hk':k<X.states.length:=by simp at hc;omega
  have hk2:k<Y.states.length:=by omega
  obtain ⟨x,hx⟩:∃ x,x=X.states[k]:=⟨_,rfl⟩
  obtain ⟨y,hy⟩:∃ y,y=Y.states[k]:=⟨_,rfl⟩
  have hd:X.states.drop k=x::X.states.drop (k+1):=by rw [hx];exact dcq hk'
  have hd2:Y.states.drop k=y::Y.states.drop (k+1):=by rw [hy];exact dcq hk2
  have hg:=av (f:=a0) (l:=X.states) (k:=k) (x:=x) (by rw [gQq hk',hx])
  have hg2:=av (f:=a0) (l:=Y.states) (k:=k) (x:=y) (by rw [gQq hk2,hy])
  have e5:=Yk5 k
  have hox:uR x:=hX.s' x (by rw [hx];exact gMq hk')
  have hoy:uR y:=hY.s' y (by rw [hy];exact gMq hk2)
  rw [hd,hd2] at hq
  unfold eqL at hq
  obtain ⟨G,hG⟩:∃ G,i5 x y=G:=⟨_,rfl⟩
  rw [hG] at hq
  unfold i5 at hG
  simp only [go_sem,iNq,ybb,hg,hg2,a0,a9]
  (repeat with_reducible refine And.intro (by first|assumption|decide|omega) ?_)
  try simp only [go_sem,iNq,ybb,hg,hg2,a0]
  (repeat with_reducible refine And.intro (by first|assumption|decide|omega) ?_)
  cases h0:(x.id==y.id)
  ·have b0:(x.id != y.id)=true:=by rw [bne,h0];rfl
   simp only [h0,Bool.false_and,Bool.and_false,Bool.true_and] at hG
   subst hG
   rw [Bool.false_and] at hq
   try simp only [go_sem,byq,jB,h0,b0,true_and,Bool.bne_false,Bool.bne_true,Bool.not_true,Bool.not_false]
   rw [← hq]
   simp only [Bool.false_and,Bool.and_false]
   try simp only [go_sem]
   first
    |(simp (disch:=first|exact Zd|omega) [↓zmo,beq,ybc,ybd,ybe,aa,wk,wk2,wk1,wkM,wkL,ak,ybf,hcl];repeat first|exact .refl _|refine .push ?_ _)
    |(refine ⟨?_,by repeat first|exact .refl _|refine .push ?_ _,hcl,?_⟩
      ·simp [wk,wk2,wk1]
      ·simp [zng];done)
  have b0:(x.id != y.id)=false:=by rw [bne,h0];rfl
  cases h1:(x.header==y.header)
  ·have b1:(x.header != y.header)=true:=by rw [bne,h1];rfl
   simp only [h0,h1,Bool.false_and,Bool.and_false,Bool.true_and] at hG
   subst hG
   rw [Bool.false_and] at hq
   try simp only [go_sem,byq,jB,h0,b0,h1,b1,true_and,Bool.bne_false,Bool.bne_true,Bool.not_true,Bool.not_false]
   rw [← hq]
   simp only [Bool.false_and,Bool.and_false]
   try simp only [go_sem]
   first
    |(simp (disch:=first|exact Zd|omega) [↓zmo,beq,ybc,ybd,ybe,aa,wk,wk2,wk1,wkM,wkL,ak,ybf,hcl];repeat first|exact .refl _|refine .push ?_ _)
    |(refine ⟨?_,by repeat first|exact .refl _|refine .push ?_ _,hcl,?_⟩
      ·simp [wk,wk2,wk1]
      ·simp [zng];done)
  have b1:(x.header != y.header)=false:=by rw [bne,h1];rfl
  cases h2:(x.select==y.select)
  ·have b2:(x.select != y.select)=true:=by rw [bne,h2];rfl
   simp only [h0,h1,h2,Bool.false_and,Bool.and_false,Bool.true_and] at hG
   subst hG
   rw [Bool.false_and] at hq
   try simp only [go_sem,byq,jB,h0,b0,h1,b1,h2,b2,true_and,Bool.bne_false,Bool.bne_true,Bool.not_true,Bool.not_false]
   rw [← hq]
   simp only [Bool.false_and,Bool.and_false]
   try simp only [go_sem]
   first
    |(simp (disch:=first|exact Zd|omega) [↓zmo,beq,ybc,ybd,ybe,aa,wk,wk2,wk1,wkM,wkL,ak,ybf,hcl];repeat first|exact .refl _|refine .push ?_ _)
    |(refine ⟨?_,by repeat first|exact .refl _|refine .push ?_ _,hcl,?_⟩
      ·simp [wk,wk2,wk1]
      ·simp [zng];done)
  have b2:(x.select != y.select)=false:=by rw [bne,h2];rfl
  cases h3:(x.dflt==y.dflt)
  ·have b3:(x.dflt != y.dflt)=true:=by rw [bne,h3];rfl
   simp only [h0,h1,h2,h3,Bool.false_and,Bool.and_false,Bool.true_and] at hG
   subst hG
   rw [Bool.false_and] at hq
   try simp only [go_sem,byq,jB,h0,b0,h1,b1,h2,b2,h3,b3,true_and,Bool.bne_false,Bool.bne_true,Bool.not_true,Bool.not_false]
   rw [← hq]
   simp only [Bool.false_and,Bool.and_false]
   try simp only [go_sem]
   first
    |(simp (disch:=first|exact Zd|omega) [↓zmo,beq,ybc,ybd,ybe,aa,wk,wk2,wk1,wkM,wkL,ak,ybf,hcl];repeat first|exact .refl _|refine .push ?_ _)
    |(refine ⟨?_,by repeat first|exact .refl _|refine .push ?_ _,hcl,?_⟩
      ·simp [wk,wk2,wk1]
      ·simp [zng];done)
  have b3:(x.dflt != y.dflt)=false:=by rw [bne,h3];rfl
  cases h4:(eqL iy x.cases y.cases)
  ·simp only [h0,h1,h2,h3,h4,Bool.false_and,Bool.and_false,Bool.true_and] at hG
   subst hG
   rw [Bool.false_and] at hq
   try simp only [go_sem,byq,jB,h0,b0,h1,b1,h2,b2,h3,b3,h4,true_and,Bool.bne_false,Bool.bne_true,Bool.not_true,Bool.not_false]
   refine ⟨x.cases,y.cases,⟨rfl,rfl,hox,hoy⟩,?_⟩
   try simp only [go_sem,byq,jB,h0,b0,h1,b1,h2,b2,h3,b3,h4,true_and,Bool.bne_false,Bool.bne_true,Bool.not_true,Bool.not_false]
   rw [← hq]
   simp only [Bool.false_and,Bool.and_false]
   try simp only [go_sem]
   first
    |(simp (disch:=first|exact Zd|omega) [↓zmo,beq,ybc,ybd,ybe,aa,wk,wk2,wk1,wkM,wkL,ak,ybf,hcl];repeat first|exact .refl _|refine .push ?_ _)
    |(refine ⟨?_,by repeat first|exact .refl _|refine .push ?_ _,hcl,?_⟩
      ·simp [wk,wk2,wk1]
      ·simp [zng];done)
  simp only [h0,h1,h2,h3,h4,Bool.and_true,Bool.true_and] at hG
  subst hG
  rw [Bool.true_and] at hq
  try simp only [go_sem,byq,jB,h0,b0,h1,b1,h2,b2,h3,b3,h4,true_and,Bool.bne_false,Bool.bne_true,Bool.not_true,Bool.not_false]
  refine ⟨x.cases,y.cases,⟨rfl,rfl,hox,hoy⟩,?_⟩
  try simp only [go_sem,byq,jB,h0,b0,h1,b1,h2,b2,h3,b3,h4,true_and,Bool.bne_false,Bool.bne_true,Bool.not_true,Bool.not_false]
  try simp only [go_sem,e5]
  refine ⟨k+1,⟨by omega,hq⟩,by omega,by (try simp only [zkq,zkv,zle]);omega,by repeat first|exact .refl _|refine .push ?_ _,hcl2,?_,?_⟩
  ·first|(simp [ltF,zle,znn,znf,aA gc];done)|(simp [ltF,zle,znn,znf,aA gc];omega)
  ·simp [aM,wk2,wk1,wkM,Fr.get]
 have hk':k=X.states.length:=by simp at hc;omega
 subst hk'
 rw [List.drop_length,hlen_Sta,List.drop_length] at hq
 unfold eqL at hq
 subst hq
 simp only [go_sem,Bool.true_and]
 first
  |(simp (disch:=first|exact Zd|omega) [↓zmo,beq,ybc,ybd,ybe,aa,wk,wk2,wk1,wkM,wkL,ak,ybf,hcl];repeat first|exact .refl _|refine .push ?_ _)
  |(refine ⟨?_,by repeat first|exact .refl _|refine .push ?_ _,hcl,?_⟩
    ·simp [wk,wk2,wk1]
    ·simp [zng];done)
def bo:List AV→AHeap→(AV→Prop)→Prop
 |[.agg l,.agg k],_,K=>∃ x y:Sch,(l=a9 x∧k=a9 y∧CSch x∧CSch y)∧K (.bool (true&&(eqL ji x.actions y.actions&&eqL iZ x.tables y.tables)))
 |_,_,_=>False
theorem fY:EntOk Tryz.prog 87 (Ent.pure bo):=by
 refine Ype fun _ H K h=>?_
 unfold bo at h
 split at h
 rotate_left
 ·exact h.elim
 rename_i l k
 obtain ⟨X,Y,⟨rfl,rfl,hX,hY⟩,hK⟩:=h
 refine ⟨_,hK,?_⟩
 clear hK
 have hC1:=kA (n:=H.nx+1) X
 have hC2:=kA (n:=H.nx+1+1) Y
 simp only [fL,znr] at hC1 hC2
 have hl1:=hX.a
 have hl2:=hX.t
 obtain ⟨A0,hA⟩:∃ R,(true)=R:=⟨_,rfl⟩
 obtain ⟨B1,hB1⟩:∃ R,eqL ji X.actions Y.actions=R:=⟨_,rfl⟩
 obtain ⟨B2,hB2⟩:∃ R,eqL iZ X.tables Y.tables=R:=⟨_,rfl⟩
 rw [hB1,hB2]
 subst hA
 by_cases hlen_Act:X.actions.length=Y.actions.length
 case neg =>
  rw [cf hlen_Act] at hB1
  subst hB1
  have d0:((X.actions.length:Int) != (Y.actions.length:Int))=true:=by rw [bne_iff_ne];omega
  simp only [Bool.false_and,Bool.and_false]
  refine ACalls.fW ag (tCq ra (tCq rY (tCq qY (tCq eS (tCq rO tNq))))) Tryz.func87 [.tmp 4] (nrq _) (T:=af []) (h:=fun hcl hlt=>?_)
  clear hlt
  simp only [go_sem,a9,ybb,true_and,d0]
  first
   |(simp (disch:=first|exact Zd|omega) [↓zmo,beq,ybc,ybd,ybe,aa,wk,wk2,wk1,wkM,wkL,ak,ybf,hcl];repeat first|exact .refl _|refine .push ?_ _)
   |(refine ⟨?_,by repeat first|exact .refl _|refine .push ?_ _,hcl,?_⟩
     ·simp [wk,wk2,wk1]
     ·simp [zng];done)
 have d1:((X.actions.length:Int) != (Y.actions.length:Int))=false:=by rw [hlen_Act];simp
 by_cases hlen_Tab:X.tables.length=Y.tables.length
 case neg =>
  rw [cf hlen_Tab] at hB2
  subst hB2
  have d0:((X.tables.length:Int) != (Y.tables.length:Int))=true:=by rw [bne_iff_ne];omega
  simp only [Bool.false_and,Bool.and_false]
  refine ACalls.fW ag (tCq ra (tCq rY (tCq qY (tCq eS (tCq rO tNq))))) Tryz.func87 [.tmp 4] (nrq _) (T:=af []) (h:=fun hcl hlt=>?_)
  clear hlt
  simp only [go_sem,a9,ybb,true_and,d0,d1]
  first
   |(simp (disch:=first|exact Zd|omega) [↓zmo,beq,ybc,ybd,ybe,aa,wk,wk2,wk1,wkM,wkL,ak,ybf,hcl];repeat first|exact .refl _|refine .push ?_ _)
   |(refine ⟨?_,by repeat first|exact .refl _|refine .push ?_ _,hcl,?_⟩
     ·simp [wk,wk2,wk1]
     ·simp [zng];done)
 have d2:((X.tables.length:Int) != (Y.tables.length:Int))=false:=by rw [hlen_Tab];simp
 refine ACalls.fW ag (tCq ra (tCq rY (tCq qY (tCq eS (tCq rO tNq))))) Tryz.func87 [.tmp 4] (nrq _) (T:=af []) (h:=fun hcl hlt=>?_)
 clear hlt
 simp only [go_sem,a9,ybb,true_and,d1,d2]
 have hcl2:((H.push (.cells (a9 X))).push (.cells (a9 Y))).Closed:=aj (aj hcl hC1) hC2
 refine aq (A:=Nat) (fun k=>[(2,.ptr H.nx 0),(3,.ptr (H.nx+1) 0),(28,.slice .any 5 (X.actions.map aI)),(29,.int .i64 (X.actions.length:Int)),(30,.int .i64 (k:Int))]) (fun _=>((H.push (.cells (a9 X))).push (.cells (a9 Y)))) (fun k=>k≤X.actions.length∧eqL ji (X.actions.drop k) (Y.actions.drop k)=B1) (fun k=>X.actions.length - k) 0 ⟨by omega,hB1⟩ ?_ fun k hk=>?_
 ·refine ⟨by simp only [zkq,zkv,zle];omega,by repeat first|exact .refl _|refine .push ?_ _,hcl2,?_,?_⟩
  ·first|(simp [ltF,zle,znn,znf,aA fj];done)|(simp [ltF,zle,znn,znf,aA fj];omega)
  ·simp [aM,wk2,wk1,wkM,Fr.get]
 obtain ⟨hk,hq⟩:=hk
 simp only [go_sem]
 refine ae (fun hc=>?_) (fun hc=>?_)
 ·have hk':k<X.actions.length:=by simp at hc;omega
  have hk2:k<Y.actions.length:=by omega
  obtain ⟨x,hx⟩:∃ x,x=X.actions[k]:=⟨_,rfl⟩
  obtain ⟨y,hy⟩:∃ y,y=Y.actions[k]:=⟨_,rfl⟩
  have hd:X.actions.drop k=x::X.actions.drop (k+1):=by rw [hx];exact dcq hk'
  have hd2:Y.actions.drop k=y::Y.actions.drop (k+1):=by rw [hy];exact dcq hk2
  have hg:=av (f:=aI) (l:=X.actions) (k:=k) (x:=x) (by rw [gQq hk',hx])
  have hg2:=av (f:=aI) (l:=Y.actions) (k:=k) (x:=y) (by rw [gQq hk2,hy])
  have e5:=Yk5 k
  have hox:tN x:=hX.a' x (by rw [hx];exact gMq hk')
  have hoy:tN y:=hY.a' y (by rw [hy];exact gMq hk2)
  rw [hd,hd2] at hq
  unfold eqL at hq
  obtain ⟨G,hG⟩:∃ G,ji x y=G:=⟨_,rfl⟩
  rw [hG] at hq
  unfold ji at hG
  simp only [go_sem,iNq,ybb,hg,hg2,aI,a9]
  (repeat with_reducible refine And.intro (by first|assumption|decide|omega) ?_)
  try simp only [go_sem,iNq,ybb,hg,hg2,aI]
  (repeat with_reducible refine And.intro (by first|assumption|decide|omega) ?_)
  cases h0:(x.id==y.id)
  ·have b0:(x.id != y.id)=true:=by rw [bne,h0];rfl
   simp only [h0,Bool.false_and,Bool.and_false,Bool.true_and] at hG
   subst hG
   rw [Bool.false_and] at hq
   try simp only [go_sem,byq,gX,gR,h0,b0,true_and,Bool.bne_false,Bool.bne_true,Bool.not_true,Bool.not_false]
   rw [← hq]
   simp only [Bool.false_and,Bool.and_false]
   try simp only [go_sem]
   first
    |(simp (disch:=first|exact Zd|omega) [↓zmo,beq,ybc,ybd,ybe,aa,wk,wk2,wk1,wkM,wkL,ak,ybf,hcl];repeat first|exact .refl _|refine .push ?_ _)
    |(refine ⟨?_,by repeat first|exact .refl _|refine .push ?_ _,hcl,?_⟩
      ·simp [wk,wk2,wk1]
      ·simp [zng];done)
  have b0:(x.id != y.id)=false:=by rw [bne,h0];rfl
  cases h1:(x.name==y.name)
  ·have b1:(x.name != y.name)=true:=by rw [bne,h1];rfl
   simp only [h0,h1,Bool.false_and,Bool.and_false,Bool.true_and] at hG
   subst hG
   rw [Bool.false_and] at hq
   try simp only [go_sem,byq,gX,gR,h0,b0,h1,b1,true_and,Bool.bne_false,Bool.bne_true,Bool.not_true,Bool.not_false]
   rw [← hq]
   simp only [Bool.false_and,Bool.and_false]
   try simp only [go_sem]
   first
    |(simp (disch:=first|exact Zd|omega) [↓zmo,beq,ybc,ybd,ybe,aa,wk,wk2,wk1,wkM,wkL,ak,ybf,hcl];repeat first|exact .refl _|refine .push ?_ _)
    |(refine ⟨?_,by repeat first|exact .refl _|refine .push ?_ _,hcl,?_⟩
      ·simp [wk,wk2,wk1]
      ·simp [zng];done)
  have b1:(x.name != y.name)=false:=by rw [bne,h1];rfl
  cases h2:(x.restr==y.restr)
  ·have b2:(x.restr != y.restr)=true:=by rw [bne,h2];rfl
   simp only [h0,h1,h2,Bool.false_and,Bool.and_false,Bool.true_and] at hG
   subst hG
   rw [Bool.false_and] at hq
   try simp only [go_sem,byq,gX,gR,h0,b0,h1,b1,h2,b2,true_and,Bool.bne_false,Bool.bne_true,Bool.not_true,Bool.not_false]
   rw [← hq]
   simp only [Bool.false_and,Bool.and_false]
   try simp only [go_sem]
   first
    |(simp (disch:=first|exact Zd|omega) [↓zmo,beq,ybc,ybd,ybe,aa,wk,wk2,wk1,wkM,wkL,ak,ybf,hcl];repeat first|exact .refl _|refine .push ?_ _)
    |(refine ⟨?_,by repeat first|exact .refl _|refine .push ?_ _,hcl,?_⟩
      ·simp [wk,wk2,wk1]
      ·simp [zng];done)
  have b2:(x.restr != y.restr)=false:=by rw [bne,h2];rfl
  cases h3:(eqL iw x.params y.params)
  ·simp only [h0,h1,h2,h3,Bool.false_and,Bool.and_false,Bool.true_and] at hG
   subst hG
   rw [Bool.false_and] at hq
   try simp only [go_sem,byq,gX,gR,h0,b0,h1,b1,h2,b2,h3,true_and,Bool.bne_false,Bool.bne_true,Bool.not_true,Bool.not_false]
   refine ⟨x.params,y.params,⟨rfl,rfl,hox.1,hoy.1⟩,?_⟩
   try simp only [go_sem,byq,gX,gR,h0,b0,h1,b1,h2,b2,h3,true_and,Bool.bne_false,Bool.bne_true,Bool.not_true,Bool.not_false]
   rw [← hq]
   simp only [Bool.false_and,Bool.and_false]
   try simp only [go_sem]
   first
    |(simp (disch:=first|exact Zd|omega) [↓zmo,beq,ybc,ybd,ybe,aa,wk,wk2,wk1,wkM,wkL,ak,ybf,hcl];repeat first|exact .refl _|refine .push ?_ _)
    |(refine ⟨?_,by repeat first|exact .refl _|refine .push ?_ _,hcl,?_⟩
      ·simp [wk,wk2,wk1]
      ·simp [zng];done)
  cases h4:(eqL ir x.body y.body)
  ·simp only [h0,h1,h2,h3,h4,Bool.false_and,Bool.and_false,Bool.true_and] at hG
   subst hG
   rw [Bool.false_and] at hq
   try simp only [go_sem,byq,gX,gR,h0,b0,h1,b1,h2,b2,h3,h4,true_and,Bool.bne_false,Bool.bne_true,Bool.not_true,Bool.not_false]
   refine ⟨x.params,y.params,⟨rfl,rfl,hox.1,hoy.1⟩,?_⟩
   try simp only [go_sem,byq,gX,gR,h0,b0,h1,b1,h2,b2,h3,h4,true_and,Bool.bne_false,Bool.bne_true,Bool.not_true,Bool.not_false]
   refine ⟨x.body,y.body,⟨rfl,rfl,hox.2,hoy.2⟩,?_⟩
   try simp only [go_sem,byq,gX,gR,h0,b0,h1,b1,h2,b2,h3,h4,true_and,Bool.bne_false,Bool.bne_true,Bool.not_true,Bool.not_false]
   rw [← hq]
   simp only [Bool.false_and,Bool.and_false]
   try simp only [go_sem]
   first
    |(simp (disch:=first|exact Zd|omega) [↓zmo,beq,ybc,ybd,ybe,aa,wk,wk2,wk1,wkM,wkL,ak,ybf,hcl];repeat first|exact .refl _|refine .push ?_ _)
    |(refine ⟨?_,by repeat first|exact .refl _|refine .push ?_ _,hcl,?_⟩
      ·simp [wk,wk2,wk1]
      ·simp [zng];done)
  simp only [h0,h1,h2,h3,h4,Bool.and_true,Bool.true_and] at hG
  subst hG
  rw [Bool.true_and] at hq
  try simp only [go_sem,byq,gX,gR,h0,b0,h1,b1,h2,b2,h3,h4,true_and,Bool.bne_false,Bool.bne_true,Bool.not_true,Bool.not_false]
  refine ⟨x.params,y.params,⟨rfl,rfl,hox.1,hoy.1⟩,?_⟩
  try simp only [go_sem,byq,gX,gR,h0,b0,h1,b1,h2,b2,h3,h4,true_and,Bool.bne_false,Bool.bne_true,Bool.not_true,Bool.not_false]
  refine ⟨x.body,y.body,⟨rfl,rfl,hox.2,hoy.2⟩,?_⟩
  try simp only [go_sem,byq,gX,gR,h0,b0,h1,b1,h2,b2,h3,h4,true_and,Bool.bne_false,Bool.bne_true,Bool.not_true,Bool.not_false]
  try simp only [go_sem,e5]
  refine ⟨k+1,⟨by omega,hq⟩,by omega,by (try simp only [zkq,zkv,zle]);omega,by repeat first|exact .refl _|refine .push ?_ _,hcl2,?_,?_⟩
  ·first|(simp [ltF,zle,znn,znf,aA fj];done)|(simp [ltF,zle,znn,znf,aA fj];omega)
  ·simp [aM,wk2,wk1,wkM,Fr.get]
 have hk':k=X.actions.length:=by simp at hc;omega
 subst hk'
 rw [List.drop_length,hlen_Act,List.drop_length] at hq
 unfold eqL at hq
 subst hq
 simp only [go_sem,a9,ybb]
 refine aq (A:=Nat) (fun k=>[(3,.ptr (H.nx+1) 0),(77,.slice .any 8 (X.tables.map aH)),(78,.int .i64 (X.tables.length:Int)),(79,.int .i64 (k:Int))]) (fun _=>((H.push (.cells (a9 X))).push (.cells (a9 Y)))) (fun k=>k≤X.tables.length∧eqL iZ (X.tables.drop k) (Y.tables.drop k)=B2) (fun k=>X.tables.length - k) 0 ⟨by omega,hB2⟩ ?_ fun k hk=>?_
 ·refine ⟨by simp only [zkq,zkv,zle];omega,by repeat first|exact .refl _|refine .push ?_ _,hcl2,?_,?_⟩
  ·first|(simp [ltF,zle,znn,znf,aA f5];done)|(simp [ltF,zle,znn,znf,aA f5];omega)
  ·simp [aM,wk2,wk1,wkM,Fr.get]
 obtain ⟨hk,hq⟩:=hk
 simp only [go_sem]
 refine ae (fun hc=>?_) (fun hc=>?_)
 ·have hk':k<X.tables.length:=by simp at hc;omega
  have hk2:k<Y.tables.length:=by omega
  obtain ⟨x,hx⟩:∃ x,x=X.tables[k]:=⟨_,rfl⟩
  obtain ⟨y,hy⟩:∃ y,y=Y.tables[k]:=⟨_,rfl⟩
  have hd:X.tables.drop k=x::X.tables.drop (k+1):=by rw [hx];exact dcq hk'
  have hd2:Y.tables.drop k=y::Y.tables.drop (k+1):=by rw [hy];exact dcq hk2
  have hg:=av (f:=aH) (l:=X.tables) (k:=k) (x:=x) (by rw [gQq hk',hx])
  have hg2:=av (f:=aH) (l:=Y.tables) (k:=k) (x:=y) (by rw [gQq hk2,hy])
  have e5:=Yk5 k
  have hox:uj x:=hX.t' x (by rw [hx];exact gMq hk')
  have hoy:uj y:=hY.t' y (by rw [hy];exact gMq hk2)
  rw [hd,hd2] at hq
  unfold eqL at hq
  obtain ⟨G,hG⟩:∃ G,iZ x y=G:=⟨_,rfl⟩
  rw [hG] at hq
  unfold iZ at hG
  simp only [go_sem,iNq,ybb,hg,hg2,aH,a9]
  (repeat with_reducible refine And.intro (by first|assumption|decide|omega) ?_)
  try simp only [go_sem,iNq,ybb,hg,hg2,aH]
  (repeat with_reducible refine And.intro (by first|assumption|decide|omega) ?_)
  cases h0:(x.id==y.id)
  ·have b0:(x.id != y.id)=true:=by rw [bne,h0];rfl
   simp only [h0,Bool.false_and,Bool.and_false,Bool.true_and] at hG
   subst hG
   rw [Bool.false_and] at hq
   try simp only [go_sem,byq,cJ,bp,cM,h0,b0,true_and,Bool.bne_false,Bool.bne_true,Bool.not_true,Bool.not_false]
   rw [← hq]
   simp only [Bool.false_and,Bool.and_false]
   try simp only [go_sem]
   first
    |(simp (disch:=first|exact Zd|omega) [↓zmo,beq,ybc,ybd,ybe,aa,wk,wk2,wk1,wkM,wkL,ak,ybf,hcl];repeat first|exact .refl _|refine .push ?_ _)
    |(refine ⟨?_,by repeat first|exact .refl _|refine .push ?_ _,hcl,?_⟩
      ·simp [wk,wk2,wk1]
      ·simp [zng];done)
  have b0:(x.id != y.id)=false:=by rw [bne,h0];rfl
  cases h1:(x.name==y.name)
  ·have b1:(x.name != y.name)=true:=by rw [bne,h1];rfl
   simp only [h0,h1,Bool.false_and,Bool.and_false,Bool.true_and] at hG
   subst hG
   rw [Bool.false_and] at hq
   try simp only [go_sem,byq,cJ,bp,cM,h0,b0,h1,b1,true_and,Bool.bne_false,Bool.bne_true,Bool.not_true,Bool.not_false]
   rw [← hq]
   simp only [Bool.false_and,Bool.and_false]
   try simp only [go_sem]
   first
    |(simp (disch:=first|exact Zd|omega) [↓zmo,beq,ybc,ybd,ybe,aa,wk,wk2,wk1,wkM,wkL,ak,ybf,hcl];repeat first|exact .refl _|refine .push ?_ _)
    |(refine ⟨?_,by repeat first|exact .refl _|refine .push ?_ _,hcl,?_⟩
      ·simp [wk,wk2,wk1]
      ·simp [zng];done)
  have b1:(x.name != y.name)=false:=by rw [bne,h1];rfl
  cases h2:(eqL iB x.keys y.keys)
  ·simp only [h0,h1,h2,Bool.false_and,Bool.and_false,Bool.true_and] at hG
   subst hG
   rw [Bool.false_and] at hq
   try simp only [go_sem,byq,cJ,bp,cM,h0,b0,h1,b1,h2,true_and,Bool.bne_false,Bool.bne_true,Bool.not_true,Bool.not_false]
   refine ⟨x.keys,y.keys,⟨rfl,rfl,hox.1,hoy.1⟩,?_⟩
   try simp only [go_sem,byq,cJ,bp,cM,h0,b0,h1,b1,h2,true_and,Bool.bne_false,Bool.bne_true,Bool.not_true,Bool.not_false]
   rw [← hq]
   simp only [Bool.false_and,Bool.and_false]
   try simp only [go_sem]
   first
    |(simp (disch:=first|exact Zd|omega) [↓zmo,beq,ybc,ybd,ybe,aa,wk,wk2,wk1,wkM,wkL,ak,ybf,hcl];repeat first|exact .refl _|refine .push ?_ _)
    |(refine ⟨?_,by repeat first|exact .refl _|refine .push ?_ _,hcl,?_⟩
      ·simp [wk,wk2,wk1]
      ·simp [zng];done)
  cases h3:(eqL eqI x.actions y.actions)
  ·simp only [h0,h1,h2,h3,Bool.false_and,Bool.and_false,Bool.true_and] at hG
   subst hG
   rw [Bool.false_and] at hq
   try simp only [go_sem,byq,cJ,bp,cM,h0,b0,h1,b1,h2,h3,true_and,Bool.bne_false,Bool.bne_true,Bool.not_true,Bool.not_false]
   refine ⟨x.keys,y.keys,⟨rfl,rfl,hox.1,hoy.1⟩,?_⟩
   try simp only [go_sem,byq,cJ,bp,cM,h0,b0,h1,b1,h2,h3,true_and,Bool.bne_false,Bool.bne_true,Bool.not_true,Bool.not_false]
   refine ⟨x.actions,y.actions,⟨rfl,rfl,hox.2.1,hoy.2.1⟩,?_⟩
   try simp only [go_sem,byq,cJ,bp,cM,h0,b0,h1,b1,h2,h3,true_and,Bool.bne_false,Bool.bne_true,Bool.not_true,Bool.not_false]
   rw [← hq]
   simp only [Bool.false_and,Bool.and_false]
   try simp only [go_sem]
   first
    |(simp (disch:=first|exact Zd|omega) [↓zmo,beq,ybc,ybd,ybe,aa,wk,wk2,wk1,wkM,wkL,ak,ybf,hcl];repeat first|exact .refl _|refine .push ?_ _)
    |(refine ⟨?_,by repeat first|exact .refl _|refine .push ?_ _,hcl,?_⟩
      ·simp [wk,wk2,wk1]
      ·simp [zng];done)
  cases h4:(x.dflt==y.dflt)
  ·have b4:(x.dflt != y.dflt)=true:=by rw [bne,h4];rfl
   simp only [h0,h1,h2,h3,h4,Bool.false_and,Bool.and_false,Bool.true_and] at hG
   subst hG
   rw [Bool.false_and] at hq
   try simp only [go_sem,byq,cJ,bp,cM,h0,b0,h1,b1,h2,h3,h4,b4,true_and,Bool.bne_false,Bool.bne_true,Bool.not_true,Bool.not_false]
   refine ⟨x.keys,y.keys,⟨rfl,rfl,hox.1,hoy.1⟩,?_⟩
   try simp only [go_sem,byq,cJ,bp,cM,h0,b0,h1,b1,h2,h3,h4,b4,true_and,Bool.bne_false,Bool.bne_true,Bool.not_true,Bool.not_false]
   refine ⟨x.actions,y.actions,⟨rfl,rfl,hox.2.1,hoy.2.1⟩,?_⟩
   try simp only [go_sem,byq,cJ,bp,cM,h0,b0,h1,b1,h2,h3,h4,b4,true_and,Bool.bne_false,Bool.bne_true,Bool.not_true,Bool.not_false]
   rw [← hq]
   simp only [Bool.false_and,Bool.and_false]
   try simp only [go_sem]
   first
    |(simp (disch:=first|exact Zd|omega) [↓zmo,beq,ybc,ybd,ybe,aa,wk,wk2,wk1,wkM,wkL,ak,ybf,hcl];repeat first|exact .refl _|refine .push ?_ _)
    |(refine ⟨?_,by repeat first|exact .refl _|refine .push ?_ _,hcl,?_⟩
      ·simp [wk,wk2,wk1]
      ·simp [zng];done)
  have b4:(x.dflt != y.dflt)=false:=by rw [bne,h4];rfl
  cases h5:(eqL eqV x.dargs y.dargs)
  ·simp only [h0,h1,h2,h3,h4,h5,Bool.false_and,Bool.and_false,Bool.true_and] at hG
   subst hG
   rw [Bool.false_and] at hq
   try simp only [go_sem,byq,cJ,bp,cM,h0,b0,h1,b1,h2,h3,h4,b4,h5,true_and,Bool.bne_false,Bool.bne_true,Bool.not_true,Bool.not_false]
   refine ⟨x.keys,y.keys,⟨rfl,rfl,hox.1,hoy.1⟩,?_⟩
   try simp only [go_sem,byq,cJ,bp,cM,h0,b0,h1,b1,h2,h3,h4,b4,h5,true_and,Bool.bne_false,Bool.bne_true,Bool.not_true,Bool.not_false]
   refine ⟨x.actions,y.actions,⟨rfl,rfl,hox.2.1,hoy.2.1⟩,?_⟩
   try simp only [go_sem,byq,cJ,bp,cM,h0,b0,h1,b1,h2,h3,h4,b4,h5,true_and,Bool.bne_false,Bool.bne_true,Bool.not_true,Bool.not_false]
   refine ⟨x.dargs,y.dargs,⟨rfl,rfl,hox.2.2,hoy.2.2⟩,?_⟩
   try simp only [go_sem,byq,cJ,bp,cM,h0,b0,h1,b1,h2,h3,h4,b4,h5,true_and,Bool.bne_false,Bool.bne_true,Bool.not_true,Bool.not_false]
   rw [← hq]
   simp only [Bool.false_and,Bool.and_false]
   try simp only [go_sem]
   first
    |(simp (disch:=first|exact Zd|omega) [↓zmo,beq,ybc,ybd,ybe,aa,wk,wk2,wk1,wkM,wkL,ak,ybf,hcl];repeat first|exact .refl _|refine .push ?_ _)
    |(refine ⟨?_,by repeat first|exact .refl _|refine .push ?_ _,hcl,?_⟩
      ·simp [wk,wk2,wk1]
      ·simp [zng];done)
  cases h6:(x.size==y.size)
  ·have b6:(x.size != y.size)=true:=by rw [bne,h6];rfl
   simp only [h0,h1,h2,h3,h4,h5,h6,Bool.false_and,Bool.and_false,Bool.true_and] at hG
   subst hG
   rw [Bool.false_and] at hq
   try simp only [go_sem,byq,cJ,bp,cM,h0,b0,h1,b1,h2,h3,h4,b4,h5,h6,b6,true_and,Bool.bne_false,Bool.bne_true,Bool.not_true,Bool.not_false]
   refine ⟨x.keys,y.keys,⟨rfl,rfl,hox.1,hoy.1⟩,?_⟩
   try simp only [go_sem,byq,cJ,bp,cM,h0,b0,h1,b1,h2,h3,h4,b4,h5,h6,b6,true_and,Bool.bne_false,Bool.bne_true,Bool.not_true,Bool.not_false]
   refine ⟨x.actions,y.actions,⟨rfl,rfl,hox.2.1,hoy.2.1⟩,?_⟩
   try simp only [go_sem,byq,cJ,bp,cM,h0,b0,h1,b1,h2,h3,h4,b4,h5,h6,b6,true_and,Bool.bne_false,Bool.bne_true,Bool.not_true,Bool.not_false]
   refine ⟨x.dargs,y.dargs,⟨rfl,rfl,hox.2.2,hoy.2.2⟩,?_⟩
   try simp only [go_sem,byq,cJ,bp,cM,h0,b0,h1,b1,h2,h3,h4,b4,h5,h6,b6,true_and,Bool.bne_false,Bool.bne_true,Bool.not_true,Bool.not_false]
   rw [← hq]
   simp only [Bool.false_and,Bool.and_false]
   try simp only [go_sem]
   first
    |(simp (disch:=first|exact Zd|omega) [↓zmo,beq,ybc,ybd,ybe,aa,wk,wk2,wk1,wkM,wkL,ak,ybf,hcl];repeat first|exact .refl _|refine .push ?_ _)
    |(refine ⟨?_,by repeat first|exact .refl _|refine .push ?_ _,hcl,?_⟩
      ·simp [wk,wk2,wk1]
      ·simp [zng];done)
  have b6:(x.size != y.size)=false:=by rw [bne,h6];rfl
  cases h7:(x.restr==y.restr)
  ·have b7:(x.restr != y.restr)=true:=by rw [bne,h7];rfl
   simp only [h0,h1,h2,h3,h4,h5,h6,h7,Bool.false_and,Bool.and_false,Bool.true_and] at hG
   subst hG
   rw [Bool.false_and] at hq
   try simp only [go_sem,byq,cJ,bp,cM,h0,b0,h1,b1,h2,h3,h4,b4,h5,h6,b6,h7,b7,true_and,Bool.bne_false,Bool.bne_true,Bool.not_true,Bool.not_false]
   refine ⟨x.keys,y.keys,⟨rfl,rfl,hox.1,hoy.1⟩,?_⟩
   try simp only [go_sem,byq,cJ,bp,cM,h0,b0,h1,b1,h2,h3,h4,b4,h5,h6,b6,h7,b7,true_and,Bool.bne_false,Bool.bne_true,Bool.not_true,Bool.not_false]
   refine ⟨x.actions,y.actions,⟨rfl,rfl,hox.2.1,hoy.2.1⟩,?_⟩
   try simp only [go_sem,byq,cJ,bp,cM,h0,b0,h1,b1,h2,h3,h4,b4,h5,h6,b6,h7,b7,true_and,Bool.bne_false,Bool.bne_true,Bool.not_true,Bool.not_false]
   refine ⟨x.dargs,y.dargs,⟨rfl,rfl,hox.2.2,hoy.2.2⟩,?_⟩
   try simp only [go_sem,byq,cJ,bp,cM,h0,b0,h1,b1,h2,h3,h4,b4,h5,h6,b6,h7,b7,true_and,Bool.bne_false,Bool.bne_true,Bool.not_true,Bool.not_false]
   rw [← hq]
   simp only [Bool.false_and,Bool.and_false]
   try simp only [go_sem]
   first
    |(simp (disch:=first|exact Zd|omega) [↓zmo,beq,ybc,ybd,ybe,aa,wk,wk2,wk1,wkM,wkL,ak,ybf,hcl];repeat first|exact .refl _|refine .push ?_ _)
    |(refine ⟨?_,by repeat first|exact .refl _|refine .push ?_ _,hcl,?_⟩
      ·simp [wk,wk2,wk1]
      ·simp [zng];done)
  have b7:(x.restr != y.restr)=false:=by rw [bne,h7];rfl
  simp only [h0,h1,h2,h3,h4,h5,h6,h7,Bool.and_true,Bool.true_and] at hG
  subst hG
  rw [Bool.true_and] at hq
  try simp only [go_sem,byq,cJ,bp,cM,h0,b0,h1,b1,h2,h3,h4,b4,h5,h6,b6,h7,b7,true_and,Bool.bne_false,Bool.bne_true,Bool.not_true,Bool.not_false]
  refine ⟨x.keys,y.keys,⟨rfl,rfl,hox.1,hoy.1⟩,?_⟩
  try simp only [go_sem,byq,cJ,bp,cM,h0,b0,h1,b1,h2,h3,h4,b4,h5,h6,b6,h7,b7,true_and,Bool.bne_false,Bool.bne_true,Bool.not_true,Bool.not_false]
  refine ⟨x.actions,y.actions,⟨rfl,rfl,hox.2.1,hoy.2.1⟩,?_⟩
  try simp only [go_sem,byq,cJ,bp,cM,h0,b0,h1,b1,h2,h3,h4,b4,h5,h6,b6,h7,b7,true_and,Bool.bne_false,Bool.bne_true,Bool.not_true,Bool.not_false]
  refine ⟨x.dargs,y.dargs,⟨rfl,rfl,hox.2.2,hoy.2.2⟩,?_⟩
  try simp only [go_sem,byq,cJ,bp,cM,h0,b0,h1,b1,h2,h3,h4,b4,h5,h6,b6,h7,b7,true_and,Bool.bne_false,Bool.bne_true,Bool.not_true,Bool.not_false]
  try simp only [go_sem,e5]
  refine ⟨k+1,⟨by omega,hq⟩,by omega,by (try simp only [zkq,zkv,zle]);omega,by repeat first|exact .refl _|refine .push ?_ _,hcl2,?_,?_⟩
  ·first|(simp [ltF,zle,znn,znf,aA f5];done)|(simp [ltF,zle,znn,znf,aA f5];omega)
  ·simp [aM,wk2,wk1,wkM,Fr.get]
 have hk':k=X.tables.length:=by simp at hc;omega
 subst hk'
 rw [List.drop_length,hlen_Tab,List.drop_length] at hq
 unfold eqL at hq
 subst hq
 simp only [go_sem,Bool.true_and]
 first
  |(simp (disch:=first|exact Zd|omega) [↓zmo,beq,ybc,ybd,ybe,aa,wk,wk2,wk1,wkM,wkL,ak,ybf,hcl];repeat first|exact .refl _|refine .push ?_ _)
  |(refine ⟨?_,by repeat first|exact .refl _|refine .push ?_ _,hcl,?_⟩
    ·simp [wk,wk2,wk1]
    ·simp [zng];done)
theorem zG (X Y:Sch):ni X Y=((X.maxBatch==Y.maxBatch)&&((X.budget==Y.budget)&&(((eqL gB X.fields Y.fields&&(eqL i0 X.headers Y.headers&&eqL i5 X.states Y.states)))&&(((true&&(eqL ji X.actions Y.actions&&eqL iZ X.tables Y.tables)))&&((eqL hZ X.stages Y.stages)&&((eqL hU X.refs Y.refs)&&eqL jR X.roles Y.roles)))))):=by
 unfold ni
 simp only [Bool.true_and]
 ac_rfl
def yH:List AV→AHeap→(AV→Prop)→Prop:=tt
theorem ok_ySame:EntOk Tryz.prog 21 (Ent.pure yH):=by
 unfold yH
 refine Ype fun _ H K h=>?_
 unfold tt at h
 split at h
 rotate_left
 ·exact h.elim
 rename_i l k
 obtain ⟨X,Y,⟨rfl,rfl,hX,hY⟩,hK⟩:=h
 refine ⟨_,hK,?_⟩
 clear hK
 have hC1:=kA (n:=H.nx+1) X
 have hC2:=kA (n:=H.nx+1+1) Y
 have hl1:=hX.r
 simp only [fL,znr] at hC1 hC2
 obtain ⟨R,hR⟩:∃ R,ni X Y=R:=⟨_,rfl⟩
 rw [hR]
 rw [zG] at hR
 cases h0:(X.maxBatch==Y.maxBatch)
 ·have b0:(X.maxBatch != Y.maxBatch)=true:=by rw [bne,h0];rfl
  simp only [h0,Bool.false_and,Bool.and_false,Bool.true_and] at hR
  subst hR
  refine ACalls.fW ag (tCq fU (tCq fY (tCq jK (tCq jG (tCq eS (tCq jI tNq)))))) Tryz.func21 [.tmp 4] (nrq _) (T:=af []) (h:=fun hcl hlt=>?_)
  clear hlt
  try simp only [List.append_eq,yal,yak]
  simp only [go_sem,byq,a9,bn,bo,cK,cO,h0,b0,true_and,Bool.bne_false,Bool.bne_true,Bool.not_true,Bool.not_false,ybb]
  first
   |(simp (disch:=first|exact Zd|omega) [↓zmo,beq,ybc,ybd,ybe,aa,wk,wk2,wk1,wkM,wkL,ak,ybf,hcl];repeat first|exact .refl _|refine .push ?_ _)
   |(refine ⟨?_,by repeat first|exact .refl _|refine .push ?_ _,hcl,?_⟩
     ·simp [wk,wk2,wk1]
     ·simp [zng];done)
 have b0:(X.maxBatch != Y.maxBatch)=false:=by rw [bne,h0];rfl
 cases h1:(X.budget==Y.budget)
 ·have b1:(X.budget != Y.budget)=true:=by rw [bne,h1];rfl
  simp only [h0,h1,Bool.false_and,Bool.and_false,Bool.true_and] at hR
  subst hR
  refine ACalls.fW ag (tCq fU (tCq fY (tCq jK (tCq jG (tCq eS (tCq jI tNq)))))) Tryz.func21 [.tmp 4] (nrq _) (T:=af []) (h:=fun hcl hlt=>?_)
  clear hlt
  try simp only [List.append_eq,yal,yak]
  simp only [go_sem,byq,a9,bn,bo,cK,cO,h0,b0,h1,b1,true_and,Bool.bne_false,Bool.bne_true,Bool.not_true,Bool.not_false,ybb]
  first
   |(simp (disch:=first|exact Zd|omega) [↓zmo,beq,ybc,ybd,ybe,aa,wk,wk2,wk1,wkM,wkL,ak,ybf,hcl];repeat first|exact .refl _|refine .push ?_ _)
   |(refine ⟨?_,by repeat first|exact .refl _|refine .push ?_ _,hcl,?_⟩
     ·simp [wk,wk2,wk1]
     ·simp [zng];done)
 have b1:(X.budget != Y.budget)=false:=by rw [bne,h1];rfl
 cases h2:((eqL gB X.fields Y.fields&&(eqL i0 X.headers Y.headers&&eqL i5 X.states Y.states)))
 ·simp only [h0,h1,h2,Bool.false_and,Bool.and_false,Bool.true_and] at hR
  subst hR
  refine ACalls.fW ag (tCq fU (tCq fY (tCq jK (tCq jG (tCq eS (tCq jI tNq)))))) Tryz.func21 [.tmp 4] (nrq _) (T:=af []) (h:=fun hcl hlt=>?_)
  clear hlt
  try simp only [List.append_eq,yal,yak]
  simp only [go_sem,byq,a9,bn,bo,cK,cO,h0,b0,h1,b1,h2,true_and,Bool.bne_false,Bool.bne_true,Bool.not_true,Bool.not_false,ybb]
  refine ⟨X,Y,⟨rfl,rfl,hX,hY⟩,?_⟩
  try simp only [go_sem,byq,bn,bo,cK,cO,h0,b0,h1,b1,h2,true_and,Bool.bne_false,Bool.bne_true,Bool.not_true,Bool.not_false,ybb]
  first
   |(simp (disch:=first|exact Zd|omega) [↓zmo,beq,ybc,ybd,ybe,aa,wk,wk2,wk1,wkM,wkL,ak,ybf,hcl];repeat first|exact .refl _|refine .push ?_ _)
   |(refine ⟨?_,by repeat first|exact .refl _|refine .push ?_ _,hcl,?_⟩
     ·simp [wk,wk2,wk1]
     ·simp [zng];done)
 cases h3:((true&&(eqL ji X.actions Y.actions&&eqL iZ X.tables Y.tables)))
 ·simp only [h0,h1,h2,h3,Bool.false_and,Bool.and_false,Bool.true_and] at hR
  subst hR
  refine ACalls.fW ag (tCq fU (tCq fY (tCq jK (tCq jG (tCq eS (tCq jI tNq)))))) Tryz.func21 [.tmp 4] (nrq _) (T:=af []) (h:=fun hcl hlt=>?_)
  clear hlt
  try simp only [List.append_eq,yal,yak]
  simp only [go_sem,byq,a9,bn,bo,cK,cO,h0,b0,h1,b1,h2,h3,true_and,Bool.bne_false,Bool.bne_true,Bool.not_true,Bool.not_false,ybb]
  refine ⟨X,Y,⟨rfl,rfl,hX,hY⟩,?_⟩
  try simp only [go_sem,byq,bn,bo,cK,cO,h0,b0,h1,b1,h2,h3,true_and,Bool.bne_false,Bool.bne_true,Bool.not_true,Bool.not_false,ybb]
  refine ⟨X,Y,⟨rfl,rfl,hX,hY⟩,?_⟩
  try simp only [go_sem,byq,bn,bo,cK,cO,h0,b0,h1,b1,h2,h3,true_and,Bool.bne_false,Bool.bne_true,Bool.not_true,Bool.not_false,ybb]
  first
   |(simp (disch:=first|exact Zd|omega) [↓zmo,beq,ybc,ybd,ybe,aa,wk,wk2,wk1,wkM,wkL,ak,ybf,hcl];repeat first|exact .refl _|refine .push ?_ _)
   |(refine ⟨?_,by repeat first|exact .refl _|refine .push ?_ _,hcl,?_⟩
     ·simp [wk,wk2,wk1]
     ·simp [zng];done)
 cases h4:(eqL hZ X.stages Y.stages)
 ·simp only [h0,h1,h2,h3,h4,Bool.false_and,Bool.and_false,Bool.true_and] at hR
  subst hR
  refine ACalls.fW ag (tCq fU (tCq fY (tCq jK (tCq jG (tCq eS (tCq jI tNq)))))) Tryz.func21 [.tmp 4] (nrq _) (T:=af []) (h:=fun hcl hlt=>?_)
  clear hlt
  try simp only [List.append_eq,yal,yak]
  simp only [go_sem,byq,a9,bn,bo,cK,cO,h0,b0,h1,b1,h2,h3,h4,true_and,Bool.bne_false,Bool.bne_true,Bool.not_true,Bool.not_false,ybb]
  refine ⟨X,Y,⟨rfl,rfl,hX,hY⟩,?_⟩
  try simp only [go_sem,byq,bn,bo,cK,cO,h0,b0,h1,b1,h2,h3,h4,true_and,Bool.bne_false,Bool.bne_true,Bool.not_true,Bool.not_false,ybb]
  refine ⟨X,Y,⟨rfl,rfl,hX,hY⟩,?_⟩
  try simp only [go_sem,byq,bn,bo,cK,cO,h0,b0,h1,b1,h2,h3,h4,true_and,Bool.bne_false,Bool.bne_true,Bool.not_true,Bool.not_false,ybb]
  refine ⟨X.stages,Y.stages,⟨rfl,rfl,hX.g,hY.g⟩,?_⟩
  try simp only [go_sem,byq,bn,bo,cK,cO,h0,b0,h1,b1,h2,h3,h4,true_and,Bool.bne_false,Bool.bne_true,Bool.not_true,Bool.not_false,ybb]
  first
   |(simp (disch:=first|exact Zd|omega) [↓zmo,beq,ybc,ybd,ybe,aa,wk,wk2,wk1,wkM,wkL,ak,ybf,hcl];repeat first|exact .refl _|refine .push ?_ _)
   |(refine ⟨?_,by repeat first|exact .refl _|refine .push ?_ _,hcl,?_⟩
     ·simp [wk,wk2,wk1]
     ·simp [zng];done)
 cases h5:(eqL hU X.refs Y.refs)
 ·simp only [h0,h1,h2,h3,h4,h5,Bool.false_and,Bool.and_false,Bool.true_and] at hR
  subst hR
  refine ACalls.fW ag (tCq fU (tCq fY (tCq jK (tCq jG (tCq eS (tCq jI tNq)))))) Tryz.func21 [.tmp 4] (nrq _) (T:=af []) (h:=fun hcl hlt=>?_)
  clear hlt
  try simp only [List.append_eq,yal,yak]
  simp only [go_sem,byq,a9,bn,bo,cK,cO,h0,b0,h1,b1,h2,h3,h4,h5,true_and,Bool.bne_false,Bool.bne_true,Bool.not_true,Bool.not_false,ybb]
  refine ⟨X,Y,⟨rfl,rfl,hX,hY⟩,?_⟩
  try simp only [go_sem,byq,bn,bo,cK,cO,h0,b0,h1,b1,h2,h3,h4,h5,true_and,Bool.bne_false,Bool.bne_true,Bool.not_true,Bool.not_false,ybb]
  refine ⟨X,Y,⟨rfl,rfl,hX,hY⟩,?_⟩
  try simp only [go_sem,byq,bn,bo,cK,cO,h0,b0,h1,b1,h2,h3,h4,h5,true_and,Bool.bne_false,Bool.bne_true,Bool.not_true,Bool.not_false,ybb]
  refine ⟨X.stages,Y.stages,⟨rfl,rfl,hX.g,hY.g⟩,?_⟩
  try simp only [go_sem,byq,bn,bo,cK,cO,h0,b0,h1,b1,h2,h3,h4,h5,true_and,Bool.bne_false,Bool.bne_true,Bool.not_true,Bool.not_false,ybb]
  refine ⟨X.refs,Y.refs,⟨rfl,rfl,hX.x,hY.x⟩,?_⟩
  try simp only [go_sem,byq,bn,bo,cK,cO,h0,b0,h1,b1,h2,h3,h4,h5,true_and,Bool.bne_false,Bool.bne_true,Bool.not_true,Bool.not_false,ybb]
  first
   |(simp (disch:=first|exact Zd|omega) [↓zmo,beq,ybc,ybd,ybe,aa,wk,wk2,wk1,wkM,wkL,ak,ybf,hcl];repeat first|exact .refl _|refine .push ?_ _)
   |(refine ⟨?_,by repeat first|exact .refl _|refine .push ?_ _,hcl,?_⟩
     ·simp [wk,wk2,wk1]
     ·simp [zng];done)
 simp only [h0,h1,h2,h3,h4,h5,Bool.true_and] at hR
 by_cases hlen:X.roles.length=Y.roles.length
 case neg =>
  rw [cf hlen] at hR
  subst hR
  have d0:((X.roles.length:Int) != (Y.roles.length:Int))=true:=by rw [bne_iff_ne];omega
  refine ACalls.fW ag (tCq fU (tCq fY (tCq jK (tCq jG (tCq eS (tCq jI tNq)))))) Tryz.func21 [.tmp 4] (nrq _) (T:=af []) (h:=fun hcl hlt=>?_)
  clear hlt
  try simp only [List.append_eq,yal,yak]
  simp only [go_sem,byq,a9,bn,bo,cK,cO,h0,b0,h1,b1,h2,h3,h4,h5,true_and,Bool.bne_false,Bool.bne_true,Bool.not_true,Bool.not_false,ybb,d0]
  refine ⟨X,Y,⟨rfl,rfl,hX,hY⟩,?_⟩
  try simp only [go_sem,byq,bn,bo,cK,cO,h0,b0,h1,b1,h2,h3,h4,h5,true_and,Bool.bne_false,Bool.bne_true,Bool.not_true,Bool.not_false,ybb,d0]
  refine ⟨X,Y,⟨rfl,rfl,hX,hY⟩,?_⟩
  try simp only [go_sem,byq,bn,bo,cK,cO,h0,b0,h1,b1,h2,h3,h4,h5,true_and,Bool.bne_false,Bool.bne_true,Bool.not_true,Bool.not_false,ybb,d0]
  refine ⟨X.stages,Y.stages,⟨rfl,rfl,hX.g,hY.g⟩,?_⟩
  try simp only [go_sem,byq,bn,bo,cK,cO,h0,b0,h1,b1,h2,h3,h4,h5,true_and,Bool.bne_false,Bool.bne_true,Bool.not_true,Bool.not_false,ybb,d0]
  refine ⟨X.refs,Y.refs,⟨rfl,rfl,hX.x,hY.x⟩,?_⟩
  try simp only [go_sem,byq,bn,bo,cK,cO,h0,b0,h1,b1,h2,h3,h4,h5,true_and,Bool.bne_false,Bool.bne_true,Bool.not_true,Bool.not_false,ybb,d0]
  first
   |(simp (disch:=first|exact Zd|omega) [↓zmo,beq,ybc,ybd,ybe,aa,wk,wk2,wk1,wkM,wkL,ak,ybf,hcl];repeat first|exact .refl _|refine .push ?_ _)
   |(refine ⟨?_,by repeat first|exact .refl _|refine .push ?_ _,hcl,?_⟩
     ·simp [wk,wk2,wk1]
     ·simp [zng];done)
 have d0:((X.roles.length:Int) != (Y.roles.length:Int))=false:=by rw [hlen];simp
 refine ACalls.fW ag (tCq fU (tCq fY (tCq jK (tCq jG (tCq eS (tCq jI tNq)))))) Tryz.func21 [.tmp 4] (nrq _) (T:=af []) (h:=fun hcl hlt=>?_)
 clear hlt
 try simp only [List.append_eq,yal,yak]
 simp only [go_sem,byq,a9,bn,bo,cK,cO,h0,b0,h1,b1,h2,h3,h4,h5,true_and,Bool.bne_false,Bool.bne_true,Bool.not_true,Bool.not_false,ybb,d0]
 refine ⟨X,Y,⟨rfl,rfl,hX,hY⟩,?_⟩
 try simp only [go_sem,byq,bn,bo,cK,cO,h0,b0,h1,b1,h2,h3,h4,h5,true_and,Bool.bne_false,Bool.bne_true,Bool.not_true,Bool.not_false,ybb,d0]
 refine ⟨X,Y,⟨rfl,rfl,hX,hY⟩,?_⟩
 try simp only [go_sem,byq,bn,bo,cK,cO,h0,b0,h1,b1,h2,h3,h4,h5,true_and,Bool.bne_false,Bool.bne_true,Bool.not_true,Bool.not_false,ybb,d0]
 refine ⟨X.stages,Y.stages,⟨rfl,rfl,hX.g,hY.g⟩,?_⟩
 try simp only [go_sem,byq,bn,bo,cK,cO,h0,b0,h1,b1,h2,h3,h4,h5,true_and,Bool.bne_false,Bool.bne_true,Bool.not_true,Bool.not_false,ybb,d0]
 refine ⟨X.refs,Y.refs,⟨rfl,rfl,hX.x,hY.x⟩,?_⟩
 try simp only [go_sem,byq,bn,bo,cK,cO,h0,b0,h1,b1,h2,h3,h4,h5,true_and,Bool.bne_false,Bool.bne_true,Bool.not_true,Bool.not_false,ybb,d0]
 have hcl2:((H.push (.cells (a9 X))).push (.cells (a9 Y))).Closed:=aj (aj hcl hC1) hC2
 refine aq (A:=Nat) (fun i=>[(3,.ptr (H.nx+1) 0),(61,.slice .any 6 (X.roles.map bH)),(62,.int .i64 (X.roles.length:Int)),(63,.int .i64 (i:Int))]) (fun _=>((H.push (.cells (a9 X))).push (.cells (a9 Y)))) (fun i=>i≤X.roles.length∧eqL jR (X.roles.drop i) (Y.roles.drop i)=R) (fun i=>X.roles.length - i) 0 ⟨by omega,hR⟩ ?_ fun i hi=>?_
 ·refine ⟨by simp only [zkq,zkv,zle];omega,by repeat first|exact .refl _|refine .push ?_ _,hcl2,?_,?_⟩
  ·first|(simp [ltF,zle,znn,znf,aA ck,aA bV,ck,bV];done)|(simp [ltF,zle,znn,znf,aA ck,aA bV,ck,bV];omega)
  ·simp [aM,wk2,wk1,wkM,Fr.get]
 obtain ⟨hi,hqi⟩:=hi
 simp only [go_sem]
 refine ae (fun hci=>?_) (fun hci=>?_)
 ·have hi':i<X.roles.length:=by simp at hci;omega
  have hi2:i<Y.roles.length:=by omega
  obtain ⟨u,hu⟩:∃ u,u=X.roles[i]:=⟨_,rfl⟩
  obtain ⟨w,hw⟩:∃ w,w=Y.roles[i]:=⟨_,rfl⟩
  have hd:X.roles.drop i=u::X.roles.drop (i+1):=by rw [hu];exact dcq hi'
  have hd2:Y.roles.drop i=w::Y.roles.drop (i+1):=by rw [hw];exact dcq hi2
  have hgi:=av (f:=bH) (l:=X.roles) (k:=i) (x:=u) (by rw [gQq hi',hu])
  have hgi2:=av (f:=bH) (l:=Y.roles) (k:=i) (x:=w) (by rw [gQq hi2,hw])
  have e5i:IntKind.i64.wrap ((i:Int)+1)=((i+1:Nat):Int):=by rw [wrap_i64]<;>omega
  have hou:t7 u:=hX.r' u (by rw [hu];exact gMq hi')
  have how:t7 w:=hY.r' w (by rw [hw];exact gMq hi2)
  clear hu hw
  have hCu:=ck (n:=H.nx+1+1+1) u
  have hCw:=ck (n:=H.nx+1+1+1+1) w
  simp only [bH,znr] at hCu hCw
  have hl1':=hou.1
  rw [hd,hd2] at hqi
  unfold eqL at hqi
  obtain ⟨GU,hGU⟩:∃ G,jR u w=G:=⟨_,rfl⟩
  rw [hGU] at hqi
  unfold jR at hGU
  simp only [go_sem,iNq,ybb,hgi,hgi2,bH,a9]
  (repeat with_reducible refine And.intro (by first|assumption|decide|omega) ?_)
  try simp only [go_sem,iNq,ybb,hgi,hgi2,bH]
  (repeat with_reducible refine And.intro (by first|assumption|decide|omega) ?_)
  cases g0:(u.id==w.id)
  ·have e0:(u.id != w.id)=true:=by rw [bne,g0];rfl
   simp only [g0,Bool.false_and,Bool.and_false,Bool.true_and] at hGU
   subst hGU
   rw [Bool.false_and] at hqi
   rw [← hqi]
   try simp only [go_sem,byq,bp,g0,e0,true_and,Bool.bne_false,Bool.bne_true,Bool.not_true,Bool.not_false,ybb]
   first
    |(simp (disch:=first|exact Zd|omega) [↓zmo,beq,ybc,ybd,ybe,aa,wk,wk2,wk1,wkM,wkL,ak,ybf,hcl];repeat first|exact .refl _|refine .push ?_ _)
    |(refine ⟨?_,by repeat first|exact .refl _|refine .push ?_ _,hcl,?_⟩
      ·simp [wk,wk2,wk1]
      ·simp [zng];done)
  have e0:(u.id != w.id)=false:=by rw [bne,g0];rfl
  cases g1:(u.name==w.name)
  ·have e1:(u.name != w.name)=true:=by rw [bne,g1];rfl
   simp only [g0,g1,Bool.false_and,Bool.and_false,Bool.true_and] at hGU
   subst hGU
   rw [Bool.false_and] at hqi
   rw [← hqi]
   try simp only [go_sem,byq,bp,g0,e0,g1,e1,true_and,Bool.bne_false,Bool.bne_true,Bool.not_true,Bool.not_false,ybb]
   first
    |(simp (disch:=first|exact Zd|omega) [↓zmo,beq,ybc,ybd,ybe,aa,wk,wk2,wk1,wkM,wkL,ak,ybf,hcl];repeat first|exact .refl _|refine .push ?_ _)
    |(refine ⟨?_,by repeat first|exact .refl _|refine .push ?_ _,hcl,?_⟩
      ·simp [wk,wk2,wk1]
      ·simp [zng];done)
  have e1:(u.name != w.name)=false:=by rw [bne,g1];rfl
  by_cases hlen_Gra:u.grants.length=w.grants.length
  case neg =>
   have d2:((u.grants.length:Int) != (w.grants.length:Int))=true:=by rw [bne_iff_ne];omega
   rw [cf hlen_Gra] at hGU
   simp only [Bool.false_and,Bool.and_false] at hGU
   subst hGU
   rw [Bool.false_and] at hqi
   rw [← hqi]
   try simp only [go_sem,byq,bp,g0,e0,g1,e1,d2,true_and,Bool.bne_false,Bool.bne_true,Bool.not_true,Bool.not_false,ybb]
   first
    |(simp (disch:=first|exact Zd|omega) [↓zmo,beq,ybc,ybd,ybe,aa,wk,wk2,wk1,wkM,wkL,ak,ybf,hcl];repeat first|exact .refl _|refine .push ?_ _)
    |(refine ⟨?_,by repeat first|exact .refl _|refine .push ?_ _,hcl,?_⟩
      ·simp [wk,wk2,wk1]
      ·simp [zng];done)
  have d2:((u.grants.length:Int) != (w.grants.length:Int))=false:=by rw [hlen_Gra];simp
  cases g3:(eqL eqI u.actions w.actions)
  ·simp only [g0,g1,g3,Bool.false_and,Bool.and_false,Bool.true_and] at hGU
   subst hGU
   rw [Bool.false_and] at hqi
   rw [← hqi]
   try simp only [go_sem,byq,bp,g0,e0,g1,e1,d2,g3,true_and,Bool.bne_false,Bool.bne_true,Bool.not_true,Bool.not_false,ybb]
   refine ⟨u.actions,w.actions,⟨rfl,rfl,hou.2.1,how.2.1⟩,?_⟩
   try simp only [go_sem,byq,bp,g0,e0,g1,e1,d2,g3,true_and,Bool.bne_false,Bool.bne_true,Bool.not_true,Bool.not_false,ybb]
   first
    |(simp (disch:=first|exact Zd|omega) [↓zmo,beq,ybc,ybd,ybe,aa,wk,wk2,wk1,wkM,wkL,ak,ybf,hcl];repeat first|exact .refl _|refine .push ?_ _)
    |(refine ⟨?_,by repeat first|exact .refl _|refine .push ?_ _,hcl,?_⟩
      ·simp [wk,wk2,wk1]
      ·simp [zng];done)
  cases g4:(u.quota==w.quota)
  ·have e4:(u.quota != w.quota)=true:=by rw [bne,g4];rfl
   simp only [g0,g1,g3,g4,Bool.false_and,Bool.and_false,Bool.true_and] at hGU
   subst hGU
   rw [Bool.false_and] at hqi
   rw [← hqi]
   try simp only [go_sem,byq,bp,g0,e0,g1,e1,d2,g3,g4,e4,true_and,Bool.bne_false,Bool.bne_true,Bool.not_true,Bool.not_false,ybb]
   refine ⟨u.actions,w.actions,⟨rfl,rfl,hou.2.1,how.2.1⟩,?_⟩
   try simp only [go_sem,byq,bp,g0,e0,g1,e1,d2,g3,g4,e4,true_and,Bool.bne_false,Bool.bne_true,Bool.not_true,Bool.not_false,ybb]
   first
    |(simp (disch:=first|exact Zd|omega) [↓zmo,beq,ybc,ybd,ybe,aa,wk,wk2,wk1,wkM,wkL,ak,ybf,hcl];repeat first|exact .refl _|refine .push ?_ _)
    |(refine ⟨?_,by repeat first|exact .refl _|refine .push ?_ _,hcl,?_⟩
      ·simp [wk,wk2,wk1]
      ·simp [zng];done)
  have e4:(u.quota != w.quota)=false:=by rw [bne,g4];rfl
  cases g5:(u.audit==w.audit)
  ·have e5:(u.audit != w.audit)=true:=by rw [bne,g5];rfl
   simp only [g0,g1,g3,g4,g5,Bool.false_and,Bool.and_false,Bool.true_and] at hGU
   subst hGU
   rw [Bool.false_and] at hqi
   rw [← hqi]
   try simp only [go_sem,byq,bp,g0,e0,g1,e1,d2,g3,g4,e4,g5,e5,true_and,Bool.bne_false,Bool.bne_true,Bool.not_true,Bool.not_false,ybb]
   refine ⟨u.actions,w.actions,⟨rfl,rfl,hou.2.1,how.2.1⟩,?_⟩
   try simp only [go_sem,byq,bp,g0,e0,g1,e1,d2,g3,g4,e4,g5,e5,true_and,Bool.bne_false,Bool.bne_true,Bool.not_true,Bool.not_false,ybb]
   first
    |(simp (disch:=first|exact Zd|omega) [↓zmo,beq,ybc,ybd,ybe,aa,wk,wk2,wk1,wkM,wkL,ak,ybf,hcl];repeat first|exact .refl _|refine .push ?_ _)
    |(refine ⟨?_,by repeat first|exact .refl _|refine .push ?_ _,hcl,?_⟩
      ·simp [wk,wk2,wk1]
      ·simp [zng];done)
  have e5:(u.audit != w.audit)=false:=by rw [bne,g5];rfl
  simp only [g0,g1,g3,g4,g5,Bool.and_true,Bool.true_and] at hGU
  try simp only [go_sem,byq,bp,g0,e0,g1,e1,d2,g3,g4,e4,g5,e5,true_and,Bool.bne_false,Bool.bne_true,Bool.not_true,Bool.not_false,ybb]
  refine ⟨u.actions,w.actions,⟨rfl,rfl,hou.2.1,how.2.1⟩,?_⟩
  try simp only [go_sem,byq,bp,g0,e0,g1,e1,d2,g3,g4,e4,g5,e5,true_and,Bool.bne_false,Bool.bne_true,Bool.not_true,Bool.not_false,ybb]
  have hcl4:((((H.push (.cells (a9 X))).push (.cells (a9 Y))).push (.cells [.int .i64 u.id,.str u.name,.slice .any 4 (u.grants.map aN),.slice .any 1 (inL u.actions),.int .i64 u.quota,.bool u.audit])).push (.cells [.int .i64 w.id,.str w.name,.slice .any 4 (w.grants.map aN),.slice .any 1 (inL w.actions),.int .i64 w.quota,.bool w.audit])).Closed:=aj (aj hcl2 hCu) hCw
  refine aq (A:=Nat) (fun k=>[(3,.ptr (H.nx+1) 0),(61,.slice .any 6 (X.roles.map bH)),(62,.int .i64 (X.roles.length:Int)),(63,.int .i64 (i:Int)),(7,.ptr (H.nx+1+1+1) 0),(117,.slice .any 4 (u.grants.map aN)),(118,.int .i64 (u.grants.length:Int)),(119,.int .i64 (k:Int))]) (fun _=>((((H.push (.cells (a9 X))).push (.cells (a9 Y))).push (.cells [.int .i64 u.id,.str u.name,.slice .any 4 (u.grants.map aN),.slice .any 1 (inL u.actions),.int .i64 u.quota,.bool u.audit])).push (.cells [.int .i64 w.id,.str w.name,.slice .any 4 (w.grants.map aN),.slice .any 1 (inL w.actions),.int .i64 w.quota,.bool w.audit]))) (fun k=>k≤u.grants.length∧eqL ko (u.grants.drop k) (w.grants.drop k)=GU) (fun k=>u.grants.length - k) 0 ⟨by omega,hGU⟩ ?_ fun k hk=>?_
  ·refine ⟨by simp only [zkq,zkv,zle];omega,by repeat first|exact .refl _|refine .push ?_ _,hcl4,?_,?_⟩
   ·first|(simp [ltF,zle,znn,znf,aA ck,aA bV,ck,bV];done)|(simp [ltF,zle,znn,znf,aA ck,aA bV,ck,bV];omega)
   ·simp [aM,wk2,wk1,wkM,Fr.get]
  obtain ⟨hk,hq⟩:=hk
  simp only [go_sem]
  refine ae (fun hc=>?_) (fun hc=>?_)
  ·have hk':k<u.grants.length:=by simp at hc;omega
   have hk2:k<w.grants.length:=by omega
   obtain ⟨x,hx⟩:∃ x,x=u.grants[k]:=⟨_,rfl⟩
   obtain ⟨y,hy⟩:∃ y,y=w.grants[k]:=⟨_,rfl⟩
   have hd:u.grants.drop k=x::u.grants.drop (k+1):=by rw [hx];exact dcq hk'
   have hd2:w.grants.drop k=y::w.grants.drop (k+1):=by rw [hy];exact dcq hk2
   have hg:=av (f:=aN) (l:=u.grants) (k:=k) (x:=x) (by rw [gQq hk',hx])
   have hg2:=av (f:=aN) (l:=w.grants) (k:=k) (x:=y) (by rw [gQq hk2,hy])
   have e5:=Yk5 k
   have hox:uq x:=hou.2.2 x (by rw [hx];exact gMq hk')
   have hoy:uq y:=how.2.2 y (by rw [hy];exact gMq hk2)
   rw [hd,hd2] at hq
   unfold eqL at hq
   obtain ⟨G,hG⟩:∃ G,ko x y=G:=⟨_,rfl⟩
   rw [hG] at hq
   unfold ko at hG
   simp only [go_sem,iNq,ybb,hg,hg2,aN,a9]
   (repeat with_reducible refine And.intro (by first|assumption|decide|omega) ?_)
   try simp only [go_sem,iNq,ybb,hg,hg2,aN]
   (repeat with_reducible refine And.intro (by first|assumption|decide|omega) ?_)
   cases h0:(x.table==y.table)
   ·have b0:(x.table != y.table)=true:=by rw [bne,h0];rfl
    simp only [h0,Bool.false_and,Bool.and_false,Bool.true_and] at hG
    subst hG
    rw [Bool.false_and] at hq
    try simp only [go_sem,byq,j4,h0,b0,true_and,Bool.bne_false,Bool.bne_true,Bool.not_true,Bool.not_false]
    subst hq
    rw [Bool.false_and] at hqi
    rw [← hqi]
    try simp only [go_sem]
    first
     |(simp (disch:=first|exact Zd|omega) [↓zmo,beq,ybc,ybd,ybe,aa,wk,wk2,wk1,wkM,wkL,ak,ybf,hcl];repeat first|exact .refl _|refine .push ?_ _)
     |(refine ⟨?_,by repeat first|exact .refl _|refine .push ?_ _,hcl,?_⟩
       ·simp [wk,wk2,wk1]
       ·simp [zng];done)
   have b0:(x.table != y.table)=false:=by rw [bne,h0];rfl
   cases h1:(x.read==y.read)
   ·have b1:(x.read != y.read)=true:=by rw [bne,h1];rfl
    simp only [h0,h1,Bool.false_and,Bool.and_false,Bool.true_and] at hG
    subst hG
    rw [Bool.false_and] at hq
    try simp only [go_sem,byq,j4,h0,b0,h1,b1,true_and,Bool.bne_false,Bool.bne_true,Bool.not_true,Bool.not_false]
    subst hq
    rw [Bool.false_and] at hqi
    rw [← hqi]
    try simp only [go_sem]
    first
     |(simp (disch:=first|exact Zd|omega) [↓zmo,beq,ybc,ybd,ybe,aa,wk,wk2,wk1,wkM,wkL,ak,ybf,hcl];repeat first|exact .refl _|refine .push ?_ _)
     |(refine ⟨?_,by repeat first|exact .refl _|refine .push ?_ _,hcl,?_⟩
       ·simp [wk,wk2,wk1]
       ·simp [zng];done)
   have b1:(x.read != y.read)=false:=by rw [bne,h1];rfl
   cases h2:(x.write==y.write)
   ·have b2:(x.write != y.write)=true:=by rw [bne,h2];rfl
    simp only [h0,h1,h2,Bool.false_and,Bool.and_false,Bool.true_and] at hG
    subst hG
    rw [Bool.false_and] at hq
    try simp only [go_sem,byq,j4,h0,b0,h1,b1,h2,b2,true_and,Bool.bne_false,Bool.bne_true,Bool.not_true,Bool.not_false]
    subst hq
    rw [Bool.false_and] at hqi
    rw [← hqi]
    try simp only [go_sem]
    first
     |(simp (disch:=first|exact Zd|omega) [↓zmo,beq,ybc,ybd,ybe,aa,wk,wk2,wk1,wkM,wkL,ak,ybf,hcl];repeat first|exact .refl _|refine .push ?_ _)
     |(refine ⟨?_,by repeat first|exact .refl _|refine .push ?_ _,hcl,?_⟩
       ·simp [wk,wk2,wk1]
       ·simp [zng];done)
   have b2:(x.write != y.write)=false:=by rw [bne,h2];rfl
   cases h3:(eqL eqB x.keys y.keys)
   ·simp only [h0,h1,h2,h3,Bool.false_and,Bool.and_false,Bool.true_and] at hG
    subst hG
    rw [Bool.false_and] at hq
    try simp only [go_sem,byq,j4,h0,b0,h1,b1,h2,b2,h3,true_and,Bool.bne_false,Bool.bne_true,Bool.not_true,Bool.not_false]
    refine ⟨x.keys,y.keys,⟨rfl,rfl,hox,hoy⟩,?_⟩
    try simp only [go_sem,byq,j4,h0,b0,h1,b1,h2,b2,h3,true_and,Bool.bne_false,Bool.bne_true,Bool.not_true,Bool.not_false]
    subst hq
    rw [Bool.false_and] at hqi
    rw [← hqi]
    try simp only [go_sem]
    first
     |(simp (disch:=first|exact Zd|omega) [↓zmo,beq,ybc,ybd,ybe,aa,wk,wk2,wk1,wkM,wkL,ak,ybf,hcl];repeat first|exact .refl _|refine .push ?_ _)
     |(refine ⟨?_,by repeat first|exact .refl _|refine .push ?_ _,hcl,?_⟩
       ·simp [wk,wk2,wk1]
       ·simp [zng];done)
   simp only [h0,h1,h2,h3,Bool.and_true,Bool.true_and] at hG
   subst hG
   rw [Bool.true_and] at hq
   try simp only [go_sem,byq,j4,h0,b0,h1,b1,h2,b2,h3,true_and,Bool.bne_false,Bool.bne_true,Bool.not_true,Bool.not_false]
   refine ⟨x.keys,y.keys,⟨rfl,rfl,hox,hoy⟩,?_⟩
   try simp only [go_sem,byq,j4,h0,b0,h1,b1,h2,b2,h3,true_and,Bool.bne_false,Bool.bne_true,Bool.not_true,Bool.not_false]
   try simp only [go_sem,e5]
   refine ⟨k+1,⟨by omega,hq⟩,by omega,by (try simp only [zkq,zkv,zle]);omega,by repeat first|exact .refl _|refine .push ?_ _,hcl4,?_,?_⟩
   ·first|(simp [ltF,zle,znn,znf,aA ck,aA bV,ck,bV];done)|(simp [ltF,zle,znn,znf,aA ck,aA bV,ck,bV];omega)
   ·simp [aM,wk2,wk1,wkM,Fr.get]
  have hk':k=u.grants.length:=by simp at hc;omega
  subst hk'
  rw [List.drop_length,hlen_Gra,List.drop_length] at hq
  unfold eqL at hq
  subst hq
  rw [Bool.true_and] at hqi
  try simp only [go_sem,e5i]
  refine ⟨i+1,⟨by omega,hqi⟩,by omega,by (try simp only [zkq,zkv,zle]);omega,by repeat first|exact .refl _|refine .push ?_ _,hcl2,?_,?_⟩
  ·first|(simp [ltF,zle,znn,znf,aA ck,aA bV,ck,bV];done)|(simp [ltF,zle,znn,znf,aA ck,aA bV,ck,bV];omega)
  ·simp [aM,wk2,wk1,wkM,Fr.get]
 have hi':i=X.roles.length:=by simp at hci;omega
 subst hi'
 rw [List.drop_length,hlen,List.drop_length] at hqi
 unfold eqL at hqi
 subst hqi
 try simp only [go_sem,Bool.true_and]
 first
  |(simp (disch:=first|exact Zd|omega) [↓zmo,beq,ybc,ybd,ybe,aa,wk,wk2,wk1,wkM,wkL,ak,ybf,hcl];repeat first|exact .refl _|refine .push ?_ _)
  |(refine ⟨?_,by repeat first|exact .refl _|refine .push ?_ _,hcl,?_⟩
    ·simp [wk,wk2,wk1]
    ·simp [zng];done)
end Go.AL
