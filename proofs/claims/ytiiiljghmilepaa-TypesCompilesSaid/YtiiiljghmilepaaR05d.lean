/- Contracts and plain laws, a part of the proof; no condition of its own. -/
import Derived.Test.YtiiiljghmilepaaN05d
open List renaming length_cons → yaz, length_nil → yba, take_of_length_le → ybc, drop_append → ybd, take_append → ybe, drop_eq_nil_of_le → ybf
open Go Go.AL Go.Proofs
namespace Go.AL
set_option linter.all false
set_option maxRecDepth 10000
def fl:List AV→AHeap→(AV→Prop)→Prop
 |[x],_,K=>∃ c,x=bf c∧K (.int .i64 (dg c:Nat))
 |_,_,_=>False
theorem uU:EntOk Try.prog 63 (Ent.pure fl):=by
 refine EntOk.pure fun args H K h=>?_
 unfold fl at h
 split at h
 rotate_left
 ·exact h.elim
 obtain ⟨c,rfl,hK⟩:=h
 refine ⟨_,hK,?_⟩
 clear hK
 refine ACalls.fW aI TblOk.nil Try.func63 [.tmp 2] (Nat.le_refl _) (T:=aA []) (h:=fun hcl hlt=>?_)
 clear hlt
 have hc:c.toNat<256:=UInt8.toNat_lt c
 have w8:∀ x,IntKind.u8.wrap x=x % 256:=fun x=>by simp [IntKind.wrap,IntKind.signed,IntKind.bits]
 simp only [go_sem,bf]
 refine bb (fun h1=>?_) (fun h1=>?_)
 ·refine ak (fun h2=>?_) (fun h2=>?_)
  ·have hd:dg c=c.toNat - 48:=by unfold dg;rw [if_pos (by simp at h1 h2;omega)]
   have e:IntKind.i64.wrap (IntKind.u8.wrap ((c.toNat:Int) - 48))=(dg c:Nat):=by
    rw [w8,hd];simp at h1 h2;rw [wrap_i64]<;>omega
   simp only [go_sem,e]
   simp (disch:=first|assumption|omega|(simp;done)|(simp;omega)|(simp only [bt,and_true];first|done|omega|(simp;done))) [↓zmi,beq,ybc,ybd,ybe,ag,wk,wk2,wk1,wkM,wkL,am,ybf,hcl]
  ·simp only [go_sem]
   refine bb (fun h3=>?_) (fun h3=>?_)
   ·refine ak (fun h4=>?_) (fun h4=>?_)
    ·have hd:dg c=c.toNat - 87:=by unfold dg;simp at h1 h2 h3 h4;rw [if_neg (by omega),if_pos (by omega)]
     have e:IntKind.i64.wrap (IntKind.i64.wrap (IntKind.u8.wrap ((c.toNat:Int) - 97))+10)=(dg c:Nat):=by
      rw [w8,hd];simp at h1 h2 h3 h4
      have e1:IntKind.i64.wrap (((c.toNat:Int) - 97) % 256)=(c.toNat:Int) - 97:=by rw [wrap_i64]<;>omega
      rw [e1,wrap_i64]<;>omega
     simp only [go_sem,e]
     simp (disch:=first|assumption|omega|(simp;done)|(simp;omega)|(simp only [bt,and_true];first|done|omega|(simp;done))) [↓zmi,beq,ybc,ybd,ybe,ag,wk,wk2,wk1,wkM,wkL,am,ybf,hcl]
    ·have hd:dg c=99:=by unfold dg;simp at h1 h2 h3 h4;rw [if_neg (by omega),if_neg (by omega)]
     simp only [go_sem,hd]
     simp (disch:=first|assumption|omega|(simp;done)|(simp;omega)|(simp only [bt,and_true];first|done|omega|(simp;done))) [↓zmi,beq,ybc,ybd,ybe,ag,wk,wk2,wk1,wkM,wkL,am,ybf,hcl]
   ·have hd:dg c=99:=by unfold dg;simp at h1 h2 h3;rw [if_neg (by omega),if_neg (by omega)]
    try simp only [go_sem,zau,hd]
    simp (disch:=first|assumption|omega|(simp;done)|(simp;omega)|(simp only [bt,and_true];first|done|omega|(simp;done))) [↓zmi,beq,ybc,ybd,ybe,ag,wk,wk2,wk1,wkM,wkL,am,ybf,hcl]
 ·try simp only [go_sem,zau]
  refine bb (fun h3=>?_) (fun h3=>?_)
  ·refine ak (fun h4=>?_) (fun h4=>?_)
   ·simp at h1 h3;omega
   ·have hd:dg c=99:=by unfold dg;simp at h1 h3 h4;rw [if_neg (by omega),if_neg (by omega)]
    simp only [go_sem,hd]
    simp (disch:=first|assumption|omega|(simp;done)|(simp;omega)|(simp only [bt,and_true];first|done|omega|(simp;done))) [↓zmi,beq,ybc,ybd,ybe,ag,wk,wk2,wk1,wkM,wkL,am,ybf,hcl]
  ·have hd:dg c=99:=by unfold dg;simp at h1 h3;rw [if_neg (by omega),if_neg (by omega)]
   try simp only [go_sem,zau,hd]
   simp (disch:=first|assumption|omega|(simp;done)|(simp;omega)|(simp only [bt,and_true];first|done|omega|(simp;done))) [↓zmi,beq,ybc,ybd,ybe,ag,wk,wk2,wk1,wkM,wkL,am,ybf,hcl]
def kf (o:Option Nat):AV:=match o with
 |some n=>.tup [zAV n,.bool true]
 |none=>.tup [zAV 0,.bool false]
theorem xD {s:List UInt8} (h:¬ (2<s.length∧eP s [48,120]=true)):lit s=if s=[] then none else cD 10 0 s:=by
 unfold lit
 by_cases hp:eP s [48,120]=true
 ·rw [if_pos hp]
  have hl:s.length=2:=by
   have:=congrArg List.length (eq_of_beq hp)
   rw [List.length_take] at this
   simp at this
   have:¬ 2<s.length:=fun h2=>h ⟨h2,hp⟩
   omega
  have hs:s=[48,120]:=by
   have:=eq_of_beq hp
   rwa [ybc (by simp;omega)] at this
  subst hs
  decide +kernel
 ·rw [if_neg hp]
def kg:List AV→AHeap→(AV→Prop)→Prop
 |[.str s],_,K=>(s.length≤140737488355328)∧K (kf (lit s))
 |_,_,_=>False
set_option maxHeartbeats 2000000 in
theorem rR:EntOk Try.prog 37 (Ent.pure kg):=by
 refine EntOk.pure fun args H K h=>?_
 unfold kg at h
 split at h
 rotate_left
 ·exact h.elim
 rename_i s
 obtain ⟨hl,hK⟩:=h
 refine ⟨_,hK,?_⟩
 refine ACalls.fW aI (TblOk.cons z5 (TblOk.cons uU (TblOk.cons tt (TblOk.cons ww TblOk.nil)))) Try.func37 [.cell 2 107,.tmp 3] (Nat.le_refl _) (T:=aA [(15,[[],[],[],[],[],[4],[0,4,5],[0,4,5,6]])]) (h:=fun hcl hlt=>?_)
 clear hlt hK
 simp only [go_sem,dk,eO]
 refine bb (fun h1=>?_) (fun h1=>?_)
 ·have hl2:2<s.length:=by simp at h1;omega
  refine ⟨by omega,ak (fun h0=>?_) (fun h0=>?_)⟩
  ·have hp:eP s [48,120]=true:=by unfold eP;simpa using h0
   have hr:lit s=if s.drop 2=[] then none else cD 16 0 (s.drop 2):=by unfold lit;rw [if_pos hp]
   try simp only [go_sem,dk,eO,Int.toNat_natCast,List.take_length]
   refine ⟨by omega,by omega,?_⟩
   have hl':(s.drop 2).length≤140737488355328:=by rw [List.length_drop];omega
   rw [hr]
   clear hr hl
   generalize s.drop 2=b at *
   refine ax (A:=Nat × Nat) (fun x=>[(0,.str b),(2,.ptr H.nx 0),(4,.int .i64 16),(5,.ptr (H.nx+1) 0),(6,.int .i64 (x.1:Int))])
    (fun x=>(H.push (.cells [.bool false,.slice .nil 1 []])).push (.cells [.bool (decide ((x.2:Int)<0)),.slice .any 1 (bK (bB ((x.2:Int)).natAbs))]))
    (fun x=>x.1≤b.length∧x.2<2^128∧cD 16 0 b=cD 16 x.2 (b.drop x.1)) (fun x=>b.length - x.1) (0,0) ⟨by omega,by decide,rfl⟩ ?_ fun x hI=>?_
   ·(simp only [bkq,enterW,aR,ltF,ne_eq,Nat.reduceEqDiff,reduceCtorEq,aV,Int.natAbs_zero];try simp (disch:=first|assumption|omega|(simp;done)|(simp;omega)|(simp only [bt,and_true];first|done|omega|(simp;done))) [↓zmi,beq,ybc,ybd,ybe,ag,wk,wk2,wk1,wkM,wkL,am,ybf,byq,biq,ae,hcl,aV,Int.natAbs_zero];try (repeat' (first|assumption|omega|exact True.intro|refine And.intro ?_ ?_|refine af ?_|refine aa ?_|refine ac ?_ ?_|refine ah ?_ ?_|refine aj ?_|exact AHeap.Le.refl _|refine AHeap.Le.push ?_ _|refine AHeap.Le.del ?_ ?_|(simp only [bt,and_true,true_and,aV,Int.natAbs_zero];first|done|omega|(simp;done)))))
   obtain ⟨k,n⟩:=x
   obtain ⟨hk,hn,hl2⟩:=hI
   dsimp only at *
   simp only [go_sem,byq]
   refine ak (fun h2=>?_) (fun h2=>?_)
   ·have h2':k<b.length:=by simpa using h2
    rw [List.drop_eq_getElem_cons h2'] at hl2
    have hg:AV.int .u8 ((b.getD k 0).toNat:Int)=bf b[k]:=by simp [List.getD_eq_getElem?_getD,h2',bf]
    have e5:IntKind.i64.wrap ((k:Int)+1)=((k+1:Nat):Int):=by rw [wrap_i64]<;>omega
    have hbn:b≠[]:=by intro h;subst h;simp at h2'
    simp only [cD] at hl2
    generalize b[k]=c at *
    have hc:dg c≤99:=by unfold dg;have:=UInt8.toNat_lt c;split<;>(try split)<;>omega
    simp only [go_sem,byq,hg,fl,dk,eO]
    refine ⟨by omega,c,rfl,?_⟩
    simp only [go_sem,byq]
    refine ak (fun h3=>?_) (fun h3=>?_)
    ·have hd:¬ dg c<16:=by simp at h3;omega
     rw [if_neg hd] at hl2
     simp only [go_sem,byq,dk,eO,hl2,if_neg hbn,kf]
     refine ⟨by omega,?_⟩
     simp (disch:=first|assumption|omega|(simp;done)|(simp;omega)|(simp only [bt,and_true];first|done|omega|(simp;done))) [↓zmi,beq,ybc,ybd,ybe,ag,wk,wk2,wk1,wkM,wkL,am,ybf,hcl]
    ·have hd:dg c<16:=by simp at h3;omega
     rw [if_pos hd] at hl2
     simp only [go_sem,byq,dk,eO]
     refine ⟨by omega,?_⟩
     refine ax (A:=Nat) (fun j=>[(0,.str b),(2,.ptr H.nx 0),(4,.int .i64 16),(5,.ptr (H.nx+1) 0),(6,.int .i64 (k:Int)),(7,.ptr (H.nx+1+1) 0),(8,.int .i64 (j:Int))])
      (fun j=>((H.push (.cells [.bool false,.slice .nil 1 []])).push (.cells [.bool (decide ((n:Int)<0)),.slice .any 1 (bK (bB ((n:Int)).natAbs))])).push (.cells [.bool (decide (((n*j:Nat):Int)<0)),.slice .any 1 (bK (bB (((n*j:Nat):Int)).natAbs))]))
      (fun j=>j≤16) (fun j=>16 - j) 0 (by omega) ?_ fun j hj=>?_
     ·(simp only [bkq,enterW,aR,ltF,ne_eq,Nat.reduceEqDiff,reduceCtorEq,aV,Int.natAbs_zero,Nat.mul_zero];try simp (disch:=first|assumption|omega|(simp;done)|(simp;omega)|(simp only [bt,and_true];first|done|omega|(simp;done))) [↓zmi,beq,ybc,ybd,ybe,ag,wk,wk2,wk1,wkM,wkL,am,ybf,byq,biq,ae,hcl,aV,Int.natAbs_zero,Nat.mul_zero];try (repeat' (first|assumption|omega|exact True.intro|refine And.intro ?_ ?_|refine af ?_|refine aa ?_|refine ac ?_ ?_|refine ah ?_ ?_|refine aj ?_|exact AHeap.Le.refl _|refine AHeap.Le.push ?_ _|refine AHeap.Le.del ?_ ?_|(simp only [bt,and_true,true_and,aV,Int.natAbs_zero,Nat.mul_zero];first|done|omega|(simp;done)))))
     have hnj:n*j<2^133:=by
      have:n*j≤n*16:=Nat.mul_le_mul_left n (by omega)
      omega
     have hsj:cV ((n*j:Nat):Int):=cS 60 (by rw [Int.natAbs_natCast];omega) (by decide)
     have hsn:cV (n:Int):=cS 60 (by rw [Int.natAbs_natCast];omega) (by decide)
     simp only [go_sem,byq]
     refine ak (fun h4=>?_) (fun h4=>?_)
     ·have h4':j<16:=by simp at h4;omega
      have ej:IntKind.i64.wrap ((j:Int)+1)=((j+1:Nat):Int):=by rw [wrap_i64]<;>omega
      have en:((n*j:Nat):Int)+(n:Int)=((n*(j+1):Nat):Int):=by rw [Nat.mul_add];omega
      simp only [go_sem,byq,fu]
      refine ⟨((n*j:Nat):Int),(n:Int),⟨rfl,rfl,hsj,hsn⟩,?_⟩
      simp only [go_sem,byq,zAV,en,ej]
      refine ⟨j+1,by omega,by omega,?_⟩
      (simp only [bkq,enterW,aR,ltF,ne_eq,Nat.reduceEqDiff,reduceCtorEq];try simp (disch:=first|assumption|omega|(simp;done)|(simp;omega)|(simp only [bt,and_true];first|done|omega|(simp;done))) [↓zmi,beq,ybc,ybd,ybe,ag,wk,wk2,wk1,wkM,wkL,am,ybf,byq,biq,ae,hcl];try (repeat' (first|assumption|omega|exact True.intro|refine And.intro ?_ ?_|refine af ?_|refine aa ?_|refine ac ?_ ?_|refine ah ?_ ?_|refine aj ?_|exact AHeap.Le.refl _|refine AHeap.Le.push ?_ _|refine AHeap.Le.del ?_ ?_|(simp only [bt,and_true,true_and];first|done|omega|(simp;done)))))
     ·have h4':j=16:=by simp at h4;omega
      subst h4'
      have en:((n*16:Nat):Int)+((dg c:Nat):Int)=((n*16+dg c:Nat):Int):=by omega
      have hsd:cV ((dg c:Nat):Int):=cS 10 (by rw [Int.natAbs_natCast];omega) (by decide)
      have hsf:cV ((n*16+dg c:Nat):Int):=cS 60 (by rw [Int.natAbs_natCast];omega) (by decide)
      obtain ⟨z,hz2⟩:∃ z:Int,z=((n*16+dg c:Nat):Int):=⟨_,rfl⟩
      rw [← hz2] at en hsf
      obtain ⟨y,hy⟩:∃ y:Int,y=((dg c:Nat):Int):=⟨_,rfl⟩
      simp only [go_sem,byq,fu,fl,dk,hg]
      refine ⟨by omega,c,rfl,?_⟩
      simp only [go_sem,byq,dk,fu]
      refine ⟨by omega,((n*16:Nat):Int),((dg c:Nat):Int),⟨rfl,rfl,hsj,hsd⟩,?_⟩
      refine fN (a:=n*16+dg c) (b:=2^128) (fun hf=>?_) (fun hf=>?_)
      ·rw [if_pos hf] at hl2
       have hft:decide (0≤z∧z<2^128)=true:=decide_eq_true (by omega)
       simp only [go_sem,byq,zAV,en,gp]
       refine ⟨z,⟨rfl,hsf⟩,?_⟩
       simp only [go_sem,byq,zau,hft,e5]
       refine ⟨(k+1,n*16+dg c),⟨by omega,hf,hl2⟩,by omega,?_⟩
       (simp only [bkq,enterW,aR,ltF,ne_eq,Nat.reduceEqDiff,reduceCtorEq,hz2];try simp (disch:=first|assumption|omega|(simp;done)|(simp;omega)|(simp only [bt,and_true];first|done|omega|(simp;done))) [↓zmi,beq,ybc,ybd,ybe,ag,wk,wk2,wk1,wkM,wkL,am,ybf,byq,biq,ae,hcl,hz2];try (repeat' (first|assumption|omega|exact True.intro|refine And.intro ?_ ?_|refine af ?_|refine aa ?_|refine ac ?_ ?_|refine ah ?_ ?_|refine aj ?_|exact AHeap.Le.refl _|refine AHeap.Le.push ?_ _|refine AHeap.Le.del ?_ ?_|(simp only [bt,and_true,true_and,hz2];first|done|omega|(simp;done)))))
      ·rw [if_neg (Nat.not_lt.2 hf)] at hl2
       have hft:decide (0≤z∧z<2^128)=false:=decide_eq_false (by omega)
       simp only [go_sem,byq,zAV,en,gp]
       refine ⟨z,⟨rfl,hsf⟩,?_⟩
       simp only [go_sem,byq,zat,hft,dk,eO,hl2,if_neg hbn,kf]
       refine ⟨by omega,?_⟩
       simp (disch:=first|assumption|omega|(simp;done)|(simp;omega)|(simp only [bt,and_true];first|done|omega|(simp;done))) [↓zmi,beq,ybc,ybd,ybe,ag,wk,wk2,wk1,wkM,wkL,am,ybf,hcl]
   ·have h2':k=b.length:=by simp at h2;omega
    subst h2'
    rw [List.drop_length] at hl2
    simp only [cD] at hl2
    simp only [go_sem,byq]
    by_cases hbn:b=[]
    ·subst hbn
     have hn0:n=0:=by simp only [cD] at hl2;exact (Option.some.inj hl2).symm
     subst hn0
     have hb0:(([]:List UInt8)==[])=true:=rfl
     simp only [go_sem,byq,if_pos,kf,eO,hb0]
     simp (disch:=first|assumption|omega|(simp;done)|(simp;omega)|(simp only [bt,and_true];first|done|omega|(simp;done))) [↓zmi,beq,ybc,ybd,ybe,ag,wk,wk2,wk1,wkM,wkL,am,ybf,hcl,aV,cy]
    ·have hb0:(b==[])=false:=by simp [hbn]
     simp only [go_sem,byq,if_neg hbn,kf,hl2,zAV,hb0]
     simp (disch:=first|assumption|omega|(simp;done)|(simp;omega)|(simp only [bt,and_true];first|done|omega|(simp;done))) [↓zmi,beq,ybc,ybd,ybe,ag,wk,wk2,wk1,wkM,wkL,am,ybf,hcl]
  ·have hr:lit s=if s=[] then none else cD 10 0 s:=xD fun h=>by
    have:eP s [48,120]=false:=by unfold eP;simpa using h0
    rw [this] at h;exact absurd h.2 (by simp)
   try simp only [go_sem,dk,eO,Int.toNat_natCast,List.take_length,zau]
   refine ⟨by omega,?_⟩
   have hl':(s).length≤140737488355328:=by exact hl
   rw [hr]
   clear hr hl
   generalize s=b at *
   refine ax (A:=Nat × Nat) (fun x=>[(0,.str b),(2,.ptr H.nx 0),(4,.int .i64 10),(5,.ptr (H.nx+1) 0),(6,.int .i64 (x.1:Int))])
    (fun x=>(H.push (.cells [.bool false,.slice .nil 1 []])).push (.cells [.bool (decide ((x.2:Int)<0)),.slice .any 1 (bK (bB ((x.2:Int)).natAbs))]))
    (fun x=>x.1≤b.length∧x.2<2^128∧cD 10 0 b=cD 10 x.2 (b.drop x.1)) (fun x=>b.length - x.1) (0,0) ⟨by omega,by decide,rfl⟩ ?_ fun x hI=>?_
   ·(simp only [bkq,enterW,aR,ltF,ne_eq,Nat.reduceEqDiff,reduceCtorEq,aV,Int.natAbs_zero];try simp (disch:=first|assumption|omega|(simp;done)|(simp;omega)|(simp only [bt,and_true];first|done|omega|(simp;done))) [↓zmi,beq,ybc,ybd,ybe,ag,wk,wk2,wk1,wkM,wkL,am,ybf,byq,biq,ae,hcl,aV,Int.natAbs_zero];try (repeat' (first|assumption|omega|exact True.intro|refine And.intro ?_ ?_|refine af ?_|refine aa ?_|refine ac ?_ ?_|refine ah ?_ ?_|refine aj ?_|exact AHeap.Le.refl _|refine AHeap.Le.push ?_ _|refine AHeap.Le.del ?_ ?_|(simp only [bt,and_true,true_and,aV,Int.natAbs_zero];first|done|omega|(simp;done)))))
   obtain ⟨k,n⟩:=x
   obtain ⟨hk,hn,hl2⟩:=hI
   dsimp only at *
   simp only [go_sem,byq]
   refine ak (fun h2=>?_) (fun h2=>?_)
   ·have h2':k<b.length:=by simpa using h2
    rw [List.drop_eq_getElem_cons h2'] at hl2
    have hg:AV.int .u8 ((b.getD k 0).toNat:Int)=bf b[k]:=by simp [List.getD_eq_getElem?_getD,h2',bf]
    have e5:IntKind.i64.wrap ((k:Int)+1)=((k+1:Nat):Int):=by rw [wrap_i64]<;>omega
    have hbn:b≠[]:=by intro h;subst h;simp at h2'
    simp only [cD] at hl2
    generalize b[k]=c at *
    have hc:dg c≤99:=by unfold dg;have:=UInt8.toNat_lt c;split<;>(try split)<;>omega
    simp only [go_sem,byq,hg,fl,dk,eO]
    refine ⟨by omega,c,rfl,?_⟩
    simp only [go_sem,byq]
    refine ak (fun h3=>?_) (fun h3=>?_)
    ·have hd:¬ dg c<10:=by simp at h3;omega
     rw [if_neg hd] at hl2
     simp only [go_sem,byq,dk,eO,hl2,if_neg hbn,kf]
     refine ⟨by omega,?_⟩
     simp (disch:=first|assumption|omega|(simp;done)|(simp;omega)|(simp only [bt,and_true];first|done|omega|(simp;done))) [↓zmi,beq,ybc,ybd,ybe,ag,wk,wk2,wk1,wkM,wkL,am,ybf,hcl]
    ·have hd:dg c<10:=by simp at h3;omega
     rw [if_pos hd] at hl2
     simp only [go_sem,byq,dk,eO]
     refine ⟨by omega,?_⟩
     refine ax (A:=Nat) (fun j=>[(0,.str b),(2,.ptr H.nx 0),(4,.int .i64 10),(5,.ptr (H.nx+1) 0),(6,.int .i64 (k:Int)),(7,.ptr (H.nx+1+1) 0),(8,.int .i64 (j:Int))])
      (fun j=>((H.push (.cells [.bool false,.slice .nil 1 []])).push (.cells [.bool (decide ((n:Int)<0)),.slice .any 1 (bK (bB ((n:Int)).natAbs))])).push (.cells [.bool (decide (((n*j:Nat):Int)<0)),.slice .any 1 (bK (bB (((n*j:Nat):Int)).natAbs))]))
      (fun j=>j≤10) (fun j=>10 - j) 0 (by omega) ?_ fun j hj=>?_
     ·(simp only [bkq,enterW,aR,ltF,ne_eq,Nat.reduceEqDiff,reduceCtorEq,aV,Int.natAbs_zero,Nat.mul_zero];try simp (disch:=first|assumption|omega|(simp;done)|(simp;omega)|(simp only [bt,and_true];first|done|omega|(simp;done))) [↓zmi,beq,ybc,ybd,ybe,ag,wk,wk2,wk1,wkM,wkL,am,ybf,byq,biq,ae,hcl,aV,Int.natAbs_zero,Nat.mul_zero];try (repeat' (first|assumption|omega|exact True.intro|refine And.intro ?_ ?_|refine af ?_|refine aa ?_|refine ac ?_ ?_|refine ah ?_ ?_|refine aj ?_|exact AHeap.Le.refl _|refine AHeap.Le.push ?_ _|refine AHeap.Le.del ?_ ?_|(simp only [bt,and_true,true_and,aV,Int.natAbs_zero,Nat.mul_zero];first|done|omega|(simp;done)))))
     have hnj:n*j<2^133:=by
      have:n*j≤n*16:=Nat.mul_le_mul_left n (by omega)
      omega
     have hsj:cV ((n*j:Nat):Int):=cS 60 (by rw [Int.natAbs_natCast];omega) (by decide)
     have hsn:cV (n:Int):=cS 60 (by rw [Int.natAbs_natCast];omega) (by decide)
     simp only [go_sem,byq]
     refine ak (fun h4=>?_) (fun h4=>?_)
     ·have h4':j<10:=by simp at h4;omega
      have ej:IntKind.i64.wrap ((j:Int)+1)=((j+1:Nat):Int):=by rw [wrap_i64]<;>omega
      have en:((n*j:Nat):Int)+(n:Int)=((n*(j+1):Nat):Int):=by rw [Nat.mul_add];omega
      simp only [go_sem,byq,fu]
      refine ⟨((n*j:Nat):Int),(n:Int),⟨rfl,rfl,hsj,hsn⟩,?_⟩
      simp only [go_sem,byq,zAV,en,ej]
      refine ⟨j+1,by omega,by omega,?_⟩
      (simp only [bkq,enterW,aR,ltF,ne_eq,Nat.reduceEqDiff,reduceCtorEq];try simp (disch:=first|assumption|omega|(simp;done)|(simp;omega)|(simp only [bt,and_true];first|done|omega|(simp;done))) [↓zmi,beq,ybc,ybd,ybe,ag,wk,wk2,wk1,wkM,wkL,am,ybf,byq,biq,ae,hcl];try (repeat' (first|assumption|omega|exact True.intro|refine And.intro ?_ ?_|refine af ?_|refine aa ?_|refine ac ?_ ?_|refine ah ?_ ?_|refine aj ?_|exact AHeap.Le.refl _|refine AHeap.Le.push ?_ _|refine AHeap.Le.del ?_ ?_|(simp only [bt,and_true,true_and];first|done|omega|(simp;done)))))
     ·have h4':j=10:=by simp at h4;omega
      subst h4'
      have en:((n*10:Nat):Int)+((dg c:Nat):Int)=((n*10+dg c:Nat):Int):=by omega
      have hsd:cV ((dg c:Nat):Int):=cS 10 (by rw [Int.natAbs_natCast];omega) (by decide)
      have hsf:cV ((n*10+dg c:Nat):Int):=cS 60 (by rw [Int.natAbs_natCast];omega) (by decide)
      obtain ⟨z,hz2⟩:∃ z:Int,z=((n*10+dg c:Nat):Int):=⟨_,rfl⟩
      rw [← hz2] at en hsf
      obtain ⟨y,hy⟩:∃ y:Int,y=((dg c:Nat):Int):=⟨_,rfl⟩
      simp only [go_sem,byq,fu,fl,dk,hg]
      refine ⟨by omega,c,rfl,?_⟩
      simp only [go_sem,byq,dk,fu]
      refine ⟨by omega,((n*10:Nat):Int),((dg c:Nat):Int),⟨rfl,rfl,hsj,hsd⟩,?_⟩
      refine fN (a:=n*10+dg c) (b:=2^128) (fun hf=>?_) (fun hf=>?_)
      ·rw [if_pos hf] at hl2
       have hft:decide (0≤z∧z<2^128)=true:=decide_eq_true (by omega)
       simp only [go_sem,byq,zAV,en,gp]
       refine ⟨z,⟨rfl,hsf⟩,?_⟩
       simp only [go_sem,byq,zau,hft,e5]
       refine ⟨(k+1,n*10+dg c),⟨by omega,hf,hl2⟩,by omega,?_⟩
       (simp only [bkq,enterW,aR,ltF,ne_eq,Nat.reduceEqDiff,reduceCtorEq,hz2];try simp (disch:=first|assumption|omega|(simp;done)|(simp;omega)|(simp only [bt,and_true];first|done|omega|(simp;done))) [↓zmi,beq,ybc,ybd,ybe,ag,wk,wk2,wk1,wkM,wkL,am,ybf,byq,biq,ae,hcl,hz2];try (repeat' (first|assumption|omega|exact True.intro|refine And.intro ?_ ?_|refine af ?_|refine aa ?_|refine ac ?_ ?_|refine ah ?_ ?_|refine aj ?_|exact AHeap.Le.refl _|refine AHeap.Le.push ?_ _|refine AHeap.Le.del ?_ ?_|(simp only [bt,and_true,true_and,hz2];first|done|omega|(simp;done)))))
      ·rw [if_neg (Nat.not_lt.2 hf)] at hl2
       have hft:decide (0≤z∧z<2^128)=false:=decide_eq_false (by omega)
       simp only [go_sem,byq,zAV,en,gp]
       refine ⟨z,⟨rfl,hsf⟩,?_⟩
       simp only [go_sem,byq,zat,hft,dk,eO,hl2,if_neg hbn,kf]
       refine ⟨by omega,?_⟩
       simp (disch:=first|assumption|omega|(simp;done)|(simp;omega)|(simp only [bt,and_true];first|done|omega|(simp;done))) [↓zmi,beq,ybc,ybd,ybe,ag,wk,wk2,wk1,wkM,wkL,am,ybf,hcl]
   ·have h2':k=b.length:=by simp at h2;omega
    subst h2'
    rw [List.drop_length] at hl2
    simp only [cD] at hl2
    simp only [go_sem,byq]
    by_cases hbn:b=[]
    ·subst hbn
     have hn0:n=0:=by simp only [cD] at hl2;exact (Option.some.inj hl2).symm
     subst hn0
     have hb0:(([]:List UInt8)==[])=true:=rfl
     simp only [go_sem,byq,if_pos,kf,eO,hb0]
     simp (disch:=first|assumption|omega|(simp;done)|(simp;omega)|(simp only [bt,and_true];first|done|omega|(simp;done))) [↓zmi,beq,ybc,ybd,ybe,ag,wk,wk2,wk1,wkM,wkL,am,ybf,hcl,aV,cy]
    ·have hb0:(b==[])=false:=by simp [hbn]
     simp only [go_sem,byq,if_neg hbn,kf,hl2,zAV,hb0]
     simp (disch:=first|assumption|omega|(simp;done)|(simp;omega)|(simp only [bt,and_true];first|done|omega|(simp;done))) [↓zmi,beq,ybc,ybd,ybe,ag,wk,wk2,wk1,wkM,wkL,am,ybf,hcl]
 ·have hr:lit s=if s=[] then none else cD 10 0 s:=xD fun h=>by
   have:¬ 2<s.length:=by simp at h1;omega
   exact this h.1
  try simp only [go_sem,dk,eO,Int.toNat_natCast,List.take_length,zau]
  refine ⟨by omega,?_⟩
  have hl':(s).length≤140737488355328:=by exact hl
  rw [hr]
  clear hr hl
  generalize s=b at *
  refine ax (A:=Nat × Nat) (fun x=>[(0,.str b),(2,.ptr H.nx 0),(4,.int .i64 10),(5,.ptr (H.nx+1) 0),(6,.int .i64 (x.1:Int))])
   (fun x=>(H.push (.cells [.bool false,.slice .nil 1 []])).push (.cells [.bool (decide ((x.2:Int)<0)),.slice .any 1 (bK (bB ((x.2:Int)).natAbs))]))
   (fun x=>x.1≤b.length∧x.2<2^128∧cD 10 0 b=cD 10 x.2 (b.drop x.1)) (fun x=>b.length - x.1) (0,0) ⟨by omega,by decide,rfl⟩ ?_ fun x hI=>?_
  ·(simp only [bkq,enterW,aR,ltF,ne_eq,Nat.reduceEqDiff,reduceCtorEq,aV,Int.natAbs_zero];try simp (disch:=first|assumption|omega|(simp;done)|(simp;omega)|(simp only [bt,and_true];first|done|omega|(simp;done))) [↓zmi,beq,ybc,ybd,ybe,ag,wk,wk2,wk1,wkM,wkL,am,ybf,byq,biq,ae,hcl,aV,Int.natAbs_zero];try (repeat' (first|assumption|omega|exact True.intro|refine And.intro ?_ ?_|refine af ?_|refine aa ?_|refine ac ?_ ?_|refine ah ?_ ?_|refine aj ?_|exact AHeap.Le.refl _|refine AHeap.Le.push ?_ _|refine AHeap.Le.del ?_ ?_|(simp only [bt,and_true,true_and,aV,Int.natAbs_zero];first|done|omega|(simp;done)))))
  obtain ⟨k,n⟩:=x
  obtain ⟨hk,hn,hl2⟩:=hI
  dsimp only at *
  simp only [go_sem,byq]
  refine ak (fun h2=>?_) (fun h2=>?_)
  ·have h2':k<b.length:=by simpa using h2
   rw [List.drop_eq_getElem_cons h2'] at hl2
   have hg:AV.int .u8 ((b.getD k 0).toNat:Int)=bf b[k]:=by simp [List.getD_eq_getElem?_getD,h2',bf]
   have e5:IntKind.i64.wrap ((k:Int)+1)=((k+1:Nat):Int):=by rw [wrap_i64]<;>omega
   have hbn:b≠[]:=by intro h;subst h;simp at h2'
   simp only [cD] at hl2
   generalize b[k]=c at *
   have hc:dg c≤99:=by unfold dg;have:=UInt8.toNat_lt c;split<;>(try split)<;>omega
   simp only [go_sem,byq,hg,fl,dk,eO]
   refine ⟨by omega,c,rfl,?_⟩
   simp only [go_sem,byq]
   refine ak (fun h3=>?_) (fun h3=>?_)
   ·have hd:¬ dg c<10:=by simp at h3;omega
    rw [if_neg hd] at hl2
    simp only [go_sem,byq,dk,eO,hl2,if_neg hbn,kf]
    refine ⟨by omega,?_⟩
    simp (disch:=first|assumption|omega|(simp;done)|(simp;omega)|(simp only [bt,and_true];first|done|omega|(simp;done))) [↓zmi,beq,ybc,ybd,ybe,ag,wk,wk2,wk1,wkM,wkL,am,ybf,hcl]
   ·have hd:dg c<10:=by simp at h3;omega
    rw [if_pos hd] at hl2
    simp only [go_sem,byq,dk,eO]
    refine ⟨by omega,?_⟩
    refine ax (A:=Nat) (fun j=>[(0,.str b),(2,.ptr H.nx 0),(4,.int .i64 10),(5,.ptr (H.nx+1) 0),(6,.int .i64 (k:Int)),(7,.ptr (H.nx+1+1) 0),(8,.int .i64 (j:Int))])
     (fun j=>((H.push (.cells [.bool false,.slice .nil 1 []])).push (.cells [.bool (decide ((n:Int)<0)),.slice .any 1 (bK (bB ((n:Int)).natAbs))])).push (.cells [.bool (decide (((n*j:Nat):Int)<0)),.slice .any 1 (bK (bB (((n*j:Nat):Int)).natAbs))]))
     (fun j=>j≤10) (fun j=>10 - j) 0 (by omega) ?_ fun j hj=>?_
    ·(simp only [bkq,enterW,aR,ltF,ne_eq,Nat.reduceEqDiff,reduceCtorEq,aV,Int.natAbs_zero,Nat.mul_zero];try simp (disch:=first|assumption|omega|(simp;done)|(simp;omega)|(simp only [bt,and_true];first|done|omega|(simp;done))) [↓zmi,beq,ybc,ybd,ybe,ag,wk,wk2,wk1,wkM,wkL,am,ybf,byq,biq,ae,hcl,aV,Int.natAbs_zero,Nat.mul_zero];try (repeat' (first|assumption|omega|exact True.intro|refine And.intro ?_ ?_|refine af ?_|refine aa ?_|refine ac ?_ ?_|refine ah ?_ ?_|refine aj ?_|exact AHeap.Le.refl _|refine AHeap.Le.push ?_ _|refine AHeap.Le.del ?_ ?_|(simp only [bt,and_true,true_and,aV,Int.natAbs_zero,Nat.mul_zero];first|done|omega|(simp;done)))))
    have hnj:n*j<2^133:=by
     have:n*j≤n*16:=Nat.mul_le_mul_left n (by omega)
     omega
    have hsj:cV ((n*j:Nat):Int):=cS 60 (by rw [Int.natAbs_natCast];omega) (by decide)
    have hsn:cV (n:Int):=cS 60 (by rw [Int.natAbs_natCast];omega) (by decide)
    simp only [go_sem,byq]
    refine ak (fun h4=>?_) (fun h4=>?_)
    ·have h4':j<10:=by simp at h4;omega
     have ej:IntKind.i64.wrap ((j:Int)+1)=((j+1:Nat):Int):=by rw [wrap_i64]<;>omega
     have en:((n*j:Nat):Int)+(n:Int)=((n*(j+1):Nat):Int):=by rw [Nat.mul_add];omega
     simp only [go_sem,byq,fu]
     refine ⟨((n*j:Nat):Int),(n:Int),⟨rfl,rfl,hsj,hsn⟩,?_⟩
     simp only [go_sem,byq,zAV,en,ej]
     refine ⟨j+1,by omega,by omega,?_⟩
     (simp only [bkq,enterW,aR,ltF,ne_eq,Nat.reduceEqDiff,reduceCtorEq];try simp (disch:=first|assumption|omega|(simp;done)|(simp;omega)|(simp only [bt,and_true];first|done|omega|(simp;done))) [↓zmi,beq,ybc,ybd,ybe,ag,wk,wk2,wk1,wkM,wkL,am,ybf,byq,biq,ae,hcl];try (repeat' (first|assumption|omega|exact True.intro|refine And.intro ?_ ?_|refine af ?_|refine aa ?_|refine ac ?_ ?_|refine ah ?_ ?_|refine aj ?_|exact AHeap.Le.refl _|refine AHeap.Le.push ?_ _|refine AHeap.Le.del ?_ ?_|(simp only [bt,and_true,true_and];first|done|omega|(simp;done)))))
    ·have h4':j=10:=by simp at h4;omega
     subst h4'
     have en:((n*10:Nat):Int)+((dg c:Nat):Int)=((n*10+dg c:Nat):Int):=by omega
     have hsd:cV ((dg c:Nat):Int):=cS 10 (by rw [Int.natAbs_natCast];omega) (by decide)
     have hsf:cV ((n*10+dg c:Nat):Int):=cS 60 (by rw [Int.natAbs_natCast];omega) (by decide)
     obtain ⟨z,hz2⟩:∃ z:Int,z=((n*10+dg c:Nat):Int):=⟨_,rfl⟩
     rw [← hz2] at en hsf
     obtain ⟨y,hy⟩:∃ y:Int,y=((dg c:Nat):Int):=⟨_,rfl⟩
     simp only [go_sem,byq,fu,fl,dk,hg]
     refine ⟨by omega,c,rfl,?_⟩
     simp only [go_sem,byq,dk,fu]
     refine ⟨by omega,((n*10:Nat):Int),((dg c:Nat):Int),⟨rfl,rfl,hsj,hsd⟩,?_⟩
     refine fN (a:=n*10+dg c) (b:=2^128) (fun hf=>?_) (fun hf=>?_)
     ·rw [if_pos hf] at hl2
      have hft:decide (0≤z∧z<2^128)=true:=decide_eq_true (by omega)
      simp only [go_sem,byq,zAV,en,gp]
      refine ⟨z,⟨rfl,hsf⟩,?_⟩
      simp only [go_sem,byq,zau,hft,e5]
      refine ⟨(k+1,n*10+dg c),⟨by omega,hf,hl2⟩,by omega,?_⟩
      (simp only [bkq,enterW,aR,ltF,ne_eq,Nat.reduceEqDiff,reduceCtorEq,hz2];try simp (disch:=first|assumption|omega|(simp;done)|(simp;omega)|(simp only [bt,and_true];first|done|omega|(simp;done))) [↓zmi,beq,ybc,ybd,ybe,ag,wk,wk2,wk1,wkM,wkL,am,ybf,byq,biq,ae,hcl,hz2];try (repeat' (first|assumption|omega|exact True.intro|refine And.intro ?_ ?_|refine af ?_|refine aa ?_|refine ac ?_ ?_|refine ah ?_ ?_|refine aj ?_|exact AHeap.Le.refl _|refine AHeap.Le.push ?_ _|refine AHeap.Le.del ?_ ?_|(simp only [bt,and_true,true_and,hz2];first|done|omega|(simp;done)))))
     ·rw [if_neg (Nat.not_lt.2 hf)] at hl2
      have hft:decide (0≤z∧z<2^128)=false:=decide_eq_false (by omega)
      simp only [go_sem,byq,zAV,en,gp]
      refine ⟨z,⟨rfl,hsf⟩,?_⟩
      simp only [go_sem,byq,zat,hft,dk,eO,hl2,if_neg hbn,kf]
      refine ⟨by omega,?_⟩
      simp (disch:=first|assumption|omega|(simp;done)|(simp;omega)|(simp only [bt,and_true];first|done|omega|(simp;done))) [↓zmi,beq,ybc,ybd,ybe,ag,wk,wk2,wk1,wkM,wkL,am,ybf,hcl]
  ·have h2':k=b.length:=by simp at h2;omega
   subst h2'
   rw [List.drop_length] at hl2
   simp only [cD] at hl2
   simp only [go_sem,byq]
   by_cases hbn:b=[]
   ·subst hbn
    have hn0:n=0:=by simp only [cD] at hl2;exact (Option.some.inj hl2).symm
    subst hn0
    have hb0:(([]:List UInt8)==[])=true:=rfl
    simp only [go_sem,byq,if_pos,kf,eO,hb0]
    simp (disch:=first|assumption|omega|(simp;done)|(simp;omega)|(simp only [bt,and_true];first|done|omega|(simp;done))) [↓zmi,beq,ybc,ybd,ybe,ag,wk,wk2,wk1,wkM,wkL,am,ybf,hcl,aV,cy]
   ·have hb0:(b==[])=false:=by simp [hbn]
    simp only [go_sem,byq,if_neg hbn,kf,hl2,zAV,hb0]
    simp (disch:=first|assumption|omega|(simp;done)|(simp;omega)|(simp only [bt,and_true];first|done|omega|(simp;done))) [↓zmi,beq,ybc,ybd,ybe,ag,wk,wk2,wk1,wkM,wkL,am,ybf,hcl]
end Go.AL
