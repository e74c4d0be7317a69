/- Lemmas of the proof; no condition. -/
import Derived.Test.YthnlhjalhflgfaaGreatW03j
set_option linter.all false
set_option maxRecDepth 10000
open Go Go.AL Go.Proofs
namespace Go.AL
theorem AP:ti Tryz.prog 34=some ⟨.struct [(0,25,false),(1,26,false),(2,27,false),(3,28,false),(4,29,false),(5,30,false),(6,31,false),(7,32,false),(8,3,false),(9,3,false)],10,208,.agg [.slice .nil 1 [],.slice .nil 1 [],.slice .nil 1 [],.slice .nil 1 [],.slice .nil 1 [],.slice .nil 1 [],.slice .nil 1 [],.slice .nil 1 [],.int .i64 0,.int .i64 0]⟩:=by kernel_rfl
attribute [go_sem] AP
theorem rF {n sz:Nat}:AV.lt n (.slice .any sz []):=uj fun x hx=>absurd hx (by simp)
def me (x:Sch):List UInt8 × Int :=
 if (fe x).l=true then ([],3) else if (fe x).f=true then ([],2) else if (fe x).a=true then ([],4) else if 8000<(fe x).b.length then ([],3) else ((fe x).b,0)
def Ke:List AV→AHeap→(AV→Prop)→Prop
 |[.agg l],_,K=>∃ x:Sch,(l=aS x∧OkSch x∧(fe x).b.length≤cG)∧K (.tup [.slice .any 1 (bys (me x).1),.int .i64 (me x).2])
 |_,_,_=>False
theorem SOn.leq {H HB:AHeap} {id q:Nat} {s0 s:Enc} (hW:SOn HB id q s0) (hle:H.Le HB) (h1:H.nx≤id) (h2:H.nx≤q):H.Le (swH HB id q s):=by
 refine ⟨hle.nx,fun j x hj=>?_⟩
 have hj2:=glq hj
 unfold swH
 rw [AHeap.get_set_ne _ _ (by omega),AHeap.get_set_ne _ _ (by omega)]
 exact hle.get _ _ hj
theorem nW {x:Sch} {RE:List UInt8 × Int} (h:me x=RE) :
 ((fe x).l=true∧RE=([],3))∨((fe x).l=false∧(fe x).f=true∧RE=([],2))∨((fe x).l=false∧(fe x).f=false∧(fe x).a=true∧RE=([],4)) ∨
 ((fe x).l=false∧(fe x).f=false∧(fe x).a=false∧8000<(fe x).b.length∧RE=([],3))∨((fe x).l=false∧(fe x).f=false∧(fe x).a=false∧(fe x).b.length≤8000∧RE=((fe x).b,0)):=by
 subst h
 unfold me
 cases (fe x).l<;>cases (fe x).f<;>cases (fe x).a<;>simp
 omega
theorem Lk (x:Sch):enc0.add (fe x)=(((((((((enc0.add (eH x.maxBatch 2)).add (eH x.budget 2)).add (bF fp 32 x.fields)).add (bF g9 8 x.headers)).add (bF jt 12 x.states)).add (bF hG 12 x.actions)).add (bF jv 8 x.tables)).add (bF ju 12 x.stages)).add (bF kL 6 x.roles)).add (bF pK 8 x.refs):=by
 unfold fe ng
 simp only [aR]
def yc:=Ke
set_option maxHeartbeats 16000000 in
theorem Ld:EntOk Tryz.prog 30 (Ent.pure yc):=by
 unfold yc
 refine Ype fun _ H K h=>?_
 unfold Ke at h
 split at h
 rotate_left
 ·exact h.elim
 rename_i l
 obtain ⟨x,⟨rfl,ha,hl⟩,hK⟩:=h
 refine ⟨_,hK,?_⟩
 clear hK
 refine ACalls.fW ap (tCq fS (tCq Er (tCq At (tCq Ea (tCq AM (tCq Ev (tCq BJ (tCq CJ (tCq Bk (tCq HC (tCq BW (tCq CY (tCq Ca (tCq Hr (tCq BN (tCq Gt (tCq Cs tNq))))))))))))))))) Tryz.func30 [.tmp 2,.tmp 3] (nrq _) (T:=aj [(4,[[],[],[],[0,2]]),(5,[[],[],[],[0,2]]),(6,[[],[],[],[0,2]]),(7,[[],[],[],[0,2]]),(8,[[],[],[],[0,2]]),(9,[[],[],[],[0,2]]),(10,[[],[],[],[0,2]]),(11,[[],[],[],[0,2]]),(2,[[1]])]) (h:=fun hcl hlt=>?_)
 clear hlt
 simp only [go_sem,aS,gu]
 refine pJ 4 0 1 (cs:=[AV.slice .nil 1 [],.bool false,.bool false,.bool false]) rfl (by simp only [go_sem]) rfl ?_
 obtain ⟨HB,hHB⟩:∃ HB,HB=(((H.push (.cells (aS x))).push (.buf 1 0)).push (.cells (swC (H.nx+1+1+1) [] false false false))).push (.buf 1 0):=⟨_,rfl⟩
 have hnB:HB.nx=H.nx+1+1+1+1:=by rw [hHB];rfl
 have hW:SOn HB (H.nx+1+1) (H.nx+1+1+1) enc0:=by
  rw [hHB]
  exact ⟨by simp [zlh,zle,zll,swC,enc0],by simp [zlh,zle,enc0]⟩
 have hcB:HB.Closed:=by
  have h1:=ba (i:=H.nx+1+1) (cs:=swC (H.nx+1+1+1) [] false false false) (aY (a:=1) (b:=0) (af (cs:=[]) (aY (a:=1) (b:=0) (af (cs:=aS x) hcl (by have:=hY (n:=H.nx+1) x;simp only [gu,znr] at this;exact this))) trivial)) (by simp only [swC,znu,znv,zng,and_true,zle];rw [fD];exact ⟨fun id h=>(by cases h;omega),trivial⟩)
  simp only [go_sem] at h1
  rw [hHB];exact h1
 have hcr:aI HB H.nx=some (aS x):=by rw [hHB];simp only [go_sem]
 have hle:H.Le HB:=by rw [hHB];repeat first|exact .refl _|refine .push ?_ _
 have hcw:∀ s,aI (swH HB (H.nx+1+1) (H.nx+1+1+1) s) H.nx=some (aS x):=fun s=>by rw [A2 (by omega) (by omega),hcr]
 have hcI:∀ s,aI (swH HB (H.nx+1+1) (H.nx+1+1+1) s) (H.nx+1+1)=some (swC (H.nx+1+1+1) s.b s.l s.f s.a):=fun s=>ag (hW.next s).o
 have hlW:∀ s,H.Le (swH HB (H.nx+1+1) (H.nx+1+1+1) s):=fun s=>hW.leq hle (by omega) (by omega)
 have hcl1:=fun t=>hW.closed (t:=t) hcB
 have hF:=hW.facts
 simp only [bhq,Nat.reduceMod,Nat.reduceDiv,au,aq,ay,aN,ax,aM,aJ,aK,aL,List.take_succ_cons,List.take_zero,List.drop_succ_cons,List.drop_zero,go_sem,zll,List.set_cons_zero]
 rw [show (((H.push (.cells [.slice .any 3 (x.fields.map aX),.slice .any 3 (x.headers.map aH),.slice .any 5 (x.states.map aO),.slice .any 5 (x.actions.map aA),.slice .any 8 (x.tables.map aC),.slice .any 2 (x.stages.map bx),.slice .any 6 (x.roles.map bc),.slice .any 6 (x.refs.map bU),.int .i64 x.maxBatch,.int .i64 x.budget])).push (.buf 1 0)).push (.cells [.slice (.own (H.nx+1+1+1)) 1 [],.bool false,.bool false,.bool false])).push (.buf 1 0)=HB from hHB.symm]
 clear hHB
 obtain ⟨RE,hRE⟩:∃ RE,me x=RE:=⟨_,rfl⟩
 have hR:=nW hRE
 rw [hRE]
 have hTot:=Lk x
 rw [wA] at hTot
 rw [hTot] at hl
 have hl10:=hl
 have hl9:=bb hl10
 have hl8:=bb hl9
 have hl7:=bb hl8
 have hl6:=bb hl7
 have hl5:=bb hl6
 have hl4:=bb hl5
 have hl3:=bb hl4
 have hl2:=bb hl3
 have hl1:=bb hl2
 try simp only [go_sem,hcw,hcI,swC,aS,az,hnB,List.length_map,hcr,gY,hP,gV,g8,gZ,g7,hO,gX]
 refine eC (.inr rfl) hW hl1 ?_
 simp only [go_sem,hcw,hcI,swC,aS,az,hnB,List.length_map,gY,hP,gV,g8,gZ,g7,hO,gX]
 refine eC (.inr rfl) (hW.next _) hl2 ?_
 rw [hF.pp]
 simp only [go_sem,hcw,hcI,swC,aS,az,hnB,List.length_map,gY,hP,gV,g8,gZ,g7,hO,gX]
 refine iT (c:=aX) (ha.f) (hW.next _) hl3 ?_
 rw [hF.pp]
 simp only [go_sem,hcw,hcI,swC,aS,az,hnB,List.length_map,gY,hP,gV,g8,gZ,g7,hO,gX]
 refine iT (c:=aH) (ha.h) (hW.next _) hl4 ?_
 rw [hF.pp]
 simp only [go_sem,hcw,hcI,swC,aS,az,hnB,List.length_map,gY,hP,gV,g8,gZ,g7,hO,gX]
 refine iT (c:=aO) (ha.s) (hW.next _) hl5 ?_
 rw [hF.pp]
 simp only [go_sem,hcw,hcI,swC,aS,az,hnB,List.length_map,gY,hP,gV,g8,gZ,g7,hO,gX]
 refine iT (c:=aA) (ha.a) (hW.next _) hl6 ?_
 rw [hF.pp]
 simp only [go_sem,hcw,hcI,swC,aS,az,hnB,List.length_map,gY,hP,gV,g8,gZ,g7,hO,gX]
 refine iT (c:=aC) (ha.t) (hW.next _) hl7 ?_
 rw [hF.pp]
 simp only [go_sem,hcw,hcI,swC,aS,az,hnB,List.length_map,gY,hP,gV,g8,gZ,g7,hO,gX]
 refine iT (c:=bx) (fun _ _=>trivial) (hW.next _) hl8 ?_
 rw [hF.pp]
 simp only [go_sem,hcw,hcI,swC,aS,az,hnB,List.length_map,gY,hP,gV,g8,gZ,g7,hO,gX]
 refine iT (c:=bc) (ha.r) (hW.next _) hl9 ?_
 rw [hF.pp]
 simp only [go_sem,hcw,hcI,swC,aS,az,hnB,List.length_map,gY,hP,gV,g8,gZ,g7,hO,gX]
 refine iT (c:=bU) (fun _ _=>trivial) (hW.next _) hl10 ?_
 rw [hF.pp]
 rw [← hTot]
 rcases hR with ⟨h1,rfl⟩|⟨h1,h2,rfl⟩|⟨h1,h2,h3,rfl⟩|⟨h1,h2,h3,h4,rfl⟩|⟨h1,h2,h3,h4,rfl⟩
 ·skip
  try simp only [go_sem,hcw,hcI,swC,aS,az,hnB,List.length_map,h1,zlk]
  try (repeat with_reducible refine Yq ?_)
  refine ⟨?_,by first|exact hlW _|(repeat refine lPq ?_ _;exact hlW _),hcl,?_⟩
  ·simp [wk,wk2,wk1,ae,wkM,zll]
  ·simp [zns,znu,znv,zms,znf,zll,rF]
 ·skip
  try simp only [go_sem,hcw,hcI,swC,aS,az,hnB,List.length_map,h1,h2,zlk]
  try (repeat with_reducible refine Yq ?_)
  refine ⟨?_,by first|exact hlW _|(repeat refine lPq ?_ _;exact hlW _),hcl,?_⟩
  ·simp [wk,wk2,wk1,ae,wkM,zll]
  ·simp [zns,znu,znv,zms,znf,zll,rF]
 ·skip
  try simp only [go_sem,hcw,hcI,swC,aS,az,hnB,List.length_map,h1,h2,h3,zlk]
  try (repeat with_reducible refine Yq ?_)
  refine ⟨?_,by first|exact hlW _|(repeat refine lPq ?_ _;exact hlW _),hcl,?_⟩
  ·simp [wk,wk2,wk1,ae,wkM,zll]
  ·simp [zns,znu,znv,zms,znf,zll,rF]
 ·skip
  have d4:decide (((fe x).b.length:Int) > 8000)=true:=dtq (by omega)
  try simp only [go_sem,hcw,hcI,swC,aS,az,hnB,List.length_map,h1,h2,h3,d4,zlk]
  try (repeat with_reducible refine Yq ?_)
  refine ⟨?_,by first|exact hlW _|(repeat refine lPq ?_ _;exact hlW _),hcl,?_⟩
  ·simp [wk,wk2,wk1,ae,wkM,zll]
  ·simp [zns,znu,znv,zms,znf,zll,rF]
 ·skip
  have d4:decide (((fe x).b.length:Int) > 8000)=false:=dfq (by omega)
  try simp only [go_sem,hcw,hcI,swC,aS,az,hnB,List.length_map,h1,h2,h3,d4,zlk]
  try (repeat with_reducible refine Yq ?_)
  refine ⟨?_,by first|exact hlW _|(repeat refine lPq ?_ _;exact hlW _),hcl,?_⟩
  ·simp [wk,wk2,wk1,ae,wkM,zll]
  ·simp [zns,znu,znv,zms,znf,zll,rF]
theorem MH:ti Tryz.prog 22=some ⟨.slice 5,1,24,.slice .nil 1 []⟩:=by kernel_rfl
attribute [go_sem] MH
theorem Ie:ti Tryz.prog 28=some ⟨.slice 86,1,24,.slice .nil 1 []⟩:=by kernel_rfl
theorem GV:ti Tryz.prog 29=some ⟨.slice 57,1,24,.slice .nil 1 []⟩:=by kernel_rfl
theorem Hl:ti Tryz.prog 31=some ⟨.slice 48,1,24,.slice .nil 1 []⟩:=by kernel_rfl
theorem G8:ti Tryz.prog 25=some ⟨.slice 45,1,24,.slice .nil 1 []⟩:=by kernel_rfl
theorem F2:ti Tryz.prog 83=some ⟨.slice 114,1,24,.slice .nil 1 []⟩:=by kernel_rfl
theorem EC:ti Tryz.prog 32=some ⟨.slice 50,1,24,.slice .nil 1 []⟩:=by kernel_rfl
theorem Fe:ti Tryz.prog 84=some ⟨.slice 112,1,24,.slice .nil 1 []⟩:=by kernel_rfl
theorem ES:ti Tryz.prog 30=some ⟨.slice 75,1,24,.slice .nil 1 []⟩:=by kernel_rfl
theorem C5:ti Tryz.prog 23=some ⟨.slice 3,1,24,.slice .nil 1 []⟩:=by kernel_rfl
theorem JV:ti Tryz.prog 86=some ⟨.struct [(0,3,false),(1,9,false),(2,83,false),(3,84,false),(4,9,false)],5,88,.agg [.int .i64 0,.str [],.slice .nil 1 [],.slice .nil 1 [],.str []]⟩:=by kernel_rfl
theorem Jv:ti Tryz.prog 57=some ⟨.struct [(0,3,false),(1,9,false),(2,54,false),(3,23,false),(4,3,false),(5,55,false),(6,3,false),(7,9,false)],8,128,.agg [.int .i64 0,.str [],.slice .nil 1 [],.slice .nil 1 [],.int .i64 0,.slice .nil 1 [],.int .i64 0,.str []]⟩:=by kernel_rfl
theorem Js:ti Tryz.prog 48=some ⟨.struct [(0,3,false),(1,9,false),(2,46,false),(3,23,false),(4,3,false),(5,4,false)],6,88,.agg [.int .i64 0,.str [],.slice .nil 1 [],.slice .nil 1 [],.int .i64 0,.bool false]⟩:=by kernel_rfl
theorem J5:ti Tryz.prog 45=some ⟨.struct [(0,3,false),(1,9,false),(2,3,false)],3,32,.agg [.int .i64 0,.str [],.int .i64 0]⟩:=by kernel_rfl
theorem Lx:ti Tryz.prog 114=some ⟨.struct [(0,9,false),(1,3,false)],2,24,.agg [.str [],.int .i64 0]⟩:=by kernel_rfl
theorem Io:ti Tryz.prog 112=some ⟨.struct [(0,3,false),(1,3,false),(2,110,false)],6,48,.agg [.int .i64 0,.int .i64 0,.int .i64 0,.int .i64 0,.int .u64 0,.int .u64 0]⟩:=by kernel_rfl
theorem KG:ti Tryz.prog 110=some ⟨.struct [(0,3,false),(1,3,false),(2,106,false)],4,32,.agg [.int .i64 0,.int .i64 0,.int .u64 0,.int .u64 0]⟩:=by kernel_rfl
theorem Im:ti Tryz.prog 50=some ⟨.struct [(0,3,false),(1,3,false),(2,3,false),(3,3,false),(4,3,false),(5,3,false)],6,48,.agg [.int .i64 0,.int .i64 0,.int .i64 0,.int .i64 0,.int .i64 0,.int .i64 0]⟩:=by kernel_rfl
theorem KY:ti Tryz.prog 75=some ⟨.struct [(0,3,false),(1,3,false)],2,16,.agg [.int .i64 0,.int .i64 0]⟩:=by kernel_rfl
attribute [go_sem] Ie GV Hl G8 F2 EC Fe ES C5 JV Jv Js J5 Lx Io KG Im KY
theorem aU:∀ (X Y:List AV) (f:Nat) (v:List AV),splice (X++Y) (X.length+f) v=X++splice Y f v
 |[],Y,f,v=>by simp
 |x::X,Y,f,v=>by
  have:=aU X Y f v
  rw [List.length_cons,show X.length+1+f=X.length+f+1 by omega]
  show x::splice (X++Y) (X.length+f) v=_
  rw [this];rfl
theorem bo (X Y:List AV) (f:Nat) (d:AV):(X++Y).getD (X.length+f) d=Y.getD f d:=by
 rw [gEq,gEq,List.getElem?_append_right (by omega)]
 congr 2;omega
theorem ql {H' H1:AHeap} {id sz n:Nat} {cs L:List AV} (h1:aI H' id=some cs) (h2:bH sz n cs=L) (h3:H1.get id=none):wk1 H' H1 (.ms id 0 sz n) (.slice .any sz L):=by
 simp only [wk1,h1];exact ⟨.inl trivial,trivial,h2.symm,h3⟩
theorem my {H:AHeap} {i:Nat} (h:H.nx≤i):H.get i=none:=by unfold AHeap.get;rw [if_neg (by omega)]
theorem Ax {sz n:Nat} {c rest:List AV} (h:c.length=sz) (h1:sz≠1):bH sz (n+1) (c++rest)=.agg c::bH sz n rest:=by
 rw [bH,if_neg h1]
 congr 1
 ·congr 1
  refine List.ext_getElem (by simp [h]) fun j h1 h2=>?_
  simp only [List.getElem_map,List.getElem_range]
  rw [gEq,List.getElem?_append_left h2]
  simp [h2]
 ·rw [← h,List.drop_left]
theorem oF {α:Type} {f:α→AV} {sz:Nat} (hf:∀ x,∃ c,f x=.agg c∧c.length=sz) (h1:sz≠1) (J:List AV):∀ l:List α,bH sz l.length ((l.map f).flatMap AV.cells++J)=l.map f
 |[]=>rfl
 |x::l=>by
  obtain ⟨c,hc,hl⟩:=hf x
  rw [List.map_cons,List.flatMap_cons,hc,List.append_assoc,List.length_cons]
  show bH sz (l.length+1) (c++_)=_
  rw [Ax hl h1,oF hf h1 J l]
theorem pj {α:Type} {f:α→AV} {sz:Nat} (hf:∀ x,(f x).cells.length=sz):∀ l:List α,((l.map f).flatMap AV.cells).length=l.length*sz
 |[]=>by simp
 |x::l=>by rw [List.map_cons,List.flatMap_cons,lAq,hf,pj hf l,List.length_cons,Nat.succ_mul];omega
theorem jK {α:Type} {f:α→AV} (hf:∀ x,(f x).lt 0) (l:List α):∀ x∈(l.map f).flatMap AV.cells,AV.lt 0 x:=fun x hx=>by
 obtain ⟨y,hy,hx⟩:=List.mem_flatMap.1 hx
 obtain ⟨m,_,rfl⟩:=List.mem_map.1 hy
 obtain ⟨j,hj,rfl⟩:=List.getElem_of_mem hx
 exact AV.lt_cells (hf m) j hj
theorem fL {α:Type} {f:α→AV} {l:List α} (h:1≤l.length):(l.map f).isEmpty=false:=by
 cases l with
 |nil=>simp at h
 |cons x y=>rfl
theorem iX {α:Type} {f:α→AV} {sz:Nat} (hf:∀ x,∃ c,f x=.agg c∧c.length=sz) (h1:sz≠1) (k:Nat) (l A B:List α) (m:α) (h:l=A++m::B) :
 ∃ C0 Z,C0.length=A.length*sz∧(l.map f).flatMap AV.cells++List.replicate k .junk=C0++((f m).cells++Z)∧∀ m',bH sz l.length (C0++((f m').cells++Z))=(A++m'::B).map f:=by
 refine ⟨(A.map f).flatMap AV.cells,(B.map f).flatMap AV.cells++List.replicate k .junk,pj (fun x=>by obtain ⟨c,e,hl⟩:=hf x;rw [e];exact hl) A,?_,fun m'=>?_⟩
 ·rw [h];simp [List.append_assoc]
 ·have:=oF hf h1 (List.replicate k .junk) (A++m'::B)
  rw [show l.length=(A++m'::B).length by rw [h];simp,← this]
  simp [List.append_assoc]
theorem lh {α:Type} {l:List α} {i:Nat} (h:i<l.length):∃ A m B,A.length=i∧l=A++m::B :=
 ⟨l.take i,l[i],l.drop (i+1),by simp;omega,by rw [← dcq h,List.take_append_drop]⟩
theorem aP (cs:List AV) (o:Nat):splice cs o []=cs:=nQ cs o
theorem fZ:∀ {a a' b b':List AV},ke a a'→ke b b'→ke (a++b) (a'++b')
 |[],[],_,_,_,h=>h
 |x::a,y::a',_,_,⟨h1,h2⟩,h=>⟨h1,fZ h2 h⟩
 |[],_::_,_,_,h,_=>h.elim
 |_::_,[],_,_,h,_=>h.elim
theorem eP (l:List AV):ke l l:=of_eq_true wkDL_same
theorem jR (n:Int):0≤IntKind.u64.wrap n∧IntKind.u64.wrap n<18446744073709551616:=by
 unfold IntKind.wrap
 simp only [IntKind.signed,IntKind.bits]
 constructor
 ·simp;omega
 ·simp;omega
theorem wD {v:Nat} (h:v<2^128):(mH v).length≤17:=by
 unfold mH
 rw [List.length_cons,n8]
 have:=vr h
 omega
theorem bq (n w:Int):(eH n w).b.length≤4:=cO n w
theorem lr (s:List UInt8) (m:Int):(iS s m).b.length≤65537:=xV s
theorem mu {v:Nat} (h:jW v):(jH v).b.length≤17:=wD h
theorem mn (x:Bool):(jw x).b.length≤1:=by simp [jw]
theorem Hi {α:Type} {g:α→Enc} {B:Nat}:∀ {l:List α},(∀ a∈l,(g a).b.length≤B)→(bR g l).b.length≤l.length*B
 |[],_=>Nat.zero_le _
 |x::l,h=>by
  rw [bR,aQ,List.length_cons,Nat.succ_mul]
  have:=h x List.mem_cons_self
  have:=Hi (l:=l) fun a ha=>h a (List.mem_cons_of_mem _ ha)
  omega
theorem cn {α:Type} {g:α→Enc} {m:Int} {n B:Nat} {l:List α} (hl:l.length≤n) (h:∀ a∈l,(g a).b.length≤B):(bF g m l).b.length≤4+n*B:=by
 unfold bF d7
 rw [aQ]
 have h1:=Hi h
 have h2:=cO (l.length:Int) 2
 have h3:l.length*B≤n*B:=Nat.mul_le_mul_right _ hl
 dsimp only
 omega
structure SmP (N R:Nat) (x:Sch):Prop where
 f:x.fields.length≤N∧∀ a∈x.fields,mt a.name
 h:x.headers.length≤N∧∀ a∈x.headers,mt a.name∧a.fields.length≤R
 s:x.states.length≤N∧∀ a∈x.states,a.cases.length≤R∧∀ c∈a.cases,nK c
 a:x.actions.length≤N∧∀ a∈x.actions,mO a∧a.params.length≤R∧a.body.length≤R
 t:x.tables.length≤N∧∀ a∈x.tables,pi a∧a.keys.length≤R∧a.actions.length≤R∧a.dargs.length≤R
 g:x.stages.length≤R
 r:x.roles.length≤N∧∀ a∈x.roles,mt a.name∧a.grants.length≤R∧a.actions.length≤R∧∀ q∈a.grants,q.keys.length≤R
 x:x.refs.length≤R
theorem SmP.ok {N R:Nat} {x:Sch} (h:SmP N R x):OkSch x :=
 ⟨h.f.2,fun a ha=>(h.h.2 a ha).1,fun a ha=>(h.s.2 a ha).2,fun a ha=>(h.a.2 a ha).1,fun a ha=>(h.t.2 a ha).1,fun a ha=>(h.r.2 a ha).1⟩
theorem SmP.mono {N R N' R':Nat} {x:Sch} (h:SmP N R x) (hN:N≤N') (hR:R≤R'):SmP N' R' x where
 f:=⟨Nat.le_trans h.f.1 hN,h.f.2⟩
 h:=⟨Nat.le_trans h.h.1 hN,fun a ha=>⟨(h.h.2 a ha).1,Nat.le_trans (h.h.2 a ha).2 hR⟩⟩
 s:=⟨Nat.le_trans h.s.1 hN,fun a ha=>⟨Nat.le_trans (h.s.2 a ha).1 hR,(h.s.2 a ha).2⟩⟩
 a:=⟨Nat.le_trans h.a.1 hN,fun a ha=>⟨(h.a.2 a ha).1,Nat.le_trans (h.a.2 a ha).2.1 hR,Nat.le_trans (h.a.2 a ha).2.2 hR⟩⟩
 t:=⟨Nat.le_trans h.t.1 hN,fun a ha=>⟨(h.t.2 a ha).1,Nat.le_trans (h.t.2 a ha).2.1 hR,Nat.le_trans (h.t.2 a ha).2.2.1 hR,Nat.le_trans (h.t.2 a ha).2.2.2 hR⟩⟩
 g:=Nat.le_trans h.g hR
 r:=⟨Nat.le_trans h.r.1 hN,fun a ha=>⟨(h.r.2 a ha).1,Nat.le_trans (h.r.2 a ha).2.1 hR,Nat.le_trans (h.r.2 a ha).2.2.1 hR,fun q hq=>Nat.le_trans ((h.r.2 a ha).2.2.2 q hq) hR⟩⟩
 x:=Nat.le_trans h.x hR
theorem SmP.len {x:Sch} (h:SmP 50 1100000 x):(fe x).b.length≤cG:=by
 have e1:(bF fp 32 x.fields).b.length≤4+50*65545:=cn h.f.1 fun a _=>by
  unfold fp;rw [aQ,aQ]
  have:=bq a.id 2;have:=lr a.name 24;have:=bq a.bits 1;omega
 have e2:(bF g9 8 x.headers).b.length≤4+50*(65545+1100000*4):=cn h.h.1 fun a ha=>by
  unfold g9;rw [aQ,aQ]
  have:=bq a.id 2;have:=lr a.name 24
  have:=cn (g:=kc) (m:=32) (h.h.2 a ha).2 (B:=4) fun n _=>bq n 2
  omega
 have e3:(bF jt 12 x.states).b.length≤4+50*(20+1100000*38):=cn h.s.1 fun a ha=>by
  unfold jt;rw [aQ,aQ,aQ,aQ]
  have:=bq a.id 2;have:=bq a.header 2;have:=bq a.select 2;have:=bq a.dflt 2
  have:=cn (g:=mh) (m:=6) (h.s.2 a ha).1 (B:=38) fun c hc=>by
   unfold mh;rw [aQ,aQ]
   have:=mu ((h.s.2 a ha).2 c hc).1;have:=mu ((h.s.2 a ha).2 c hc).2;have:=bq c.next 2;omega
  omega
 have e4:(bF hG 12 x.actions).b.length≤4+50*(131086+1100000*65541+1100000*33):=cn h.a.1 fun a ha=>by
  unfold hG;rw [aQ,aQ,aQ,aQ]
  obtain ⟨h1,h2,h3⟩:=h.a.2 a ha
  have:=bq a.id 2;have:=lr a.name 24;have:=lr a.restr 400
  have:=cn (g:=jZ) (m:=4) h2 (B:=65541) fun c hc=>by
   unfold jZ;rw [aQ]
   have:=lr c.name 24;have:=bq c.bits 1;omega
  have:=cn (g:=mb) (m:=12) h3 (B:=33) fun c hc=>by
   unfold mb;rw [aQ,aQ,aQ,aQ]
   have:=bq c.op 1;have:=bq c.dst 2;have:=bq c.kind 1;have:=bq c.n 2;have:=mu (h1.2.2.1 c hc);omega
  omega
 have e5:(bF jv 8 x.tables).b.length≤4+50*(131098+1100000*65545+1100000*4+1100000*17):=cn h.t.1 fun a ha=>by
  unfold jv;simp only [aQ]
  obtain ⟨h1,h2,h3,h4⟩:=h.t.2 a ha
  have:=bq a.id 2;have:=lr a.name 24;have:=lr a.restr 400;have:=bq a.dflt 2;have:=bq a.size 2
  have:=cn (g:=sy) (m:=4) h2 (B:=65545) fun c hc=>by
   unfold sy;rw [aQ,aQ]
   have:=lr c.name 24;have:=bq c.field 2;have:=bq c.kind 1;omega
  have:=cn (g:=kc) (m:=12) h3 (B:=4) fun n _=>bq n 2
  have:=cn (g:=jH) (m:=4) h4 (B:=17) fun v hv=>mu (h1.2.2.1 v hv)
  omega
 have e6:(bF ju 12 x.stages).b.length≤4+1100000*8:=cn h.g fun a _=>by
  unfold ju;rw [aQ]
  have:=bq a.table 2;have:=bq a.header 2;omega
 have e7:(bF kL 6 x.roles).b.length≤4+50*(65560+1100000*(10+1100000*1)+1100000*4):=cn h.r.1 fun a ha=>by
  unfold kL;simp only [aQ]
  obtain ⟨h1,h2,h3,h4⟩:=h.r.2 a ha
  have:=bq a.id 2;have:=lr a.name 24;have:=bq a.quota 2;have:=mn a.audit
  have:=cn (g:=jP) (m:=8) h2 (B:=10+1100000*1) fun c hc=>by
   unfold jP;simp only [aQ]
   have:=bq c.table 2;have:=mn c.read;have:=mn c.write
   have:=cn (g:=jw) (m:=4) (h4 c hc) (B:=1) fun y _=>mn y
   omega
  have:=cn (g:=kc) (m:=12) h3 (B:=4) fun n _=>bq n 2
  omega
 have e8:(bF pK 8 x.refs).b.length≤4+1100000*24:=cn h.x fun a _=>by
  unfold pK;simp only [aQ]
  have:=bq a.table 2;have:=bq a.key 1;have:=bq a.action 2;have:=bq a.param 1;have:=bq a.toTable 2;have:=bq a.toKey 1;omega
 unfold fe ng
 simp only [aQ]
 rw [br]
 have:=bq x.maxBatch 2;have:=bq x.budget 2
 omega
theorem xt:ti Tryz.prog 39=some ⟨.slice 34,1,24,.slice .nil 1 []⟩:=by kernel_rfl
attribute [go_sem] xt
theorem dp {s:List UInt8} (h:s.length≤1000):mt s:=by unfold mt;rw [br];omega
theorem gR {v:Nat} (h:v≤1000):jW v:=by unfold jW;omega
theorem sZ (b:List UInt8) (v:Nat):(bL b v).1.length≤40∧∀ a∈(bL b v).1,a.cases.length≤1000∧∀ c∈a.cases,nK c:=by
 have h2:=jA (b:=b) (v:=v+2) (n:=2) (by decide)
 have h6:=jA (b:=b) (v:=v+6) (n:=3) (by decide)
 have h4:=jA (b:=b) (v:=v+4) (n:=3) (by decide)
 unfold bL
 (repeat' split)<;>refine ⟨by simp,fun a ha=>?_⟩<;>simp only [List.mem_cons,List.not_mem_nil,or_false] at ha<;>rcases ha with rfl|rfl|rfl<;>refine ⟨by simp,fun c hc=>?_⟩ <;>
   simp only [List.mem_cons,List.not_mem_nil,or_false] at hc <;>
   first
    |exact hc.elim
    |(subst hc;exact ⟨gR (by dsimp only;omega),gR (by dsimp only;omega)⟩)
    |(rcases hc with rfl|rfl<;>exact ⟨gR (by dsimp only;omega),gR (by dsimp only;omega)⟩)
    |(rcases hc with rfl|rfl|rfl<;>exact ⟨gR (by dsimp only;omega),gR (by dsimp only;omega)⟩)
theorem rW (b:List UInt8) (v:Nat):(dn b v).length=6∧∀ a∈dn b v,mO a∧a.params.length≤1000∧a.body.length≤1000:=by
 have h1:=jA (b:=b) (v:=v+1) (n:=256) (by decide)
 refine ⟨rfl,fun a ha=>?_⟩
 simp only [dn,List.mem_cons,List.not_mem_nil,or_false] at ha
 rcases ha with rfl|rfl|rfl|rfl|rfl|rfl<;>refine ⟨⟨dp (by simp),fun p hp=>?_,fun p hp=>?_,dp (by dsimp only;(try split)<;>simp)⟩,by simp,by simp⟩<;>simp only [List.mem_cons,List.not_mem_nil,or_false] at hp <;>
  first
   |exact hp.elim
   |(subst hp;first|exact dp (by simp)|exact gR (by dsimp only;omega))
   |(rcases hp with rfl|rfl<;>first|exact dp (by simp)|exact gR (by dsimp only;omega))
   |(rcases hp with rfl|rfl|rfl<;>first|exact dp (by simp)|exact gR (by dsimp only;omega))
theorem lL {L:List (List UInt8)} (h:∀ s∈L,s.length≤1000) (i:Nat):mt (L.getD i []):=by
 rw [gEq]
 cases hi:L[i]? with
 |none=>exact dp (by simp)
 |some s=>exact dp (h s (List.mem_of_getElem? hi))
theorem tc (b:List UInt8) (v:Nat):(cN b v).length=4∧∀ a∈cN b v,pi a∧a.keys.length≤1000∧a.actions.length≤1000∧a.dargs.length≤1000:=by
 refine ⟨rfl,fun a ha=>?_⟩
 simp only [cN,List.mem_cons,List.not_mem_nil,or_false] at ha
 rcases ha with rfl|rfl|rfl|rfl
 ·refine ⟨⟨dp (by simp [fV]),fun k hk=>?_,by simp [fV],lL (by decide) _⟩,by simp [fV],by simp [fV],by simp [fV]⟩
  simp only [fV,List.mem_cons,List.not_mem_nil,or_false] at hk
  subst hk;exact dp (by simp)
 ·refine ⟨⟨dp (by simp [fX]),fun k hk=>?_,by simp [fX],lL (by decide) _⟩,by simp only [fX];split<;>simp,by simp [fX],by simp [fX]⟩
  simp only [fX] at hk
  split at hk<;>simp only [List.cons_append,List.nil_append,List.append_nil,List.mem_cons,List.not_mem_nil,or_false] at hk
  ·rcases hk with rfl|rfl<;>exact dp (by simp)
  ·subst hk;exact dp (by simp)
 ·refine ⟨⟨dp (by simp [dh]),fun k hk=>?_,by simp [dh],lL (by decide) _⟩,by simp only [dh];split<;>simp,by simp [dh],by simp [dh]⟩
  simp only [dh] at hk
  split at hk<;>simp only [List.cons_append,List.nil_append,List.append_nil,List.mem_cons,List.not_mem_nil,or_false] at hk
  ·rcases hk with rfl|rfl|rfl<;>exact dp (by simp)
  ·rcases hk with rfl|rfl<;>exact dp (by simp)
 ·refine ⟨⟨dp (by simp [di]),fun k hk=>?_,fun x hx=>?_,lL (by decide) _⟩,by simp only [di];split<;>simp,by simp [di],by simp [di]⟩
  ·simp only [di] at hk
   split at hk<;>simp only [List.cons_append,List.nil_append,List.append_nil,List.mem_cons,List.not_mem_nil,or_false] at hk
   ·rcases hk with rfl|rfl|rfl<;>exact dp (by simp)
   ·subst hk;exact dp (by simp)
  ·simp only [di,List.mem_singleton] at hx
   subst hx;exact gR (by omega)
def GrOk (n:Nat) (l:List SGrant):Prop:=l.length≤n∧∀ q∈l,q.keys.length≤1000
theorem GrOk.nil {n:Nat}:GrOk n []:=⟨Nat.zero_le _,fun q hq=>by cases hq⟩
theorem GrOk.cons {n:Nat} {l:List SGrant} {q:SGrant} (h:GrOk n l) (hq:q.keys.length≤1000):GrOk (n+1) (q::l) :=
 ⟨Nat.succ_le_succ h.1,fun x hx=>(List.mem_cons.1 hx).elim (fun e=>e ▸ hq) (h.2 x)⟩
theorem GrOk.up {n:Nat} {l:List SGrant} (h:GrOk n l):GrOk (n+1) l:=⟨Nat.le_succ_of_le h.1,h.2⟩
theorem gU (b:List UInt8):∀ (ts:List STable) (v:Nat),(∀ t∈ts,t.keys.length≤1000)→GrOk ts.length (cQ b ts v).1.1∧GrOk ts.length (cQ b ts v).1.2.1∧GrOk ts.length (cQ b ts v).1.2.2
 |[],v,_=>⟨.nil,.nil,.nil⟩
 |t::ts,v,h=>by
  have ht:=h t List.mem_cons_self
  have hp:∀ v,(iU b v t.keys.length).length≤1000:=fun v=>by simp [iU];exact ht
  have hr:(List.replicate t.keys.length true).length≤1000:=by simp;exact ht
  simp only [cQ]
  rw [List.length_cons]
  split<;>split
  ·obtain ⟨i1,i2,i3⟩:=gU b ts (v+t.keys.length+3+3) fun x hx=>h x (List.mem_cons_of_mem _ hx)
   exact ⟨i1.cons hr,i2.cons (hp _),i3.cons hr⟩
  ·obtain ⟨i1,i2,i3⟩:=gU b ts (v+t.keys.length+3+1) fun x hx=>h x (List.mem_cons_of_mem _ hx)
   exact ⟨i1.cons hr,i2.cons (hp _),i3.up⟩
  ·obtain ⟨i1,i2,i3⟩:=gU b ts (v+t.keys.length+1+3) fun x hx=>h x (List.mem_cons_of_mem _ hx)
   exact ⟨i1.cons hr,i2.up,i3.cons hr⟩
  ·obtain ⟨i1,i2,i3⟩:=gU b ts (v+t.keys.length+1+1) fun x hx=>h x (List.mem_cons_of_mem _ hx)
   exact ⟨i1.cons hr,i2.up,i3.up⟩
theorem vJ (b:List UInt8) (v:Nat):SmP 40 1000 (fU b v).1:=by
 unfold fU
 dsimp only
 obtain ⟨t1,t2⟩:=tc b (cp (bL b (cp v 2)).2 4)
 obtain ⟨a1,a2⟩:=rW b (bL b (cp v 2)).2
 refine ⟨⟨(by decide:gFields.length≤40),fun a ha=>?_⟩,⟨(by decide:gHeaders.length≤40),fun a ha=>?_⟩,sZ b _,⟨by dsimp only;omega,a2⟩,⟨by dsimp only;omega,t2⟩,?_,⟨by simp [iO],fun a ha=>?_⟩,?_⟩
 ·simp only [gFields,List.mem_cons,List.not_mem_nil,or_false] at ha
  rcases ha with rfl|rfl|rfl|rfl|rfl|rfl|rfl|rfl|rfl<;>exact dp (by simp)
 ·simp only [gHeaders,List.mem_cons,List.not_mem_nil,or_false] at ha
  rcases ha with rfl|rfl|rfl<;>exact ⟨dp (by simp),by simp⟩
 ·split<;>simp
 ·obtain ⟨g1,g2,g3⟩:=gU b (cN b (cp (bL b (cp v 2)).2 4)) (cp (bL b (cp v 2)).2 16+4) fun t ht=>(t2 t ht).2.1
  rw [t1] at g1 g2 g3
  simp only [iO,List.mem_cons,List.not_mem_nil,or_false] at ha
  rcases ha with rfl|rfl|rfl
  ·exact ⟨dp (by simp),by have:=g1.1;dsimp only;omega,by simp,g1.2⟩
  ·exact ⟨dp (by simp),by have:=g2.1;dsimp only;omega,by simp,g2.2⟩
  ·exact ⟨dp (by simp),by have:=g3.1;dsimp only;omega,by simp,g3.2⟩
 ·(repeat' split)<;>simp
theorem tW {b:List UInt8}:zod b 0=ex b (cp 0 0):=by
 unfold zod ex cp
 simp
end Go.AL
