/- Lemmas of the proof; no condition. -/
import Derived.Test.YtpbnggedofiinaaGreatM19d
set_option linter.all false
set_option maxRecDepth 10000
set_option maxHeartbeats 32000000
open List renaming length_cons → yaz, length_nil → yba, length_map → ybb, take_zero → yar, append_nil → yaj, take_of_length_le → ybc, drop_append → ybd, take_append → ybe, drop_eq_nil_of_le → ybf, map_nil → yaf
open Go Go.AL Go.Proofs
namespace Go.AL
theorem vu {H:AHeap} {id q:Nat} {b:List UInt8} {wr:Bool} {e:SEntry}:pq H id q b wr e=wrH H id q (b++if rgE e then eO e else []) (wr||!rgE e):=by
 unfold pq
 cases rgE e<;>simp
theorem Dk {u:Int × SEntry} (h:COk u.2):(eY u).length≤404:=by
 unfold eY
 rw [lAq]
 have h1:=bW u.1 1
 split
 ·rename_i hr
  obtain ⟨r1,r2⟩:=wC hr
  have:=nJ h r1 r2
  omega
 ·simp;omega
theorem mt:∀ (l:List (Int × SEntry)),(∀ u∈l,COk u.2)→(l.flatMap eY).length≤404*l.length
 |[],_=>by simp
 |u::l,h=>by
  rw [List.flatMap_cons,lAq,yaz]
  have:=Dk (h u List.mem_cons_self)
  have:=mt l fun x hx=>h x (List.mem_cons_of_mem _ hx)
  omega
def A1:List AV→AHeap→(AEnd→AHeap→Prop)→Prop
 |[.ptr id 0,.agg l],H,K=>∃ q b wr r,(WOn H id q b wr∧l=aF r∧ROk r∧b.length≤1000)∧K (.ret (.tup [])) (wrH H id q (b++cd 3 r) (wr||eI 3 r))
 |_,_,_=>False
theorem sQ:EntOk Tryz.prog 122 (Ent.effect A1):=by
 refine EntOk.effect fun args H K h=>?_
 unfold A1 at h
 split at h
 rotate_left
 ·exact h.elim
 rename_i id l
 obtain ⟨q,b,wr,r,⟨hW,rfl,hr,hb⟩,hK⟩:=h
 refine ⟨_,_,hK,?_⟩
 clear hK
 have hid:=glq hW.o
 have hq:=glq hW.bu
 have iv:=ga hr.el
 have lv:=cM hr.el
 have ln:=fun n w=>bW n w
 have hul:=hr.ul
 refine ACalls.fW ah (tCq ip (tCq BK (tCq Bn tNq))) Tryz.func122 [] (by rw [bC];omega) (T:=ae []) (h:=fun hcl hlt=>?_)
 clear hlt
 have hcl0:=fun b' wr'=>hW.closed (b':=b') (wr':=wr') hcl
 simp only [go_sem,byq,aF,cx,iw]
 refine ⟨q,b,wr,hW.push _,?_⟩
 rw [cN ?_ ?_]
 rotate_left
 ·exact hid
 ·exact hq
 have hl1:(b++aa r.role 2).length≤1004:=by rw [lAq];have:=ln r.role 2;omega
 have hW1:WOn (wrH H id q (b++aa r.role 2) (wr||!rg r.role 2)) id q (b++aa r.role 2) (wr||!rg r.role 2):=hW.next (by omega)
 simp only [go_sem,byq,bC,aF,cx,iw]
 refine ⟨q,_,_,⟨hW1.push _,of_eq_true iv⟩,?_⟩
 rw [cN ?_ ?_]
 rotate_left
 ·exact hid
 ·exact hq
 simp only [iNq,dr]
 rw [bP hW.ne]
 have hl2:(b++aa r.role 2++bx r.el).length≤1030:=by rw [lAq];omega
 have hW2:WOn (wrH H id q (b++aa r.role 2++bx r.el) (wr||!rg r.role 2)) id q (b++aa r.role 2++bx r.el) (wr||!rg r.role 2):=hW.next (by omega)
 simp only [go_sem,byq,bC,aF,cx,iw,ybb]
 refine ⟨q,_,_,hW2.push _,?_⟩
 rw [cN ?_ ?_]
 rotate_left
 ·exact hid
 ·exact hq
 rw [bP hW.ne]
 obtain ⟨B0,hB0⟩:∃ B0,B0=b++aa r.role 2++bx r.el++aa (r.ups.length:Int) 2:=⟨_,rfl⟩
 obtain ⟨W0,hW0⟩:∃ W0,W0=(wr||!rg r.role 2||!rg (r.ups.length:Int) 2):=⟨_,rfl⟩
 have eb:b++cd 3 r=B0++r.ups.flatMap eY:=by
  rw [hB0]
  show b++(aa r.role 2++bx r.el++aa r.ups.length 2++r.ups.flatMap eY)=_
  simp [List.append_assoc]
 have ew:(wr||eI 3 r)=(W0||r.ups.any ph):=by
  rw [hW0]
  show (wr||(!rg r.role 2||!rg r.ups.length 2||r.ups.any ph))=_
  simp [Bool.or_assoc]
 have hl3:B0.length≤1040:=by rw [hB0,lAq];have:=ln r.ups.length 2;omega
 rw [eb,ew,← hB0,← hW0]
 clear eb ew hB0 hW0 hW1 hW2 hl1 hl2
 simp only [go_sem,byq,bC,aF,ybb]
 refine aK (A:=Nat) (fun k=>[(0,.ptr id 0),(20,.slice .any 6 (r.ups.map cV)),(21,.int .i64 (r.ups.length:Int)),(22,.int .i64 (k:Int))]) (fun k=>wrH H id q (B0++(r.ups.take k).flatMap eY) (W0||(r.ups.take k).any ph)) (fun k=>k≤r.ups.length) (fun k=>r.ups.length - k) 0 (by omega) ?_ fun k hk=>?_
 ·rw [yar,List.flatMap_nil,yaj,List.any_nil,Bool.or_false]
  refine ⟨by simp only [zkq,zkv,bC];omega,by repeat first|exact .refl _|refine .push ?_ _,hcl0 _ _,?_,?_⟩
  ·simp [ltF,bC,znn,znf,bg kq]
   omega
  ·simp [cf,wk2,wk1,wkM,Fr.get]
 simp only [go_sem]
 have hlk:(B0++(r.ups.take k).flatMap eY).length≤1040+404*k:=by
  rw [lAq]
  have:=mt (r.ups.take k) fun x hx=>hr.uo x (List.mem_of_mem_take hx)
  rw [List.length_take] at this
  omega
 refine af (fun hc=>?_) (fun hc=>?_)
 ·have hk':k<r.ups.length:=by simp at hc;omega
  obtain ⟨x,hx⟩:∃ x,x=r.ups[k]:=⟨_,rfl⟩
  have hg:=bH (f:=cV) (l:=r.ups) (k:=k) (x:=x) (by rw [gQq hk',hx])
  have e5:=Yk5 k
  have hxo:=hr.uo x (by rw [hx];exact gMq hk')
  have et:r.ups.take (k+1)=r.ups.take k++[x]:=by rw [hx,List.take_succ_eq_append_getElem hk']
  have eb:B0++(r.ups.take (k+1)).flatMap eY=B0++(r.ups.take k).flatMap eY++aa x.1 1++(if rgE x.2 then eO x.2 else []):=by
   rw [et,List.flatMap_append,List.flatMap_cons,List.flatMap_nil,yaj]
   unfold eY
   simp [List.append_assoc]
  have ew:(W0||(r.ups.take (k+1)).any ph)=(W0||(r.ups.take k).any ph||!rg x.1 1||!rgE x.2):=by
   rw [et,List.any_append,List.any_cons,List.any_nil,Bool.or_false]
   unfold ph
   simp [Bool.or_assoc]
  generalize B0++(r.ups.take k).flatMap eY=Bk at *
  generalize (W0||(r.ups.take k).any ph)=Wk at *
  have hWk:WOn (wrH H id q Bk Wk) id q Bk Wk:=hW.next (by omega)
  have hlk2:(Bk++aa x.1 1).length≤10000000:=by rw [lAq];have:=ln x.1 1;omega
  have hWk2:WOn (wrH H id q (Bk++aa x.1 1) (Wk||!rg x.1 1)) id q (Bk++aa x.1 1) (Wk||!rg x.1 1):=hW.next hlk2
  obtain ⟨xk,xe⟩:=x
  have hxe:COk xe:=hxo
  dsimp only at eb ew hWk2
  have hC:=dJ (n:=(0:Nat)) xe
  simp only [go_sem,iNq,ybb,hg,cV,kB,aN,bC,cx,uB]
  (repeat with_reducible refine And.intro (by first|assumption|decide|omega) ?_)
  refine ⟨q,Bk,Wk,hWk.push _,?_⟩
  rw [cN ?_ ?_]
  rotate_left
  ·exact hid
  ·exact hq
  rw [bP hW.ne]
  simp only [go_sem,iNq,ybb,cV,kB,aN,bC,cx,uB]
  refine ⟨q,_,_,xe,⟨hWk2.push _,rfl,hxe⟩,?_⟩
  rw [vu,cN ?_ ?_]
  rotate_left
  ·exact hid
  ·exact hq
  rw [bP hW.ne,← eb,← ew]
  simp only [go_sem,e5]
  refine ⟨k+1,by omega,by omega,by simp only [zle,bC];omega,by repeat first|exact .refl _|refine .push ?_ _,hcl0 _ _,?_,?_⟩
  ·simp [ltF,bC,znn,znf,bg kq]
   omega
  ·simp [cf,wk2,wk1,wkM,Fr.get]
 ·have hk':k=r.ups.length:=by simp at hc;omega
  subst hk'
  rw [List.take_length]
  simp only [go_sem]
  refine ⟨?_,by repeat first|exact .refl _|refine .push ?_ _,hcl0 _ _,?_⟩
  ·simp [wk,wk2,wk1,ak]
  ·simp [zns,znv]
def ba:List AV→AHeap→(AV→Prop)→Prop
 |[.slice _ 1 l,.slice _ 1 k],_,K=>∃ a b:List UInt8,(l=bys a∧k=bys b)∧K (.bool (a==b))
 |_,_,_=>False
theorem cI:EntOk Tryz.prog 58 (Ent.pure ba):=by
 refine Ype fun _ H K h=>?_
 unfold ba at h
 split at h
 rotate_left
 ·exact h.elim
 rename_i m1 l m2 k
 obtain ⟨a,b,⟨rfl,rfl⟩,hK⟩:=h
 refine ⟨_,hK,?_⟩
 clear hK
 refine ACalls.fW ah tNq Tryz.func58 [.tmp 4] (nrq _) (T:=ae []) (h:=fun hcl hlt=>?_)
 clear hlt
 simp only [go_sem,byq]
 exact Z2
def eqL {α:Type} (p:α→α→Bool):List α→List α→Bool
 |[],[]=>true
 |x::xs,y::ys=>p x y&&eqL p xs ys
 |_,_=>false
theorem mG {α:Type} {p:α→α→Bool}:∀ {xs ys:List α},xs.length≠ys.length→eqL p xs ys=false
 |[],[],h=>absurd rfl h
 |[],_::_,_=>rfl
 |_::_,[],_=>rfl
 |x::xs,y::ys,h=>by
  unfold eqL
  rw [mG (p:=p) (xs:=xs) (ys:=ys) (by simpa using h),Bool.and_false]
theorem Ds {α:Type} {p:α→α→Bool} (hp:∀ x y,p x y=true↔x=y):∀ {xs ys:List α},eqL p xs ys=true↔xs=ys
 |[],[]=>by simp [eqL]
 |[],_::_=>by simp [eqL]
 |_::_,[]=>by simp [eqL]
 |x::xs,y::ys=>by
  unfold eqL
  rw [Bool.and_eq_true,hp,Ds hp,List.cons.injEq]
def eqE (e f:SEntry):Bool:=xg e f==0
theorem Br (e f:SEntry):eqE e f=true↔e=f:=by unfold eqE;rw [beq_iff_eq,Bz]
def eqU (u v:Int × SEntry):Bool:=(u.1==v.1)&&eqE u.2 v.2
theorem Fg (u v:Int × SEntry):eqU u v=true↔u=v:=by
 obtain ⟨a,b⟩:=u
 obtain ⟨c,d⟩:=v
 unfold eqU
 rw [Bool.and_eq_true,beq_iff_eq,Br,Prod.mk.injEq]
def w9:List AV→AHeap→(AV→Prop)→Prop
 |[.agg l,.agg k],_,K=>∃ u v:Int × SEntry,(l=kB u∧k=kB v∧COk u.2∧COk v.2)∧K (.bool (eqU u v))
 |_,_,_=>False
theorem xY:EntOk Tryz.prog 55 (Ent.pure w9):=by
 refine Ype fun _ H K h=>?_
 unfold w9 at h
 split at h
 rotate_left
 ·exact h.elim
 rename_i l k
 obtain ⟨u,v,⟨rfl,rfl,hu,hv⟩,hK⟩:=h
 refine ⟨_,hK,?_⟩
 clear hK
 obtain ⟨a,e⟩:=u
 obtain ⟨b,f⟩:=v
 dsimp only at hu hv
 unfold eqU
 dsimp only
 cases h1:(a==b)
 ·rw [Bool.false_and]
  refine ACalls.fW ah (tCq qz tNq) Tryz.func55 [.tmp 4] (nrq _) (T:=ae []) (h:=fun hcl hlt=>?_)
  clear hlt
  simp only [go_sem,kB,aN,h1]
  simp (disch:=first|exact Zd|omega) [↓zmo,beq,ybc,ybd,ybe,ag,wk,wk2,wk1,wkM,wkL,ak,ybf,hcl]
  first|done|repeat first|exact .refl _|refine .push ?_ _
 ·rw [Bool.true_and]
  refine ACalls.fW ah (tCq qz tNq) Tryz.func55 [.tmp 4] (nrq _) (T:=ae []) (h:=fun hcl hlt=>?_)
  clear hlt
  simp only [go_sem,kB,aN,h1,sA]
  refine ⟨e,f,⟨rfl,rfl,hu,hv⟩,?_⟩
  try simp only [za]
  try simp only [go_sem]
  unfold eqE
  simp (disch:=first|exact Zd|omega) [↓zmo,beq,ybc,ybd,ybe,ag,wk,wk2,wk1,wkM,wkL,ak,ybf,hcl]
  first|done|repeat first|exact .refl _|refine .push ?_ _
def mP:List AV→AHeap→(AV→Prop)→Prop
 |[.slice _ 6 l,.slice _ 6 k,.func (.func 55) [] []],_,K=>∃ xs ys:List (Int × SEntry),(l=xs.map cV∧k=ys.map cV∧xs.length≤140737488355328∧ys.length≤140737488355328∧(∀ x∈xs,(fun u=>COk u.2) x)∧∀ x∈ys,(fun u=>COk u.2) x)∧K (.bool (eqL eqU xs ys))
 |_,_,_=>False
theorem ll:EntOk Tryz.prog 57 (Ent.pure mP):=by
 refine Ype fun _ H K h=>?_
 unfold mP at h
 split at h
 rotate_left
 ·exact h.elim
 rename_i m1 l m2 k
 obtain ⟨xs,ys,⟨rfl,rfl,hl1,hl2,ho1,ho2⟩,hK⟩:=h
 refine ⟨_,hK,?_⟩
 clear hK
 obtain ⟨R,hR⟩:∃ R,eqL eqU xs ys=R:=⟨_,rfl⟩
 rw [hR]
 by_cases hlen:xs.length=ys.length
 case neg =>
  rw [mG hlen] at hR
  subst hR
  have d0:((xs.length:Int) != (ys.length:Int))=true:=by rw [bne_iff_ne];omega
  refine ACalls.fW ah (tCq xY tNq) Tryz.func57 [.tmp 6] (nrq _) (T:=ae []) (h:=fun hcl hlt=>?_)
  clear hlt
  simp only [go_sem,ybb,d0]
  simp (disch:=first|exact Zd|omega) [↓zmo,beq,ybc,ybd,ybe,ag,wk,wk2,wk1,wkM,wkL,ak,ybf,hcl]
 have d0:((xs.length:Int) != (ys.length:Int))=false:=by rw [hlen];simp
 refine ACalls.fW ah (tCq xY tNq) Tryz.func57 [.tmp 6] (nrq _) (T:=ae []) (h:=fun hcl hlt=>?_)
 have hs1:=hlt (.slice m1 6 (xs.map cV)) (by simp)
 have hs2:=hlt (.slice m2 6 (ys.map cV)) (by simp)
 have hf:AV.lt H.nx (.func (.func 55) [] []):=hlt _ (by simp)
 clear hlt
 simp only [go_sem,ybb,d0]
 refine aK (A:=Nat) (fun k=>[(1,.slice m2 6 (ys.map cV)),(2,.func (.func 55) [] []),(15,.slice m1 6 (xs.map cV)),(16,.int .i64 (xs.length:Int)),(17,.int .i64 (k:Int))]) (fun _=>H) (fun k=>k≤xs.length∧eqL eqU (xs.drop k) (ys.drop k)=R) (fun k=>xs.length - k) 0 ⟨by omega,hR⟩ ?_ fun k hk=>?_
 ·refine ⟨by simp only [zkq,zkv];omega,lRq _,hcl,?_,?_⟩
  ·simp only [ltF,znf,and_true,true_and]
   exact ⟨hs2,hf,hs1⟩
  ·simp [cf,wk2,wk1,wkM,Fr.get]
 obtain ⟨hk,hq⟩:=hk
 simp only [go_sem]
 refine af (fun hc=>?_) (fun hc=>?_)
 ·have hk':k<xs.length:=by simp at hc;omega
  have hk2:k<ys.length:=by omega
  obtain ⟨x,hx⟩:∃ x,x=xs[k]:=⟨_,rfl⟩
  obtain ⟨y,hy⟩:∃ y,y=ys[k]:=⟨_,rfl⟩
  have hd:xs.drop k=x::xs.drop (k+1):=by rw [hx];exact dcq hk'
  have hd2:ys.drop k=y::ys.drop (k+1):=by rw [hy];exact dcq hk2
  have hg:=bH (f:=cV) (l:=xs) (k:=k) (x:=x) (by rw [gQq hk',hx])
  have hg2:=bH (f:=cV) (l:=ys) (k:=k) (x:=y) (by rw [gQq hk2,hy])
  have e5:=Yk5 k
  have hox:=ho1 x (by rw [hx];exact gMq hk')
  have hoy:=ho2 y (by rw [hy];exact gMq hk2)
  rw [hd,hd2] at hq
  unfold eqL at hq
  simp only [go_sem,iNq,ybb,hg,hg2,cV,kB,aN,w9]
  (repeat with_reducible refine And.intro (by first|assumption|decide|omega) ?_)
  refine ⟨x,y,⟨rfl,rfl,hox,hoy⟩,?_⟩
  try simp only [go_sem]
  refine af (fun hb=>?_) (fun hb=>?_)
  ·have hb':eqU x y=false:=by simpa using hb
   rw [hb',Bool.false_and] at hq
   rw [← hq]
   try simp only [go_sem]
   simp (disch:=first|exact Zd|omega) [↓zmo,beq,ybc,ybd,ybe,ag,wk,wk2,wk1,wkM,wkL,ak,ybf,hcl]
   first|done|repeat first|exact .refl _|refine .push ?_ _
  ·have hb':eqU x y=true:=by simpa using hb
   rw [hb',Bool.true_and] at hq
   simp only [go_sem,e5]
   refine ⟨k+1,⟨by omega,hq⟩,by omega,by (try simp only [zle]);omega,by repeat first|exact .refl _|refine .push ?_ _,hcl,?_,?_⟩
   ·simp only [ltF,znf,and_true,true_and]
    exact ⟨hs2,hf,hs1⟩
   ·simp [cf,wk2,wk1,wkM,Fr.get]
 ·have hk':k=xs.length:=by simp at hc;omega
  subst hk'
  rw [List.drop_length,hlen,List.drop_length] at hq
  rw [← hq]
  simp only [go_sem,eqL]
  exact Z2
def eqR (r s:SReq):Bool:=(r.kind==s.kind)&&(r.role==s.role)&&(decide (r.el=s.el))&&(eqL eqU r.ups s.ups)&&(r.table==s.table)&&(r.frm==s.frm)&&(r.count==s.count)&&(r.port==s.port)&&(r.data==s.data)
theorem lZ (r s:SReq):eqR r s=true↔r=s:=by
 obtain ⟨a1,a2,a3,a4,a5,a6,a7,a8,a9⟩:=r
 obtain ⟨b1,b2,b3,b4,b5,b6,b7,b8,b9⟩:=s
 unfold eqR
 simp only [Bool.and_eq_true,beq_iff_eq,decide_eq_true_eq,Ds Fg,SReq.mk.injEq]
 constructor
 ·rintro ⟨⟨⟨⟨⟨⟨⟨⟨h1,h2⟩,h3⟩,h4⟩,h5⟩,h6⟩,h7⟩,h8⟩,h9⟩;exact ⟨h1,h2,h3,h4,h5,h6,h7,h8,h9⟩
 ·rintro ⟨h1,h2,h3,h4,h5,h6,h7,h8,h9⟩;exact ⟨⟨⟨⟨⟨⟨⟨⟨h1,h2⟩,h3⟩,h4⟩,h5⟩,h6⟩,h7⟩,h8⟩,h9⟩
theorem EE (r s:SReq):eqR r s=eqR s r:=by
 rw [Bool.eq_iff_iff,lZ,lZ];exact ⟨Eq.symm,Eq.symm⟩
structure RC (r:SReq):Prop where
 el:r.el<2^128
 ul:r.ups.length≤140737488355328
 uo:∀ u∈r.ups,COk u.2
theorem ROk.rc {r:SReq} (h:ROk r):RC r:=⟨h.el,by have:=h.ul;omega,h.uo⟩
def iN:List AV→AHeap→(AV→Prop)→Prop
 |[.agg l,.agg k],_,K=>∃ r s:SReq,(l=aF r∧k=aF s∧RC r∧RC s)∧K (.bool (eqR r s))
 |_,_,_=>False
theorem ls:EntOk Tryz.prog 15 (Ent.pure iN):=by
 refine Ype fun _ H K h=>?_
 unfold iN at h
 split at h
 rotate_left
 ·exact h.elim
 rename_i l k
 obtain ⟨r,s,⟨rfl,rfl,hr,hs⟩,hK⟩:=h
 refine ⟨_,hK,?_⟩
 clear hK
 obtain ⟨R,hR⟩:∃ R,eqR r s=R:=⟨_,rfl⟩
 rw [hR]
 unfold eqR at hR
 cases h0:(r.kind==s.kind)
 ·simp only [h0,Bool.false_and,Bool.and_false,Bool.true_and] at hR
  subst hR
  refine ACalls.fW ah (tCq ll (tCq cI tNq)) Tryz.func15 [.tmp 4] (nrq _) (T:=ae []) (h:=fun hcl hlt=>?_)
  clear hlt
  simp only [go_sem,aF,cH,bT,bD,bB,Bool.bne_false,ba,mP,h0]
  simp (disch:=first|exact Zd|omega) [↓zmo,beq,ybc,ybd,ybe,ag,wk,wk2,wk1,wkM,wkL,ak,ybf,hcl]
  first|done|repeat first|exact .refl _|refine .push ?_ _
 cases h1:(r.role==s.role)
 ·simp only [h0,h1,Bool.false_and,Bool.and_false,Bool.true_and] at hR
  subst hR
  refine ACalls.fW ah (tCq ll (tCq cI tNq)) Tryz.func15 [.tmp 4] (nrq _) (T:=ae []) (h:=fun hcl hlt=>?_)
  clear hlt
  simp only [go_sem,aF,cH,bT,bD,bB,Bool.bne_false,ba,mP,h0,h1]
  simp (disch:=first|exact Zd|omega) [↓zmo,beq,ybc,ybd,ybe,ag,wk,wk2,wk1,wkM,wkL,ak,ybf,hcl]
  first|done|repeat first|exact .refl _|refine .push ?_ _
 cases h2:(decide (r.el=s.el))
 ·simp only [h0,h1,h2,Bool.false_and,Bool.and_false,Bool.true_and] at hR
  subst hR
  refine ACalls.fW ah (tCq ll (tCq cI tNq)) Tryz.func15 [.tmp 4] (nrq _) (T:=ae []) (h:=fun hcl hlt=>?_)
  clear hlt
  simp only [go_sem,aF,cH,bT,bD,bB,Bool.bne_false,ba,mP,h0,h1,h2]
  simp (disch:=first|exact Zd|omega) [↓zmo,beq,ybc,ybd,ybe,ag,wk,wk2,wk1,wkM,wkL,ak,ybf,hcl]
  first|done|repeat first|exact .refl _|refine .push ?_ _
 cases h3:(eqL eqU r.ups s.ups)
 ·simp only [h0,h1,h2,h3,Bool.false_and,Bool.and_false,Bool.true_and] at hR
  subst hR
  refine ACalls.fW ah (tCq ll (tCq cI tNq)) Tryz.func15 [.tmp 4] (nrq _) (T:=ae []) (h:=fun hcl hlt=>?_)
  clear hlt
  simp only [go_sem,aF,cH,bT,bD,bB,Bool.bne_false,ba,mP,h0,h1,h2,h3]
  refine ⟨r.ups,s.ups,⟨rfl,rfl,hr.ul,hs.ul,hr.uo,hs.uo⟩,?_⟩
  simp only [go_sem,aF,cH,bT,bD,bB,Bool.bne_false,ba,h0,h1,h2,h3]
  simp (disch:=first|exact Zd|omega) [↓zmo,beq,ybc,ybd,ybe,ag,wk,wk2,wk1,wkM,wkL,ak,ybf,hcl]
  first|done|repeat first|exact .refl _|refine .push ?_ _
 cases h4:(r.table==s.table)
 ·simp only [h0,h1,h2,h3,h4,Bool.false_and,Bool.and_false,Bool.true_and] at hR
  subst hR
  refine ACalls.fW ah (tCq ll (tCq cI tNq)) Tryz.func15 [.tmp 4] (nrq _) (T:=ae []) (h:=fun hcl hlt=>?_)
  clear hlt
  simp only [go_sem,aF,cH,bT,bD,bB,Bool.bne_false,ba,mP,h0,h1,h2,h3,h4]
  refine ⟨r.ups,s.ups,⟨rfl,rfl,hr.ul,hs.ul,hr.uo,hs.uo⟩,?_⟩
  simp only [go_sem,aF,cH,bT,bD,bB,Bool.bne_false,ba,h0,h1,h2,h3,h4]
  simp (disch:=first|exact Zd|omega) [↓zmo,beq,ybc,ybd,ybe,ag,wk,wk2,wk1,wkM,wkL,ak,ybf,hcl]
  first|done|repeat first|exact .refl _|refine .push ?_ _
 cases h5:(r.frm==s.frm)
 ·simp only [h0,h1,h2,h3,h4,h5,Bool.false_and,Bool.and_false,Bool.true_and] at hR
  subst hR
  refine ACalls.fW ah (tCq ll (tCq cI tNq)) Tryz.func15 [.tmp 4] (nrq _) (T:=ae []) (h:=fun hcl hlt=>?_)
  clear hlt
  simp only [go_sem,aF,cH,bT,bD,bB,Bool.bne_false,ba,mP,h0,h1,h2,h3,h4,h5]
  refine ⟨r.ups,s.ups,⟨rfl,rfl,hr.ul,hs.ul,hr.uo,hs.uo⟩,?_⟩
  simp only [go_sem,aF,cH,bT,bD,bB,Bool.bne_false,ba,h0,h1,h2,h3,h4,h5]
  simp (disch:=first|exact Zd|omega) [↓zmo,beq,ybc,ybd,ybe,ag,wk,wk2,wk1,wkM,wkL,ak,ybf,hcl]
  first|done|repeat first|exact .refl _|refine .push ?_ _
 cases h6:(r.count==s.count)
 ·simp only [h0,h1,h2,h3,h4,h5,h6,Bool.false_and,Bool.and_false,Bool.true_and] at hR
  subst hR
  refine ACalls.fW ah (tCq ll (tCq cI tNq)) Tryz.func15 [.tmp 4] (nrq _) (T:=ae []) (h:=fun hcl hlt=>?_)
  clear hlt
  simp only [go_sem,aF,cH,bT,bD,bB,Bool.bne_false,ba,mP,h0,h1,h2,h3,h4,h5,h6]
  refine ⟨r.ups,s.ups,⟨rfl,rfl,hr.ul,hs.ul,hr.uo,hs.uo⟩,?_⟩
  simp only [go_sem,aF,cH,bT,bD,bB,Bool.bne_false,ba,h0,h1,h2,h3,h4,h5,h6]
  simp (disch:=first|exact Zd|omega) [↓zmo,beq,ybc,ybd,ybe,ag,wk,wk2,wk1,wkM,wkL,ak,ybf,hcl]
  first|done|repeat first|exact .refl _|refine .push ?_ _
 cases h7:(r.port==s.port)
 ·simp only [h0,h1,h2,h3,h4,h5,h6,h7,Bool.false_and,Bool.and_false,Bool.true_and] at hR
  subst hR
  refine ACalls.fW ah (tCq ll (tCq cI tNq)) Tryz.func15 [.tmp 4] (nrq _) (T:=ae []) (h:=fun hcl hlt=>?_)
  clear hlt
  simp only [go_sem,aF,cH,bT,bD,bB,Bool.bne_false,ba,mP,h0,h1,h2,h3,h4,h5,h6,h7]
  refine ⟨r.ups,s.ups,⟨rfl,rfl,hr.ul,hs.ul,hr.uo,hs.uo⟩,?_⟩
  simp only [go_sem,aF,cH,bT,bD,bB,Bool.bne_false,ba,h0,h1,h2,h3,h4,h5,h6,h7]
  simp (disch:=first|exact Zd|omega) [↓zmo,beq,ybc,ybd,ybe,ag,wk,wk2,wk1,wkM,wkL,ak,ybf,hcl]
  first|done|repeat first|exact .refl _|refine .push ?_ _
 cases h8:(r.data==s.data)
 ·simp only [h0,h1,h2,h3,h4,h5,h6,h7,h8,Bool.false_and,Bool.and_false,Bool.true_and] at hR
  subst hR
  refine ACalls.fW ah (tCq ll (tCq cI tNq)) Tryz.func15 [.tmp 4] (nrq _) (T:=ae []) (h:=fun hcl hlt=>?_)
  clear hlt
  simp only [go_sem,aF,cH,bT,bD,bB,Bool.bne_false,ba,mP,h0,h1,h2,h3,h4,h5,h6,h7,h8]
  refine ⟨r.ups,s.ups,⟨rfl,rfl,hr.ul,hs.ul,hr.uo,hs.uo⟩,?_⟩
  simp only [go_sem,aF,cH,bT,bD,bB,Bool.bne_false,ba,h0,h1,h2,h3,h4,h5,h6,h7,h8]
  refine ⟨r.data,s.data,⟨rfl,rfl⟩,?_⟩
  try simp only [go_sem,aF,h0,h1,h2,h3,h4,h5,h6,h7,h8]
  simp (disch:=first|exact Zd|omega) [↓zmo,beq,ybc,ybd,ybe,ag,wk,wk2,wk1,wkM,wkL,ak,ybf,hcl]
  first|done|repeat first|exact .refl _|refine .push ?_ _
 simp only [h0,h1,h2,h3,h4,h5,h6,h7,h8,Bool.true_and] at hR
 subst hR
 refine ACalls.fW ah (tCq ll (tCq cI tNq)) Tryz.func15 [.tmp 4] (nrq _) (T:=ae []) (h:=fun hcl hlt=>?_)
 clear hlt
 simp only [go_sem,aF,cH,bT,bD,bB,Bool.bne_false,ba,mP,h0,h1,h2,h3,h4,h5,h6,h7,h8]
 refine ⟨r.ups,s.ups,⟨rfl,rfl,hr.ul,hs.ul,hr.uo,hs.uo⟩,?_⟩
 simp only [go_sem,aF,cH,bT,bD,bB,Bool.bne_false,ba,h0,h1,h2,h3,h4,h5,h6,h7,h8]
 refine ⟨r.data,s.data,⟨rfl,rfl⟩,?_⟩
 try simp only [go_sem,aF,h0,h1,h2,h3,h4,h5,h6,h7,h8]
 simp (disch:=first|exact Zd|omega) [↓zmo,beq,ybc,ybd,ybe,ag,wk,wk2,wk1,wkM,wkL,ak,ybf,hcl]
 first|done|repeat first|exact .refl _|refine .push ?_ _
theorem EH:ti Tryz.prog 107=some ⟨.struct [(0,103,false),(1,104,false),(2,105,false)],3,24,.agg [.nilf,.nilf,.nilf]⟩:=by kernel_rfl
theorem Dg:ti Tryz.prog 108=some ⟨.slice 107,1,24,.slice .nil 1 []⟩:=by kernel_rfl
theorem Dz:ti Tryz.prog 103=some ⟨.func,1,8,.nilf⟩:=by kernel_rfl
theorem CF:ti Tryz.prog 104=some ⟨.func,1,8,.nilf⟩:=by kernel_rfl
theorem DK:ti Tryz.prog 105=some ⟨.func,1,8,.nilf⟩:=by kernel_rfl
attribute [go_sem] EH Dg Dz CF DK
def codL:List AV:=[.agg [.func (.func 113) [] [],.func (.func 114) [] [],.func (.func 116) [] []],.agg [.func (.func 118) [] [],.func (.func 119) [] [],.func (.func 120) [] []],.agg [.func (.func 121) [] [],.func (.func 122) [] [],.func (.func 123) [] []],
 .agg [.func (.func 125) [] [],.func (.func 126) [] [],.func (.func 127) [] []],.agg [.func (.func 128) [] [],.func (.func 129) [] [],.func (.func 130) [] []],.agg [.func (.func 131) [] [],.func (.func 132) [] [],.func (.func 133) [] []]]
theorem Fe {n:Nat} {m:Mark} (h:∀ id,m=.own id→id<n):AV.lt n (.slice m 3 codL):=by
 rw [lt_sliceL]
 refine ⟨h,?_⟩
 have hf:∀ f,AV.lt n (.func (.func f) [] []):=fun f=>by rw [AV.lt];exact ⟨fun j hj=>absurd hj (by simp),fun j hj=>absurd hj (by simp)⟩
 simp only [codL,znu,znv,znr,hf,and_true]
def aW:List AV→AHeap→(AV→Prop)→Prop
 |[],_,K=>K (.slice .any 3 codL)
 |_,_,_=>False
theorem cT:EntOk Tryz.prog 37 (Ent.pure aW):=by
 refine Ype fun _ H K h=>?_
 unfold aW at h
 split at h
 rotate_left
 ·exact h.elim
 refine ⟨_,h,?_⟩
 refine ACalls.fW ah tNq Tryz.func37 [.tmp 0] (nrq _) (T:=ae []) (h:=fun hcl hlt=>?_)
 clear hlt
 simp only [go_sem]
 refine ⟨.inl ⟨.inl rfl,rfl,rfl⟩,by repeat first|exact .refl _|refine .push ?_ _,hcl,Fe fun id h=>by cases h⟩
def wt (u:Int × SEntry):Bool:=decide (u.1<1)||decide (3<u.1)
def gV (r:SReq):SReq:={ cC r.kind r with kind:=r.kind }
def gU (r:SReq):Bool:=decide (1≤r.kind∧r.kind≤6)&&(!r.ups.any wt&&eqR r (gV r))
theorem Fy {r:SReq} (k:Int) (h:RC r):RC (cC k r):=by
 unfold cC
 repeat' split
 all_goals exact ⟨by first|exact h.el|exact Nat.two_pow_pos 128,by first|exact h.ul|exact Nat.zero_le _,by first|exact h.uo|(intro u hu;cases hu)⟩
theorem eE {k:Int} (h1:1≤k) (h2:k≤6):k=1∨k=2∨k=3∨k=4∨k=5∨k=6:=by omega
def ky:List AV→AHeap→(AV→Prop)→Prop
 |[.agg l],_,K=>∃ r:SReq,(l=aF r∧RC r)∧K (.bool (gU r))
 |_,_,_=>False
theorem lA:EntOk Tryz.prog 35 (Ent.pure ky):=by
 refine Ype fun _ H K h=>?_
 unfold ky at h
 split at h
 rotate_left
 ·exact h.elim
 rename_i l
 obtain ⟨r,⟨rfl,hr⟩,hK⟩:=h
 refine ⟨_,hK,?_⟩
 clear hK
 by_cases h1:r.kind<1
 ·have d1:decide (r.kind<1)=true:=dtq h1
  rw [show gU r=false by unfold gU;rw [dfq (by omega),Bool.false_and]]
  refine ACalls.fW ah (tCq sB (tCq cT (tCq pS (tCq pL (tCq p4 (tCq pK (tCq pT (tCq qw (tCq ls tNq))))))))) Tryz.func35 [.tmp 2] (nrq _) (T:=ae [(3,[[],[],[],[],[],[],[0],[],[0,2,6,7],[],[0,2,6,7,8,9]]),(803,[[9,41]])]) (h:=fun hcl hlt=>?_)
  clear hlt
  simp only [go_sem,aF,d1]
  simp (disch:=first|exact Zd|omega) [↓zmo,beq,ybc,ybd,ybe,ag,wk,wk2,wk1,wkM,wkL,ak,ybf,hcl]
  first|done|repeat first|exact .refl _|refine .push ?_ _
 have d1:decide (r.kind<1)=false:=dfq h1
 by_cases h2:r.kind > 6
 ·have d2:decide (r.kind > 6)=true:=dtq h2
  rw [show gU r=false by unfold gU;rw [dfq (by omega),Bool.false_and]]
  refine ACalls.fW ah (tCq sB (tCq cT (tCq pS (tCq pL (tCq p4 (tCq pK (tCq pT (tCq qw (tCq ls tNq))))))))) Tryz.func35 [.tmp 2] (nrq _) (T:=ae [(3,[[],[],[],[],[],[],[0],[],[0,2,6,7],[],[0,2,6,7,8,9]]),(803,[[9,41]])]) (h:=fun hcl hlt=>?_)
  clear hlt
  simp only [go_sem,aF,d1,d2]
  simp (disch:=first|exact Zd|omega) [↓zmo,beq,ybc,ybd,ybe,ag,wk,wk2,wk1,wkM,wkL,ak,ybf,hcl]
  first|done|repeat first|exact .refl _|refine .push ?_ _
 have d2:decide (r.kind > 6)=false:=dfq h2
 have d12:decide (1≤r.kind∧r.kind≤6)=true:=dtq (by omega)
 cases h3:r.ups.any wt
 case true =>
  rw [show gU r=false by unfold gU;rw [h3,Bool.not_true,Bool.false_and,Bool.and_false]]
  refine ACalls.fW ah (tCq sB (tCq cT (tCq pS (tCq pL (tCq p4 (tCq pK (tCq pT (tCq qw (tCq ls tNq))))))))) Tryz.func35 [.tmp 2] (nrq _) (T:=ae [(3,[[],[],[],[],[],[],[0],[],[0,2,6,7],[],[0,2,6,7,8,9]]),(803,[[9,41]])]) (h:=fun hcl hlt=>?_)
  clear hlt
  simp only [go_sem,aF,d1,d2,xf]
  refine ⟨r.ups,⟨rfl,hr.ul⟩,?_⟩
  rw [show (r.ups.any fun u=>decide (u.1<1)||decide (3<u.1))=true from h3]
  simp only [go_sem,aF,d1,d2]
  simp (disch:=first|exact Zd|omega) [↓zmo,beq,ybc,ybd,ybe,ag,wk,wk2,wk1,wkM,wkL,ak,ybf,hcl]
  first|done|repeat first|exact .refl _|refine .push ?_ _
 rw [show gU r=eqR r (gV r) by unfold gU;rw [d12,h3];rfl]
 have hk:=eE (show 1≤r.kind by omega) (show r.kind≤6 by omega)
 have hru:=Fy r.kind hr
 obtain ⟨R,hR⟩:∃ R,eqR r (gV r)=R:=⟨_,rfl⟩
 rw [hR]
 refine ACalls.fW ah (tCq sB (tCq cT (tCq pS (tCq pL (tCq p4 (tCq pK (tCq pT (tCq qw (tCq ls tNq))))))))) Tryz.func35 [.tmp 2] (nrq _) (T:=ae [(3,[[],[],[],[],[],[],[0],[],[0,2,6,7],[],[0,2,6,7,8,9]]),(803,[[9,41]])]) (h:=fun hcl hlt=>?_)
 clear hlt
 simp only [go_sem,aF,d1,d2,xf]
 refine ⟨r.ups,⟨rfl,hr.ul⟩,?_⟩
 rw [show (r.ups.any fun u=>decide (u.1<1)||decide (3<u.1))=false from h3]
 have hcd:codL.length=6:=rfl
 rcases hk with hk|hk|hk|hk|hk|hk
 ·have hw:IntKind.i64.wrap (r.kind - 1)=0:=by rw [hk];decide
  have hg:codL.getD 0 .junk=.agg [.func (.func 113) [] [],.func (.func 114) [] [],.func (.func 116) [] []]:=rfl
  have et:((0:Int)).toNat=0:=rfl
  have hu:gV r={ cC 1 r with kind:=r.kind }:=by unfold gV;rw [hk]
  rw [hk] at hru
  simp only [go_sem,aF,aW,hw,hcd,et,hg,wh]
  refine ⟨by omega,r,rfl,?_⟩
  have hx:∀ m:Int,aF { cC 1 r with kind:=m }=[.int .i64 m,.int .i64 r.role,.int .u64 ((r.el/2^64:Nat):Int),.int .u64 ((r.el % 2^64:Nat):Int),.slice .any 6 [],.int .i64 0,.int .i64 0,.int .i64 0,.int .i64 0,.slice .any 1 []]:=fun m=>by simp only [aF,cC,cm,Int.reduceEq,if_true,if_false,yaf,zll,Nat.zero_div,Nat.zero_mod,Int.natCast_zero]
  have h0:(cC 1 r).kind=0:=rfl
  have hx0:bb (cC 1 r)=.agg ([.int .i64 0,.int .i64 r.role,.int .u64 ((r.el/2^64:Nat):Int),.int .u64 ((r.el % 2^64:Nat):Int),.slice .any 6 [],.int .i64 0,.int .i64 0,.int .i64 0,.int .i64 0,.slice .any 1 []]):=by
   have:=hx 0
   rw [show { cC 1 r with kind:=0 }=cC 1 r from rfl] at this
   unfold bb;rw [this]
  simp only [go_sem,hx0]
  simp only [go_sem,iN]
  refine ⟨r,{ cC 1 r with kind:=r.kind },⟨rfl,(hx r.kind).symm,hr,⟨hru.el,hru.ul,hru.uo⟩⟩,?_⟩
  rw [← hu,hR]
  try simp only [go_sem]
  simp (disch:=first|exact Zd|omega) [↓zmo,beq,ybc,ybd,ybe,ag,wk,wk2,wk1,wkM,wkL,ak,ybf,hcl]
  first|done|repeat first|exact .refl _|refine .push ?_ _
 skip
 ·have hw:IntKind.i64.wrap (r.kind - 1)=1:=by rw [hk];decide
  have hg:codL.getD 1 .junk=.agg [.func (.func 118) [] [],.func (.func 119) [] [],.func (.func 120) [] []]:=rfl
  have et:((1:Int)).toNat=1:=rfl
  have hu:gV r={ cC 2 r with kind:=r.kind }:=by unfold gV;rw [hk]
  rw [hk] at hru
  simp only [go_sem,aF,aW,hw,hcd,et,hg,wH]
  refine ⟨by omega,r,rfl,?_⟩
  have hx:∀ m:Int,aF { cC 2 r with kind:=m }=[.int .i64 m,.int .i64 0,.int .u64 0,.int .u64 0,.slice .any 6 [],.int .i64 0,.int .i64 0,.int .i64 0,.int .i64 0,.slice .any 1 []]:=fun m=>by simp only [aF,cC,cm,Int.reduceEq,if_true,if_false,yaf,zll,Nat.zero_div,Nat.zero_mod,Int.natCast_zero]
  have h0:(cC 2 r).kind=0:=rfl
  have hx0:bb (cC 2 r)=.agg ([.int .i64 0,.int .i64 0,.int .u64 0,.int .u64 0,.slice .any 6 [],.int .i64 0,.int .i64 0,.int .i64 0,.int .i64 0,.slice .any 1 []]):=by
   have:=hx 0
   rw [show { cC 2 r with kind:=0 }=cC 2 r from rfl] at this
   unfold bb;rw [this]
  simp only [go_sem,hx0]
  simp only [go_sem,iN]
  refine ⟨r,{ cC 2 r with kind:=r.kind },⟨rfl,(hx r.kind).symm,hr,⟨hru.el,hru.ul,hru.uo⟩⟩,?_⟩
  rw [← hu,hR]
  try simp only [go_sem]
  simp (disch:=first|exact Zd|omega) [↓zmo,beq,ybc,ybd,ybe,ag,wk,wk2,wk1,wkM,wkL,ak,ybf,hcl]
  first|done|repeat first|exact .refl _|refine .push ?_ _
 skip
 ·have hw:IntKind.i64.wrap (r.kind - 1)=2:=by rw [hk];decide
  have hg:codL.getD 2 .junk=.agg [.func (.func 121) [] [],.func (.func 122) [] [],.func (.func 123) [] []]:=rfl
  have et:((2:Int)).toNat=2:=rfl
  have hu:gV r={ cC 3 r with kind:=r.kind }:=by unfold gV;rw [hk]
  rw [hk] at hru
  simp only [go_sem,aF,aW,hw,hcd,et,hg,wJ]
  refine ⟨by omega,r,rfl,?_⟩
  have hx:∀ m:Int,aF { cC 3 r with kind:=m }=[.int .i64 m,.int .i64 r.role,.int .u64 ((r.el/2^64:Nat):Int),.int .u64 ((r.el % 2^64:Nat):Int),.slice .any 6 (r.ups.map cV),.int .i64 0,.int .i64 0,.int .i64 0,.int .i64 0,.slice .any 1 []]:=fun m=>by simp only [aF,cC,cm,Int.reduceEq,if_true,if_false,yaf,zll,Nat.zero_div,Nat.zero_mod,Int.natCast_zero]
  have h0:(cC 3 r).kind=0:=rfl
  have hx0:bb (cC 3 r)=.agg ([.int .i64 0,.int .i64 r.role,.int .u64 ((r.el/2^64:Nat):Int),.int .u64 ((r.el % 2^64:Nat):Int),.slice .any 6 (r.ups.map cV),.int .i64 0,.int .i64 0,.int .i64 0,.int .i64 0,.slice .any 1 []]):=by
   have:=hx 0
   rw [show { cC 3 r with kind:=0 }=cC 3 r from rfl] at this
   unfold bb;rw [this]
  simp only [go_sem,hx0]
  simp only [go_sem,iN]
  refine ⟨r,{ cC 3 r with kind:=r.kind },⟨rfl,(hx r.kind).symm,hr,⟨hru.el,hru.ul,hru.uo⟩⟩,?_⟩
  rw [← hu,hR]
  try simp only [go_sem]
  simp (disch:=first|exact Zd|omega) [↓zmo,beq,ybc,ybd,ybe,ag,wk,wk2,wk1,wkM,wkL,ak,ybf,hcl]
  first|done|repeat first|exact .refl _|refine .push ?_ _
 skip
 ·have hw:IntKind.i64.wrap (r.kind - 1)=3:=by rw [hk];decide
  have hg:codL.getD 3 .junk=.agg [.func (.func 125) [] [],.func (.func 126) [] [],.func (.func 127) [] []]:=rfl
  have et:((3:Int)).toNat=3:=rfl
  have hu:gV r={ cC 4 r with kind:=r.kind }:=by unfold gV;rw [hk]
  rw [hk] at hru
  simp only [go_sem,aF,aW,hw,hcd,et,hg,wg]
  refine ⟨by omega,r,rfl,?_⟩
  have hx:∀ m:Int,aF { cC 4 r with kind:=m }=[.int .i64 m,.int .i64 r.role,.int .u64 0,.int .u64 0,.slice .any 6 [],.int .i64 r.table,.int .i64 0,.int .i64 0,.int .i64 0,.slice .any 1 []]:=fun m=>by simp only [aF,cC,cm,Int.reduceEq,if_true,if_false,yaf,zll,Nat.zero_div,Nat.zero_mod,Int.natCast_zero]
  have h0:(cC 4 r).kind=0:=rfl
  have hx0:bb (cC 4 r)=.agg ([.int .i64 0,.int .i64 r.role,.int .u64 0,.int .u64 0,.slice .any 6 [],.int .i64 r.table,.int .i64 0,.int .i64 0,.int .i64 0,.slice .any 1 []]):=by
   have:=hx 0
   rw [show { cC 4 r with kind:=0 }=cC 4 r from rfl] at this
   unfold bb;rw [this]
  simp only [go_sem,hx0]
  simp only [go_sem,iN]
  refine ⟨r,{ cC 4 r with kind:=r.kind },⟨rfl,(hx r.kind).symm,hr,⟨hru.el,hru.ul,hru.uo⟩⟩,?_⟩
  rw [← hu,hR]
  try simp only [go_sem]
  simp (disch:=first|exact Zd|omega) [↓zmo,beq,ybc,ybd,ybe,ag,wk,wk2,wk1,wkM,wkL,ak,ybf,hcl]
  first|done|repeat first|exact .refl _|refine .push ?_ _
 skip
 ·have hw:IntKind.i64.wrap (r.kind - 1)=4:=by rw [hk];decide
  have hg:codL.getD 4 .junk=.agg [.func (.func 128) [] [],.func (.func 129) [] [],.func (.func 130) [] []]:=rfl
  have et:((4:Int)).toNat=4:=rfl
  have hu:gV r={ cC 5 r with kind:=r.kind }:=by unfold gV;rw [hk]
  rw [hk] at hru
  simp only [go_sem,aF,aW,hw,hcd,et,hg,xw]
  refine ⟨by omega,r,rfl,?_⟩
  have hx:∀ m:Int,aF { cC 5 r with kind:=m }=[.int .i64 m,.int .i64 r.role,.int .u64 0,.int .u64 0,.slice .any 6 [],.int .i64 0,.int .i64 r.frm,.int .i64 r.count,.int .i64 0,.slice .any 1 []]:=fun m=>by simp only [aF,cC,cm,Int.reduceEq,if_true,if_false,yaf,zll,Nat.zero_div,Nat.zero_mod,Int.natCast_zero]
  have h0:(cC 5 r).kind=0:=rfl
  have hx0:bb (cC 5 r)=.agg ([.int .i64 0,.int .i64 r.role,.int .u64 0,.int .u64 0,.slice .any 6 [],.int .i64 0,.int .i64 r.frm,.int .i64 r.count,.int .i64 0,.slice .any 1 []]):=by
   have:=hx 0
   rw [show { cC 5 r with kind:=0 }=cC 5 r from rfl] at this
   unfold bb;rw [this]
  simp only [go_sem,hx0]
  simp only [go_sem,iN]
  refine ⟨r,{ cC 5 r with kind:=r.kind },⟨rfl,(hx r.kind).symm,hr,⟨hru.el,hru.ul,hru.uo⟩⟩,?_⟩
  rw [← hu,hR]
  try simp only [go_sem]
  simp (disch:=first|exact Zd|omega) [↓zmo,beq,ybc,ybd,ybe,ag,wk,wk2,wk1,wkM,wkL,ak,ybf,hcl]
  first|done|repeat first|exact .refl _|refine .push ?_ _
 skip
 ·have hw:IntKind.i64.wrap (r.kind - 1)=5:=by rw [hk];decide
  have hg:codL.getD 5 .junk=.agg [.func (.func 131) [] [],.func (.func 132) [] [],.func (.func 133) [] []]:=rfl
  have et:((5:Int)).toNat=5:=rfl
  have hu:gV r={ cC 6 r with kind:=r.kind }:=by unfold gV;rw [hk]
  rw [hk] at hru
  simp only [go_sem,aF,aW,hw,hcd,et,hg,wV]
  refine ⟨by omega,r,rfl,?_⟩
  have hx:∀ m:Int,aF { cC 6 r with kind:=m }=[.int .i64 m,.int .i64 0,.int .u64 0,.int .u64 0,.slice .any 6 [],.int .i64 0,.int .i64 0,.int .i64 0,.int .i64 r.port,.slice .any 1 (bys r.data)]:=fun m=>by simp only [aF,cC,cm,Int.reduceEq,if_true,if_false,yaf,zll,Nat.zero_div,Nat.zero_mod,Int.natCast_zero]
  have h0:(cC 6 r).kind=0:=rfl
  have hx0:bb (cC 6 r)=.agg ([.int .i64 0,.int .i64 0,.int .u64 0,.int .u64 0,.slice .any 6 [],.int .i64 0,.int .i64 0,.int .i64 0,.int .i64 r.port,.slice .any 1 (bys r.data)]):=by
   have:=hx 0
   rw [show { cC 6 r with kind:=0 }=cC 6 r from rfl] at this
   unfold bb;rw [this]
  simp only [go_sem,hx0]
  simp only [go_sem,iN]
  refine ⟨r,{ cC 6 r with kind:=r.kind },⟨rfl,(hx r.kind).symm,hr,⟨hru.el,hru.ul,hru.uo⟩⟩,?_⟩
  rw [← hu,hR]
  try simp only [go_sem]
  simp (disch:=first|exact Zd|omega) [↓zmo,beq,ybc,ybd,ybe,ag,wk,wk2,wk1,wkM,wkL,ak,ybf,hcl]
  first|done|repeat first|exact .refl _|refine .push ?_ _
end Go.AL
