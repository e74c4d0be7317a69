/- Contracts and plain laws, a part of the proof; no condition of its own. -/
import Derived.Test.YtiiiljghmilepaaD06
open Go Go.AL Go.Proofs
namespace Go.AL
set_option linter.all false
set_option maxRecDepth 10000
theorem xj:ti Try.prog 92=some ⟨.struct [(0,22,false),(1,3,false)],2,32,.agg [.slice .nil 1 [],.int .i64 0]⟩:=by kernel_rfl
attribute [go_sem] xj
theorem lT {H:AHeap} {i:Nat} {o:AObj} (h:H.get i=some o):(H.set i o).Le H:=⟨Nat.le_refl _,fun j x hj=>by
 rcases AHeap.get_set_inv _ _ hj with ⟨rfl,rfl,_⟩|⟨_,h2⟩
 ·exact h
 ·exact h2⟩
def gr:List AV→AHeap→(AV→Prop)→Prop
 |[.ptr id 0],H,K=>∃ b a,(H.get id=some (.cells [.slice .any 1 (bys b),.int .i64 a]))∧K (.bool (decide (a<(b.length:Int))))
 |_,_,_=>False
theorem qL:EntOk Try.prog 46 (Ent.pure gr):=by
 refine EntOk.pure fun args H K h=>?_
 unfold gr at h
 split at h
 rotate_left
 ·exact h.elim
 rename_i id
 obtain ⟨b,a,hg,hK⟩:=h
 refine ⟨_,hK,?_⟩
 clear hK
 refine ACalls.fW aI TblOk.nil Try.func46 [.tmp 2] (Nat.le_refl _) (T:=aA []) (h:=fun hcl hlt=>?_)
 clear hlt
 have hcs:=bz hg
 simp only [go_sem,hcs,zle]
 simp (disch:=first|assumption|omega|(simp;done)|(simp;omega)|(simp only [bt,and_true];first|done|omega|(simp;done))) [↓zmi,beq,List.take_of_length_le,List.drop_append,List.take_append,ag,wk,wk2,wk1,wkM,wkL,am,List.drop_eq_nil_of_le,hcl]
def cod (b:List UInt8) (a:Int):AObj:=.cells [.slice .any 1 (bys b),.int .i64 a]
def bu:List AV→AHeap→(AV→AHeap→Prop)→Prop
 |[.ptr id 0,.int .i64 n],H,K=>∃ b a,(H.get id=some (cod b a)∧(0≤a∧a≤(b.length:Int))∧b.length≤140737488355328∧1≤n∧n≤1000000) ∧
   ∀ r a',0≤r→r<n→0≤a'→a'≤(b.length:Int)→K (.int .i64 r) (H.set id (cod b a'))
 |_,_,_=>False
theorem i7:EntOk Try.prog 28 (Ent.some bu):=by
 refine EntOk.some fun args H K h=>?_
 unfold bu at h
 split at h
 rotate_left
 ·exact h.elim
 rename_i id n
 obtain ⟨b,a,⟨hg,⟨ha1,ha2⟩,hb,hn1,hn2⟩,hK⟩:=h
 refine ACallsP.of_aw (Ω:=[(46,Ent.pure gr)]) (T:=aA [(4,[[],[],[],[],[],[],[],[],[],[],[],[3,7,10]])]) aI (TblOk.cons qL TblOk.nil) Try.func28 (by kernel_rfl) (by rfl) (rs:=[.tmp 4]) (by rfl) (by kernel_rfl) (by simp only [Try.ntmps28,List.length_cons,List.length_nil];decide) fun hcl hlt=>?_
 change aw _ _ _ (KI Try.prog [(46,Ent.pure gr)] (dK Try.prog [.tmp 4] H.nx _ (aA [(4,[[],[],[],[],[],[],[],[],[],[],[],[3,7,10]])])) []) _ _
 clear hlt
 have hcs:=bz hg
 have hid:=AHeap.get_lt hg
 simp only [go_sem,gr]
 refine ⟨b,a,hg,?_⟩
 have hcl2:∀ a',(H.set id (cod b a')).Closed:=fun a'=>ah hcl (by simp [zno,znp,zmz,zmm])
 refine bb (fun h1=>?_) (fun h1=>ak (fun h2=>by simp at h2;omega) (fun h2=>?_))
 ·refine ⟨_,_,hK 0 a (by omega) (by omega) ha1 ha2,Nat.le_refl _,?_⟩
  simp (disch:=first|assumption|omega|(simp;done)|(simp;omega)|(simp only [bt,and_true];first|done|omega|(simp;done))) [↓zmi,beq,List.take_of_length_le,List.drop_append,List.take_append,ag,wk,wk2,wk1,wkM,wkL,am,List.drop_eq_nil_of_le,hcl2]
  exact lT hg
 have h1':a<(b.length:Int):=by simp at h1;omega
 obtain ⟨k,rfl⟩:=Int.eq_ofNat_of_zero_le ha1
 have hk:k<b.length:=by omega
 have e1:IntKind.i64.wrap ((k:Int)+1)=((k+1:Nat):Int):=by rw [wrap_i64]<;>omega
 have e2:IntKind.i64.wrap (((k+1:Nat):Int) - 1)=(k:Int):=by rw [wrap_i64]<;>omega
 have hgd:(bys b).getD k .junk=bf b[k]:=by rw [pE hk];simp [List.getD_eq_getElem?_getD,hk]
 have h8:=UInt8.toNat_lt b[k]
 have e3:IntKind.i64.wrap ((b[k].toNat:Nat):Int)=((b[k].toNat:Nat):Int):=by rw [wrap_i64]<;>omega
 simp only [go_sem,hcs,e1,cx hid,e2,Int.toNat_natCast,hgd,zle,bf,e3]
 have ht:(((b[k].toNat:Nat):Int)).tmod n=((b[k].toNat:Nat):Int) % n:=Int.tmod_eq_emod_of_nonneg (by omega)
 have ht1:=Int.emod_nonneg ((b[k].toNat:Nat):Int) (show n≠0 by omega)
 have ht2:=Int.emod_lt_of_pos ((b[k].toNat:Nat):Int) (show 0<n by omega)
 rw [ht]
 refine ⟨by omega,by omega,_,_,hK _ ((k+1:Nat):Int) ht1 ht2 (by omega) (by omega),Nat.le_refl _,?_⟩
 simp (disch:=first|assumption|omega|(simp;done)|(simp;omega)|(simp only [bt,and_true];first|done|omega|(simp;done))) [↓zmi,beq,List.take_of_length_le,List.drop_append,List.take_append,ag,wk,wk2,wk1,wkM,wkL,am,List.drop_eq_nil_of_le,hcl2,cod]
def pS:List AV→AHeap→(AEnd→AHeap→Prop)→Prop
 |[.slice m 1 l,.int .i64 n],H,K=>∃ b,(l=bys b∧0≤n)∧K (.ret (.ptr H.nx 0)) (H.push (cod (b.take (min (b.length:Int) n).toNat) 0))
 |_,_,_=>False
theorem zo:EntOk Try.prog 7 (Ent.effect pS):=by
 refine EntOk.effect fun args H K h=>?_
 unfold pS at h
 split at h
 rotate_left
 ·exact h.elim
 rename_i m l n
 obtain ⟨b,⟨rfl,hn⟩,hK⟩:=h
 refine ⟨_,_,hK,?_⟩
 clear hK
 refine ACalls.fW aI TblOk.nil Try.func7 [.tmp 4] (Nat.le_succ _) (T:=aA []) (h:=fun hcl hlt=>?_)
 clear hlt
 simp only [go_sem,zle,List.drop_zero,zlg]
 refine ⟨by omega,?_⟩
 simp (disch:=first|assumption|omega|(simp;done)|(simp;omega)|(simp only [bt,and_true];first|done|omega|(simp;done))) [↓zmi,beq,List.take_of_length_le,List.drop_append,List.take_append,ag,wk,wk2,wk1,wkM,wkL,am,List.drop_eq_nil_of_le,hcl,cod]
 (repeat' (first|assumption|omega|exact True.intro|refine And.intro ?_ ?_|refine af ?_|refine aa ?_|refine ac ?_ ?_|refine ah ?_ ?_|refine aj ?_|exact AHeap.Le.refl _|refine AHeap.Le.push ?_ _|refine AHeap.Le.del ?_ ?_|(simp only [bt,and_true,true_and,zmm];first|done|omega|(simp;done))))
def pcs:List (List UInt8):=[[97],[98],[100],[101,58,58,109,97,115,107],[112,114,105,111,114,105,116,121],[116,114,117,101],[48],[49,55],[48,120,49,102],[48,120,103],[57,97],[95,97],[38],[40],[41],[33],[38,38],[124,124],[45,62],[61,61],[33,61],[60],[60,61],[62],[62,61],[43],[45],[58,58],[32],[32,32],[120,49,95,121],[58]]
theorem AQ:[AV.str [97],AV.str [98],AV.str [100],AV.str [101,58,58,109,97,115,107],AV.str [112,114,105,111,114,105,116,121],AV.str [116,114,117,101],AV.str [48],AV.str [49,55],AV.str [48,120,49,102],AV.str [48,120,103],AV.str [57,97],AV.str [95,97],AV.str [38],AV.str [40],AV.str [41],AV.str [33],AV.str [38,38],AV.str [124,124],AV.str [45,62],AV.str [61,61],AV.str [33,61],AV.str [60],AV.str [60,61],AV.str [62],AV.str [62,61],AV.str [43],AV.str [45],AV.str [58,58],AV.str [32],AV.str [32,32],AV.str [120,49,95,121],AV.str [58]]=sAV pcs:=rfl
theorem tF:pcs.length=32:=rfl
theorem Aa:∀ x∈pcs,1≤x.length∧x.length≤8:=by decide
def k8:List AV→AHeap→(AV→AHeap→Prop)→Prop
 |[.ptr id 0],H,K=>∃ b a,(H.get id=some (cod b a)∧(0≤a∧a≤(b.length:Int))∧b.length≤140737488355328) ∧
   ∀ s a',s.length≤310→0≤a'→a'≤(b.length:Int)→K (.str s) (H.set id (cod b a'))
 |_,_,_=>False
theorem sF:EntOk Try.prog 18 (Ent.some k8):=by
 refine EntOk.some fun args H K h=>?_
 unfold k8 at h
 split at h
 rotate_left
 ·exact h.elim
 rename_i id
 obtain ⟨b,a,⟨hg,⟨ha1,ha2⟩,hb⟩,hK⟩:=h
 refine ACallsP.of_aw (Ω:=[(46,Ent.pure gr),(28,Ent.some bu)]) (T:=aA []) aI (TblOk.cons qL (TblOk.cons i7 TblOk.nil)) Try.func18 (by kernel_rfl) (by rfl) (rs:=[.tmp 2]) (by rfl) (by kernel_rfl) (by simp only [Try.ntmps18,List.length_cons,List.length_nil];decide) fun hcl hlt=>?_
 change aw _ _ _ (KI Try.prog [(46,Ent.pure gr),(28,Ent.some bu)] (dK Try.prog [.tmp 2] H.nx _) []) _ _
 clear hlt
 have hid:=AHeap.get_lt hg
 have hcl2:∀ a',(H.set id (cod b a')).Closed:=fun a'=>ah hcl (by simp [zno,znp,zmz,zmm])
 simp only [go_sem]
 refine ax (A:=List UInt8 × Int) (fun x=>[(0,.ptr id 0),(3,.str x.1)]) (fun x=>H.set id (cod b x.2)) (fun x=>x.1.length≤310∧0≤x.2∧x.2≤(b.length:Int)) (fun x=>400 - x.1.length) ([],a) ⟨by simp,ha1,ha2⟩ ?_ fun x hx=>?_
 ·simp only [zkk]
  refine ⟨Nat.le_refl _,lT hg,hcl2 _,?_,?_⟩
  ·simp [ltF,znh,znb,AHeap.set,hid]
  ·simp [aR,wk2,wk1,Fr.get]
 obtain ⟨s,k⟩:=x
 obtain ⟨hs,hk1,hk2⟩:=hx
 dsimp only at hs hk1 hk2 ⊢
 simp only [go_sem,gr]
 have hgk:=AHeap.get_set_same H (cod b k) hid
 have hset:∀ a',(H.set id (cod b k)).set id (cod b a')=H.set id (cod b a'):=fun a'=>by simp [AHeap.set];funext j;split<;>rfl
 have fin:k7 H.nx K (AV.str s) (H.set id (cod b k)):=⟨_,_,hK s k hs hk1 hk2,Nat.le_refl _,by simp (disch:=first|assumption|omega|(simp;done)|(simp;omega)|(simp only [bt,and_true];first|done|omega|(simp;done))) [↓zmi,beq,List.take_of_length_le,List.drop_append,List.take_append,ag,wk,wk2,wk1,wkM,wkL,am,List.drop_eq_nil_of_le,hcl2]⟩
 refine ⟨b,k,hgk,bb (fun h1=>ak (fun h2=>?_) (fun h2=>?_)) (fun h1=>fin)⟩
 ·have hs3:s.length<300:=by simp at h2;omega
  simp only [go_sem,AQ]
  have hlt2:id<(H.set id (cod b k)).nx:=hid
  refine ⟨b,k,⟨by rw [AHeap.get_push_lt _ _ hlt2];exact hgk,⟨hk1,hk2⟩,hb,by omega,by omega⟩,fun r a' hr1 hr2 ha1' ha2'=>?_⟩
  obtain ⟨j,rfl⟩:=Int.eq_ofNat_of_zero_le hr1
  have hj:j<pcs.length:=by rw [tF];omega
  have hgj:(sAV pcs).getD j .junk=.str (pcs.getD j []):=gf hj
  have hpl:1≤(pcs.getD j []).length∧(pcs.getD j []).length≤8:=by
   rw [List.getD_eq_getElem?_getD,List.getElem?_eq_getElem hj]
   exact Aa _ (List.getElem_mem hj)
  generalize pcs.getD j []=p at *
  have hms:jb=9223372036854775807:=rfl
  have hne:(id=H.nx)=False:=eq_false (by omega)
  simp only [aP,go_sem,Int.toNat_natCast,ai,tF,hgj,hne]
  have hgp:∀ x,((H.set id (cod b x)).push (.buf 1 32)).get id=some (cod b x):=fun x=>by
   rw [AHeap.get_push_lt _ _ (show id<(H.set id (cod b x)).nx from hid)];exact AHeap.get_set_same _ _ hid
  refine ⟨by omega,by rw [hms];omega,b,a',⟨hgp a',⟨ha1',ha2'⟩,hb,by omega,by omega⟩,fun r2 a2 hr3 hr4 ha3 ha4=>?_⟩
  simp only [aP,go_sem,hne]
  have ent:∀ (q:List UInt8) (fr:Fr),Fr.get fr 0=.ptr id 0→Fr.get fr 3=.str q→s.length+1≤q.length→q.length≤310→∃ a':List UInt8 × Int,(a'.1.length≤310∧0≤a'.2∧a'.2≤(b.length:Int))∧400 - a'.1.length<400 - s.length ∧
   enterW H.nx fr ((H.set id (cod b a2)).push (.buf 1 32)) [(0,.ptr id 0),(3,.str a'.1)] (H.set id (cod b a'.2)):=fun q fr f0 f3 q1 q2=>by
   refine ⟨(q,a2),⟨q2,ha3,ha4⟩,by dsimp only;omega,Nat.le_refl _,(AHeap.Le.refl _).push _,hcl2 _,?_,?_⟩
   ·simp [ltF,znh,znb,AHeap.set,hid]
   ·simp [aR,wk2,wk1,f0,f3]
  refine ak (fun h5=>?_) (fun h5=>?_)
  ·simp only [go_sem]
   refine ⟨by rw [hms];simp;omega,ent _ _ rfl rfl (by simp) (by simp;omega)⟩
  ·simp only [go_sem]
   exact ent _ _ rfl rfl (by simp;omega) (by simp;omega)
 ·simp only [go_sem]
  exact fin
theorem mod_lt {x n:Int} (hn:1≤n):0≤(x.tmod n+n).tmod n∧(x.tmod n+n).tmod n<n:=by
 have h1:=Int.lt_tmod_of_pos x (show 0<n by omega)
 rw [Int.tmod_eq_emod_of_nonneg (by omega)]
 exact ⟨Int.emod_nonneg _ (by omega),Int.emod_lt_of_pos _ (by omega)⟩
theorem xg {l:List Tok} {k:Nat} (h:k<l.length):(bR l).getD k .junk=pu l[k]:=by simp [bR,List.getD_eq_getElem?_getD,h]
end Go.AL
