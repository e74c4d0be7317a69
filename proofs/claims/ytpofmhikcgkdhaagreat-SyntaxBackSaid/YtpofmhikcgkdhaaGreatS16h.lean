/- Lemmas of the proof; no condition. -/
import Derived.Test.YtpofmhikcgkdhaaGreatS16e
set_option linter.all false
set_option maxRecDepth 10000
set_option maxHeartbeats 32000000
open List renaming length_cons → yaz, length_nil → yba, length_map → ybb, take_of_length_le → ybc, drop_append → ybd, take_append → ybe, drop_eq_nil_of_le → ybf, take_succ_cons → yaq, take_zero → yar, drop_succ_cons → yao, drop_zero → yap, map_cons → yae
open Go Go.AL Go.Proofs
namespace Go.AL
theorem y8:ti Tryz.prog 69=some ⟨.slice 3,1,24,.slice .nil 1 []⟩:=by kernel_rfl
theorem vW:ti Tryz.prog 117=some ⟨.slice 61,1,24,.slice .nil 1 []⟩:=by kernel_rfl
attribute [go_sem] y8 vW
def iAV (x:Nat):AV:=.int .i64 (x:Int)
theorem nF {cs vs:List AV} {o:Nat} (h:o+vs.length≤cs.length):(splice cs o vs).take (o+vs.length)=cs.take o++vs:=by
 have hl:(cs.take o).length=o:=by rw [List.length_take];omega
 rw [gl _ _ _ h,List.take_left' (by rw [lAq,hl])]
theorem oB {n o:Nat} {cs vs:List AV} (h1:ltL n cs) (h2:ltL n vs) (h:o+vs.length≤cs.length):ltL n (splice cs o vs):=by
 rw [gl _ _ _ h]
 refine ltL_iff.2 fun j hj=>?_
 have hm:=gMq hj
 generalize ((cs.take o++vs++cs.drop (o+vs.length))[j])=x at hm
 simp only [List.mem_append] at hm
 have key:∀ {l:List AV},ltL n l→x∈l→x.lt n:=fun hl hx=>by
  obtain ⟨i,hi,rfl⟩:=List.getElem_of_mem hx
  exact ltL_iff.1 hl i hi
 rcases hm with (hm|hm)|hm
 ·exact key h1 (List.mem_of_mem_take hm)
 ·exact key h2 hm
 ·exact key h1 (List.mem_of_mem_drop hm)
theorem gt {n:Nat} {l:List AV} (h:∀ x∈l,x.lt n):ltL n l:=ltL_iff.2 fun j hj=>h _ (gMq hj)
theorem i8 {H:AHeap} {id:Nat} {cs:List AV} (hc:H.Closed) (hg:H.get id=some (.cells cs)):ltL H.nx cs:=ltL_iff.2 fun j hj=>hc id cs hg j hj
theorem ur {n:Nat}:AV.lt n .junk:=by rw [AV.lt]<;>simp
theorem tr {n k:Nat} {l:List AV} (h:ltL n l):ltL n (l.take k):=gt fun x hx=>by
 obtain ⟨i,hi,rfl⟩:=List.getElem_of_mem (List.mem_of_mem_take hx)
 exact ltL_iff.1 h i hi
theorem sE {n:Nat} {l:List AV} (h:ltL n l) {x:AV} (hx:x∈l):x.lt n:=by
 obtain ⟨i,hi,rfl⟩:=List.getElem_of_mem hx
 exact ltL_iff.1 h i hi
theorem nY {n:Nat} {a b:List AV} (h1:ltL n a) (h2:ltL n b):ltL n (a++b):=gt fun x hx=>by
 rcases List.mem_append.1 hx with h|h
 ·exact sE h1 h
 ·exact sE h2 h
theorem zG {n:Nat} {a:List AV} (h:ltL n a):ltL (n+1) a:=gt fun x hx=>AV.lt_mono (Nat.le_succ n) _ (sE h hx)
theorem qN {n k:Nat}:ltL n (List.replicate k .junk):=gt fun x hx=>by
 rw [List.eq_of_mem_replicate hx];exact ur
def uG:List AV→AHeap→(AV→Prop)→Prop
 |[.ms id off 1 n,.slice _ 1 ys],H,K=>∃ (cs:List AV) (xs zs:List Nat),(H.get id=some (.cells cs)∧xs.length=n∧off+n≤cs.length∧(cs.drop off).take n=xs.map iAV∧ys=zs.map iAV∧n≤100000)∧K (.bool (decide (xs=zs)))
 |_,_,_=>False
theorem AA:EntOk Tryz.prog 41 (Ent.pure uG):=by
 refine Ype fun _ H K h=>?_
 unfold uG at h
 split at h
 rotate_left
 ·exact h.elim
 rename_i id off n m ys
 obtain ⟨cs,xs,zs,⟨hg,rfl,hln,hcs,rfl,hl⟩,hK⟩:=h
 refine ⟨_,hK,?_⟩
 clear hK
 refine ACalls.fW aE tNq Tryz.func41 [.tmp 4] (nrq _) (T:=ay []) (h:=fun hcl hlt=>?_)
 have hid:=glq hg
 have hcc:=bg hg
 have hget:∀ k (hk:k<xs.length),cs.getD (off+k) .junk=.int .i64 (xs[k]:Int):=fun k hk=>by
  have h1:((cs.drop off).take xs.length)[k]?=some (iAV xs[k]):=by rw [hcs];simp [hk]
  rw [List.getElem?_take,if_pos hk,List.getElem?_drop] at h1
  rw [gEq,h1];rfl
 have hget2:∀ k (hk:k<zs.length),(zs.map iAV).getD k .junk=.int .i64 (zs[k]:Int):=fun k hk=>by simp [gEq,hk,iAV]
 have hm':∀ n',H.nx≤n'→AV.lt n' (.slice m 1 (zs.map iAV)):=fun n' hn=>AV.lt_mono hn _ (hlt (.slice m 1 (zs.map iAV)) (by simp))
 clear hlt
 have hne:(id=H.nx)=False:=eq_false (by omega)
 simp only [go_sem,ybb]
 refine ah (fun hc=>?_) (fun hc=>?_)
 ·have hne:decide (xs=zs)=false:=dfq fun e=>by subst e;simp at hc
  simp only [go_sem,hne]
  exact Z0
 have hlen:xs.length=zs.length:=by simp at hc;omega
 simp only [go_sem,ybb]
 refine au (A:=Nat) (fun k=>[(0,.ms id off 1 xs.length),(1,.slice m 1 (zs.map iAV)),(12,.int .i64 (xs.length:Int)),(13,.int .i64 (k:Int))]) (fun k=>H) (fun k=>k≤xs.length∧xs.take k=zs.take k) (fun k=>xs.length - k) 0 ⟨by omega,rfl⟩ ?_ fun k hk=>?_
 ·exact Z36
 obtain ⟨hk,htk⟩:=hk
 simp only [go_sem]
 refine ah (fun hc=>?_) (fun hc=>?_)
 ·have hk1:k<xs.length:=by simp at hc;omega
  have hk2:k<zs.length:=by omega
  have e5:=Yk5 k
  simp only [go_sem,ybb,hget k hk1,hget2 k hk2,iNq,Nat.mul_one,e5,hcc,hne]
  refine ⟨by omega,by omega,by omega,?_⟩
  refine ah (fun h2=>?_) (fun h2=>?_)
  ·have hne:xs[k]≠zs[k]:=fun e=>by simp at h2;exact h2 (by rw [e])
   have hd:decide (xs=zs)=false:=dfq fun e=>hne (by subst e;rfl)
   simp only [go_sem,hd]
   exact Z0
  ·have he:xs[k]=zs[k]:=by simp at h2;exact Int.ofNat.inj h2
   try simp only [go_sem,e5]
   refine ⟨k+1,⟨by omega,?_⟩,by omega,?_⟩
   ·rw [List.take_succ_eq_append_getElem hk1,List.take_succ_eq_append_getElem hk2,htk,he]
   exact Z36
 ·have hk1:k=xs.length:=by simp at hc;omega
  have heq:decide (xs=zs)=true:=dtq (by
   rw [hk1,List.take_length,hlen,List.take_length] at htk;exact htk)
  simp only [go_sem,heq]
  exact Z0
def cmpL:List (Int × List UInt8):=[(8,[61,61]),(9,[33,61]),(10,[60]),(11,[60,61]),(12,[62]),(13,[62,61])]
def sumL:List (Int × List UInt8):=[(6,[43]),(7,[45])]
def sO:List AV→AHeap→(AV→Prop)→Prop
 |[],_,K=>K (.slice .any 2 (cmpL.map gr))
 |_,_,_=>False
theorem Ao:EntOk Tryz.prog 43 (Ent.pure sO):=by
 refine Ype fun _ H K h=>?_
 unfold sO at h
 split at h
 rotate_left
 ·exact h.elim
 refine ⟨_,h,?_⟩
 clear h
 refine ACalls.fW aE tNq Tryz.func43 [.tmp 0] (nrq _) (T:=ay []) (h:=fun hcl hlt=>?_)
 simp only [go_sem,cmpL,gr]
 simp (disch:=first|exact Zd|omega) [↓zmo,beq,ybc,ybd,ybe,af,wk,wk2,wk1,wkM,wkL,am,ybf,hcl,cmpL,gr,eP,znu,znv,znr,znf,znh]
def rE:List AV→AHeap→(AV→Prop)→Prop
 |[],_,K=>K (.slice .any 2 (sumL.map gr))
 |_,_,_=>False
theorem yD:EntOk Tryz.prog 44 (Ent.pure rE):=by
 refine Ype fun _ H K h=>?_
 unfold rE at h
 split at h
 rotate_left
 ·exact h.elim
 refine ⟨_,h,?_⟩
 clear h
 refine ACalls.fW aE tNq Tryz.func44 [.tmp 0] (nrq _) (T:=ay []) (h:=fun hcl hlt=>?_)
 simp only [go_sem,sumL,gr]
 simp (disch:=first|exact Zd|omega) [↓zmo,beq,ybc,ybd,ybe,af,wk,wk2,wk1,wkM,wkL,am,ybf,hcl,sumL,gr,eP,znu,znv,znr,znf,znh]
def ri:List AV→AHeap→(AV→AHeap→Prop)→Prop
 |[.slice .nil _ [],.int .i64 n],H,K=>(0<n∧n≤100000)∧∀ k,K (.ms (H.nx+1) 0 2 0) ((H.push (.buf 2 0)).push (.cells ((List.replicate n.toNat [AV.int .i64 0,AV.str []]).flatten++List.replicate k .junk)))
 |_,_,_=>False
theorem wU {m n k:Nat}:ltL m ((List.replicate n [AV.int .i64 0,AV.str []]).flatten++List.replicate k .junk):=gt fun x hx=>by
 rcases List.mem_append.1 hx with h|h
 ·obtain ⟨l,h1,h2⟩:=List.mem_flatten.1 h
  rw [List.eq_of_mem_replicate h1] at h2
  simp only [List.mem_cons,List.not_mem_nil,or_false] at h2
  rcases h2 with rfl|rfl
  ·rw [znf];trivial
  ·rw [znh];trivial
 ·rw [List.eq_of_mem_replicate h];exact ur
theorem yV:EntOk Tryz.prog 68 (Ent.some ri):=by
 refine EntOk.some fun args H K h=>?_
 unfold ri at h
 split at h
 rotate_left
 ·exact h.elim
 rename_i sz n
 obtain ⟨⟨hn0,hn1⟩,hK⟩:=h
 obtain ⟨n,rfl⟩:=Int.eq_ofNat_of_zero_le (show 0≤n by omega)
 refine ACallsP.fS aE tNq Tryz.func68 [.tmp 4] (T:=ay [(3,[[8]]),(5,[[8,2,5]])]) (h:=fun hcl=>?_)
 have d1:decide (((n:Nat):Int)<0)=false:=dfq (by omega)
 have e1:IntKind.i64.wrap ((0:Int) - ((0:Nat):Int))=0:=rfl
 have e2:IntKind.i64.wrap ((n:Int) - 0)=(n:Int):=by rw [wrap_i64]<;>omega
 have d2:decide (((n:Nat):Int) > 0)=true:=dtq (by omega)
 simp only [go_sem,bhq,Nat.reduceMod,Nat.reduceDiv,gB,gC,hO,mL,g7,lW,kH,kZ,lz,yaq,yar,yao,yap,d1,d2,e1,e2,sJ,iNq]
 have hr:=hK
 refine ⟨by omega,fun k=>?_⟩
 simp only [go_sem,bhq,Nat.reduceMod,Nat.reduceDiv,gB,gC,hO,mL,g7,lW,kH,kZ,lz,yaq,yar,yao,yap,yba,iNq,zok]
 have hk:=hK k
 rw [iNq] at hk
 have hcl2:((H.push (.buf 2 0)).push (.cells ((List.replicate n [AV.int .i64 0,AV.str []]).flatten++List.replicate k .junk))).Closed:=aa (ag hcl) wU
 refine ⟨by omega,_,_,hk,by simp only [zle];omega,?_⟩
 simp (disch:=first|exact Zd|omega) [↓zmo,beq,ybc,ybd,ybe,af,wk,wk2,wk1,wkM,wkL,am,ybf,hcl2,znp]
def oc1 (t:Int × List UInt8):List AV:=[.int .i64 t.1,.str t.2]
def ocs (l:List (Int × List UInt8)):List AV:=l.flatMap oc1
theorem lB:∀ {l:List (Int × List UInt8)},(ocs l).length=l.length*2
 |[]=>rfl
 |x::l=>by
  have h:=lB (l:=l)
  have e:ocs (x::l)=oc1 x++ocs l:=by simp [ocs]
  rw [e,lAq,h,yaz];simp [oc1];omega
theorem vz {a b:List (Int × List UInt8)}:ocs (a++b)=ocs a++ocs b:=by simp [ocs]
theorem zK {l:List (Int × List UInt8)}:(l.map gr).flatMap AV.cells=ocs l:=by
 rw [List.flatMap_map];rfl
theorem um:∀ {l:List (Int × List UInt8)} {cs:List AV},cs.take (l.length*2)=ocs l→bH 2 l.length cs=l.map gr
 |[],cs,h=>rfl
 |x::l,cs,h=>by
  have e:ocs (x::l)=AV.int .i64 x.1::AV.str x.2::ocs l:=by simp [ocs,oc1]
  rw [e] at h
  match cs,h with
  |[],h=>cases h
  |[a],h=>simp [Nat.add_mul] at h
  |a::b::cs,h =>
   rw [yaz,Nat.add_mul] at h
   simp only [Nat.one_mul,yaq,List.cons.injEq] at h
   obtain ⟨rfl,rfl,h⟩:=h
   rw [yaz,bH]
   simp only [yao,yap,yae]
   rw [um h]
   rfl
theorem wV {n:Nat} {l:List (Int × List UInt8)}:ltL n (l.map gr):=gt fun x hx=>by
 obtain ⟨t,_,rfl⟩:=List.mem_map.1 hx
 simp [gr,znr,znu,znv,znf,znh]
theorem zu {n:Nat} {l:List (Int × List UInt8)}:ltL n (ocs l):=gt fun x hx=>by
 obtain ⟨t,_,h⟩:=List.mem_flatMap.1 hx
 simp only [oc1,List.mem_cons,List.not_mem_nil,or_false] at h
 rcases h with rfl|rfl
 ·rw [znf];trivial
 ·rw [znh];trivial
abbrev OL:=Mark × List (Int × List UInt8)
def uw (p:OL):AV:=.slice p.1 2 (p.2.map gr)
def ols (L:List OL):List (Int × List UInt8):=L.flatMap (·.2)
theorem pF {L:List OL} {k:Nat} (h:k<L.length):ols (L.take (k+1))=ols (L.take k)++L[k].2:=by
 unfold ols;rw [List.take_succ_eq_append_getElem h,List.flatMap_append];simp
theorem zr {L:List OL} {k:Nat}:(ols (L.take k)).length≤(ols L).length:=by
 have:ols L=ols (L.take k)++ols (L.drop k):=by unfold ols;rw [← List.flatMap_append,List.take_append_drop]
 rw [this,lAq];omega
def ne:List AV→AHeap→(AV→Prop)→Prop
 |[.slice _ 1 l],_,K=>∃ L:List OL,(l=L.map uw∧L≠[]∧(∀ p∈L,p.2≠[])∧L.length≤100∧(ols L).length≤1000)∧K (.slice .any 2 ((ols L).map gr))
 |_,_,_=>False
structure CatI (H:AHeap) (L:List OL) (a:Nat × Nat × AHeap):Prop where
 k:a.1≤L.length
 le:H.Le a.2.2
 cl:a.2.2.Closed
 id:H.nx≤a.2.1
 row:∃ cs,a.2.2.get a.2.1=some (.cells cs)∧cs.take ((ols (L.take a.1)).length*2)=ocs (ols (L.take a.1))∧(ols (L.take a.1)).length*2≤cs.length
theorem uV:EntOk Tryz.prog 42 (Ent.pure ne):=by
 refine Ype fun _ H K h=>?_
 unfold ne at h
 split at h
 rotate_left
 ·exact h.elim
 rename_i m l
 obtain ⟨L,⟨rfl,hL0,hne,hL,hT⟩,hK⟩:=h
 refine ⟨_,hK,?_⟩
 clear hK
 refine ACalls.fW aE (tCq yV tNq) Tryz.func42 [.tmp 2] (nrq _) (T:=ay [(13,[[8]])]) (h:=fun hcl hlt=>?_)
 have hm:∀ n',H.nx≤n'→AV.lt n' (.slice m 1 (L.map uw)):=fun n' hn=>AV.lt_mono hn _ (hlt (.slice m 1 (L.map uw)) (by simp))
 clear hlt
 have hpos:0<(ols L).length:=by
  match L,hL0,hne with
  |p::L,_,h =>
   have:=List.length_pos_iff.2 (h p (by simp))
   simp only [ols,List.flatMap_cons,lAq];omega
 have hget:∀ k (hk:k<L.length),(L.map uw).getD k .junk=.slice L[k].1 2 (L[k].2.map gr):=fun k hk=>by simp [gEq,hk,uw]
 simp only [go_sem,ybb]
 refine au (A:=Nat) (fun k=>[(0,.slice m 1 (L.map uw)),(3,.int .i64 ((ols (L.take k)).length:Int)),(9,.slice m 1 (L.map uw)),(10,.int .i64 (L.length:Int)),(11,.int .i64 (k:Int))]) (fun _=>H) (fun k=>k≤L.length) (fun k=>L.length - k) 0 (by omega) ?_ fun k hk=>?_
 ·have e0:(ols (L.take 0)).length=0:=rfl
  exact Z31
 simp only [go_sem]
 refine ah (fun hc=>?_) (fun hc=>?_)
 ·have hk1:k<L.length:=by simp at hc;omega
  have e5:=Yk5 k
  have hle:=zr (L:=L) (k:=k+1)
  have ht:=congrArg List.length (pF hk1)
  rw [lAq] at ht
  have e6:IntKind.i64.wrap (((ols (L.take k)).length:Int)+(L[k].2.length:Int))=((ols (L.take (k+1))).length:Int):=by rw [wrap_i64]<;>omega
  have d1:decide (((ols (L.take (k+1))).length:Int)<0)=false:=dfq (by omega)
  simp only [go_sem,ybb,hget k hk1,iNq,e5,e6,d1]
  refine ⟨by omega,k+1,by omega,by omega,?_⟩
  (simp only [bkq,enterW,aU,ltF,ne_eq,Nat.reduceEqDiff,reduceCtorEq,hm];try simp (disch:=first|exact Zd|omega) [↓zmo,beq,ybc,ybd,ybe,af,wk,wk2,wk1,wkM,wkL,am,ybf,byq,biq,ae,hcl,hm];try (repeat' (first|assumption|omega|exact True.intro|refine And.intro ?_ ?_|refine ag ?_|refine ac ?_|refine aa ?_ ?_|refine ai ?_ ?_|refine ak ?_|exact lRq _|refine lPq ?_ _|refine AHeap.Le.del ?_ ?_|(simp only [bt,and_true,true_and,hm];first|done|omega|(simp;done)))))
 have hk1:k=L.length:=by simp at hc;omega
 subst hk1
 rw [List.take_length]
 simp only [go_sem,ri,ybb]
 refine ⟨by omega,fun k0=>?_⟩
 try simp only [go_sem,ybb]
 have e0:(ols (L.take 0)).length=0:=rfl
 have hcl2:((H.push (.buf 2 0)).push (.cells ((List.replicate ((ols L).length:Int).toNat [AV.int .i64 0,AV.str []]).flatten++List.replicate k0 .junk))).Closed:=aa (ag hcl) wU
 refine au (A:=Nat × Nat × AHeap) (fun a=>[(6,.ms a.2.1 0 2 (ols (L.take a.1)).length),(25,.slice m 1 (L.map uw)),(26,.int .i64 (L.length:Int)),(27,.int .i64 (a.1:Int))]) (fun a=>a.2.2) (CatI H L) (fun a=>L.length - a.1)
  (0,H.nx+1,(H.push (.buf 2 0)).push (.cells ((List.replicate ((ols L).length:Int).toNat [AV.int .i64 0,AV.str []]).flatten++List.replicate k0 .junk))) ⟨Nat.zero_le _,((lRq H).push _).push _,hcl2,Nat.le_succ _,_,AHeap.get_push_new (H.push (.buf 2 0)) _,rfl,Nat.zero_le _⟩ ?_ fun a ha=>?_
 ·refine ⟨by simp only [zkq,zkv,zle];omega,lRq _,hcl2,?_,?_⟩
  ·simp [ltF,znf,znp]
   exact ⟨by simp only [zle];omega,hm _ (by simp only [zle];omega)⟩
  ·simp [aU,wk2,wk1,wkM,Fr.get,ols]
 obtain ⟨k,id,Hc⟩:=a
 obtain ⟨hk,hle,hcc,hid,cs,hg,hcs,hln⟩:=ha
 dsimp only at hk hle hcc hid hg hcs hln ⊢
 have hca:=bg hg
 have hidl:=glq hg
 have hnx:=hle.nx
 simp only [go_sem]
 refine ah (fun hc=>?_) (fun hc=>?_)
 ·have hk1:k<L.length:=by simp at hc;omega
  have e5:=Yk5 k
  have hle1:=zr (L:=L) (k:=k+1)
  have ht:=congrArg List.length (pF hk1)
  have hoc:=congrArg ocs (pF hk1)
  rw [lAq] at ht
  rw [vz] at hoc
  have hl2:=lB (l:=L[k].2)
  have hl3:=lB (l:=ols (L.take k))
  simp only [go_sem,bhq,Nat.reduceMod,Nat.reduceDiv,gB,gC,hO,mL,g7,lW,kH,kZ,lz,yaq,yar,yao,yap,ybb,hget k hk1,iNq,e5,oJ,hca,zK]
  refine ⟨by omega,⟨fun e=>hne _ (gMq hk1) (List.map_eq_nil_iff.1 e),by omega,by omega,fun z hz=>?_⟩,fun hin=>?_,fun k1=>?_⟩
  ·obtain ⟨x,_,rfl⟩:=List.mem_map.1 hz;rfl
  ·have hfit:(ols (L.take k)).length*2+(ocs L[k].2).length≤cs.length:=by omega
   have hcl3:(Hc.set id (.cells (splice cs ((ols (L.take k)).length*2) (ocs L[k].2)))).Closed:=ai hcc (oB (i8 hcc hg) zu hfit)
   refine ⟨(k+1,id,_),⟨by dsimp only;omega,db hle hid,hcl3,hid,_,AHeap.get_set_same _ _ hidl,?_,by dsimp only;rw [bU _ _ _ hfit];omega⟩,by dsimp only;omega,by simp only [zkq,zkv];exact hnx,lRq _,hcl3,?_,?_⟩
   ·dsimp only
    rw [hoc,← hcs,show (ols (L.take (k+1))).length*2=(ols (L.take k)).length*2+(ocs L[k].2).length by omega]
    exact nF hfit
   ·simp [ltF,znf,znp,hm _ hnx,hidl]
   ·simp [aU,wk2,wk1,wkM,Fr.get,ht]
  ·have hcl3:(Hc.push (.cells (cs.take ((ols (L.take k)).length*2)++ocs L[k].2++List.replicate k1 .junk))).Closed:=aa hcc (nY (nY (zG (tr (i8 hcc hg))) zu) qN)
   refine ⟨(k+1,Hc.nx,_),⟨by dsimp only;omega,hle.push _,hcl3,hnx,_,AHeap.get_push_new _ _,?_,?_⟩,by dsimp only;omega,by simp only [zkq,zkv,zle];omega,lRq _,hcl3,?_,?_⟩
   ·dsimp only
    rw [hcs,hoc,List.take_left' (by rw [lAq];omega)]
   ·dsimp only
    rw [hcs,lAq,lAq];omega
   ·simp [ltF,znf,znp,hm _ (Nat.le_succ_of_le hnx)]
   ·simp [aU,wk2,wk1,wkM,Fr.get,ht]
 have hk1:k=L.length:=by simp at hc;omega
 subst hk1
 rw [List.take_length] at *
 have hnone:H.get id=none:=by
  cases h:H.get id with
  |none=>rfl
  |some o=>have:=glq h;omega
 have hrows:=um hcs
 simp only [go_sem]
 simp (disch:=first|exact Zd|omega) [↓zmo,beq,ybc,ybd,ybe,af,wk,wk2,wk1,wkM,wkL,am,ybf,hca,hnone,hrows,hle,hcl]
 rw [eP]
 exact ⟨fun _ e=>(by cases e),wV⟩
def DK:List (Int × List UInt8):=[(14,[38,38]),(15,[124,124]),(16,[45,62])]
theorem lH:EntOk Tryz.prog 23 (Ent.pure mS):=by
 refine Ype fun _ H K h=>?_
 unfold mS at h
 split at h
 rotate_left
 ·exact h.elim
 refine ⟨_,h,?_⟩
 clear h
 refine ACalls.fW aE (tCq Ao (tCq yD (tCq uV tNq))) Tryz.func23 [.tmp 0] (nrq _) (T:=ay []) (h:=fun hcl hlt=>?_)
 clear hlt
 simp only [go_sem,sO,rE,ne]
 refine ⟨[(.any,cmpL),(.any,sumL),(.own (H.nx+1),DK)],⟨rfl,by simp,?_,Nat.le_of_ble_eq_true rfl,Nat.le_of_ble_eq_true rfl⟩,?_⟩
 ·intro p hp
  simp only [List.mem_cons,List.not_mem_nil,or_false] at hp
  rcases hp with rfl|rfl|rfl
  ·exact fun h=>by cases h
  ·exact fun h=>by cases h
  ·exact fun h=>by cases h
 have e:ols [(.any,cmpL),(.any,sumL),(.own (H.nx+1),DK)]=opsL:=rfl
 simp only [go_sem,e]
 simp (disch:=first|exact Zd|omega) [↓zmo,beq,ybc,ybd,ybe,af,wk,wk2,wk1,wkM,wkL,am,ybf,hcl]
 try (rw [eP];exact ⟨fun _ e=>(by cases e),wV⟩)
structure WhI (H:AHeap) (t:List Nd) (a:Nat × Nat × List Nat × AHeap):Prop where
 k:a.1≤t.length
 st:jr t a.1=some a.2.2.1
 ol:a.2.2.1.length≤a.1
 le:H.Le a.2.2.2
 cl:a.2.2.2.Closed
 id:H.nx≤a.2.1
 row:∃ cs,a.2.2.2.get a.2.1=some (.cells cs)∧cs.take a.2.2.1.length=a.2.2.1.map iAV∧a.2.2.1.length≤cs.length
theorem oO {H:AHeap} {id off n:Nat} {ys:List AV} {m:Mark} {K:AV→Prop} (cs:List AV) (xs:List Nat) (hg:H.get id=some (.cells cs)) (hn:xs.length=n) (h1:off+n≤cs.length) (h2:(cs.drop off).take n=xs.map iAV) (hy:ys=xs.map iAV) (hs:n≤100000) (hK:K (.bool true)) :
 uG [.ms id off 1 n,.slice m 1 ys] H K:=⟨cs,xs,xs,⟨hg,hn,h1,h2,hy,hs⟩,by rw [dtq rfl];exact hK⟩
theorem yF {m:Nat} {n:Nd}:ltL m [AV.int .i64 (n.op:Int),AV.int .i64 (n.a:Int),AV.int .i64 (n.b:Int),AV.str n.name,AV.str n.attr,AV.int .u64 ((n.v/2^64:Nat):Int),AV.int .u64 ((n.v % 2^64:Nat):Int)]:=by
 simp [znu,znv,znf,znh]
theorem bc {H:AHeap} {o x:AObj} {id:Nat} (h:H.get id=some x):(H.push o).get id=some x:=by
 rw [gPq _ _ (glq h)];exact h
theorem zD {H:AHeap} {t:List Nd} {k id:Nat} {p:List Nat} {Hd:AHeap} {cs:List AV} {ob:AObj} {fr:Fr} {m:Mark} (hk1:k<t.length) (hs1:jr t (k+1)=some (p++[k])) (hpk:p.length≤k) (hle:H.Le Hd) (hcd:Hd.Closed) (hid:H.nx≤id) (hg:Hd.get id=some (.cells cs))
 (hpre:cs.take p.length=p.map iAV) (hm:∀ n',H.nx≤n'→AV.lt n' (.slice m 7 (nds t))) (hfit:p.length+1≤cs.length) (f3:Fr.get fr 3=.ms id 0 1 (p.length+1)) (f8:Fr.get fr 8=.slice m 7 (nds t)) (f9:Fr.get fr 9=.int .i64 (t.length:Int)) (f10:Fr.get fr 10=.int .i64 ((k+1:Nat):Int)) :
 ∃ a',WhI H t a'∧t.length - a'.1<t.length - k∧enterW H.nx fr ((Hd.set id (.cells (splice cs p.length [.int .i64 (k:Int)]))).push ob) [(3,.ms a'.2.1 0 1 a'.2.2.1.length),(8,.slice m 7 (nds t)),(9,.int .i64 (t.length:Int)),(10,.int .i64 (a'.1:Int))] a'.2.2.2:=by
 have hidl:=glq hg
 have hfit':p.length+[AV.int .i64 (k:Int)].length≤cs.length:=hfit
 have hcl3:(Hd.set id (.cells (splice cs p.length [.int .i64 (k:Int)]))).Closed:=ai hcd (oB (i8 hcd hg) (gt fun x hx=>by simp only [List.mem_singleton] at hx;rw [hx,znf];trivial) hfit')
 refine ⟨(k+1,id,p++[k],_),⟨by dsimp only;omega,hs1,by simp;omega,db hle hid,hcl3,hid,_,AHeap.get_set_same _ _ hidl,?_,by dsimp only;rw [bU _ _ _ hfit'];simp;omega⟩,by dsimp only;omega,hle.nx,(lRq _).push _,hcl3,?_,?_⟩
 ·dsimp only
  rw [lAq,List.map_append,← hpre]
  exact nF hfit'
 ·simp [ltF,znf,znp,hm _ hle.nx,hidl]
 ·simp [aU,wk2,wk1,wkM,f3,f8,f9,f10]
theorem uM {H:AHeap} {t:List Nd} {k j:Nat} {p:List Nat} {Hd:AHeap} {cs:List AV} {fr:Fr} {m:Mark} {id:Nat} (hk1:k<t.length) (hs1:jr t (k+1)=some (p++[k])) (hpk:p.length≤k) (hle:H.Le Hd) (hcd:Hd.Closed) (hg:Hd.get id=some (.cells cs))
 (hpre:cs.take p.length=p.map iAV) (hm:∀ n',H.nx≤n'→AV.lt n' (.slice m 7 (nds t))) (f3:Fr.get fr 3=.ms Hd.nx 0 1 (p.length+1)) (f8:Fr.get fr 8=.slice m 7 (nds t)) (f9:Fr.get fr 9=.int .i64 (t.length:Int)) (f10:Fr.get fr 10=.int .i64 ((k+1:Nat):Int)) :
 ∃ a',WhI H t a'∧t.length - a'.1<t.length - k∧enterW H.nx fr (Hd.push (.cells (cs.take p.length++[.int .i64 (k:Int)]++List.replicate j .junk))) [(3,.ms a'.2.1 0 1 a'.2.2.1.length),(8,.slice m 7 (nds t)),(9,.int .i64 (t.length:Int)),(10,.int .i64 (a'.1:Int))] a'.2.2.2:=by
 have hnx:=hle.nx
 have hcl3:(Hd.push (.cells (cs.take p.length++[.int .i64 (k:Int)]++List.replicate j .junk))).Closed:=aa hcd (nY (nY (zG (tr (i8 hcd hg))) (gt fun x hx=>by simp only [List.mem_singleton] at hx;rw [hx,znf];trivial)) qN)
 have hpl:=congrArg List.length hpre
 rw [ybb] at hpl
 refine ⟨(k+1,Hd.nx,p++[k],_),⟨by dsimp only;omega,hs1,by simp;omega,hle.push _,hcl3,hnx,_,AHeap.get_push_new _ _,?_,?_⟩,by dsimp only;omega,by simp only [zle];omega,lRq _,hcl3,?_,?_⟩
 ·dsimp only
  rw [lAq,List.map_append,hpre,List.take_left' (by simp)];rfl
 ·dsimp only
  rw [lAq,lAq,lAq,hpl];simp
 ·simp [ltF,znf,znp,hm _ (Nat.le_succ_of_le hnx)]
 ·simp [aU,wk2,wk1,wkM,f3,f8,f9,f10]
theorem iS:EntOk Tryz.prog 20 (Ent.pure js):=by
 refine Ype fun _ H K h=>?_
 unfold js at h
 split at h
 rotate_left
 ·exact h.elim
 rename_i m x
 obtain ⟨t,⟨rfl,h0,hS,hl⟩,hK⟩:=h
 refine ⟨_,hK,?_⟩
 clear hK
 have htp:=List.length_pos_iff.2 h0
 have hst:jr t t.length=some [t.length - 1]:=by
  have:=hS.stk (o:=[]) rfl
  rw [show t.length - 1+1=t.length by omega] at this
  exact this
 refine ACalls.fW aE (tCq AA tNq) Tryz.func20 [.tmp 2] (nrq _) (T:=ay [(1,[[2]]),(17,[[17]])]) (h:=fun hcl hlt=>?_)
 have hm:∀ n',H.nx≤n'→AV.lt n' (.slice m 7 (nds t)):=fun n' hn=>AV.lt_mono hn _ (hlt (.slice m 7 (nds t)) (by simp))
 clear hlt
 simp only [go_sem,bhq,Nat.reduceMod,Nat.reduceDiv,gB,gC,hO,mL,g7,lW,kH,kZ,lz,yaq,yar,yao,yap,mH,az]
 refine au (A:=Nat × Nat × List Nat × AHeap) (fun a=>[(3,.ms a.2.1 0 1 a.2.2.1.length),(8,.slice m 7 (nds t)),(9,.int .i64 (t.length:Int)),(10,.int .i64 (a.1:Int))]) (fun a=>a.2.2.2) (WhI H t) (fun a=>t.length - a.1)
  (0,H.nx,[],H.push (.cells [])) ⟨Nat.zero_le _,rfl,nrq _,(lRq H).push _,aa hcl (gt fun x hx=>by cases hx),nrq _,_,AHeap.get_push_new H _,rfl,nrq _⟩ ?_ fun a ha=>?_
 ·refine ⟨by simp only [zkq,zkv,zle];omega,lRq _,aa hcl (gt fun x hx=>by cases hx),?_,?_⟩
  ·simp [ltF,znf,znp]
   exact ⟨by simp only [zle];omega,hm _ (by simp only [zle];omega)⟩
  ·simp [aU,wk2,wk1,wkM,Fr.get]
 obtain ⟨k,id,o,Hc⟩:=a
 obtain ⟨hk,hso,hol,hle,hcc,hid,cs,hg,hcs,hln⟩:=ha
 dsimp only at hk hso hol hle hcc hid hg hcs hln ⊢
 have hidl:=glq hg
 have hnx:=hle.nx
 simp only [go_sem]
 refine ah (fun hc=>?_) (fun hc=>?_)
 ·have hk1:k<t.length:=by simp at hc;omega
  have e5:=Yk5 k
  obtain ⟨s',hSk⟩:=hS.at (Nat.zero_le k) (by omega)
  obtain ⟨p,hp,hs1⟩:=zV (gQq hk1) hso hst hk1
  subst hp
  have hop:∃ b1 b2 b3 b4 b5:Bool,((t[k].op:Int)==1)=b1∧((t[k].op:Int)==2)=b2∧((t[k].op:Int)==3)=b3∧((t[k].op:Int)==4)=b4∧((t[k].op:Int)==5)=b5 ∧
   ((b1||b2||b3)=true∧jp t[k]=[]∨(b1||b2||b3)=false∧(b4||b5)=true∧jp t[k]=[t[k].a]∨(b1||b2||b3||b4||b5)=false∧jp t[k]=[t[k].a,t[k].b]):=by
   refine ⟨_,_,_,_,_,rfl,rfl,rfl,rfl,rfl,?_⟩
   clear hso hol hcs hln hs1
   cases hSk with
   |leaf h1 h2 =>
    obtain ⟨_,e⟩:=get_lt h1
    rw [e]
    left
    cases h2<;>exact ⟨rfl,rfl⟩
   |un h1 h2 ho =>
    obtain ⟨_,e⟩:=get_lt h2
    rw [e]
    right;left
    rcases ho with rfl|rfl<;>exact ⟨rfl,rfl,rfl⟩
   |bin h1 h2 h3 ho =>
    rename_i a b op
    obtain ⟨_,e⟩:=get_lt h3
    rw [e]
    right;right
    have c:∀ j:Int,j<6→((op:Int)==j)=false:=fun j hj=>beq_eq_false_iff_ne.2 (by omega)
    have eo:(nd2 op a b).op=op:=rfl
    rw [eo,c 1 (by omega),c 2 (by omega),c 3 (by omega),c 4 (by omega),c 5 (by omega)]
    refine ⟨rfl,?_⟩
    unfold jp
    rw [eo,if_neg (by omega),if_neg (by omega)]
  obtain ⟨b1,b2,b3,b4,b5,q1,q2,q3,q4,q5,hcase⟩:=hop
  obtain ⟨on,hon⟩:∃ on,on=jp t[k]:=⟨_,rfl⟩
  rw [← hon] at hso hol hcs hln hcase
  rw [← hon]
  obtain ⟨n,hn⟩:∃ n,n=(p++on).length:=⟨_,rfl⟩
  rw [← hn] at hol hcs hln
  rw [← hn]
  rw [lAq] at hn
  have e14:∀ z:Nat,on.length=z→IntKind.i64.wrap ((n:Int) - (z:Int))=(p.length:Int):=fun z hz=>by rw [wrap_i64]<;>omega
  have d0:decide (((p.length:Nat):Int)<0)=false:=dfq (by omega)
  have dOn:decide (on=on)=true:=dtq rfl
  have esub:((n:Int) - (p.length:Int)).toNat=on.length:=by omega
  have hnd:(cs.drop p.length).take on.length=on.map iAV:=by
   rw [show on.length=n - p.length by omega,← List.drop_take,hcs,List.map_append,List.drop_left' (by simp)]
  simp only [go_sem,az,cw hk1,iNq,q1,q2,q3,q4,q5]
  refine ⟨by omega,?_⟩
  have hne:(id=Hc.nx)=False:=eq_false (by omega)
  have ep:((p.length:Int) - ((0:Nat):Int)).toNat=p.length:=by omega
  have hfm:List.flatMap AV.cells [AV.int .i64 (k:Int)]=[AV.int .i64 (k:Int)]:=rfl
  have hpre:cs.take p.length=p.map iAV:=by
   have:=congrArg (List.take p.length) hcs
   rw [List.take_take,Nat.min_eq_left (by omega),List.map_append,List.take_left' (by simp)] at this
   exact this
  have hn1:(id=Hc.nx+1)=False:=eq_false (by omega)
  rcases hcase with ⟨hb,rfl⟩|⟨hb,hb2,rfl⟩|⟨hb,rfl⟩
  ·have e14':=e14 0 rfl
   cases b1<;>cases b2<;>cases b3<;>first|(cases hb;done)|skip
   all_goals
    simp only [go_sem,zat,zau,q1,q2,q3,q4,q5,yba,yaz,e14',d0,iNq,esub,hne,hn1]
    refine ⟨by omega,oO cs [] (bc (bc hg)) rfl (by simp at hn ⊢;omega) hnd rfl (by simp) ?_⟩
    have hGg:((Hc.push (.cells [AV.int .i64 (t[k].op:Int),AV.int .i64 (t[k].a:Int),AV.int .i64 (t[k].b:Int),AV.str t[k].name,AV.str t[k].attr,AV.int .u64 ((t[k].v/2^64:Nat):Int),AV.int .u64 ((t[k].v % 2^64:Nat):Int)])).push (.buf 1 0)).get id=some (.cells cs):=(bc (bc hg))
    have hGl:H.Le ((Hc.push (.cells [AV.int .i64 (t[k].op:Int),AV.int .i64 (t[k].a:Int),AV.int .i64 (t[k].b:Int),AV.str t[k].name,AV.str t[k].attr,AV.int .u64 ((t[k].v/2^64:Nat):Int),AV.int .u64 ((t[k].v % 2^64:Nat):Int)])).push (.buf 1 0)):=((hle.push _).push _)
    have hGc:((Hc.push (.cells [AV.int .i64 (t[k].op:Int),AV.int .i64 (t[k].a:Int),AV.int .i64 (t[k].b:Int),AV.str t[k].name,AV.str t[k].attr,AV.int .u64 ((t[k].v/2^64:Nat):Int),AV.int .u64 ((t[k].v % 2^64:Nat):Int)])).push (.buf 1 0)).Closed:=(ag (aa hcc yF))
    generalize (Hc.push (.cells [AV.int .i64 (t[k].op:Int),AV.int .i64 (t[k].a:Int),AV.int .i64 (t[k].b:Int),AV.str t[k].name,AV.str t[k].attr,AV.int .u64 ((t[k].v/2^64:Nat):Int),AV.int .u64 ((t[k].v % 2^64:Nat):Int)])).push (.buf 1 0)=G at *
    have hneG:(id=G.nx)=False:=eq_false (by have:=glq hGg;omega)
    have hGa:=bg hGg
    simp only [go_sem,bhq,Nat.reduceMod,Nat.reduceDiv,gB,gC,hO,mL,g7,lW,kH,kZ,lz,yaq,yar,yao,yap,zat,zau,Bool.not_true,oJ,hGa,hneG,iNq,ep,hfm,e5]
    refine ⟨by omega,⟨by omega,by omega,fun z hz=>(by simp only [List.mem_singleton] at hz;subst hz;rfl)⟩,fun hin=>zD hk1 hs1 (by omega) hGl hGc hid hGg hpre hm hin rfl rfl rfl rfl,fun j=>uM hk1 hs1 (by omega) (hGl.push _) (ag hGc) (bc hGg) hpre hm rfl rfl rfl rfl⟩
  ·have e14':=e14 1 rfl
   cases b1<;>cases b2<;>cases b3<;>first|(cases hb;done)|skip
   cases b4<;>cases b5<;>first|(cases hb2;done)|skip
   all_goals
    simp only [go_sem,zat,zau,q1,q2,q3,q4,q5,yba,yaz,e14',d0,iNq,esub,hne,hn1]
    refine ⟨by omega,oO cs [t[k].a] (bc (bc (bc hg))) rfl (by simp at hn ⊢;omega) hnd rfl (by simp) ?_⟩
    have hGg:(((Hc.push (.cells [AV.int .i64 (t[k].op:Int),AV.int .i64 (t[k].a:Int),AV.int .i64 (t[k].b:Int),AV.str t[k].name,AV.str t[k].attr,AV.int .u64 ((t[k].v/2^64:Nat):Int),AV.int .u64 ((t[k].v % 2^64:Nat):Int)])).push (.buf 1 0)).push (.buf 1 1)).get id=some (.cells cs):=(bc (bc (bc hg)))
    have hGl:H.Le (((Hc.push (.cells [AV.int .i64 (t[k].op:Int),AV.int .i64 (t[k].a:Int),AV.int .i64 (t[k].b:Int),AV.str t[k].name,AV.str t[k].attr,AV.int .u64 ((t[k].v/2^64:Nat):Int),AV.int .u64 ((t[k].v % 2^64:Nat):Int)])).push (.buf 1 0)).push (.buf 1 1)):=(((hle.push _).push _).push _)
    have hGc:(((Hc.push (.cells [AV.int .i64 (t[k].op:Int),AV.int .i64 (t[k].a:Int),AV.int .i64 (t[k].b:Int),AV.str t[k].name,AV.str t[k].attr,AV.int .u64 ((t[k].v/2^64:Nat):Int),AV.int .u64 ((t[k].v % 2^64:Nat):Int)])).push (.buf 1 0)).push (.buf 1 1)).Closed:=(ag (ag (aa hcc yF)))
    generalize ((Hc.push (.cells [AV.int .i64 (t[k].op:Int),AV.int .i64 (t[k].a:Int),AV.int .i64 (t[k].b:Int),AV.str t[k].name,AV.str t[k].attr,AV.int .u64 ((t[k].v/2^64:Nat):Int),AV.int .u64 ((t[k].v % 2^64:Nat):Int)])).push (.buf 1 0)).push (.buf 1 1)=G at *
    have hneG:(id=G.nx)=False:=eq_false (by have:=glq hGg;omega)
    have hGa:=bg hGg
    simp only [go_sem,bhq,Nat.reduceMod,Nat.reduceDiv,gB,gC,hO,mL,g7,lW,kH,kZ,lz,yaq,yar,yao,yap,zat,zau,Bool.not_true,oJ,hGa,hneG,iNq,ep,hfm,e5]
    refine ⟨by omega,⟨by omega,by omega,fun z hz=>(by simp only [List.mem_singleton] at hz;subst hz;rfl)⟩,fun hin=>zD hk1 hs1 (by omega) hGl hGc hid hGg hpre hm hin rfl rfl rfl rfl,fun j=>uM hk1 hs1 (by omega) (hGl.push _) (ag hGc) (bc hGg) hpre hm rfl rfl rfl rfl⟩
  ·have e14':=e14 2 rfl
   cases b1<;>cases b2<;>cases b3<;>first|(cases hb;done)|skip
   cases b4<;>cases b5<;>first|(cases hb;done)|skip
   all_goals
    simp only [go_sem,zat,zau,q1,q2,q3,q4,q5,yba,yaz,e14',d0,iNq,esub,hne,hn1]
    refine ⟨by omega,oO cs [t[k].a,t[k].b] (bc (bc (bc hg))) rfl (by simp at hn ⊢;omega) hnd rfl (by simp) ?_⟩
    have hGg:(((Hc.push (.cells [AV.int .i64 (t[k].op:Int),AV.int .i64 (t[k].a:Int),AV.int .i64 (t[k].b:Int),AV.str t[k].name,AV.str t[k].attr,AV.int .u64 ((t[k].v/2^64:Nat):Int),AV.int .u64 ((t[k].v % 2^64:Nat):Int)])).push (.buf 1 0)).push (.buf 1 2)).get id=some (.cells cs):=(bc (bc (bc hg)))
    have hGl:H.Le (((Hc.push (.cells [AV.int .i64 (t[k].op:Int),AV.int .i64 (t[k].a:Int),AV.int .i64 (t[k].b:Int),AV.str t[k].name,AV.str t[k].attr,AV.int .u64 ((t[k].v/2^64:Nat):Int),AV.int .u64 ((t[k].v % 2^64:Nat):Int)])).push (.buf 1 0)).push (.buf 1 2)):=(((hle.push _).push _).push _)
    have hGc:(((Hc.push (.cells [AV.int .i64 (t[k].op:Int),AV.int .i64 (t[k].a:Int),AV.int .i64 (t[k].b:Int),AV.str t[k].name,AV.str t[k].attr,AV.int .u64 ((t[k].v/2^64:Nat):Int),AV.int .u64 ((t[k].v % 2^64:Nat):Int)])).push (.buf 1 0)).push (.buf 1 2)).Closed:=(ag (ag (aa hcc yF)))
    generalize ((Hc.push (.cells [AV.int .i64 (t[k].op:Int),AV.int .i64 (t[k].a:Int),AV.int .i64 (t[k].b:Int),AV.str t[k].name,AV.str t[k].attr,AV.int .u64 ((t[k].v/2^64:Nat):Int),AV.int .u64 ((t[k].v % 2^64:Nat):Int)])).push (.buf 1 0)).push (.buf 1 2)=G at *
    have hneG:(id=G.nx)=False:=eq_false (by have:=glq hGg;omega)
    have hGa:=bg hGg
    simp only [go_sem,bhq,Nat.reduceMod,Nat.reduceDiv,gB,gC,hO,mL,g7,lW,kH,kZ,lz,yaq,yar,yao,yap,zat,zau,Bool.not_true,oJ,hGa,hneG,iNq,ep,hfm,e5]
    refine ⟨by omega,⟨by omega,by omega,fun z hz=>(by simp only [List.mem_singleton] at hz;subst hz;rfl)⟩,fun hin=>zD hk1 hs1 (by omega) hGl hGc hid hGg hpre hm hin rfl rfl rfl rfl,fun j=>uM hk1 hs1 (by omega) (hGl.push _) (ag hGc) (bc hGg) hpre hm rfl rfl rfl rfl⟩
 have hk1:k=t.length:=by simp at hc;omega
 subst hk1
 rw [hst] at hso
 cases hso
 simp only [go_sem]
 simp (disch:=first|exact Zd|omega) [↓zmo,beq,ybc,ybd,ybe,af,wk,wk2,wk1,wkM,wkL,am,ybf,hcc,hle,hcl]
theorem ok_SyntaxBack:EntOk Tryz.prog 3 (Ent.pure fY):=pt lH iS
end Go.AL
