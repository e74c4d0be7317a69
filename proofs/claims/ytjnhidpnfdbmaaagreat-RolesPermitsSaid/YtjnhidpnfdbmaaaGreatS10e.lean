/- Lemmas of the proof; no condition. -/
import Derived.Test.YtjnhidpnfdbmaaaGreatS10z
import Derived.Test.YtjnhidpnfdbmaaaGreatLVal
import Derived.Test.YtjnhidpnfdbmaaaGreatLSch2
set_option linter.all false
set_option maxRecDepth 10000
set_option maxHeartbeats 32000000
open Go Go.AL Go.Proofs
namespace Go.AL
theorem N1:ti Tryz.prog 3=some ⟨.int .i64,1,8,.int .i64 0⟩:=krf
theorem Jq:ti Tryz.prog 78=some ⟨.struct [(0,3,false),(1,9,false),(2,3,false)],3,32,.agg [.int .i64 0,.str [],.int .i64 0]⟩:=krf
theorem ED:ti Tryz.prog 80=some ⟨.struct [(0,3,false),(1,9,false),(2,50,false)],3,48,.agg [.int .i64 0,.str [],.slice .nil 1 []]⟩:=krf
theorem Ko:ti Tryz.prog 119=some ⟨.struct [(0,29,false),(2,29,false),(4,3,false)],5,40,.agg [.int .u64 0,.int .u64 0,.int .u64 0,.int .u64 0,.int .i64 0]⟩:=krf
theorem Js:ti Tryz.prog 117=some ⟨.struct [(0,3,false),(1,3,false),(2,3,false),(3,115,false),(4,3,false)],5,56,.agg [.int .i64 0,.int .i64 0,.int .i64 0,.slice .nil 1 [],.int .i64 0]⟩:=krf
theorem LX:ti Tryz.prog 123=some ⟨.struct [(0,3,false),(1,3,false),(2,121,false)],6,48,.agg [.int .i64 0,.int .i64 0,.int .i64 0,.int .i64 0,.int .u64 0,.int .u64 0]⟩:=krf
theorem DR:ti Tryz.prog 121=some ⟨.struct [(0,3,false),(1,3,false),(2,29,false)],4,32,.agg [.int .i64 0,.int .i64 0,.int .u64 0,.int .u64 0]⟩:=krf
theorem I8:ti Tryz.prog 110=some ⟨.struct [(0,9,false),(1,3,false)],2,24,.agg [.str [],.int .i64 0]⟩:=krf
theorem Ey:ti Tryz.prog 107=some ⟨.struct [(0,3,false),(1,9,false),(2,104,false),(3,105,false),(4,9,false)],5,88,.agg [.int .i64 0,.str [],.slice .nil 1 [],.slice .nil 1 [],.str []]⟩:=krf
theorem OH:ti Tryz.prog 102=some ⟨.struct [(0,9,false),(1,3,false),(2,3,false)],3,32,.agg [.str [],.int .i64 0,.int .i64 0]⟩:=krf
theorem H4:ti Tryz.prog 91=some ⟨.struct [(0,3,false),(1,9,false),(2,89,false),(3,50,false),(4,3,false),(5,24,false),(6,3,false),(7,9,false)],8,128,.agg [.int .i64 0,.str [],.slice .nil 1 [],.slice .nil 1 [],.int .i64 0,.slice .nil 1 [],.int .i64 0,.str []]⟩:=krf
theorem Jy:ti Tryz.prog 86=some ⟨.struct [(0,3,false),(1,3,false)],2,16,.agg [.int .i64 0,.int .i64 0]⟩:=krf
theorem IK:ti Tryz.prog 69=some ⟨.struct [(0,3,false),(1,4,false),(2,4,false),(3,67,false)],4,40,.agg [.int .i64 0,.bool false,.bool false,.slice .nil 1 []]⟩:=krf
theorem Li:ti Tryz.prog 65=some ⟨.struct [(0,3,false),(1,9,false),(2,63,false),(3,50,false),(4,3,false),(5,4,false)],6,88,.agg [.int .i64 0,.str [],.slice .nil 1 [],.slice .nil 1 [],.int .i64 0,.bool false]⟩:=krf
theorem OD:ti Tryz.prog 88=some ⟨.struct [(0,3,false),(1,3,false),(2,3,false),(3,3,false),(4,3,false),(5,3,false)],6,48,.agg [.int .i64 0,.int .i64 0,.int .i64 0,.int .i64 0,.int .i64 0,.int .i64 0]⟩:=krf
theorem Fs:ti Tryz.prog 39=some ⟨.struct [(0,30,false),(1,31,false),(2,32,false),(3,33,false),(4,34,false),(5,35,false),(6,36,false),(7,37,false),(8,3,false),(9,3,false)],10,208,.agg [.slice .nil 1 [],.slice .nil 1 [],.slice .nil 1 [],.slice .nil 1 [],.slice .nil 1 [],.slice .nil 1 [],.slice .nil 1 [],.slice .nil 1 [],.int .i64 0,.int .i64 0]⟩:=krf
theorem vu:ti Tryz.prog 47=some ⟨.struct [(0,4,false),(1,29,false),(3,29,false),(5,3,false),(6,29,false)],8,64,.agg [.bool false,.int .u64 0,.int .u64 0,.int .u64 0,.int .u64 0,.int .i64 0,.int .u64 0,.int .u64 0]⟩:=krf
theorem JD:ti Tryz.prog 26=some ⟨.struct [(0,3,false),(1,23,false),(2,3,false),(3,3,false),(4,24,false)],5,72,.agg [.int .i64 0,.slice .nil 1 [],.int .i64 0,.int .i64 0,.slice .nil 1 []]⟩:=krf
theorem Jo:tSl Tryz.prog 30 78:=kSl
theorem EH:tSl Tryz.prog 31 80:=kSl
theorem KD:tSl Tryz.prog 115 119:=kSl
theorem Hx:tSl Tryz.prog 32 117:=kSl
theorem Ll:tSl Tryz.prog 105 123:=kSl
theorem JJ:tSl Tryz.prog 104 110:=kSl
theorem FE:tSl Tryz.prog 33 107:=kSl
theorem Ow:tSl Tryz.prog 89 102:=kSl
theorem JR:tSl Tryz.prog 34 91:=kSl
theorem HI:tSl Tryz.prog 35 86:=kSl
theorem H5:tSl Tryz.prog 63 69:=kSl
theorem LZ:tSl Tryz.prog 36 65:=kSl
theorem Pf:tSl Tryz.prog 37 88:=kSl
theorem JK:tSl Tryz.prog 23 47:=kSl
theorem Ij:tSl Tryz.prog 56 26:=kSl
theorem NE:tSl Tryz.prog 24 29:=kSl
theorem OB:tSl Tryz.prog 50 3:=kSl
theorem M1:tSl Tryz.prog 67 4:=kSl
attribute [go_sem] N1 Jq ED Ko Js LX DR I8 Ey OH H4 Jy IK Li OD Fs vu JD Jo EH KD Hx Ll JJ FE Ow JR HI H5 LZ Pf JK Ij NE OB M1
def co:ECt
 |[.ptr id 0],H,K=>onC (H.get id) fun b v=>K (.ret (.bool (decide (cv b v 2=1)))) (H.set id (dV b (v+1)))
 |_,_,_=>False
theorem nY:EEe 29 co:=by
 refine Yef fun _ H K h=>?_
 unfold co at h
 split at h<;>try exact h.elim
 rename_i id
 obtain⟨b,v,hg,hb,hv,hK⟩:=jL h
 refine⟨_,_,hK,?_⟩
 clear hK
 refine Yfu az (tCq jG tNq) Tryz.func29 [.tmp 2] fun hcl=>?_
 have hid:=glq hg
 have hcl2:(H.set id (dV b (v+1))).Closed:=ai hcl ef
 have e2:(2:Int).toNat=2:=rfl
 simp only[go_sem,bD,hg,bB hb,cp,e2,Nat.add_zero,Nat.min_eq_left hv]
 have e:((((cv b v 2:Nat):Int))==1)=decide (cv b v 2=1):=by rw[Bool.eq_iff_iff];simp;omega
 refine⟨⟨Xc,Xc⟩,?_⟩
 rw[e]
 exact Z25
theorem gH{id n:Nat}(h:id<n):((id=n)=False)∧((id=n+1)=False)∧((id=n+1+1)=False)∧((id=n+1+1+1)=False)∧((id=n+1+1+1+1)=False)∧((id=n+1+1+1+1+1)=False)∧((id=n+1+1+1+1+1+1)=False)∧((id=n+1+1+1+1+1+1+1)=False)∧((id=n+1+1+1+1+1+1+1+1)=False)∧((id=n+1+1+1+1+1+1+1+1+1)=False)∧((id=n+1+1+1+1+1+1+1+1+1+1)=False)∧((id=n+1+1+1+1+1+1+1+1+1+1+1)=False)∧((id=n+1+1+1+1+1+1+1+1+1+1+1+1)=False)∧((id=n+1+1+1+1+1+1+1+1+1+1+1+1+1)=False)∧((id=n+1+1+1+1+1+1+1+1+1+1+1+1+1+1)=False)∧((id=n+1+1+1+1+1+1+1+1+1+1+1+1+1+1+1)=False) :=
 ⟨eFo,eFo,eFo,eFo,eFo,eFo,eFo,eFo,eFo,eFo,eFo,eFo,eFo,eFo,eFo,eFo⟩
theorem lv{H:AHeap}{id:Nat}(h:id<H.nx)(b:List UInt8)(v:Nat):(H.set id (dV b v)).get id=some (dV b v):=AHeap.get_set_same _ _ h
theorem kp{b:List UInt8}{v:Nat}:([AV.int .i64 0,.int .i64 0,.int .i64 65535,.int .i64 3].getD (cv b v 4) .junk)=.int .i64 (po (cv b v 4)):=by
 have h:=eW (b:=b) (v:=v) (n:=4) Xc
 unfold po
 generalize cv b v 4=c at *
 match c,h with
 |0,_=>rfl
 |1,_=>rfl
 |2,_=>rfl
 |3,_=>rfl
theorem bk{α:Type}{n sz:Nat}{f:α→AV}{l:List α}(h:∀ x,AV.lt n (f x)):AV.lt n (.slice .any sz (l.map f)):=HN fun x hx=>by
 obtain⟨y,_,rfl⟩:=List.mem_map.1 hx
 exact h y
theorem kz{n v:Nat}{l:List AV}:ltL n (vc v++l)=ltL n l:=by simp[vc,znu,znf]
theorem iO{n v:Nat}:ltL n (vc v)=True:=by simp[vc,znu,znv,znf]
theorem nq{n:Nat}{l:List Int}:AV.lt n (.slice .any 1 (inL l)):=bk fun x=>by simp only[znf]
theorem Cs{n:Nat}{l:List Bool}:AV.lt n (.slice .any 1 (boL l)):=bk fun x=>by simp only[zng]
theorem nt{n:Nat}{l:List Nat}:AV.lt n (.slice .any 2 (l.map vv)):=bk fun x=>by simp only[vv,znr,znu,znv,znf,and_true]
theorem qe{n:Nat}(x:SField):AV.lt n (cD x):=by
 simp only[cD,znr,znu,znv,znf,znh,zng,kz,iO,List.append_assoc,yal,yak,true_and,and_true]
theorem uW{n:Nat}(x:SHeader):AV.lt n (gr x):=by
 simp only[gr,znr,znu,znv,znf,znh,zng,kz,iO,List.append_assoc,yal,yak,true_and,and_true]
 exact nq
theorem NN{n:Nat}(x:SCase):AV.lt n (sH x):=by
 simp only[sH,znr,znu,znv,znf,znh,zng,kz,iO,List.append_assoc,yal,yak,true_and,and_true]
theorem iF{n:Nat}(x:SState):AV.lt n (dY x):=by
 simp only[dY,znr,znu,znv,znf,znh,zng,kz,iO,List.append_assoc,yal,yak,true_and,and_true]
 exact bk NN
theorem N8{n:Nat}(x:SPrim):AV.lt n (BZ x):=by
 simp only[BZ,znr,znu,znv,znf,znh,zng,kz,iO,List.append_assoc,yal,yak,true_and,and_true]
theorem jN{n:Nat}(x:SParam):AV.lt n (bV x):=by
 simp only[bV,znr,znu,znv,znf,znh,zng,kz,iO,List.append_assoc,yal,yak,true_and,and_true]
theorem kh{n:Nat}(x:SAction):AV.lt n (bu x):=by
 simp only[bu,znr,znu,znv,znf,znh,zng,kz,iO,List.append_assoc,yal,yak,true_and,and_true]
 exact⟨bk jN,bk N8⟩
theorem yc{n:Nat}(x:SKey):AV.lt n (bL x):=by
 simp only[bL,znr,znu,znv,znf,znh,zng,kz,iO,List.append_assoc,yal,yak,true_and,and_true]
theorem dM{n:Nat}(x:STable):AV.lt n (bc x):=by
 simp only[bc,znr,znu,znv,znf,znh,zng,kz,iO,List.append_assoc,yal,yak,true_and,and_true]
 exact⟨bk yc,nq,nt⟩
theorem DV{n:Nat}(x:SStage):AV.lt n (jh x):=by
 simp only[jh,znr,znu,znv,znf,znh,zng,kz,iO,List.append_assoc,yal,yak,true_and,and_true]
theorem md{n:Nat}(x:SGrant):AV.lt n (bO x):=by
 simp only[bO,znr,znu,znv,znf,znh,zng,kz,iO,List.append_assoc,yal,yak,true_and,and_true]
 exact Cs
theorem sU{n:Nat}(x:SRole):AV.lt n (cG x):=by
 simp only[cG,znr,znu,znv,znf,znh,zng,kz,iO,List.append_assoc,yal,yak,true_and,and_true]
 exact⟨bk md,nq⟩
theorem KC{n:Nat}(x:SRef):AV.lt n (pj x):=by
 simp only[pj,znr,znu,znv,znf,znh,zng,kz,iO,List.append_assoc,yal,yak,true_and,and_true]
theorem u7{n:Nat}(x:Sch):AV.lt n (yC x):=by
 simp only[yC,bb,znr,znu,znv,znf,true_and,and_true]
 exact⟨bk qe,bk uW,bk iF,bk kh,bk dM,bk DV,bk sU,bk KC⟩
theorem Kf{b:List UInt8}{u n:Nat}(h:0<n):(0≤((cv b u n:Nat):Int)∧((cv b u n:Nat):Int)<(n:Int))=True:=eq_true ⟨Xa,by have:=eW (b:=b) (v:=u) h;omega⟩
def eG(g:List UInt8→Nat→AV × Nat):ECt
 |[.ptr id 0],H,K=>onC (H.get id) fun b v=>K (.ret (g b v).1) (H.set id (dV b (g b v).2))
 |_,_,_=>False
def vA:=eG fun b v=>(.slice .any 5 ((bM b v).1.map dY),(bM b v).2)
theorem FC:EEe 25 vA:=by
 unfold vA
 refine Yef fun _ H K h=>?_
 unfold eG at h
 split at h<;>try exact h.elim
 rename_i id
 obtain⟨b,v,hg,hb,hv,hK⟩:=jL h
 refine⟨_,_,hK,?_⟩
 clear hK
 refine Yfw az (tCq jG (tCq nY tNq)) Tryz.func25 [.tmp 2] (nrq _) (T:=ay [(5,[[],[],[],[],[],[3],[],[],[],[],[3],[],[3,10],[],[3,10,12],[1,3,10,12],[],[1,3,10,12]]),(10,[[16]])]) (h:=fun hcl=>?_)
 have hid:=glq hg
 have hne:=gH hid
 have hgc:=lv (b:=b) hid
 have hcl2:∀ w,(H.set id (dV b w)).Closed:=fun w=>ai hcl ef
 have c4:∀ u,(0≤((cv b u 4:Nat):Int)∧((cv b u 4:Nat):Int)<((4:Nat):Int))=True:=fun u=>Kf Xc
 simp only[go_sem,bD,co,hg,hgc,bB hb,bT,bq,ce,hne,kp,c4,iNq]
 have w8:∀ u,IntKind.u64.wrap (IntKind.i64.wrap (8*((cv b u 2:Nat):Int)))=((8*cv b u 2:Nat):Int):=fun u=>by
  have:=eW (b:=b) (v:=u) (n:=2) Xc
  rw[wrap_i64 Xa Xa,c8 Xa (Xa)];omega
 have w1:∀ u,IntKind.i64.wrap (1+((cv b u 3:Nat):Int))=1+((cv b u 3:Nat):Int):=fun u=>by
  have:=eW (b:=b) (v:=u) (n:=3) Xc
  exact V118
 have hvs:∀ u,vc (8*cv b u 2)=[.int .u64 0,.int .u64 ((8*cv b u 2:Nat):Int)]:=fun u=>i0 (by
  have:=eW (b:=b) (v:=u) (n:=2) Xc
  omega)
 refine⟨Xc,aq (fun h1=>?_) (fun h1=>?_)⟩
 ·have h1':cv b (v+1) 2=1:=of_decide_eq_true h1
  refine T5 ?_
  refine⟨Xc,Xc,⟨by simp[ziq,zgq,zgr,zgs],Xc,Xc,aq (fun h2=>?_) (fun h2=>?_)⟩⟩
  ·have h2':cv b (v+5) 3=1:=by simp[cp]at h2;omega
   refine T5 ?_
   refine⟨Xc,?_⟩
   refine kO 2 (.slice .any 5 ((bM b v).1.map dY)) ?_ ?_
   ·exact Z26
   ·have e:(bM b v).2=cp v 7:=by unfold bM;simp only[h1',h2',if_true,if_false];rfl
    exact V19
  ·have h2':¬ cv b (v+5) 3=1:=by simp[cp]at h2;omega
   refine T5 ?_
   refine kO 2 (.slice .any 5 ((bM b v).1.map dY)) ?_ ?_
   ·exact Z26
   ·have e:(bM b v).2=cp v 6:=by unfold bM;simp only[h1',h2',if_true,if_false];rfl
    exact V19
 ·have h1':¬ cv b (v+1) 2=1:=of_decide_eq_false h1
  refine T5 ?_
  refine⟨Xc,Xc,aq (fun h2=>?_) (fun h2=>?_)⟩
  ·have h2':cv b (v+3) 3=1:=by simp[cp]at h2;omega
   refine T5 ?_
   refine⟨Xc,?_⟩
   refine kO 2 (.slice .any 5 ((bM b v).1.map dY)) ?_ ?_
   ·exact Z26
   ·have e:(bM b v).2=cp v 5:=by unfold bM;simp only[h1',h2',if_true,if_false];rfl
    exact V19
  ·have h2':¬ cv b (v+3) 3=1:=by simp[cp]at h2;omega
   refine T5 ?_
   refine kO 2 (.slice .any 5 ((bM b v).1.map dY)) ?_ ?_
   ·exact Z26
   ·have e:(bM b v).2=cp v 4:=by unfold bM;simp only[h1',h2',if_true,if_false];rfl
    exact V19
theorem FL:tSl Tryz.prog 124 9:=kSl
theorem Dq:tSl Tryz.prog 125 124:=kSl
attribute [go_sem] FL Dq
def JnT{α:Type}(F:α→Fr)(G:α→AHeap)(I:α→Prop)(K:Fr→AHeap→Prop):Prop:=∀ x,I x→K (F x) (G x)
theorem lf{α:Type}(F:α→Fr)(G:α→AHeap)(I:α→Prop){K:Fr→AHeap→Prop}{C:Prop}(h:JnT F G I K→C)(hJ:JnT F G I K):C:=h hJ
theorem eU{α:Type}{F:α→Fr}{G:α→AHeap}{I:α→Prop}{n0:Nat}{K:Fr→AHeap→Prop}{fr:Fr}{H:AHeap}(J:JnT F G I K)(x:α)(hx:I x)(he:enterW n0 fr H (F x) (G x)):kc n0 K fr H:=uU _ _ he (J x hx)
theorem EN{F:Nat × AHeap→Fr}{I:Nat × AHeap→Prop}{n0 s id off sz len:Nat}{K:Fr→AHeap→Prop}{fr:Fr}{H:AHeap}(J:JnT F (fun x=>x.2) (fun x=>x.2.Closed∧I x) K)(hs:Fr.get fr s=.ms id off sz len)(hc:H.Closed)(hx:I (id,H))(hn:n0≤H.nx)(hl:ltF H.nx (F (id,H)))(hw:aJ H H (F (id,H)) fr):kc n0 K fr H:=uU _ _ ⟨hn,lRq _,hc,hl,hw⟩ (J _ ⟨hc,hx⟩)
theorem zR{n0 s id off sz len:Nat}{K:Fr→AHeap→Prop}{fr:Fr}{H:AHeap}{cs:List AV}(cs':List AV)(hs:Fr.get fr s=.ms id off sz len)(hc:aK H id=some cs)(h:pq cs cs')(hk:K fr (H.set id (.cells cs'))):kc n0 K fr H:=eH id cs' hc h hk
structure But(id:Nat)(H Hc:AHeap):Prop where
 nx:H.nx≤Hc.nx
 get:∀ j x,j≠id→H.get j=some x→Hc.get j=some x
theorem But.push{id:Nat}{H Hc:AHeap}(h:But id H Hc)(o:AObj):But id H (Hc.push o):=⟨by rw[zle];exact Nat.le_succ_of_le h.nx,fun j x hj hx=>by
 have:=h.get j x hj hx
 rw[gPq _ _ (glq this)];exact this⟩
theorem But.set{id i:Nat}{H Hc:AHeap}(h:But id H Hc)(o:AObj)(hi:i=id∨H.nx≤i):But id H (Hc.set i o):=⟨by rw[zlf];exact h.nx,fun j x hj hx=>by
 have hlt:=glq hx
 rw[AHeap.get_set_ne _ _ (by rcases hi with rfl|hi<;>omega)]
 exact h.get j x hj hx⟩
theorem But.del{id i:Nat}{H Hc:AHeap}(h:But id H Hc)(hi:H.nx≤i):But id H (Hc.del i):=⟨by rw[ir];exact h.nx,fun j x hj hx=>by
 have hlt:=glq hx
 rw[jT,if_neg (Xa)]
 exact h.get j x hj hx⟩
theorem But.self{id:Nat}{H:AHeap}:But id H H:=⟨nrq _,fun _ _ _ h=>h⟩
theorem But.le{id:Nat}{H Hc:AHeap}{o:AObj}(h:But id H Hc)(hg:Hc.get id=some o):(H.set id o).Le Hc:=N4 h.get hg h.nx
theorem Ax{H:AHeap}{i j:Nat}{o o':AObj}(h:i≠j):(H.set i o).set j o'=(H.set j o').set i o:=by
 simp only[AHeap.set,AHeap.mk.injEq,true_and]
 funext k
 by_cases h1:k=i
 ·subst h1;simp[h]
 ·simp[h1]
theorem Mi{H:AHeap}{i:Nat}{o o':AObj}:(H.set i o).set i o'=H.set i o':=by
 simp only[AHeap.set,AHeap.mk.injEq,true_and]
 funext k
 by_cases h1:k=i<;>simp[h1]
def HF(b:List UInt8)(v k:Nat):List STable:=(cm b v).take k++((cm b v).drop k).map fun t=>{t with restr:=[]}
def zl(b:List UInt8)(v k:Nat):List AV:=(HF b v k).flatMap fun t=>(bc t).cells
theorem nA{α:Type}{n:Nat}{f:α→AV}{l:List α}(h:∀ x,AV.lt n (f x)):ltL n (l.flatMap fun x=>(f x).cells):=ltL_iff.2 fun j hj=>by
 obtain⟨x,_,hx⟩:=List.mem_flatMap.1 (gMq hj)
 obtain⟨k,hk,e⟩:=List.mem_iff_getElem.1 hx
 rw[← e];exact AV.lt_cells (h x) k hk
theorem lw{α:Type}{sz:Nat}(h1:sz≠1)(f:α→List AV)(hf:∀ x,(f x).length=sz):∀ l:List α,cg sz l.length (l.flatMap f)=l.map fun x=>.agg (f x)
 |[]=>rfl
 |x::l=>by
  rw[yaz,List.flatMap_cons,cg,if_neg h1,yae,show(f x++l.flatMap f).drop sz=l.flatMap f by rw[← hf x,List.drop_left],lw h1 f hf l]
  congr 2
  apply List.ext_getElem
  ·simp[hf]
  ·intro j a1 a2
   simp only[List.getElem_map,List.getElem_range]
   rw[gEq,List.getElem?_append_left a2,gQq a2];rfl
def pp:AV:=.slice .any 1 [.slice .any 1 (gText0.map .str),.slice .any 1 (gText1.map .str),.slice .any 1 (gText2.map .str),.slice .any 1 (gText3.map .str)]
def uG:=eG fun b v=>(.slice .any 8 ((cm b v).map bc),v+12)
theorem FK:EEe 27 uG:=by
 unfold uG
 refine Yef fun _ H K h=>?_
 unfold eG at h
 split at h<;>try exact h.elim
 rename_i id
 obtain⟨b,v,hg,hb,hv,hK⟩:=jL h
 refine⟨_,_,hK,?_⟩
 clear hK
 refine Yfw az (tCq jG (tCq nY tNq)) Tryz.func27 [.tmp 2] (nrq _) (T:=ay [(16,[[],[],[],[],[],[],[],[],[],[7],[],[],[5,7,9]]),(11,[[14]]),(13,[[1,1,1]])]) (h:=fun hcl=>?_)
 have hid:=glq hg
 have hne:=gH hid
 have hne2:=gH (show id<H.nx+1+1+1+1+1+1+1+1+1+1+1+1+1+1+1+1 by omega)
 have hgc:=lv (b:=b) hid
 have hcl2:∀ w,(H.set id (dV b w)).Closed:=fun w=>ai hcl ef
 have c3:∀ u,(0≤((cv b u 3:Nat):Int)∧((cv b u 3:Nat):Int)<((3:Nat):Int))=True:=fun u=>Kf Xc
 have w1:∀(u n:Nat)(k:Int),0<n→n≤100→0≤k→k≤100→IntKind.i64.wrap (k+((cv b u n:Nat):Int))=k+((cv b u n:Nat):Int):=fun u n k h1 h2 h3 h4=>by
  have:=eW (b:=b) (v:=u) (n:=n) h1
  exact V118
 have e2:(2:Int).toNat=2:=rfl
 have e5:(5:Int).toNat=5:=rfl
 have e6:(6:Int).toNat=6:=rfl
 have e3:(3:Int).toNat=3:=rfl
 have a12:∀ u,IntKind.i64.wrap (1+((cv b u 2:Nat):Int))=1+((cv b u 2:Nat):Int):=fun u=>w1 u 2 1 Xc Xc Xc Xc
 have a25:∀ u,IntKind.i64.wrap (2+((cv b u 5:Nat):Int))=2+((cv b u 5:Nat):Int):=fun u=>w1 u 5 2 Xc Xc Xc Xc
 have a36:∀ u,IntKind.i64.wrap (3+((cv b u 6:Nat):Int))=3+((cv b u 6:Nat):Int):=fun u=>w1 u 6 3 Xc Xc Xc Xc
 have a46:∀ u,IntKind.i64.wrap (4+((cv b u 6:Nat):Int))=4+((cv b u 6:Nat):Int):=fun u=>w1 u 6 4 Xc Xc Xc Xc
 have a35:∀ u,IntKind.i64.wrap (3+((cv b u 5:Nat):Int))=3+((cv b u 5:Nat):Int):=fun u=>w1 u 5 3 Xc Xc Xc Xc
 simp only[go_sem,bD,co,hg,hgc,bB hb,bT,bq,ce,hne,e2,e3,e5,e6,a12,a25,a36,a46,a35]
 apply lf (α:=Nat × AHeap) (fun x=>[(0,.ptr id 0),(7,.ms x.1 0 8 4),(8,pp)]) (fun x=>x.2) (fun x=>x.2.Closed∧H.nx≤x.1∧x.1<x.2.nx∧But id H x.2∧x.2.get id=some (dV b (cp v 8))∧x.2.get x.1=some (.cells (zl b v 0)))
 ·intro J
  refine T0 ?_
  refine aq (fun h1=>?_) (fun h1=>?_)
  all_goals
   simp only[bn,aF,bhq,go_sem,bD,co,hg,hgc,bB hb,bT,bq,ce,hne,e2,e3,e5,e6,a12,a25,a36,a46,a35]
   refine T0 ?_
   refine aq (fun h2=>?_) (fun h2=>?_)
  all_goals
   simp only[bn,aF,bhq,go_sem,bD,co,hg,hgc,bB hb,bT,bq,ce,hne,e2,e3,e5,e6,a12,a25,a36,a46,a35]
   refine T0 ?_
   refine aq (fun h3=>?_) (fun h3=>?_)
  all_goals
   simp only[bn,aF,bhq,go_sem,bD,co,hg,hgc,bB hb,bT,bq,ce,hne,e2,e3,e5,e6,a12,a25,a36,a46,a35]
   refine T0 ?_
   refine zR (s:=7) (zl b v 0) rfl Xn ?_ ?_
   ·first|replace h1:=of_decide_eq_true h1|replace h1:=of_decide_eq_false h1
    first|replace h2:=of_decide_eq_true h2|replace h2:=of_decide_eq_false h2
    first|replace h3:=of_decide_eq_true h3|replace h3:=of_decide_eq_false h3
    simp only[cp]at h1 h2 h3
    simp[zl,HF,cm,jJ,lL,fh,fk,bc,bL,inL,vv,h1,h2,h3,cp,AV.cells,j0,cw,cu,cL,fw,cP,jk,j5,i8,wkM]
   refine kO 8 pp ?_ ?_
   ·simp[Fr.get,pp,gText0,gText1,gText2,gText3,AV.cells,cw,cu,cL,fw,cP,j5,wkM]
   refine EN (s:=7) J rfl ?_ ?_ (by(try simp only[zkv,zkq,jg,zle,zlf]);omega) ?_ ?_
   ·repeat' (first|exact hcl2 _|refine ag ?_|refine ai ?_ ?_|refine aa ?_ ?_)
    all_goals first|exact nA fun _=>dM _|(simp[aN,znu,znv,znf,znh,zng,znr,AV.cells,yal,yak,zle,zlf];try omega)
   ·dsimp only
    refine⟨by(try simp only[zle,zlf]);omega,by(try simp only[zle,zlf]);omega,?_,?_,?_⟩
    ·repeat(first|exact But.self|refine But.push ?_ _|refine But.set ?_ _ (by first|exact .inl rfl|exact .inr (by(try simp only[zle,zlf]);omega)))
    ·simp only[go_sem,hne,hne2,hgc,cp]
    ·simp only[go_sem]
   ·simp[ltF,znn,znp,pp,gText0,gText1,gText2,gText3,znh,aN,znu,znv,zle,zlf]
    try omega
   ·simp[aJ,wk2,wk1,wkM,Fr.get,pp]
 ·rintro⟨i,Hc⟩ ⟨q3,q1,q2,q4,q5,q6⟩
  dsimp only at q1 q2 q3 q4 q5 q6 ⊢
  have hii:i≠id:=Xa
  have gtx:∀ u x y z,([AV.str x,.str y,.str z]:List AV).getD (cv b u 3) .junk=.str ([x,y,z].getD (cv b u 3) []):=fun u x y z=>by
   have:=eW (b:=b) (v:=u) (n:=3) Xc
   rcases(Xa:cv b u 3=0∨cv b u 3=1∨cv b u 3=2)with e|e|e<;>rw[e]<;>rfl
  have hic:id<Hc.nx:=glq q5
  have hci:∀ C w,aK ((Hc.set i (.cells C)).set id (dV b w)) i=some C:=fun C w=>ax (by
   rw[AHeap.get_set_ne _ _ hii,AHeap.get_set_same _ _ q2])
  have hgd:∀ C w,((Hc.set i (.cells C)).set id (dV b w)).get id=some (dV b w):=fun C w=>AHeap.get_set_same _ _ (by rw[zlf];exact hic)
  have hsi:∀ C C' w,((Hc.set i (.cells C)).set id (dV b w)).set i (.cells C')=(Hc.set i (.cells C')).set id (dV b w):=fun C C' w=>by
   rw[← Ax hii,Mi,Ax hii]
  have hsd:∀ C w w',((Hc.set i (.cells C)).set id (dV b w)).set id (dV b w')=(Hc.set i (.cells C)).set id (dV b w'):=fun C w w'=>Hv
  have hclo:∀ k w,((Hc.set i (.cells (zl b v k))).set id (dV b w)).Closed:=fun k w=>ai (ai q3 (nA fun _=>dM _)) ef
  refine T48 ?_
  refine aA (A:=Nat) (fun k=>[(0,.ptr id 0),(7,.ms i 0 8 4),(8,pp),(80,.int .i64 4),(81,.int .i64 (k:Int))]) (fun k=>(Hc.set i (.cells (zl b v k))).set id (dV b (cp v (8+k)))) (fun k=>k≤4) (fun k=>4-k) 0 Xa ?_ fun k hk=>?_
  ·refine⟨by simp only[zlf,zkq,zkv];have:=q4.nx;omega,?_,hclo _ _,?_,?_⟩
   ·exact((oY (by rw[AHeap.get_set_ne _ _ (fun e=>hii e.symm)];exact q5)).trans (oY q6))
   ·simp[ltF,znn,znp,znf,pp,gText0,gText1,gText2,gText3,znh,aN,znu,znv,zlf]
    omega
   ·simp[aJ,wk2,wk1,wkM,Fr.get,pp]
  refine T9 ?_
  refine aq (fun hc=>?_) (fun hc=>?_)
  ·have hk4:k<4:=sHc
   have c3':∀ u,(0≤((cv b u 3:Nat):Int)∧((cv b u 3:Nat):Int)<((3:Nat):Int)):=fun u=>of_eq_true (c3 u)
   have e4:IntKind.i64.wrap ((k:Int)+1)=((k+1:Nat):Int):=Xe
   rcases(Xa:k=0∨k=1∨k=2∨k=3)with rfl|rfl|rfl|rfl
   ·refine T6 ?_
    refine⟨Xc,Xc,Xc,1,Xc,Xc,by simp only[zlf,zkq,zkv];have:=q4.nx;omega,lRq _,hclo 1 _,?_,?_⟩
    ·exact V129
    ·exact V8
   ·refine T6 ?_
    refine⟨Xc,Xc,Xc,2,Xc,Xc,by simp only[zlf,zkq,zkv];have:=q4.nx;omega,lRq _,hclo 2 _,?_,?_⟩
    ·exact V129
    ·exact V8
   ·refine T6 ?_
    refine⟨Xc,Xc,Xc,3,Xc,Xc,by simp only[zlf,zkq,zkv];have:=q4.nx;omega,lRq _,hclo 3 _,?_,?_⟩
    ·exact V129
    ·exact V8
   ·refine T6 ?_
    refine⟨Xc,Xc,Xc,4,Xc,Xc,by simp only[zlf,zkq,zkv];have:=q4.nx;omega,lRq _,hclo 4 _,?_,?_⟩
    ·exact V129
    ·exact V8
  ·have hk4:k=4:=sHc
   subst hk4
   refine T9 ?_
   have hr:cg 8 4 (zl b v 4)=(cm b v).map bc:=lw Xc (fun t=>(bc t).cells) (fun _=>rfl) (cm b v)
   refine⟨?_,?_,hcl2 _,bk dM⟩
   ·simp only[wk,wk2,wk1,hci,yap,hr,true_or,true_and]
    rw[zmv (by rw[zlf];exact q1)]
   ·exact((q4.set _ (.inr q1)).set _ (.inl rfl)).le (hgd _ _)
def sE:=eG fun b v=>(.slice .any 5 ((di b v).map bu),v+4)
def JN(b:List UInt8)(v:Nat)(r1 r2:Bool):List AV:=((di b v).map fun a=>(⟨a.id,a.name,a.params,a.body,if a.id=3∧r1=true then [112,111,114,116,32,33,61,32,48]else if a.id=5∧r2=true then [120,32,60,32,121,32,124,124,32,120,32,61,61,32,49,53]else []⟩:SAction)).flatMap fun a=>(bu a).cells
theorem KW{b:List UInt8}{v:Nat}:JN b v (decide (cv b (v+2) 2=1)) (decide (cv b (v+3) 2=1))=(di b v).flatMap fun a=>(bu a).cells:=by
 by_cases h1:cv b (v+2) 2=1<;>by_cases h2:cv b (v+3) 2=1<;>simp[JN,di,bu,AV.cells,h1,h2]
theorem CF:EEe 26 sE:=by
 unfold sE
 refine Yef fun _ H K h=>?_
 unfold eG at h
 split at h<;>try exact h.elim
 rename_i id
 obtain⟨b,v,hg,hb,hv,hK⟩:=jL h
 refine⟨_,_,hK,?_⟩
 clear hK
 dsimp only
 generalize hres:AV.slice .any 5 ((di b v).map bu)=res
 refine Yfw az (tCq jG (tCq nY tNq)) Tryz.func26 [.tmp 2] (nrq _) (T:=ay [(2,[[],[],[],[],[],[],[],[],[],[],[],[],[],[],[],[],[],[],[],[],[],[],[],[],[],[],[],[],[],[],[],[],[],[29],[29,33],[],[],[],[29,33],[],[6,12,22,29,33]]),(802,[[100002],[100005],[100008],[100011],[100016],[100020],[100026],[100044]]),(1202,[[40]]),(3,[[1]])]) (h:=fun hcl=>?_)
 have hid:=glq hg
 have hne:=gH hid
 have hne2:=gH (show id<H.nx+1+1+1+1+1+1+1+1+1+1+1+1+1+1+1+1 by omega)
 have hgc:=lv (b:=b) hid
 have hcl2:∀ w,(H.set id (dV b w)).Closed:=fun w=>ai hcl ef
 have e2:(2:Int).toNat=2:=rfl
 have e256:(256:Int).toNat=256:=rfl
 have a22:∀ u,IntKind.i64.wrap (2+((cv b u 2:Nat):Int))=2+((cv b u 2:Nat):Int):=fun u=>by
  have:=eW (b:=b) (v:=u) (n:=2) Xc
  exact V118
 have u256:∀ u,IntKind.u64.wrap ((cv b u 256:Nat):Int)=((cv b u 256:Nat):Int):=fun u=>by
  exact V172
 simp only[go_sem,bD,co,hg,hgc,bB hb,bT,bq,ce,hne,hne2,e2,e256,a22,u256]
 refine T0 ?_
 refine T30 ?_
 refine zR (s:=4) (JN b v false false) rfl Xn ?_ ?_
 ·simp[JN,di,bu,bV,BZ,vc,cp,AV.cells,j0,cw,cu,cL,fw,cP,jk,j5,i8,wkM]
  have:=eW (b:=b) (v:=v+1) (n:=256) Xc
  omega
 refine T30 ?_
 refine aq (fun h1=>?_) (fun h1=>?_)
 all_goals
  simp only[bn,aF,bhq,go_sem,bD,co,hg,hgc,bB hb,bT,bq,ce,hne,hne2,e2,e256,a22,u256,JN,di,List.flatMap_cons,List.flatMap_nil,bu,AV.cells,yal,yak]
  refine T0 ?_
  refine aq (fun h2=>?_) (fun h2=>?_)
 all_goals
  try simp only[bn,aF,bhq,go_sem,bD,co,hg,hgc,bB hb,bT,bq,ce,hne,hne2,e2,e256,a22,u256,JN,di,List.flatMap_cons,List.flatMap_nil,bu,AV.cells,yal,yak]
  refine T0 ?_
  have hA:=KW (b:=b) (v:=v)
  rw[show decide (cv b (v+2) 2=1)=_ from h1,show decide (cv b (v+3) 2=1)=_ from h2]at hA
  have hr:=lw (sz:=5) Xc (fun t=>(bu t).cells) (fun _=>rfl) (di b v)
  rw[← hA]at hr
  subst hres
  refine⟨?_,?_,hcl2 _,bk kh⟩
  ·simp only[wk,wk2,wk1,go_sem,yap,true_or,true_and]
   refine⟨?_,?_⟩
   ·exact hr.symm
   ·rw[zmv (by(try simp only[zlf]);omega)]
  ·refine But.le (id:=id) ?_ ?_
   ·repeat(first|exact But.self|refine But.push ?_ _|refine But.set ?_ _ (by first|exact .inl rfl|exact .inr (by(try simp only[zle,zlf]);omega)))
   ·simp only[go_sem,hne,hne2,hgc,cp]
def bfN(n:Nat)(f:Nat→Bool):List AV:=(List.range n).map fun i=>.bool (f i)
theorem F7{n:Nat}{f:Nat→Bool}:(bfN n f).length=n:=by simp[bfN]
theorem GO{n:Nat}{f g:Nat→Bool}{i:Nat}{b:Bool}(h:∀ j,j<n→g j=if j=i then b else f j):(bfN n f).set i (.bool b)=bfN n g:=by
 apply List.ext_getElem
 ·simp[bfN]
 ·intro j h1 h2
  have hj:j<n:=by simpa[bfN]using h2
  rw[List.getElem_set]
  simp only[bfN,List.getElem_map,List.getElem_range,h j hj]
  by_cases e:i=j
  ·subst e;simp
  ·rw[if_neg e,if_neg (fun x=>e x.symm)]
theorem Ot{n:Nat}:(List.replicate n [AV.bool false]).flatten=bfN n fun _=>false:=by
 induction n with
 |zero=>rfl
 |succ n ih =>
  rw[List.replicate_succ,List.flatten_cons,ih]
  apply List.ext_getElem
  ·simp[bfN]
  ·intro j h1 h2
   cases j<;>simp[bfN]
theorem Hh{n:Nat}{f:Nat→Bool}:bfN n f=boL ((List.range n).map f):=by simp[bfN,boL]
theorem Gs{m n:Nat}{f:Nat→Bool}:ltL m (bfN n f)=True:=eq_true (ltL_iff.2 fun j hj=>by
 simp only[bfN,List.getElem_map]
 rw[AV.lt]<;>simp)
theorem sq:∀(l:List Bool),cg 1 l.length (boL l)=boL l
 |[]=>rfl
 |x::l=>by
  rw[yaz,cg,if_pos rfl]
  have:=sq l
  simp only[boL,yae,yao,yap,yau,mX]at this ⊢
  rw[this]
theorem m7{α:Type}{n:Nat}{f:α→AV}{a c:List AV}{l:List α}(h:a++c=l.map f)(hf:∀ x,AV.lt n (f x)):ltL n a=True:=eq_true (ltL_iff.2 fun j hj=>by
 have:a[j]∈l.map f:=by rw[← h];exact List.mem_append_left _ (gMq hj)
 obtain⟨x,_,e⟩:=List.mem_map.1 this
 rw[← e];exact hf x)
def wg(i j:Nat)(g:List AV):List AV:=[.int .i64 1,.str [97,108,108],.slice (.own i) 4 g,.slice (.own j) 1 [.int .i64 1,.int .i64 2,.int .i64 3,.int .i64 4,.int .i64 5,.int .i64 6],.int .i64 40,.bool true]
def oZ(b:List UInt8)(v i j:Nat)(g:List AV):List AV:=[.int .i64 2,.str [115,111,109,101],.slice (.own i) 4 g,.slice (.own j) 1 [.int .i64 1,.int .i64 2,.int .i64 (3+ci b (cp v 0) 3)],.int .i64 (1+ci b (cp v 1) 6),.bool false]
def wc(b:List UInt8)(v i j:Nat)(g:List AV):List AV:=[.int .i64 7,.str [102,101,119],.slice (.own i) 4 g,.slice (.own j) 1 [.int .i64 (1+ci b (cp v 2) 6)],.int .i64 (ci b (cp v 3) 4),.bool false]
def ju(H:AHeap)(id:Nat)(b:List UInt8)(v w:Nat)(a1 a2 a3:List AV):AHeap :=
 (((((((((((H.set id (dV b (cp w 0))).push (.buf 6 0)).push (.buf 1 6)).push (.buf 4 a1.length)).push (.cells (wg (H.nx+1+1) (H.nx+1) a1))).push (.buf 1 3)).push (.buf 4 a2.length)).push (.cells (oZ b v (H.nx+1+1+1+1+1) (H.nx+1+1+1+1) a2))).push (.buf 1 1)).push (.buf 4 a3.length)).push (.cells (wc b v (H.nx+1+1+1+1+1+1+1+1) (H.nx+1+1+1+1+1+1+1) a3)))
structure RolI(b:List UInt8)(ts:List STable)(R:(List SGrant × List SGrant × List SGrant) × Nat)(k w:Nat)(a1 a2 a3:List AV):Prop where
 le:k≤ts.length
 l1:a1.length≤k
 l2:a2.length≤k
 l3:a3.length≤k
 e1:a1++(cW b (ts.drop k) w).1.1.map bO=R.1.1.map bO
 e2:a2++(cW b (ts.drop k) w).1.2.1.map bO=R.1.2.1.map bO
 e3:a3++(cW b (ts.drop k) w).1.2.2.map bO=R.1.2.2.map bO
 e4:(cW b (ts.drop k) w).2=R.2
theorem jB{H:AHeap}{id:Nat}{b:List UInt8}{ts:List STable}{R:(List SGrant × List SGrant × List SGrant) × Nat}{v k w:Nat}{a1 a2 a3:List AV}(hcl:H.Closed)(h:RolI b ts R k w a1 a2 a3)(w':Nat):(ju H id b v w' a1 a2 a3).Closed:=by
 have q1:=fun n=>m7 (n:=n) h.e1 md
 have q2:=fun n=>m7 (n:=n) h.e2 md
 have q3:=fun n=>m7 (n:=n) h.e3 md
 unfold ju
 repeat' (first|exact ai hcl ef|refine ag ?_|refine aa ?_ ?_)
 all_goals simp[wg,oZ,wc,aN,znu,znv,znf,znh,zng,zle,zlf,q1,q2,q3]
 all_goals omega
def sn(g:List UInt8→Nat→AV × Nat):Prop:=∀ b v,(g b (min v b.length)).1=(g b v).1∧∃ c,(g b (min v b.length)).2=min v b.length+c∧(g b v).2=v+c
def onS(o:Option AObj)(g:List UInt8→Nat→AV × Nat)(K:AV→AObj→Prop):Prop:=onC o fun b v=>K (g b v).1 (dV b (g b v).2)
@[congr] theorem Rx{o o':Option AObj}{g:List UInt8→Nat→AV × Nat}{K:AV→AObj→Prop}(h:o=o'):onS o g K=onS o' g K:=by rw[h]
theorem cX{b:List UInt8}{v:Nat}{g:List UInt8→Nat→AV × Nat}{K:AV→AObj→Prop}(hb:b.length≤1000000)(hg:sn g):onS (some (dV b v)) g K=K (g b v).1 (dV b (g b v).2):=by
 unfold onS
 rw[bB hb]
 obtain⟨h1,c,h2,h3⟩:=hg b v
 rw[h1,h2,h3,bq]
theorem uu{g:List UInt8→Nat→AV × Nat}{id:Nat}{H:AHeap}{K:AEnd→AHeap→Prop}:eG g [.ptr id 0] H K=onS (H.get id) g fun x o=>K (.ret x) (H.set id o):=(rfl)
def pL:List UInt8→Nat→AV × Nat:=fun b v=>(.slice .any 5 ((bM b v).1.map dY),(bM b v).2)
def nz:List UInt8→Nat→AV × Nat:=fun b v=>(.slice .any 5 ((di b v).map bu),v+4)
def qw:List UInt8→Nat→AV × Nat:=fun b v=>(.slice .any 8 ((cm b v).map bc),v+12)
theorem lX:sn pL:=fun b v=>by
 have e:bM b (min v b.length)=((bM b v).1,(bM b v).2-v+min v b.length):=by
  unfold bM
  simp only[dB,bT]
  repeat' split
  all_goals(refine Prod.ext rfl ?_;dsimp only;omega)
 have h:∃ c,(bM b v).2=v+c:=by
  unfold bM
  repeat' split
  all_goals exact⟨_,rfl⟩
 obtain⟨c,hc⟩:=h
 unfold pL
 dsimp only
 rw[e]
 exact⟨rfl,c,Xf,hc⟩
theorem kC:sn nz:=fun b v=>by
 have e:di b (min v b.length)=di b v:=by unfold di ci;simp only[dB,bT]
 unfold nz
 dsimp only
 rw[e]
 exact⟨rfl,4,rfl,rfl⟩
theorem lT:sn qw:=fun b v=>by
 have e:cm b (min v b.length)=cm b v:=by unfold cm jJ lL fh fk ci;simp only[dB,bT]
 unfold qw
 dsimp only
 rw[e]
 exact⟨rfl,12,rfl,rfl⟩
theorem rf{b:List UInt8}{v k n:Nat}:ls b (min v b.length+k) n=ls b (v+k) n:=by
 unfold ls
 refine List.map_congr_left fun i _=>?_
 rw[Nat.add_assoc,Nat.add_assoc]
 unfold ci
 rw[dB]
theorem kW{b:List UInt8}{v:Nat}:∀(ts:List STable)(k:Nat),(cW b ts (min v b.length+k)).1=(cW b ts (v+k)).1∧∃ c,(cW b ts (min v b.length+k)).2=min v b.length+c∧(cW b ts (v+k)).2=v+c
 |[],k=>⟨rfl,k,rfl,rfl⟩
 |t::ts,k=>by
  have hb:∀ j n,cv b (min v b.length+j) n=cv b (v+j) n:=fun j n=>dB
  by_cases h1:0<cv b (v+(k+t.keys.length)) 4
  ·by_cases h2:cv b (v+(k+t.keys.length+3)) 2=1
   ·obtain⟨i1,c,i2,i3⟩:=kW ts (k+t.keys.length+3+3)
    simp only[Nat.add_assoc,Nat.reduceAdd]at i1 i2 i3 h1 h2
    simp only[cW,Nat.add_assoc,Nat.reduceAdd,hb,ci,h1,h2,if_true,rf]
    rw[i1]
    exact⟨rfl,c,i2,i3⟩
   ·obtain⟨i1,c,i2,i3⟩:=kW ts (k+t.keys.length+3+1)
    exact V57
  ·by_cases h2:cv b (v+(k+t.keys.length+1)) 2=1
   ·obtain⟨i1,c,i2,i3⟩:=kW ts (k+t.keys.length+1+3)
    exact V57
   ·obtain⟨i1,c,i2,i3⟩:=kW ts (k+t.keys.length+1+1)
    exact V57
theorem Hs{b:List UInt8}{v:Nat}:(pL b v).1=.slice .any 5 ((bM b v).1.map dY):=(rfl)
theorem HX{b:List UInt8}{v:Nat}:(pL b v).2=(bM b v).2:=(rfl)
theorem IJ{b:List UInt8}{v:Nat}:(nz b v).1=.slice .any 5 ((di b v).map bu):=(rfl)
theorem Iz{b:List UInt8}{v:Nat}:(nz b v).2=cp v 4:=(rfl)
theorem Jz{b:List UInt8}{v:Nat}:(qw b v).1=.slice .any 8 ((cm b v).map bc):=(rfl)
theorem I4{b:List UInt8}{v:Nat}:(qw b v).2=cp v 12:=(rfl)
theorem zK{v k n:Nat}:cp (cp v k) n=cp v (k+n):=by unfold cp;omega
theorem tg2{b:List UInt8}{w:Nat}:(List.map bc (cm b w)).getD 2 .junk=.agg [.int .i64 (fh b w).id,.str (fh b w).name,.slice .any 3 ((fh b w).keys.map bL),.slice .any 1 (inL (fh b w).actions),.int .i64 (fh b w).dflt,.slice .any 2 ((fh b w).dargs.map vv),.int .i64 (fh b w).size,.str (fh b w).restr]:=(rfl)
theorem tg3{b:List UInt8}{w:Nat}:(List.map bc (cm b w)).getD 3 .junk=.agg [.int .i64 (fk b w).id,.str (fk b w).name,.slice .any 3 ((fk b w).keys.map bL),.slice .any 1 (inL (fk b w).actions),.int .i64 (fk b w).dflt,.slice .any 2 ((fk b w).dargs.map vv),.int .i64 (fk b w).size,.str (fk b w).restr]:=(rfl)
theorem tgl{b:List UInt8}{w:Nat}:(cm b w).length=4:=(rfl)
theorem k2l{b:List UInt8}{w:Nat}:(((fh b w).keys.length:Int)==3)=decide (cv b (cp w 5) 2=1):=by
 by_cases h:cv b (w+5) 2=1<;>simp[fh,cp,h]
theorem k3l{b:List UInt8}{w:Nat}:(((fk b w).keys.length:Int)==3)=decide (cv b (cp w 7) 2=1):=by
 by_cases h:cv b (w+7) 2=1<;>simp[fk,cp,h]
def Oi(p:Prop):Bool→Prop|true=>p|false=>¬ p
theorem uC{p:Prop}[Decidable p]{t:Bool}(h:decide p=t):Oi p t:=by
 cases t
 ·exact(of_decide_eq_false h:¬ p)
 ·exact(of_decide_eq_true h:p)
end Go.AL
