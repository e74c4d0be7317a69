/- Lemmas of the proof; no condition. -/
import Derived.Test.YtjnhidpnfdbmaaaGreatS07v
import Derived.Test.YtjnhidpnfdbmaaaGreatS07c
set_option linter.all false
set_option maxRecDepth 10000
set_option maxHeartbeats 32000000
open Go Go.AL Go.Proofs
namespace Go.AL
theorem ME:ti Tryz.prog 239=some ⟨.struct [(0,3,false),(1,3,false),(2,3,false),(3,9,false),(4,9,false),(5,29,false)],7,72,.agg [.int .i64 0,.int .i64 0,.int .i64 0,.str [],.str [],.int .u64 0,.int .u64 0]⟩:=krf
theorem IB:tSl Tryz.prog 204 239:=kSl
theorem E5:ti Tryz.prog 275=some ⟨.struct [(0,240,false),(1,3,false),(2,4,false),(3,204,false)],4,64,.agg [.slice .nil 1 [],.int .i64 0,.bool false,.slice .nil 1 []]⟩:=krf
attribute [go_sem] ME IB E5
def rst(m:Mark)(l:List Tok)(p:Nat)(b:Bool)(tb:Nat)(t:List Nd):AObj:=.cells [.slice m 3 (dN l),.int .i64 (p:Int),.bool b,.slice (.own tb) 7 (nds t)]
def onQ(o:Option AObj)(K:Mark→List Tok→Nat→Bool→Nat→List Nd→Prop):Prop:=∃ m l p b tb t,o=some (rst m l p b tb t)∧K m l p b tb t
@[congr] theorem Ry{o o':Option AObj}{K:Mark→List Tok→Nat→Bool→Nat→List Nd→Prop}(h:o=o'):onQ o K=onQ o' K:=by rw[h]
theorem aQ{m:Mark}{l:List Tok}{p tb:Nat}{b:Bool}{t:List Nd}{K:Mark→List Tok→Nat→Bool→Nat→List Nd→Prop}:onQ (some (rst m l p b tb t)) K=K m l p b tb t:=by
 refine propext ⟨fun⟨m',l',p',b',tb',t',h,hk⟩=>?_,fun h=>⟨m,l,p,b,tb,t,rfl,h⟩⟩
 simp only[rst,Option.some.injEq,AObj.cells.injEq,List.cons.injEq,AV.slice.injEq,AV.int.injEq,AV.bool.injEq,Mark.own.injEq,true_and,and_true]at h
 obtain⟨⟨rfl,h1⟩,h2,rfl,rfl,h3⟩:=h
 have:=xe h1
 have:=Bj h3
 have:p=p':=Xa
 subst_vars
 exact hk
theorem dr{m:Mark}{l:List Tok}{p tb:Nat}{b:Bool}{t:List Nd}{K:Mark→List Tok→Nat→Bool→Nat→List Nd→Prop}:onQ (some (.cells [.slice m 3 (dN l),.int .i64 (p:Int),.bool b,.slice (.own tb) 7 (nds t)])) K=K m l p b tb t:=aQ
theorem js{H:AHeap}{id:Nat}{m:Mark}{l:List Tok}{p tb:Nat}{b:Bool}{t:List Nd}(hg:H.get id=some (rst m l p b tb t))(hcl:H.Closed)(p':Nat)(b':Bool)(t':List Nd):(H.set id (rst m l p' b' tb t')).Closed:=by
 have h0:=hcl id _ hg 0 Xb
 have h2:=hcl id _ hg 3 Xb
 simp only[List.getElem_cons_zero,List.getElem_cons_succ,tA,lF]at h0 h2
 refine ai hcl ?_
 simp only[znu,znv,tA,lF,znf,zng,and_true,true_and]
 exact⟨h0,h2⟩
def aV:ECt
 |[.ptr id 0,.agg [.int .i64 op,.int .i64 a,.int .i64 b,.str nm,.str att,.int .u64 hi,.int .u64 lo]],H,K=>onQ (H.get id) fun m l p bd tb t =>
   (0≤op∧0≤a∧0≤b∧mD hi lo∧id≠tb∧H.get tb=some (.buf 7 t.length)∧t.length≤100000) ∧
   K (.ret (.int .i64 (t.length:Int))) ((H.set id (rst m l p bd tb (t++[⟨op.toNat,a.toNat,b.toNat,nm,att,vOf hi.toNat lo.toNat⟩]))).set tb (.buf 7 (t.length+1)))
 |_,_,_=>False
theorem gW:EEe 208 aV:=by
 refine Yef fun _ H K h=>?_
 unfold aV at h
 split at h<;>try exact h.elim
 rename_i id op a b nm att hi lo
 obtain⟨m,l,p,bd,tb,t,hg,⟨h1,h2,h3,⟨h4,h5,h6,h7⟩,hne,htb,htl⟩,hK⟩:=h
 refine⟨_,_,hK,?_⟩
 clear hK
 obtain⟨op,rfl⟩:=bv h1
 obtain⟨a,rfl⟩:=bv h2
 obtain⟨b,rfl⟩:=bv h3
 obtain⟨hi,rfl⟩:=bv h4
 obtain⟨lo,rfl⟩:=bv h6
 simp only[iNq]
 refine Yfw az tNq Tryz.func208 [.tmp 4] (nrq _) (T:=ay [(1,[[],[],[],[],[],[],[5],[4,5],[],[],[4,5]])]) (h:=fun hcl=>?_)
 have hid:=glq hg
 have htbl:=glq htb
 have hcs:=ax (cs:=[.slice m 3 (dN l),.int .i64 (p:Int),.bool bd,.slice (.own tb) 7 (nds t)]) hg
 have f1:=cK hid
 have f2:=cK htbl
 have g1:(id=tb)=False:=eq_false hne
 have g2:(tb=id)=False:=eq_false fun e=>hne e.symm
 have e1:nds t++[AV.agg [.int .i64 (op:Int),.int .i64 (a:Int),.int .i64 (b:Int),.str nm,.str att,.int .u64 (hi:Int),.int .u64 (lo:Int)]]=nds (t++[⟨op,a,b,nm,att,vOf hi lo⟩]):=by
  rw[← CD];unfold lM;simp only;rw[sC Xa,Be (Xa)]
 have e2:IntKind.i64.wrap (((t.length+1:Nat):Int)-1)=(t.length:Int):=Xe
 have hcl1:=js hg hcl p bd (t++[⟨op,a,b,nm,att,vOf hi lo⟩])
 have hcl2:((H.set id (rst m l p bd tb (t++[⟨op,a,b,nm,att,vOf hi lo⟩]))).set tb (.buf 7 (t.length+1))).Closed:=ae hcl1
 have s1:=nU (H:=H) hne
 have s2:=fun o=>(cR (H:=H) hne o).trans hcs
 have s3:∀ o cs,aK ((H.set id (.cells cs)).set tb o) id=some cs:=fun o cs=>by rw[cR hne,fx hid,if_pos rfl]
 simp only[go_sem,hcs,aO,f1,f2,g1,g2,htb,aC,if_pos htbl,e1,s1,s2,s3,e2,lAq]
 refine⟨⟨Xa,Xa,by simp[bG,AV.cells,AV.one]⟩,?_⟩
 simp only[rst]at hcl2 ⊢
 simp (disch:=first|exact Zd|omega) [↓zmo,beq,ybc,ybd,ybe,af,wk,wk2,wk1,wkM,wkL,aj,ybf,hcl2,htbl,lF]
def bA:PCt
 |[.ptr id 0,.str s],H,K=>onQ (H.get id) fun m l p b tb t=>(p≤l.length∧l.length≤100000)∧K (.bool (!b&&isS l p s))
 |_,_,_=>False
theorem Cw:EPp 219 bA:=by
 refine Ype fun _ H K h=>?_
 unfold bA at h
 split at h<;>try exact h.elim
 rename_i id s
 obtain⟨m,l,p,b,tb,t,hg,⟨hp,hl⟩,hK⟩:=h
 have hid:=glq hg
 have hcs:=ax (cs:=[.slice m 3 (dN l),.int .i64 (p:Int),.bool b,.slice (.own tb) 7 (nds t)]) hg
 refine⟨_,hK,?_⟩
 clear hK
 refine Yfu az tNq Tryz.func219 [.tmp 4] fun hcl=>?_
 cases b with
 |true=>
  simp only[go_sem,hcs]
  exact Z0
 |_=>
  by_cases hlt0:p<l.length
  ·rcases htk:l[p]with⟨k,x,z⟩
   have hgd:=oB hlt0 htk
   have d1:decide ((p:Int)<(l.length:Int))=true:=Xd
   rw[FI hlt0 htk]
   by_cases hk:k=3
   ·subst hk
    have d2:(((3:Nat):Int)==3)=true:=rfl
    simp only[go_sem,hcs,aT,hgd,d1,d2,iNq]
    exact V109
   ·have d2:((k:Int)==3)=false:=Xd
    have d3:(k==3)=false:=by simpa using hk
    simp only[go_sem,hcs,aT,hgd,d1,d2,iNq]
    refine⟨Xa,?_⟩
    simp (disch:=first|exact Zd|omega) [↓zmo,beq,ybc,ybd,ybe,af,wk,wk2,wk1,wkM,wkL,aj,ybf,hcl,d3]
  ·have d1:decide ((p:Int)<(l.length:Int))=false:=Xd
   rw[Cl (Xa)]
   simp only[go_sem,hcs,aT,d1]
   exact Z0
def aU:ECt
 |[.ptr id 0,.str s],H,K=>onQ (H.get id) fun m l p b tb t=>(p≤l.length∧l.length≤100000) ∧
   if(!b&&isS l p s)=true then K (.ret (.bool true)) (H.set id (rst m l (p+1) b tb t))else K (.ret (.bool false)) H
 |_,_,_=>False
theorem iu:EEe 207 aU:=by
 refine Yef fun _ H K h=>?_
 unfold aU at h
 split at h<;>try exact h.elim
 rename_i id s
 obtain⟨m,l,p,b,tb,t,hg,⟨hp,hl⟩,hK⟩:=h
 have hid:=glq hg
 have hcs:=ax (cs:=[.slice m 3 (dN l),.int .i64 (p:Int),.bool b,.slice (.own tb) 7 (nds t)]) hg
 have e1:IntKind.i64.wrap ((p:Int)+1)=((p+1:Nat):Int):=Xe
 cases hs:(!b&&isS l p s)with
 |true=>
  rw[hs,if_pos rfl]at hK
  refine⟨_,_,hK,?_⟩
  clear hK
  refine Yfu az (tCq Cw tNq) Tryz.func207 [.tmp 4] fun hcl=>?_
  have hcl1:=js hg hcl (p+1) b t
  simp only[go_sem,bA,hg,aQ,hp,hl,hs,hcs,e1]
  change af (H.set id (rst m l (p+1) b tb t)) _ _ _
  exact Z27
 |_=>
  rw[hs,if_neg (Xb)]at hK
  refine⟨_,_,hK,?_⟩
  clear hK
  refine Yfu az (tCq Cw tNq) Tryz.func207 [.tmp 4] fun hcl=>?_
  simp only[go_sem,bA,hg,aQ,hp,hl,hs,hcs,e1]
  exact Z0
def yk:ECt
 |[.ptr id 0,.str x],H,K=>onQ (H.get id) fun m l p b tb t=>(b=false∧id≠tb∧H.get tb=some (.buf 7 t.length)∧t.length≤100000∧p≤l.length∧l.length≤100000) ∧
   if isS l p [58,58]=true then
    onW (lG l (p+1)) (fun y=>K (.ret (.int .i64 (t.length:Int))) ((H.set id (rst m l (p+1+1) false tb (t++[⟨3,0,0,x,y,0⟩]))).set tb (.buf 7 (t.length+1)))) (K (.ret (.int .i64 0)) (H.set id (rst m l (p+1) true tb t)))
   else K (.ret (.int .i64 (t.length:Int))) ((H.set id (rst m l p false tb (t++[⟨3,0,0,x,[],0⟩]))).set tb (.buf 7 (t.length+1)))
 |_,_,_=>False
theorem N7:EEe 238 yk:=by
 refine Yef fun _ H K h=>?_
 unfold yk at h
 split at h<;>try exact h.elim
 rename_i id x
 obtain⟨m,l,p,b,tb,t,hg,⟨rfl,hne,htb,ht,hp,hl⟩,hK⟩:=h
 have hid:=glq hg
 have htbl:=glq htb
 have hcs:=ax (cs:=[.slice m 3 (dN l),.int .i64 (p:Int),.bool false,.slice (.own tb) 7 (nds t)]) hg
 have f1:=cK hid
 have f2:=cK htbl
 have g1:(id=tb)=False:=eq_false hne
 have hgi:∀ o,(H.set id o).get id=some o:=fun o=>AHeap.get_set_same _ _ hid
 have hgt:∀ o,(H.set id o).get tb=some (.buf 7 t.length):=fun o=>by rw[AHeap.get_set_ne _ _ (fun e=>hne e.symm)];exact htb
 have hss:∀ X Y,(H.set id X).set id Y=H.set id Y:=fun X Y=>by simp only[AHeap.set];congr 1;funext k;by_cases hk:k=id<;>simp[hk]
 have hcc:∀ cs,aK (H.set id (.cells cs)) id=some cs:=fun cs=>by rw[fx hid,if_pos rfl]
 cases hs:isS l p [58,58]with
 |false=>
  rw[hs,if_neg (Xb)]at hK
  refine⟨_,_,hK,?_⟩
  clear hK
  refine Yfw az (tCq iu (tCq gW tNq)) Tryz.func238 [.tmp 4] (nrq _) (T:=ay [(7,[[],[],[],[],[],[],[],[],[],[],[],[],[],[],[],[5,9,13]])]) (h:=fun hcl=>?_)
  have hcl1:=js hg hcl p false (t++[⟨3,0,0,x,[],0⟩])
  have hcl2:((H.set id (rst m l p false tb (t++[⟨3,0,0,x,[],0⟩]))).set tb (.buf 7 (t.length+1))).Closed:=ae hcl1
  simp only[go_sem,aU,aV,hg,aQ,hp,hl,hs,Bool.not_false,Bool.true_and,if_false,hne,ne_eq,g1,nFq,htb,ht,bj,bh,Int.reduceLE]
  exact Z25
 |true=>
  rw[hs,if_pos rfl]at hK
  have hlt0:=dT hs
  have e1:IntKind.i64.wrap (((p+1:Nat):Int)+1)=((p+1+1:Nat):Int):=Xe
  have e2:IntKind.i64.wrap (((p+1+1:Nat):Int)-1)=((p+1:Nat):Int):=Xe
  unfold lG at hK
  by_cases hlt1:p+1<l.length
  ·rcases htk:l[p+1]with⟨k,y,z⟩
   have hgd:=oB hlt1 htk
   rw[gQq hlt1,htk]at hK
   dsimp only at hK
   have d1:(((p+1:Nat):Int)==(l.length:Int))=false:=Xd
   by_cases hk:k=2
   ·subst hk
    rw[if_pos rfl,iE]at hK
    refine⟨_,_,hK,?_⟩
    clear hK
    refine Yfw az (tCq iu (tCq gW tNq)) Tryz.func238 [.tmp 4] (nrq _) (T:=ay [(7,[[],[],[],[],[],[],[],[],[],[],[],[],[],[],[],[5,9,13]])]) (h:=fun hcl=>?_)
    have d2:(((2:Nat):Int) !=2)=false:=rfl
    have hcl1:=js hg hcl (p+1+1) false (t++[⟨3,0,0,x,y,0⟩])
    have hcl2:((H.set id (rst m l (p+1+1) false tb (t++[⟨3,0,0,x,y,0⟩]))).set tb (.buf 7 (t.length+1))).Closed:=ae hcl1
    simp only[go_sem,aU,aV,hg,aQ,dr,hp,hl,hs,Bool.not_false,Bool.true_and,if_true,hne,ne_eq,g1,nFq,hgi,hgt,hss,hcc,ht,bj,bh,Int.reduceLE,rst,aT,hgd,d1,d2,e1,e2,iNq]
    refine⟨Xa,Xa,?_⟩
    change af ((H.set id (rst m l (p+1+1) false tb (t++[⟨3,0,0,x,y,0⟩]))).set tb (.buf 7 (t.length+1))) _ ((H.set id (rst m l (p+1+1) false tb (t++[⟨3,0,0,x,y,0⟩]))).set tb (.buf 7 (t.length+1))) _
    exact Z25
   ·have d2:((k:Int) !=2)=true:=Xd
    rw[if_neg hk,gz]at hK
    refine⟨_,_,hK,?_⟩
    clear hK
    refine Yfw az (tCq iu (tCq gW tNq)) Tryz.func238 [.tmp 4] (nrq _) (T:=ay [(7,[[],[],[],[],[],[],[],[],[],[],[],[],[],[],[],[5,9,13]])]) (h:=fun hcl=>?_)
    have hcl1:=js hg hcl (p+1) true t
    simp only[go_sem,aU,aV,hg,aQ,dr,hp,hl,hs,Bool.not_false,Bool.true_and,if_true,hne,ne_eq,g1,nFq,hgi,hgt,hss,hcc,ht,rst,aT,hgd,d1,d2,iNq]
    refine⟨Xa,?_⟩
    exact V146
  ·have hpe:p+1=l.length:=Xa
   rw[gNq (Xa)]at hK
   dsimp only at hK
   rw[gz]at hK
   refine⟨_,_,hK,?_⟩
   clear hK
   refine Yfw az (tCq iu (tCq gW tNq)) Tryz.func238 [.tmp 4] (nrq _) (T:=ay [(7,[[],[],[],[],[],[],[],[],[],[],[],[],[],[],[],[5,9,13]])]) (h:=fun hcl=>?_)
   have d1:(((p+1:Nat):Int)==(l.length:Int))=true:=Xd
   have hcl1:=js hg hcl (p+1) true t
   simp only[go_sem,aU,aV,hg,aQ,dr,hp,hl,hs,Bool.not_false,Bool.true_and,if_true,hne,ne_eq,g1,nFq,hgi,hgt,hss,hcc,ht,rst,aT,d1,iNq]
   exact V146
def LG(m:Mark)(l:List Tok)(tb id:Nat)(H:AHeap)(K:AV→AHeap→Prop)(p0:Nat)(t0:List Nd)(o:Option PR):Prop:=match o with
 |none=>False
 |some (.ok a p t)=>K (.int .i64 (a:Int)) ((H.set id (rst m l p false tb t)).set tb (.buf 7 t.length))
 |some (.bad p)=>∀(a:Nat)(t:List Nd),t.length+p0≤t0.length+p→K (.int .i64 (a:Int)) ((H.set id (rst m l p true tb t)).set tb (.buf 7 t.length))
section
variable {m:Mark} {l:List Tok} {tb id p0:Nat} {H:AHeap} {K:AV→AHeap→Prop} {t0:List Nd}
@[congr] theorem Qr{o o':Option PR}(h:o=o'):LG m l tb id H K p0 t0 o=LG m l tb id H K p0 t0 o':=by rw[h]
theorem aR{a p:Nat}{t:List Nd}:LG m l tb id H K p0 t0 (some (.ok a p t))=K (.int .i64 (a:Int)) ((H.set id (rst m l p false tb t)).set tb (.buf 7 t.length)):=rfl
theorem aM{p:Nat}:LG m l tb id H K p0 t0 (some (.bad p))=∀(a:Nat)(t:List Nd),t.length+p0≤t0.length+p→K (.int .i64 (a:Int)) ((H.set id (rst m l p true tb t)).set tb (.buf 7 t.length)):=rfl
end
def G4(A:Prop)(l:List Tok):Prop:=∀ p,sj l p=1→A
def bg(A:Prop)(rl:Rl)(f:Nat):List AV→AHeap→(AV→AHeap→Prop)→Prop
 |[.ptr id 0],H,K=>onQ (H.get id) fun m l p b tb t=>(b=false∧ik H id tb l p t∧G4 A l)∧LG m l tb id H K p t (run l f rl p t)
 |_,_,_=>False
def ky(A:Prop)(f:Nat):=bg A .imp f
def vL(A:Prop)(f:Nat):=bg A .or f
def qr(A:Prop)(f:Nat):=bg A .and f
def mB(A:Prop)(f:Nat):=bg A .not f
def xr(A:Prop)(f:Nat):=bg A .cmp f
def pZ(A:Prop)(f:Nat):=bg A .sum f
def ny(A:Prop)(f:Nat):=bg A .un f
def tn(A:Prop)(f:Nat):=bg A .atom f
theorem lV{H:AHeap}{id tb p p':Nat}{o:AObj}{l:List Tok}{t t':List Nd}(h:ik H id tb l p t)(hp:p'≤l.length)(ht:t'.length≤p')(hg:Good t'):ik ((H.set id o).set tb (.buf 7 t'.length)) id tb l p' t':=by
 exact V107
theorem iH{H:AHeap}{id tb p:Nat}{m:Mark}{l:List Tok}{b:Bool}{t:List Nd}(hg:H.get id=some (rst m l p b tb t))(h:ik H id tb l p t)(hcl:H.Closed) :
 (∀ X Y,((H.set id X).set tb Y).get id=some X)∧(∀ X Y,((H.set id X).set tb Y).get tb=some Y)∧(∀ X Y Z,((H.set id X).set tb Y).set id Z=(H.set id Z).set tb Y) ∧
   (∀ p' b' t',((H.set id (rst m l p' b' tb t')).set tb (.buf 7 t'.length)).Closed)∧(∀ X Y Z,((H.set id X).set tb Y).set tb Z=(H.set id X).set tb Z):=by
 obtain⟨h1,h2,h3,h4,h5,h6,h7⟩:=h
 have hid:=glq hg
 have htb:=glq h2
 refine⟨fun X Y=>?_,fun X Y=>?_,fun X Y Z=>?_,fun p' b' t'=>ae (js hg hcl p' b' t'),fun X Y Z=>?_⟩
 ·rw[AHeap.get_set_ne _ _ h1];exact AHeap.get_set_same _ _ hid
 ·exact AHeap.get_set_same _ _ (by simpa[zlf]using htb)
 ·exact V158
 ·simp only[AHeap.set];congr 1;funext k;by_cases hk:k=tb<;>simp[hk]
theorem cJ{n:Nat}{K:AV→AHeap→Prop}{H1 H':AHeap}{z:Int}(h:K (.int .i64 z) H1)(hn:n≤H1.nx)(hl:H1.Le H')(hc:H1.Closed):yK n K (.int .i64 z) H' :=
 ⟨_,_,h,hn,by simp[zmo],hl,hc,by simp[znf]⟩
theorem yq{H:AHeap}{tb:Nat}{t:List Nd}(h:H.get tb=some (.buf 7 t.length)){id:Nat}(hne:id≠tb)(X:AObj):H.set id X=(H.set id X).set tb (.buf 7 t.length):=by
 have h2:=glq h
 unfold AHeap.get at h
 rw[if_pos h2]at h
 simp only[AHeap.set]
 congr 1
 funext k
 by_cases hk:k=tb
 ·subst hk;simp[Ne.symm hne,h]
 ·simp[hk]
theorem OO{A:Prop}{f:Nat}(h_zOr:EntOk Tryz.prog 206 (Ent.some (vL A f)))(h_zImp:EntOk Tryz.prog 187 (Ent.some (ky A f))):EntOk Tryz.prog 187 (Ent.some (ky A (f+1))):=by
 refine EntOk.some fun args H K h=>?_
 unfold ky bg at h
 split at h<;>try exact h.elim
 rename_i id
 obtain⟨m,l,p,b,tb,t,hg,⟨rfl,hpre,hfree⟩,hK⟩:=h
 cases ho:run l (f+1) .imp p t with
 |none=>rw[ho]at hK;exact hK.elim
 |some r =>
 rw[ho]at hK
 rw[run]at ho
 simp only[eT]at ho
 have hpre':=hpre
 obtain⟨hne,htb,ht,hp,hl,hgl,hgt⟩:=hpre
 have hid:=glq hg
 have htbl:=glq htb
 have f1:=cK hid
 have f2:=cK htbl
 have hl5:l.length≤100000:=Xa
 have i1:=@Int.natCast_nonneg
 have hne':(id=tb)=False:=eq_false hne
 have hnx:∀ X Y,H.nx≤((H.set id X).set tb Y).nx:=fun X Y=>nrq _
 refine ACallsP.fS az (tCq h_zOr (tCq iu (tCq h_zImp (tCq gW tNq)))) Tryz.func187 [.tmp 2] (T:=ay []) (h:=fun hcl=>?_)
 obtain⟨hgi,hgt',hsi,hcl2,hst⟩:=iH hg hpre' hcl
 rcases bp ho with⟨q,h1,rfl⟩|⟨a,p1,t1,h1,h2⟩
 ·have hq:=bz _ h1 hgt trivial hp
  obtain⟨hq1,hq2⟩:=hq
  simp only[go_sem,hfree,f1,f2,hgi,hgt',hsi,hst,aQ,aM,aR,aU,bA,aV,bg,hne,ne_eq,hne',hl5,iNq,bj,bh,i1,Int.reduceLE,eq_self,nFq,Bool.not_true,Bool.not_false,Bool.true_and,Bool.false_and,lAq,yaz,yba,nzq,vL,hg,hpre',h1]
  intro a t' hb
  simp only[lE,go_sem,hfree,f1,f2,hgi,hgt',hsi,hst,aQ,aM,aR,aU,bA,aV,bg,hne,ne_eq,hne',hl5,iNq,bj,bh,i1,Int.reduceLE,eq_self,nFq,Bool.not_true,Bool.not_false,Bool.true_and,Bool.false_and,lAq,yaz,yba,nzq,hq1]
  exact cJ (hK a t' hb) (hnx _ _) (lRq _) (hcl2 _ _ _)
 clear ho
 obtain⟨k1,k2,k3,k4,k5,k6⟩:=bz _ h1 hgt trivial hp
 simp only[Rl.isL,Bool.false_eq_true,if_false]at k4
 have hp1:ik ((H.set id (rst m l p1 false tb t1)).set tb (.buf 7 t1.length)) id tb l p1 t1:=lV hpre' k2 Xa k5
 cases hs:isS l p1 [45,62]with
 |false=>
  rw[hs,if_neg (Xb)]at h2
  cases h2
  simp only[go_sem,hfree,f1,f2,hgi,hgt',hsi,hst,aQ,aM,aR,aU,bA,aV,bg,hne,ne_eq,hne',hl5,iNq,bj,bh,i1,Int.reduceLE,eq_self,nFq,Bool.not_true,Bool.not_false,Bool.true_and,Bool.false_and,lAq,yaz,yba,nzq,vL,hg,hpre',h1,k2,hs,if_false]
  exact V68
 |true=>
  rw[hs,if_pos rfl]at h2
  have hlt1:=dT hs
  have hp2:ik ((H.set id (rst m l (p1+1) false tb t1)).set tb (.buf 7 t1.length)) id tb l (p1+1) t1:=lV hpre' hlt1 Xa k5
  rcases bp h2 with⟨q,h3,rfl⟩|⟨b,p2,t2,h3,h4⟩
  ·obtain⟨hq1,hq2⟩:=bz _ h3 k5 trivial hlt1
   simp only[go_sem,hfree,f1,f2,hgi,hgt',hsi,hst,aQ,aM,aR,aU,bA,aV,bg,hne,ne_eq,hne',hl5,iNq,bj,bh,i1,Int.reduceLE,eq_self,nFq,Bool.not_true,Bool.not_false,Bool.true_and,Bool.false_and,lAq,yaz,yba,nzq,vL,ky,hg,hpre',h1,k2,hs,if_true,hp2,h3]
   intro b t' hb
   have ht2:t'.length≤100000:=Xa
   simp only[lE,go_sem,hfree,f1,f2,hgi,hgt',hsi,hst,aQ,aM,aR,aU,bA,aV,bg,hne,ne_eq,hne',hl5,iNq,bj,bh,i1,Int.reduceLE,eq_self,nFq,Bool.not_true,Bool.not_false,Bool.true_and,Bool.false_and,lAq,yaz,yba,nzq,hq1,ht2]
   have hK':=hK t'.length (t'++[⟨16,a,b,[],[],0⟩]) Xd
   have hc3:=hcl2 q true (t'++[⟨16,a,b,[],[],0⟩])
   exact V62
  cases h4
  obtain⟨k1b,k2b,k3b,k4b,k5b,k6b⟩:=bz _ h3 k5 trivial hlt1
  simp only[Rl.isL,Bool.false_eq_true,if_false]at k4b
  have ht2:t2.length≤100000:=Xa
  simp only[go_sem,hfree,f1,f2,hgi,hgt',hsi,hst,aQ,aM,aR,aU,bA,aV,bg,hne,ne_eq,hne',hl5,iNq,bj,bh,i1,Int.reduceLE,eq_self,nFq,Bool.not_true,Bool.not_false,Bool.true_and,Bool.false_and,lAq,yaz,yba,nzq,vL,ky,hg,hpre',h1,k2,hs,if_true,hp2,h3,ht2,nd2]
  have hc3:=hcl2 p2 false (t2++[⟨16,a,b,[],[],0⟩])
  exact V58
theorem Pe{l:List Tok}{p:Nat}{s s':List UInt8}(h:isS l p s=true)(h':isS l p s'=true):s=s':=by
 unfold isS at h h'
 split at h
 ·rename_i k x z e
  rw[e]at h'
  simp only[Bool.and_eq_true,beq_iff_eq]at h h'
  rw[← h.2,h'.2]
 ·cases h
theorem F9{m:Mark}{l:List Tok}{p tb:Nat}{b:Bool}{t:List Nd}:rst m l p b tb t=.cells [.slice m 3 (dN l),.int .i64 (p:Int),.bool b,.slice (.own tb) 7 (nds t)]:=rfl
theorem QR{A:Prop}{f:Nat}(h_zAnd:EntOk Tryz.prog 218 (Ent.some (qr A f))):EntOk Tryz.prog 206 (Ent.some (vL A (f+1))):=by
 refine EntOk.some fun args H K h=>?_
 unfold vL bg at h
 split at h<;>try exact h.elim
 rename_i id
 obtain⟨m,l,p,b,tb,t,hg,⟨rfl,hpre,hfree⟩,hK⟩:=h
 cases ho:run l (f+1) .or p t with
 |none=>rw[ho]at hK;exact hK.elim
 |some r =>
 rw[ho]at hK
 rw[run]at ho
 simp only[eT]at ho
 have hpre':=hpre
 obtain⟨hne,htb,ht,hp,hl,hgl,hgt⟩:=hpre
 have hid:=glq hg
 have htbl:=glq htb
 have f1:=cK hid
 have f2:=cK htbl
 have hl5:l.length≤100000:=Xa
 have i1:=@Int.natCast_nonneg
 have hne':(id=tb)=False:=eq_false hne
 have hnx:∀ X Y,H.nx≤((H.set id X).set tb Y).nx:=fun X Y=>nrq _
 refine ACallsP.fS az (tCq h_zAnd (tCq iu (tCq gW tNq))) Tryz.func206 [.tmp 2] (T:=ay []) (h:=fun hcl=>?_)
 obtain⟨hgi,hgt',hsi,hcl2,hst⟩:=iH hg hpre' hcl
 rcases bp ho with⟨q,h1,hrq⟩|⟨a,p1,t1,h1,h2⟩
 case' inl =>
  obtain⟨hq1,hq2⟩:=bz _ h1 hgt trivial hp
  refine T23 ?_
  intro a t' hb
  refine T13 ?_
  refine aA (A:=Nat × Nat × Nat × List Nd × Bool) (fun x=>[(0,.ptr id 0),(3,.int .i64 (x.2.1:Int))]) (fun x=>(H.set id (rst m l x.2.2.1 x.2.2.2.2 tb x.2.2.2.1)).set tb (.buf 7 x.2.2.2.1.length)) (fun x=>(x.2.2.2.2=false∧x.1≤f∧run l x.1 (.orL x.2.1) x.2.2.1 x.2.2.2.1=some r∧x.2.2.1≤l.length∧x.2.2.2.1.length≤x.2.2.1∧Good x.2.2.2.1∧x.2.1<x.2.2.2.1.length∧x.2.2.2.1.length+p≤t.length+x.2.2.1)∨(x.2.2.2.2=true∧r=.bad x.2.2.1∧x.2.2.1≤l.length∧x.2.2.2.1.length+p≤t.length+x.2.2.1)) (fun x=>if x.2.2.2.2 then 0 else x.1+1) (0,a,q,t',true) (.inr ⟨rfl,hrq,hq1,hb⟩) ?_ ?_
  ·exact Z33
 case' inr =>
  clear ho
  obtain⟨k1,k2,k3,k4,k5,k6⟩:=bz _ h1 hgt trivial hp
  simp only[Rl.isL,Bool.false_eq_true,if_false]at k4
  refine T23 ?_
  refine aA (A:=Nat × Nat × Nat × List Nd × Bool) (fun x=>[(0,.ptr id 0),(3,.int .i64 (x.2.1:Int))]) (fun x=>(H.set id (rst m l x.2.2.1 x.2.2.2.2 tb x.2.2.2.1)).set tb (.buf 7 x.2.2.2.1.length)) (fun x=>(x.2.2.2.2=false∧x.1≤f∧run l x.1 (.orL x.2.1) x.2.2.1 x.2.2.2.1=some r∧x.2.2.1≤l.length∧x.2.2.2.1.length≤x.2.2.1∧Good x.2.2.2.1∧x.2.1<x.2.2.2.1.length∧x.2.2.2.1.length+p≤t.length+x.2.2.1)∨(x.2.2.2.2=true∧r=.bad x.2.2.1∧x.2.2.1≤l.length∧x.2.2.2.1.length+p≤t.length+x.2.2.1)) (fun x=>if x.2.2.2.2 then 0 else x.1+1) (f,a,p1,t1,false) (.inl ⟨rfl,nrq _,h2,k2,(by show t1.length≤p1;omega),k5,k1,k3⟩) ?_ ?_
  ·exact Z33
 all_goals
  clear h1
  intro x hx
  obtain⟨g,a',p',t',bd⟩:=x
  rcases hx with⟨hbd,x1,x2,x3,x4,x5,x6,x7⟩|⟨hbd,x1,x3,x7⟩
  ·dsimp only at hbd x1 x2 x3 x4 x5 x6 x7 ⊢
   subst hbd
   have ht':t'.length≤100000:=Xa
   cases g with
   |zero=>cases x2
   |succ g =>
   rw[run]at x2
   simp only[eT]at x2
   cases hs:isS l p' [124,124]with
   |false=>
    exact V45
   |true=>
    rw[hs,if_pos rfl]at x2
    have hlt1:=dT hs
    have hp2:ik ((H.set id (rst m l (p'+1) false tb t')).set tb (.buf 7 t'.length)) id tb l (p'+1) t':=lV hpre' hlt1 Xa x5
    rcases bp x2 with⟨q2,h3,hr2⟩|⟨b,p2,t2,h3,h4⟩
    ·have h3':=dt (show g≤f by omega) h3
     obtain⟨hq3,hq4⟩:=bz _ h3 x5 trivial hlt1
     simp only[go_sem,hfree,f1,f2,hgi,hgt',hsi,hst,aQ,aM,aR,aU,bA,aV,bg,hne,ne_eq,hne',hl5,iNq,bj,bh,i1,Int.reduceLE,eq_self,nFq,Bool.not_true,Bool.not_false,Bool.true_and,Bool.false_and,lAq,yaz,yba,nzq,qr,x3,hs,if_true,hp2,h3']
     intro b t2 hb2
     have ht2:t2.length≤100000:=Xa
     refine T4 ?_
     have hc3:=hcl2 q2 true (t2++[⟨15,a',b,[],[],0⟩])
     refine⟨(0,t2.length,q2,t2++[⟨15,a',b,[],[],0⟩],true),.inr ⟨rfl,hr2,hq3,Xd⟩,Xb,?_⟩
     exact V56
    ·have h3':=dt (show g≤f by omega) h3
     obtain⟨k1b,k2b,k3b,k4b,k5b,k6b⟩:=bz _ h3 x5 trivial hlt1
     simp only[Rl.isL,Bool.false_eq_true,if_false]at k4b
     have ht2:t2.length≤100000:=Xa
     simp only[go_sem,hfree,f1,f2,hgi,hgt',hsi,hst,aQ,aM,aR,aU,bA,aV,bg,hne,ne_eq,hne',hl5,iNq,bj,bh,i1,Int.reduceLE,eq_self,nFq,Bool.not_true,Bool.not_false,Bool.true_and,Bool.false_and,lAq,yaz,yba,nzq,qr,x3,hs,if_true,hp2,h3',ht2]
     have hc3:=hcl2 p2 false (t2++[⟨15,a',b,[],[],0⟩])
     refine⟨(g,t2.length,p2,t2++[⟨15,a',b,[],[],0⟩],false),.inl ⟨rfl,Xf,h4,k2b,Xd,k5b.snoc ⟨(show 1≤15 by decide),(show 15≤16 by decide)⟩ (show(0:Nat)<2^128 by decide) (.inr ⟨Xm,Xm⟩),Xb,Xd⟩,Xb,?_⟩
     exact V56
  ·exact V21
theorem PE{A:Prop}{f:Nat}(h_zNot:EntOk Tryz.prog 222 (Ent.some (mB A f))):EntOk Tryz.prog 218 (Ent.some (qr A (f+1))):=by
 refine EntOk.some fun args H K h=>?_
 unfold qr bg at h
 split at h<;>try exact h.elim
 rename_i id
 obtain⟨m,l,p,b,tb,t,hg,⟨rfl,hpre,hfree⟩,hK⟩:=h
 cases ho:run l (f+1) .and p t with
 |none=>rw[ho]at hK;exact hK.elim
 |some r =>
 rw[ho]at hK
 rw[run]at ho
 simp only[eT]at ho
 have hpre':=hpre
 obtain⟨hne,htb,ht,hp,hl,hgl,hgt⟩:=hpre
 have hid:=glq hg
 have htbl:=glq htb
 have f1:=cK hid
 have f2:=cK htbl
 have hl5:l.length≤100000:=Xa
 have i1:=@Int.natCast_nonneg
 have hne':(id=tb)=False:=eq_false hne
 have hnx:∀ X Y,H.nx≤((H.set id X).set tb Y).nx:=fun X Y=>nrq _
 refine ACallsP.fS az (tCq h_zNot (tCq iu (tCq gW tNq))) Tryz.func218 [.tmp 2] (T:=ay []) (h:=fun hcl=>?_)
 obtain⟨hgi,hgt',hsi,hcl2,hst⟩:=iH hg hpre' hcl
 rcases bp ho with⟨q,h1,hrq⟩|⟨a,p1,t1,h1,h2⟩
 case' inl =>
  obtain⟨hq1,hq2⟩:=bz _ h1 hgt trivial hp
  refine T26 ?_
  intro a t' hb
  refine T13 ?_
  refine aA (A:=Nat × Nat × Nat × List Nd × Bool) (fun x=>[(0,.ptr id 0),(3,.int .i64 (x.2.1:Int))]) (fun x=>(H.set id (rst m l x.2.2.1 x.2.2.2.2 tb x.2.2.2.1)).set tb (.buf 7 x.2.2.2.1.length)) (fun x=>(x.2.2.2.2=false∧x.1≤f∧run l x.1 (.andL x.2.1) x.2.2.1 x.2.2.2.1=some r∧x.2.2.1≤l.length∧x.2.2.2.1.length≤x.2.2.1∧Good x.2.2.2.1∧x.2.1<x.2.2.2.1.length∧x.2.2.2.1.length+p≤t.length+x.2.2.1)∨(x.2.2.2.2=true∧r=.bad x.2.2.1∧x.2.2.1≤l.length∧x.2.2.2.1.length+p≤t.length+x.2.2.1)) (fun x=>if x.2.2.2.2 then 0 else x.1+1) (0,a,q,t',true) (.inr ⟨rfl,hrq,hq1,hb⟩) ?_ ?_
  ·exact Z33
 case' inr =>
  clear ho
  obtain⟨k1,k2,k3,k4,k5,k6⟩:=bz _ h1 hgt trivial hp
  simp only[Rl.isL,Bool.false_eq_true,if_false]at k4
  refine T26 ?_
  refine aA (A:=Nat × Nat × Nat × List Nd × Bool) (fun x=>[(0,.ptr id 0),(3,.int .i64 (x.2.1:Int))]) (fun x=>(H.set id (rst m l x.2.2.1 x.2.2.2.2 tb x.2.2.2.1)).set tb (.buf 7 x.2.2.2.1.length)) (fun x=>(x.2.2.2.2=false∧x.1≤f∧run l x.1 (.andL x.2.1) x.2.2.1 x.2.2.2.1=some r∧x.2.2.1≤l.length∧x.2.2.2.1.length≤x.2.2.1∧Good x.2.2.2.1∧x.2.1<x.2.2.2.1.length∧x.2.2.2.1.length+p≤t.length+x.2.2.1)∨(x.2.2.2.2=true∧r=.bad x.2.2.1∧x.2.2.1≤l.length∧x.2.2.2.1.length+p≤t.length+x.2.2.1)) (fun x=>if x.2.2.2.2 then 0 else x.1+1) (f,a,p1,t1,false) (.inl ⟨rfl,nrq _,h2,k2,(by show t1.length≤p1;omega),k5,k1,k3⟩) ?_ ?_
  ·exact Z33
 all_goals
  clear h1
  intro x hx
  obtain⟨g,a',p',t',bd⟩:=x
  rcases hx with⟨hbd,x1,x2,x3,x4,x5,x6,x7⟩|⟨hbd,x1,x3,x7⟩
  ·dsimp only at hbd x1 x2 x3 x4 x5 x6 x7 ⊢
   subst hbd
   have ht':t'.length≤100000:=Xa
   cases g with
   |zero=>cases x2
   |succ g =>
   rw[run]at x2
   simp only[eT]at x2
   cases hs:isS l p' [38,38]with
   |false=>
    exact V45
   |true=>
    rw[hs,if_pos rfl]at x2
    have hlt1:=dT hs
    have hp2:ik ((H.set id (rst m l (p'+1) false tb t')).set tb (.buf 7 t'.length)) id tb l (p'+1) t':=lV hpre' hlt1 Xa x5
    rcases bp x2 with⟨q2,h3,hr2⟩|⟨b,p2,t2,h3,h4⟩
    ·have h3':=dt (show g≤f by omega) h3
     obtain⟨hq3,hq4⟩:=bz _ h3 x5 trivial hlt1
     simp only[go_sem,hfree,f1,f2,hgi,hgt',hsi,hst,aQ,aM,aR,aU,bA,aV,bg,hne,ne_eq,hne',hl5,iNq,bj,bh,i1,Int.reduceLE,eq_self,nFq,Bool.not_true,Bool.not_false,Bool.true_and,Bool.false_and,lAq,yaz,yba,nzq,mB,x3,hs,if_true,hp2,h3']
     intro b t2 hb2
     have ht2:t2.length≤100000:=Xa
     refine T4 ?_
     have hc3:=hcl2 q2 true (t2++[⟨14,a',b,[],[],0⟩])
     refine⟨(0,t2.length,q2,t2++[⟨14,a',b,[],[],0⟩],true),.inr ⟨rfl,hr2,hq3,Xd⟩,Xb,?_⟩
     exact V56
    ·have h3':=dt (show g≤f by omega) h3
     obtain⟨k1b,k2b,k3b,k4b,k5b,k6b⟩:=bz _ h3 x5 trivial hlt1
     simp only[Rl.isL,Bool.false_eq_true,if_false]at k4b
     have ht2:t2.length≤100000:=Xa
     simp only[go_sem,hfree,f1,f2,hgi,hgt',hsi,hst,aQ,aM,aR,aU,bA,aV,bg,hne,ne_eq,hne',hl5,iNq,bj,bh,i1,Int.reduceLE,eq_self,nFq,Bool.not_true,Bool.not_false,Bool.true_and,Bool.false_and,lAq,yaz,yba,nzq,mB,x3,hs,if_true,hp2,h3',ht2]
     have hc3:=hcl2 p2 false (t2++[⟨14,a',b,[],[],0⟩])
     refine⟨(g,t2.length,p2,t2++[⟨14,a',b,[],[],0⟩],false),.inl ⟨rfl,Xf,h4,k2b,Xd,k5b.snoc ⟨(show 1≤14 by decide),(show 14≤16 by decide)⟩ (show(0:Nat)<2^128 by decide) (.inr ⟨Xm,Xm⟩),Xb,Xd⟩,Xb,?_⟩
     exact V56
  ·exact V21
theorem Oq{A:Prop}{f:Nat}(h_zUn:EntOk Tryz.prog 231 (Ent.some (ny A f))):EntOk Tryz.prog 228 (Ent.some (pZ A (f+1))):=by
 refine EntOk.some fun args H K h=>?_
 unfold pZ bg at h
 split at h<;>try exact h.elim
 rename_i id
 obtain⟨m,l,p,b,tb,t,hg,⟨rfl,hpre,hfree⟩,hK⟩:=h
 cases ho:run l (f+1) .sum p t with
 |none=>rw[ho]at hK;exact hK.elim
 |some r =>
 rw[ho]at hK
 rw[run]at ho
 simp only[eT]at ho
 have hpre':=hpre
 obtain⟨hne,htb,ht,hp,hl,hgl,hgt⟩:=hpre
 have hid:=glq hg
 have htbl:=glq htb
 have f1:=cK hid
 have f2:=cK htbl
 have hl5:l.length≤100000:=Xa
 have i1:=@Int.natCast_nonneg
 have hne':(id=tb)=False:=eq_false hne
 have hnx:∀ X Y,H.nx≤((H.set id X).set tb Y).nx:=fun X Y=>nrq _
 refine ACallsP.fS az (tCq h_zUn (tCq Cw (tCq gW tNq))) Tryz.func228 [.tmp 2] (T:=ay []) (h:=fun hcl=>?_)
 obtain⟨hgi,hgt',hsi,hcl2,hst⟩:=iH hg hpre' hcl
 rcases bp ho with⟨q,h1,hrq⟩|⟨a,p1,t1,h1,h2⟩
 case' inl =>
  obtain⟨hq1,hq2⟩:=bz _ h1 hgt trivial hp
  refine T25 ?_
  intro a t' hb
  refine T13 ?_
  refine aA (A:=Nat × Nat × Nat × List Nd × Bool) (fun x=>[(0,.ptr id 0),(3,.int .i64 (x.2.1:Int))]) (fun x=>(H.set id (rst m l x.2.2.1 x.2.2.2.2 tb x.2.2.2.1)).set tb (.buf 7 x.2.2.2.1.length)) (fun x=>(x.2.2.2.2=false∧x.1≤f∧run l x.1 (.sumL x.2.1) x.2.2.1 x.2.2.2.1=some r∧x.2.2.1≤l.length∧x.2.2.2.1.length≤x.2.2.1∧Good x.2.2.2.1∧x.2.1<x.2.2.2.1.length∧x.2.2.2.1.length+p≤t.length+x.2.2.1)∨(x.2.2.2.2=true∧r=.bad x.2.2.1∧x.2.2.1≤l.length∧x.2.2.2.1.length+p≤t.length+x.2.2.1)) (fun x=>if x.2.2.2.2 then 0 else x.1+1) (0,a,q,t',true) (.inr ⟨rfl,hrq,hq1,hb⟩) ?_ ?_
  ·exact Z33
 case' inr =>
  clear ho
  obtain⟨k1,k2,k3,k4,k5,k6⟩:=bz _ h1 hgt trivial hp
  simp only[Rl.isL,Bool.false_eq_true,if_false]at k4
  refine T25 ?_
  refine aA (A:=Nat × Nat × Nat × List Nd × Bool) (fun x=>[(0,.ptr id 0),(3,.int .i64 (x.2.1:Int))]) (fun x=>(H.set id (rst m l x.2.2.1 x.2.2.2.2 tb x.2.2.2.1)).set tb (.buf 7 x.2.2.2.1.length)) (fun x=>(x.2.2.2.2=false∧x.1≤f∧run l x.1 (.sumL x.2.1) x.2.2.1 x.2.2.2.1=some r∧x.2.2.1≤l.length∧x.2.2.2.1.length≤x.2.2.1∧Good x.2.2.2.1∧x.2.1<x.2.2.2.1.length∧x.2.2.2.1.length+p≤t.length+x.2.2.1)∨(x.2.2.2.2=true∧r=.bad x.2.2.1∧x.2.2.1≤l.length∧x.2.2.2.1.length+p≤t.length+x.2.2.1)) (fun x=>if x.2.2.2.2 then 0 else x.1+1) (f,a,p1,t1,false) (.inl ⟨rfl,nrq _,h2,k2,(by show t1.length≤p1;omega),k5,k1,k3⟩) ?_ ?_
  ·exact Z33
 all_goals
  clear h1
  intro x hx
  obtain⟨g,a',p',t',bd⟩:=x
  rcases hx with⟨hbd,x1,x2,x3,x4,x5,x6,x7⟩|⟨hbd,x1,x3,x7⟩
  ·dsimp only at hbd x1 x2 x3 x4 x5 x6 x7 ⊢
   subst hbd
   have ht':t'.length≤100000:=Xa
   cases g with
   |zero=>cases x2
   |succ g =>
   rw[run]at x2
   simp only[eT]at x2
   have e1:IntKind.i64.wrap ((p':Int)+1)=((p'+1:Nat):Int):=Xe
   have hcc:∀ X Y,aK ((H.set id (.cells X)).set tb Y) id=some X:=fun X Y=>by rw[cR hne,fx hid,if_pos rfl]
   cases hs:iZ l p' opsS with
   |none =>
    rw[hs]at x2
    dsimp only at x2
    rw[← x2,aR]at hK
    have hs1:isS l p' [43]=false:=by
     cases h:isS l p' [43]with
     |false=>rfl
     |true=>simp[iZ,opsS,h]at hs
    have hs2:isS l p' [45]=false:=by
     cases h:isS l p' [45]with
     |false=>rfl
     |true=>simp[iZ,opsS,hs1,h]at hs
    simp only[go_sem,hfree,f1,f2,hgi,hgt',hsi,hst,aQ,aM,aR,aU,bA,aV,bg,hne,ne_eq,hne',hl5,iNq,bj,bh,i1,Int.reduceLE,eq_self,nFq,Bool.not_true,Bool.not_false,Bool.true_and,Bool.false_and,lAq,yaz,yba,nzq,x3,hs1,hs2,Bool.and_false]
    exact V68
   |some op =>
    rw[hs]at x2
    dsimp only at x2
    obtain⟨hlt1,so,hso⟩:=jo hs
    obtain⟨o1,o2⟩:=sT hso
    have hp2:ik ((H.set id (rst m l (p'+1) false tb t')).set tb (.buf 7 t'.length)) id tb l (p'+1) t':=lV hpre' hlt1 Xa x5
    have hcases:(isS l p' [43]=true∧isS l p' [45]=false∧op=6)∨(isS l p' [43]=false∧isS l p' [45]=true∧op=7):=by
     cases h1:isS l p' [43]with
     |true=>
      left
      simp only[iZ,opsS,h1,if_true]at hs
      cases hs
      refine⟨rfl,?_,rfl⟩
      cases h2:isS l p' [45]with
      |false=>rfl
      |true=>exact absurd (Pe h1 h2) Xc
     |false=>
      right
      cases h2:isS l p' [45]with
      |false=>simp[iZ,opsS,h1,h2]at hs
      |true=>simp[iZ,opsS,h1,h2]at hs;exact⟨rfl,rfl,hs.symm⟩
    rcases hcases with⟨hs1,hs2,hop⟩|⟨hs1,hs2,hop⟩
    all_goals
     subst hop
     rcases bp x2 with⟨q2,h3,hr2⟩|⟨b,p2,t2,h3,h4⟩
     ·have h3':=dt (show g≤f by omega) h3
      obtain⟨hq3,hq4⟩:=bz _ h3 x5 trivial hlt1
      refine T19 ?_
      simp only[← F9,go_sem,hfree,f1,f2,hgi,hgt',hsi,hst,aQ,aM,aR,aU,bA,aV,bg,hne,ne_eq,hne',hl5,iNq,bj,bh,i1,Int.reduceLE,eq_self,nFq,Bool.not_true,Bool.not_false,Bool.true_and,Bool.false_and,lAq,yaz,yba,nzq,ny,hp2,h3']
      intro b t2 hb2
      have ht2:t2.length≤100000:=Xa
      refine T4 ?_
      first
      |(have hc3:=hcl2 q2 true (t2++[⟨6,a',b,[],[],0⟩])
        refine⟨(0,t2.length,q2,t2++[⟨6,a',b,[],[],0⟩],true),.inr ⟨rfl,hr2,hq3,Xd⟩,Xb,?_⟩
        simp only[lAq,yaz,yba,nzq]at hc3 ⊢
        (simp only[bkq,enterW,aJ,ltF,ne_eq,Nat.reduceEqDiff,reduceCtorEq,hc3,hid];try simp (disch:=first|exact Zd|omega) [↓zmo,beq,ybc,ybd,ybe,af,wk,wk2,wk1,wkM,wkL,aj,ybf,byq,biq,ah,hcl,hc3,hid];try(repeat' (first|assumption|omega|exact True.intro|refine And.intro ?_ ?_|refine ag ?_|refine ae ?_|refine aa ?_ ?_|refine ai ?_ ?_|refine au ?_|exact lRq _|refine lPq ?_ _|refine AHeap.Le.del ?_ ?_|(simp only[bt,and_true,true_and,hc3,hid];first|done|omega|(simp;done)))))
        done)
      |(have hc3:=hcl2 q2 true (t2++[⟨7,a',b,[],[],0⟩])
        refine⟨(0,t2.length,q2,t2++[⟨7,a',b,[],[],0⟩],true),.inr ⟨rfl,hr2,hq3,Xd⟩,Xb,?_⟩
        simp only[lAq,yaz,yba,nzq]at hc3 ⊢
        (simp only[bkq,enterW,aJ,ltF,ne_eq,Nat.reduceEqDiff,reduceCtorEq,hc3,hid];try simp (disch:=first|exact Zd|omega) [↓zmo,beq,ybc,ybd,ybe,af,wk,wk2,wk1,wkM,wkL,aj,ybf,byq,biq,ah,hcl,hc3,hid];try(repeat' (first|assumption|omega|exact True.intro|refine And.intro ?_ ?_|refine ag ?_|refine ae ?_|refine aa ?_ ?_|refine ai ?_ ?_|refine au ?_|exact lRq _|refine lPq ?_ _|refine AHeap.Le.del ?_ ?_|(simp only[bt,and_true,true_and,hc3,hid];first|done|omega|(simp;done)))))
        done)
     ·have h3':=dt (show g≤f by omega) h3
      obtain⟨k1b,k2b,k3b,k4b,k5b,k6b⟩:=bz _ h3 x5 trivial hlt1
      simp only[Rl.isL,Bool.false_eq_true,if_false]at k4b
      have ht2:t2.length≤100000:=Xa
      refine T19 ?_
      simp only[← F9,go_sem,hfree,f1,f2,hgi,hgt',hsi,hst,aQ,aM,aR,aU,bA,aV,bg,hne,ne_eq,hne',hl5,iNq,bj,bh,i1,Int.reduceLE,eq_self,nFq,Bool.not_true,Bool.not_false,Bool.true_and,Bool.false_and,lAq,yaz,yba,nzq,ny,hp2,h3',ht2]
      first
      |(have hc3:=hcl2 p2 false (t2++[⟨6,a',b,[],[],0⟩])
        refine⟨(g,t2.length,p2,t2++[⟨6,a',b,[],[],0⟩],false),.inl ⟨rfl,Xf,h4,k2b,Xd,k5b.snoc ⟨(show 1≤6 by decide),(show 6≤16 by decide)⟩ (show(0:Nat)<2^128 by decide) (.inr ⟨Xm,Xm⟩),Xb,Xd⟩,Xb,?_⟩
        simp only[lAq,yaz,yba,nzq]at hc3 ⊢
        (simp only[bkq,enterW,aJ,ltF,ne_eq,Nat.reduceEqDiff,reduceCtorEq,hc3,hid];try simp (disch:=first|exact Zd|omega) [↓zmo,beq,ybc,ybd,ybe,af,wk,wk2,wk1,wkM,wkL,aj,ybf,byq,biq,ah,hcl,hc3,hid];try(repeat' (first|assumption|omega|exact True.intro|refine And.intro ?_ ?_|refine ag ?_|refine ae ?_|refine aa ?_ ?_|refine ai ?_ ?_|refine au ?_|exact lRq _|refine lPq ?_ _|refine AHeap.Le.del ?_ ?_|(simp only[bt,and_true,true_and,hc3,hid];first|done|omega|(simp;done)))))
        done)
      |(have hc3:=hcl2 p2 false (t2++[⟨7,a',b,[],[],0⟩])
        refine⟨(g,t2.length,p2,t2++[⟨7,a',b,[],[],0⟩],false),.inl ⟨rfl,Xf,h4,k2b,Xd,k5b.snoc ⟨(show 1≤7 by decide),(show 7≤16 by decide)⟩ (show(0:Nat)<2^128 by decide) (.inr ⟨Xm,Xm⟩),Xb,Xd⟩,Xb,?_⟩
        simp only[lAq,yaz,yba,nzq]at hc3 ⊢
        (simp only[bkq,enterW,aJ,ltF,ne_eq,Nat.reduceEqDiff,reduceCtorEq,hc3,hid];try simp (disch:=first|exact Zd|omega) [↓zmo,beq,ybc,ybd,ybe,af,wk,wk2,wk1,wkM,wkL,aj,ybf,byq,biq,ah,hcl,hc3,hid];try(repeat' (first|assumption|omega|exact True.intro|refine And.intro ?_ ?_|refine ag ?_|refine ae ?_|refine aa ?_ ?_|refine ai ?_ ?_|refine au ?_|exact lRq _|refine lPq ?_ _|refine AHeap.Le.del ?_ ?_|(simp only[bt,and_true,true_and,hc3,hid];first|done|omega|(simp;done)))))
        done)
  ·exact V21
theorem Pq{A:Prop}{f:Nat}(h_zNot:EntOk Tryz.prog 222 (Ent.some (mB A f)))(h_zCmp:EntOk Tryz.prog 224 (Ent.some (xr A f))):EntOk Tryz.prog 222 (Ent.some (mB A (f+1))):=by
 refine EntOk.some fun args H K h=>?_
 unfold mB bg at h
 split at h<;>try exact h.elim
 rename_i id
 obtain⟨m,l,p,b,tb,t,hg,⟨rfl,hpre,hfree⟩,hK⟩:=h
 cases ho:run l (f+1) .not p t with
 |none=>rw[ho]at hK;exact hK.elim
 |some r =>
 rw[ho]at hK
 rw[run]at ho
 simp only[eT]at ho
 have hpre':=hpre
 obtain⟨hne,htb,ht,hp,hl,hgl,hgt⟩:=hpre
 have hid:=glq hg
 have htbl:=glq htb
 have f1:=cK hid
 have f2:=cK htbl
 have hl5:l.length≤100000:=Xa
 have i1:=@Int.natCast_nonneg
 have hne':(id=tb)=False:=eq_false hne
 have hnx:∀ X Y,H.nx≤((H.set id X).set tb Y).nx:=fun X Y=>nrq _
 refine ACallsP.fS az (tCq iu (tCq h_zNot (tCq gW (tCq h_zCmp tNq)))) Tryz.func222 [.tmp 2] (T:=ay []) (h:=fun hcl=>?_)
 obtain⟨hgi,hgt',hsi,hcl2,hst⟩:=iH hg hpre' hcl
 have hgi1:∀ X,(H.set id X).get id=some X:=fun X=>AHeap.get_set_same _ _ hid
 have hss:∀ X Y,(H.set id X).set id Y=H.set id Y:=fun X Y=>by simp only[AHeap.set];congr 1;funext k;by_cases hk:k=id<;>simp[hk]
 cases hs:isS l p [33]with
 |false=>
  rw[hs,if_neg (Xb)]at ho
  simp only[go_sem,hfree,f1,f2,hgi,hgt',hsi,hst,aQ,aM,aR,aU,bA,aV,bg,hne,ne_eq,hne',hl5,iNq,bj,bh,i1,Int.reduceLE,eq_self,nFq,Bool.not_true,Bool.not_false,Bool.true_and,Bool.false_and,lAq,yaz,yba,nzq,xr,hg,hp,hs,if_false,hpre',ho]
  exact V16
 |true=>
  rw[hs,if_pos rfl]at ho
  have hlt1:=dT hs
  have hp2:ik (H.set id (rst m l (p+1) false tb t)) id tb l (p+1) t:=lS hpre' hlt1 Xa
  rcases bp ho with⟨q,h3,rfl⟩|⟨b,p2,t2,h3,h4⟩
  ·obtain⟨hq3,hq4⟩:=bz _ h3 hgt trivial hlt1
   rw[aM]at hK
   simp only[go_sem,hfree,f1,f2,hgi,hgt',hsi,hst,aQ,aM,aR,aU,bA,aV,bg,hne,ne_eq,hne',hl5,iNq,bj,bh,i1,Int.reduceLE,eq_self,nFq,Bool.not_true,Bool.not_false,Bool.true_and,Bool.false_and,lAq,yaz,yba,nzq,mB,hg,hp,hs,if_true,hgi1,hss,hp2,h3]
   intro b t' hb
   have ht2:t'.length≤100000:=Xa
   refine T4 ?_
   have hK':=hK t'.length (t'++[⟨5,b,0,[],[],0⟩]) Xd
   have hc3:=hcl2 q true (t'++[⟨5,b,0,[],[],0⟩])
   exact V62
  cases h4
  obtain⟨k1b,k2b,k3b,k4b,k5b,k6b⟩:=bz _ h3 hgt trivial hlt1
  simp only[Rl.isL,Bool.false_eq_true,if_false]at k4b
  have ht2:t2.length≤100000:=Xa
  simp only[go_sem,hfree,f1,f2,hgi,hgt',hsi,hst,aQ,aM,aR,aU,bA,aV,bg,hne,ne_eq,hne',hl5,iNq,bj,bh,i1,Int.reduceLE,eq_self,nFq,Bool.not_true,Bool.not_false,Bool.true_and,Bool.false_and,lAq,yaz,yba,nzq,mB,hg,hp,hs,if_true,hgi1,hss,hp2,h3,ht2,nd2]
  have hc3:=hcl2 p2 false (t2++[⟨5,b,0,[],[],0⟩])
  exact V58
theorem QZ{A:Prop}{f:Nat}(h_zUn:EntOk Tryz.prog 231 (Ent.some (ny A f)))(h_zAtom:EntOk Tryz.prog 233 (Ent.some (tn A f))):EntOk Tryz.prog 231 (Ent.some (ny A (f+1))):=by
 refine EntOk.some fun args H K h=>?_
 unfold ny bg at h
 split at h<;>try exact h.elim
 rename_i id
 obtain⟨m,l,p,b,tb,t,hg,⟨rfl,hpre,hfree⟩,hK⟩:=h
 cases ho:run l (f+1) .un p t with
 |none=>rw[ho]at hK;exact hK.elim
 |some r =>
 rw[ho]at hK
 rw[run]at ho
 simp only[eT]at ho
 have hpre':=hpre
 obtain⟨hne,htb,ht,hp,hl,hgl,hgt⟩:=hpre
 have hid:=glq hg
 have htbl:=glq htb
 have f1:=cK hid
 have f2:=cK htbl
 have hl5:l.length≤100000:=Xa
 have i1:=@Int.natCast_nonneg
 have hne':(id=tb)=False:=eq_false hne
 have hnx:∀ X Y,H.nx≤((H.set id X).set tb Y).nx:=fun X Y=>nrq _
 refine ACallsP.fS az (tCq iu (tCq h_zUn (tCq gW (tCq h_zAtom tNq)))) Tryz.func231 [.tmp 2] (T:=ay []) (h:=fun hcl=>?_)
 obtain⟨hgi,hgt',hsi,hcl2,hst⟩:=iH hg hpre' hcl
 have hgi1:∀ X,(H.set id X).get id=some X:=fun X=>AHeap.get_set_same _ _ hid
 have hss:∀ X Y,(H.set id X).set id Y=H.set id Y:=fun X Y=>by simp only[AHeap.set];congr 1;funext k;by_cases hk:k=id<;>simp[hk]
 cases hs:isS l p [45]with
 |false=>
  rw[hs,if_neg (Xb)]at ho
  simp only[go_sem,hfree,f1,f2,hgi,hgt',hsi,hst,aQ,aM,aR,aU,bA,aV,bg,hne,ne_eq,hne',hl5,iNq,bj,bh,i1,Int.reduceLE,eq_self,nFq,Bool.not_true,Bool.not_false,Bool.true_and,Bool.false_and,lAq,yaz,yba,nzq,tn,hg,hp,hs,if_false,hpre',ho]
  exact V16
 |true=>
  rw[hs,if_pos rfl]at ho
  have hlt1:=dT hs
  have hp2:ik (H.set id (rst m l (p+1) false tb t)) id tb l (p+1) t:=lS hpre' hlt1 Xa
  rcases bp ho with⟨q,h3,rfl⟩|⟨b,p2,t2,h3,h4⟩
  ·obtain⟨hq3,hq4⟩:=bz _ h3 hgt trivial hlt1
   rw[aM]at hK
   simp only[go_sem,hfree,f1,f2,hgi,hgt',hsi,hst,aQ,aM,aR,aU,bA,aV,bg,hne,ne_eq,hne',hl5,iNq,bj,bh,i1,Int.reduceLE,eq_self,nFq,Bool.not_true,Bool.not_false,Bool.true_and,Bool.false_and,lAq,yaz,yba,nzq,ny,hg,hp,hs,if_true,hgi1,hss,hp2,h3]
   intro b t' hb
   have ht2:t'.length≤100000:=Xa
   refine T4 ?_
   have hK':=hK t'.length (t'++[⟨4,b,0,[],[],0⟩]) Xd
   have hc3:=hcl2 q true (t'++[⟨4,b,0,[],[],0⟩])
   exact V62
  cases h4
  obtain⟨k1b,k2b,k3b,k4b,k5b,k6b⟩:=bz _ h3 hgt trivial hlt1
  simp only[Rl.isL,Bool.false_eq_true,if_false]at k4b
  have ht2:t2.length≤100000:=Xa
  simp only[go_sem,hfree,f1,f2,hgi,hgt',hsi,hst,aQ,aM,aR,aU,bA,aV,bg,hne,ne_eq,hne',hl5,iNq,bj,bh,i1,Int.reduceLE,eq_self,nFq,Bool.not_true,Bool.not_false,Bool.true_and,Bool.false_and,lAq,yaz,yba,nzq,ny,hg,hp,hs,if_true,hgi1,hss,hp2,h3,ht2,nd2]
  have hc3:=hcl2 p2 false (t2++[⟨4,b,0,[],[],0⟩])
  exact V58
theorem Ja{l:List Tok}{p k:Nat}{s:List UInt8}{r:List (Nat × List UInt8)}:iZ l p ((k,s)::r)=if isS l p s then some k else iZ l p r:=rfl
theorem MP:[AV.str [61,61],AV.str [33,61],AV.str [60],AV.str [60,61],AV.str [62],AV.str [62,61]]=sAV (opsC.map Prod.snd):=rfl
theorem GY{i:Nat}(h:i<6):∃ s,opsC.drop i=(8+i,s)::opsC.drop (i+1)∧(sAV (opsC.map Prod.snd)).getD i .junk=.str s:=by
 rcases(Xa:i=0∨i=1∨i=2∨i=3∨i=4∨i=5)with rfl|rfl|rfl|rfl|rfl|rfl
 all_goals exact⟨_,rfl,rfl⟩
theorem OQ{A:Prop}{f:Nat}(h_zSum:EntOk Tryz.prog 228 (Ent.some (pZ A f))):EntOk Tryz.prog 224 (Ent.some (xr A (f+1))):=by
 refine EntOk.some fun args H K h=>?_
 unfold xr bg at h
 split at h<;>try exact h.elim
 rename_i id
 obtain⟨m,l,p,b,tb,t,hg,⟨rfl,hpre,hfree⟩,hK⟩:=h
 cases ho:run l (f+1) .cmp p t with
 |none=>rw[ho]at hK;exact hK.elim
 |some r =>
 rw[ho]at hK
 rw[run]at ho
 simp only[eT]at ho
 have hpre':=hpre
 obtain⟨hne,htb,ht,hp,hl,hgl,hgt⟩:=hpre
 have hid:=glq hg
 have htbl:=glq htb
 have f1:=cK hid
 have f2:=cK htbl
 have hl5:l.length≤100000:=Xa
 have i1:=@Int.natCast_nonneg
 have hne':(id=tb)=False:=eq_false hne
 have hnx:∀ X Y,H.nx≤((H.set id X).set tb Y).nx:=fun X Y=>nrq _
 refine ACallsP.fS az (tCq h_zSum (tCq iu (tCq gW tNq))) Tryz.func224 [.tmp 2] (T:=ay []) (h:=fun hcl=>?_)
 obtain⟨hgi,hgt',hsi,hcl2,hst⟩:=iH hg hpre' hcl
 have hsl:(sAV (opsC.map Prod.snd)).length=6:=rfl
 rcases bp ho with⟨q,h1,rfl⟩|⟨a,p1,t1,h1,h2⟩
 ·obtain⟨hq1,hq2⟩:=bz _ h1 hgt trivial hp
  rw[aM]at hK
  refine T24 ?_
  intro a t' hb
  try simp only[lE,go_sem,hfree,f1,f2,hgi,hgt',hsi,hst,aQ,aM,aR,aU,bA,aV,bg,hne,ne_eq,hne',hl5,iNq,bj,bh,i1,Int.reduceLE,eq_self,nFq,Bool.not_true,Bool.not_false,Bool.true_and,Bool.false_and,lAq,yaz,yba,nzq,MP]
  refine aA (A:=Nat) (fun i=>[(0,.ptr id 0),(3,.int .i64 (a:Int)),(9,.slice .any 1 (sAV (opsC.map Prod.snd))),(10,.int .i64 6),(11,.int .i64 (i:Int))]) (fun _=>(H.set id (rst m l q true tb t')).set tb (.buf 7 t'.length)) (fun i=>i≤6) (fun i=>6-i) 0 Xa ?_ fun i hi=>?_
  ·exact Z35
  refine T7 ?_
  refine aq (fun hc=>?_) (fun hc=>?_)
  ·have hi6:i<6:=sHc
   obtain⟨s,e1,e2⟩:=GY hi6
   have e5:IntKind.i64.wrap ((i:Int)+1)=((i+1:Nat):Int):=Xe
   simp only[go_sem,hfree,f1,f2,hgi,hgt',hsi,hst,aQ,aM,aR,aU,bA,aV,bg,hne,ne_eq,hne',hl5,iNq,bj,bh,i1,Int.reduceLE,eq_self,nFq,Bool.not_true,Bool.not_false,Bool.true_and,Bool.false_and,lAq,yaz,yba,nzq,hsl,e2,e5,hq1,if_false]
   refine⟨Xa,i+1,Xa,Xa,?_⟩
   exact Z35
  ·refine T7 ?_
   exact cJ (hK a t' hb) (hnx _ _) (lRq _) (hcl2 _ _ _)
 clear ho
 obtain⟨k1,k2,k3,k4,k5,k6⟩:=bz _ h1 hgt trivial hp
 simp only[Rl.isL,Bool.false_eq_true,if_false]at k4
 refine T24 ?_
 try simp only[MP]
 refine aA (A:=Nat) (fun i=>[(0,.ptr id 0),(3,.int .i64 (a:Int)),(9,.slice .any 1 (sAV (opsC.map Prod.snd))),(10,.int .i64 6),(11,.int .i64 (i:Int))]) (fun _=>(H.set id (rst m l p1 false tb t1)).set tb (.buf 7 t1.length)) (fun i=>i≤6∧iZ l p1 (opsC.drop i)=iZ l p1 opsC) (fun i=>6-i) 0 ⟨Xa,rfl⟩ ?_ fun i hi=>?_
 ·exact Z35
 obtain⟨hi,hop⟩:=hi
 refine T7 ?_
 refine aq (fun hc=>?_) (fun hc=>?_)
 ·have hi6:i<6:=sHc
  obtain⟨s,e1,e2⟩:=GY hi6
  have e5:IntKind.i64.wrap ((i:Int)+1)=((i+1:Nat):Int):=Xe
  have e6:IntKind.i64.wrap (8+(i:Int))=((8+i:Nat):Int):=Xe
  rw[e1,Ja]at hop
  cases hs:isS l p1 s with
  |false=>
   rw[hs,if_neg (Xb)]at hop
   simp only[go_sem,hfree,f1,f2,hgi,hgt',hsi,hst,aQ,aM,aR,aU,bA,aV,bg,hne,ne_eq,hne',hl5,iNq,bj,bh,i1,Int.reduceLE,eq_self,nFq,Bool.not_true,Bool.not_false,Bool.true_and,Bool.false_and,lAq,yaz,yba,nzq,hsl,e2,e5,k2,hs,if_false]
   refine⟨Xa,i+1,⟨Xa,hop⟩,Xa,?_⟩
   exact Z35
  |true=>
   rw[hs,if_pos rfl]at hop
   rw[← hop]at h2
   dsimp only at h2
   have hlt1:=dT hs
   have hp2:ik ((H.set id (rst m l (p1+1) false tb t1)).set tb (.buf 7 t1.length)) id tb l (p1+1) t1:=lV hpre' hlt1 Xa k5
   rcases bp h2 with⟨q,h3,rfl⟩|⟨b,p2,t2,h3,h4⟩
   ·obtain⟨hq1,hq2⟩:=bz _ h3 k5 trivial hlt1
    rw[aM]at hK
    simp only[go_sem,hfree,f1,f2,hgi,hgt',hsi,hst,aQ,aM,aR,aU,bA,aV,bg,hne,ne_eq,hne',hl5,iNq,bj,bh,i1,Int.reduceLE,eq_self,nFq,Bool.not_true,Bool.not_false,Bool.true_and,Bool.false_and,lAq,yaz,yba,nzq,pZ,hsl,e2,k2,hs,if_true,hp2,h3]
    refine⟨Xa,fun b t' hb=>?_⟩
    have ht2:t'.length≤100000:=Xa
    simp only[lE,go_sem,hfree,f1,f2,hgi,hgt',hsi,hst,aQ,aM,aR,aU,bA,aV,bg,hne,ne_eq,hne',hl5,iNq,bj,bh,i1,Int.reduceLE,eq_self,nFq,Bool.not_true,Bool.not_false,Bool.true_and,Bool.false_and,lAq,yaz,yba,nzq,ht2,e6]
    have hK':=hK t'.length (t'++[⟨8+i,a,b,[],[],0⟩]) Xd
    have hc3:=hcl2 q true (t'++[⟨8+i,a,b,[],[],0⟩])
    exact V62
   cases h4
   obtain⟨k1b,k2b,k3b,k4b,k5b,k6b⟩:=bz _ h3 k5 trivial hlt1
   simp only[Rl.isL,Bool.false_eq_true,if_false]at k4b
   have ht2:t2.length≤100000:=Xa
   simp only[go_sem,hfree,f1,f2,hgi,hgt',hsi,hst,aQ,aM,aR,aU,bA,aV,bg,hne,ne_eq,hne',hl5,iNq,bj,bh,i1,Int.reduceLE,eq_self,nFq,Bool.not_true,Bool.not_false,Bool.true_and,Bool.false_and,lAq,yaz,yba,nzq,pZ,hsl,e2,k2,hs,if_true,hp2,h3,ht2,nd2,e6]
   refine⟨Xa,?_⟩
   have hc3:=hcl2 p2 false (t2++[⟨8+i,a,b,[],[],0⟩])
   exact V58
 ·have hi6:i=6:=sHc
  subst hi6
  have hno:iZ l p1 opsC=none:=by rw[← hop];rfl
  rw[hno]at h2
  cases h2
  rw[aR]at hK
  refine T7 ?_
  exact V68
def vh(A:Prop)(f:Nat):List AV→AHeap→(AV→AHeap→Prop)→Prop
 |[.str s],H,K=>∃ n,(A∧lit s=some n∧s.length≤1000)∧K (vv n) H
 |_,_,_=>False
theorem HE{H:AHeap}{id tb p:Nat}{o:AObj}{l:List Tok}{t:List Nd}(h:ik H id tb l p t):ik (H.push o) id tb l p t:=by
 obtain⟨h1,h2,h3,h4,h5,h6,h7⟩:=h
 refine⟨h1,?_,h3,h4,h5,h6,h7⟩
 rw[gPq _ _ (glq h2)];exact h2
theorem KX{A:Prop}{f:Nat}(h_zVal:EntOk Tryz.prog 237 (Ent.some (vh A f)))(h_zImp:EntOk Tryz.prog 187 (Ent.some (ky A f))):EntOk Tryz.prog 233 (Ent.some (tn A (f+1))):=by
 refine EntOk.some fun args H K h=>?_
 unfold tn bg at h
 split at h<;>try exact h.elim
 rename_i id
 obtain⟨m,l,p,b,tb,t,hg,⟨rfl,hpre,hfree⟩,hK⟩:=h
 cases ho:run l (f+1) .atom p t with
 |none=>rw[ho]at hK;exact hK.elim
 |some r =>
 rw[ho]at hK
 rw[run]at ho
 simp only[eT]at ho
 have hpre':=hpre
 obtain⟨hne,htb,ht,hp,hl,hgl,hgt⟩:=hpre
 have hid:=glq hg
 have htbl:=glq htb
 have f1:=cK hid
 have f2:=cK htbl
 have hl5:l.length≤100000:=Xa
 have i1:=@Int.natCast_nonneg
 have hne':(id=tb)=False:=eq_false hne
 have hnx:∀ X Y,H.nx≤((H.set id X).set tb Y).nx:=fun X Y=>nrq _
 refine ACallsP.fS az (tCq h_zVal (tCq iu (tCq gW (tCq N7 (tCq h_zImp tNq))))) Tryz.func233 [.tmp 2] (T:=ay []) (h:=fun hcl=>?_)
 obtain⟨hgi,hgt',hsi,hcl2,hst⟩:=iH hg hpre' hcl
 have hgi1:∀ X,(H.set id X).get id=some X:=fun X=>AHeap.get_set_same _ _ hid
 have hgt1:∀ X,(H.set id X).get tb=some (.buf 7 t.length):=fun X=>by rw[AHeap.get_set_ne _ _ (fun e=>hne e.symm)];exact htb
 have hss:∀ X Y,(H.set id X).set id Y=H.set id Y:=fun X Y=>by simp only[AHeap.set];congr 1;funext k;by_cases hk:k=id<;>simp[hk]
 have hcs:=ax (cs:=[.slice m 3 (dN l),.int .i64 (p:Int),.bool false,.slice (.own tb) 7 (nds t)]) hg
 have ht5:t.length≤100000:=Xa
 have hx1:(id=H.nx)=False:=eFo
 have e1:IntKind.i64.wrap ((p:Int)+1)=((p+1:Nat):Int):=Xe
 rcases Nat.lt_or_ge p l.length with hlt0|hlt0
 rotate_left
 ·have hpe:p=l.length:=Xa
  subst hpe
  have hge:l[l.length]?=none:=gNq (nrq _)
  have hs0:isS l l.length [40]=false:=Cl (nrq _)
  have hr:du l l.length t=.bad l.length:=by unfold du;rw[hge]
  have d0:((l.length:Int)==(l.length:Int))=true:=Xb
  rw[hs0,if_neg Xb,hr]at ho
  cases ho
  rw[aM]at hK
  simp only[go_sem,hfree,f1,f2,hgi,hgt',hsi,hst,aQ,aM,aR,aU,bA,aV,bg,hne,ne_eq,hne',hl5,iNq,bj,bh,i1,Int.reduceLE,eq_self,nFq,Bool.not_true,Bool.not_false,Bool.true_and,Bool.false_and,lAq,yaz,yba,nzq,hg,hp,hcs,aT,dr,hgi1,hgt1,hss,ht5,if_true,if_false,d0]
  have hK':=hK 0 t (nrq _)
  have hc3:=hcl2 l.length true t
  rw[← yq htb hne]at hK' hc3
  exact cJ (H1:=H.set id (rst m l l.length true tb t)) hK' (nrq _) (lRq _) hc3
 rcases htk:l[p]with⟨k,x,z⟩
 have hgd:=oB hlt0 htk
 have hge:l[p]?=some (k,x,z):=by rw[gQq hlt0,htk]
 have d0:((p:Int)==(l.length:Int))=false:=Xd
 have hp1:p+1≤l.length:=hlt0
 obtain⟨hxl,hxs⟩:=hgl l[p] (gMq hlt0)
 rw[htk]at hxl hxs
 dsimp only at hxl hxs
 have hat:=FI hlt0 htk (s:=[40])
 by_cases hk1:k=1
 ·subst hk1
  have hA:A:=hfree p (by unfold sj;rw[hge])
  obtain⟨n,hn⟩:=Option.isSome_iff_exists.1 (hxs rfl)
  have hn128:=AW hn
  have hvo:vOf (n/2^64) (n%2^64)=n:=bZ n
  have hv1:mD (n/2^64:Nat) (n%2^64:Nat)=True:=eq_true (by refine⟨?_,?_,?_,?_⟩<;>omega)
  have hr:du l p t=.ok t.length (p+1) (t++[⟨1,0,0,[],[],n⟩]):=by unfold du;rw[hge];simp[hn]
  have hd1:(((1:Nat):Int)==1)=true:=rfl
  have hs0:isS l p [40]=false:=by rw[hat];rfl
  rw[hs0,if_neg Xb,hr]at ho
  cases ho
  simp only[go_sem,hfree,f1,f2,hgi,hgt',hsi,hst,aQ,aM,aR,aU,bA,aV,bg,hne,ne_eq,hne',hl5,iNq,bj,bh,i1,Int.reduceLE,eq_self,nFq,Bool.not_true,Bool.not_false,Bool.true_and,Bool.false_and,lAq,yaz,yba,nzq,hg,hp,hcs,aT,hgd,dr,hgi1,hgt1,hss,ht5,if_true,if_false,d0,hd1,e1]
  refine⟨Xa,?_⟩
  simp only[vh]
  refine⟨n,⟨hA,hn,hxl⟩,?_⟩
  simp only[vv,lE,go_sem,hfree,f1,f2,hgi,hgt',hsi,hst,aQ,aM,aR,aU,bA,aV,bg,hne,ne_eq,hne',hl5,iNq,bj,bh,i1,Int.reduceLE,eq_self,nFq,Bool.not_true,Bool.not_false,Bool.true_and,Bool.false_and,lAq,yaz,yba,nzq,hg,hp,hcs,aT,hgd,dr,hgi1,hgt1,hss,ht5,if_true,if_false,d0,hd1,e1,hvo,hv1]
  have hc3:=hcl2 (p+1) false (t++[⟨1,0,0,[],[],n⟩])
  exact V39
 have d1:((k:Int)==1)=false:=Xd
 by_cases hk2:k=2
 ·subst hk2
  have hs0:isS l p [40]=false:=by rw[hat];rfl
  have hd2:(((2:Nat):Int)==1)=false:=rfl
  have hd3:(((2:Nat):Int)==2)=true:=rfl
  rw[hs0,if_neg (Xb)]at ho
  by_cases hx1':x=vN
  ·have hr:du l p t=.ok t.length (p+1) (t++[⟨2,0,0,[],[],1⟩]):=by unfold du;rw[hge];simp[hx1']
   have hb1:(x==[116,114,117,101])=true:=by rw[hx1'];rfl
   rw[hr]at ho
   cases ho
   simp only[go_sem,hfree,f1,f2,hgi,hgt',hsi,hst,aQ,aM,aR,aU,bA,aV,bg,hne,ne_eq,hne',hl5,iNq,bj,bh,i1,Int.reduceLE,eq_self,nFq,Bool.not_true,Bool.not_false,Bool.true_and,Bool.false_and,lAq,yaz,yba,nzq,hg,hp,hcs,aT,hgd,dr,hgi1,hgt1,hss,ht5,if_true,if_false,d0,hd2,hd3,e1,hb1,P0,P7]
   refine⟨Xa,?_⟩
   have hc3:=hcl2 (p+1) false (t++[⟨2,0,0,[],[],1⟩])
   exact V39
  have hb1:(x==[116,114,117,101])=false:=by simpa[vN]using hx1'
  by_cases hx2:x=qo
  ·have hr:du l p t=.ok t.length (p+1) (t++[⟨2,0,0,[],[],0⟩]):=by unfold du;rw[hge];simp[hx1',hx2];decide
   have hb2:(x==[102,97,108,115,101])=true:=by rw[hx2];rfl
   rw[hr]at ho
   cases ho
   simp only[go_sem,hfree,f1,f2,hgi,hgt',hsi,hst,aQ,aM,aR,aU,bA,aV,bg,hne,ne_eq,hne',hl5,iNq,bj,bh,i1,Int.reduceLE,eq_self,nFq,Bool.not_true,Bool.not_false,Bool.true_and,Bool.false_and,lAq,yaz,yba,nzq,hg,hp,hcs,aT,hgd,dr,hgi1,hgt1,hss,ht5,if_true,if_false,d0,hd2,hd3,e1,hb1,hb2]
   refine⟨Xa,?_⟩
   have hc3:=hcl2 (p+1) false (t++[⟨2,0,0,[],[],0⟩])
   exact V39
  have hb2:(x==[102,97,108,115,101])=false:=by simpa[qo]using hx2
  cases hs3:isS l (p+1) [58,58]with
  |false=>
   have hr:du l p t=.ok t.length (p+1) (t++[⟨3,0,0,x,[],0⟩]):=by unfold du;rw[hge];simp[hx1',hx2,hs3]
   rw[hr]at ho
   cases ho
   simp only[go_sem,hfree,f1,f2,hgi,hgt',hsi,hst,aQ,aM,aR,aU,bA,aV,bg,hne,ne_eq,hne',hl5,iNq,bj,bh,i1,Int.reduceLE,eq_self,nFq,Bool.not_true,Bool.not_false,Bool.true_and,Bool.false_and,lAq,yaz,yba,nzq,hg,hp,hcs,aT,hgd,dr,hgi1,hgt1,hss,ht5,if_true,if_false,yk,d0,hd2,hd3,e1,hb1,hb2,hp1,hs3,Bool.false_eq_true]
   refine⟨Xa,?_⟩
   have hc3:=hcl2 (p+1) false (t++[⟨3,0,0,x,[],0⟩])
   exact V39
  |true=>
   have hlt3:=dT hs3
   cases hw2:lG l (p+1+1)with
   |none =>
    have hr:du l p t=.bad (p+1+1):=by
     unfold du;rw[hge];simp[hx1',hx2,hs3]
     exact V89
    rw[hr]at ho
    cases ho
    rw[aM]at hK
    simp only[go_sem,hfree,f1,f2,hgi,hgt',hsi,hst,aQ,aM,aR,aU,bA,aV,bg,hne,ne_eq,hne',hl5,iNq,bj,bh,i1,Int.reduceLE,eq_self,nFq,Bool.not_true,Bool.not_false,Bool.true_and,Bool.false_and,lAq,yaz,yba,nzq,hg,hp,hcs,aT,hgd,dr,hgi1,hgt1,hss,ht5,if_true,if_false,yk,d0,hd2,hd3,e1,hb1,hb2,hp1,hs3,hw2,gz]
    refine⟨Xa,?_⟩
    have hK':=hK 0 t Xa
    have hc3:=hcl2 (p+1+1) true t
    rw[← yq htb hne]at hK' hc3
    exact cJ hK' (nrq _) ((lRq _).push _) hc3
   |some y =>
    have hr:du l p t=.ok t.length (p+1+1+1) (t++[⟨3,0,0,x,y,0⟩]):=by
     unfold du;rw[hge];simp[hx1',hx2,hs3]
     exact V79
    rw[hr]at ho
    cases ho
    simp only[go_sem,hfree,f1,f2,hgi,hgt',hsi,hst,aQ,aM,aR,aU,bA,aV,bg,hne,ne_eq,hne',hl5,iNq,bj,bh,i1,Int.reduceLE,eq_self,nFq,Bool.not_true,Bool.not_false,Bool.true_and,Bool.false_and,lAq,yaz,yba,nzq,hg,hp,hcs,aT,hgd,dr,hgi1,hgt1,hss,ht5,if_true,if_false,yk,d0,hd2,hd3,e1,hb1,hb2,hp1,hs3,hw2,iE]
    refine⟨Xa,?_⟩
    have hc3:=hcl2 (p+1+1+1) false (t++[⟨3,0,0,x,y,0⟩])
    exact V39
 have d2:((k:Int)==2)=false:=Xd
 cases hs0:isS l p [40]with
 |false=>
  have hr:du l p t=.bad p:=by unfold du;rw[hge];simp[hk1,hk2]
  rw[hs0,if_neg Xb,hr]at ho
  cases ho
  rw[aM]at hK
  simp only[go_sem,hfree,f1,f2,hgi,hgt',hsi,hst,aQ,aM,aR,aU,bA,aV,bg,hne,ne_eq,hne',hl5,iNq,bj,bh,i1,Int.reduceLE,eq_self,nFq,Bool.not_true,Bool.not_false,Bool.true_and,Bool.false_and,lAq,yaz,yba,nzq,hg,hp,hcs,aT,hgd,dr,hgi1,hgt1,hss,ht5,if_true,if_false,d0,d1,d2,hs0,Bool.false_eq_true]
  refine⟨Xa,?_⟩
  have hK':=hK 0 t (nrq _)
  have hc3:=hcl2 p true t
  rw[← yq htb hne]at hK' hc3
  exact cJ (H1:=H.set id (rst m l p true tb t)) hK' (nrq _) ((lRq _).push _) hc3
 |true=>
  rw[hs0,if_pos rfl]at ho
  have hp2:∀ o,ik ((H.set id (rst m l (p+1) false tb t)).push o) id tb l (p+1) t:=fun o=>HE (lS hpre' hp1 Xa)
  rcases bp ho with⟨q,h3,rfl⟩|⟨a,p1,t1,h3,h4⟩
  ·obtain⟨hq1,hq2⟩:=bz _ h3 hgt trivial hp1
   rw[aM]at hK
   simp only[go_sem,hfree,f1,f2,hgi,hgt',hsi,hst,aQ,aM,aR,aU,bA,aV,bg,hne,ne_eq,hne',hl5,iNq,bj,bh,i1,Int.reduceLE,eq_self,nFq,Bool.not_true,Bool.not_false,Bool.true_and,Bool.false_and,lAq,yaz,yba,nzq,hg,hp,hcs,aT,hgd,dr,hgi1,hgt1,hss,ht5,if_true,if_false,ky,d0,d1,d2,hs0,hp2,h3]
   refine⟨Xa,fun a t' hb=>?_⟩
   simp only[lE,go_sem,hfree,f1,f2,hgi,hgt',hsi,hst,aQ,aM,aR,aU,bA,aV,bg,hne,ne_eq,hne',hl5,iNq,bj,bh,i1,Int.reduceLE,eq_self,nFq,Bool.not_true,Bool.not_false,Bool.true_and,Bool.false_and,lAq,yaz,yba,nzq,hq1,hp,rst,dr]
   have hcc:∀ X Y,aK ((H.set id (.cells X)).set tb Y) id=some X:=fun X Y=>by rw[cR hne,fx hid,if_pos rfl]
   simp only[lE,go_sem,hfree,f1,f2,hgi,hgt',hsi,hst,aQ,aM,aR,aU,bA,aV,bg,hne,ne_eq,hne',hl5,iNq,bj,bh,i1,Int.reduceLE,eq_self,nFq,Bool.not_true,Bool.not_false,Bool.true_and,Bool.false_and,lAq,yaz,yba,nzq,hq1,hp,hcc]
   have hK':=hK a t' Xa
   have hc3:=hcl2 q true t'
   exact cJ hK' (nrq _) ((lRq _).push _) hc3
  ·obtain⟨k1b,k2b,k3b,k4b,k5b,k6b⟩:=bz _ h3 hgt trivial hp1
   simp only[Rl.isL,Bool.false_eq_true,if_false]at k4b
   cases hs2:isS l p1 [41]with
   |true=>
    rw[hs2,if_pos rfl]at h4
    cases h4
    simp only[go_sem,hfree,f1,f2,hgi,hgt',hsi,hst,aQ,aM,aR,aU,bA,aV,bg,hne,ne_eq,hne',hl5,iNq,bj,bh,i1,Int.reduceLE,eq_self,nFq,Bool.not_true,Bool.not_false,Bool.true_and,Bool.false_and,lAq,yaz,yba,nzq,hg,hp,hcs,aT,hgd,dr,hgi1,hgt1,hss,ht5,if_true,if_false,ky,d0,d1,d2,hs0,hp2,h3,k2b,hs2]
    refine⟨Xa,?_⟩
    rw[aR]at hK
    exact cJ hK (nrq _) ((lRq _).push _) (hcl2 _ _ _)
   |_=>
    rw[hs2,if_neg (Xb)]at h4
    cases h4
    rw[aM]at hK
    have hcc:∀ X Y,aK ((H.set id (.cells X)).set tb Y) id=some X:=fun X Y=>by rw[cR hne,fx hid,if_pos rfl]
    simp only[go_sem,hfree,f1,f2,hgi,hgt',hsi,hst,aQ,aM,aR,aU,bA,aV,bg,hne,ne_eq,hne',hl5,iNq,bj,bh,i1,Int.reduceLE,eq_self,nFq,Bool.not_true,Bool.not_false,Bool.true_and,Bool.false_and,lAq,yaz,yba,nzq,hg,hp,hcs,aT,hgd,dr,hgi1,hgt1,hss,ht5,if_true,if_false,ky,d0,d1,d2,hs0,hp2,h3,k2b,hs2,Bool.false_eq_true]
    simp only[rst,go_sem,hfree,f1,f2,hgi,hgt',hsi,hst,aQ,aM,aR,aU,bA,aV,bg,hne,ne_eq,hne',hl5,iNq,bj,bh,i1,Int.reduceLE,eq_self,nFq,Bool.not_true,Bool.not_false,Bool.true_and,Bool.false_and,lAq,yaz,yba,nzq,hcc]
    refine⟨Xa,?_⟩
    exact cJ (hK a t1 Xa) (nrq _) ((lRq _).push _) (hcl2 _ _ _)
end Go.AL
