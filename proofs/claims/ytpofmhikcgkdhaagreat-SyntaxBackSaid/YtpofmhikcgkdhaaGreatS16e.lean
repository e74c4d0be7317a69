/- Lemmas of the proof; no condition. -/
import Derived.Test.YtpofmhikcgkdhaaGreatS16c
import Derived.Test.YtpofmhikcgkdhaaGreatS07w
set_option linter.all false
set_option maxRecDepth 10000
set_option maxHeartbeats 32000000
open List renaming length_cons → yaz, length_nil → yba, take_of_length_le → ybc, drop_append → ybd, take_append → ybe, drop_eq_nil_of_le → ybf, length_map → ybb
open Option renaming isSome_none → yax, isSome_some → yaw
open Go Go.AL Go.Proofs
namespace Go.AL
def opsL:List (Int × List UInt8):=[(8,[61,61]),(9,[33,61]),(10,[60]),(11,[60,61]),(12,[62]),(13,[62,61]),(6,[43]),(7,[45]),(14,[38,38]),(15,[124,124]),(16,[45,62])]
theorem pE {op:Nat} (h:1≤op) (h5:op≤5):ixO (fun t:Int × List UInt8=>t.1==(op:Int)) opsL 0 = -1:=by
 rcases (by omega:op=1∨op=2∨op=3∨op=4∨op=5) with rfl|rfl|rfl|rfl|rfl<;>rfl
theorem Da {op:Nat} (h:6≤op∧op≤16):∃ i:Nat,i<11∧ixO (fun t:Int × List UInt8=>t.1==(op:Int)) opsL 0=(i:Int)∧(opsL.map gr).getD i .junk=.agg [.int .i64 (op:Int),.str (iF op)]:=by
 rcases (by omega:op=6∨op=7∨op=8∨op=9∨op=10∨op=11∨op=12∨op=13∨op=14∨op=15∨op=16) with rfl|rfl|rfl|rfl|rfl|rfl|rfl|rfl|rfl|rfl|rfl
 ·exact ⟨6,by decide,rfl,rfl⟩
 ·exact ⟨7,by decide,rfl,rfl⟩
 ·exact ⟨0,by decide,rfl,rfl⟩
 ·exact ⟨1,by decide,rfl,rfl⟩
 ·exact ⟨2,by decide,rfl,rfl⟩
 ·exact ⟨3,by decide,rfl,rfl⟩
 ·exact ⟨4,by decide,rfl,rfl⟩
 ·exact ⟨5,by decide,rfl,rfl⟩
 ·exact ⟨8,by decide,rfl,rfl⟩
 ·exact ⟨9,by decide,rfl,rfl⟩
 ·exact ⟨10,by decide,rfl,rfl⟩
theorem Sb.at {t:List Nd} {s r:Nat} (h:Sb t s r):∀ {k:Nat},s≤k→k≤r→∃ s',Sb t s' k:=by
 induction h with
 |leaf h1 h2=>intro k a b;rw [show k=_ from Nat.le_antisymm b a];exact ⟨_,.leaf h1 h2⟩
 |un h1 h2 ho ih =>
  rename_i s a op
  intro k ha hb
  rcases Nat.lt_or_ge k (a+1) with h|h
  ·exact ih ha (by omega)
  ·rw [show k=a+1 from Nat.le_antisymm hb h];exact ⟨_,.un h1 h2 ho⟩
 |bin h1 h2 h3 ho ih1 ih2 =>
  rename_i s a b op
  intro k ha hb
  rcases Nat.lt_or_ge k (a+1) with h|h
  ·exact ih1 ha (by omega)
  ·rcases Nat.lt_or_ge k (b+1) with h'|h'
   ·exact ih2 h (by omega)
   ·rw [show k=b+1 from Nat.le_antisymm hb h'];exact ⟨_,.bin h1 h2 h3 ho⟩
def oK (l:List (List UInt8)):List AV:=l.map .str
theorem tD {l:List (List UInt8)}:(oK l).length=l.length:=by simp [oK]
theorem eJ {n:Nat} {m:Mark} {l:List (List UInt8)}:AV.lt n (.slice m 1 (oK l))=∀ id,m=.own id→id<n:=by
 refine propext ?_
 rw [eP]
 simp [oK,ltL_iff,znh]
def mS:List AV→AHeap→(AV→Prop)→Prop
 |[],_,K=>K (.slice .any 2 (opsL.map gr))
 |_,_,_=>False
def js:List AV→AHeap→(AV→Prop)→Prop
 |[.slice _ 7 x],_,K=>∃ t,(x=nds t∧t≠[]∧Sb t 0 (t.length - 1)∧t.length≤120)∧K (.bool true)
 |_,_,_=>False
def kq:List AV→AHeap→(AV→Prop)→Prop
 |[.slice _ 7 x],_,K=>∃ t,(x=nds t∧t≠[]∧Sb t 0 (t.length - 1)∧FOk t)∧K (.str (bL t (t.length - 1)))
 |_,_,_=>False
theorem t6 (lH:EntOk Tryz.prog 23 (Ent.pure mS)) (iS:EntOk Tryz.prog 20 (Ent.pure js)):EntOk Tryz.prog 8 (Ent.pure kq):=by
 refine Ype fun _ H K h=>?_
 unfold kq at h
 split at h
 rotate_left
 ·exact h.elim
 rename_i m x
 obtain ⟨t,⟨rfl,h0,hS,hF⟩,hK⟩:=h
 refine ⟨_,hK,?_⟩
 clear hK
 have htp:=List.length_pos_iff.2 h0
 have hln:=hF.2.2
 refine ACalls.fW aE (tCq iS (tCq Az (tCq lH (tCq AU (tCq yN (tCq uI tNq)))))) Tryz.func8 [.tmp 2] (nrq _) (T:=ay [(7,[[],[],[],[],[2],[],[],[],[],[2,4,7]]),(11,[[],[],[],[1],[],[],[],[1,3],[],[],[],[1,3]])]) (h:=fun hcl hlt=>?_)
 have hm:∀ n',H.nx≤n'→AV.lt n' (.slice m 7 (nds t)):=fun n' hn=>AV.lt_mono hn _ (hlt (.slice m 7 (nds t)) (by simp))
 clear hlt
 simp only [go_sem,az,iNq,js]
 refine ⟨t,⟨rfl,h0,hS,hln⟩,?_⟩
 refine au (A:=Nat) (fun k=>[(3,.slice (.own H.nx) 1 (oK (cm (t.take k)))),(12,.slice m 7 (nds t)),(13,.int .i64 (t.length:Int)),(14,.int .i64 (k:Int))]) (fun k=>H.push (.buf 1 k)) (fun k=>k≤t.length) (fun k=>t.length - k) 0 (by omega) ?_ fun k hk=>?_
 ·have e0:oK (cm (t.take 0))=[]:=rfl
  exact Z31
 have hcl1:∀ k,(H.push (.buf 1 k)).Closed:=fun k=>ag hcl
 have hil:(oK (cm (t.take k))).length=k:=by rw [tD,cX hk]
 simp only [go_sem]
 refine ah (fun hc=>?_) (fun hc=>?_)
 ·have hk1:k<t.length:=by simp at hc;omega
  have e5:=Yk5 k
  have hkn:(H.nx=H.nx+1)=False:=eq_false (by omega)
  obtain ⟨s',hSk⟩:=hS.at (Nat.zero_le k) (by omega)
  have hlk:=hF.len hSk
  have hfl:(cm (t.take k)).length≤1000:=by rw [cX hk];omega
  simp only [go_sem,az,cw hk1,iNq,hkn,uW]
  refine ⟨by omega,cm (t.take k),⟨rfl,hfl⟩,cm (t.take k),⟨rfl,hfl⟩,?_⟩
  simp only [go_sem,mS,uS]
  --BODY
  have hsn:∀ x,x=fp (cm (t.take k)) t[k]→oK (cm (t.take k))++[AV.str x]=oK (cm (t.take (k+1))):=fun x hx=>by rw [j8 hk1,← hx];simp [oK]
  have hd:decide ((-1:Int) ≥ 0)=false:=rfl
  refine ⟨opsL,t[k],⟨rfl,rfl,by decide⟩,?_⟩
  cases hSk with
  |leaf h1 h2 =>
   rename_i n
   obtain ⟨_,e⟩:=get_lt h1
   have hop:1≤n.op∧n.op≤3:=by cases h2<;>exact ⟨Nat.le_of_ble_eq_true rfl,Nat.le_of_ble_eq_true rfl⟩
   have hsh:=hF.1 _ (List.mem_of_getElem? h1)
   have hix:=pE (op:=n.op) hop.1 (by omega)
   have b4:((n.op:Int)==4)=false:=beq_eq_false_iff_ne.2 (by omega)
   have b5:((n.op:Int)==5)=false:=beq_eq_false_iff_ne.2 (by omega)
   have hv:=hsn (io n) (by rw [e];unfold fp;rw [if_pos hop.2])
   rw [e]
   simp only [go_sem,az,iNq,zat,zau,hix,hd,b4,b5,hkn,ni]
   refine ⟨n,⟨rfl,h2,hsh⟩,?_⟩
   simp only [go_sem,az,iNq,zat,zau,hv,hil,e5]
   refine ⟨⟨by omega,by omega,by simp [aY,AV.cells,AV.one]⟩,k+1,by omega,by omega,?_⟩
   exact Z35
  |un h1 h2 ho =>
   rename_i a op
   obtain ⟨_,e⟩:=get_lt h2
   have hl1:=hF.len h1
   have hA':(cm (t.take (a+1))).getD a []=bL t a:=cG (by omega) (by omega)
   have hA:si (cm (t.take (a+1))) (a:Int) ((a+1:Nat):Int)=bL t a:=by unfold si;rw [if_neg (by omega)];exact hA'
   rw [e]
   rcases ho with rfl|rfl
   ·have b4:((((4:Nat):Int))==4)=true:=rfl
    have b5:((((4:Nat):Int))==5)=false:=rfl
    have hix:=pE (op:=4) (by decide) (by decide)
    simp only [go_sem,az,iNq,zat,zau,nd2,hix,hd,b4,b5,lP,hA,hkn]
    refine ⟨by omega,?_⟩
    have hv:=hsn (45::fU (bL t a)) (by rw [e,← hA'];rfl)
    simp only [go_sem,az,iNq,zat,zau,hv,hA,hil,e5]
    refine ⟨by unfold bZ;rw [fo];omega,?_⟩
    refine ⟨⟨by omega,by omega,by simp [aY,AV.cells,AV.one]⟩,a+1+1,by omega,by omega,?_⟩
    exact Z35
   ·have b4:((((5:Nat):Int))==4)=false:=rfl
    have b5:((((5:Nat):Int))==5)=true:=rfl
    have hix:=pE (op:=5) (by decide) (by decide)
    simp only [go_sem,az,iNq,zat,zau,nd2,hix,hd,b4,b5,lP,hA,hkn]
    refine ⟨by omega,?_⟩
    have hv:=hsn (33::fU (bL t a)) (by rw [e,← hA'];rfl)
    simp only [go_sem,az,iNq,zat,zau,hv,hA,hil,e5]
    refine ⟨by unfold bZ;rw [fo];omega,?_⟩
    refine ⟨⟨by omega,by omega,by simp [aY,AV.cells,AV.one]⟩,a+1+1,by omega,by omega,?_⟩
    exact Z35
  |bin h1 h2 h3 ho =>
   rename_i a b op
   obtain ⟨_,e⟩:=get_lt h3
   have hab:=h2.le.1
   have hl1:=hF.len h1
   have hl2:=hF.len h2
   have hA':(cm (t.take (b+1))).getD a []=bL t a:=cG (by omega) (by omega)
   have hB':(cm (t.take (b+1))).getD b []=bL t b:=cG (by omega) (by omega)
   have hA:si (cm (t.take (b+1))) (a:Int) ((b+1:Nat):Int)=bL t a:=by unfold si;rw [if_neg (by omega)];exact hA'
   have hB:si (cm (t.take (b+1))) (b:Int) ((b+1:Nat):Int)=bL t b:=by unfold si;rw [if_neg (by omega)];exact hB'
   obtain ⟨i,hi,hix,hgi⟩:=Da ho
   have hdi:decide (((i:Nat):Int) ≥ 0)=true:=dtq (by omega)
   have hol:=oa (op:=op)
   rw [e]
   simp only [go_sem,az,iNq,zat,zau,nd2,hix,hdi,hA,hB,hkn,hgi,lP,mS,ybb,fo]
   have hopl:opsL.length=11:=rfl
   have hx:fU (bL t a)++[32]++iF op++[32]++fU (bL t b)=fp (cm (t.take (b+1))) t[b+1]:=by
    rw [e,← hA',← hB']
    unfold fp nd2
    rw [if_neg (by show ¬ op≤3;omega),if_neg (by show ¬ op=4;omega),if_neg (by show ¬ op=5;omega)]
    simp only [List.append_assoc]
   have hv:=hsn _ hx
   refine ⟨by omega,by unfold bZ;omega,⟨by omega,by rw [hopl];omega⟩,by unfold bZ;simp only [lAq,fo,yaz,yba];omega,by unfold bZ;simp only [lAq,fo,yaz,yba];omega,by omega,by unfold bZ;simp only [lAq,fo,yaz,yba];omega,?_⟩
   simp only [hv,hil,e5]
   refine ⟨⟨trivial,by omega,by omega,by simp [aY,AV.cells,AV.one]⟩,b+1+1,by omega,by omega,?_⟩
   exact Z35
 ·have hk1:k=t.length:=by simp at hc;omega
  subst hk1
  have e6:IntKind.i64.wrap ((t.length:Int) - 1)=((t.length - 1:Nat):Int):=by rw [wrap_i64]<;>omega
  have hg:(oK (cm (t.take t.length))).getD (t.length - 1) .junk=.str (bL t (t.length - 1)):=by
   rw [List.take_length]
   refine qi ?_
   unfold bL
   rw [gQq (by rw [uj];omega),gEq,gQq (by rw [uj];omega)]
   rfl
  simp only [go_sem,az,iNq,zat,zau,hil,e6,hg]
  refine ⟨by omega,?_⟩
  simp (disch:=first|exact Zd|omega) [↓zmo,beq,ybc,ybd,ybe,af,wk,wk2,wk1,wkM,wkL,am,ybf,hcl,hcl1 t.length]
theorem wa {l:List Tok} {r:PR} {t:List Nd} (h:jg l r=some t):dD l r=(t,0):=by
 cases r with
 |bad p=>cases h
 |ok a p u =>
  change (if p<l.length then none else if iI u=true then none else some u)=some t at h
  dsimp only [dD]
  by_cases h1:p<l.length
  ·rw [if_pos h1] at h;cases h
  ·rw [if_neg h1] at h ⊢
   by_cases h2:iI u=true
   ·rw [if_pos h2] at h;cases h
   ·rw [if_neg h2] at h;cases h
    rw [if_neg (show ¬ v5 t=true from h2)]
theorem vE {l:List Tok} {r:PR} {t:List Nd} (h:dD l r=(t,0)):dM l r=.tup [.slice .any 7 (nds t),.int .i64 0,.int .i64 0]:=by
 cases r with
 |bad p=>cases h
 |ok a p u =>
  dsimp only [dD] at h
  dsimp only [dM]
  split at h
  ·cases h
  ·rename_i h1
   split at h
   ·cases h
   ·rename_i h2
    cases h
    rw [if_neg h1,if_neg (show ¬ iI _=true from h2)]
def fY:List AV→AHeap→(AV→Prop)→Prop
 |[.slice _ 1 l],_,K=>isB l∧K (.bool true)
 |_,_,_=>False
theorem n5 (ok_sFormat:EntOk Tryz.prog 8 (Ent.pure kq)):EntOk Tryz.prog 3 (Ent.pure fY):=by
 refine Ype fun _ H K h=>?_
 unfold fY at h
 split at h
 rotate_left
 ·exact h.elim
 rename_i m l
 obtain ⟨hB,hK⟩:=h
 obtain ⟨b,rfl⟩:=Bc hB
 clear hB
 refine ⟨_,hK,?_⟩
 clear hK
 have h_parsed:EntOk Tryz.prog 6 (Ent.some (lU True 0)):=ul (uc BA)
 have h_CSent:=pI (A:=True) 4
 have li:=li (h_xFmt:=uF 1000)
 refine ACalls.fW aE (tCq AC (tCq h_CSent (tCq h_parsed (tCq ok_sFormat (tCq li (tCq qB (tCq pY (tCq o9 (tCq mP (tCq yx (tCq qR (tCq vu tNq)))))))))))) Tryz.func3 [.tmp 2] (nrq _) (T:=ay []) (h:=fun hcl hlt=>?_)
 clear hlt
 simp only [go_sem,v7]
 refine ⟨b,⟨rfl,by omega⟩,?_⟩
 have hbt:(b.take (min (b.length:Int) 30).toNat).length≤30:=by rw [List.length_take];omega
 generalize b.take (min (b.length:Int) 30).toNat=b1 at *
 have hb3:bS 4≤100000:=by decide
 simp only [bV]
 refine ⟨b1,0,⟨AHeap.get_push_new _ _,⟨by omega,by omega⟩,by omega,rfl,by omega⟩,fun s a' hs _ _=>?_⟩
 obtain ⟨f,r,hr⟩:=mZ (aT s).1
 simp only [aS,cod,go_sem,lU]
 refine ⟨f,r,⟨hr,by omega,sy⟩,?_⟩
 rw [vQ]
 generalize hto:jg (aT s).1 r=o at *
 simp only [aS,cod,go_sem]
 cases o with
 |none =>
  simp only [go_sem,yax,iz]
  exact Z0
 |some t =>
  have hp:=wa hto
  have hpr:=vR hr
  obtain ⟨g1,g2,g3,g4⟩:=yE (rq s) (t:=t) (by rw [hpr];exact hp)
  have hsh:=sK (ge s).2 hr
  have hgd:=(tB hr).1
  rw [hp] at hsh hgd
  have hF:FOk t:=⟨hsh,hgd,g3⟩
  have hFl:=hF.len g2
  simp only [go_sem,yaw,Option.getD_some,kq,mE,lI,iV,kx]
  refine ⟨t,⟨rfl,g1,g2,hF⟩,t,⟨rfl,g1,g2,hF⟩,?_⟩
  have hback:=zE g1 g2 g4
  generalize bL t (t.length - 1)=F at *
  refine aP (fun h1=>by simp at h1) (fun _=>⟨t,⟨rfl,hgd,by omega⟩,t,⟨rfl,hgd,by omega⟩,?_⟩)
  simp only [go_sem,bne_self_eq_false,zau,kx,lj]
  refine ⟨by omega,?_⟩
  refine ah (fun h1=>?_) (fun h1=>?_)
  ·have h4:400<F.length:=by simp at h1;omega
   have hs0:aT F=([],0,3):=by unfold aT;rw [if_pos h4]
   simp only [go_sem,hs0,iz]
   refine hY rfl ?_
   exact Z0
  ·have h4:F.length≤400:=by simp at h1;omega
   obtain ⟨q1,q2⟩:=hback h4
   have hgl:=ge F
   obtain ⟨f2,r2,hr2⟩:=mZ (aT F).1
   have hpr2:=vR hr2
   rw [hpr2] at q2
   simp only [go_sem,q1,jz]
   refine ⟨(aT F).1,f2,r2,⟨rfl,hr2,by omega,hgl.2⟩,?_⟩
   rw [vE q2]
   simp only [go_sem,sN,lX,iz]
   refine hY rfl (hY rfl ⟨t,t,⟨rfl,rfl,by omega⟩,hY (by simp) ⟨t,⟨rfl,rfl,by omega⟩,?_⟩⟩)
   exact Z0
theorem pt (lH:EntOk Tryz.prog 23 (Ent.pure mS)) (iS:EntOk Tryz.prog 20 (Ent.pure js)):EntOk Tryz.prog 3 (Ent.pure fY):=n5 (t6 lH iS)
end Go.AL
