/- Lemmas of the proof; no condition. -/
import Derived.Test.YtjnhidpnfdbmaaaGreatS07p
import Derived.Test.YtjnhidpnfdbmaaaGreatS07u
set_option linter.all false
set_option maxRecDepth 10000
set_option maxHeartbeats 32000000
open Go Go.AL Go.Proofs
namespace Go.AL
theorem Md{m:Mark}{l:List Tok}{tb:Nat}{b:Bool}{K:Mark→List Tok→Nat→Bool→Nat→List Nd→Prop}:onQ (some (.cells [.slice m 3 (dN l),.int .i64 0,.bool b,.slice (.own tb) 7 []])) K=K m l 0 b tb []:=aQ (p:=0) (t:=[])
theorem IG{P:Program}{t s u n0:Nat}{fr:Fr}{H:AHeap}{Q:AV→AHeap→Prop}:fY P [.tmp t,.tmp s,.tmp u] n0 Q fr H=yK n0 Q (.tup [Fr.get fr t,Fr.get fr s,Fr.get fr u]) H:=by simp[fY,ni,sL,one,yK]
theorem xc{P:Program}{H X:AHeap}{K:AV→AHeap→Prop}{fr:Fr}{m:Mark}{t:List Nd}{a b:Int}(hK:K (.tup [.slice .any 7 (nds t),.int .i64 a,.int .i64 b]) H)(hcl:H.Closed)(hle:H.Le X)
 (f2:Fr.get fr 2=.slice m 7 (nds t)) (f3:Fr.get fr 3=.int .i64 a) (f4:Fr.get fr 4=.int .i64 b):fY P [.tmp 2,.tmp 3,.tmp 4] H.nx K fr X:=by
 rw[IG,f2,f3,f4]
 refine⟨_,H,hK,nrq _,?_,hle,hcl,?_⟩
 ·simp[wk,aj,wk2,wk1,wkM]
 ·simp[zns,znu,znv,znf,lF]
theorem Dc{A:Prop}{g:Nat}(hV:∀ f,EntOk Tryz.prog 237 (Ent.some (vh A f))):EntOk Tryz.prog 163 (Ent.some (yw A g)):=by
 refine EntOk.some fun args H K h=>?_
 unfold yw at h
 split at h<;>try exact h.elim
 rename_i m x
 obtain⟨l,f,r,⟨rfl,hr,hl,hgl,hfree⟩,hK⟩:=h
 have h_zImp:=(Ab hV f).imp
 have hw:=bz f hr Good.nil trivial (Nat.zero_le _)
 refine ACallsP.of_aw (Ω:=[(187,Ent.some (ky A f)),(188,Ent.pure qz)]) (T:=ay [(4,[[],[],[],[],[],[],[3]]),(1,[[7]])]) az (tCq h_zImp (tCq Jx tNq)) Tryz.func163 Xh (by rfl) (rs:=[.tmp 2,.tmp 3,.tmp 4]) (by rfl) Xh (by simp only[Tryz.ntmps163,List.length_cons,List.length_nil];decide) fun hcl hlt=>?_
 change aw _ _ _ (KI Tryz.prog [(187,Ent.some (ky A f)),(188,Ent.pure qz)] (vS Tryz.prog [.tmp 2,.tmp 3,.tmp 4] H.nx _ (ay [(4,[[],[],[],[],[],[],[3]]),(1,[[7]])])) []) _ _
 have hm:∀ n',H.nx≤n'→AV.lt n' (.slice m 3 (dN l)):=fun n' hn=>AV.lt_mono hn _ (hlt (.slice m 3 (dN l)) Xb)
 clear hlt
 simp only[go_sem,bhq,List.take_succ_cons,List.take_zero,List.drop_succ_cons,List.drop_zero]
 refine me 7 3 7 [.slice m 3 (dN l),.int .i64 0,.bool false,.slice .nil 1 []] (by simp[Fr.get]) rfl ?_
 simp only[List.set_cons_succ,List.set_cons_zero,go_sem,bhq,List.take_succ_cons,List.take_zero,List.drop_succ_cons,List.drop_zero,ky,bg,Md,hr]
 have n1:(H.nx+1+1=H.nx+1)=False:=eFo
 have n2:(H.nx+1=H.nx+1+1)=False:=eFo
 have n3:(H.nx=H.nx+1)=False:=eFo
 have n4:(H.nx=H.nx+1+1)=False:=eFo
 refine⟨⟨⟨Xa,?_,Xb,Xb,hl,hgl,Good.nil⟩,hfree⟩,?_⟩
 ·rw[gPq _ _ (Xg)]
  exact V131
 have hcl1:∀ p b t n,((((H.push (.buf 7 0)).push (.buf 7 n)).push (.cells [.slice m 3 (dN l),.int .i64 (p:Int),.bool b,.slice (.own (H.nx+1)) 7 (nds t)]))).Closed:=fun p b t n=>by
  refine aa (ag (ag hcl)) ?_
  simp only[znu,znv,znf,zng,lF,and_true,true_and,zle]
  exact⟨hm _ Xa,fun id h=>by cases h;omega⟩
 cases r with
 |bad q =>
  rw[aM]
  intro a t ht
  simp only[jS]at hK
  simp only[lE,go_sem,rst,n1,n2,n3,n4]
  exact V72
 |ok a p t =>
  rw[aR]
  obtain⟨k1,k2,k3,k4,k5,k6⟩:=hw
  have hnl:(nds t).length=t.length:=aO
  have ht:t.length≤1000:=by simp at k3;omega
  simp only[jS]at hK
  by_cases hp:p<l.length
  ·have d0:decide ((p:Int)<(l.length:Int))=true:=Xd
   rw[if_pos hp]at hK
   simp only[lE,go_sem,rst,n1,n2,n3,n4,aT,d0]
   exact V72
  ·have d0:decide ((p:Int)<(l.length:Int))=false:=Xd
   rw[if_neg hp]at hK
   simp only[lE,go_sem,rst,n1,n2,n3,n4,aT,d0,hnl]
   by_cases h1:120<t.length
   ·have hb:uf t=true:=by unfold uf;simp[h1]
    have d1:decide ((t.length:Int)>120)=true:=Xd
    rw[if_pos hb]at hK
    simp only[d1,go_sem]
    exact V72
   ·have d1:decide ((t.length:Int)>120)=false:=Xd
    simp only[d1,go_sem,qz]
    refine⟨t,⟨rfl,k5,ht⟩,?_⟩
    by_cases h2:12<im t
    ·have hb:uf t=true:=by unfold uf;simp[h2]
     have d2:decide (((im t:Nat):Int)>12)=true:=Xd
     rw[if_pos hb]at hK
     simp only[d2,go_sem]
     exact V72
    ·have hb:¬ uf t=true:=by unfold uf;simp;omega
     have d2:decide (((im t:Nat):Int)>12)=false:=Xd
     rw[if_neg hb]at hK
     simp only[d2,go_sem,hnl]
     exact xc hK hcl ((((lRq H).push _).push _).push _) rfl rfl rfl
theorem Ii{base m n:Nat}{c:UInt8}{r:List UInt8}(h:fO base m (c::r)=some n):dg c<base∧m*base+dg c<2^128∧fO base (m*base+dg c) r=some n:=by
 unfold fO at h
 split at h
 ·rename_i h1
  split at h
  ·rename_i h2;exact⟨h1,h2,h⟩
  ·cases h
 ·cases h
theorem Pi{c:UInt8}{base:Nat}(hb:base=10∨base=16)(h:dg c<base) :
 (decide (((c.toNat:Nat):Int) ≥ 97)=false→IntKind.u64.wrap (IntKind.u8.wrap (((c.toNat:Nat):Int)-48))=(dg c:Int)) ∧
 (decide (((c.toNat:Nat):Int) ≥ 97)=true→IntKind.u64.wrap (IntKind.u64.wrap (IntKind.u8.wrap (((c.toNat:Nat):Int)-97))+10)=(dg c:Int)):=by
 have h8:=UInt8.toNat_lt c
 have e8:∀ z:Int,IntKind.u8.wrap z=z%256:=fun z=>by simp[IntKind.wrap,IntKind.signed,IntKind.bits]
 have e64:∀ z:Int,IntKind.u64.wrap z=z%18446744073709551616:=fun z=>by simp[IntKind.wrap,IntKind.signed,IntKind.bits]
 unfold dg at h ⊢
 rw[e8,e8]
 simp only[e64]
 constructor
 ·intro h1
  have h1':((c.toNat:Nat):Int)<97:=by simpa using h1
  split at h
  ·rename_i h2;rw[if_pos h2];omega
  ·split at h<;>omega
 ·intro h1
  have h1':97≤((c.toNat:Nat):Int):=by simpa using h1
  split at h
  ·omega
  ·rename_i h2
   rw[if_neg h2]
   split at h
   ·rename_i h3;rw[if_pos h3];omega
   ·omega
def FP:PCt
 |[.str s],_,K=>∃ n,(lit s=some n∧s.length≤1000)∧K (vv n)
 |_,_,_=>False
theorem ok_zVal0:EPp 237 FP:=by
 refine Ype fun _ H K h=>?_
 unfold FP at h
 split at h<;>try exact h.elim
 rename_i s
 obtain⟨n,⟨hn,hsl⟩,hK⟩:=h
 refine⟨_,hK,?_⟩
 clear hK
 have hn128:=AW hn
 refine Yfw az (tCq IQ (tCq MV tNq)) Tryz.func237 [.cell 2 29] (nrq _) (T:=ay [(8,[[],[0],[],[0,1,2],[],[],[0,1,2,3,4,5],[0,1,2,3,4,5]]),(808,[[4,29],[5,29]])]) (h:=fun hcl=>?_)
 -- the loop,for either base
 by_cases hx:j7 s [48,120]=true
 case' pos =>
  have hl2:2<s.length:=by
   unfold lit at hn
   rw[if_pos hx]at hn
   obtain⟨h1,h2⟩:=wZ hx
   split at hn
   ·cases hn
   ·rename_i h3
    have:s.drop 2≠[]:=h3
    have:=List.length_pos_iff.2 this
    rw[List.length_drop]at this;omega
  have hn':fO 16 0 (s.drop 2)=some n:=by
   unfold lit at hn
   rw[if_pos hx]at hn
   split at hn
   ·cases hn
   ·exact hn
  have d1:decide ((s.length:Int)>2)=true:=Xd
  have d2:(List.take 2 s==[48,120])=true:=by
   obtain⟨h1,h2⟩:=wZ hx
   simpa using h2
  have d3:2≤s.length:=Xa
  have d4:List.take s.length s=s:=List.take_length
  have hT:(s.drop 2).length≤1000:=Xt
  simp only[go_sem,d1,d3,d4,Int.reduceToNat,List.drop_zero,d2,iNq]
  refine⟨⟨Xc,Xc,Xa⟩,⟨Xc,Xa,Xa⟩,?_⟩
  obtain⟨base,hB,hb⟩:∃ b:Nat,(16:Int)=(b:Int)∧(b=10∨b=16):=⟨16,rfl,.inr rfl⟩
  have hn2:fO base 0 (s.drop 2)=some n:=by
   obtain rfl:base=16:=Xa
   exact hn'
  clear hn' hn d1 d2 hx
  generalize s.drop 2=x at *
  have hX:x=x:=rfl
 case' neg =>
  have hn':fO 10 0 s=some n:=by
   unfold lit at hn
   rw[if_neg hx]at hn
   split at hn
   ·cases hn
   ·exact hn
  have hT:=hsl
  have d3:decide ((s.length:Int)>2)=true→2≤s.length:=Xd
  have d2:decide ((s.length:Int)>2)=true→(List.take 2 s==[48,120])=false:=fun h=>by
   have h':2<s.length:=by simp at h;omega
   cases h2:(List.take 2 s==[48,120])with
   |false=>rfl
   |true=>
    refine absurd ?_ hx
    match s,h',h2 with
    |a::b::r,_,h2=>simp at h2;simp[j7,h2]
  obtain⟨base,hB,hb⟩:∃ b:Nat,(10:Int)=(b:Int)∧(b=10∨b=16):=⟨10,rfl,.inl rfl⟩
  have hn2:fO base 0 s=some n:=by
   obtain rfl:base=10:=Xa
   exact hn'
  by_cases d1:(s.length:Int)>2
  case' pos =>
   have d1':=dtq d1
   have d3':=d3 d1'
   have d2':=d2 d1'
   have d4:List.take s.length s=s:=List.take_length
   simp only[go_sem,d1',d3',Int.reduceToNat,List.drop_zero,d2',iNq]
   refine⟨⟨Xc,Xc,Xa⟩,?_⟩
  case' neg =>
   have d1':=dfq d1
   simp only[go_sem,d1',Int.reduceToNat,List.drop_zero,iNq]
  all_goals clear d2 d3 hn' hn hx d1 d1'
  all_goals obtain⟨x,hX,hT,hn2⟩:∃ x,x=s∧x.length≤1000∧fO base 0 x=some n:=⟨s,rfl,hT,hn2⟩
 all_goals
  refine aA (A:=Nat × Nat) (fun a=>[(0,.str x),(2,.ptr H.nx 0),(3,.int .i64 (base:Int)),(4,.ptr (H.nx+1) 0),(5,.int .i64 (a.1:Int))])
   (fun a=>(H.push (.cells [.int .u64 0,.int .u64 0])).push (.cells [.int .u64 ((a.2/2^64:Nat):Int),.int .u64 ((a.2%2^64:Nat):Int)])) (fun a=>a.1≤x.length∧a.2<2^128∧fO base a.2 (x.drop a.1)=some n) (fun a=>x.length-a.1) (0,0) ⟨Xb,Xc,by simpa using hn2⟩ ?_ fun a ha=>?_
  ·have hcl2:((H.push (.cells [.int .u64 0,.int .u64 0])).push (.cells [.int .u64 0,.int .u64 0])).Closed:=aa (aa hcl Xr) Xr
   refine T17 ?_
   refine⟨Xg,lRq _,hcl2,?_,?_⟩
   ·simp[znf,znn,znh,zle];omega
   ·simp[wk2,wk1,hX,← hB]
  obtain⟨i,m⟩:=a
  obtain⟨h1,h2,h3⟩:=ha
  dsimp only at h1 h2 h3 ⊢
  by_cases hi:i<x.length
  ·have d5:decide ((i:Int)<(x.length:Int))=true:=Xd
   obtain⟨c,r,hcr⟩:∃ c r,x.drop i=c::r:=⟨_,_,dcq hi⟩
   rw[hcr]at h3
   have hxc:x.getD i 0=c:=by
    have:=congrArg (fun l=>l.getD 0 0) hcr
    simpa[gEq]using this
   have hr:x.drop (i+1)=r:=by rw[← List.drop_drop,hcr];rfl
   obtain⟨g1,g2,g3⟩:=Ii h3
   obtain⟨q1,q2⟩:=Pi hb g1
   have hvo:vOf (m/2^64) (m%2^64)=m:=bZ m
   have hv1:mD (m/2^64:Nat) (m%2^64:Nat)=True:=eq_true (by refine⟨?_,?_,?_,?_⟩<;>omega)
   simp only[go_sem,d5,y7,hvo,hv1,vv,iNq,Int.reduceToNat]
   refine⟨⟨Xc,Xc⟩,⟨Xc,Xc⟩,?_⟩
   obtain⟨e8,h8⟩:∃ e8,e8=m <<<3%2^128:=⟨_,rfl⟩
   obtain⟨e2,he2⟩:∃ e2,e2=m <<<1%2^128:=⟨_,rfl⟩
   rw[← h8,← he2]
   rw[Nat.shiftLeft_eq]at h8 he2
   have l8:e8<2^128:=by rw[h8];exact Nat.mod_lt _ (by decide)
   have l2:e2<2^128:=by rw[he2];exact Nat.mod_lt _ (by decide)
   have v8:vOf (e8/2^64) (e8%2^64)=e8:=bZ e8
   have v2:vOf (e2/2^64) (e2%2^64)=e2:=bZ e2
   have w8:mD (e8/2^64:Nat) (e8%2^64:Nat)=True:=eq_true (by refine⟨?_,?_,?_,?_⟩<;>omega)
   have w2:mD (e2/2^64:Nat) (e2%2^64:Nat)=True:=eq_true (by refine⟨?_,?_,?_,?_⟩<;>omega)
   have hdl:dg c<16:=by rcases hb with rfl|rfl<;>omega
   have vd:vOf 0 (dg c)=dg c:=by simp[vOf]
   have wd:mD 0 (dg c:Nat)=True:=eq_true (by refine⟨?_,?_,?_,?_⟩<;>omega)
   have d7:(List.length x:Int)=x.length:=rfl
   have e1:IntKind.i64.wrap ((i:Int)+1)=((i+1:Nat):Int):=Xe
   have hxi:(i:Int)<x.length:=Xa
   have hi0:0≤(i:Int):=Int.natCast_nonneg i
   have hclo:∀ q:Nat,((H.push (.cells [.int .u64 0,.int .u64 0])).push (.cells [.int .u64 ((q/2^64:Nat):Int),.int .u64 ((q%2^64:Nat):Int)])).Closed:=fun q =>
    aa (aa hcl Xr) Xr
   obtain⟨two,d6,htwo,hsum⟩:∃ two,((base:Int)==16)=decide (base=16)∧two=(if base=16 then e8 else e2)∧((e8+two)%2^128+dg c)%2^128=m*base+dg c:=by
    refine⟨if base=16 then e8 else e2,?_,rfl,?_⟩
    ·rcases hb with rfl|rfl<;>rfl
    ·rcases hb with rfl|rfl
     ·rw[if_neg (Xc)];omega
     ·rw[if_pos rfl];omega
   obtain⟨t,ht⟩:∃ t,t=(e8+two)%2^128:=⟨_,rfl⟩
   have lt:t<2^128:=by rw[ht];exact Nat.mod_lt _ (by decide)
   have vt:vOf (t/2^64) (t%2^64)=t:=bZ t
   have wt:mD (t/2^64:Nat) (t%2^64:Nat)=True:=eq_true (by refine⟨?_,?_,?_,?_⟩<;>omega)
   rw[← ht]at hsum
   have hend:∀(fr':Fr)(H':AHeap),enterW H.nx fr' H' [(0,.str x),(2,.ptr H.nx 0),(3,.int .i64 (base:Int)),(4,.ptr (H.nx+1) 0),(5,.int .i64 ((i+1:Nat):Int))] ((H.push (.cells [.int .u64 0,.int .u64 0])).push (.cells [.int .u64 (((m*base+dg c)/2^64:Nat):Int),.int .u64 (((m*base+dg c)%2^64:Nat):Int)])) →
    ∃ a':Nat × Nat,(a'.fst≤x.length∧a'.snd<2^128∧fO base a'.snd (List.drop a'.fst x)=some n)∧x.length-a'.fst<x.length-i∧enterW H.nx fr' H' [(0,.str x),(2,.ptr H.nx 0),(3,.int .i64 (base:Int)),(4,.ptr (H.nx+1) 0),(5,.int .i64 (a'.1:Int))] ((H.push (.cells [.int .u64 0,.int .u64 0])).push (.cells [.int .u64 ((a'.2/2^64:Nat):Int),.int .u64 ((a'.2%2^64:Nat):Int)])):=fun fr' H' he =>
    ⟨(i+1,m*base+dg c),⟨hi,g2,by rw[hr];exact g3⟩,by show x.length-(i+1)<x.length-i;omega,he⟩
   cases hB6:decide (base=16)<;>cases h97:decide (((c.toNat:Nat):Int) ≥ 97)
   all_goals
    first
     |(have ht':t=(e8+e2)%2^128:=by rw[ht,htwo,if_neg (by simpa using hB6)])
     |(have ht':t=(e8+e8)%2^128:=by rw[ht,htwo,if_pos (by simpa using hB6)])
    first
     |(have q3:=q1 h97)
     |(have q3:=q2 h97)
    simp only[go_sem,d6,hB6,hxi,hi0,hxc,h97,q3,B3,w8,w2,v8,v2,wd,vd,← ht',vt,wt,hsum,vv,iNq,Int.reduceToNat,e1]
    refine hend _ _ ?_
    refine T17 ?_
    refine⟨Xg,((lRq _).push _).push _,hclo _,?_,?_⟩
    ·simp[znf,znn,znh,zle];omega
    ·simp[wk2,wk1]
  ·have d5:decide ((i:Int)<(x.length:Int))=false:=Xd
   have hm:m=n:=by
    rw[List.drop_eq_nil_of_le (Xa)]at h3
    cases h3;rfl
   subst hm
   simp only[go_sem,d5,vv]
   exact Z24
theorem Hr{P:Program}{f:FuncId}{args:List AV}{H H1:AHeap}{x:AV}{Q:AV→AHeap→Prop}(h:ACalls P f args H (.ret x) H1)(hq:Q x H1):ACallsP P f args H Q:=fun w γ vs hs hr=>by
 have h:=h w γ vs hs hr
 generalize (callFunc f vs).run P w=rr at h ⊢
 unfold UponCall at h ⊢
 split at h
 ·exact h.mono fun en w' ⟨γ',g1,g2,g3⟩=>⟨γ',x,H1,hq,g1,g2,g3⟩
 ·obtain⟨γ',g1,g2,g3⟩:=h
  exact⟨γ',x,H1,hq,g1,g2,g3⟩
 ·exact h
theorem Ok(f:Nat):EntOk Tryz.prog 237 (Ent.some (vh True f)):=by
 refine EntOk.some fun args H K h=>?_
 unfold vh at h
 split at h
 ·rename_i s
  obtain⟨n,⟨_,h1,h2⟩,hK⟩:=h
  obtain⟨x,hx,hc⟩:=ok_zVal0.1 rfl [.str s] H (fun v=>v=vv n) (show FP [.str s] H (fun v=>v=vv n) from⟨n,⟨h1,h2⟩,rfl⟩)
  subst hx
  exact Hr hc hK
 ·exact h.elim
