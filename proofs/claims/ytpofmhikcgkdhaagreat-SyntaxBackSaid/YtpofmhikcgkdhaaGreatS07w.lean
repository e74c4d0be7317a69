/- Lemmas of the proof; no condition. -/
import Derived.Test.YtpofmhikcgkdhaaGreatS07p
import Derived.Test.YtpofmhikcgkdhaaGreatS07u
set_option linter.all false
set_option maxRecDepth 10000
set_option maxHeartbeats 32000000
open Go Go.AL Go.Proofs
namespace Go.AL
theorem yk {m:Mark} {l:List Tok} {tb:Nat} {b:Bool} {K:Mark→List Tok→Nat→Bool→Nat→List Nd→Prop}:onQ (some (.cells [.slice m 3 (ce l),.int .i64 0,.bool b,.slice (.own tb) 7 []])) K=K m l 0 b tb []:=ar (p:=0) (t:=[])
theorem xV {P:Program} {t s u n0:Nat} {fr:Fr} {H:AHeap} {Q:AV→AHeap→Prop}:cA P [.tmp t,.tmp s,.tmp u] n0 Q fr H=mv n0 Q (.tup [Fr.get fr t,Fr.get fr s,Fr.get fr u]) H:=by simp [cA,gP,kI,one,mv]
theorem pD {P:Program} {H X:AHeap} {K:AV→AHeap→Prop} {fr:Fr} {m:Mark} {t:List Nd} {a b:Int} (hK:K (.tup [.slice .any 7 (nds t),.int .i64 a,.int .i64 b]) H) (hcl:H.Closed) (hle:H.Le X)
 (f2:Fr.get fr 2=.slice m 7 (nds t)) (f3:Fr.get fr 3=.int .i64 a) (f4:Fr.get fr 4=.int .i64 b):cA P [.tmp 2,.tmp 3,.tmp 4] H.nx K fr X:=by
 rw [xV,f2,f3,f4]
 refine ⟨_,H,hK,nrq _,?_,hle,hcl,?_⟩
 ·simp [wk,am,wk2,wk1,wkM]
 ·simp [zns,znu,znv,znf,gH]
theorem uc {A:Prop} {g:Nat} (hV:∀ f,EntOk Tryz.prog 107 (Ent.some (mK A f))):EntOk Tryz.prog 19 (Ent.some (lR A g)):=by
 refine EntOk.some fun args H K h=>?_
 unfold lR at h
 split at h
 rotate_left
 ·exact h.elim
 rename_i m x
 obtain ⟨l,f,r,⟨rfl,hr,hl,hgl,hfree⟩,hK⟩:=h
 have h_zImp:=(qj hV f).imp
 have hw:=aH f hr Good.nil trivial (Nat.zero_le _)
 refine ACallsP.of_aw (Ω:=[(40,Ent.some (fA A f)),(11,Ent.pure iV)]) (T:=ay [(4,[[],[],[],[],[],[],[3]]),(1,[[7]])]) aE (tCq h_zImp (tCq pY tNq)) Tryz.func19 (by kernel_rfl) (by rfl) (rs:=[.tmp 2,.tmp 3,.tmp 4]) (by rfl) (by kernel_rfl) (by simp only [Tryz.ntmps19,List.length_cons,List.length_nil];decide) fun hcl hlt=>?_
 change aw _ _ _ (KI Tryz.prog [(40,Ent.some (fA A f)),(11,Ent.pure iV)] (nw Tryz.prog [.tmp 2,.tmp 3,.tmp 4] H.nx _ (ay [(4,[[],[],[],[],[],[],[3]]),(1,[[7]])])) []) _ _
 have hm:∀ n',H.nx≤n'→AV.lt n' (.slice m 3 (ce l)):=fun n' hn=>AV.lt_mono hn _ (hlt (.slice m 3 (ce l)) (by simp))
 clear hlt
 simp only [go_sem,bhq,Nat.reduceMod,Nat.reduceDiv,gB,gC,hO,mL,g7,lW,kH,kZ,lz,List.take_succ_cons,List.take_zero,List.drop_succ_cons,List.drop_zero]
 refine tM 7 3 7 [.slice m 3 (ce l),.int .i64 0,.bool false,.slice .nil 1 []] (by simp [Fr.get]) rfl ?_
 simp only [List.set_cons_succ,List.set_cons_zero,go_sem,bhq,Nat.reduceMod,Nat.reduceDiv,gB,gC,hO,mL,g7,lW,kH,kZ,lz,List.take_succ_cons,List.take_zero,List.drop_succ_cons,List.drop_zero,fA,aG,yk,hr]
 have n1:(H.nx+1+1=H.nx+1)=False:=eq_false (by omega)
 have n2:(H.nx+1=H.nx+1+1)=False:=eq_false (by omega)
 have n3:(H.nx=H.nx+1)=False:=eq_false (by omega)
 have n4:(H.nx=H.nx+1+1)=False:=eq_false (by omega)
 refine ⟨⟨⟨by omega,?_,by simp,by simp,hl,hgl,Good.nil⟩,hfree⟩,?_⟩
 ·rw [gPq _ _ (by simp only [zle];omega)]
  exact AHeap.get_push_new _ _
 have hcl1:∀ p b t n,((((H.push (.buf 7 0)).push (.buf 7 n)).push (.cells [.slice m 3 (ce l),.int .i64 (p:Int),.bool b,.slice (.own (H.nx+1)) 7 (nds t)]))).Closed:=fun p b t n=>by
  refine aa (ag (ag hcl)) ?_
  simp only [znu,znv,znf,zng,gH,and_true,true_and,zle]
  exact ⟨hm _ (by omega),fun id h=>by cases h;omega⟩
 cases r with
 |bad q =>
  rw [aq]
  intro a t ht
  simp only [dM] at hK
  simp only [aS,go_sem,rst,n1,n2,n3,n4]
  exact pD (t:=[]) hK hcl (((((lRq H).push _).push _).push _).push _) rfl rfl rfl
 |ok a p t =>
  rw [ax]
  obtain ⟨k1,k2,k3,k4,k5,k6⟩:=hw
  have hnl:(nds t).length=t.length:=az
  have ht:t.length≤1000:=by simp at k3;omega
  simp only [dM] at hK
  by_cases hp:p<l.length
  ·have d0:decide ((p:Int)<(l.length:Int))=true:=by simp;omega
   rw [if_pos hp] at hK
   simp only [aS,go_sem,rst,n1,n2,n3,n4,aB,d0]
   exact pD (t:=[]) hK hcl (((((lRq H).push _).push _).push _).push _) rfl rfl rfl
  ·have d0:decide ((p:Int)<(l.length:Int))=false:=by simp;omega
   rw [if_neg hp] at hK
   simp only [aS,go_sem,rst,n1,n2,n3,n4,aB,d0,hnl]
   by_cases h1:120<t.length
   ·have hb:iI t=true:=by unfold iI;simp [h1]
    have d1:decide ((t.length:Int) > 120)=true:=by simp;omega
    rw [if_pos hb] at hK
    simp only [d1,go_sem]
    exact pD (t:=[]) hK hcl (((((lRq H).push _).push _).push _).push _) rfl rfl rfl
   ·have d1:decide ((t.length:Int) > 120)=false:=by simp;omega
    simp only [d1,go_sem,iV]
    refine ⟨t,⟨rfl,k5,ht⟩,?_⟩
    by_cases h2:12<dK t
    ·have hb:iI t=true:=by unfold iI;simp [h2]
     have d2:decide (((dK t:Nat):Int) > 12)=true:=by simp;omega
     rw [if_pos hb] at hK
     simp only [d2,go_sem]
     exact pD (t:=[]) hK hcl (((((lRq H).push _).push _).push _).push _) rfl rfl rfl
    ·have hb:¬ iI t=true:=by unfold iI;simp;omega
     have d2:decide (((dK t:Nat):Int) > 12)=false:=by simp;omega
     rw [if_neg hb] at hK
     simp only [d2,go_sem,hnl]
     exact pD hK hcl ((((lRq H).push _).push _).push _) rfl rfl rfl
theorem xk {base m n:Nat} {c:UInt8} {r:List UInt8} (h:cz base m (c::r)=some n):dg c<base∧m*base+dg c<2^128∧cz base (m*base+dg c) r=some n:=by
 unfold cz at h
 split at h
 ·rename_i h1
  split at h
  ·rename_i h2;exact ⟨h1,h2,h⟩
  ·cases h
 ·cases h
theorem A5 {c:UInt8} {base:Nat} (hb:base=10∨base=16) (h:dg c<base) :
 (decide (((c.toNat:Nat):Int) ≥ 97)=false→IntKind.u64.wrap (IntKind.u8.wrap (((c.toNat:Nat):Int) - 48))=(dg c:Int)) ∧
 (decide (((c.toNat:Nat):Int) ≥ 97)=true→IntKind.u64.wrap (IntKind.u64.wrap (IntKind.u8.wrap (((c.toNat:Nat):Int) - 97))+10)=(dg c:Int)):=by
 have h8:=UInt8.toNat_lt c
 have e8:∀ z:Int,IntKind.u8.wrap z=z % 256:=fun z=>by simp [IntKind.wrap,IntKind.signed,IntKind.bits]
 have e64:∀ z:Int,IntKind.u64.wrap z=z % 18446744073709551616:=fun z=>by simp [IntKind.wrap,IntKind.signed,IntKind.bits]
 unfold dg at h ⊢
 rw [e8,e8]
 simp only [e64]
 constructor
 ·intro h1
  have h1':((c.toNat:Nat):Int)<97:=by simpa using h1
  split at h
  ·rename_i h2;rw [if_pos h2];omega
  ·split at h<;>omega
 ·intro h1
  have h1':97≤((c.toNat:Nat):Int):=by simpa using h1
  split at h
  ·omega
  ·rename_i h2
   rw [if_neg h2]
   split at h
   ·rename_i h3;rw [if_pos h3];omega
   ·omega
def wg:List AV→AHeap→(AV→Prop)→Prop
 |[.str s],_,K=>∃ n,(lit s=some n∧s.length≤1000)∧K (vv n)
 |_,_,_=>False
theorem ok_zVal0:EntOk Tryz.prog 107 (Ent.pure wg):=by
 refine Ype fun _ H K h=>?_
 unfold wg at h
 split at h
 rotate_left
 ·exact h.elim
 rename_i s
 obtain ⟨n,⟨hn,hsl⟩,hK⟩:=h
 refine ⟨_,hK,?_⟩
 clear hK
 have hn128:=sf hn
 refine ACalls.fW aE (tCq xC (tCq zi tNq)) Tryz.func107 [.cell 2 55] (nrq _) (T:=ay [(8,[[],[0],[],[0,1,2],[],[],[0,1,2,3,4,5],[0,1,2,3,4,5]]),(808,[[4,55],[5,55]])]) (h:=fun hcl hlt=>?_)
 clear hlt
 -- the loop,for either base
 by_cases hx:dw s [48,120]=true
 case' pos =>
  have hl2:2<s.length:=by
   unfold lit at hn
   rw [if_pos hx] at hn
   obtain ⟨h1,h2⟩:=oL hx
   split at hn
   ·cases hn
   ·rename_i h3
    have:s.drop 2≠[]:=h3
    have:=List.length_pos_iff.2 this
    rw [List.length_drop] at this;omega
  have hn':cz 16 0 (s.drop 2)=some n:=by
   unfold lit at hn
   rw [if_pos hx] at hn
   split at hn
   ·cases hn
   ·exact hn
  have d1:decide ((s.length:Int) > 2)=true:=by simp;omega
  have d2:(List.take 2 s==[48,120])=true:=by
   obtain ⟨h1,h2⟩:=oL hx
   simpa using h2
  have d3:2≤s.length:=by omega
  have d4:List.take s.length s=s:=List.take_length
  have hT:(s.drop 2).length≤1000:=by rw [List.length_drop];omega
  simp only [go_sem,d1,d3,d4,Int.reduceToNat,List.drop_zero,d2,iNq]
  refine ⟨⟨by decide,by decide,by omega⟩,⟨by decide,by omega,by omega⟩,?_⟩
  obtain ⟨base,hB,hb⟩:∃ b:Nat,(16:Int)=(b:Int)∧(b=10∨b=16):=⟨16,rfl,.inr rfl⟩
  have hn2:cz base 0 (s.drop 2)=some n:=by
   obtain rfl:base=16:=by omega
   exact hn'
  clear hn' hn d1 d2 hx
  generalize s.drop 2=x at *
  have hX:x=x:=rfl
 case' neg =>
  have hn':cz 10 0 s=some n:=by
   unfold lit at hn
   rw [if_neg hx] at hn
   split at hn
   ·cases hn
   ·exact hn
  have hT:=hsl
  have d3:decide ((s.length:Int) > 2)=true→2≤s.length:=by simp;omega
  have d2:decide ((s.length:Int) > 2)=true→(List.take 2 s==[48,120])=false:=fun h=>by
   have h':2<s.length:=by simp at h;omega
   cases h2:(List.take 2 s==[48,120]) with
   |false=>rfl
   |true =>
    refine absurd ?_ hx
    match s,h',h2 with
    |a::b::r,_,h2=>simp at h2;simp [dw,h2]
  obtain ⟨base,hB,hb⟩:∃ b:Nat,(10:Int)=(b:Int)∧(b=10∨b=16):=⟨10,rfl,.inl rfl⟩
  have hn2:cz base 0 s=some n:=by
   obtain rfl:base=10:=by omega
   exact hn'
  by_cases d1:(s.length:Int) > 2
  case' pos =>
   have d1':=dtq d1
   have d3':=d3 d1'
   have d2':=d2 d1'
   have d4:List.take s.length s=s:=List.take_length
   simp only [go_sem,d1',d3',Int.reduceToNat,List.drop_zero,d2',iNq]
   refine ⟨⟨by decide,by decide,by omega⟩,?_⟩
  case' neg =>
   have d1':=dfq d1
   simp only [go_sem,d1',Int.reduceToNat,List.drop_zero,iNq]
  all_goals clear d2 d3 hn' hn hx d1 d1'
  all_goals obtain ⟨x,hX,hT,hn2⟩:∃ x,x=s∧x.length≤1000∧cz base 0 x=some n:=⟨s,rfl,hT,hn2⟩
 all_goals
  refine au (A:=Nat × Nat) (fun a=>[(0,.str x),(2,.ptr H.nx 0),(3,.int .i64 (base:Int)),(4,.ptr (H.nx+1) 0),(5,.int .i64 (a.1:Int))])
   (fun a=>(H.push (.cells [.int .u64 0,.int .u64 0])).push (.cells [.int .u64 ((a.2/2^64:Nat):Int),.int .u64 ((a.2 % 2^64:Nat):Int)])) (fun a=>a.1≤x.length∧a.2<2^128∧cz base a.2 (x.drop a.1)=some n) (fun a=>x.length - a.1) (0,0) ⟨by simp,by decide,by simpa using hn2⟩ ?_ fun a ha=>?_
  ·have hcl2:((H.push (.cells [.int .u64 0,.int .u64 0])).push (.cells [.int .u64 0,.int .u64 0])).Closed:=aa (aa hcl (by simp [znu,znv,znf])) (by simp [znu,znv,znf])
   simp only [bkq,enterW,aU,ltF,ne_eq,Nat.reduceEqDiff,reduceCtorEq]
   refine ⟨by simp only [zle];omega,lRq _,hcl2,?_,?_⟩
   ·simp [znf,znn,znh,zle];omega
   ·simp [wk2,wk1,hX,← hB]
  obtain ⟨i,m⟩:=a
  obtain ⟨h1,h2,h3⟩:=ha
  dsimp only at h1 h2 h3 ⊢
  by_cases hi:i<x.length
  ·have d5:decide ((i:Int)<(x.length:Int))=true:=by simp;omega
   obtain ⟨c,r,hcr⟩:∃ c r,x.drop i=c::r:=⟨_,_,dcq hi⟩
   rw [hcr] at h3
   have hxc:x.getD i 0=c:=by
    have:=congrArg (fun l=>l.getD 0 0) hcr
    simpa [gEq] using this
   have hr:x.drop (i+1)=r:=by rw [← List.drop_drop,hcr];rfl
   obtain ⟨g1,g2,g3⟩:=xk h3
   obtain ⟨q1,q2⟩:=A5 hb g1
   have hvo:vOf (m/2^64) (m % 2^64)=m:=iT m
   have hv1:gI (m/2^64:Nat) (m % 2^64:Nat)=True:=eq_true (by refine ⟨?_,?_,?_,?_⟩<;>omega)
   simp only [go_sem,d5,pB,hvo,hv1,vv,iNq,Int.reduceToNat]
   refine ⟨⟨by decide,by decide⟩,⟨by decide,by decide⟩,?_⟩
   obtain ⟨e8,h8⟩:∃ e8,e8=m <<< 3 % 2^128:=⟨_,rfl⟩
   obtain ⟨e2,he2⟩:∃ e2,e2=m <<< 1 % 2^128:=⟨_,rfl⟩
   rw [← h8,← he2]
   rw [Nat.shiftLeft_eq] at h8 he2
   have l8:e8<2^128:=by rw [h8];exact Nat.mod_lt _ (by decide)
   have l2:e2<2^128:=by rw [he2];exact Nat.mod_lt _ (by decide)
   have v8:vOf (e8/2^64) (e8 % 2^64)=e8:=iT e8
   have v2:vOf (e2/2^64) (e2 % 2^64)=e2:=iT e2
   have w8:gI (e8/2^64:Nat) (e8 % 2^64:Nat)=True:=eq_true (by refine ⟨?_,?_,?_,?_⟩<;>omega)
   have w2:gI (e2/2^64:Nat) (e2 % 2^64:Nat)=True:=eq_true (by refine ⟨?_,?_,?_,?_⟩<;>omega)
   have hdl:dg c<16:=by rcases hb with rfl|rfl<;>omega
   have vd:vOf 0 (dg c)=dg c:=by simp [vOf]
   have wd:gI 0 (dg c:Nat)=True:=eq_true (by refine ⟨?_,?_,?_,?_⟩<;>omega)
   have d7:(List.length x:Int)=x.length:=rfl
   have e1:IntKind.i64.wrap ((i:Int)+1)=((i+1:Nat):Int):=by rw [wrap_i64]<;>omega
   have hxi:(i:Int)<x.length:=by omega
   have hi0:0≤(i:Int):=Int.natCast_nonneg i
   have hclo:∀ q:Nat,((H.push (.cells [.int .u64 0,.int .u64 0])).push (.cells [.int .u64 ((q/2^64:Nat):Int),.int .u64 ((q % 2^64:Nat):Int)])).Closed:=fun q =>
    aa (aa hcl (by simp [znu,znv,znf])) (by simp [znu,znv,znf])
   obtain ⟨two,d6,htwo,hsum⟩:∃ two,((base:Int)==16)=decide (base=16)∧two=(if base=16 then e8 else e2)∧((e8+two) % 2^128+dg c) % 2^128=m*base+dg c:=by
    refine ⟨if base=16 then e8 else e2,?_,rfl,?_⟩
    ·rcases hb with rfl|rfl<;>rfl
    ·rcases hb with rfl|rfl
     ·rw [if_neg (by decide)];omega
     ·rw [if_pos rfl];omega
   obtain ⟨t,ht⟩:∃ t,t=(e8+two) % 2^128:=⟨_,rfl⟩
   have lt:t<2^128:=by rw [ht];exact Nat.mod_lt _ (by decide)
   have vt:vOf (t/2^64) (t % 2^64)=t:=iT t
   have wt:gI (t/2^64:Nat) (t % 2^64:Nat)=True:=eq_true (by refine ⟨?_,?_,?_,?_⟩<;>omega)
   rw [← ht] at hsum
   have hend:∀ (fr':Fr) (H':AHeap),enterW H.nx fr' H' [(0,.str x),(2,.ptr H.nx 0),(3,.int .i64 (base:Int)),(4,.ptr (H.nx+1) 0),(5,.int .i64 ((i+1:Nat):Int))] ((H.push (.cells [.int .u64 0,.int .u64 0])).push (.cells [.int .u64 (((m*base+dg c)/2^64:Nat):Int),.int .u64 (((m*base+dg c) % 2^64:Nat):Int)])) →
    ∃ a':Nat × Nat,(a'.fst≤x.length∧a'.snd<2^128∧cz base a'.snd (List.drop a'.fst x)=some n)∧x.length - a'.fst<x.length - i∧enterW H.nx fr' H' [(0,.str x),(2,.ptr H.nx 0),(3,.int .i64 (base:Int)),(4,.ptr (H.nx+1) 0),(5,.int .i64 (a'.1:Int))] ((H.push (.cells [.int .u64 0,.int .u64 0])).push (.cells [.int .u64 ((a'.2/2^64:Nat):Int),.int .u64 ((a'.2 % 2^64:Nat):Int)])):=fun fr' H' he =>
    ⟨(i+1,m*base+dg c),⟨hi,g2,by rw [hr];exact g3⟩,by show x.length - (i+1)<x.length - i;omega,he⟩
   cases hB6:decide (base=16)<;>cases h97:decide (((c.toNat:Nat):Int) ≥ 97)
   all_goals
    first
     |(have ht':t=(e8+e2) % 2^128:=by rw [ht,htwo,if_neg (by simpa using hB6)])
     |(have ht':t=(e8+e8) % 2^128:=by rw [ht,htwo,if_pos (by simpa using hB6)])
    first
     |(have q3:=q1 h97)
     |(have q3:=q2 h97)
    simp only [go_sem,d6,hB6,hxi,hi0,hxc,h97,q3,r9,w8,w2,v8,v2,wd,vd,← ht',vt,wt,hsum,vv,iNq,Int.reduceToNat,e1]
    refine hend _ _ ?_
    simp only [bkq,enterW,aU,ltF,ne_eq,Nat.reduceEqDiff,reduceCtorEq]
    refine ⟨by simp only [zle];omega,((lRq _).push _).push _,hclo _,?_,?_⟩
    ·simp [znf,znn,znh,zle];omega
    ·simp [wk2,wk1]
  ·have d5:decide ((i:Int)<(x.length:Int))=false:=by simp;omega
   have hm:m=n:=by
    rw [List.drop_eq_nil_of_le (by omega)] at h3
    cases h3;rfl
   subst hm
   simp only [go_sem,d5,vv]
   exact Z18
theorem xF {P:Program} {f:FuncId} {args:List AV} {H H1:AHeap} {x:AV} {Q:AV→AHeap→Prop} (h:ACalls P f args H (.ret x) H1) (hq:Q x H1):ACallsP P f args H Q:=fun w γ vs hs hr=>by
 have h:=h w γ vs hs hr
 generalize (callFunc f vs).run P w=rr at h ⊢
 unfold jZ at h ⊢
 split at h
 ·exact h.mono fun en w' ⟨γ',g1,g2,g3⟩=>⟨γ',x,H1,hq,g1,g2,g3⟩
 ·obtain ⟨γ',g1,g2,g3⟩:=h
  exact ⟨γ',x,H1,hq,g1,g2,g3⟩
 ·exact h
theorem BA (f:Nat):EntOk Tryz.prog 107 (Ent.some (mK True f)):=by
 refine EntOk.some fun args H K h=>?_
 unfold mK at h
 split at h
 ·rename_i s
  obtain ⟨n,⟨_,h1,h2⟩,hK⟩:=h
  obtain ⟨x,hx,hc⟩:=ok_zVal0.1 rfl [.str s] H (fun v=>v=vv n) (show wg [.str s] H (fun v=>v=vv n) from ⟨n,⟨h1,h2⟩,rfl⟩)
  subst hx
  exact xF hc hK
 ·exact h.elim
end Go.AL
