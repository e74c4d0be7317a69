/- Lemmas of the proof; no condition. -/
import Derived.Test.YtpbnggedofiinaaGreatM19j
set_option linter.all false
set_option maxRecDepth 10000
set_option maxHeartbeats 32000000
open Go Go.AL Go.Proofs
namespace Go.AL
def kOK (u:Int × SEntry):Bool:=decide (1≤u.1∧u.1≤3)
theorem Fw (l:List (Int × SEntry)):(!l.any wt)=l.all kOK:=by
 rw [← A2]
 congr 2
 funext u
 unfold wt kOK
 rw [Bool.eq_iff_iff];simp<;>omega
def oH (r:SReq):Bool:=([r.role,r.table,r.count,r.port].all fun n=>rg n 2)&&rg r.frm 4&&r.ups.all fun u=>rgE u.2
def okR (r:SReq):Bool:=Av r&&r.ups.all kOK
theorem rU (r:SReq):gU r=(okR r&&eqR (gV r) r):=by
 unfold gU okR Av
 rw [Fw,EE,Bool.and_assoc]
theorem rg0 (w:Int):rg 0 w=true:=by
 unfold rg
 refine dtq ⟨by omega,?_⟩
 exact Int.pow_pos (by decide)
theorem DO {l:List (Int × SEntry)} (h:l.all kOK=true):l.any ph=!l.all fun u=>rgE u.2:=by
 induction l with
 |nil=>rfl
 |cons u l ih =>
  rw [List.all_cons,Bool.and_eq_true] at h
  have hu:rg u.1 1=true:=by
   have:=h.1
   unfold kOK at this
   have:=of_decide_eq_true this
   exact dtq ⟨by omega,by show u.1<256;omega⟩
  rw [List.any_cons,List.all_cons,ih h.2]
  unfold ph
  rw [hu]
  simp
theorem F0 {r:SReq} (hp:gU r=true) (hu:r.ups.length≤32):(!rg r.kind 1||eI r.kind r)=!oH r:=by
 rw [rU,Bool.and_eq_true] at hp
 obtain ⟨h1,h2⟩:=hp
 unfold okR at h1
 rw [Bool.and_eq_true] at h1
 obtain ⟨h1,h3⟩:=h1
 have hv:=of_decide_eq_true h1
 have hk:=eE hv.1 hv.2
 have e:=(lZ _ _).1 h2
 have hb:=DO h3
 have hul:rg (r.ups.length:Int) 2=true:=dtq ⟨by omega,by show (r.ups.length:Int)<65536;omega⟩
 obtain ⟨k,ro,el,us,ta,fr,co,po,da⟩:=r
 dsimp only at hk hul hb hu
 have r1:∀ k,k=1∨k=2∨k=3∨k=4∨k=5∨k=6→rg k 1=true:=fun k h=>dtq ⟨by omega,by show k<256;omega⟩
 have hr1:=r1 k hk
 unfold gV cC at e
 dsimp only at e
 rcases hk with rfl|rfl|rfl|rfl|rfl|rfl
 all_goals
  simp only [Int.reduceEq,if_true,if_false,cm,SReq.mk.injEq,true_and,and_true] at e
  simp only [hr1,Bool.not_true,Bool.false_or,eI,Int.reduceEq,if_true,if_false,oH]
 ·obtain ⟨e1,e2,e3,e4,e5,e6⟩:=e
  subst e1 e2 e3 e4 e5 e6
  simp [rg0]
 ·obtain ⟨e1,e2,e3,e4,e5,e6,e7,e8⟩:=e
  subst e1 e3 e4 e5 e6 e7
  simp [rg0]
 ·obtain ⟨e1,e2,e3,e4,e5⟩:=e
  subst e1 e2 e3 e4 e5
  rw [hb,hul]
  simp [rg0]
 ·obtain ⟨e1,e2,e3,e4,e5,e6⟩:=e
  subst e2 e3 e4 e5
  simp [rg0]
 ·obtain ⟨e1,e2,e3,e4,e5⟩:=e
  subst e2 e3 e4
  simp [rg0]
  cases rg ro 2<;>cases rg fr 4<;>cases rg co 2<;>rfl
 ·obtain ⟨e1,e2,e3,e4,e5,e6⟩:=e
  subst e1 e3 e4 e5 e6
  simp [rg0]
theorem Iz {k:Int} (h:k=1∨k=2∨k=3∨k=4∨k=5∨k=6):∃ x:UInt8,AV.int .u8 (IntKind.u8.wrap k)=aL x∧aa k 1=[x]:=by
 rcases h with rfl|rfl|rfl|rfl|rfl|rfl
 ·exact ⟨1,rfl,rfl⟩
 ·exact ⟨2,rfl,rfl⟩
 ·exact ⟨3,rfl,rfl⟩
 ·exact ⟨4,rfl,rfl⟩
 ·exact ⟨5,rfl,rfl⟩
 ·exact ⟨6,rfl,rfl⟩
def su:List AV→AHeap→(AV→Prop)→Prop
 |[.ptr id 0],H,K=>onC (H.get id) fun b v=>K (.int .i64 ((2*v+1:Nat):Int))
 |_,_,_=>False
theorem DW:EntOk Tryz.prog 108 (Ent.pure su):=by
 refine Ype fun _ H K h=>?_
 unfold su at h
 split at h
 rotate_left
 ·exact h.elim
 rename_i id
 obtain ⟨b,v,hg,hb,hv,hK⟩:=fp h
 refine ⟨_,hK,?_⟩
 clear hK
 refine ACalls.fW ah tNq Tryz.func108 [.tmp 2] (nrq _) (T:=ae []) (h:=fun hcl hlt=>?_)
 clear hlt
 have hcs:=aM hg
 have e0:((min (cp v 0) b.length:Nat):Int)=v:=by unfold cp;omega
 have e1:IntKind.i64.wrap (2*(v:Int))=2*v:=by rw [wrap_i64]<;>omega
 have e2:IntKind.i64.wrap (2*(v:Int)+1)=2*v+1:=by rw [wrap_i64]<;>omega
 simp only [go_sem,hcs,e0,e1,e2]
 exact Z0
def gB (b:List UInt8) (n v:Nat):List UInt8:=(List.range n).map fun i=>UInt8.ofNat (cv b v 256+i*(2*min (v+1) b.length+1))
def ij:List AV→AHeap→(AEnd→AHeap→Prop)→Prop
 |[.ptr id 0,.int .i64 n],H,K=>onC (H.get id) fun b v=>(0≤n∧n≤1000)∧K (.ret (.ms (H.nx+1) 0 1 n.toNat)) (((H.set id (cr b (v+1))).push (.buf 1 0)).push (.cells (bys (gB b n.toNat v))))
 |_,_,_=>False
theorem Co (z:Nat):AV.int .u8 (IntKind.u8.wrap (z:Int))=aL (UInt8.ofNat z):=by
 unfold aL
 congr 1
theorem vt:EntOk Tryz.prog 34 (Ent.effect ij):=by
 refine EntOk.effect fun args H K h=>?_
 unfold ij at h
 split at h
 rotate_left
 ·exact h.elim
 rename_i id n
 obtain ⟨b,v,hg,hb,hv,⟨hn1,hn2⟩,hK⟩:=fp h
 refine ⟨_,_,hK,?_⟩
 clear hK
 obtain ⟨n,rfl⟩:=Int.eq_ofNat_of_zero_le (show 0≤n by omega)
 simp only [iNq]
 generalize hG:gB b n v=G
 refine ACalls.fW ah (tCq ff (tCq DW tNq)) Tryz.func34 [.tmp 4] (by simp only [zle,zlf];omega) (T:=ae []) (h:=fun hcl hlt=>?_)
 clear hlt
 have hid:=glq hg
 have hne:=iJ hid
 have hgc:=fo (b:=b) hid
 have hcl2:∀ w,(H.set id (cr b w)).Closed:=fun w=>aP hcl fk
 simp only [go_sem,byq,ay,su,hg,hgc,hne,av hb,aG,ap,aI]
 refine ⟨⟨by omega,by omega,by omega⟩,⟨by decide,by decide⟩,?_⟩
 have hx:cv b (cp v 0) 256≤255:=oZ
 have hlG:G.length=n:=by rw [← hG];simp [gB]
 have hgG:∀ j,j<n→G[j]?=some (UInt8.ofNat (cv b (cp v 0) 256+j*(2*min (v+1) b.length+1))):=fun j hj=>by
  rw [← hG];unfold gB;rw [List.getElem?_map,List.getElem?_range hj];rfl
 refine aK (A:=Nat × List UInt8) (fun x=>[(0,.ptr id 0),(5,.ms (H.nx+1) 0 1 n),(6,.int .i64 ((cv b (cp v 0) 256:Nat):Int)),(13,.int .i64 (n:Int)),(14,.int .i64 (x.1:Int))]) (fun x=>((H.set id (cr b (cp v 1))).push (.buf 1 0)).push (.cells (bys x.2))) (fun x=>x.1≤n∧x.2.length=n∧∀ j,j<x.1→x.2[j]?=G[j]?) (fun x=>n - x.1) (0,List.replicate n 0) ⟨by omega,by simp,by intro j hj;exact absurd hj (Nat.not_lt_zero _)⟩ ?_ fun x hx=>?_
 ·refine ⟨by simp only [zkq,zkv,zle,zlf];omega,lRq _,aD (bj (hcl2 _)) (by rw [zmp];trivial),?_,?_⟩
  ·simp [ltF,znf,znn,znp,zle,zlf]
   try omega
  ·simp [cf,wk2,wk1,wkM,Fr.get]
 obtain ⟨k,z⟩:=x
 obtain ⟨hk,hz,hzj⟩:=hx
 dsimp only at hk hz hzj ⊢
 simp only [go_sem]
 refine af (fun hc=>?_) (fun hc=>?_)
 ·have hk':k<n:=by simp at hc;omega
  have e5:=Yk5 k
  obtain ⟨st,hst⟩:∃ st,2*min (cp v 1) b.length+1=st:=⟨_,rfl⟩
  have hst2:st≤2000001:=by omega
  have hm1:k*st≤1000*2000001:=Nat.mul_le_mul (by omega) hst2
  have e6:IntKind.i64.wrap ((k:Int)*(st:Int))=((k*st:Nat):Int):=by rw [← Int.natCast_mul,wrap_i64]<;>omega
  have e7:IntKind.i64.wrap (((cv b (cp v 0) 256:Nat):Int)+((k*st:Nat):Int))=((cv b (cp v 0) 256+k*st:Nat):Int):=by rw [wrap_i64]<;>omega
  simp only [go_sem,byq,su,hg,hgc,hne,av hb,aG,ap,aI,iNq,hst,e6,e7,Co]
  obtain ⟨y,hy⟩:∃ y,UInt8.ofNat (cv b (cp v 0) 256+k*st)=y:=⟨_,rfl⟩
  have hgk:=hgG k hk'
  rw [show 2*min (v+1) b.length+1=st from hst,hy] at hgk
  have hsp:splice (bys z) k (bys [y])=bys (z.set k y):=by
   rw [zmq (by simp;omega),List.set_eq_take_append_cons_drop,if_pos (by omega)]
   simp
  rw [hy,hsp]
  refine ⟨⟨by omega,by omega⟩,by omega,(k+1,z.set k y),⟨by dsimp only;omega,by simp [hz],fun j hj=>?_⟩,by dsimp only;omega,?_⟩
  ·dsimp only at hj ⊢
   by_cases hjk:j=k
   ·subst hjk
    rw [List.getElem?_set_self (by omega),hgk]
   ·rw [List.getElem?_set_ne (by omega)];exact hzj j (by omega)
  refine ⟨by simp only [zle,zlf];omega,lRq _,aD (bj (hcl2 _)) (by rw [zmp];trivial),?_,?_⟩
  ·simp [ltF,znf,znn,znp,zle,zlf]
   try omega
  ·simp [cf,wk2,wk1,wkM,Fr.get,e5]
 ·have hk':k=n:=by simp at hc;omega
  subst hk'
  have hzG:z=G:=by
   refine List.ext_getElem? fun j=>?_
   by_cases hj:j<k
   ·exact hzj j hj
   ·rw [gNq (by omega),gNq (by omega)]
  subst hzG
  simp only [go_sem]
  refine ⟨rfl,lRq _,aD (bj (hcl2 _)) (by rw [zmp];trivial),?_⟩
  simp [znp,zle,zlf]
theorem kF {b:List UInt8} {n v:Nat}:gB b n (min v b.length)=gB b n v:=by
 unfold gB
 rw [aG,show min (min v b.length+1) b.length=min (v+1) b.length by omega]
theorem qG {b:List UInt8} {n v:Nat}:(gB b n v).length=n:=by simp [gB]
def fb (x:UInt8) (k:Nat):UInt8:=UInt8.ofNat (ior .u8 (we .u8 (x.toNat:Int) 15) (IntKind.u8.wrap (([16,32,96,160]:List Int).getD k 0))).toNat
def np (b:List UInt8) (v:Nat):List UInt8 × Nat :=
 if cv b (cp v 0) 14=0 then (gB b 0 (cp v 1),cp v 2) else if cv b (cp v 2) 2=1 then ((gB b (cv b (cp v 0) 14) (cp v 1)).set 0 (fb ((gB b (cv b (cp v 0) 14) (cp v 1)).getD 0 0) (cv b (cp v 3) 4)),cp v 4) else (gB b (cv b (cp v 0) 14) (cp v 1),cp v 3)
theorem tu {b:List UInt8} {v:Nat}:(np b v).1.length≤13:=by
 have h:=cn (b:=b) (v:=cp v 0) (n:=14) (by decide)
 unfold np
 repeat' split
 all_goals simp [qG];try omega
def gh:List AV→AHeap→(AEnd→AHeap→Prop)→Prop
 |[.ptr id 0],H,K=>onC (H.get id) fun b v=>K (.ret (.slice .any 1 (bys (np b v).1))) (H.set id (cr b (np b v).2))
 |_,_,_=>False
theorem zH {H' H1:AHeap} {i n:Nat} {l:List UInt8} (h1:ai H' i=some (bys l)) (h2:l.length=n) (h3:H1.nx≤i):wk H' H1 (.ms i 0 1 n) (.slice .any 1 (bys l)):=by
 simp only [wk,wk2,wk1,h1,true_or,true_and,List.drop_zero]
 refine ⟨?_,zmv h3⟩
 rw [zmr (by omega),← h2,List.take_length]
theorem HU {w:Int} (h:∃ z,w=IntKind.u8.wrap z):AV.int .u8 w=aL (UInt8.ofNat w.toNat):=by
 obtain ⟨z,rfl⟩:=h
 have h1:IntKind.u8.wrap z=z % 256:=rfl
 have h2:0≤z % 256∧z % 256<256:=by omega
 unfold aL
 congr 1
 rw [UInt8.toNat_ofNat',h1]
 omega
theorem Gr {α:Type} (f:Int→α) (d:α) (a b c e:Int) {k:Nat} (h:k<4):[f a,f b,f c,f e].getD k d=f ([a,b,c,e].getD k 0):=by
 match k,h with
 |0,_|1,_|2,_|3,_=>rfl
theorem B7:EntOk Tryz.prog 31 (Ent.effect gh):=by
 refine EntOk.effect fun args H K h=>?_
 unfold gh at h
 split at h
 rotate_left
 ·exact h.elim
 rename_i id
 obtain ⟨b,v,hg,hb,hv,hK⟩:=fp h
 refine ⟨_,_,hK,?_⟩
 clear hK
 obtain ⟨R,hR⟩:∃ R,np b v=R:=⟨_,rfl⟩
 rw [hR]
 unfold np at hR
 refine ACalls.fW ah (tCq ff (tCq vt (tCq jf tNq))) Tryz.func31 [.tmp 2] (by simp only [zlf];omega) (T:=ae [(3,[[],[],[],[],[],[],[],[],[],[7],[7,9],[],[],[3,7,9]]),(803,[[100005]])]) (h:=fun hcl hlt=>?_)
 clear hlt
 have hid:=glq hg
 have hne:=iJ hid
 have hgc:=fo (b:=b) hid
 have hcl2:∀ w,(H.set id (cr b w)).Closed:=fun w=>aP hcl fk
 have hn:=cn (b:=b) (v:=cp v 0) (n:=14) (by decide)
 simp only [go_sem,byq,ay,ij,hg,hgc,hne,av hb,aG,ap,aI,kF]
 refine ⟨⟨by decide,by decide⟩,⟨by omega,by omega⟩,bM (fun h1=>?_) (fun h1=>?_)⟩
 ·have hz:¬ cv b (cp v 0) 14=0:=by simp at h1;omega
  rw [if_neg hz] at hR
  simp only [go_sem,byq,bm,hg,hgc,hne,av hb,aG,ap,aI,kF]
  refine af (fun h2=>?_) (fun h2=>?_)
  ·have h2':cv b (cp v 2) 2=1:=of_decide_eq_true h2
   rw [if_pos h2'] at hR
   subst hR
   simp only [go_sem,byq,ay,hg,hgc,hne,av hb,aG,ap,aI,kF]
   have hGl:=qG (b:=b) (n:=cv b (cp v 0) 14) (v:=cp v 1)
   generalize gB b (cv b (cp v 0) 14) (cp v 1)=G at *
   obtain ⟨x,G,rfl⟩:∃ x G',G=x::G':=by
    cases G with
    |nil=>simp at hGl;omega
    |cons x G'=>exact ⟨x,G',rfl⟩
   have hgd:(bys (x::G)).getD 0 .junk=.int .u8 (x.toNat:Int):=rfl
   have h4:=cn (b:=b) (v:=cp v 3) (n:=4) (by decide)
   have hL:=Gr (AV.int .i64) .junk 16 32 96 160 h4
   simp only [go_sem,byq,ay,hg,hgc,hne,av hb,aG,ap,aI,kF,hgd,hL,iNq]
   refine ⟨⟨by decide,by omega⟩,⟨by decide,by decide⟩,⟨by omega,by omega⟩,⟨by decide,by omega⟩,?_⟩
   have hf:AV.int .u8 (ior .u8 (we .u8 (x.toNat:Int) 15) (IntKind.u8.wrap (([16,32,96,160]:List Int).getD (cv b (cp v 3) 4) 0)))=aL (fb x (cv b (cp v 3) 4)):=HU ⟨_,rfl⟩
   rw [hf]
   exact ⟨zH (by simp only [go_sem];rw [show ∀ y:UInt8,[aL y]=bys [y] from fun _=>rfl,zmq (by simp)];simp) (by simpa using hGl) (by simp only [zlf];omega),by repeat first|exact .refl _|refine .push ?_ _,hcl2 _,by rw [zms];intro i e;cases e⟩
  ·have h2':¬ cv b (cp v 2) 2=1:=of_decide_eq_false h2
   rw [if_neg h2'] at hR
   subst hR
   simp only [go_sem,byq]
   exact ⟨zH (by simp only [go_sem]) qG (by simp only [zlf];omega),by repeat first|exact .refl _|refine .push ?_ _,hcl2 _,by rw [zms];intro i e;cases e⟩
 ·have hz:cv b (cp v 0) 14=0:=by simp at h1;omega
  rw [if_pos hz] at hR
  subst hR
  rw [hz]
  simp only [go_sem,byq]
  exact ⟨zH (by simp only [go_sem]) qG (by simp only [zlf];omega),by repeat first|exact .refl _|refine .push ?_ _,hcl2 _,by rw [zms];intro i e;cases e⟩
end Go.AL
