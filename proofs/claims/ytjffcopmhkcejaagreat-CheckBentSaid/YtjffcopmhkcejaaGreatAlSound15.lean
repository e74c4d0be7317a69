/- Lemmas of the proof; no condition. -/
import Derived.Test.YtjffcopmhkcejaaGreatAlSound10
set_option linter.all false
set_option linter.unusedSectionVars false
namespace Go.AL
structure Inv(w0:World)(γ0:cQ)(H0:AHeap)(ds:List Deferred)(n:Nat)(w:World)(γ:cQ)(H:AHeap)(f:Nat→AV)(a:Act):Prop where
 state:State w γ H
 ext:Ext w0 γ0 H0 w γ H
 sim:SimF w γ H f a
 size:a.tmps.size=n
 defers:a.defers=ds
def mC(n:Nat)(o:Oper):Bool:=match o.dst with|some d=>decide (d<n)|none=>true
def uM(f:Nat→AV)(d:Option Nat)(x:AV):Nat→AV:=match d with
 |some d=>fun t=>if t=d then x else f t
 |none=>f
def gZ(fr:Fr)(d:Option Nat)(x:AV):Fr.get (fr.put d x)=uM (Fr.get fr) d x:=by
 cases d with
 |none=>rfl
 |some d =>
  funext t
  simp only[Fr.put,Fr.get,uM]
  by_cases h:d=t
  ·rw[if_pos h,if_pos h.symm]
  ·rw[if_neg h,if_neg (fun e=>h e.symm)]
theorem Act.size_put(a:Act)(d:Option Tmp)(v:Value):(a.put d v).tmps.size=a.tmps.size:=by
 cases d<;>simp[Act.put]
theorem Act.defers_put(a:Act)(d:Option Tmp)(v:Value):(a.put d v).defers=a.defers:=by
 cases d<;>rfl
section
variable {P:Program} {Ω:Tbl} {w0:World} {γ0:cQ} {H0:AHeap} {ds:List Deferred} {n:Nat}
theorem Inv.put{w:World}{γ:cQ}{H:AHeap}{f:Nat→AV}{a:Act}(h:Inv w0 γ0 H0 ds n w γ H f a){o:Oper}(hd:mC n o=true){w':World}{γ':cQ}{H':AHeap}{x:AV}{v:Value}
 (hs:State w' γ' H') (he:Ext w γ H w' γ' H') (hr:Rel w' γ' H' x v):Inv w0 γ0 H0 ds n w' γ' H' (uM f o.dst x) (a.put o.dst v) where
 state:=hs
 ext:=h.ext.trans he
 sim:=by
  have hsim:=h.sim.ext he
  unfold mC at hd
  split at hd
  ·rename_i d hd'
   intro t
   have hlt:d<a.tmps.size:=by rw[h.size];simpa using hd
   simp only[uM,hd',Act.put]
   by_cases ht:t=d
   ·subst ht;simp[hlt,hr]
   ·rw[if_neg ht]
    have:=hsim t
    exact W28
  ·rename_i hd'
   rw[hd'];exact hsim
 size:=by rw[Act.size_put];exact h.size
 defers:=by rw[Act.defers_put];exact h.defers
def KS(P:Program)(Ω:Tbl)(o:Oper)(fr:Fr):Bool :=
 match o.op with
 |.call {callee:=.value f,.. }=>match ev fr f with
  |.func (.func k) _ _=>match qD Ω k with
   |some e=>e.s.isSome
   |none=>false
  |_=>false
 |_=>false
def Sq(hΩ:TblOk P Ω){o:Oper}{fr:Fr}{H:AHeap}{K:Vz}{Kp:Fr→AV→AHeap→Prop}(hn:KS P Ω o fr=true)(h:sO P Ω o fr H K Kp){w:World}{γ:cQ}{a:Act}
 (hs:State w γ H) (hf:SimF w γ H (Fr.get fr) a) {K':Act→World→Prop} {Q:Exit→Act→World→Prop}
 (hK:∀ x H1 v w' γ',K (fr.put o.dst x) H1→State w' γ' H1→Ext w γ H w' γ' H1→Rel w' γ' H1 x v→K' (a.put o.dst v) w'):o.wp P a w K' Q:=by
 obtain⟨dst,op,ty,pos,after,guard⟩:=o
 unfold KS at hn
 dsimp only at hn
 split at hn
 ·rename_i f args argTypes
  split at hn
  ·rename_i k first cap hev
   split at hn
   ·rename_i e he
    obtain⟨q,hq⟩:=Option.isSome_iff_exists.1 hn
    have hc:lu (.call {callee:=.value f,args:=args,argTypes:=argTypes})=true:=rfl
    unfold sO at h
    dsimp only at h
    rw[if_pos hc]at h
    simp only[vW,hev,ut,he,hq]at h
    have hE:=(hΩ k e he).2.2 q hq _ _ _ h
    have hg:evF (Fr.get fr) f=.func (.func k) first cap:=by rw[← je];exact hev
    rw[je]at hE
    exact uq (c:={callee:=.value f,args:=args,argTypes:=argTypes}) rfl rfl hg hE hs hf hK
   ·cases hn
  ·cases hn
 ·cases hn
def FO(hΩ:TblOk P Ω){o:Oper}{fr:Fr}{H:AHeap}{K:Vz}{Kp:Fr→AV→AHeap→Prop}(hn:pD o.op=false∨lu o.op=true)(hnd:KS P Ω o fr=false)(h:sO P Ω o fr H K Kp) :
 ∃ e H',ST P o (Fr.get fr) H e H'∧match e with|.ret x=>K (fr.put o.dst x) H'|.panic v=>Kp fr v H':=by
 unfold sO at h
 split at h
 ·unfold vW at h
  split at h
  ·rename_i f args argTypes hop
   split at h
   ·rename_i k first cap hev
    have hg:evF (Fr.get fr) f=.func (.func k) first cap:=by rw[← je];exact hev
    unfold ut at h
    split at h
    ·exact h.elim
    ·rename_i e he
     have hE:=hΩ k e he
     have hnone:e.s=none:=by
      unfold KS at hnd
      simp only[hop,hev,he]at hnd
      cases hes:e.s with
      |none=>rfl
      |some q=>rw[hes]at hnd;cases hnd
     rw[hnone]at h
     dsimp only at h
     split at h
     ·rename_i heff
      obtain⟨x,H1,h1,h2⟩:=hE.2.1 heff _ _ _ h
      refine⟨x,H1,.call _ f k first cap x H1 hop rfl hg (by rw[← je];exact h2),?_⟩
      cases x<;>exact h1
     ·rename_i heff
      obtain⟨x,h1,h2⟩:=hE.1 (by simpa using heff) _ _ _ h
      exact⟨.ret x,H,.call _ f k first cap _ H hop rfl hg (by rw[← je];exact h2),h1⟩
   ·exact h.elim
  ·rename_i x hop
   split at h
   ·rename_i t v hev
    exact⟨_,H,.panic x t v hop (by rw[← je];exact hev),h⟩
   ·exact h.elim
  ·exact h.elim
 ·rename_i hcl
  rw[if_neg (by rcases hn with hn|hn<;>simp_all)]at h
  split at h
  ·rename_i r hr
   refine⟨_,_,.res r (by rw[← je];exact hr) h.1,h.2⟩
  ·exact h.elim
def wl{ops:Array Oper}{w:World}{γ:cQ}{H:AHeap}{f:Nat→AV}{a:Act}(hf:SimF w γ H f a){j t:Nat}{b:Bool}(hd:kU ops j=some t)(hb:f t=.bool b) :
 yielded ops a.tmps j=some b:=by
 unfold yielded
 have:(ops[j]?).bind (·.dst)=some t:=hd
 rw[this]
 have h:=hf t
 rw[hb,Rel]at h
 simp only[Option.bind_some]
 rw[Array.getD_eq_getD_getElem?]at h
 cases h2:a.tmps[t]? with
 |none=>rw[h2]at h;cases h
 |some v=>rw[h2]at h;simp only[Option.getD_some]at h;rw[h]
def qT{w:World}{γ:cQ}{H:AHeap}:Rel w γ H (.tup []) undef:=by
 rw[Rel];exact⟨#[],rfl,rfl,fun j hj=>absurd hj Xc⟩
def uo{ops:Array Oper}{fr:Fr}{j:Nat}(h:uA ops fr j=.tup []):∃ t,kU ops j=some t∧Fr.get fr t=.tup []:=by
 unfold uA at h
 unfold kU
 split at h
 ·rename_i d hd;exact⟨d,hd,h⟩
 ·cases h
def rH{ops:Array Oper}{w:World}{γ:cQ}{H:AHeap}{f:Nat→AV}{a:Act}(hf:SimF w γ H f a){j t:Nat}(hd:kU ops j=some t)(hb:f t=.tup []) :
 yielded ops a.tmps j=none:=by
 have hr:=hf t
 rw[hb,Rel]at hr
 obtain⟨C,hv,hs,_⟩:=hr
 unfold yielded
 have hd':(ops[j]?).bind (·.dst)=some t:=hd
 rw[hd']
 simp only[Option.bind_some]
 rw[Array.getD_eq_getD_getElem?]at hv
 cases he:a.tmps[t]? with
 |none=>rfl
 |some u=>rw[he]at hv;simp only[Option.getD_some]at hv;rw[hv]
def wg{ops:Array Oper}{fr:Fr}{j:Nat}{b:Bool}(h:uA ops fr j=.bool b):∃ t,kU ops j=some t∧Fr.get fr t=.bool b:=by
 unfold uA at h
 split at h
 ·rename_i t ht;exact⟨t,ht,h⟩
 ·cases h
def qV{f:Nat→AV}{t:Nat}{x:AV}(h:f t=x):uM f (some t) x=f:=by
 funext s
 simp only[uM]
 split
 ·rename_i e;rw[e,h]
 ·rfl
theorem xv{α β δ:Type}(r:Result α)(f:α→World→Result β)(g:β→World→Result δ):(r.andThen f).andThen g=r.andThen fun a w=>(f a w).andThen g:=by cases r<;>rfl
def Sd{t:TypeId}{v:Value}{xo yo:Operand}{a:Option Addr}{n m:Nat}{e:TypeId}(hv:v=.slice a n m)(hu:P.underlying t=some (.slice e))(neg:Bool)(w:World) :
 ((do eqGuard (if neg then .neq else .eql) t xo yo v (.slice none 0 0);binOp (if neg then .neq else .eql) t v (.slice none 0 0):Sem Value).run P w)=.ok (.bool (a.isNone !=neg)) w:=by
 subst hv
 simp only[eqGuard_at_slice,Sem.run_bind,Sem.run_pure,Result.andThen_ok]
 refine rY (by cases neg<;>simp[binOp]) (fun k=>?_)
 cases a<;>simp[Op.equalIn,bN hu]
def Dc{y:Operand}(h:zv y=true):y=.const (.slice none 0 0):=by
 unfold zv at h
 split at h
 ·rfl
 ·cases h
def Fv{w:World}{γ:cQ}{H:AHeap}{x:AV}{v:Value}{td:Option TD}{op:BinOp}{K:Bool→Prop}(h:xz td op x K)(hr:Rel w γ H x v) :
 ∃ e neg a n m,td=some (.slice e)∧op=(if neg then .neq else .eql)∧v=.slice a n m∧K (a.isNone !=neg):=by
 unfold xz at h
 split at h
 ·rename_i e m sz xs
  rw[Rel]at hr
  rcases hr with⟨⟨a,rfl⟩,hx,_⟩|⟨blk,off,cap,C,ty,fr,rfl,_⟩
  ·exact⟨e,false,a,0,0,rfl,rfl,rfl,h _ fun hne=>absurd hx hne⟩
  ·exact⟨e,false,_,_,_,rfl,rfl,rfl,h _ fun hne=>rfl⟩
 ·rename_i e m sz xs
  rw[Rel]at hr
  rcases hr with⟨⟨a,rfl⟩,hx,_⟩|⟨blk,off,cap,C,ty,fr,rfl,_⟩
  ·exact⟨e,true,a,0,0,rfl,rfl,rfl,h _ fun hne=>absurd hx hne⟩
  ·exact⟨e,true,_,_,_,rfl,rfl,rfl,h _ fun hne=>rfl⟩
 ·rename_i e _ _ _ _
  rw[Rel]at hr
  obtain⟨_,_,⟨_,a,rfl⟩|⟨blk,cap,C,ty,fr,_,rfl,_⟩⟩:=hr
  ·exact⟨e,false,a,0,0,rfl,rfl,rfl,h _⟩
  ·exact⟨e,false,_,_,_,rfl,rfl,rfl,h _⟩
 ·rename_i e _ _ _ _
  rw[Rel]at hr
  obtain⟨_,_,⟨_,a,rfl⟩|⟨blk,cap,C,ty,fr,_,rfl,_⟩⟩:=hr
  ·exact⟨e,true,a,0,0,rfl,rfl,rfl,h _⟩
  ·exact⟨e,true,_,_,_,rfl,rfl,rfl,h _⟩
 ·exact h.elim
def xr{o:Oper}{fr:Fr}{H:AHeap}{K:Vz}(ho:pD o.op=true)(h:zG P o fr H K){w:World}{γ:cQ}{a:Act}(hs:State w γ H)(hf:SimF w γ H (Fr.get fr) a){K':Act→World→Prop}{Q:Exit→Act→World→Prop}
 (hK:∀ b,K (fr.put o.dst (.bool b)) H→K' (a.put o.dst (.bool b)) w):o.wp P a w K' Q:=by
 obtain⟨dst,op,ty,pos,after,guard⟩:=o
 unfold zG at h
 split at h
 ·rename_i bop t x y u hop
  dsimp only at hop ho
  subst hop
  have hy:=Dc (y:=y) ho
  subst hy
  have hx:=hf.eval x
  rw[← je]at hx
  obtain⟨e,neg,ad,n,m,htd,rfl,hv,hk⟩:=Fv h hx
  obtain⟨d,it,hu,hi',hd⟩:=jD htd
  cases d<;>simp[gv]at hd
  have hrun:(execOp a.eval ⟨dst,.binOp (if neg then .neq else .eql) t x (.const (.slice none 0 0)) u,ty,pos,after,guard⟩).run P w=.ok (.value (.bool (ad.isNone !=neg))) w:=by
   have:=Sd (P:=P) (xo:=x) (yo:=.const (.slice none 0 0)) hv hu neg w
   have h2:=congrArg (fun r=>r.andThen fun a w'=>Result.ok (Next.value a) w') this
   simpa[execOp,Act.eval,xv]using h2
  unfold Oper.wp
  rw[hrun]
  exact hK _ hk
 ·exact h.elim
theorem mB(hΩ:TblOk P Ω){ops:Array Oper}{K:Vz}{Kp:Fr→AV→AHeap→Prop}{Q:Exit→Act→World→Prop}
 (tl:List Oper) (hK:∀ fr H w γ a,Inv w0 γ0 H0 ds n w γ H (Fr.get fr) a→K fr H→wpList P ops Q tl a w)
 (hKp:∀ fr x v H w γ a,Inv w0 γ0 H0 ds n w γ H (Fr.get fr) a→Rel w γ H x v→Kp fr x H→Q (.panic [{v,recovered:=false}]) a w) :
 ∀(l:List Oper),(∀ o∈l,mC n o=true)→∀ fr H w γ a,Inv w0 γ0 H0 ds n w γ H (Fr.get fr) a→cC P Ω ops l K Kp fr H→wpList P ops Q (l++tl) a w
 |[],_,fr,H,w,γ,a,hi,h=>hK fr H w γ a hi h
 |o::rest,hd,fr,H,w,γ,a,hi,h=>by
  have ih:=mB (ops:=ops) hΩ tl hK hKp rest (fun o ho=>hd o (List.mem_cons_of_mem _ ho))
  have hdo:=hd o List.mem_cons_self
  have run:∀ fr',Fr.get fr'=Fr.get fr→sO P Ω o fr' H (cC P Ω ops rest K Kp) Kp→o.wp P a w (wpList P ops Q (rest++tl)) Q:=by
   intro fr' hfr h
   by_cases hn:pD o.op=false∨lu o.op=true
   case neg =>
    have hn1:pD o.op=true:=by cases h':pD o.op<;>simp_all
    have hn2:lu o.op=false:=by cases h':lu o.op<;>simp_all
    unfold sO at h
    rw[if_neg (by simp[hn2]),if_pos hn1]at h
    refine xr hn1 h hi.state (by rw[hfr];exact hi.sim) fun b hk=>?_
    have hi':=hi.put (x:=.bool b) (v:=.bool b) hdo hi.state (Ext.refl _ _ _) (by rw[Rel])
    rw[← hfr,← gZ]at hi'
    exact ih _ _ _ _ _ hi' hk
   by_cases hnd:KS P Ω o fr'=true
   ·refine Sq hΩ hnd h hi.state (by rw[hfr];exact hi.sim) fun x H1 v w' γ' hk h1 h2 h3=>?_
    exact W42
   obtain⟨e,H',hst,hk⟩:=FO hΩ hn (by simpa using hnd) h
   rw[hfr]at hst
   refine hst.sound hi.state hi.sim (fun x v w' γ' he h1 h2 h3=>?_) (fun x v w' γ' he h1 h2 h3=>?_)
   ·subst he
    exact W42
   ·subst he
    exact hKp fr' x v H' w' γ' a ⟨h1,hi.ext.trans h2,by rw[hfr];exact hi.sim.ext h2,hi.size,hi.defers⟩ h3 hk
  unfold cC at h
  rw[List.cons_append]
  unfold wpList
  cases hg:o.guard with
  |none =>
   rw[hg]at h
   rw[if_pos (by simp[Region.wanted,hg])]
   exact .inl (run fr rfl h)
  |some gw =>
   obtain⟨j,want⟩:=gw
   rw[hg]at h
   dsimp only at h
   split at h
   ·rename_i b hb
    obtain⟨t,ht,hft⟩:=wg hb
    have hy:=wl hi.sim ht hft
    by_cases hbw:b=want
    ·rw[if_pos (by simp[Region.wanted,hg,hy,hbw])]
     refine .inl (run _ ?_ (h.1 hbw))
     rw[gZ,ht]
     exact qV (by rw[hft,hbw])
    ·rw[if_neg (by simp[Region.wanted,hg,hy,hbw])]
     have:=hi.put (x:=.tup []) (v:=undef) hdo hi.state (Ext.refl _ _ _) qT
     refine ih _ _ _ γ _ ?_ (h.2 (by cases b<;>cases want<;>simp_all))
     rw[gZ,gZ,ht,qV (by rw[hft];cases b<;>cases want<;>simp_all)]
     exact this
   ·rename_i hb
    obtain⟨t,ht,hft⟩:=uo hb
    have hy:=rH hi.sim ht hft
    rw[if_neg (by simp[Region.wanted,hg,hy])]
    have:=hi.put (x:=.tup []) (v:=undef) hdo hi.state (Ext.refl _ _ _) qT
    refine ih _ _ _ γ _ ?_ h
    rw[gZ]
    exact this
   ·exact h.elim
end
def nI{P:Program}{o:Oper}{e e':Operand→AV}{H:AHeap}(h:∀ x∈o.op.operands,e x=e' x):jn P o e H=jn P o e' H:=by
 obtain⟨dst,op,type,pos,after,guard⟩:=o
 have pairs:∀ ps:Array (Nat × Operand),(∀ x∈(ps.toList.map (·.2)).toArray,e x=e' x)→(ps.toList.map fun p=>(p.1,e p.2))=(ps.toList.map fun p=>(p.1,e' p.2)):=fun ps hp =>
  List.map_congr_left fun p hm=>by
   rw[hp p.2 (by simp only[List.mem_toArray,List.mem_map];exact⟨p,hm,rfl⟩)]
 have lists:∀ l:Array Operand,(∀ x∈l,e x=e' x)→l.toList.map e=l.toList.map e':=fun l hl =>
  List.map_congr_left fun x hx=>hl x (by simpa using hx)
 cases op<;>simp only[Op.operands]at h<;>simp only[jn]
 case build t ps=>rw[pairs ps h]
 case buildSlice t n ps=>rw[pairs ps h]
 case makeFunc fn first captured=>rw[lists first fun x hx=>h x (by simp[hx]),lists captured fun x hx=>h x (by simp[hx])]
 case call c =>
  obtain⟨callee,args,argTypes⟩:=c
  cases callee<;>simp only
  rw[lists args fun x hx=>h x (by simp[Call.operands,hx])]
 case slice t x lo hi mx=>cases lo<;>cases hi<;>cases mx<;>simp_all
 case makeMap t n=>cases n<;>simp_all
 all_goals(first|rfl|(simp_all;done))
def xX{f f':Nat→AV}{x:Operand}(h:∀ t,x=.tmp t→f t=f' t):evF f x=evF f' x:=by
 cases x with
 |tmp t=>exact h t rfl
 |_=>rfl
def KJ{P:Program}{o:Oper}{f f':Nat→AV}{H H':AHeap}{e:AEnd}(hx:∀ x∈o.op.operands,evF f x=evF f' x)(h:ST P o f H e H'):ST P o f' H e H':=by
 cases h with
 |res r h hc=>exact .res r (by rw[← nI hx];exact h) hc
 |call c g k first cap e H' h1 h2 h3 h =>
  have hg:evF f g=evF f' g:=hx g (by rw[h1];simp[Op.operands,Call.operands,h2])
  have ha:c.args.toList.map (evF f)=c.args.toList.map (evF f'):=List.map_congr_left fun x hm=>hx x (by rw[h1];simp only[Op.operands,Call.operands];simp at hm;simp[hm])
  exact .call c g k first cap e H' h1 h2 (by rw[← hg];exact h3) (by rw[← ha];exact h)
 |lit t n ps r m sz xs h1 h hv=>exact .lit t n ps r m sz xs h1 (by rw[← nI hx];exact h) hv
 |frz t n ps c m sz xs G h1 h hc b=>exact .frz t n ps c m sz xs G h1 (by rw[← nI hx];exact h) hc b
 |frm t l c p sz n cs h1 h hc hlt=>exact .frm t l c p sz n cs h1 (by rw[← nI hx];exact h) hc hlt
 |app args argTypes t t2 tl sz x r i sz' xs h1 h2 h3 h hc hv hne hlt =>
  have ha:args.toList.map (evF f)=args.toList.map (evF f'):=List.map_congr_left fun x hm=>hx x (by rw[h1];simp only[Op.operands,Call.operands];simp at hm;simp[hm])
  exact .app args argTypes t t2 tl sz x r i sz' xs h1 h2 (by rw[← ha];exact h3) h hc hv hne hlt
 |panic x t v h1 h2=>exact .panic x t v h1 (by rw[← hx x (by rw[h1];simp[Op.operands])];exact h2)
def Um(P:Program)(t r:Nat)(H:AHeap)(x:AV)(H':AHeap):Prop:=x=.ptr r 0∧H'=H∧lZ P t r H∧(ti P t).isSome=true
def STP(P:Program)(pre:List (Nat × Nat))(k:Nat)(o:Oper)(f:Nat→AV)(H:AHeap)(x:AV)(H':AHeap):Prop :=
 match oK pre k o.op with
 |some (t,r)=>Um P t r H x H'
 |none=>ST P o f H (.ret x) H'
def yu{P:Program}{pre:List (Nat × Nat)}{k:Nat}{o:Oper}{f f':Nat→AV}{H H':AHeap}{x:AV}(hx:∀ x∈o.op.operands,evF f x=evF f' x)(h:STP P pre k o f H x H'):STP P pre k o f' H x H':=by
 unfold STP at *
 split at h
 ·exact h
 ·exact KJ hx h
def CO{P:Program}{Ω:Tbl}{pre:List (Nat × Nat)}{k t r:Nat}{o:Op}(h:oK pre k o=some (t,r)):o=.alloc t∧ii pre k=some r∧k<100000:=by
 unfold oK at h
 split at h
 ·rename_i t'
  split at h
  ·rename_i hk
   cases hp:ii pre k with
   |none=>rw[hp]at h;cases h
   |some r'=>rw[hp]at h;cases h;exact⟨rfl,rfl,hk⟩
  ·cases h
 ·cases h
theorem preAt_mem:∀{pre:List (Nat × Nat)} {k:Nat},(∃ r,ii pre k=some r)↔k∈pre.map Prod.fst
 |[],k=>by simp[ii]
 |(j,r)::l,k=>by
  simp only[ii,List.map_cons,List.mem_cons]
  by_cases h:j=k
  ·subst h;simp
  ·rw[if_neg h,preAt_mem];exact⟨.inr,fun h'=>h'.resolve_left fun e=>h e.symm⟩
def um(v:Value):(i0 v).lt 0:=by
 unfold i0
 split<;>first|(rw[AV.lt]<;>simp;done)|(rw[AV.lt];exact⟨fun id e=>(by cases e),fun j hj=>absurd hj Xc⟩)
def BZ(v:Value):∀ x∈(ofValue v).cells,x.lt 0:=fun x hx=>by
 cases v with
 |agg cs =>
  simp only[ofValue,AV.cells]at hx
  obtain⟨y,_,rfl⟩:=List.mem_map.1 hx
  exact um y
 |_ =>
  simp only[ofValue,nj,List.mem_singleton]at hx
  subst hx
  exact um _
theorem yC{sz:Nat}:∀(n:Nat)(cs:Wz),(∀ x∈cs,x.lt 0)→∀ x∈dh sz n cs,x.lt 0
 |0,_,_,x,hx=>by cases hx
 |n+1,cs,h,x,hx=>by
  have hg:∀ j,(cs.getD j .junk).lt 0:=fun j=>by
   rw[List.getD_eq_getElem?_getD]
   cases hj:cs[j]? with
   |none=>rw[Option.getD_none,AV.lt]<;>simp
   |some y=>exact h y (List.mem_of_getElem? hj)
  rw[dh]at hx
  rcases List.mem_cons.1 hx with rfl|hx
  ·split
   ·have:=hg 0
    unfold pK
    split
    ·rw[AV.lt]<;>simp
    ·exact this
   ·rw[AV.lt]
    intro j hj
    simp only[List.getElem_map]
    exact hg _
  ·exact yC n _ (fun y hy=>h y (List.mem_of_mem_drop hy)) x hx
def GA{P:Program}{t:TypeId}{l c:AV}{g:AHeap}{r:R}(h:ziv P t l c g=some r):∃ p sz n cs,r=⟨p,.ms g.nx 0 sz n,g.push (.cells cs)⟩∧(∀ x∈dh sz n cs,x.lt 0)∧∀ g',ziv P t l c g'=some ⟨p,.ms g'.nx 0 sz n,g'.push (.cells cs)⟩:=by
 unfold ziv at h ⊢
 split at h
 ·rename_i e n m hd
  split at h
  ·rename_i te hte
   split at h
   ·rename_i hz
    cases h
    refine⟨_,_,_,_,rfl,?_,fun g'=>by rw[if_pos hz]⟩
    refine yC _ _ fun x hx=>?_
    obtain⟨y,hy,hx⟩:=List.mem_flatten.1 hx
    rw[List.eq_of_mem_replicate hy]at hx
    obtain⟨d,inf,z,_,_,_,rfl⟩:=em hte
    exact BZ z x hx
   ·cases h
  ·cases h
 ·cases h
def CD{P:Program}{Ω:Tbl}{pre:List (Nat × Nat)}{k:Nat}{o:Op}(h:oK pre k o=none)(hf:pY pre k o=false):gC P Ω (pre.map Prod.fst) k o=pI P Ω o:=by
 unfold gC
 split
 ·rename_i t
  rw[if_neg]
  ·rfl
  ·rintro⟨hk,hm⟩
   obtain⟨r,hr⟩:=preAt_mem.2 hm
   simp[oK,hr,hk]at h
 ·exact W32
 ·exact W32
 ·rfl
def AY(P:Program)(ops:Array Oper)(pre:List (Nat × Nat))(k:Nat)(o:Oper)(f:Nat→AV)(H:AHeap)(x:AV)(H':AHeap):Prop :=
 match o.guard with
 |none=>STP P pre k o f H x H'
 |some (j,want)=>∃ t,kU ops j=some t∧((∃ b,f t=.bool b∧(b=want→STP P pre k o f H x H')∧(b≠want→x=.tup []∧H'=H))∨(f t=.tup []∧x=.tup []∧H'=H))
def vo{P:Program}{ops:Array Oper}{pre:List (Nat × Nat)}{k:Nat}{o:Oper}{f f':Nat→AV}{H H':AHeap}{x:AV}(hx:∀ t∈o.looksAt ops,f t=f' t)(h:AY P ops pre k o f H x H'):AY P ops pre k o f' H x H':=by
 have hops:∀ y∈o.op.operands,evF f y=evF f' y:=fun y hy=>xX fun t ht=>hx t (by
  subst ht
  exact List.mem_append_left _ (List.mem_filterMap.2 ⟨.tmp t,by simpa using hy,rfl⟩))
 unfold AY at *
 split at h
 ·exact yu hops h
 ·rename_i j want hg
  obtain⟨t,h1,h⟩:=h
  have hft:f t=f' t:=by
   refine hx t ?_
   refine List.mem_append_right _ ?_
   rw[hg]
   simp only
   have h1':(ops[j]?).bind (·.dst)=some t:=h1
   rw[h1'];simp
  rcases h with⟨b,h2,h3,h4⟩|⟨h2,h3⟩
  ·exact⟨t,h1,.inl ⟨b,by rw[← hft];exact h2,fun hb=>yu hops (h3 hb),h4⟩⟩
  ·exact⟨t,h1,.inr ⟨by rw[← hft];exact h2,h3⟩⟩
def xw(tbl:List Nat):List Edge→Nat
 |[]=>0
 |e::es=>if Region.binds .any e then(tbl.getD e.on 0 ||| (1 <<<e.on)) ||| xw tbl es else xw tbl es
def iR:List Oper→List Nat→List Nat
 |[],tbl=>tbl
 |o::os,tbl=>iR os (tbl++[xw tbl o.after.toList])
theorem tS{tbl:List Nat}{j:Nat}:∀{es:List Edge},(xw tbl es).testBit j=true→∃ e∈es,Region.binds .any e=true∧(j=e.on∨(tbl.getD e.on 0).testBit j=true)
 |[],h=>by simp[xw]at h
 |e::es,h=>by
  unfold xw at h
  split at h
  ·rename_i hb
   rw[Nat.testBit_or,Nat.testBit_or]at h
   simp only[Bool.or_eq_true]at h
   rcases h with(h|h)|h
   ·exact⟨e,List.mem_cons_self,hb,.inr h⟩
   ·refine⟨e,List.mem_cons_self,hb,.inl ?_⟩
    rw[Nat.one_shiftLeft,Nat.testBit_two_pow]at h
    exact(by simpa using h:e.on=j).symm
   ·obtain⟨e',h1,h2⟩:=tS h;exact⟨e',List.mem_cons_of_mem _ h1,h2⟩
  ·obtain⟨e',h1,h2⟩:=tS h;exact⟨e',List.mem_cons_of_mem _ h1,h2⟩
def RV(ops:Array Oper)(tbl:List Nat):Prop :=
 ∀ i,i<tbl.length→∀ j,(tbl.getD i 0).testBit j=true→∀ S:Nat→Prop,
  (∀ k o e,ops[k]?=some o→S k→e∈o.after→Region.binds .any e=true→S e.on) →
  (∀ o e,ops[i]?=some o→e∈o.after→Region.binds .any e=true→S e.on)→S j
theorem nP{ops:Array Oper}:∀(l:List Oper)(tbl:List Nat),(∀ j,l[j]?=ops[tbl.length+j]?)→RV ops tbl→RV ops (iR l tbl)∧(iR l tbl).length=tbl.length+l.length
 |[],tbl,_,h=>⟨h,by simp[iR]⟩
 |o::l,tbl,hl,h=>by
  have ho:ops[tbl.length]?=some o:=by have:=hl 0;simpa using this.symm
  have key:RV ops (tbl++[xw tbl o.after.toList]):=by
   intro i hi j hj S hS hSi
   by_cases hlt:i<tbl.length
   ·refine h i hlt j ?_ S hS hSi
    simpa[List.getD_eq_getElem?_getD,List.getElem?_append_left hlt]using hj
   ·have hie:i=tbl.length:=by simp at hi;omega
    subst hie
    have hj':(xw tbl o.after.toList).testBit j=true:=by simpa[List.getD_eq_getElem?_getD]using hj
    obtain⟨e,he,hb,hor⟩:=tS hj'
    have hSe:=hSi o e ho (by simpa using he) hb
    rcases hor with rfl|hor
    ·exact hSe
    ·by_cases hlt2:e.on<tbl.length
     ·exact h e.on hlt2 j hor S hS fun o' e' ho' he' hb'=>hS e.on o' e' ho' hSe he' hb'
     ·rw[List.getD_eq_getElem?_getD,List.getElem?_eq_none (Xa)]at hor
      simp at hor
  obtain⟨h1,h2⟩:=nP l (tbl++[xw tbl o.after.toList]) (fun j=>by
   have:=hl (j+1)
   simp only[List.getElem?_cons_succ]at this
   rw[this];congr 1;simp;omega) key
  exact⟨h1,by rw[show iR (o::l) tbl=iR l (tbl++[xw tbl o.after.toList]) from rfl,h2];simp;omega⟩
def Kd.isEff:Kd→Bool|.eff=>true|_=>false
def regionOk(P:Program)(Ω:Tbl)(n:Nat)(L:List Nat)(ops:Array Oper):Bool :=
 go (iR ops.toList [])
where
 go (tbl:List Nat):Bool :=
  (List.range ops.size).all fun i=>match ops[i]? with
    |none=>true
    |some o=>mC n o&&o.after.toList.all (fun e=>!Region.binds .any e||decide (e.on<i)) &&
     (List.range ops.size).all fun j=>match ops[j]? with
       |none=>true
       |some oj=>(j==i||(match o.dst with|none=>true|some d=>oj.dst !=some d)) &&
        ((o.looksAt ops).all fun t=>oj.dst !=some t||j==i||(decide (j<i)&&(tbl.getD i 0).testBit j)||(decide (i<j)&&(tbl.getD j 0).testBit i)) &&
        (!(gC P Ω L i o.op).isEff||!(gC P Ω L j oj.op).isEff||!decide (j<i)||(tbl.getD i 0).testBit j) &&
        (!rB Ω o.op||(o.guard.isNone&&(j==i||(decide (j<i)&&!(gC P Ω L j oj.op).isEff)||(decide (i<j)&&(tbl.getD j 0).testBit i&&!rB Ω oj.op))))
structure RegOk(P:Program)(Ω:Tbl)(n:Nat)(L:List Nat)(ops:Array Oper):Prop where
 dst:∀(i:Nat)(o:Oper),ops[i]?=some o→mC n o=true
 edge:∀(i:Nat)(o:Oper)(e:Edge),ops[i]?=some o→e∈o.after→Region.binds .any e=true→e.on<i
 distinct:∀(i j:Nat)(o oj:Oper)(d:Nat),ops[i]?=some o→ops[j]?=some oj→o.dst=some d→oj.dst=some d→j=i
 looks:∀(i j:Nat)(o oj:Oper)(t:Nat),ops[i]?=some o→ops[j]?=some oj→t∈o.looksAt ops→oj.dst=some t →
  j=i∨(j<i∧((iR ops.toList []).getD i 0).testBit j=true)∨(i<j∧((iR ops.toList []).getD j 0).testBit i=true)
 effs:∀(i j:Nat)(o oj:Oper),ops[i]?=some o→ops[j]?=some oj→gC P Ω L i o.op=.eff→gC P Ω L j oj.op=.eff→j<i→((iR ops.toList []).getD i 0).testBit j=true
 sm:∀(i j:Nat)(o oj:Oper),ops[i]?=some o→ops[j]?=some oj→rB Ω o.op=true→o.guard=none∧(j=i∨(j<i∧gC P Ω L j oj.op≠.eff)∨(i<j∧((iR ops.toList []).getD j 0).testBit i=true∧rB Ω oj.op=false))
def xt{P:Program}{Ω:Tbl}{n:Nat}{L:List Nat}{ops:Array Oper}(h:regionOk P Ω n L ops=true):RegOk P Ω n L ops:=by
 unfold regionOk regionOk.go at h
 have h0:∀(i:Nat)(o:Oper),ops[i]?=some o→_:=fun i o hi=>List.all_eq_true.1 h i (List.mem_range.2 (Array.getElem?_eq_some_iff.1 hi).1)
 have h1:∀(i:Nat)(o:Oper),ops[i]?=some o→mC n o=true∧(∀ e∈o.after,Region.binds .any e=true→e.on<i) ∧
  ∀(j:Nat)(oj:Oper),ops[j]?=some oj→(j=i∨∀ d,o.dst=some d→oj.dst≠some d) ∧
   (∀ t∈o.looksAt ops,oj.dst=some t→j=i∨(j<i∧((iR ops.toList []).getD i 0).testBit j=true)∨(i<j∧((iR ops.toList []).getD j 0).testBit i=true)) ∧
   (gC P Ω L i o.op=.eff→gC P Ω L j oj.op=.eff→j<i→((iR ops.toList []).getD i 0).testBit j=true) ∧
   (rB Ω o.op=true→o.guard=none∧(j=i∨(j<i∧gC P Ω L j oj.op≠.eff)∨(i<j∧((iR ops.toList []).getD j 0).testBit i=true∧rB Ω oj.op=false))):=by
  intro i o hi
  have:=h0 i o hi
  simp only[hi,Bool.and_eq_true]at this
  obtain⟨⟨g1,g2⟩,g3⟩:=this
  refine⟨g1,fun e he hb=>?_,fun j oj hj=>?_⟩
  ·have:=List.all_eq_true.1 g2 e (by simpa using he)
   simpa[hb]using this
  ·have:=List.all_eq_true.1 g3 j (List.mem_range.2 (Array.getElem?_eq_some_iff.1 hj).1)
   simp only[hj,Bool.and_eq_true]at this
   obtain⟨⟨⟨k1,k2⟩,k3⟩,k4⟩:=this
   refine⟨?_,fun t ht hd=>?_,fun e1 e2 hlt=>?_,fun e1=>?_⟩
   ·rcases((Bool.or_eq_true _ _).mp k1:_∨_)with k1|k1
    ·exact .inl (by simpa using k1)
    ·exact .inr fun d hd=>by rw[hd]at k1;simpa using k1
   ·have:=List.all_eq_true.1 k2 t ht
    simp only[Bool.or_eq_true,Bool.and_eq_true,decide_eq_true_eq,beq_iff_eq,bne_iff_ne,ne_eq]at this
    rcases this with((this|this)|this)|this
    ·exact absurd hd this
    ·exact .inl this
    ·exact .inr (.inl this)
    ·exact .inr (.inr this)
   ·rw[e1,e2]at k3
    simpa[Kd.isEff,hlt]using k3
   ·rw[e1]at k4
    simp only[Bool.not_true,Bool.false_or,Bool.and_eq_true,Bool.or_eq_true,Option.isNone_iff_eq_none,beq_iff_eq,decide_eq_true_eq,Bool.not_eq_true']at k4
    obtain⟨g1,(g2|⟨g2,g3⟩)|⟨⟨g2,g3⟩,g4⟩⟩:=k4
    ·exact⟨g1,.inl g2⟩
    ·exact⟨g1,.inr (.inl ⟨g2,fun hk=>by rw[hk]at g3;cases g3⟩)⟩
    ·exact⟨g1,.inr (.inr ⟨g2,g3,g4⟩)⟩
 exact⟨fun i o hi=>(h1 i o hi).1,fun i o e hi=>(h1 i o hi).2.1 e,fun i j o oj d hi hj hd hd'=>(((h1 i o hi).2.2 j oj hj).1).resolve_right fun k=>k d hd hd',
  fun i j o oj t hi hj=>((h1 i o hi).2.2 j oj hj).2.1 t,fun i j o oj hi hj=>((h1 i o hi).2.2 j oj hj).2.2.1,fun i j o oj hi hj=>((h1 i o hi).2.2 j oj hj).2.2.2⟩
def FS(ops:Array Oper)(f0:Nat→AV)(xs:Nat→AV)(S:Nat→Bool)(t:Nat):AV :=
 match(List.range ops.size).find? (fun j=>S j&&decide (kU ops j=some t))with
 |some j=>xs j
 |none=>f0 t
theorem wQ{p q:Nat→Bool}:∀{l:List Nat},(∀ j∈l,p j=q j)→l.find? p=l.find? q
 |[],_=>rfl
 |a::l,h=>by
  rw[List.find?_cons,List.find?_cons,h a List.mem_cons_self,wQ fun j hj=>h j (List.mem_cons_of_mem _ hj)]
def lF{ops:Array Oper}{f0 xs xs':Nat→AV}{S S':Nat→Bool}{t:Nat}(h:∀ j,j<ops.size→kU ops j=some t→S j=S' j)(hx:∀ j,S j=true→xs j=xs' j) :
 FS ops f0 xs S t=FS ops f0 xs' S' t:=by
 unfold FS
 rw[wQ (q:=fun j=>S' j&&decide (kU ops j=some t)) fun j hj=>by
  by_cases hd:kU ops j=some t
  ·rw[h j (List.mem_range.1 hj) hd]
  ·simp[hd]]
 split
 ·rename_i j hj
  have:=List.find?_some hj
  simp only[Bool.and_eq_true,decide_eq_true_eq]at this
  have hm:=List.mem_of_find?_eq_some hj
  exact hx j (by rw[h j (List.mem_range.1 hm) this.2];exact this.1)
 ·rfl
section
variable {P:Program} {Ω:Tbl} {n:Nat} {L:List Nat} {ops:Array Oper}
def sJ{i:Nat}{o:Oper}(h:ops[i]?=some o):kU ops i=o.dst:=by simp[kU,h]
theorem RegOk.dist(hr:RegOk P Ω n L ops){i j d:Nat}(hi:kU ops i=some d)(hj:kU ops j=some d):j=i:=by
 unfold kU at hi hj
 cases h1:ops[i]? with
 |none=>rw[h1]at hi;cases hi
 |some o =>
  cases h2:ops[j]? with
  |none=>rw[h2]at hj;cases hj
  |some oj=>rw[h1]at hi;rw[h2]at hj;exact hr.distinct i j o oj d h1 h2 hi hj
def yQ(hr:RegOk P Ω n L ops){i:Nat}{o:Oper}(hi:ops[i]?=some o){f0 xs:Nat→AV}{S S':Nat→Bool}(h1:S' i=true)(h2:∀ j,j≠i→S' j=S j) :
 FS ops f0 xs S'=uM (FS ops f0 xs S) o.dst (xs i):=by
 have hlt:i<ops.size:=(Array.getElem?_eq_some_iff.1 hi).1
 funext t
 cases hd:o.dst with
 |none =>
  exact lF (fun j _ hj=>h2 j (fun e=>by subst e;rw[sJ hi,hd]at hj;cases hj)) fun _ _=>rfl
 |some d =>
  simp only[uM]
  by_cases ht:t=d
  ·subst ht
   rw[if_pos rfl]
   unfold FS
   have hdi:kU ops i=some t:=by rw[sJ hi,hd]
   cases hf:(List.range ops.size).find? (fun j=>S' j&&decide (kU ops j=some t))with
   |none =>
    have:=List.find?_eq_none.1 hf i (List.mem_range.2 hlt)
    simp[h1,hdi]at this
   |some j =>
    have:=List.find?_some hf
    simp only[Bool.and_eq_true,decide_eq_true_eq]at this
    rw[hr.dist hdi this.2]
  ·rw[if_neg ht]
   exact lF (fun j _ hj=>h2 j (fun e=>by subst e;rw[sJ hi,hd]at hj;cases hj;exact ht rfl)) fun _ _=>rfl
def v6{hs:HS}{c:AHeap→Prop}(hc:v8 hs c):∀ g∈hs.hs,skip (hs.ms.headD []) g.1 (c g.2):=by
 unfold v8 at hc
 intro g hg
 generalize hs.ms.headD []=m at *
 generalize hs.hs=l at *
 induction l with
 |nil=>cases hg
 |cons a l ih =>
  rcases List.mem_cons.1 hg with rfl|hg
  ·exact hc.1
  ·exact ih hg hc.2
def KW{hs:HS}{H:AHeap}{cs:List (Nat × (AHeap→Prop))}(hc:pe hs H cs):∀ c∈cs,skip (hs.ms.headD []) c.1 (c.2 H):=by
 unfold pe at hc
 intro c hm
 generalize hs.ms.headD []=m at *
 induction cs with
 |nil=>cases hm
 |cons a l ih =>
  rcases List.mem_cons.1 hm with rfl|hm
  ·exact hc.1
  ·exact ih hm hc.2
def nU{o:Oper}{e:Operand→AV}{H:AHeap}{r:R}(hk:kind P o.op≠.eff)(h:jn P o e H=some r):r.H=H:=by
 obtain⟨dst,op,ty,pos,after,guard⟩:=o
 unfold jn at h
 dsimp only at h hk
 cases op<;>(try dsimp only at h)<;>first|(cases h;done)|skip
 case move x=>cases h;rfl
 case assign x=>cases x<;>first|exact absurd rfl hk|(simp only[zit]at h;cases h;rfl)
 case pick c x y=>unfold zjb at h;split at h<;>cases h;rfl
 case alloc t=>exact absurd rfl hk
 case box t x=>exact absurd rfl hk
 case build t ps =>
  unfold zjd at h
  split at h
  ·split at h
   ·exact W39
   ·exact W39
   ·cases h
  ·cases h
 case buildSlice t n ps=>exact absurd rfl hk
 case load t x =>
  unfold zjg zjh at h
  repeat' split at h
  all_goals first|(cases h;done)|(cases h;rfl)
 case store t x y=>exact absurd rfl hk
 case nilCheck x=>unfold zjj at h;split at h<;>cases h<;>rfl
 case binOp op t x y u =>
  unfold rC at h
  split at h
  ·split at h
   ·cases h;rfl
   ·cases h;rfl
   ·split at h
    ·unfold FK at h;split at h<;>cases h<;>rfl
    ·cases h
  ·unfold Fs at h;split at h<;>cases h<;>rfl
  ·have hq:∀ b t x y,rEq P b t x y H=some r→r.H=H:=by
    intro b t x y h
    unfold rEq at h
    repeat' split at h
    all_goals first|(cases h;done)|(cases h;rfl)
   split at h
   ·exact hq _ _ _ _ h
   ·exact hq _ _ _ _ h
   ·cases h
 case unOp op t x=>unfold rUn at h;split at h<;>cases h<;>rfl
 case convert s d x =>
  unfold zjo at h
  split at h
  ·cases h;rfl
  ·cases h;rfl
  ·rename_i hd _
   simp only[kind,hd]at hk
   exact absurd rfl hk
  ·split at h<;>cases h;rfl
  ·cases h
 case makeInterface t x=>unfold zjp at h;split at h<;>cases h;rfl
 case makeFunc f as bs=>cases h;rfl
 case makeMap t n=>exact absurd rfl hk
 case mapUpdate t m k x=>exact absurd rfl hk
 case mapEntry t m k=>exact absurd rfl hk
 case entryStore t m s x=>exact absurd rfl hk
 case lookup t m k ok =>
  unfold zix at h
  repeat' split at h
  all_goals first|(cases h;done)|(cases h;rfl)
 case makeSlice t l c=>exact absurd rfl hk
 case slice t x lo hi mx =>
  unfold zja at h
  repeat' split at h
  all_goals first|(cases h;done)|(cases h;rfl)
 case fieldAddr t x n =>
  unfold zjk at h
  repeat' split at h
  all_goals first|(cases h;done)|(cases h;rfl)
 case field t x n =>
  unfold zjl zjh at h
  repeat' split at h
  all_goals first|(cases h;done)|(cases h;rfl)
 case indexAddr t x i =>
  unfold zjm at h
  repeat' split at h
  all_goals first|(cases h;done)|(cases h;rfl)
 case index t x i =>
  unfold zjn at h
  repeat' split at h
  all_goals first|(cases h;done)|(cases h;rfl)
 case typeAssert x t u ok =>
  unfold nX at h
  repeat' split at h
  all_goals first|(cases h;done)|(cases h;rfl)
 case extract x n=>unfold zjq at h;split at h<;>cases h;rfl
 case call c =>
  obtain⟨callee,args,argTypes⟩:=c
  cases callee<;>first|(cases h;done)|skip
  rename_i b
  replace h:ziu P b argTypes.toList (args.toList.map e) H=some r:=h
  unfold ziu at h
  split at h
  ·unfold E4 at h;split at h<;>cases h<;>rfl
  ·exact absurd rfl hk
  ·exact absurd rfl hk
  ·unfold zju at h
   exact W41
  ·unfold zju at h
   exact W41
  ·cases h
def R.same(r:R):Prop × AV:=(r.c,r.v)
def Da{o:Oper}{e:Operand→AV}(hk:kind P o.op=.inert)(H h:AHeap):(jn P o e H).map R.same=(jn P o e h).map R.same:=by
 obtain⟨dst,op,ty,pos,after,guard⟩:=o
 unfold jn
 dsimp only at hk ⊢
 cases op<;>(try dsimp only)<;>first|rfl|skip
 case assign x=>cases x<;>first|(cases hk;done)|rfl
 case pick c x y=>unfold zjb;split<;>rfl
 case alloc t=>cases hk
 case box t x=>cases hk
 case build t ps =>
  unfold zjd
  split
  ·split
   ·split
    ·simp only[Option.map_map];congr 1
    ·rfl
   ·split
    ·simp only[Option.map_map];congr 1
    ·rfl
   ·rfl
  ·rfl
 case buildSlice t n ps=>cases hk
 case makeMap t n=>cases hk
 case mapUpdate t m k x=>cases hk
 case mapEntry t m k=>cases hk
 case entryStore t m s x=>cases hk
 case lookup t m k ok=>cases hk
 case load t x=>cases hk
 case store t x y=>cases hk
 case nilCheck x=>unfold zjj;split<;>rfl
 case binOp op t x y u =>
  have hq:∀ b t x y,(rEq P b t x y H).map R.same=(rEq P b t x y h).map R.same:=by
   intro b t x y
   unfold rEq
   repeat' split
   all_goals rfl
  unfold rC
  split
  ·split
   ·rfl
   ·rfl
   ·split
    ·unfold FK;split<;>rfl
    ·rfl
  ·unfold Fs;split<;>rfl
  ·split
   ·exact hq _ _ _ _
   ·exact hq _ _ _ _
   ·rfl
 case unOp op t x=>unfold rUn;split<;>rfl
 case convert s d x =>
  unfold zjo
  split
  ·rfl
  ·rfl
  ·rename_i hd _
   simp only[kind,hd]at hk
   cases hk
  ·split<;>rfl
  ·rfl
 case makeInterface t x=>unfold zjp;split<;>rfl
 case makeSlice t l c=>cases hk
 case slice t x lo hi mx =>
  have hna:∀ n e,(ti P t).map TI.desc≠some (.array n e):=fun n e hd=>by simp only[kind,hd]at hk;cases hk
  unfold zja
  split
  ·repeat' split
   all_goals rfl
  ·repeat' split
   all_goals rfl
  ·rename_i hd _
   exact absurd hd (hna _ _)
  ·rfl
 case fieldAddr t x n =>
  unfold zjk
  repeat' split
  all_goals rfl
 case field t x n =>
  unfold zjl zjh
  repeat' split
  all_goals rfl
 case indexAddr t x i =>
  unfold zjm
  repeat' split
  all_goals rfl
 case index t x i =>
  unfold zjn
  repeat' split
  all_goals rfl
 case typeAssert x t u ok =>
  unfold nX
  repeat' split
  all_goals rfl
 case extract x n=>unfold zjq;split<;>rfl
 case call c =>
  obtain⟨callee,args,argTypes⟩:=c
  cases callee<;>first|rfl|skip
  rename_i b
  show(ziu P b argTypes.toList (args.toList.map e) H).map R.same=(ziu P b argTypes.toList (args.toList.map e) h).map R.same
  unfold ziu
  split
  ·unfold E4;split<;>rfl
  ·cases hk
  ·cases hk
  ·unfold zju
   repeat' split
   all_goals rfl
  ·unfold zju
   repeat' split
   all_goals rfl
  ·rfl
end
section
variable {P:Program} {Ω:Tbl} {n:Nat} {ops:Array Oper}
abbrev Ls(pre:List (Nat × Nat)):List Nat:=pre.map Prod.fst
def AK{o:Op}(h:lu o=false):pI P Ω o=kind P o:=by
 unfold pI
 split
 ·simp[lu]at h
 ·rfl
def Ac{o:Oper}{fr:Fr}{x:AV}{g:AHeap}(hk:kind P o.op≠.eff)(h:oF P o fr x g):ST P o (Fr.get fr) g (.ret x) g:=by
 unfold oF at h
 split at h
 ·rename_i r hr
  have hr':jn P o (evF (Fr.get fr)) g=some r:=by rw[← je];exact hr
  have:=ST.res (P:=P) (o:=o) (f:=Fr.get fr) (H:=g) r hr' h.1
  rw[nU hk hr',h.2]at this
  exact this
 ·exact h.elim
structure Moved(P:Program)(Ω:Tbl)(o:Oper)(hs hs':HS)(ps ps':List (Nat × (AHeap→Prop)))(H H':AHeap):Prop where
 ms:hs'.ms=hs.ms.tail
 i:hs'.i=hs.i+1
 pre:hs'.pre=hs.pre
 old:∀ g∈hs.hs,g∈hs'.hs
 new:(hs.i,H)∈hs'.hs∨H'=H
 ps:∀ c∈ps,c∈ps'∧(c.2 H→c.2 H'∨(gC P Ω (Ls hs.pre) hs.i o.op=.eff∧c.1∈hs.ms.headD []))
theorem Moved.stay{o:Oper}{hs:HS}{ps ps':List (Nat × (AHeap→Prop))}{H:AHeap}(h:∀ c∈ps,c∈ps'):Moved P Ω o hs hs.nx ps ps' H H :=
 ⟨rfl,rfl,rfl,fun g hg=>hg,.inr rfl,fun c hc=>⟨h c hc,.inl⟩⟩
theorem Moved.push{o:Oper}{hs:HS}{ps:List (Nat × (AHeap→Prop))}{H H':AHeap}(hk:gC P Ω (Ls hs.pre) hs.i o.op=.eff)(h:pe hs H' ps):Moved P Ω o hs (hs.push H) ps ps H H' :=
 ⟨rfl,rfl,rfl,fun g hg=>List.mem_cons_of_mem _ hg,.inl List.mem_cons_self,fun c hc=>⟨hc,fun _=>(KW h c hc).elim (fun e=>.inr ⟨hk,e⟩) .inl⟩⟩
def STS(P:Program)(o:Oper)(f:Nat→AV)(H:AHeap)(Post:By1):Prop :=
 ∃ (c:Call) (g:Operand) (k:FuncId) (first cap:Wz),o.op=.call c∧c.callee=.value g∧evF f g=.func (.func k) first cap∧ACallsP P k (first++c.args.toList.map (evF f)++cap) H Post
def Gb{o:Oper}{f f':Nat→AV}{H:AHeap}{Post:By1}(hx:∀ t∈o.looksAt ops,f t=f' t)(h:STS P o f H Post):STS P o f' H Post:=by
 obtain⟨c,g,k,first,cap,h1,h2,h3,h4⟩:=h
 have hops:∀ y∈o.op.operands,evF f y=evF f' y:=fun y hy=>xX fun t ht=>hx t (by
  subst ht
  exact List.mem_append_left _ (List.mem_filterMap.2 ⟨.tmp t,by simpa using hy,rfl⟩))
 have e1:evF f g=evF f' g:=hops g (by rw[h1];simp[Op.operands,Call.operands,h2])
 have e2:c.args.toList.map (evF f)=c.args.toList.map (evF f'):=List.map_congr_left fun y hy=>hops y (by rw[h1];simp[Op.operands,Call.operands,h2];exact .inr (by simpa using hy))
 exact⟨c,g,k,first,cap,h1,h2,by rw[← e1];exact h3,by rw[← e2];exact h4⟩
def B8(hΩ:TblOk P Ω){o:Oper}{fr:Fr}{H:AHeap}{hs:HS}{ps:List (Nat × (AHeap→Prop))}{N:HS→List (Nat × (AHeap→Prop))→Fr→AHeap→Prop}
 (hsm:rB Ω o.op=true) (h:pJ P Ω o hs ps N fr H):∃ Post,STS P o (Fr.get fr) H Post∧∀ x H',Post x H'→pe hs H' ps∧N (hs.push H) ps (fr.put o.dst x) H':=by
 unfold rB at hsm
 split at hsm
 ·rename_i k args at' hop
  split at hsm
  ·rename_i e he
   unfold pJ at h
   simp only[hop,oK,pY,uG,yn,lu,Bool.false_eq_true,if_false,if_true,ev,qF,he,List.nil_append,List.append_nil]at h
   split at h
   ·rename_i q hq
    refine⟨_,⟨_,.func k,k,[],[],hop,rfl,rfl,?_⟩,fun x H' hx=>hx⟩
    have:=(hΩ k e he).2.2 q hq _ _ _ h.2
    rw[List.nil_append,List.append_nil,← je]
    exact this
   ·rename_i hq
    rw[hq]at hsm
    cases hsm
  ·cases hsm
 ·cases hsm
def xY(hΩ:TblOk P Ω){o:Oper}{fr:Fr}{H:AHeap}{hs:HS}{ps:List (Nat × (AHeap→Prop))}{N:HS→List (Nat × (AHeap→Prop))→Fr→AHeap→Prop}
 (hsm:rB Ω o.op=false) (h:pJ P Ω o hs ps N fr H):∃ x H' hs' ps',N hs' ps' (fr.put o.dst x) H'∧STP P hs.pre hs.i o (Fr.get fr) H x H'∧Moved P Ω o hs hs' ps ps' H H' ∧
   (gC P Ω (Ls hs.pre) hs.i o.op≠.eff→H'=H∧(∀ g∈hs.hs,skip (hs.ms.headD []) g.1 (STP P hs.pre hs.i o (Fr.get fr) g.2 x g.2))∧∀ g,(∀ c∈ps',c.1=hs.i→c.2 H→c.2 g)→STP P hs.pre hs.i o (Fr.get fr) g x g):=by
 unfold pJ at h
 split at h
 ·rename_i t r hpre
  obtain⟨⟨h0,h1⟩,h2,h3⟩:=h
  have mk:∀ g,lZ P t r g→STP P hs.pre hs.i o (Fr.get fr) g (.ptr r 0) g:=fun g hg=>by
   unfold STP;rw[hpre];exact⟨rfl,rfl,hg,h1⟩
  exact⟨.ptr r 0,H,_,_,h3,mk H h0,.stay fun c hc=>List.mem_cons_of_mem _ hc,fun _=>⟨rfl,fun g hg'=>(v6 h2 g hg').imp id (mk g.2),fun g hg' =>
   mk g (hg' _ List.mem_cons_self rfl h0)⟩⟩
 rename_i hpre
 split at h
 ·rename_i hfz
  have hop:(∃ t n ps,o.op=.buildSlice t n ps)∨∃ t l c,o.op=.makeSlice t l c:=by
   unfold pY at hfz
   split at hfz
   ·rename_i t n ps hop;exact .inl ⟨t,n,ps,hop⟩
   ·rename_i t l c hop;exact .inr ⟨t,l,c,hop⟩
   ·cases hfz
  rcases hop with⟨t,m,pz,hop⟩|⟨t,l,c,hop⟩
  ·split at h
   ·rename_i c mk sz xs G hr
    obtain⟨hc,h1⟩:=h
    have hb:zje P t m (pz.toList.map fun p=>(p.1,evF (Fr.get fr) p.2)) H=some ⟨c,.slice mk sz xs,G⟩:=by
     have h':=hr
     unfold sB jn at h'
     rw[hop,je]at h'
     exact h'
    obtain⟨_,_,hall⟩:=pQ hb
    have any:∀ g,STP P hs.pre hs.i o (Fr.get fr) g (.slice (I5 (iM hs.lit (hs.i+300000))) sz xs) g:=fun g=>by
     obtain⟨m',G',hg⟩:=hall g
     unfold STP
     rw[hpre]
     exact ST.frz t m pz c m' sz xs G' hop (by unfold jn;rw[hop];exact hg) hc _
    exact W34
   ·rename_i hr
    exfalso
    unfold sB jn at hr
    rw[hop]at hr
    simp only[zje]at hr
    (repeat' split at hr)<;>simp at hr
   ·exact h.elim
  ·have hout:∀(g:AHeap)(r:R),sB P o fr g=some r→∃ p sz n cs,r=⟨p,.ms g.nx 0 sz n,g.push (.cells cs)⟩∧(∀ x∈dh sz n cs,x.lt 0)∧∀ g',sB P o fr g'=some ⟨p,.ms g'.nx 0 sz n,g'.push (.cells cs)⟩:=fun g r hr=>by
    unfold sB jn at hr ⊢
    rw[hop]at hr ⊢
    exact GA hr
   split at h
   ·rename_i hr
    exfalso
    obtain⟨p,sz,n,cs,e,_⟩:=hout _ _ hr
    cases e
   ·rename_i p i sz n G hr
    obtain⟨p',sz',n',cs,e,hlt,hall⟩:=hout _ _ hr
    cases e
    have hcs:a8 (H.push (.cells cs)) H.nx=some cs:=by unfold a8;rw[AHeap.get_push_new]
    rw[hcs]at h
    obtain⟨hc,h1⟩:=h
    have any:∀ g,STP P hs.pre hs.i o (Fr.get fr) g (.slice .any sz (dh sz n cs)) g:=fun g=>by
     have hg:=hall g
     unfold sB at hg
     rw[je]at hg
     unfold STP
     rw[hpre]
     exact ST.frm t l c p sz n cs hop hg hc hlt
    exact W34
   ·exact h.elim
 rename_i hfz
 have hkR:gC P Ω (Ls hs.pre) hs.i o.op=pI P Ω o.op:=CD hpre (by simpa using hfz)
 have up:∀{f:Nat→AV}{G G':AHeap}{x:AV},ST P o f G (.ret x) G'→STP P hs.pre hs.i o f G x G':=fun h=>by unfold STP;rw[hpre];exact h
 rw[hkR]
 split at h
 ·rename_i hlit
  have hop:∃ t n ps,o.op=.buildSlice t n ps:=by
   unfold uG at hlit
   split at hlit
   ·rename_i t n ps hop;exact⟨t,n,ps,hop⟩
   ·cases hlit
  obtain⟨t,m,pz,hop⟩:=hop
  have hkS:pI P Ω o.op=.eff:=by rw[hop];simp[pI,kind]
  split at h
  ·rename_i c mk sz xs G hr
   obtain⟨hc,h1,h2⟩:=h
   have hst:=ST.lit (P:=P) (o:=o) (f:=Fr.get fr) (H:=H) t m pz _ mk sz xs hop (by rw[← je];exact hr) rfl
   exact⟨_,_,_,_,h2,up hst,.push (hkR.trans hkS) h1,fun hk=>absurd hkS hk⟩
  ·exact h.elim
 split at h
 ·unfold M9 at h
  split at h
  ·rename_i args argTypes hop
   have hkS:pI P Ω o.op=.eff:=by rw[hop];simp[pI,kind]
   unfold Ck at h
   split at h
   ·rename_i t t2 tl sz x hts hargs
    split at h
    ·rename_i r hr
     obtain⟨hc,h⟩:=h
     unfold Kl at h
     split at h
     ·rename_i i sz' xs hv
      obtain⟨hne,hlt,h1,h2⟩:=h
      exact⟨_,_,_,_,h2,up (.app args argTypes t t2 tl sz x r i sz' xs hop hts (by rw[← je];exact hargs) hr hc hv hne hlt),.push (hkR.trans hkS) h1,fun hk=>absurd hkS hk⟩
     ·exact h.elim
    ·exact h.elim
   ·exact h.elim
  ·exact h.elim
 split at h
 ·split at h
  ·rename_i f args argTypes hop
   split at h
   ·rename_i k first cap hev
    have hg:evF (Fr.get fr) f=.func (.func k) first cap:=by rw[← je];exact hev
    have mk:∀{G G':AHeap}{e:AEnd},ACalls P k (first++args.toList.map (ev fr)++cap) G e G'→ST P o (Fr.get fr) G e G':=fun hc =>
     .call _ f k first cap _ _ hop rfl hg (by rw[← je];exact hc)
    unfold qF at h
    split at h
    ·exact h.elim
    ·rename_i e he
     have hE:=hΩ k e he
     split at h
     ·rename_i q hq
      exfalso
      obtain⟨h1,h0⟩:=h.1
      unfold SK at h1
      split at h1
      ·rename_i k'
       rw[hop]at hsm
       simp only[evF,AV.func.injEq,Fn.func.injEq]at hg
       obtain⟨rfl,_,_⟩:=hg
       simp only[rB,he,hq,h0,Option.isSome_some,Bool.and_self]at hsm
       cases hsm
      ·cases h1
     split at h
     ·rename_i heff
      obtain⟨x,H1,h1,h2⟩:=hE.2.1 heff _ _ _ h
      have hkS:pI P Ω o.op=.eff:=by
       rw[hop]
       unfold pI
       split
       ·rename_i k' _ _ heq
        cases heq
        simp only[evF,AV.func.injEq,Fn.func.injEq]at hg
        obtain⟨rfl,_,_⟩:=hg
        rw[he];simp[heff]
       ·simp[kind]
      cases x with
      |panic v=>exact h1.elim
      |ret v=>exact⟨v,H1,_,_,h1.2,up (mk h2),.push (hkR.trans hkS) h1.1,fun hk=>absurd hkS hk⟩
     ·rename_i heff
      have heff':e.eff=false:=by simpa using heff
      obtain⟨x,h1,h2⟩:=hE.1 heff' _ _ _ h
      have chk:∀ g,e.p (first++args.toList.map (ev fr)++cap) g (fun v'=>v'=x)→STP P hs.pre hs.i o (Fr.get fr) g x g:=fun g hg'=>by
       obtain⟨y,rfl,h3⟩:=hE.1 heff' _ _ _ hg'
       exact up (mk h3)
      refine⟨x,H,_,_,h1.2,up (mk h2),.stay fun c hc=>List.mem_cons_of_mem _ hc,fun hk=>⟨rfl,fun g hg'=>(v6 h1.1 g hg').imp id (chk g.2),fun g hg'=>?_⟩⟩
      rcases hg' _ List.mem_cons_self rfl (.inl rfl)with rfl|hg'
      ·exact up (mk h2)
      ·exact chk g hg'
   ·exact h.elim
  ·exact h.elim
 ·rename_i hc
  have hc':lu o.op=false:=by simpa using hc
  split at h
  ·exact h.elim
  ·rename_i r hr
   have hr':jn P o (evF (Fr.get fr)) H=some r:=by rw[← je];exact hr
   have hst:=ST.res (P:=P) (o:=o) (f:=Fr.get fr) (H:=H) r hr' h.1
   obtain⟨h0,h⟩:=h
   split at h
   ·rename_i hk
    have hH:=nU (by rw[hk];simp) hr'
    rw[hH]at hst
    have anyw:∀ g,ST P o (Fr.get fr) g (.ret r.v) g:=fun g=>by
     have hi:=Da (e:=evF (Fr.get fr)) hk H g
     rw[hr']at hi
     cases hg:jn P o (evF (Fr.get fr)) g with
     |none=>rw[hg]at hi;cases hi
     |some r' =>
      rw[hg]at hi
      simp only[Option.map_some,R.same,Option.some.injEq,Prod.mk.injEq]at hi
      have:=ST.res (P:=P) (o:=o) (f:=Fr.get fr) (H:=g) r' hg (by rw[← hi.1];exact h0)
      rw[nU (by rw[hk];simp) hg,← hi.2]at this
      exact this
    exact⟨r.v,H,_,ps,h,up hst,.stay fun c hc=>hc,fun _=>⟨rfl,fun g _=>.inr (up (anyw g.2)),fun g _=>up (anyw g)⟩⟩
   ·rename_i hk
    have hne:kind P o.op≠.eff:=by rw[hk];simp
    have hH:=nU hne hr'
    rw[hH]at hst
    refine⟨r.v,H,_,_,h.2,up hst,.stay fun c hc=>List.mem_cons_of_mem _ hc,fun _=>⟨rfl,fun g hg'=>(v6 h.1 g hg').imp id (fun hh=>up (Ac hne hh)),fun g hg'=>?_⟩⟩
    refine up <| Ac hne (hg' _ List.mem_cons_self rfl ?_)
    show oF P o fr r.v H
    unfold oF;rw[hr];exact⟨h0,rfl⟩
   ·rename_i hk
    exact⟨r.v,r.H,_,_,h.2,up hst,.push (by rw[hkR,AK hc',hk]) h.1,fun hk'=>absurd (by rw[AK hc',hk]) hk'⟩
def Ng{pre:List (Nat × Nat)}{k:Nat}{o:Oper}{f:Nat→AV}{H H':AHeap}{x:AV}(hg:o.guard=none)(h:STP P pre k o f H x H'):AY P ops pre k o f H x H':=by
 unfold AY;rw[hg];exact h
def CJ{pre:List (Nat × Nat)}{k:Nat}{o:Oper}{f:Nat→AV}{H H':AHeap}{x:AV}{j t:Nat}{want:Bool}(hg:o.guard=some (j,want))(ht:kU ops j=some t)(hf:f t=.bool want)
 (h:STP P pre k o f H x H'):AY P ops pre k o f H x H':=by
 unfold AY;rw[hg];exact⟨t,ht,.inl ⟨want,hf,fun _=>h,fun h=>absurd rfl h⟩⟩
def IA{pre:List (Nat × Nat)}{k:Nat}{o:Oper}{f:Nat→AV}{H:AHeap}{j t:Nat}{want b:Bool}(hg:o.guard=some (j,want))(ht:kU ops j=some t)(hf:f t=.bool b)(hb:b≠want):AY P ops pre k o f H (.tup []) H:=by
 unfold AY;rw[hg];exact⟨t,ht,.inl ⟨b,hf,fun h=>absurd h hb,fun _=>⟨rfl,rfl⟩⟩⟩
def Jk{pre:List (Nat × Nat)}{k:Nat}{o:Oper}{f:Nat→AV}{H:AHeap}{j t:Nat}{want:Bool}(hg:o.guard=some (j,want))(ht:kU ops j=some t)(hf:f t=.tup []):AY P ops pre k o f H (.tup []) H:=by
 unfold AY;rw[hg];exact⟨t,ht,.inr ⟨hf,rfl,rfl⟩⟩
def QN(hΩ:TblOk P Ω){L:List Nat}{k:Nat}{o:Op}(h:rB Ω o=true):gC P Ω L k o=.eff:=by
 unfold rB at h
 split at h
 ·rename_i f args at'
  split at h
  ·rename_i e he
   have hef:e.eff=true:=(Bool.and_eq_true _ _).mp h |>.2
   simp[gC,pI,he,hef]
  ·cases h
 ·cases h
def Pa(hΩ:TblOk P Ω){K:Vz}{o:Oper}{rest:List Oper}{fr:Fr}{H:AHeap}{hs:HS}{ps:List (Nat × (AHeap→Prop))}
 (hsm:rB Ω o.op=false) (h:awD P Ω ops (o::rest) hs ps K fr H):∃ x H' hs' ps' fr',awD P Ω ops rest hs' ps' K fr' H'∧Fr.get fr'=uM (Fr.get fr) o.dst x∧AY P ops hs.pre hs.i o (Fr.get fr) H x H' ∧
   Moved P Ω o hs hs' ps ps' H H' ∧
   (gC P Ω (Ls hs.pre) hs.i o.op≠.eff→H'=H∧(∀ g∈hs.hs,skip (hs.ms.headD []) g.1 (AY P ops hs.pre hs.i o (Fr.get fr) g.2 x g.2))∧∀ g,(∀ c∈ps',c.1=hs.i→c.2 H→c.2 g)→AY P ops hs.pre hs.i o (Fr.get fr) g x g):=by
 unfold awD at h
 cases hg:o.guard with
 |none =>
  rw[hg]at h
  obtain⟨x,H',hs',ps',h1,h2,h3,h5⟩:=xY hΩ hsm h
  exact⟨x,H',hs',ps',_,h1,gZ _ _ _,Ng hg h2,h3,fun hk=>let ⟨k1,k2,k3⟩:=h5 hk;⟨k1,fun g hm=>(k2 g hm).imp id (Ng hg),fun g hm=>Ng hg (k3 g hm)⟩⟩
 |some gw =>
  obtain⟨j,want⟩:=gw
  rw[hg]at h
  dsimp only at h
  split at h
  ·rename_i b hb
   obtain⟨t,ht,hft⟩:=wg hb
   by_cases hbw:b=want
   ·subst hbw
    obtain⟨x,H',hs',ps',h1,h2,h3,h5⟩:=xY hΩ hsm (h.1 rfl)
    have hfr:Fr.get (fr.put (kU ops j) (.bool b))=Fr.get fr:=by rw[gZ,ht];exact qV hft
    rw[hfr]at h2 h5
    exact⟨x,H',hs',ps',_,h1,by rw[gZ,hfr],CJ hg ht hft h2,h3,fun hk=>let ⟨k1,k2,k3⟩:=h5 hk;⟨k1,fun g hm=>(k2 g hm).imp id (CJ hg ht hft),fun g hm=>CJ hg ht hft (k3 g hm)⟩⟩
   ·have hb2:b=!want:=by cases b<;>cases want<;>simp_all
    have hfr:Fr.get (fr.put (kU ops j) (.bool (!want)))=Fr.get fr:=by rw[gZ,ht];exact qV (by rw[hft,hb2])
    exact⟨.tup [],H,hs.nx,ps,_,h.2 hb2,by rw[gZ,hfr],IA hg ht hft hbw,.stay fun c hc=>hc,fun _=>⟨rfl,fun g _=>.inr (IA hg ht hft hbw),fun g _=>IA hg ht hft hbw⟩⟩
  ·rename_i hb
   obtain⟨t,ht,hft⟩:=uo hb
   exact⟨.tup [],H,hs.nx,ps,_,h,gZ _ _ _,Jk hg ht hft,.stay fun c hc=>hc,fun _=>⟨rfl,fun g _=>.inr (Jk hg ht hft),fun g _=>Jk hg ht hft⟩⟩
  ·exact h.elim
abbrev below(i:Nat):Nat→Bool:=fun j=>decide (j<i)
abbrev Anc(ops:Array Oper)(i j:Nat):Prop:=((iR ops.toList []).getD i 0).testBit j=true
def Sl{L:List Nat}(hr:RegOk P Ω n L ops){i j:Nat}(hi:i<ops.size)(h:Anc ops i j):j<i:=by
 obtain⟨hanc,hlen⟩:=nP (ops:=ops) ops.toList [] (fun j=>Xc) (fun i hi=>absurd hi Xc)
 exact hanc i (by rw[hlen];simpa using hi) j h (·<i) (fun k o e h1 h2 h3 h4=>Nat.lt_trans (hr.edge k o e h1 h3 h4) h2) fun o e h1 h2 h3=>hr.edge i o e h1 h2 h3
def adm(P:Program)(Ω:Tbl)(L:List Nat)(ops:Array Oper)(k j:Nat):Prop :=
 (∀ e o,ops[e]?=some o→gC P Ω L e o.op=.eff→Anc ops k e→e<j)∧(∀ e o,ops[e]?=some o→gC P Ω L e o.op=.eff→Anc ops e k→j≤e)
def MaskOk(ops:Array Oper)(i:Nat)(ms:List (List Nat)):Prop :=
 ∀ k,i≤k→∀ j,j∈ms.getD (k-i) []→Anc ops k j
theorem MaskOk.tail{i:Nat}{ms:List (List Nat)}(h:MaskOk ops i ms):MaskOk ops (i+1) ms.tail:=fun k hk j hj =>
 h k Xa j (by
  have e:k-i=(k-(i+1))+1:=Xa
  rw[e]
  cases ms with
  |nil=>simpa using hj
  |cons a l=>simpa using hj)
theorem MaskOk.head{i:Nat}{ms:List (List Nat)}(h:MaskOk ops i ms){j:Nat}(hj:j∈ms.headD []):Anc ops i j :=
 h i (Nat.le_refl _) j (by
  rw[Nat.sub_self]
  cases ms with
  |nil=>simpa using hj
  |cons a l=>simpa using hj)
structure LexA(P:Program)(Ω:Tbl)(ops:Array Oper)(pre:List (Nat × Nat))(f0:Nat→AV)(K:Vz)(i:Nat)(hs:HS)(ps:List (Nat × (AHeap→Prop)))(H:AHeap)(xs0:Nat→AV)(ex:Nat)(xs:Nat→AV)(hp:Nat→AHeap)(frn:Fr):Prop where
 e1:∀ j,j<i→xs j=xs0 j
 e2:hp i=H
 e3:Fr.get frn=FS ops f0 xs (below ops.size)
 e4:K frn (hp ops.size)
 e5:∀ c∈ps,c.2 H→∀ j,i≤j→j≤ops.size→(∀ e o,i≤e→ops[e]?=some o→gC P Ω (Ls pre) e o.op=.eff→Anc ops e c.1→j≤e)→c.2 (hp j)
 e6:∀ k o,i≤k→ops[k]?=some o→(k≠ex→AY P ops pre k o (FS ops f0 xs (below k)) (hp k) (xs k) (hp (k+1))) ∧
  (gC P Ω (Ls pre) k o.op≠.eff→hp (k+1)=hp k∧(∀ g∈hs.hs,Anc ops k g.1∨AY P ops pre k o (FS ops f0 xs (below k)) g.2 (xs k) g.2) ∧
    ∀ j,i≤j→j≤ops.size→adm P Ω (Ls pre) ops k j→AY P ops pre k o (FS ops f0 xs (below k)) (hp j) (xs k) (hp j))
theorem LexA.weak{pre:List (Nat × Nat)}{f0:Nat→AV}{K:Vz}{i:Nat}{hs:HS}{ps:List (Nat × (AHeap→Prop))}{H:AHeap}{xs0:Nat→AV}{xs:Nat→AV}{hp:Nat→AHeap}{frn:Fr}(ex:Nat)
 (h:LexA P Ω ops pre f0 K i hs ps H xs0 ops.size xs hp frn):LexA P Ω ops pre f0 K i hs ps H xs0 ex xs hp frn :=
 ⟨h.e1,h.e2,h.e3,h.e4,h.e5,fun k o hk ho=>⟨fun _=>(h.e6 k o hk ho).1 (Nat.ne_of_lt (Array.getElem?_eq_some_iff.1 ho).1),(h.e6 k o hk ho).2⟩⟩
theorem LexA.cons{pre:List (Nat × Nat)}(hr:RegOk P Ω n (Ls pre) ops){f0:Nat→AV}{K:Vz}{i:Nat}{o:Oper}(hi:ops[i]?=some o){hs hs':HS}{ps ps':List (Nat × (AHeap→Prop))}{fr:Fr}{H H':AHeap}{x:AV}{xs0:Nat→AV}{ex:Nat}
 {xs:Nat→AV} {hp:Nat→AHeap} {frn:Fr} (hpre:hs.pre=pre) (hsi:hs.i=i) (hms:MaskOk ops i hs.ms) (hfr:Fr.get fr=FS ops f0 xs0 (below i))
 (h3:i≠ex→AY P ops pre i o (Fr.get fr) H x H') (h4:Moved P Ω o hs hs' ps ps' H H')
 (h6:gC P Ω (Ls pre) i o.op≠.eff→H'=H∧(∀ g∈hs.hs,skip (hs.ms.headD []) g.1 (AY P ops pre i o (Fr.get fr) g.2 x g.2))∧∀ g,(∀ c∈ps',c.1=i→c.2 H→c.2 g)→AY P ops pre i o (Fr.get fr) g x g)
 (hA:LexA P Ω ops pre f0 K (i+1) hs' ps' H' (fun j=>if j=i then x else xs0 j) ex xs hp frn) :
 ∃ hp',LexA P Ω ops pre f0 K i hs ps H xs0 ex xs hp' frn∧∀ j,i<j→hp' j=hp j:=by
 have hlt:i<ops.size:=(Array.getElem?_eq_some_iff.1 hi).1
 obtain⟨g1,g2,g3,g4,g5,g6⟩:=hA
 let hp':Nat→AHeap:=fun j=>if j=i then H else hp j
 have hpi:hp' i=H:=by simp[hp']
 have hpj:∀ j,i+1≤j→hp' j=hp j:=fun j hj=>by simp only[hp'];rw[if_neg (by omega)]
 have xi:xs i=x:=by rw[g1 i (by omega)];simp
 have eF:FS ops f0 xs (below i)=Fr.get fr:=by
  rw[hfr]
  exact funext fun t=>lF (fun _ _ _=>rfl) fun j hj=>by
   have:j<i:=by simpa[below]using hj
   rw[g1 j (Xa)];(try dsimp only);rw[if_neg (Xa)]
 refine⟨hp',⟨fun j hj=>?_,hpi,g3,?_,fun c hc hH j hij hjs hadm=>?_,fun k o' hk ho'=>?_⟩,hpj⟩
 ·rw[g1 j (Xa)];(try dsimp only);rw[if_neg (Xa)]
 ·rw[hpj _ (Xa)];exact g4
 ·by_cases hj:j=i
  ·subst hj;rw[hpi];exact hH
  ·rw[hpj j (Xa)]
   obtain⟨q1,q2⟩:=h4.ps c hc
   rcases q2 hH with q2|⟨q2,q3⟩
   ·exact g5 c q1 q2 j Xa hjs fun e oe he=>hadm e oe Xa
   ·have:=hadm i o (Nat.le_refl _) hi (by have h':=q2;rw[hpre,hsi]at h';exact h') (hms.head q3)
    omega
 ·by_cases hki:k=i
  ·subst hki
   rw[hi]at ho';cases ho'
   rw[eF,xi,hpi,hpj (k+1) Xa,g2]
   refine⟨h3,fun hk'=>?_⟩
   obtain⟨k1,k2,k3⟩:=h6 hk'
   refine⟨k1,fun g hg=>(k2 g hg).imp hms.head id,fun j hj1 hj2 hadm=>?_⟩
   by_cases hj:j=k
   ·subst hj;rw[hpi];exact k3 H fun c _ _ hc=>hc
   ·rw[hpj j (Xa)]
    exact k3 _ fun c hc hci hcH=>g5 c hc (by rw[k1];exact hcH) j Xa hj2 fun e oe _ hoe hee ha=>hadm.2 e oe hoe hee (by rw[← hci];exact ha)
  ·obtain⟨k1,k2⟩:=g6 k o' Xa ho'
   have hks:k<ops.size:=(Array.getElem?_eq_some_iff.1 ho').1
   rw[hpj k Xa,hpj (k+1) (Xa)]
   refine⟨k1,fun hk'=>⟨(k2 hk').1,fun g hg=>(k2 hk').2.1 g (h4.old g hg),fun j hj1 hj2 hadm=>?_⟩⟩
   by_cases hj:j=i
   ·subst hj
    rw[hpi]
    rcases h4.new with hn|hn
    ·rw[hsi]at hn
     rcases(k2 hk').2.1 _ hn with ha|ha
     ·by_cases hoe:gC P Ω (Ls pre) j o.op=.eff
      ·have:=hadm.1 j o hi hoe ha;omega
      ·have hH:=(h6 hoe).1
       have:=(k2 hk').2.2 (j+1) Xa Xa ⟨fun e oe h1 h2 h3=>by have:=hadm.1 e oe h1 h2 h3;omega,fun e oe h1 h2 h3=>by
        have:=hadm.2 e oe h1 h2 h3
        have hne:e≠j:=fun he=>by subst he;rw[hi]at h1;cases h1;exact hoe h2
        omega⟩
       rw[g2,hH]at this;exact this
     ·exact ha
    ·have:=(k2 hk').2.2 (j+1) Xa Xa ⟨fun e oe h1 h2 h3=>by have:=hadm.1 e oe h1 h2 h3;omega,fun e oe q1 q2 q3=>by
      have:=hadm.2 e oe q1 q2 q3
      have hne:e≠j:=fun he=>by subst he;have:=Sl hr hlt q3;omega
      omega⟩
     rw[g2,hn]at this;exact this
   ·rw[hpj j (Xa)]
    exact(k2 hk').2.2 j Xa hj2 hadm
def UP(P:Program)(Ω:Tbl)(ops:Array Oper)(pre:List (Nat × Nat))(f0:Nat→AV)(K:Vz)(i:Nat)(hs:HS)(ps:List (Nat × (AHeap→Prop)))(H:AHeap)(xs0:Nat→AV):Prop :=
 ∃ (c:Nat) (oc:Oper) (ys:Nat→AV) (Post:By1),i≤c∧ops[c]?=some oc∧rB Ω oc.op=true∧(∀ j,j<i→ys j=xs0 j) ∧
  (∀ k o,i≤k→k<c→ops[k]?=some o→AY P ops pre k o (FS ops f0 ys (below k)) H (ys k) H)∧STS P oc (FS ops f0 ys (below c)) H Post ∧
  ∀ x H',Post x H'→∃ xs hp frn,LexA P Ω ops pre f0 K i hs ps H xs0 c xs hp frn∧(∀ j,j<c→xs j=ys j)∧xs c=x∧hp (c+1)=H'∧∀ j,i≤j→j≤c→hp j=H
theorem Si(hΩ:TblOk P Ω){pre:List (Nat × Nat)}(hr:RegOk P Ω n (Ls pre) ops)(f0:Nat→AV){K:Vz}:∀(rest:List Oper)(i:Nat),i+rest.length=ops.size→(∀ j,rest[j]?=ops[i+j]?) →
 ∀ hs ps fr H xs0,hs.pre=pre→hs.i=i→MaskOk ops i hs.ms→awD P Ω ops rest hs ps K fr H→Fr.get fr=FS ops f0 xs0 (below i) →
 (∃ xs hp frn,LexA P Ω ops pre f0 K i hs ps H xs0 ops.size xs hp frn)∨UP P Ω ops pre f0 K i hs ps H xs0
 |[],i,hlen,hl,hs,ps,fr,H,xs0,_,_,_,h,hfr=>by
  have hi:i=ops.size:=by simpa using hlen
  subst hi
  refine .inl ⟨xs0,fun _=>H,fr,fun _ _=>rfl,rfl,hfr,h,fun c hc hH j _ _ _=>hH,fun k o hk ho=>?_⟩
  have:=(Array.getElem?_eq_some_iff.1 ho).1
  omega
 |o::rest,i,hlen,hl,hs,ps,fr,H,xs0,hpre,hsi,hms,h,hfr=>by
  have hi:ops[i]?=some o:=by have:=hl 0;simpa using this.symm
  have hlt:i<ops.size:=(Array.getElem?_eq_some_iff.1 hi).1
  have hl':∀ j,rest[j]?=ops[i+1+j]?:=fun j=>by
   have:=hl (j+1);simp only[List.getElem?_cons_succ]at this;rw[this];congr 1;omega
  have e1:∀(x:AV)(fr':Fr),Fr.get fr'=uM (Fr.get fr) o.dst x→Fr.get fr'=FS ops f0 (fun j=>if j=i then x else xs0 j) (below (i+1)):=fun x fr' h2=>by
   have e0:FS ops f0 xs0 (below i)=FS ops f0 (fun j=>if j=i then x else xs0 j) (below i):=funext fun t=>lF (fun _ _ _=>rfl) fun j hj=>by
    have:j<i:=by simpa[below]using hj
    (try dsimp only);rw[if_neg (Xa)]
   rw[yQ hr hi (S:=below i) (by simp[below]) (fun j hj=>by simp only[below];rw[decide_eq_decide];omega),← e0,← hfr,h2]
   simp
  cases hsm:rB Ω o.op with
  |true=>
   have hgd:=(hr.sm i i o o hi hi hsm).1
   have hef:gC P Ω (Ls pre) i o.op=.eff:=QN hΩ hsm
   unfold awD at h
   rw[hgd]at h
   obtain⟨Post,hS,hP⟩:=B8 hΩ hsm h
   refine .inr ⟨i,o,xs0,Post,Nat.le_refl _,hi,hsm,fun _ _=>rfl,fun k o' h1 h2=>Xa,by rw[← hfr];exact hS,fun x H' hx=>?_⟩
   obtain⟨p1,p2⟩:=hP x H' hx
   have h4:Moved P Ω o hs (hs.push H) ps ps H H':=.push (by rw[hpre,hsi];exact hef) p1
   rcases Si hΩ hr f0 rest (i+1) (by simp at hlen;omega) hl' (hs.push H) ps (fr.put o.dst x) H' (fun j=>if j=i then x else xs0 j) (by rw[h4.pre,hpre]) (by rw[h4.i,hsi]) (by rw[h4.ms];exact hms.tail) p2 (e1 x _ (gZ _ _ _))with⟨xs,hp,frn,hA⟩|⟨c,oc,ys,Post',q1,q2,q3,_⟩
   ·obtain⟨hp',g1,g2⟩:=LexA.cons hr hi hpre hsi hms hfr (x:=x) (ex:=i) (fun h=>absurd rfl h) h4 (fun h=>absurd hef h) (hA.weak i)
    refine⟨xs,hp',frn,g1,fun j hj=>g1.e1 j hj,by rw[hA.e1 i (by omega)];simp,by rw[g2 _ (by omega)];exact hA.e2,fun j h1 h2=>?_⟩
    rw[show j=i by omega];exact g1.e2
   ·exfalso
    rcases(hr.sm i c o oc hi q2 hsm).2 with q4|⟨q4,_⟩|⟨_,_,q4⟩
    ·omega
    ·omega
    ·rw[q3]at q4;cases q4
  |_=>
  obtain⟨x,H',hs',ps',fr',h1,h2,h3,h4,h6⟩:=Pa hΩ hsm h
  rw[hpre,hsi]at h3 h6
  rcases Si hΩ hr f0 rest (i+1) (by simp at hlen;omega) hl' hs' ps' fr' H' (fun j=>if j=i then x else xs0 j) (by rw[h4.pre,hpre]) (by rw[h4.i,hsi]) (by rw[h4.ms];exact hms.tail) h1 (e1 x fr' h2)with⟨xs,hp,frn,hA⟩|⟨c,oc,ys,Post,q1,q2,q3,q4,q5,q6,q7⟩
  ·obtain⟨hp',g1,_⟩:=LexA.cons hr hi hpre hsi hms hfr (fun _=>h3) h4 h6 hA
   exact .inl ⟨xs,hp',frn,g1⟩
  ·have hne:gC P Ω (Ls pre) i o.op≠.eff:=by
    rcases(hr.sm c i oc o q2 hi q3).2 with q8|⟨_,q8⟩|⟨q8,_⟩
    ·omega
    ·exact q8
    ·omega
   have hH:H'=H:=(h6 hne).1
   subst hH
   have eF:FS ops f0 ys (below i)=Fr.get fr:=by
    rw[hfr]
    exact funext fun t=>lF (fun _ _ _=>rfl) fun j hj=>by
     have:j<i:=by simpa[below]using hj
     rw[q4 j (Xa)];(try dsimp only);rw[if_neg (Xa)]
   refine .inr ⟨c,oc,ys,Post,Xa,q2,q3,fun j hj=>by rw[q4 j (by omega)];(try dsimp only);rw[if_neg (by omega)],fun k o' k1 k2 k3=>?_,q6,fun y G hy=>?_⟩
   ·by_cases hk:k=i
    ·subst hk
     rw[hi]at k3;cases k3
     rw[eF,q4 k (Xa)]
     try dsimp only
     rw[if_pos rfl]
     exact h3
    ·exact q5 k o' Xa k2 k3
   ·obtain⟨xs,hp,frn,hA,r1,r2,r3,r4⟩:=q7 y G hy
    obtain⟨hp',g1,g2⟩:=LexA.cons hr hi hpre hsi hms hfr (fun _=>h3) h4 h6 hA
    refine⟨xs,hp',frn,g1,r1,r2,by rw[g2 _ (by omega)];exact r3,fun j j1 j2=>?_⟩
    by_cases hj:j=i
    ·subst hj;exact g1.e2
    ·rw[g2 j (Xa)];exact r4 j Xa j2
end
theorem tV{p q:Nat→Bool}:∀{l:List Nat},(∀ x∈l,q x=true→p x=true)→(∃ x∈l,p x=true∧q x=false)→(l.filter q).length<(l.filter p).length
 |[],_,⟨x,hx,_⟩=>by cases hx
 |a::l,h,⟨x,hx,hp,hq⟩=>by
  have le:(l.filter q).length≤(l.filter p).length:=by
   clear hp hq hx x
   have h':∀ x∈l,q x=true→p x=true:=fun x hx=>h x (List.mem_cons_of_mem _ hx)
   clear h
   induction l with
   |nil=>simp
   |cons b l ih =>
    have ih:=ih fun x hx=>h' x (List.mem_cons_of_mem _ hx)
    have hb:=h' b List.mem_cons_self
    simp only[List.filter_cons]
    cases hqb:q b<;>cases hpb:p b<;>simp_all<;>omega
  simp only[List.filter_cons]
  rcases List.mem_cons.1 hx with rfl|hx
  ·rw[hp,hq];simp;omega
  ·have ih:=tV (fun x hx=>h x (List.mem_cons_of_mem _ hx)) ⟨x,hx,hp,hq⟩
   have ha:=h a List.mem_cons_self
   cases hqb:q a<;>cases hpb:p a<;>simp_all<;>omega
section
variable {P:Program} {Ω:Tbl} {n:Nat} {ops:Array Oper} {w0:World} {γ0:cQ} {H0:AHeap} {ds:List Deferred} {Q:Exit→Act→World→Prop}
structure PreInv(H0:AHeap)(pre:List (Nat × Nat))(S:Nat→Bool)(γ:cQ)(H:AHeap):Prop where
 old:∀ k r,k<100000→ii pre k=some r→H0.nx≤r∧r<H.nx∧notBuf H r
 none:∀ k r,k<100000→ii pre k=some r→S k=false→γ r=none
 inj:∀ k k' r,k<100000→k'<100000→ii pre k=some r→ii pre k'=some r→k=k'
theorem PreInv.ext{pre:List (Nat × Nat)}{S S':Nat→Bool}{w w':World}{γ γ':cQ}{H H':AHeap}(h:PreInv H0 pre S γ H)(he:Ext w γ H w' γ' H')(hS:∀ k,S k=true→S' k=true):PreInv H0 pre S' γ' H' where
 old:=fun k r hk hr=>by
  obtain⟨h1,h2,h3⟩:=h.old k r hk hr
  exact⟨h1,Nat.lt_of_lt_of_le h2 he.nx,(he.notBuf h2 h3).1⟩
 none:=fun k r hkk hr hS'=>by
  obtain⟨h1,h2,h3⟩:=h.old k r hkk hr
  rw[(he.notBuf h2 h3).2]
  refine h.none k r hkk hr ?_
  cases hk:S k with
  |false=>rfl
  |true=>rw[hS k hk]at hS';cases hS'
 inj:=h.inj
def Dz{t:TypeId}{i:TI}(h:ti P t=some i):oB P t=i.zero.cells∧S4 i.zero.cells:=by
 refine⟨by unfold oB;rw[h];rfl,?_⟩
 obtain⟨d,inf,z,_,_,_,rfl⟩:=em h
 intro x hx
 cases z with
 |agg cs =>
  simp only[ofValue,AV.cells,List.mem_map]at hx
  obtain⟨u,_,rfl⟩:=hx
  exact⟨_,fun w γ H=>lg _⟩
 |_ =>
  simp only[ofValue,nj,List.mem_singleton]at hx
  subst hx
  exact⟨_,fun w γ H=>lg _⟩
theorem AY.sound{o:Oper}{i:Nat}{pre:List (Nat × Nat)}{S S':Nat→Bool}{f:Nat→AV}{H H':AHeap}{x:AV}(h:AY P ops pre i o f H x H')(ho:ops[i]?=some o)(hd:mC n o=true){w:World}{γ:cQ}{a:Act}(hi:Inv w0 γ0 H0 ds n w γ H f a)
 (hp:PreInv H0 pre S γ H) (hSi:S i=false) (hS:∀ k,S k=true→S' k=true) (hS':S' i=true)
 {K:Act→World→Prop} (hK:∀ w' γ' a',Inv w0 γ0 H0 ds n w' γ' H' (uM f o.dst x) a'→PreInv H0 pre S' γ' H'→K a' w'):wpOp P ops Q i K a w:=by
 have run:STP P pre i o f H x H'→o.wp P a w K Q:=fun hst=>by
  unfold STP at hst
  split at hst
  ·rename_i t r hpre
   obtain⟨rfl,rfl,hc,hti⟩:=hst
   obtain⟨hop,hat,hik⟩:=CO (P:=P) (Ω:=[]) hpre
   obtain⟨ti',hti'⟩:=Option.isSome_iff_exists.1 hti
   obtain⟨hz,_⟩:=Dz hti'
   obtain⟨d,inf,z,hd',hinf,hz',rfl⟩:=em hti'
   obtain⟨g1,g2,g3⟩:=hp.old i r hik hat
   have ho':H'.get r=some (.cells (ofValue z).cells):=by
    unfold lZ at hc
    rw[hz]at hc
    unfold a8 at hc
    split at hc<;>cases hc
    assumption
   have hrun:(execOp a.eval o).run P w=.ok (.value (.pointer (some ⟨w.heap.size,0,none⟩))) (w.alloc (.cells z.cells t)):=by
    obtain⟨dst,op,ty,pos,after,guard⟩:=o
    dsimp only at hop
    subst hop
    simp[execOp,Instr.alloc,jA hinf hz',newVar,newRow]
   have hcm:Comes w γ H' r w.heap.size (w.alloc (.cells z.cells t)) :=
    ⟨hp.none i r hik hat hSi,⟨_,ho'⟩,rfl,rfl,rfl,Xc,Nat.le_refl _,fun b hb=>iu w _ hb⟩
   obtain⟨c1,c2⟩:=jG (w:=w) (γ:=γ) (H:=H') z
   have hst:=hcm.state hi.state ho' (im w (.cells z.cells t)) Xa c2 (fun p _ _ h=>by simp at h)
   have he:=hcm.ext hi.ext g1
   have hrel:Rel (w.alloc (.cells z.cells t)) (upd γ r (some w.heap.size)) H' (.ptr r 0) (.pointer (some ⟨w.heap.size,0,none⟩)) :=
    rel_ptr.2 ⟨g2,g3,_,eM _ _ _,rfl⟩
   unfold Oper.wp
   rw[hrun,Oper.upon_value]
   refine hK _ _ _ ⟨hst,he,?_,?_,?_⟩ ⟨fun k r' hkk hk=>?_,fun k r' hkk hk hSk=>?_,hp.inj⟩
   ·have hsim:SimF (w.alloc (.cells z.cells t)) (upd γ r (some w.heap.size)) H' f a:=fun t=>hcm.rel _ _ (hi.sim t)
    unfold mC at hd
    split at hd
    ·rename_i d hdd
     intro s
     have hlt:d<a.tmps.size:=by rw[hi.size];simpa using hd
     simp only[uM,hdd,Act.put]
     by_cases ht:s=d
     ·subst ht;simp[hlt,hrel]
     ·rw[if_neg ht]
      have:=hsim s
      exact W28
    ·rename_i hdd
     rw[hdd];exact hsim
   ·rw[Act.size_put];exact hi.size
   ·rw[Act.defers_put];exact hi.defers
   ·exact hp.old k r' hkk hk
   ·have hki:k≠i:=fun e=>by rw[e,hS']at hSk;cases hSk
    have hr:r'≠r:=fun e=>hki (hp.inj k i r hkk hik (by rw[← e];exact hk) hat)
    rw[eR _ _ _ _ hr]
    refine hp.none k r' hkk hk ?_
    cases hk':S k with
    |false=>rfl
    |true=>rw[hS k hk']at hSk;cases hSk
  ·exact hst.sound hi.state hi.sim (fun y v w' γ' he h1 h2 h3=>by
    cases he;exact hK w' γ' _ (hi.put hd h1 h2 h3) (hp.ext h2 hS)) (fun y v w' γ' he=>by cases he)
 unfold wpOp
 simp only[ho]
 unfold AY at h
 cases hg:o.guard with
 |none =>
  rw[hg]at h
  rw[if_pos (by simp[Region.wanted,hg])]
  exact .inl (run h)
 |some gw =>
  obtain⟨j,want⟩:=gw
  rw[hg]at h
  obtain⟨t,ht,⟨b,hft,h1,h2⟩|⟨hft,rfl,rfl⟩⟩:=h
  rotate_left
  ·have hy:=rH hi.sim ht hft
   rw[if_neg (by simp[Region.wanted,hg,hy])]
   exact hK w γ _ (hi.put hd hi.state (Ext.refl _ _ _) qT) (hp.ext (Ext.refl w γ _) hS)
  have hy:=wl hi.sim ht hft
  by_cases hb:b=want
  ·rw[if_pos (by simp[Region.wanted,hg,hy,hb])]
   exact .inl (run (h1 hb))
  ·rw[if_neg (by simp[Region.wanted,hg,hy,hb])]
   obtain⟨rfl,rfl⟩:=h2 hb
   exact hK w γ _ (hi.put hd hi.state (Ext.refl _ _ _) qT) (hp.ext (Ext.refl w γ _) hS)
variable {f0 xs:Nat→AV} {hp:Nat→AHeap} {ex:Nat}
def DD(P:Program)(Ω:Tbl)(pre:List (Nat × Nat))(ops:Array Oper)(f0:Nat→AV)(ex:Nat)(xs:Nat→AV)(hp:Nat→AHeap):Prop :=
 ∀ k o,ops[k]?=some o→(k≠ex→AY P ops pre k o (FS ops f0 xs (below k)) (hp k) (xs k) (hp (k+1))) ∧
  (gC P Ω (Ls pre) k o.op≠.eff→hp (k+1)=hp k∧∀ j,j≤ops.size→adm P Ω (Ls pre) ops k j→AY P ops pre k o (FS ops f0 xs (below k)) (hp j) (xs k) (hp j))
theorem JK{pre:List (Nat × Nat)}(hl:DD P Ω pre ops f0 ex xs hp):∀(d k:Nat),k+d≤ops.size→(∀ e o,ops[e]?=some o→gC P Ω (Ls pre) e o.op=.eff→k≤e→k+d≤e)→hp k=hp (k+d)
 |0,k,_,_=>rfl
 |d+1,k,h,he=>by
  have hlt:k<ops.size:=Xa
  have ho:ops[k]?=some ops[k]:=by simp[hlt]
  have hne:gC P Ω (Ls pre) k ops[k].op≠.eff:=fun hk=>by have:=he k _ ho hk (Nat.le_refl _);omega
  rw[show k+(d+1)=(k+1)+d by omega,← JK hl d (k+1) Xa fun e o heo hk hle=>by have:=he e o heo hk (Xa);omega]
  exact((hl k _ ho).2 hne).1.symm
def Je{pre:List (Nat × Nat)}(hl:DD P Ω pre ops f0 ex xs hp){k i:Nat}(hk:k≤ops.size)(hi:i≤ops.size)(h1:∀ e o,ops[e]?=some o→gC P Ω (Ls pre) e o.op=.eff→(e<k↔e<i)):hp k=hp i:=by
 rcases Nat.le_total k i with h|h
 ·have:=JK hl (i-k) k Xa fun e o he hke hle=>by have:=h1 e o he hke;omega
  rw[this];congr 1;omega
 ·have:=JK hl (k-i) i Xa fun e o he hke hle=>by have:=h1 e o he hke;omega
  rw[this];congr 1;omega
def xL{pre:List (Nat × Nat)}(hr:RegOk P Ω n (Ls pre) ops)(hl:DD P Ω pre ops f0 ex xs hp)
 (hQ:∀ w γ a,Inv w0 γ0 H0 ds n w γ (hp ops.size) (FS ops f0 xs (below ops.size)) a→Q .normal a w) :
 ∀(fuel:Nat)(listed:Array Bool)(k:Nat)(a:Act)(w:World)(γ:cQ),(∀ i,i<ops.size→listed.getD i false=false→i≠ex)→listed.size=ops.size→k≤ops.size →
  (∀ i o e,ops[i]?=some o→listed.getD i false=true→e∈o.after→Region.binds .any e=true→listed.getD e.on false=true) →
  (∀ e o,ops[e]?=some o→gC P Ω (Ls pre) e o.op=.eff→(listed.getD e false=true↔e<k)) →
  Inv w0 γ0 H0 ds n w γ (hp k) (FS ops f0 xs (fun j=>listed.getD j false)) a→PreInv H0 pre (fun j=>listed.getD j false) γ (hp k) →
  ((List.range ops.size).filter (fun j=>!listed.getD j false)).length≤fuel→wpAny P .any ops Q fuel listed a w:=by
 obtain⟨hanc,hlen⟩:=nP (ops:=ops) ops.toList [] (fun j=>Xc) (fun i hi=>absurd hi Xc)
 have hgd:∀(listed:Array Bool) j,listed.size=ops.size→j<ops.size→listed.getD j true=listed.getD j false:=fun listed j h1 h2=>by simp[h1,h2]
 have iF:∀(listed:Array Bool)(k:Nat)(a:Act)(w:World)(γ:cQ),k≤ops.size→(∀ j,j<ops.size→listed.getD j false=true) →
  (∀ e o,ops[e]?=some o→gC P Ω (Ls pre) e o.op=.eff→(listed.getD e false=true↔e<k)) →
  Inv w0 γ0 H0 ds n w γ (hp k) (FS ops f0 xs (fun j=>listed.getD j false)) a→Q .normal a w:=by
  intro listed k a w γ hk hall h2 hi
  refine hQ w γ a ?_
  have e1:FS ops f0 xs (fun j=>listed.getD j false)=FS ops f0 xs (below ops.size):=funext fun t=>lF (fun j hj _=>by
   rw[hall j hj];simp[below,hj]) fun _ _=>rfl
  have e2:hp k=hp ops.size:=Je hl hk (Nat.le_refl _) fun e o he hke=>by
   have:=(h2 e o he hke).1 (hall e (Array.getElem?_eq_some_iff.1 he).1)
   exact⟨fun _=>(Array.getElem?_eq_some_iff.1 he).1,fun _=>this⟩
  rw[← e1,← e2];exact hi
 intro fuel
 induction fuel with
 |zero =>
  intro listed k a w γ hex hsz hk h1 h2 hi hpi hc
  have hall:∀ j,j<ops.size→listed.getD j false=true:=fun j hj=>by
   have:=List.filter_eq_nil_iff.1 (List.length_eq_zero_iff.1 (Nat.le_zero.1 hc)) j (List.mem_range.2 hj)
   simpa using this
  refine⟨?_,iF listed k a w γ hk hall h2 hi⟩
  rw[List.eq_nil_iff_forall_not_mem]
  intro j hj
  obtain⟨h0,o,ho,_⟩:=mem_ready.1 hj
  have hlt:=(Array.getElem?_eq_some_iff.1 ho).1
  rw[hgd listed j hsz hlt,hall j hlt]at h0
  cases h0
 |succ fuel ih =>
  intro listed k a w γ hex hsz hk h1 h2 hi hpi hc
  refine⟨fun hnil=>?_,fun i hir=>?_⟩
  ·refine iF listed k a w γ hk (fun j=>?_) h2 hi
   exact W4
  ·obtain⟨h0,o,ho,hall⟩:=mem_ready.1 hir
   have hlt:i<ops.size:=(Array.getElem?_eq_some_iff.1 ho).1
   have hun:listed.getD i false=false:=by rw[← hgd listed i hsz hlt];exact h0
   have hA:∀ j,((iR ops.toList []).getD i 0).testBit j=true→listed.getD j false=true:=fun j hj =>
    hanc i (by rw[hlen];simpa using hlt) j hj (fun j=>listed.getD j false=true) (fun k o e h3 h4=>h1 k o e h3 h4) fun o' e ho' he hb=>by
     rw[ho]at ho';cases ho';exact hall e he hb
   have hB:∀ j,j<ops.size→((iR ops.toList []).getD j 0).testBit i=true→listed.getD j false=false:=fun j hj hb=>by
    exact W10
   have hset:∀ j,j≠i→(listed.setIfInBounds i true).getD j false=listed.getD j false:=fun j hj=>getD_set_ne false (Ne.symm hj)
   have hseti:(listed.setIfInBounds i true).getD i false=true:=by simp[hsz,hlt]
   have hfr:∀ t∈o.looksAt ops,FS ops f0 xs (below i) t=FS ops f0 xs (fun j=>listed.getD j false) t:=fun t ht=>lF (fun j hj hd=>by
    have hoj:ops[j]?=some ops[j]:=by simp[hj]
    rcases hr.looks i j o ops[j] t ho hoj ht (by rw[sJ hoj]at hd;exact hd)with rfl|⟨h3,h4⟩|⟨h3,h4⟩
    ·rw[hun];simp[below]
    ·rw[hA j h4];simp[below,h3]
    ·rw[hB j hj h4];simp only[below,decide_eq_false_iff_not];omega) fun _ _=>rfl
   have hcl:∀ i' o' e,ops[i']?=some o'→(listed.setIfInBounds i true).getD i' false=true→e∈o'.after→Region.binds .any e=true→(listed.setIfInBounds i true).getD e.on false=true:=by
    intro i' o' e ho' hl' he hb
    exact W18
   have hcount:((List.range ops.size).filter (fun j=>!(listed.setIfInBounds i true).getD j false)).length≤fuel:=by
    exact W7
   have hput:=yQ (f0:=f0) (xs:=xs) (S:=fun j=>listed.getD j false) (S':=fun j=>(listed.setIfInBounds i true).getD j false) hr ho hseti hset
   have hdo:=hr.dst i o ho
   have hmono:∀ k,listed.getD k false=true→(listed.setIfInBounds i true).getD k false=true:=fun k hk'=>getD_set_true hk'
   obtain⟨k1,k2⟩:=hl i o ho
   replace k1:=k1 (hex i hlt hun)
   have hex':∀ j,j<ops.size→(listed.setIfInBounds i true).getD j false=false→j≠ex:=fun j hj hjl=>hex j hj (by
    by_cases hji:j=i
    ·subst hji;exact hun
    ·rw[hset j hji]at hjl;exact hjl)
   by_cases hke:gC P Ω (Ls pre) i o.op=.eff
   ·have hki:hp k=hp i:=Je hl hk Xa fun e oe he hee=>by
     rcases Nat.lt_trichotomy e i with h3|h3|h3
     ·have:=(h2 e oe he hee).1 (hA e (hr.effs i e o oe ho he hke hee h3))
      exact⟨fun _=>h3,fun _=>this⟩
     ·subst h3
      exact⟨fun h=>(by have:=(h2 e oe he hee).2 h;rw[hun]at this;cases this),fun h=>Xa⟩
     ·have hnl:=hB e (Array.getElem?_eq_some_iff.1 he).1 (hr.effs e i oe o he ho hee hke h3)
      exact⟨fun h=>(by have:=(h2 e oe he hee).2 h;rw[hnl]at this;cases this),fun h=>Xa⟩
    rw[← hki]at k1
    refine(vo hfr k1).sound ho hdo hi hpi hun hmono hseti fun w' γ' a' hi' hpi'=>?_
    rw[← hput]at hi'
    refine ih _ (i+1) a' w' γ' hex' (by simp[hsz]) Xa hcl (fun e oe he hee=>?_) hi' hpi' hcount
    rcases Nat.lt_trichotomy e i with h3|h3|h3
    ·rw[hset e Xa,hA e (hr.effs i e o oe ho he hke hee h3)]
     exact⟨fun _=>Xa,fun _=>rfl⟩
    ·subst h3;rw[hseti];exact⟨fun _=>Xa,fun _=>rfl⟩
    ·rw[hset e Xa,hB e (Array.getElem?_eq_some_iff.1 he).1 (hr.effs e i oe o he ho hee hke h3)]
     exact⟨fun h=>(Bool.false_ne_true h).elim,fun h=>Xa⟩
   ·have k3:=(k2 hke).2 k hk ⟨fun e oe he hee ha=>(h2 e oe he hee).1 (hA e ha),fun e oe he hee ha=>by
     have hnl:=hB e (Array.getElem?_eq_some_iff.1 he).1 ha
     refine Nat.le_of_not_lt fun hlt=>?_
     have:=(h2 e oe he hee).2 hlt
     rw[hnl]at this;cases this⟩
    refine(vo hfr k3).sound ho hdo hi hpi hun hmono hseti fun w' γ' a' hi' hpi'=>?_
    rw[← hput]at hi'
    refine ih _ k a' w' γ' hex' (by simp[hsz]) hk hcl (fun e oe he hee=>?_) hi' hpi' hcount
    have hne:e≠i:=fun h=>by subst h;rw[ho]at he;cases he;exact hke hee
    rw[hset e hne];exact h2 e oe he hee
def CU{pre:List (Nat × Nat)}(hΩ:TblOk P Ω)(hr:RegOk P Ω n (Ls pre) ops){c:Nat}{oc:Oper}{ys:Nat→AV}{H:AHeap}{Post:By1}(hc:ops[c]?=some oc)(hsm:rB Ω oc.op=true)
 (hF:∀ k o,k<c→ops[k]?=some o→AY P ops pre k o (FS ops f0 ys (below k)) H (ys k) H) (hS:STS P oc (FS ops f0 ys (below c)) H Post)
 (hP:∀ x H',Post x H'→∃ xs hp,DD P Ω pre ops f0 c xs hp∧(∀ j,j<c→xs j=ys j)∧xs c=x∧hp (c+1)=H' ∧
   ∀ w γ a,Inv w0 γ0 H0 ds n w γ (hp ops.size) (FS ops f0 xs (below ops.size)) a→Q .normal a w) :
 ∀(fuel:Nat)(listed:Array Bool)(a:Act)(w:World)(γ:cQ),listed.getD c false=false→listed.size=ops.size →
  (∀ i o e,ops[i]?=some o→listed.getD i false=true→e∈o.after→Region.binds .any e=true→listed.getD e.on false=true) →
  Inv w0 γ0 H0 ds n w γ H (FS ops f0 ys (fun j=>listed.getD j false)) a→PreInv H0 pre (fun j=>listed.getD j false) γ H →
  ((List.range ops.size).filter (fun j=>!listed.getD j false)).length≤fuel→wpAny P .any ops Q fuel listed a w:=by
 obtain⟨hanc,hlen⟩:=nP (ops:=ops) ops.toList [] (fun j=>Xc) (fun i hi=>absurd hi Xc)
 have hcs:c<ops.size:=(Array.getElem?_eq_some_iff.1 hc).1
 have hgd:∀(listed:Array Bool) j,listed.size=ops.size→j<ops.size→listed.getD j true=listed.getD j false:=fun listed j h1 h2=>by simp[h1,h2]
 intro fuel
 induction fuel with
 |zero =>
  intro listed a w γ hcl hsz h1 hi hpi hcn
  have:=List.filter_eq_nil_iff.1 (List.length_eq_zero_iff.1 (Nat.le_zero.1 hcn)) c (List.mem_range.2 hcs)
  rw[hcl]at this
  exact absurd rfl this
 |succ fuel ih =>
  intro listed a w γ hcl hsz h1 hi hpi hcn
  refine⟨fun hnil=>?_,fun i hir=>?_⟩
  ·exfalso
   have hall:∀ j,j<ops.size→listed.getD j false=true:=fun j=>by
    exact W4
   rw[hall c hcs]at hcl;cases hcl
  ·obtain⟨h0,o,ho,hall⟩:=mem_ready.1 hir
   have hlt:i<ops.size:=(Array.getElem?_eq_some_iff.1 ho).1
   have hun:listed.getD i false=false:=by rw[← hgd listed i hsz hlt];exact h0
   have hA:∀ j,((iR ops.toList []).getD i 0).testBit j=true→listed.getD j false=true:=fun j hj =>
    hanc i (by rw[hlen];simpa using hlt) j hj (fun j=>listed.getD j false=true) (fun k o e h3 h4=>h1 k o e h3 h4) fun o' e ho' he hb=>by
     rw[ho]at ho';cases ho';exact hall e he hb
   have hB:∀ i j,listed.getD i false=false→j<ops.size→((iR ops.toList []).getD j 0).testBit i=true→listed.getD j false=false:=fun i j hun hj hb=>by
    exact W10
   have hset:∀ j,j≠i→(listed.setIfInBounds i true).getD j false=listed.getD j false:=fun j hj=>getD_set_ne false (Ne.symm hj)
   have hseti:(listed.setIfInBounds i true).getD i false=true:=by simp[hsz,hlt]
   have hfr:∀ t∈o.looksAt ops,FS ops f0 ys (below i) t=FS ops f0 ys (fun j=>listed.getD j false) t:=fun t ht=>lF (fun j hj hd=>by
    have hoj:ops[j]?=some ops[j]:=by simp[hj]
    rcases hr.looks i j o ops[j] t ho hoj ht (by rw[sJ hoj]at hd;exact hd)with rfl|⟨h3,h4⟩|⟨h3,h4⟩
    ·rw[hun];simp[below]
    ·rw[hA j h4];simp[below,h3]
    ·rw[hB i j hun hj h4];simp only[below,decide_eq_false_iff_not];omega) fun _ _=>rfl
   have hclo:∀ i' o' e,ops[i']?=some o'→(listed.setIfInBounds i true).getD i' false=true→e∈o'.after→Region.binds .any e=true→(listed.setIfInBounds i true).getD e.on false=true:=by
    intro i' o' e ho' hl' he hb
    exact W18
   have hcount:((List.range ops.size).filter (fun j=>!(listed.setIfInBounds i true).getD j false)).length≤fuel:=by
    exact W7
   have hdo:=hr.dst i o ho
   have hmono:∀ k,listed.getD k false=true→(listed.setIfInBounds i true).getD k false=true:=fun k hk'=>getD_set_true hk'
   -- what comes behind the call is not yet run
   have hbe:∀ j,j<ops.size→c<j→listed.getD j false=false:=fun j hj hcj=>by
    rcases(hr.sm c j oc ops[j] hc (by simp[hj]) hsm).2 with q|⟨q,_⟩|⟨_,q,_⟩
    ·omega
    ·omega
    ·exact hB c j hcl hj q
   by_cases hic:i=c
   ·subst hic
    rw[hc]at ho;cases ho
    obtain⟨cl,g,kf,first,cap,s1,s2,s3,s4⟩:=Gb hfr hS
    unfold wpOp
    simp only[hc]
    rw[if_pos (by simp[Region.wanted,(hr.sm i i oc oc hc hc hsm).1])]
    refine .inl (uq s1 s2 s3 s4 hi.state hi.sim fun x H' v w' γ' hx g1 g2 g3=>?_)
    obtain⟨xs,hp,r1,r2,r3,r4,r5⟩:=hP x H' hx
    have hi':=hi.put hdo g1 g2 g3
    have eF:FS ops f0 ys (fun j=>listed.getD j false)=FS ops f0 xs (fun j=>listed.getD j false):=funext fun t=>lF (fun _ _ _=>rfl) fun j hj=>by
     by_cases hjs:j<ops.size
     ·by_cases hjc:j<i
      ·exact(r2 j hjc).symm
      ·by_cases hji:j=i
       ·subst hji;rw[hun]at hj;cases hj
       ·rw[hbe j hjs (Xa)]at hj;cases hj
     ·rw[show listed.getD j false=false by simp[hsz,hjs]]at hj;cases hj
    have hput:=yQ (f0:=f0) (xs:=xs) (S:=fun j=>listed.getD j false) (S':=fun j=>(listed.setIfInBounds i true).getD j false) hr hc hseti hset
    rw[eF,← r3,← hput,← r4]at hi'
    refine xL hr r1 r5 fuel _ (i+1) _ w' γ' (fun j hj hjl hji=>?_) (by simp[hsz]) Xa hclo (fun e oe he hee=>?_) hi' (by rw[r4];exact hpi.ext g2 hmono) hcount
    ·subst hji;rw[hseti]at hjl;cases hjl
    ·rcases Nat.lt_trichotomy e i with h3|h3|h3
     ·rcases(hr.sm i e oc oe hc he hsm).2 with q|⟨_,q⟩|⟨q,_⟩
      ·omega
      ·exact absurd hee q
      ·omega
     ·subst h3;rw[hseti];exact⟨fun _=>Xa,fun _=>rfl⟩
     ·rw[hset e Xa,hbe e (Array.getElem?_eq_some_iff.1 he).1 h3]
      exact⟨fun h=>(Bool.false_ne_true h).elim,fun h=>Xa⟩
   ·have hlc:i<c:=by
     rcases(hr.sm c i oc o hc ho hsm).2 with q|⟨q,_⟩|⟨_,q,_⟩
     ·exact absurd q hic
     ·exact q
     ·rw[hA c q]at hcl;cases hcl
    have hput:=yQ (f0:=f0) (xs:=ys) (S:=fun j=>listed.getD j false) (S':=fun j=>(listed.setIfInBounds i true).getD j false) hr ho hseti hset
    refine(vo hfr (hF i o hlc ho)).sound ho hdo hi hpi hun hmono hseti fun w' γ' a' hi' hpi'=>?_
    rw[← hput]at hi'
    exact ih _ a' w' γ' (by rw[hset c (Ne.symm hic)];exact hcl) (by simp[hsz]) hclo hi' hpi' hcount
def Gw(hm:P.follows .mixedOrders=true)(hΩ:TblOk P Ω){pre:List (Nat × Nat)}(hok:regionOk P Ω n (Ls pre) ops=true){K:Vz}{id:Nat}{fr:Fr}{H:AHeap}{w:World}{γ:cQ}{a:Act}
 (hK:∀ fr H w γ a,Inv w0 γ0 H0 ds n w γ H (Fr.get fr) a→K fr H→Q .normal a w)
 (hi:Inv w0 γ0 H0 ds n {w with drawn:=w.drawn+1} γ H (Fr.get fr) a) {ms:List (List Nat)} (hmk:MaskOk ops 0 ms) (hpi:PreInv H0 pre (fun _=>false) γ H) {lit:List Nat} (h:awD P Ω ops ops.toList ⟨ms,0,[],pre,lit⟩ [] K fr H):(Code.region id ops true).wp P Q a w:=by
 have hr:=xt hok
 have e0:FS ops (Fr.get fr) (fun _=>.junk) (below 0)=Fr.get fr:=by
  funext t;unfold FS
  rw[List.find?_eq_none.2 (fun j _=>by simp[below])]
 have en:∀ xs:Nat→AV,FS ops (Fr.get fr) xs (fun j=>(Array.replicate ops.size false).getD j false)=Fr.get fr:=fun xs=>by
  funext t;unfold FS
  rw[List.find?_eq_none.2 (fun j hj=>by have:=List.mem_range.1 hj;simp[this])]
 have hun:∀ j,j<ops.size→(Array.replicate ops.size false).getD j false=false:=fun j hj=>by simp[hj]
 have hlo:∀ i o e,ops[i]?=some o→(Array.replicate ops.size false).getD i false=true→e∈o.after→Region.binds .any e=true→(Array.replicate ops.size false).getD e.on false=true:=by
  intro i o e ho hli;exfalso
  have hlt:=(Array.getElem?_eq_some_iff.1 ho).1
  simp[hlt]at hli
 have hpn:PreInv H0 pre (fun j=>(Array.replicate ops.size false).getD j false) γ H:=⟨hpi.old,fun k r hkk hk _=>hpi.none k r hkk hk rfl,hpi.inj⟩
 rcases Si hΩ hr (Fr.get fr) ops.toList 0 Xc (fun j=>Xc) ⟨ms,0,[],pre,lit⟩ [] fr H (fun _=>.junk) rfl rfl hmk h e0.symm with⟨xs,hp,frn,h1,h2,h3,h4,h5,h6⟩|⟨c,oc,ys,Post,_,q2,q3,_,q5,q6,q7⟩
 ·refine wp_region_any hm (xL (w0:=w0) (γ0:=γ0) (H0:=H0) (ds:=ds) hr (xs:=xs) (hp:=hp) (f0:=Fr.get fr) (ex:=ops.size) (fun k o ho=>?_) (fun w' γ' a' hi'=>?_) ops.size _ 0 a _ γ (fun i hi _=>Nat.ne_of_lt hi) Xc Xa hlo ?_ (by rw[h2,en];exact hi) (by rw[h2];exact hpn) (Nat.le_trans (List.length_filter_le _ _) Xc))
  ·exact W24
  ·rw[← h3]at hi';exact hK _ _ _ _ _ hi' h4
  ·intro e o he hee
   have hlt:=(Array.getElem?_eq_some_iff.1 he).1
   simp[hlt]
 ·refine wp_region_any hm (CU (w0:=w0) (γ0:=γ0) (H0:=H0) (ds:=ds) (f0:=Fr.get fr) hΩ hr q2 q3 (fun k o hk ho=>q5 k o (Nat.zero_le _) hk ho) q6 (fun x H' hx=>?_) ops.size _ a _ γ (hun c (Array.getElem?_eq_some_iff.1 q2).1) Xc hlo (by rw[en];exact hi) hpn (Nat.le_trans (List.length_filter_le _ _) Xc))
  obtain⟨xs,hp,frn,⟨h1,h2,h3,h4,h5,h6⟩,r1,r2,r3,_⟩:=q7 x H' hx
  refine⟨xs,hp,fun k o ho=>?_,r1,r2,r3,fun w' γ' a' hi'=>?_⟩
  ·exact W24
  ·rw[← h3]at hi';exact hK _ _ _ _ _ hi' h4
def jY{pre:List (Nat × Nat)}{i r0 k r:Nat}(h:ii ((i,r0)::pre) k=some r):(k=i∧r=r0)∨ii pre k=some r:=by
 unfold ii at h
 split at h
 ·rename_i e;cases h;exact .inl ⟨e.symm,rfl⟩
 ·exact .inr h
theorem rX{f:Nat→AV}{w:World}{a:Act}{N:List (Nat × Nat)→AHeap→Prop}:∀(l:List (List Nat)) (pre:List (Nat × Nat)) (H:AHeap) (γ:cQ),tA P l pre H N→Inv w0 γ0 H0 ds n w γ H f a →
 PreInv H0 pre (fun _=>false) γ H→∃ pre' H' γ',N pre' H'∧Inv w0 γ0 H0 ds n w γ' H' f a∧PreInv H0 pre' (fun _=>false) γ' H'∧Ls pre'=(l.map (·.headD 0)).reverse++Ls pre
 |[],pre,H,γ,h,hi,hp=>⟨pre,H,γ,h,hi,hp,rfl⟩
 |[i,t]::l,pre,H,γ,h,hi,hp=>by
  obtain⟨h0,hn,h⟩:=h
  obtain⟨ti',hti'⟩:=Option.isSome_iff_exists.1 h0
  obtain⟨hz,hz2⟩:=Dz hti'
  have he:=Bt hi.state (.cells (oB P t))
  have hs:=Cj hi.state (cs:=oB P t) (by rw[hz];exact hz2)
  have hp1:=hp.ext he (S':=fun _=>false) fun _ h=>h
  have hp2:PreInv H0 ((i,H.nx)::pre) (fun _=>false) (upd γ H.nx none) (H.push (.cells (oB P t))):=by
   refine⟨fun k r hkk hk=>?_,fun k r hkk hk _=>?_,fun k k' r hkk hkk' hk hk'=>?_⟩
   ·rcases jY hk with⟨rfl,rfl⟩|hk
    ·exact⟨hi.ext.nx,Xq,li _ _⟩
    ·exact hp1.old k r hkk hk
   ·rcases jY hk with⟨rfl,rfl⟩|hk
    ·exact eM _ _ _
    ·exact hp1.none k r hkk hk rfl
   ·rcases jY hk with⟨e1,e2⟩|hk<;>rcases jY hk' with⟨e3,e4⟩|hk'
    ·rw[e1,e3]
    ·have:=(hp.old k' r hkk' hk').2.1;omega
    ·have:=(hp.old k r hkk hk).2.1;omega
    ·exact hp.inj k k' r hkk hkk' hk hk'
  obtain⟨pre',H',γ',g1,g2,g3,g4⟩:=rX l ((i,H.nx)::pre) _ _ h ⟨hs,hi.ext.trans he,hi.sim.ext he,hi.size,hi.defers⟩ hp2
  exact⟨pre',H',γ',g1,g2,g3,by rw[g4];simp[Ls]⟩
 |[i]::l,pre,H,γ,h,hi,hp=>by
  obtain⟨h0,hn,h⟩:=h
  have hp2:PreInv H0 ((i,0)::pre) (fun _=>false) γ H:=by
   refine⟨fun k r hkk hk=>?_,fun k r hkk hk _=>?_,fun k k' r hkk hkk' hk hk'=>?_⟩
   ·rcases jY hk with⟨e1,e2⟩|hk
    ·omega
    ·exact hp.old k r hkk hk
   ·rcases jY hk with⟨e1,e2⟩|hk
    ·omega
    ·exact hp.none k r hkk hk rfl
   ·rcases jY hk with⟨e1,e2⟩|hk<;>rcases jY hk' with⟨e3,e4⟩|hk'
    ·omega
    ·omega
    ·omega
    ·exact hp.inj k k' r hkk hkk' hk hk'
  obtain⟨pre',H',γ',g1,g2,g3,g4⟩:=rX l ((i,0)::pre) _ _ h hi hp2
  exact⟨pre',H',γ',g1,g2,g3,by rw[g4];simp[Ls]⟩
def Bw{L L':List Nat}(h:∀ i,i∈L↔i∈L'){i:Nat}{o:Op}:gC P Ω L i o=gC P Ω L' i o:=by
 unfold gC
 split
 ·simp only[h]
 ·simp only[h]
 ·simp only[h]
 ·rfl
def wz{L L':List Nat}(h:∀ i,i∈L↔i∈L'):regionOk P Ω n L ops=regionOk P Ω n L' ops:=by
 unfold regionOk regionOk.go
 simp only[Bw h]
def j0(hm:P.follows .mixedOrders=true)(hΩ:TblOk P Ω){l:List (List Nat)}(hok:regionOk P Ω n (l.map (·.headD 0)) ops=true){K:Vz}{id:Nat}{fr:Fr}{H:AHeap}{w:World}{γ:cQ}{a:Act}
 (hK:∀ fr H w γ a,Inv w0 γ0 H0 ds n w γ H (Fr.get fr) a→K fr H→Q .normal a w)
 (hi:Inv w0 γ0 H0 ds n {w with drawn:=w.drawn+1} γ H (Fr.get fr) a) {ms:List (List Nat)} (hmk:MaskOk ops 0 ms)
 {lit:List Nat} (h:tA P l [] H fun pre H=>awD P Ω ops ops.toList ⟨ms,0,[],pre,lit⟩ [] K fr H):(Code.region id ops true).wp P Q a w:=by
 obtain⟨pre,H',γ',h1,h2,h3,h4⟩:=rX l [] H γ h hi ⟨fun _ _ _ h=>(nomatch h),fun _ _ _ h=>(nomatch h),fun _ _ _ _ _ h=>(nomatch h)⟩
 exact Gw hm hΩ (by rw[wz (L':=l.map (·.headD 0))];exact hok;intro i;rw[h4];simp) hK h2 hmk h3 h1
end
end Go.AL
