/- Lemmas of the proof; no condition. -/
import Derived.Test.YtjffcopmhkcejaaGreatAlCode
set_option linter.all false
set_option linter.unusedSectionVars false
namespace Go.AL
def em{P:Program}{t:TypeId}{i:TI}(h:ti P t=some i) :
 ∃ d inf z,P.underlying t=some d∧P.info? t=some inf∧inf.zero=some z∧i=⟨gv d,inf.size,inf.bytes,ofValue z⟩:=by
 unfold ti at h
 split at h
 ·rename_i d inf hd hi
  split at h
  ·rename_i z hz
   cases h
   exact⟨d,inf,z,hd,hi,hz,rfl⟩
  ·cases h
 ·cases h
section
variable {P:Program} {w:World} {t:TypeId}
def bN{d:TypeDesc}(h:P.underlying t=some d):(underlying t).run P w=.ok d w:=by
 simp[underlying,h]
def p6{i:TypeInfo}(h:P.info? t=some i):(typeInfo t).run P w=.ok i w:=by
 simp[typeInfo,h]
def ff{i:TypeInfo}(h:P.info? t=some i):(sizeOf t).run P w=.ok i.size w:=by
 simp[sizeOf,p6 h]
def jA{i:TypeInfo}{z:Value}(h:P.info? t=some i)(hz:i.zero=some z):(zeroValue t).run P w=.ok z w:=by
 simp[zeroValue,p6 h,hz]
def sV{d:TypeDesc}(h:P.underlying t=some d):(isAgg t).run P w=.ok (gv d).agg w:=by
 cases d<;>simp[isAgg,bN h,gv,TD.agg]
end
section
variable {w:World} {γ:cQ} {H:AHeap}
def lg(v:Value):Rel w γ H (i0 v) v:=by
 cases v with
 |string s=>simp[i0,Rel]
 |pointer a=>cases a<;>simp[i0,Rel]
 |slice a n c =>
  unfold i0
  split<;>first
   |(rename_i h;cases h;done)
   |(rename_i h;cases h;rw[Rel];exact .inl ⟨⟨_,rfl⟩,rfl,trivial⟩)
   |simp[Rel]
 |map r=>cases r<;>simp[i0,Rel]
 |_=>simp[i0,Rel]
def jm(v:Value):Rel w γ H (ofValue v) v:=by
 cases v with
 |agg cs =>
  simp only[ofValue];rw[Rel]
  refine⟨cs,rfl,Xc,fun j hj=>?_⟩
  simp only[List.length_map,Array.length_toList]at hj
  exact⟨cs[j],by simp[hj],by simpa using lg _⟩
 |_=>simp only[ofValue];exact lg _
theorem Rel.cells{x:AV}{v:Value}(h:Rel w γ H x v)(hj:x≠.junk)(ht:∀ vs,x≠.tup vs) :
 v.cells.size=x.cells.length∧AtR (Rel w γ H) x.cells v.cells 0:=by
 cases x with
 |junk=>exact absurd rfl hj
 |tup vs=>exact absurd rfl (ht vs)
 |agg cs =>
  rw[Rel]at h
  obtain⟨C,rfl,hs,hc⟩:=h
  exact⟨hs,fun j hj=>by rw[Nat.zero_add];exact hc j hj⟩
 |_ =>
  have hv:v.cells=#[v]:=by
   cases v<;>first|rfl|skip
   all_goals(rw[Rel]at h;simp at h;done)
  refine⟨by rw[hv];rfl,fun j hj=>?_⟩
  simp only[AV.cells,List.length_singleton]at hj
  obtain rfl:j=0:=Xa
  exact⟨v,by simp[hv],h⟩
end
def Out(P:Program)(w:World)(γ:cQ)(H:AHeap)(x:AV)(H':AHeap)(run:Result Value):Prop :=
 ∃ v w' γ',run=.ok v w'∧State w' γ' H'∧Ext w γ H w' γ' H'∧Rel w' γ' H' x v
section
variable {P:Program} {w:World} {γ:cQ} {H:AHeap}
theorem Out.same(hs:State w γ H){x:AV}{v:Value}{run:Result Value}(h:run=.ok v w)(hr:Rel w γ H x v):Out P w γ H x H run :=
 ⟨v,w,γ,h,hs,Ext.refl _ _ _,hr⟩
def gY{k:IntKind}{n:Int}{v:Value}(h:Rel w γ H (.int k n) v):v=.int k n:=by rw[Rel]at h;exact h
def oC{b:Bool}{v:Value}(h:Rel w γ H (.bool b) v):v=.bool b:=by rw[Rel]at h;exact h
def mb{s:By}{v:Value}(h:Rel w γ H (.str s) v):v=.string ⟨s.toArray⟩:=by rw[Rel]at h;exact h
def jH(k:IntKind)(n:Int):Rel w γ H (.int k n) (.int k n):=by rw[Rel]
def jp(b:Bool):Rel w γ H (.bool b) (.bool b):=by rw[Rel]
def CC(s:By):Rel w γ H (.str s) (.string ⟨s.toArray⟩):=by rw[Rel]
def B6(hs:State w γ H){op:BinOp}{k:IntKind}{a b:Int}{r:R}(t:TypeId)(h:FK op k a b H=some r)(hc:r.c) :
 Out P w γ H r.v r.H ((binOp op t (.int k a) (.int k b)).run P w):=by
 cases op<;>simp only[FK,Option.some.injEq,reduceCtorEq]at h<;>subst h
 case quo=>exact Out.same hs (by simp[binOp,Op.intDiv,show b≠0 from hc]) (jH _ _)
 case rem=>exact Out.same hs (by simp[binOp,Op.intDiv,show b≠0 from hc]) (jH _ _)
 all_goals
  refine Out.same hs (v:=_) ?_ (by first|exact jH _ _|exact jp _)
  simp[binOp,Op.intArith,Op.intBits,Op.intCmp,cP,ior,OO,El]
def CR(hs:State w γ H){op:BinOp}{a b:By}{r:R}(t:TypeId)(h:Fs op a b H=some r)(hc:r.c) :
 Out P w γ H r.v r.H ((binOp op t (.string ⟨a.toArray⟩) (.string ⟨b.toArray⟩)).run P w):=by
 cases op<;>simp only[Fs,Option.some.injEq,reduceCtorEq]at h<;>subst h
 case add =>
  refine Out.same hs (v:=.string ⟨(a++b).toArray⟩) ?_ (CC _)
  have hl:¬ ((9223372036854775807:Int)<(a.length:Int)+b.length):=by
   have h1:a.length+b.length≤wj:=hc
   unfold wj at h1
   omega
  simp only[binOp,Op.stringOp]
  have e1:(ByteArray.mk a.toArray).size=a.length:=by simp[ByteArray.size]
  have e2:(ByteArray.mk b.toArray).size=b.length:=by simp[ByteArray.size]
  have h2:IntKind.i64.max=9223372036854775807:=Xb
  have e3:ByteArray.mk a.toArray++ByteArray.mk b.toArray=ByteArray.mk (a++b).toArray:=by
   apply ByteArray.ext;simp
  rw[e1,e2,h2,e3,if_neg (Xa)]
  rfl
 all_goals
  refine Out.same hs (v:=_) ?_ (jp _)
  simp[binOp,Op.stringOp]
def GD(hs:State w γ H){op:UnOp}{x:AV}{v:Value}{r:R}(hx:Rel w γ H x v)(h:rUn op x H=some r) :
 Out P w γ H r.v r.H ((Op.unary op v).run P w):=by
 unfold rUn at h
 split at h<;>cases h
 ·rw[gY hx];exact Out.same hs (by simp[Op.unary,Op.intArith]) (jH _ _)
 ·rw[gY hx];exact Out.same hs (by simp[Op.unary,Op.intBits,OO]) (jH _ _)
 ·rw[oC hx];exact Out.same hs (by simp[Op.unary]) (jp _)
def Fk(a b:By):(ByteArray.mk a.toArray==ByteArray.mk b.toArray)=(a==b):=by
 rw[beq_toListBytes];simp
def tX{x y:AV}{v u:Value}{b:Bool}{t:TypeId}{d:TypeDesc}(hx:Rel w γ H x v)(hy:Rel w γ H y u)(h:ceq (gv d) x y=some b)
 (hd:P.underlying t=some d) (m:Nat):(Op.equalIn (m+1) t v u).run P w=.ok b w:=by
 unfold ceq at h
 split at h
 ·rename_i k a k' a' hk
  rw[gY hx,gY hy]
  split at h<;>cases h
  rename_i hkk;subst hkk
  cases d<;>simp[gv]at hk
  simp[Op.equalIn,bN hd]
 ·rename_i a a' hk
  rw[oC hx,oC hy]
  cases h
  cases d<;>simp[gv]at hk
  simp[Op.equalIn,bN hd]
 ·rename_i a a' hk
  rw[mb hx,mb hy]
  cases h
  cases d<;>simp[gv]at hk
  simp[Op.equalIn,bN hd,Fk]
 ·cases h
def nH{cs:Wz}{v:Value}(h:Rel w γ H (.agg cs) v):∃ C:Array Value,v=.agg C∧C.size=cs.length∧AtR (Rel w γ H) cs C 0:=by
 rw[Rel]at h
 obtain⟨C,hv,hs,hc⟩:=h
 exact⟨C,hv,hs,fun j hj=>by rw[Nat.zero_add];exact hc j hj⟩
def vg{cs:Wz}{C:Array Value}(hs:C.size=cs.length)(h:AtR (Rel w γ H) cs C 0):Rel w γ H (.agg cs) (.agg C):=by
 rw[Rel]
 exact⟨C,rfl,hs,fun j hj=>by have:=h j hj;rwa[Nat.zero_add]at this⟩
theorem AtR.sub{R:AV→Value→Prop}{cs:Wz}{C:Array Value}(h:AtR R cs C 0)(off n:Nat)(hl:off+n≤cs.length)(hs:C.size=cs.length) :
 AtR R ((cs.drop off).take n) (C.extract off (off+n)) 0∧(C.extract off (off+n)).size=((cs.drop off).take n).length:=by
 refine⟨fun j hj=>?_,by simp[hs];omega⟩
 simp only[List.length_take,List.length_drop]at hj
 obtain⟨u,hu,hr⟩:=h (off+j) Xa
 refine⟨u,?_,by simpa using hr⟩
 rw[Nat.zero_add]at hu ⊢
 rw[Array.getElem?_extract,if_pos (Xa)]
 exact hu
def p8{t:TypeId}{i:TI}(hi:ti P t=some i){cs:Wz}{C:Array Value}(h:AtR (Rel w γ H) cs C 0)(hs:C.size=cs.length){off:Nat}{x:AV}
 (hx:teq.part P t cs off=some x):∃ v,(part t C off).run P w=.ok v w∧Rel w γ H x v:=by
 obtain⟨d,inf,z,hd,hinf,hz,rfl⟩:=em hi
 unfold teq.part at hx
 simp only[hi]at hx
 by_cases ha:(gv d).agg=true
 ·rw[if_pos ha]at hx
  split at hx<;>cases hx
  rename_i hle
  obtain⟨h1,h2⟩:=h.sub off inf.size hle hs
  exact⟨.agg (C.extract off (off+inf.size)),by simp[Go.part,sV hd,ha,ff hinf],vg h2 h1⟩
 ·rw[if_neg ha]at hx
  split at hx<;>cases hx
  rename_i hlt
  obtain⟨u,hu,hr⟩:=h off hlt
  rw[Nat.zero_add]at hu
  exact⟨u,by simp[Go.part,sV hd,ha,hu],by simpa[List.getD,hlt]using hr⟩
theorem IV{d:Nat}(q:TypeId→AV→AV→Option Bool)
 (hq:∀ t x y b v u,q t x y=some b→Rel w γ H x v→Rel w γ H y u→(Op.equalIn d t v u).run P w=.ok b w)
 {xs ys:Wz} {C D:Array Value} (hx:AtR (Rel w γ H) xs C 0) (hxs:C.size=xs.length) (hy:AtR (Rel w γ H) ys D 0) (hys:D.size=ys.length) :
 ∀ (fs : List Field) (b : Bool), teq.go q (teq.part P) (fs.map fun f => (f.offset, f.type, f.name == "_")) xs ys = some b → (Op.eqFields d C D fs).run P w = .ok b w
 |[],b,h=>by simp only[List.map_nil,teq.go,Option.some.injEq]at h;subst h;simp[Op.eqFields]
 |f::fs,b,h=>by
  simp only[List.map_cons,teq.go]at h
  have ih:=IV q hq hx hxs hy hys fs
  by_cases hn : f.name = "_"
  ·rw[if_pos (by simp[hn])]at h
   simp only[Op.eqFields,hn]
   simpa using ih b h
  ·rw[if_neg (by simp[hn])]at h
   cases h1:teq.part P f.type xs f.offset with
   |none=>simp[h1]at h
   |some a =>
    cases h2:teq.part P f.type ys f.offset with
    |none=>simp[h1,h2]at h
    |some c =>
     cases h3:q f.type a c with
     |none=>simp[h1,h2,h3]at h
     |some p =>
      cases h4 : teq.go q (teq.part P) (fs.map fun f => (f.offset, f.type, f.name == "_")) xs ys with
      |none=>simp[h1,h2,h3,h4]at h
      |some p' =>
       simp only[h1,h2,h3,h4,Option.some.injEq]at h
       subst h
       have h1':=h1
       have h2':=h2
       unfold teq.part at h1' h2'
       cases hi:ti P f.type with
       |none=>simp[hi]at h1'
       |some i =>
        obtain⟨v,hv,rv⟩:=p8 hi hx hxs h1
        obtain⟨u,hu,ru⟩:=p8 hi hy hys h2
        have h5:=hq _ _ _ _ _ _ h3 rv ru
        have h6:=ih _ h4
        simp only[Op.eqFields,hn,ne_eq,not_false_eq_true,if_true,Sem.run_bind,hv,Result.andThen_ok,hu,h5]
        cases p<;>simp[h6]
theorem EH{d:Nat}{e:TypeId}{i:TI}(hi:ti P e=some i)(q:AV→AV→Option Bool)
 (hq:∀ x y b v u,q x y=some b→Rel w γ H x v→Rel w γ H y u→(Op.equalIn d e v u).run P w=.ok b w)
 {xs ys:Wz} {C D:Array Value} (hx:AtR (Rel w γ H) xs C 0) (hxs:C.size=xs.length) (hy:AtR (Rel w γ H) ys D 0) (hys:D.size=ys.length) :
 ∀(n k:Nat)(b:Bool),teq.arr q (teq.part P e) i.size n k xs ys=some b →
  ((forIn (List.range' k n) ((none,()):Option Bool × Unit) fun j _=>do
    if !(← Op.equalIn d e (← part e C (j*i.size)) (← part e D (j*i.size)))then pure (ForInStep.done (some false,()))else pure (ForInStep.yield (none,()))):Sem _).run P w
    = .ok (if b then(none,())else(some false,())) w
 |0,k,b,h=>by simp only[teq.arr,Option.some.injEq]at h;subst h;simp
 |n+1,k,b,h=>by
  simp only[teq.arr]at h
  have ih:=EH hi q hq hx hxs hy hys n (k+1)
  cases h1:teq.part P e xs (k*i.size)with
  |none=>simp[h1]at h
  |some a =>
   cases h2:teq.part P e ys (k*i.size)with
   |none=>simp[h1,h2]at h
   |some c =>
    cases h3:q a c with
    |none=>simp[h1,h2,h3]at h
    |some p =>
     cases h4:teq.arr q (teq.part P e) i.size n (k+1) xs ys with
     |none=>simp[h1,h2,h3,h4]at h
     |some p' =>
      simp only[h1,h2,h3,h4,Option.some.injEq]at h
      subst h
      obtain⟨v,hv,rv⟩:=p8 hi hx hxs h1
      obtain⟨u,hu,ru⟩:=p8 hi hy hys h2
      have h5:=hq _ _ _ _ _ h3 rv ru
      have h6:=ih _ h4
      rw[List.range'_succ,List.forIn_cons]
      simp only[Sem.run_bind,hv,Result.andThen_ok,hu,h5]
      cases p
      ·simp
      ·simpa using h6
theorem xH:∀(d:Nat)(t:TypeId)(x y:AV)(b:Bool)(v u:Value)(m:Nat),teq P d t x y=some b→Rel w γ H x v→Rel w γ H y u →
 (Op.equalIn (d+m) t v u).run P w=.ok b w
 |0,t,x,y,b,v,u,m,h,hx,hy=>by simp[teq]at h
 |d+1,t,x,y,b,v,u,m,h,hx,hy=>by
  rw[show d+1+m=(d+m)+1 by omega]
  have ih:=xH d
  unfold teq at h
  split at h
  ·cases h
  ·rename_i i hi
   obtain⟨de,inf,z,hd,hinf,hz,rfl⟩:=em hi
   dsimp only at h
   split at h
   ·rename_i k hk;exact tX hx hy h hd _
   ·rename_i hk;exact tX hx hy h hd _
   ·rename_i hk;exact tX hx hy h hd _
   ·rename_i fs hk
    split at h
    ·rename_i xs ys
     split at h
     ·cases h
     ·rename_i hst
      obtain⟨C,rfl,hC,hCr⟩:=nH hx
      obtain⟨D,rfl,hD,hDr⟩:=nH hy
      cases de<;>simp only[gv,reduceCtorEq,TD.struct.injEq]at hk
      rename_i fields
      subst hk
      have hf:P.fieldsOf t=fields:=by simp[Program.fieldsOf,hd]
      rw[run_equalIn_struct w _ t C D (by rw[hf];exact hd) (by simpa using hst),hf]
      exact IV _ (fun t x y b v u hq rx ry=>ih t x y b v u m hq rx ry) hCr hC hDr hD _ _ h
    ·cases h
   ·rename_i n e hk
    split at h
    ·rename_i xs ys
     obtain⟨C,rfl,hC,hCr⟩:=nH hx
     obtain⟨D,rfl,hD,hDr⟩:=nH hy
     cases de<;>simp only[gv,reduceCtorEq,TD.array.injEq]at hk
     obtain⟨rfl,rfl⟩:=hk
     rename_i n e
     split at h
     ·rename_i ie hie
      obtain⟨de,infe,ze,hde,hinfe,hze,rfl⟩:=em hie
      have:=EH hie _ (fun x y b v u hq rx ry=>ih e x y b v u m hq rx ry) hCr hC hDr hD n 0 b h
      simp only[Op.equalIn,Sem.run_bind,bN hd,Result.andThen_ok,ff hinfe,Std.Legacy.Range.forIn_eq_forIn_range']
      simp only[Std.Legacy.Range.size,Nat.sub_zero,Nat.div_one,Nat.succ_sub_succ]
      erw[this]
      cases b<;>simp
     ·cases h
    ·cases h
   ·cases h
def rY{neg:Bool}{t:TypeId}{v u:Value}{b:Bool}(hb:binOp (if neg then .neq else .eql) t v u=(do pure (.bool ((← Op.equal t v u) !=neg)):Sem Value))
 (h:∀ m,(Op.equalIn (m+1) t v u).run P w=.ok b w):(binOp (if neg then .neq else .eql) t v u).run P w=.ok (.bool (b !=neg)) w:=by
 rw[hb]
 have:=h 9999
 simp only[Sem.run_bind,Op.equal,Op.maxDepth]
 rw[this];rfl
def xR(hs:State w γ H){neg:Bool}{t:TypeId}{x y:AV}{v u:Value}{r:R}(xo yo:Operand)(h:rEq P neg t x y H=some r)(hc:r.c)
 (hx:Rel w γ H x v) (hy:Rel w γ H y u) :
 Out P w γ H r.v r.H ((do eqGuard (if neg then .neq else .eql) t xo yo v u;binOp (if neg then .neq else .eql) t v u:Sem Value).run P w):=by
 unfold rEq at h
 have hti:∀{a:TD},(ti P t).map TI.desc=some a→∃ d,P.underlying t=some d∧gv d=a:=fun{a} ha=>by
  cases hi:ti P t with
  |none=>rw[hi]at ha;cases ha
  |some i =>
   obtain⟨d,inf,z,hd,_,_,rfl⟩:=em hi
   rw[hi]at ha;cases ha
   exact⟨d,hd,rfl⟩
 split at h
 ·rename_i hd;obtain⟨d,hu,hd⟩:=hti hd
  cases h;rw[oC hx,oC hy]
  cases d<;>simp[gv]at hd
  refine Out.same hs ?_ (jp _)
  simp only[eqGuard_at_bool,Sem.run_bind,Sem.run_pure,Result.andThen_ok]
  exact rY (by cases neg<;>simp[binOp]) (fun m=>by simp[Op.equalIn,bN hu])
 ·rename_i hd;obtain⟨d,hu,hd⟩:=hti hd
  cases h;simp only[Rel]at hx hy;subst hx;subst hy
  cases d<;>simp[gv]at hd
  refine Out.same hs ?_ (jp _)
  simp only[eqGuard_at_pointer,Sem.run_bind,Sem.run_pure,Result.andThen_ok]
  have:=rY (P:=P) (w:=w) (neg:=neg) (t:=t) (v:=.pointer none) (u:=.pointer none) (b:=true) (by cases neg<;>simp[binOp]) (fun m=>by simp[Op.equalIn,bN hu])
  rw[this];simp
 ·rename_i e id off hd;obtain⟨d,hu,hd⟩:=hti hd
  cases h;simp only[Rel]at hx hy;subst hy
  obtain⟨_,_,blk,_,rfl⟩:=hx
  exact W5
 ·rename_i hd;obtain⟨d,hu,hd⟩:=hti hd
  cases h;simp only[Rel]at hx hy;subst hy
  obtain⟨blk,off,_,_,_,rfl,_⟩:=hx
  exact W5
 ·rename_i n0 t0 v0 hd;obtain⟨d,hu,hd⟩:=hti hd
  cases h;simp only[Rel]at hx hy;subst hy
  obtain⟨z,rfl,_⟩:=hx
  cases d<;>simp[gv]at hd
  refine Out.same hs ?_ (jp _)
  simp only[eqGuard_at_iface,Sem.run_bind,Sem.run_pure,Result.andThen_ok]
  have:=rY (P:=P) (w:=w) (neg:=neg) (t:=t) (v:=.iface t0 z) (u:=.nilIface) (b:=false) (by cases neg<;>simp[binOp]) (fun m=>by simp[Op.equalIn,bN hu])
  rw[this];simp
 ·rename_i hd;obtain⟨d,hu,hd⟩:=hti hd
  cases h;simp only[Rel]at hx hy;subst hx;subst hy
  cases d<;>simp[gv]at hd
  rename_i ms
  refine Out.same hs ?_ (jp _)
  have hg:(eqGuard (if neg=true then BinOp.neq else BinOp.eql) t xo yo Value.nilIface Value.nilIface).run P w=.ok () w:=by
   subst hd
   have hq:(Op.eqGuardIn Op.maxDepth t Value.nilIface Value.nilIface).run P w=.ok false w:=by
    have key:∀ d,(Op.eqGuardIn (d+1) t Value.nilIface Value.nilIface).run P w=.ok false w:=fun d=>by
     unfold Op.eqGuardIn
     simp only[Sem.run_bind,bN hu,Result.andThen_ok]
     rfl
    exact key _
   cases neg<;>(simp[eqGuard];intro _ _;rw[hq];rfl)
  simp only[Sem.run_bind,hg,Result.andThen_ok]
  have:=rY (P:=P) (w:=w) (neg:=neg) (t:=t) (v:=.nilIface) (u:=.nilIface) (b:=true) (by cases neg<;>simp[binOp]) (fun m=>by simp[Op.equalIn,bN hu])
  rw[this];simp
 ·rename_i xs ys hd
  split at h
  ·rename_i b hb
   split at h<;>cases h
   rename_i hg
   have hg:P.eqGuardType P.depth t=false:=by simpa using hg
   obtain⟨C,rfl,hC,hCr⟩:=nH hx
   obtain⟨D,rfl,hD,hDr⟩:=nH hy
   have h1:=xH 9 t _ _ b _ _ 9991 hb hx hy
   refine Out.same hs ?_ (jp _)
   cases neg
   ·simp only[Sem.run_bind,run_eqGuard_agg w _ t xo yo C D hg,Result.andThen_ok,Bool.false_eq_true,if_false,run_eql_struct]
    rw[h1];simp
   ·simp only[Sem.run_bind,run_eqGuard_agg w _ t xo yo C D hg,Result.andThen_ok,if_true,run_neq_struct]
    rw[h1];simp
  ·cases h
 ·cases h
def Dd(hs:State w γ H){op:BinOp}{t:TypeId}{x y:AV}{v u:Value}{r:R}(xo yo:Operand)(h:rC P op t x y H=some r)(hc:r.c)
 (hx:Rel w γ H x v) (hy:Rel w γ H y u) :
 Out P w γ H r.v r.H ((do eqGuard op t xo yo v u;binOp op t v u:Sem Value).run P w):=by
 unfold rC at h
 split at h
 ·rename_i k a k' b
  rw[gY hx,gY hy]
  have hg:eqGuard op t xo yo (.int k a) (.int k' b)=pure ():=eqGuard_at_int ..
  simp only[hg,Sem.run_bind,Sem.run_pure,Result.andThen_ok]
  split at h
  ·cases h
   refine Out.same hs (v:=.int k (uc k a b)) ?_ (jH _ _)
   have hb:¬ b<0:=Int.not_lt.2 hc
   simp[binOp,Op.shift,hb,uc]
  ·cases h
   refine Out.same hs (v:=.int k (fI k a b)) ?_ (jH _ _)
   have hb:¬ b<0:=Int.not_lt.2 hc
   simp[binOp,Op.shift,hb,fI]
  ·split at h
   ·rename_i hk;subst hk;exact B6 hs t h hc
   ·cases h
 ·rename_i a b
  rw[mb hx,mb hy]
  have hg:eqGuard op t xo yo (.string ⟨a.toArray⟩) (.string ⟨b.toArray⟩)=pure ():=eqGuard_at_string ..
  simp only[hg,Sem.run_bind,Sem.run_pure,Result.andThen_ok]
  exact CR hs t h hc
 ·split at h
  ·simpa using xR hs xo yo h hc hx hy
  ·simpa using xR hs xo yo h hc hx hy
  ·cases h
end
def flat(xs:Wz):Wz:=xs.flatMap AV.cells
theorem AtR.append{R:AV→Value→Prop}{a b:Wz}{C:Array Value}{off:Nat}:AtR R (a++b) C off↔AtR R a C off∧AtR R b C (off+a.length):=by
 constructor
 ·intro h
  refine⟨fun j hj=>?_,fun j hj=>?_⟩
  ·obtain⟨u,hu,hr⟩:=h j Xf
   exact⟨u,hu,by simpa[List.getElem_append_left hj]using hr⟩
  ·obtain⟨u,hu,hr⟩:=h (a.length+j) Xf
   exact⟨u,by rw[← hu];congr 1;omega,by simpa using hr⟩
 ·rintro⟨h1,h2⟩ j hj
  by_cases hlt:j<a.length
  ·obtain⟨u,hu,hr⟩:=h1 j hlt
   exact⟨u,hu,by simpa[List.getElem_append_left hlt]using hr⟩
  ·simp at hj
   obtain⟨u,hu,hr⟩:=h2 (j-a.length) Xa
   refine⟨u,by rw[← hu];congr 1;omega,?_⟩
   rw[List.getElem_append_right (Xa)];exact hr
theorem AtR.nil{R:AV→Value→Prop}{C:Array Value}{off:Nat}:AtR R [] C off:=fun j hj=>absurd hj Xc
theorem sM{R:AV→Value→Prop}{C:Array Value}{sz:Nat}:∀(xs:Wz)(off:Nat),
 (∀ i (hi:i<xs.length),xs[i].cells.length=sz∧∀ j (hj:j<xs[i].cells.length),∃ u,C[off+i*sz+j]?=some u∧R xs[i].cells[j] u) ↔
 ((∀ x∈xs,x.cells.length=sz)∧AtR R (flat xs) C off)
 |[],off=>by simp[flat,AtR.nil]
 |x::xs,off=>by
  have ih:=sM (R:=R) (C:=C) (sz:=sz) xs (off+sz)
  constructor
  ·intro h
   obtain⟨h1,h2⟩:=h 0 Xc
   simp only[List.getElem_cons_zero]at h1 h2
   have h3:=ih.1 fun i hi=>by
    obtain⟨h4,h5⟩:=h (i+1) Xf
    simp only[List.getElem_cons_succ]at h4 h5
    exact W27
   refine⟨fun y hy=>?_,?_⟩
   ·rcases List.mem_cons.1 hy with rfl|hy
    ·exact h1
    ·exact h3.1 y hy
   ·show AtR R (x.cells++flat xs) C off
    rw[AtR.append]
    refine⟨fun j hj=>?_,by rw[h1];exact h3.2⟩
    obtain⟨u,hu,hr⟩:=h2 j hj
    exact⟨u,by rw[← hu];congr 1;omega,hr⟩
  ·rintro⟨h1,h2⟩
   change AtR R (x.cells++flat xs) C off at h2
   rw[AtR.append]at h2
   have hx:=h1 x Xc
   have h3:=ih.2 ⟨fun y hy=>h1 y (by simp[hy]),by have:=h2.2;rwa[hx]at this⟩
   intro i hi
   cases i with
   |zero =>
    simp only[List.getElem_cons_zero]
    refine⟨hx,fun j hj=>?_⟩
    obtain⟨u,hu,hr⟩:=h2.1 j hj
    exact⟨u,by rw[← hu];congr 1;omega,hr⟩
   |succ i =>
    simp only[List.getElem_cons_succ]
    obtain⟨h4,h5⟩:=h3 i (by simpa using hi)
    exact W27
theorem gJ{sz:Nat}:∀{xs:Wz},(∀ x∈xs,x.cells.length=sz)→(flat xs).length=xs.length*sz
 |[],_=>by simp[flat]
 |x::xs,h=>by
  have:=gJ (xs:=xs) fun y hy=>h y (by simp[hy])
  have hx:=h x Xc
  simp only[flat,List.flatMap_cons,List.length_append,List.length_cons,Nat.add_mul,Nat.one_mul]at this ⊢
  rw[hx,this];omega
section
variable {P:Program} {w:World} {γ:cQ} {H:AHeap}
def OS(w:World)(γ:cQ)(H:AHeap)(m:Mark)(sz:Nat)(xs:Wz)(blk off cap:Nat)(C:Array Value)(ty:TypeId)(fr:Nat × Nat):Prop :=
 xs.length≤cap∧w.heap[blk]?=some (.cells C ty fr)∧off+cap*sz≤C.size∧Imm γ H blk (off+xs.length*sz)∧MV γ H m sz xs.length blk off cap fr C.size ∧
 (∀ x∈xs,x.cells.length=sz)∧AtR (Rel w γ H) (flat xs) C off
def rel_slice{m:Mark}{sz:Nat}{xs:Wz}{v:Value} :
 Rel w γ H (.slice m sz xs) v↔((∃ a,v=.slice a 0 0)∧xs=[]∧DO H m sz) ∨
  ∃ blk off cap C ty fr,v=.slice (some ⟨blk,off,none⟩) xs.length cap∧OS w γ H m sz xs blk off cap C ty fr:=by
 rw[Rel]
 constructor
 ·rintro(h|⟨blk,off,cap,C,ty,fr,hv,hle,hh,hs,hi,hm,hc⟩)
  ·exact .inl h
  ·exact .inr ⟨blk,off,cap,C,ty,fr,hv,hle,hh,hs,hi,hm,(sM xs off).1 hc⟩
 ·rintro(h|⟨blk,off,cap,C,ty,fr,hv,hle,hh,hs,hi,hm,hc⟩)
  ·exact .inl h
  ·exact .inr ⟨blk,off,cap,C,ty,fr,hv,hle,hh,hs,hi,hm,(sM xs off).2 hc⟩
def rel_cptr{cs:Wz}{v:Value} :
 Rel w γ H (.cptr cs) v↔∃ blk off C ty fr,v=.pointer (some ⟨blk,off,none⟩)∧w.heap[blk]?=some (.cells C ty fr)∧Imm γ H blk (off+cs.length)∧AtR (Rel w γ H) cs C off:=by
 rw[Rel];rfl
def rel_ptr{id off:Nat}{v:Value} :
 Rel w γ H (.ptr id off) v↔id<H.nx∧notBuf H id∧∃ blk,γ id=some blk∧v=.pointer (some ⟨blk,off,none⟩):=by rw[Rel]
def rel_ms{id off sz len:Nat}{v:Value} :
 Rel w γ H (.ms id off sz len) v↔id<H.nx∧notBuf H id∧((len=0∧∃ a,v=.slice a 0 0)∨∃ blk cap C ty fr,γ id=some blk∧v=.slice (some ⟨blk,off,none⟩) len cap∧len≤cap ∧
  w.heap[blk]?=some (.cells C ty fr)∧off+cap*sz≤C.size∧lA fr off (off+cap*sz)):=by rw[Rel]
def jz(b o n:Nat):(⟨b,o,none⟩:Addr).add n=⟨b,o+n,none⟩:=by
 unfold Addr.add;split<;>simp_all
def wW{blk:Nat}{C:Array Value}{ty:TypeId}{fr:Nat × Nat}(h:w.heap[blk]?=some (.cells C ty fr))(i:Nat):w.cell? ⟨blk,i,none⟩=C[i]?:=by
 simp[World.cell?,h]
def lE{blk:Nat}{C:Array Value}{ty:TypeId}{fr:Nat × Nat}(h:w.heap[blk]?=some (.cells C ty fr)){off n:Nat}(hn:off+n≤C.size) :
 (loadCells ⟨blk,off,none⟩ n).run P w=.ok (C.extract off (off+n)) w:=by
 have h1:=run_loadCells_list (P:=P) w ⟨blk,off,none⟩ (C.extract off (off+n)).toList fun j v hv=>by
  rw[jz,wW h]
  rw[Array.getElem?_toList,Array.getElem?_extract]at hv
  split at hv
  ·exact hv
  ·cases hv
 have h2:(C.extract off (off+n)).toList.length=n:=Xf
 rw[h2]at h1
 rw[h1,Array.toArray_toList]
theorem jN(g o:Nat)(t:TypeId)(fr:Nat × Nat):∀(vs:List Value)(i:Nat)(cur:Array Value)(w:World),w.heap[g]?=some (.cells cur t fr) →
 o+i+vs.length≤cur.size→(∀ v∈vs,v.oneCell'=true)→lA fr (o+i) (o+i+vs.length) →
 (storeCells ⟨g,o,none⟩ vs i).run P w=.ok () (w.setRow g (cur.toList.take (o+i)++vs++cur.toList.drop (o+i+vs.length)).toArray)
 |[],i,cur,w,hg,_,_,_=>by
  simp only[storeCells,List.append_nil,List.length_nil,Nat.add_zero,List.take_append_drop,Array.toArray_toList]
  rw[setRow_self w g cur t fr hg]
  rfl
 |v::rest,i,cur,w,hg,hl,h1,hf=>by
  have hi:o+i<cur.size:=by simp at hl;omega
  have hadd:(⟨g,o,none⟩:Addr).add i=⟨g,o+i,none⟩:=jz _ _ _
  have hcell:w.cell? ⟨g,o+i,none⟩=some cur[o+i]:=by simp[World.cell?,hg,hi]
  have hfro:w.frozen? ⟨g,o+i,none⟩=false:=by
   have:=hf (o+i) (Nat.le_refl _) Xc
   simp[World.frozen?,hg]
   omega
  have hst:(store ((⟨g,o,none⟩:Addr).add i) v).run P w=.ok () (w.setRow g (cur.setIfInBounds (o+i) v)):=by
   rw[hadd,run_store P w _ v _ (h1 v Xc),hcell]
   simp[hfro,setCell_eq_setRow w g (o+i) cur t fr v hg]
  have ih:=jN g o t fr rest (i+1) (cur.setIfInBounds (o+i) v) (w.setRow g (cur.setIfInBounds (o+i) v)) (setRow_heap w g cur _ t _ hg)
   (by simp at hl ⊢;omega) (fun x hx=>h1 x (by simp[hx])) (fun p h1 h2=>hf p Xa Xf)
  simp only[storeCells,Sem.run_bind,hst,Result.andThen_ok,ih,setRow_setRow]
  congr 3
  have e:=list_seg_step cur.toList (o+i) v rest (by simp at hl ⊢;omega)
  simpa[Array.toList_setIfInBounds,Nat.add_assoc]using e
theorem qY:∀(cs:Wz)(off:Nat)(vs:Wz),off+vs.length≤cs.length→splice cs off vs=cs.take off++vs++cs.drop (off+vs.length)
 |[],off,vs,h=>by
  simp only[List.length_nil,Nat.le_zero,Nat.add_eq_zero_iff,List.length_eq_zero_iff]at h
  obtain⟨rfl,rfl⟩:=h
  simp[splice]
 |c::cs,0,[],h=>by simp[splice]
 |c::cs,0,v::vs,h=>by
  have:=qY cs 0 vs (by simp at h ⊢;omega)
  simp only[splice,this]
  simp
 |c::cs,n+1,vs,h=>by
  have:=qY cs n vs (by simp at h ⊢;omega)
  simp only[splice,this]
  simp[Nat.add_right_comm n 1]
def ia(cs:Wz)(off:Nat)(vs:Wz)(h:off+vs.length≤cs.length):(splice cs off vs).length=cs.length:=by
 rw[qY _ _ _ h];simp;omega
def gD(C:Array Value)(off:Nat)(us:List Value):Array Value:=(C.toList.take off++us++C.toList.drop (off+us.length)).toArray
def fR(C:Array Value)(off:Nat)(us:List Value)(h:off+us.length≤C.size):(gD C off us).size=C.size:=by
 simp[gD];omega
def ic(C:Array Value)(off:Nat)(us:List Value)(h:off+us.length≤C.size)(j:Nat) :
 (gD C off us)[j]?=if off≤j∧j<off+us.length then us[j-off]? else C[j]?:=by
 simp only[gD,List.getElem?_toArray,List.append_assoc]
 have ht:(C.toList.take off).length=off:=Xf
 by_cases h1:j<off
 ·rw[List.getElem?_append_left Xa,if_neg Xa,List.getElem?_take,if_pos h1];simp
 ·rw[List.getElem?_append_right Xa,ht]
  by_cases h2:j<off+us.length
  ·rw[List.getElem?_append_left Xa,if_pos (Xa)]
  ·rw[List.getElem?_append_right Xa,if_neg Xa,List.getElem?_drop]
   simp only[Array.getElem?_toList]
   congr 1;omega
theorem AtR.splice{R:AV→Value→Prop}{cs vs:Wz}{C:Array Value}{us:List Value}(hc:AtR R cs C 0)(hu:AtR R vs us.toArray 0)(hl:us.length=vs.length)
 {off:Nat} (h:off+vs.length≤cs.length) (hs:cs.length≤C.size):AtR R (AL.splice cs off vs) (gD C off us) 0:=by
 intro j hj
 rw[ia _ _ _ h]at hj
 rw[Nat.zero_add,ic C off us (Xa)]
 have hget:(AL.splice cs off vs)[j]?=if off≤j∧j<off+vs.length then vs[j-off]? else cs[j]?:=by
  rw[qY _ _ _ h,List.append_assoc]
  have ht:(cs.take off).length=off:=Xf
  by_cases h1:j<off
  ·rw[List.getElem?_append_left Xa,if_neg Xa,List.getElem?_take,if_pos h1]
  ·rw[List.getElem?_append_right Xa,ht]
   by_cases h2:j<off+vs.length
   ·rw[List.getElem?_append_left Xa,if_pos (Xa)]
   ·rw[List.getElem?_append_right Xa,if_neg Xa,List.getElem?_drop]
    congr 1;omega
 by_cases hb:off≤j∧j<off+vs.length
 ·rw[if_pos (Xa)]
  rw[if_pos hb]at hget
  obtain⟨u,hu,hr⟩:=hu (j-off) Xa
  refine⟨u,by simpa using hu,?_⟩
  rw[List.getElem?_eq_getElem (by rw[ia _ _ _ h];exact hj),List.getElem?_eq_getElem (Xa)]at hget
  rw[Option.some.inj hget];exact hr
 ·rw[if_neg (Xa)]
  rw[if_neg hb]at hget
  obtain⟨u,hu,hr⟩:=hc j hj
  refine⟨u,by simpa using hu,?_⟩
  rw[List.getElem?_eq_getElem (by rw[ia _ _ _ h];exact hj),List.getElem?_eq_getElem hj]at hget
  rw[Option.some.inj hget];exact hr
def JL{x:AV}{v:Value}(h:Rel w γ H x v)(ho:x.one=true):v.oneCell'=true:=by
 cases x<;>simp[AV.one]at ho<;>rw[Rel]at h
 case int=>subst h;rfl
 case bool=>subst h;rfl
 case str=>subst h;rfl
 case nilp=>subst h;rfl
 case nilm=>subst h;rfl
 case nilf=>subst h;rfl
 case nili=>subst h;rfl
 case ptr=>obtain⟨_,_,_,_,rfl⟩:=h;rfl
 case mapv=>obtain⟨_,_,_,_,rfl⟩:=h;rfl
 case cptr=>obtain⟨_,_,_,_,_,rfl,_⟩:=h;rfl
 case slice=>rcases h with⟨⟨_,rfl⟩,_⟩|⟨_,_,_,_,_,_,rfl,_⟩<;>rfl
 case ms=>rcases h with⟨_,_,⟨_,_,rfl⟩|⟨_,_,_,_,_,_,rfl,_⟩⟩<;>rfl
 case func=>obtain⟨_,_,rfl,_⟩:=h;rfl
 case iface=>obtain⟨_,rfl,_⟩:=h;rfl
def EB{cs:Wz}{C:Array Value}(h:AtR (Rel w γ H) cs C 0)(hs:C.size=cs.length)(ho:dp cs=true):∀ v∈C.toList,v.oneCell'=true:=by
 intro v hv
 obtain⟨j,hj,rfl⟩:=List.getElem_of_mem hv
 simp only[Array.length_toList]at hj
 obtain⟨u,hu,hr⟩:=h j Xa
 rw[Nat.zero_add,Array.getElem?_eq_getElem hj]at hu
 have hu':C[j]=u:=Option.some.inj hu
 rw[Array.getElem_toList,hu']
 refine JL hr ?_
 simp only[dp,List.all_eq_true]at ho
 exact ho _ (List.getElem_mem _)
end
section
variable {P:Program} {w:World} {γ:cQ} {H:AHeap}
def u9(s:By):(ByteArray.mk s.toArray).size=s.length:=by
 show s.toArray.size=s.length;simp
def jD{t:TypeId}{a:TD}(h:(ti P t).map TI.desc=some a):∃ d i,P.underlying t=some d∧ti P t=some i∧gv d=a:=by
 cases hi:ti P t with
 |none=>rw[hi]at h;cases h
 |some i =>
  obtain⟨d,inf,z,hd,_,_,rfl⟩:=em hi
  rw[hi]at h;cases h
  exact⟨d,_,hd,rfl,rfl⟩
def vV(hs:State w γ H){cs:Wz}{C:Array Value}(hC:C.size=cs.length)(hr:AtR (Rel w γ H) cs C 0)(ty:TypeId) :
 ∃ γ',State (w.alloc (.cells C ty)) γ' (H.push (.cells cs))∧Ext w γ H (w.alloc (.cells C ty)) γ' (H.push (.cells cs))∧γ' H.nx=some w.heap.size:=by
 have he:=jC hs (w':=w.alloc (.cells C ty)) rfl rfl rfl Xc (fun b hb=>iu w _ hb) (some w.heap.size) (fun b h=>by cases h;exact Nat.le_refl _) (.cells cs)
 refine⟨_,io hs (fun b h=>by cases h;simp) he (fun b hb=>iu w _ hb) (.inl ⟨cs,C,ty,(0,0),w.heap.size,rfl,rfl,im w _,Xa,hr,?_⟩),he,eM _ _ _⟩
 intro p _ _ h;simp at h
def li(H:AHeap)(cs:Wz):notBuf (H.push (.cells cs)) H.nx:=fun sz n h=>by
 rw[AHeap.get_push_new]at h;cases h
def Dy(hs:State w γ H){cs:Wz}{C:Array Value}(hC:C.size=cs.length)(hr:AtR (Rel w γ H) cs C 0)(ty:TypeId){run:Result Value}
 (hrun:run=.ok (.pointer (some ⟨w.heap.size,0,none⟩)) (w.alloc (.cells C ty))):Out P w γ H (.ptr H.nx 0) (H.push (.cells cs)) run:=by
 obtain⟨γ',h1,h2,h3⟩:=vV hs hC hr ty
 exact⟨_,_,γ',hrun,h1,h2,rel_ptr.2 ⟨Xq,li _ _,_,h3,rfl⟩⟩
def nj(z:Value):(i0 z).cells=[i0 z]:=by
 unfold i0;split<;>rfl
theorem AtR.single{R:AV→Value→Prop}{x:AV}{v:Value}(h:R x v):AtR R [x] #[v] 0:=fun j hj=>by
 simp at hj;subst hj;exact⟨v,rfl,h⟩
def jG(z:Value):z.cells.size=(ofValue z).cells.length∧AtR (Rel w γ H) (ofValue z).cells z.cells 0:=by
 cases z with
 |agg cs =>
  have:=jm (w:=w) (γ:=γ) (H:=H) (.agg cs)
  simp only[ofValue]at this ⊢
  exact Rel.cells this Xc Xc
 |_ =>
  simp only[ofValue,Value.cells,nj]
  exact⟨rfl,AtR.single (lg _)⟩
def zg(hs:State w γ H){t:TypeId}{r:R}(h:zjc P t H=some r):Out P w γ H r.v r.H ((Instr.alloc t true (.tuple #[])).run P w):=by
 unfold zjc at h
 split at h<;>cases h
 rename_i i hi
 obtain⟨d,inf,z,hd,hinf,hz,rfl⟩:=em hi
 obtain⟨h1,h2⟩:=jG (w:=w) (γ:=γ) (H:=H) z
 exact Dy hs h1 h2 t (by simp[Instr.alloc,jA hinf hz,newVar,newRow])
def Cn(hs:State w γ H){t:TypeId}{x:AV}{v:Value}{r:R}(hx:Rel w γ H x v)(h:FD x H=some r):Out P w γ H r.v r.H ((Instr.box t v).run P w):=by
 unfold FD at h
 split at h
 ·cases h
 ·cases h
 ·rename_i hj ht
  cases h
  obtain⟨h1,h2⟩:=Rel.cells hx (fun e=>hj e) (fun vs e=>ht vs e)
  exact Dy hs h1 h2 t (by simp[Instr.box,newVar,newRow])
def Az(hs:State w γ H){c a b:AV}{vc va vb:Value}{r:R}(hc:Rel w γ H c vc)(ha:Rel w γ H a va)(hb:Rel w γ H b vb)(h:zjb c a b H=some r) :
 ∃ v,(do pure (if ← asBool vc then va else vb):Sem Value).run P w=.ok v w∧r.H=H∧Rel w γ H r.v v:=by
 unfold zjb at h
 split at h<;>cases h
 rename_i t
 rw[oC hc]
 cases t
 ·exact⟨vb,by simp[asBool],rfl,hb⟩
 ·exact⟨va,by simp[asBool],rfl,ha⟩
def xA(hs:State w γ H){t:TypeId}{x:Operand}{a:Act}{y:AV}{r:R}(hx:Rel w γ H y (a.eval x))(h:zit P t x y H=some r) :
 Out P w γ H r.v r.H (.ok (a.eval x) w):=by
 unfold zit at h
 split at h
 ·split at h<;>cases h
  ·rename_i e _
   have he:=jC hs (w':=w) rfl rfl rfl (Nat.le_refl _) (fun _ _=>rfl) none (fun b h=>by cases h) (.buf (zjv P e) 0)
   refine⟨_,w,_,rfl,io hs (fun b h=>by cases h) he (fun _ _=>rfl) (.inr (.inl ⟨_,_,rfl⟩)),he,?_⟩
   refine rel_slice.2 (.inl ⟨⟨none,rfl⟩,rfl,Xq,fun sz' n h=>?_⟩)
   rw[AHeap.get_push_new]at h;cases h;rfl
  ·exact Out.same hs rfl hx
 ·cases h;exact Out.same hs rfl hx
def zR(hs:State w γ H){t:TypeId}{x:AV}{v:Value}{r:R}(hx:Rel w γ H x v)(h:zjp P t x H=some r) :
 Out P w γ H r.v r.H ((Instr.makeInterface t v).run P w):=by
 unfold zjp at h
 split at h
 ·cases h
 ·rename_i a ha hne
  cases h
  obtain⟨d,i,hd,hi,rfl⟩:=jD hne
  refine Out.same hs (v:=.iface t v) ?_ (by rw[Rel];exact⟨v,rfl,hx⟩)
  simp only[Instr.makeInterface,Sem.run_bind,bN hd,Result.andThen_ok]
  split
  ·rename_i ms;exact(ha _ rfl).elim
  ·rfl
 ·cases h
def vI(hs:State w γ H){x:AV}{n:Nat}{v:Value}{r:R}(hx:Rel w γ H x v)(h:zjq x n H=some r)(hc:r.c) :
 Out P w γ H r.v r.H ((Instr.extract v n).run P w):=by
 unfold zjq at h
 split at h<;>cases h
 rename_i vs
 rw[Rel]at hx
 obtain⟨C,rfl,hC,hr⟩:=hx
 have hn:n<vs.length:=hc
 obtain⟨u,hu,hr⟩:=hr n hn
 refine Out.same hs (v:=u) (by simp[Instr.extract,hu]) ?_
 simpa[List.getD,hn]using hr
def rG(hs:State w γ H){mx:Bool}{l:Wz}{vs:List Value}{r:R}(hl:vs.length=l.length)(hx:∀(j:Nat) x v,l[j]?=some x→vs[j]?=some v→Rel w γ H x v)
 (h:zju mx l H=some r) (ts:Array TypeId) (t:TypeId) :
 Out P w γ H r.v r.H ((if mx then Builtin.max_ ts t vs.toArray else Builtin.min_ ts t vs.toArray).run P w):=by
 unfold zju at h
 split at h
 ·rename_i k a k' b
  split at h<;>cases h
  rename_i hk;subst hk
  match vs,hl with
  |[v,u],_ =>
   have h1:=gY (hx 0 _ v rfl rfl)
   have h2:=gY (hx 1 _ u rfl rfl)
   subst h1;subst h2
   cases mx
   ·refine Out.same hs (v:=.int k (min a b)) ?_ (jH _ _)
    simp[Builtin.min_,Builtin.min2]
    split<;>(congr 2;omega)
   ·refine Out.same hs (v:=.int k (max a b)) ?_ (jH _ _)
    simp[Builtin.max_,Builtin.max2]
    split<;>(congr 2;omega)
 ·cases h
def Dk(hs:State w γ H){t:TypeId}{x:AV}{v:Value}{r:R}(hx:Rel w γ H x v)(h:E4 P t x H=some r)(ts:Array TypeId)(hts:ts[0]?=some t)(ty:TypeId) :
 Out P w γ H r.v r.H ((Builtin.len_ ts ty #[v]).run P w):=by
 unfold E4 at h
 split at h
 ·rename_i s hd
  cases h
  obtain⟨d,i,hu,hi,hd⟩:=jD hd
  cases d<;>simp[gv]at hd
  rw[mb hx]
  exact Out.same hs (v:=.int .i64 s.length) (by simp[Builtin.len_,hts,bN hu,goInt,u9]) (jH _ _)
 ·rename_i e m sz xs hd
  cases h
  obtain⟨d,i,hu,hi,hd⟩:=jD hd
  cases d<;>simp[gv]at hd
  refine Out.same hs (v:=.int .i64 xs.length) ?_ (jH _ _)
  rcases rel_slice.1 hx with⟨⟨a,rfl⟩,rfl,_⟩|⟨blk,off,cap,C,ty,fr,rfl,_⟩<;>simp[Builtin.len_,hts,bN hu,goInt]
 ·rename_i e id off sz len hd
  cases h
  obtain⟨d,i,hu,hi,hd⟩:=jD hd
  cases d<;>simp[gv]at hd
  refine Out.same hs (v:=.int .i64 len) ?_ (jH _ _)
  obtain⟨_,_,hx⟩:=rel_ms.1 hx
  rcases hx with⟨rfl,a,rfl⟩|⟨blk,cap,C,ty,fr,_,rfl,_⟩<;>simp[Builtin.len_,hts,bN hu,goInt]
 ·rename_i n e hd
  cases h
  obtain⟨d,i,hu,hi,hd⟩:=jD hd
  cases d<;>simp[gv]at hd
  obtain⟨rfl,rfl⟩:=hd
  refine Out.same hs (v:=.int .i64 _) ?_ (jH _ _)
  simp[Builtin.len_,hts,bN hu,goInt]
 ·cases h
def OutS(P:Program)(w:World)(γ:cQ)(H:AHeap)(r:R)(run:Result Value):Prop:=r.H=H∧∃ v,run=.ok v w∧Rel w γ H r.v v
theorem OutS.mk{c:Prop}{x:AV}{v:Value}{run:Result Value}(h:run=.ok v w)(hr:Rel w γ H x v):OutS P w γ H ⟨c,x,H⟩ run:=⟨rfl,v,h,hr⟩
theorem OutS.out(hs:State w γ H){r:R}{run:Result Value}(h:OutS P w γ H r run):Out P w γ H r.v r.H run:=by
 obtain⟨h1,v,h2,h3⟩:=h
 rw[h1];exact Out.same hs h2 h3
def uu{t:TypeId}{d:TypeDesc}{inf:TypeInfo}{z:AV}(hd:P.underlying t=some d)(hi:P.info? t=some inf){blk off:Nat}{C:Array Value}{ty:TypeId}{fr:Nat × Nat}
 (hb:w.heap[blk]?=some (.cells C ty fr)) {cs:Wz} {o:Nat} (hr:AtR (Rel w γ H) cs C o) {i:Nat} (ho:off=o+i) {r:R} {H':AHeap}
 (h:zjh ⟨gv d,inf.size,inf.bytes,z⟩ cs i H=some r) (hc:r.c) (hs:State w γ H) (hz:cs.length+o≤C.size) :
 OutS P w γ H r ((loadVar t ⟨blk,off,none⟩).run P w):=by
 subst ho
 unfold zjh at h
 by_cases ha:(gv d).agg=true
 ·simp only[ha,if_true]at h
  cases h
  have hle:i+inf.size≤cs.length:=hc
  refine OutS.mk (v:=.agg (C.extract (o+i) (o+i+inf.size))) (by simp[loadVar,sV hd,ha,ff hi,lE (P:=P) hb (off:=o+i) (n:=inf.size) (by omega)]) ?_
  refine vg Xf fun j hj=>?_
  simp only[List.length_take,List.length_drop]at hj
  obtain⟨u,hu,hr⟩:=hr (i+j) Xa
  refine⟨u,?_,by simpa using hr⟩
  rw[Nat.zero_add,Array.getElem?_extract,if_pos Xa,← hu]
  congr 1;omega
 ·simp only[ha,if_false,Bool.false_eq_true]at h
  cases h
  have hlt:i<cs.length:=hc
  obtain⟨u,hu,hr⟩:=hr i hlt
  refine OutS.mk (v:=u) ?_ (by simpa[List.getD,hlt]using hr)
  have hcell:=wW hb (o+i)
  rw[hu]at hcell
  simp[loadVar,sV hd,ha,hcell]
def mX(hs:State w γ H){id:Nat}{cs:Wz}(h:a8 H id=some cs){blk:Nat}(hg:γ id=some blk):H.get id=some (.cells cs) ∧
 ∃ C ty fr,γ id=some blk∧w.heap[blk]?=some (.cells C ty fr)∧cs.length=C.size∧AtR (Rel w γ H) cs C 0∧lA fr 0 cs.length:=by
 unfold a8 at h
 split at h<;>cases h
 rename_i ho
 refine⟨ho,?_⟩
 rcases hs.obj _ _ ho with⟨h1,_⟩|⟨b,C,ty,fr,h1,h2⟩
 ·rw[h1]at hg;cases hg
 ·rw[h1]at hg;cases hg
  exact⟨C,ty,fr,h1,h2⟩
def sD(hs:State w γ H){t:TypeId}{a:AV}{v:Value}{r:R}(ha:Rel w γ H a v)(h:zjg P t a H=some r)(hc:r.c) :
 OutS P w γ H r ((Instr.loadAt t v).run P w):=by
 unfold zjg at h
 split at h
 ·rename_i i id off hi
  split at h
  ·rename_i cs hcs
   obtain⟨d,inf,z,hd,hinf,hz,rfl⟩:=em hi
   obtain⟨_,_,blk,hg,rfl⟩:=rel_ptr.1 ha
   obtain⟨ho,C,ty,fr,_,hb,hsz,hr,_⟩:=mX hs hcs hg
   have:=uu (H':=H) hd hinf hb (o:=0) hr (i:=off) (Nat.zero_add _).symm h hc hs Xa
   simpa[Instr.loadAt,Instr.sureAddr]using this
  ·cases h
 ·rename_i i cs hi
  obtain⟨d,inf,z,hd,hinf,hz,rfl⟩:=em hi
  obtain⟨blk,off,C,ty,fr,rfl,hb,_,hr⟩:=rel_cptr.1 ha
  have hsz:cs.length+off≤C.size∨cs.length=0:=by
   cases hcs:cs.length with
   |zero=>exact .inr rfl
   |succ n =>
    obtain⟨u,hu,_⟩:=hr n Xa
    have:=(Array.getElem?_eq_some_iff.1 hu).1
    exact .inl Xa
  rcases hsz with hsz|hsz
  ·have:=uu (H':=H) hd hinf hb hr (i:=0) rfl h hc hs hsz
   simpa[Instr.loadAt,Instr.sureAddr]using this
  ·have hnil:cs=[]:=List.eq_nil_of_length_eq_zero hsz
   subst hnil
   unfold zjh at h
   by_cases hag:(gv d).agg=true
   ·simp only[hag,if_true]at h
    cases h
    have h0:inf.size=0:=by have:0+inf.size≤([]:Wz).length:=hc;simpa using this
    refine OutS.mk (v:=.agg #[]) (by simp[Instr.loadAt,Instr.sureAddr,loadVar,sV hd,hag,ff hinf,h0,loadCells,loadCellsFrom]) ?_
    exact vg Xc (by simpa using AtR.nil)
   ·simp only[hag,if_false,Bool.false_eq_true]at h
    cases h
    exact absurd hc Xc
 ·cases h
def Ap(hs:State w γ H){t:TypeId}{a:AV}{v:Value}{r:R}(ha:Rel w γ H a v)(h:zjg P t a H=some r)(hc:r.c) :
 Out P w γ H r.v r.H ((Instr.loadAt t v).run P w):=(sD hs ha h hc).out hs
def yY(hs:State w γ H){t:TypeId}{a x:AV}{v u:Value}{r:R}(ha:Rel w γ H a v)(hx:Rel w γ H x u)(h:zji P t a x H=some r)(hc:r.c) :
 ∃ w',(Instr.storeAt t v u).run P w=.ok () w'∧State w' γ r.H∧Ext w γ H w' γ r.H:=by
 unfold zji at h
 split at h
 ·rename_i i id off hi
  split at h
  ·rename_i cs hcs
   split at h
   ·rename_i hcond
    obtain⟨hlen,hone⟩:=hcond
    cases h
    have hle:off+i.size≤cs.length:=hc
    obtain⟨d,inf,z,hd,hinf,hz,rfl⟩:=em hi
    obtain⟨_,_,blk,hg,rfl⟩:=rel_ptr.1 ha
    obtain⟨ho,C,ty,fr,_,hb,hsz,hr,hth⟩:=mX hs hcs hg
    have hnj:x≠.junk∧∀ vs,x≠.tup vs:=by
     constructor
     ·rintro rfl;simp[AV.cells,dp,AV.one]at hone
     ·rintro vs rfl;simp[AV.cells,dp,AV.one]at hone
    obtain⟨hu1,hu2⟩:=Rel.cells hx hnj.1 hnj.2
    dsimp only at hle hlen
    have hul:u.cells.toList.length=x.cells.length:=by simpa using hu1
    have hst:=jN (P:=P) blk off ty fr u.cells.toList 0 C w hb Xa (EB hu2 hu1 hone) (fun p h1 h2=>hth p Xa Xa)
    have he:=zl hs hg hb (C':=gD C off u.cells.toList) (fR _ _ _ Xa) ho (o':=.cells (splice cs off x.cells)) (.inl ⟨_,_,rfl,rfl⟩)
    refine⟨_,?_,tK hs hg hb (fR _ _ _ Xa) ho he (.inl ⟨_,rfl,?_,?_,?_⟩),he⟩
    ·simp only[Instr.storeAt,Instr.sureAddr,Sem.run_bind,Sem.run_pure,Result.andThen_ok,storeVar,ff hinf]
     rw[if_neg (Xa)]
     simpa[gD]using hst
    ·rw[ia _ _ _ Xa,fR _ _ _ (Xa)];exact hsz
    ·exact hr.splice hu2 hul Xa (Nat.le_of_eq hsz)
    ·rw[ia _ _ _ (Xa)];exact hth
   ·cases h
  ·cases h
 ·cases h
end
section
variable {P:Program} {w:World} {γ:cQ} {H:AHeap}
theorem Imm.le{b e e':Nat}(h:Imm γ H b e)(hle:e'≤e):Imm γ H b e':=fun id o ho hg=>let ⟨sz,n,h1,h2⟩:=h id o ho hg;⟨sz,n,h1,Xa⟩
theorem AtR.drop{R:AV→Value→Prop}{cs:Wz}{C:Array Value}{off:Nat}(h:AtR R cs C off)(n:Nat):AtR R (cs.drop n) C (off+n):=fun j hj=>by
 simp only[List.length_drop]at hj
 obtain⟨u,hu,hr⟩:=h (n+j) Xa
 exact⟨u,by rw[← hu];congr 1;omega,by simpa using hr⟩
theorem AtR.take{R:AV→Value→Prop}{cs:Wz}{C:Array Value}{off:Nat}(h:AtR R cs C off)(n:Nat):AtR R (cs.take n) C off:=fun j hj=>by
 simp only[List.length_take]at hj
 obtain⟨u,hu,hr⟩:=h j Xa
 exact⟨u,hu,by simpa using hr⟩
theorem tU{sz:Nat}:∀(xs:Wz)(n:Nat),(∀ x∈xs,x.cells.length=sz)→flat (xs.drop n)=(flat xs).drop (n*sz)
 |[],n,_=>by simp[flat]
 |x::xs,0,_=>Xc
 |x::xs,n+1,h=>by
  have ih:=tU xs n fun y hy=>h y (by simp[hy])
  have hx:=h x Xc
  have e1:x.cells.drop ((n+1)*sz)=[]:=List.drop_eq_nil_of_le (by rw[hx,Nat.add_mul];omega)
  have e2:(n+1)*sz-sz=n*sz:=by rw[Nat.add_mul];omega
  simp only[List.drop_succ_cons,ih]
  show _=(x.cells++flat xs).drop _
  rw[List.drop_append,e1,List.nil_append,hx,e2]
theorem tm{sz:Nat}:∀(xs:Wz)(n:Nat),(∀ x∈xs,x.cells.length=sz)→flat (xs.take n)=(flat xs).take (n*sz)
 |[],n,_=>by simp[flat]
 |x::xs,0,_=>by simp[flat]
 |x::xs,n+1,h=>by
  have ih:=tm xs n fun y hy=>h y (by simp[hy])
  have hx:=h x Xc
  have e1:x.cells.take ((n+1)*sz)=x.cells:=List.take_of_length_le (by rw[hx,Nat.add_mul];omega)
  have e2:(n+1)*sz-sz=n*sz:=by rw[Nat.add_mul];omega
  simp only[List.take_succ_cons]
  show x.cells++flat (xs.take n)=(x.cells++flat xs).take _
  rw[List.take_append,ih,e1,hx,e2]
def uK(hs:State w γ H){x:AV}{v:Value}{r:R}(hx:Rel w γ H x v)(h:zjj x H=some r)(o:Oper)(a:Act)(xo:Operand)(ho:o.op=.nilCheck xo)(he:a.eval xo=v) :
 (execOp a.eval o).run P w=.ok (.value v) w∧r.H=H∧r.v=x:=by
 unfold zjj at h
 split at h<;>cases h
 ·obtain⟨_,_,blk,_,rfl⟩:=rel_ptr.1 hx
  exact W46
 ·obtain⟨blk,off,C,ty,fr,rfl,_⟩:=rel_cptr.1 hx
  exact W46
 ·rw[Rel]at hx
  obtain⟨F,C,rfl,_⟩:=hx
  exact W46
def pj {d : TypeDesc} {fs : List (Nat × TypeId × Bool)} (h : gv d = .struct fs) : ∃ fields : Array Field, d = .struct fields ∧ fs = fields.toList.map fun f => (f.offset, f.type, f.name == "_") := by
 cases d<;>simp[gv]at h
 exact⟨_,rfl,h.symm⟩
def tv {fields : Array Field} {n : Nat} {q : Nat × TypeId × Bool} (h : (fields.toList.map fun f => (f.offset, f.type, f.name == "_"))[n]? = some q) :
 ∃ f, fields[n]? = some f ∧ q = (f.offset, f.type, f.name == "_") := by
 rw[List.getElem?_map]at h
 cases hf:fields.toList[n]? with
 |none=>simp[hf]at h
 |some f=>simp only[hf,Option.map_some,Option.some.injEq]at h;exact⟨f,by simpa using hf,h.symm⟩
def tx(hs:State w γ H){t:TypeId}{x:AV}{n:Nat}{v:Value}{r:R}(hx:Rel w γ H x v)(h:zjk P t x n H=some r)(hc:r.c) :
 Out P w γ H r.v r.H ((Instr.fieldAt t v n).run P w):=by
 unfold zjk at h
 split at h
 ·rename_i fs hd
  obtain⟨d,i,hu,hi,hd⟩:=jD hd
  obtain⟨fields,rfl,rfl⟩:=pj hd
  split at h
  ·rename_i off ft bl hq
   obtain⟨f,hf,hq⟩:=tv hq
   cases hq
   split at h
   ·rename_i fi hfi
    obtain⟨fd,finf,fz,hfd,hfinf,hfz,rfl⟩:=em hfi
    split at h
    ·cases h
    ·rename_i hne
     have hpl:∀ a:Addr,(fieldPlace a f).run P w=.ok (a.add f.offset) w:=fun a=>by simp[fieldPlace,ff hfinf,hne]
     split at h<;>cases h
     ·rename_i id o
      obtain⟨h1,h2,blk,hg,rfl⟩:=rel_ptr.1 hx
      refine Out.same hs (v:=.pointer (some ⟨blk,o+f.offset,none⟩)) ?_ (rel_ptr.2 ⟨h1,h2,blk,hg,rfl⟩)
      simp[Instr.fieldAt,bN hu,hf,Instr.sureAddr,hpl,jz]
     ·rename_i cs
      obtain⟨blk,o,C,ty,fr,rfl,hb,hi,hr⟩:=rel_cptr.1 hx
      have hle:f.offset≤cs.length:=hc
      refine Out.same hs (v:=.pointer (some ⟨blk,o+f.offset,none⟩)) ?_ (rel_cptr.2 ⟨blk,o+f.offset,C,ty,fr,rfl,hb,hi.le Xf,hr.drop _⟩)
      simp[Instr.fieldAt,bN hu,hf,Instr.sureAddr,hpl,jz]
   ·cases h
  ·cases h
 ·cases h
def se(hs:State w γ H){t:TypeId}{i:TI}(hi:ti P t=some i){cs:Wz}{C:Array Value}(hC:C.size=cs.length)(hr:AtR (Rel w γ H) cs C 0){off:Nat}{r:R}
 (h:zjh i cs off H=some r) (hc:r.c):Out P w γ H r.v r.H ((part t C off).run P w):=by
 have h2:∃ x,teq.part P t cs off=some x∧r.v=x∧r.H=H:=by
  unfold zjh at h
  unfold teq.part
  simp only[hi]
  split at h<;>cases h
  ·rename_i hag;simp only[hag,if_true];refine⟨_,if_pos hc,?_⟩;simp
  ·rename_i hag;simp only[hag,if_false,Bool.false_eq_true];refine⟨_,if_pos hc,?_⟩;simp
 obtain⟨x,hx,e1,e2⟩:=h2
 obtain⟨v,hv,hrel⟩:=p8 hi hr hC hx
 rw[e1,e2]
 exact Out.same hs hv hrel
def zV(hs:State w γ H){t:TypeId}{x:AV}{n:Nat}{v:Value}{r:R}(hx:Rel w γ H x v)(h:zjl P t x n H=some r)(hc:r.c) :
 Out P w γ H r.v r.H ((Instr.field t v n).run P w):=by
 unfold zjl at h
 split at h
 ·rename_i fs cs hd
  obtain⟨d,i,hu,hi,hd⟩:=jD hd
  obtain⟨fields,rfl,rfl⟩:=pj hd
  split at h
  ·rename_i off ft bl hq
   obtain⟨f,hf,hq⟩:=tv hq
   cases hq
   split at h
   ·rename_i fi hfi
    obtain⟨C,rfl,hC,hCr⟩:=nH hx
    have:=se hs hfi hC hCr h hc
    simpa[Instr.field,bN hu,hf,asAgg]using this
   ·cases h
  ·cases h
 ·cases h
def j7{k:IntKind}{i:Int}:(asIntOf (.int k i)).run P w=.ok (k,i) w:=by simp[asIntOf]
def tI(hs:State w γ H){t:TypeId}{x ix:AV}{v vi:Value}{r:R}(hx:Rel w γ H x v)(hix:Rel w γ H ix vi)(h:zjm P t x ix H=some r)(hc:r.c) :
 Out P w γ H r.v r.H ((Instr.indexAt t v vi).run P w):=by
 unfold zjm at h
 split at h
 ·rename_i e k i hd
  rw[gY hix]
  obtain⟨d,it,hu,hi,hd⟩:=jD hd
  cases d<;>simp[gv]at hd
  subst hd
  split at h
  ·rename_i te hte
   obtain⟨ed,einf,ez,hed,heinf,hez,rfl⟩:=em hte
   split at h
   ·rename_i m sz xs
    split at h<;>cases h
    rename_i hsz
    obtain⟨h0,h1⟩:=hc
    rcases rel_slice.1 hx with⟨_,rfl,_⟩|⟨blk,off,cap,C,ty,fr,rfl,hle,hb,hcap,himm,hm,hall,hr⟩
    ·simp at h1;omega
    ·obtain⟨n,rfl⟩:=Int.eq_ofNat_of_zero_le h0
     have hn:n<xs.length:=Xa
     have hmul:(n+1)*sz≤xs.length*sz:=Nat.mul_le_mul_right _ hn
     rw[Nat.add_mul,Nat.one_mul]at hmul
     refine Out.same hs (v:=.pointer (some ⟨blk,off+n*sz,none⟩)) ?_ ?_
     ·exact W26
     ·have hget:(xs.getD (Int.ofNat n).toNat .junk)=xs[n]:=by simp[List.getD,hn]
      rw[show((↑n:Int)).toNat=n by simp,List.getD_eq_getElem?_getD,List.getElem?_eq_getElem hn,Option.getD_some]
      have hx1:=hall xs[n] (List.getElem_mem hn)
      refine rel_cptr.2 ⟨blk,off+n*sz,C,ty,fr,rfl,hb,himm.le Xa,?_⟩
      have:=(hr.drop (n*sz)).take sz
      rw[← tU _ _ hall]at this
      have e:(flat (xs.drop n)).take sz=xs[n].cells:=by
       rw[List.drop_eq_getElem_cons hn]
       show(xs[n].cells++flat (xs.drop (n+1))).take sz=_
       rw[List.take_append_of_le_length Xa,List.take_of_length_le (Xa)]
      rwa[e]at this
   ·rename_i id off sz len
    split at h<;>cases h
    rename_i hsz
    obtain⟨h0,h1⟩:=hc
    obtain⟨n,rfl⟩:=Int.eq_ofNat_of_zero_le h0
    have hn:n<len:=Xa
    obtain⟨hid,hnb,hx⟩:=rel_ms.1 hx
    rcases hx with⟨rfl,_⟩|⟨blk,cap,C,ty,fr,hg,rfl,hle,hb,hcap,_⟩
    ·omega
    refine Out.same hs (v:=.pointer (some ⟨blk,off+n*sz,none⟩)) ?_ ?_
    ·exact W26
    ·exact rel_ptr.2 ⟨hid,hnb,blk,hg,Xc⟩
   ·cases h
  ·cases h
 ·rename_i na e k i hd
  rw[gY hix]
  obtain⟨d,it,hu,hi,hd⟩:=jD hd
  cases d<;>simp[gv]at hd
  obtain⟨rfl,rfl⟩:=hd
  split at h
  ·rename_i te hte
   obtain⟨ed,einf,ez,hed,heinf,hez,rfl⟩:=em hte
   split at h<;>cases h
   ·rename_i id off
    obtain⟨h0,h1⟩:=hc
    obtain⟨hid,hnb,blk,hg,rfl⟩:=rel_ptr.1 hx
    obtain⟨n,rfl⟩:=Int.eq_ofNat_of_zero_le h0
    have hn:n<_:=Int.ofNat_lt.1 h1
    refine Out.same hs (v:=.pointer (some ⟨blk,off+n*einf.size,none⟩)) ?_ (rel_ptr.2 ⟨hid,hnb,blk,hg,Xc⟩)
    exact W29
   ·rename_i cs
    obtain⟨h0,h1,h2⟩:=hc
    obtain⟨blk,off,C,ty,fr,rfl,hb,himm,hr⟩:=rel_cptr.1 hx
    obtain⟨n,rfl⟩:=Int.eq_ofNat_of_zero_le h0
    have hn:n<_:=Int.ofNat_lt.1 h1
    have hmul:=Nat.mul_le_mul_right einf.size (Nat.le_of_lt hn)
    dsimp only at h2
    refine Out.same hs (v:=.pointer (some ⟨blk,off+n*einf.size,none⟩)) ?_ (rel_cptr.2 ⟨blk,off+n*einf.size,C,ty,fr,rfl,hb,himm.le Xf,by simpa using hr.drop (n*einf.size)⟩)
    exact W29
  ·cases h
 ·cases h
def zT(hs:State w γ H){t:TypeId}{x ix:AV}{v vi:Value}{r:R}(hx:Rel w γ H x v)(hix:Rel w γ H ix vi)(h:zjn P t x ix H=some r)(hc:r.c) :
 Out P w γ H r.v r.H ((Instr.index t v vi).run P w):=by
 unfold zjn at h
 split at h
 ·rename_i s k i hd
  rw[gY hix,mb hx]
  obtain⟨d,it,hu,hi,hd⟩:=jD hd
  cases d<;>simp[gv]at hd
  cases h
  obtain⟨h0,h1⟩:=hc
  obtain⟨n,rfl⟩:=Int.eq_ofNat_of_zero_le h0
  have hn:n<s.length:=Xa
  refine Out.same hs (v:=.int .u8 (s[n].toNat:Int)) ?_ ?_
  ·have hlt:n<(ByteArray.mk s.toArray).size:=by rw[u9];exact hn
   have e:(ByteArray.mk s.toArray)[n]?=some s[n]:=by
    rw[getElem?_pos (ByteArray.mk s.toArray) n hlt];rfl
   simp only[Instr.index,Sem.run_bind,j7,Result.andThen_ok,bN hu]
   simp[e]
  ·rw[Rel];simp[List.getD,hn]
 ·rename_i na e cs k i hd
  rw[gY hix]
  obtain⟨d,it,hu,hi,hd⟩:=jD hd
  cases d<;>simp[gv]at hd
  obtain⟨rfl,rfl⟩:=hd
  obtain⟨C,rfl,hC,hCr⟩:=nH hx
  split at h
  ·rename_i te hte
   have hti:=hte
   obtain⟨ed,einf,ez,hed,heinf,hez,rfl⟩:=em hte
   split at h<;>cases h
   ·rename_i hag
    obtain⟨h0,h1,h2⟩:=hc
    obtain⟨n,rfl⟩:=Int.eq_ofNat_of_zero_le h0
    have hn:n<_:=Int.ofNat_lt.1 h1
    have hmul:=Nat.mul_le_mul_right einf.size hn
    rw[Nat.succ_mul]at hmul
    dsimp only at h2 hag
    have:=se hs hti hC hCr (off:=n*einf.size) (r:=⟨n*einf.size+einf.size≤cs.length,.agg ((cs.drop (n*einf.size)).take einf.size),H⟩) (by simp[zjh,hag]) Xd
    exact W38
   ·rename_i hag
    obtain⟨h0,h1,h2,h3⟩:=hc
    obtain⟨n,rfl⟩:=Int.eq_ofNat_of_zero_le h0
    have hn:n<_:=Int.ofNat_lt.1 h1
    have hmul:=Nat.mul_le_mul_right einf.size hn
    rw[Nat.succ_mul]at hmul
    dsimp only at h2 hag h3
    have:=se hs hti hC hCr (off:=n*einf.size) (r:=⟨n*einf.size<cs.length,cs.getD (n*einf.size) .junk,H⟩) (by simp[zjh,hag]) Xd
    exact W38
  ·cases h
 ·cases h
end
section
variable {P:Program} {w:World} {γ:cQ} {H:AHeap}
def RelO(w:World)(γ:cQ)(H:AHeap):Option AV→Option Value→Prop
 |none,none=>True
 |some x,some v=>Rel w γ H x v
 |_,_=>False
def ya{lo:Option AV}{vlo:Option Value}{d:Nat}{l:Int}(hr:RelO w γ H lo vlo)(h:pM lo d=some l):(lo=none∧vlo=none∧l=d)∨∃ k,vlo=some (.int k l):=by
 unfold pM at h
 split at h
 ·cases vlo with
  |none=>cases h;exact .inl ⟨rfl,rfl,rfl⟩
  |some v=>exact hr.elim
 ·cases vlo with
  |none=>exact hr.elim
  |some v=>cases h;exact .inr ⟨_,by rw[gY hr]⟩
 ·cases h
def zM{k:IntKind}{n y:Nat}{code:BoundsCode}(h:n≤y):(Instr.sliceBound (.int k n) y code).run P w=.ok n w:=by
 simp[Instr.sliceBound,asIntOf,h]
def mt{isS:Bool}{len cap:Nat}{lo hi:Option AV}{vlo vhi:Option Value}{l h:Nat}(hlo:RelO w γ H lo vlo)(hhi:RelO w γ H hi vhi)
 (h1:pM lo 0=some (l:Int)) (h2:pM hi len=some (h:Int)) (hlh:l≤h) (hhl:h≤len) (hlc:len≤cap) :
 (Instr.sliceBounds isS len cap vlo vhi none).run P w=.ok (l,h,cap) w:=by
 rcases ya hlo h1 with⟨rfl,rfl,e1⟩|⟨k1,rfl⟩<;>rcases ya hhi h2 with⟨rfl,rfl,e2⟩|⟨k2,rfl⟩
 ·have e1:l=0:=Xa
  have e2:h=len:=Xa
  subst e1;subst e2
  simp[Instr.sliceBounds]
 ·have e1:l=0:=Xa
  subst e1
  have:=zM (P:=P) (w:=w) (k:=k2) (code:=if isS then .sliceAcap else .sliceAlen) (show h≤cap by omega)
  simp[Instr.sliceBounds,this]
 ·have e2:h=len:=Xa
  subst e2
  have:=zM (P:=P) (w:=w) (k:=k1) (code:=.sliceB) hlh
  simp[Instr.sliceBounds,this]
 ·have h3:=zM (P:=P) (w:=w) (k:=k2) (code:=if isS then .sliceAcap else .sliceAlen) (show h≤cap by omega)
  have h4:=zM (P:=P) (w:=w) (k:=k1) (code:=.sliceB) hlh
  simp[Instr.sliceBounds,h3,h4]
def tp{i:Int}(h:0≤i):∃ n:Nat,i=n∧i.toNat=n:=⟨i.toNat,Xa,rfl⟩
def Ii{m:Mark}{sz:Nat}{xs:Wz}{blk off cap:Nat}{C:Array Value}{ty:TypeId}{fr:Nat × Nat}(hL:OS w γ H m sz xs blk off cap C ty fr){l h c:Nat}
 (hlh:l≤h) (hhl:h≤xs.length) (hhc:h≤c) (hc:c≤cap) (m':Mark) (hm':m'=.any∨(m'=.full∧h=c)) :
 OS w γ H m' sz ((xs.take h).drop l) blk (off+l*sz) (c-l) C ty fr:=by
 obtain⟨hle,hb,hcap,himm,hm,hall,hr⟩:=hL
 have hall':∀ x∈(xs.take h).drop l,x.cells.length=sz:=fun x hx=>hall x (List.mem_of_mem_take (List.mem_of_mem_drop hx))
 have hlen:((xs.take h).drop l).length=h-l:=Xf
 have e1:c*sz≤cap*sz:=Nat.mul_le_mul_right _ hc
 have e2:(c-l)*sz+l*sz=c*sz:=by rw[← Nat.add_mul];congr 1;omega
 have e3:(h-l)*sz+l*sz=h*sz:=by rw[← Nat.add_mul];congr 1;omega
 have e4:h*sz≤xs.length*sz:=Nat.mul_le_mul_right _ hhl
 refine⟨Xa,hb,Xa,himm.le (by rw[hlen];omega),?_,hall',?_⟩
 ·rcases hm' with rfl|⟨rfl,e⟩
  ·trivial
  ·show c-l=_;rw[hlen];omega
 ·rw[tU _ _ (fun x hx=>hall x (List.mem_of_mem_take hx)),tm _ _ hall]
  exact(hr.take _).drop _
def Qu{m:Mark}{sz size:Nat}{xs:Wz}{blk off cap:Nat}{C:Array Value}{ty:TypeId}{fr:Nat × Nat}(hL:OS w γ H m sz xs blk off cap C ty fr){l h c:Nat}
 (hlh:l≤h) (hhl:h≤xs.length) (hhc:h≤c) (hc:c≤cap) (hsz:size=sz∨l=0) (m':Mark) (hm':m'=.any∨(m'=.full∧h=c)∨(m'=.nil∧c=l)) :
 Rel w γ H (.slice m' sz ((xs.take h).drop l)) (.slice (if c=l then some ⟨blk,off,none⟩else some ⟨blk,off+l*size,none⟩) (h-l) (c-l)):=by
 by_cases hcl:c=l
 ·have e1:h-l=0:=Xa
  have e2:c-l=0:=Xa
  have e3:(xs.take h).drop l=[]:=List.drop_eq_nil_of_le Xf
  rw[if_pos hcl,e1,e2,e3]
  refine rel_slice.2 (.inl ⟨⟨_,rfl⟩,rfl,?_⟩)
  rcases hm' with rfl|⟨rfl,_⟩|⟨rfl,_⟩<;>trivial
 ·have hm2:m'=.any∨(m'=.full∧h=c):=by
   rcases hm' with h|h|h
   ·exact .inl h
   ·exact .inr h
   ·exact absurd h.2 hcl
  have:=Ii hL hlh hhl hhc hc m' hm2
  have hlen:((xs.take h).drop l).length=h-l:=Xf
  have e:l*size=l*sz:=by rcases hsz with rfl|rfl<;>simp
  rw[if_neg hcl,← hlen,e]
  exact rel_slice.2 (.inr ⟨blk,_,_,C,ty,fr,rfl,this⟩)
def mv{t e:TypeId}(hu:P.underlying t=some (.slice e)){einf:TypeInfo}(heinf:P.info? e=some einf){a:Option Addr}{len cap:Nat}{vlo vhi vmx:Option Value}{l h c:Nat}
 (hb:(Instr.sliceBounds true len cap vlo vhi vmx).run P w=.ok (l,h,c) w) :
 (Instr.sliceAt t (.slice a len cap) vlo vhi vmx).run P w=.ok (.slice (if c=l then a else a.map (·.add (l*einf.size))) (h-l) (c-l)) w:=by
 simp[Instr.sliceAt,Instr.slice,bN hu,hb,ff heinf]
def zz(hs:State w γ H){t:TypeId}{x:AV}{v:Value}{lo hi mx:Option AV}{vlo vhi vmx:Option Value}{r:R}(hx:Rel w γ H x v)
 (hlo:RelO w γ H lo vlo) (hhi:RelO w γ H hi vhi) (hmx:RelO w γ H mx vmx) (h:zja P t x lo hi mx H=some r) (hc:r.c) :
 Out P w γ H r.v r.H ((Instr.sliceAt t v vlo vhi vmx).run P w):=by
 unfold zja at h
 split at h
 ·rename_i e m sz xs hd
  obtain⟨d,it,hu,hi',hd⟩:=jD hd
  cases d<;>simp[gv]at hd
  subst hd
  split at h
  ·rename_i te hte
   obtain⟨ed,einf,ez,hed,heinf,hez,rfl⟩:=em hte
   split at h
   ·rename_i hsz
    dsimp only at hsz
    split at h
    ·rename_i l h0 h1 h2
     cases h
     obtain⟨c1,c2,c3⟩:=hc
     obtain⟨l,rfl,el⟩:=tp c1
     obtain⟨h,rfl,eh⟩:=tp (Int.le_trans c1 c2)
     cases vmx with
     |some v=>exact hmx.elim
     |none =>
      simp only[el,eh]
      rcases rel_slice.1 hx with⟨⟨a,rfl⟩,rfl,hmn⟩|⟨blk,off,cap,C,ty,fr,rfl,hL⟩
      ·simp only[List.length_nil]at c3
       have e0:h=0:=Xa
       have e1:l=0:=Xa
       subst e0;subst e1
       have hb:=mt (P:=P) (isS:=true) (len:=0) (cap:=0) hlo hhi h1 h2 Xa Xa Xa
       exact Out.same hs (mv hu heinf hb) (rel_slice.2 (.inl ⟨⟨_,rfl⟩,Xc,trivial⟩))
      ·have hb:=mt (P:=P) (isS:=true) (cap:=cap) hlo hhi h1 h2 Xa Xa hL.1
       refine Out.same hs (mv hu heinf hb) ?_
       simp only[Option.map_some,jz]
       refine Qu hL Xa Xa (by have:=hL.1;omega) (Nat.le_refl _) ?_ _ (.inl rfl)
       rcases hsz with h|rfl
       ·exact .inl h
       ·simp at c3;exact .inr Xa
    ·cases h
   ·cases h
  ·cases h
 ·rename_i e id off sz len hd
  obtain⟨d,it,hu,hi',hd⟩:=jD hd
  cases d<;>simp[gv]at hd
  subst hd
  split at h
  ·rename_i te hte
   obtain⟨ed,einf,ez,hed,heinf,hez,rfl⟩:=em hte
   split at h
   ·rename_i hsz
    dsimp only at hsz
    split at h
    ·rename_i l h0 h1 h2
     cases h
     obtain⟨c1,c2,c3⟩:=hc
     obtain⟨l,rfl,el⟩:=tp c1
     obtain⟨h,rfl,eh⟩:=tp (Int.le_trans c1 c2)
     cases vmx with
     |some v=>exact hmx.elim
     |none =>
      simp only[el]
      have e3:((h:Int)-l).toNat=h-l:=Xa
      rw[e3]
      obtain⟨hid,hnb,hx⟩:=rel_ms.1 hx
      rcases hx with⟨rfl,a,rfl⟩|⟨blk,cap,C,ty,fr,hg,rfl,hle,hb,hcap,hth⟩
      ·have e0:h=0:=Xa
       have e1:l=0:=Xa
       subst e0;subst e1
       have hb:=mt (P:=P) (isS:=true) (len:=0) (cap:=0) hlo hhi h1 h2 Xa Xa Xa
       exact Out.same hs (mv hu heinf hb) (rel_ms.2 ⟨hid,hnb,.inl ⟨rfl,_,rfl⟩⟩)
      have hbd:=mt (P:=P) (isS:=true) (cap:=cap) hlo hhi h1 h2 Xa Xa hle
      have hmul:l*sz+(cap-l)*sz=cap*sz:=by rw[← Nat.add_mul];congr 1;omega
      by_cases hcl:cap=l
      ·refine Out.same hs (mv hu heinf hbd) ?_
       rw[show h-l=0 by omega,show cap-l=0 by omega]
       exact rel_ms.2 ⟨hid,hnb,.inl ⟨rfl,_,rfl⟩⟩
      ·refine Out.same hs (mv hu heinf hbd) ?_
       rw[if_neg hcl]
       simp only[Option.map_some,jz,hsz]
       exact rel_ms.2 ⟨hid,hnb,.inr ⟨blk,cap-l,C,ty,fr,hg,rfl,Xa,hb,Xa,fun p p1 p2=>hth p Xa Xa⟩⟩
    ·cases h
   ·cases h
  ·cases h
 ·rename_i n e id off hd
  obtain⟨d,it,hu,hi',hd⟩:=jD hd
  cases d<;>simp[gv]at hd
  rename_i n' e'
  obtain⟨rfl,rfl⟩:=hd
  split at h
  ·rename_i te hte
   obtain⟨ed,einf,ez,hed,heinf,hez,rfl⟩:=em hte
   split at h
   ·rename_i cs hcs
    split at h
    ·rename_i l h0 h1 h2
     cases h
     obtain⟨c1,c2,c3,c4⟩:=hc
     dsimp only at c4
     obtain⟨l,rfl,el⟩:=tp c1
     obtain⟨h,rfl,eh⟩:=tp (Int.le_trans c1 c2)
     obtain⟨hid,hnb,blk,hg,rfl⟩:=rel_ptr.1 hx
     obtain⟨ho,C,ty,fr,_,hb,hsz,hr,hth⟩:=mX hs hcs hg
     cases vmx with
     |some v=>exact hmx.elim
     |none =>
      simp only[el]
      have e3:((h:Int)-l).toNat=h-l:=Xa
      rw[e3]
      have hlt:l≤h:=Xa
      have hbd:(Instr.sliceBounds false n' n' vlo vhi none).run P w=.ok (l,h,n') w:=mt (P:=P) (isS:=false) (cap:=n') hlo hhi h1 h2 Xa Xa (Nat.le_refl _)
      have hrun:(Instr.sliceAt t (.pointer (some ⟨blk,off,none⟩)) vlo vhi none).run P w=.ok (.slice (some (if n'=l then⟨blk,off,none⟩else(⟨blk,off,none⟩:Addr).add (l*einf.size))) (h-l) (n'-l)) w:=by
       simp[Instr.sliceAt,bN hu,hbd,ff heinf,Instr.sureAddr]
      have hmul:l*einf.size+(n'-l)*einf.size=n'*einf.size:=by rw[← Nat.add_mul];congr 1;omega
      by_cases hcl:n'=l
      ·refine Out.same hs hrun ?_
       rw[show h-l=0 by omega,show n'-l=0 by omega]
       exact rel_ms.2 ⟨hid,hnb,.inl ⟨rfl,_,rfl⟩⟩
      ·refine Out.same hs hrun ?_
       rw[if_neg hcl]
       simp only[jz]
       exact rel_ms.2 ⟨hid,hnb,.inr ⟨blk,n'-l,C,ty,fr,hg,rfl,Xa,hb,Xa,fun p p1 p2=>hth p Xa Xa⟩⟩
    ·cases h
   ·cases h
  ·cases h
 ·cases h
end
end Go.AL
