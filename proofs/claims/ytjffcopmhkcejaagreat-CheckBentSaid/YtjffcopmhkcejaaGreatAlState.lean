/- Lemmas of the proof; no condition. -/
import Derived.WalkKit
import Derived.DeepKeys3
import Derived.Maps.Keyed
set_option linter.all false
set_option linter.unusedSectionVars false
namespace Go.AL
abbrev By:=List UInt8
def Xa{p:Prop}(h:p:=by omega):p:=h
def Xb{p:Prop}(h:p:=by decide):p:=h
def Xc{p:Prop}(h:p:=by simp):p:=h
def Xd{p:Prop}(h:p:=by dsimp only;omega):p:=h
def Xf{p:Prop}(h:p:=by simp;omega):p:=h
def Xj{p:Prop}(h:p:=by kernel_rfl):p:=h
def Xm{p:Prop}(h:p:=by rw[AV.lt]<;>simp):p:=h
def Xq{p:Prop}(h:p:=by rw[AHeap.nx_push];omega):p:=h
def Xs{p:Prop}(h:p:=by rw[Bool.eq_iff_iff];simp;omega):p:=h
def Xw{p:Prop}(h:p:=by rw[Bool.eq_iff_iff];simp):p:=h
def X4{p:Prop}(h:p:=by first|assumption|decide|omega|simp):p:=h
theorem ybb:type_of% @List.length_map:=@List.length_map
theorem yaz:type_of% @List.length_cons:=rfl
theorem yan:type_of% @List.getElem?_cons_succ:=rfl
theorem yae:type_of% @List.map_cons:=rfl
theorem yam:type_of% @List.getElem?_cons_zero:=rfl
theorem yak:type_of% @List.nil_append:=fun _=>rfl
theorem yba:type_of% @List.length_nil:=rfl
theorem ybc:type_of% @List.take_of_length_le:=@List.take_of_length_le
theorem yaj:type_of% @List.append_nil:=@List.append_nil
theorem yaf:type_of% @List.map_nil:=rfl
theorem yap:type_of% @List.drop_zero:=rfl
theorem yag:type_of% @Option.map_some:=fun _ _=>rfl
theorem yai:type_of% @Option.elim_some:=fun _ _ _=>rfl
theorem ybd:type_of% @List.drop_append:=@List.drop_append
theorem ybe:type_of% @List.take_append:=@List.take_append
theorem ybf:type_of% @List.drop_eq_nil_of_le:=@List.drop_eq_nil_of_le
theorem yal:type_of% @List.cons_append:=rfl
theorem yaq:type_of% @List.take_succ_cons:=rfl
theorem yar:type_of% @List.take_zero:=rfl
theorem yao:type_of% @List.drop_succ_cons:=rfl
theorem yau:type_of% @List.getD_cons_zero:=rfl
inductive Mark where
 |any
 |nil
 |full
 |own (id:Nat)
 deriving DecidableEq,Inhabited
inductive AV where
 |int (k:IntKind) (n:Int)
 |bool (b:Bool)
 |str (s:By)
 |ptr (id off:Nat)
 |cptr (cs:List AV)
 |nilp
 |slice (m:Mark) (sz:Nat) (xs:List AV)
 |ms (id off sz len:Nat)
 |mapv (id:Nat)
 |nilm
 |func (fn:Fn) (first cap:List AV)
 |nilf
 |iface (t:TypeId) (v:AV)
 |nili
 |agg (cs:List AV)
 |tup (vs:List AV)
 |junk
 deriving Inhabited
inductive AObj where
 |cells (cs:List AV)
 |buf (sz n:Nat)
 |part (cs:List AV)
 |mapo (es:List (AV × AV))
structure AHeap where
 nx:Nat
 f:Nat→Option AObj
def AHeap.get(H:AHeap)(i:Nat):Option AObj:=if i<H.nx then H.f i else none
def AHeap.push(H:AHeap)(o:AObj):AHeap:=⟨H.nx+1,fun i=>if i=H.nx then some o else H.f i⟩
def AHeap.set(H:AHeap)(i:Nat)(o:AObj):AHeap:=⟨H.nx,fun j=>if j=i then some o else H.f j⟩
def AV.cells:AV→List AV
 |.agg cs=>cs
 |v=>[v]
def AV.one:AV→Bool
 |.agg _|.tup _|.junk=>false
 |_=>true
theorem AV.sizeOf_cells{x y:AV}(h:y∈x.cells):SizeOf.sizeOf y≤SizeOf.sizeOf x:=by
 cases x<;>simp only[AV.cells,List.mem_singleton]at h
 case agg cs =>
  have:=List.sizeOf_lt_of_mem h
  simp only[AV.agg.sizeOf_spec];omega
 all_goals(subst h;exact Nat.le_refl _)
def AV.lt(n:Nat):AV→Prop
 |.ptr id _=>id<n
 |.cptr cs=>∀(j:Nat)(hj:j<cs.length),AV.lt n cs[j]
 |.slice m _ xs=>(∀ id,m=.own id→id<n)∧∀(j:Nat)(hj:j<xs.length),AV.lt n xs[j]
 |.ms id _ _ _=>id<n
 |.mapv id=>id<n
 |.func _ first cap=>(∀(j:Nat)(hj:j<first.length),AV.lt n first[j])∧∀(j:Nat)(hj:j<cap.length),AV.lt n cap[j]
 |.iface _ v=>AV.lt n v
 |.agg cs=>∀(j:Nat)(hj:j<cs.length),AV.lt n cs[j]
 |.tup cs=>∀(j:Nat)(hj:j<cs.length),AV.lt n cs[j]
 |_=>True
termination_by x=>SizeOf.sizeOf x
decreasing_by
 all_goals simp_wf
 all_goals first
  |(have:=List.sizeOf_lt_of_mem (List.getElem_mem hj);omega)
  |omega
abbrev cQ:=Nat→Option Nat
def Imm(γ:cQ)(H:AHeap)(blk e:Nat):Prop :=
 ∀ id o,H.get id=some o→γ id=some blk→∃ sz n,o=.buf sz n∧e≤n*sz
def notBuf(H:AHeap)(id:Nat):Prop:=∀ sz n,H.get id≠some (.buf sz n)
def lA(fr:Nat × Nat)(lo hi:Nat):Prop:=∀ p,lo≤p→p<hi→¬ (fr.1≤p∧p<fr.2)
def MV(γ:cQ)(H:AHeap)(m:Mark)(sz len blk off cap:Nat)(fr:Nat × Nat)(tot:Nat):Prop :=
 match m with
 |.any=>True
 |.nil=>False
 |.full=>cap=len
 |.own id=>id<H.nx∧notBufOr γ H id sz len blk off cap fr tot
where
 notBufOr (γ:cQ) (H:AHeap) (id sz len blk off cap:Nat) (fr:Nat × Nat) (tot:Nat):Prop :=
  ∀ sz' n,H.get id=some (.buf sz' n)→sz'=sz∧len≤n∧(len=n→γ id=some blk∧off=0∧lA fr 0 tot)
def DO(H:AHeap)(m:Mark)(sz:Nat):Prop :=
 match m with
 |.own id=>id<H.nx∧∀ sz' n,H.get id=some (.buf sz' n)→sz'=sz
 |_=>True
def Rel(w:World)(γ:cQ)(H:AHeap):AV→Value→Prop
 |.int k n,v=>v=.int k n
 |.bool b,v=>v=.bool b
 |.str s,v=>v=.string ⟨s.toArray⟩
 |.ptr id off,v=>id<H.nx∧notBuf H id∧∃ blk,γ id=some blk∧v=.pointer (some ⟨blk,off,none⟩)
 |.cptr cs,v=>∃ blk off C ty fr,v=.pointer (some ⟨blk,off,none⟩)∧w.heap[blk]?=some (.cells C ty fr) ∧
   Imm γ H blk (off+cs.length)∧∀ j (hj:j<cs.length),∃ u,C[off+j]?=some u∧Rel w γ H cs[j] u
 |.nilp,v=>v=.pointer none
 |.slice m sz xs,v=>((∃ a,v=.slice a 0 0)∧xs=[]∧DO H m sz) ∨
   ∃ blk off cap C ty fr,v=.slice (some ⟨blk,off,none⟩) xs.length cap∧xs.length≤cap∧w.heap[blk]?=some (.cells C ty fr) ∧
    off+cap*sz≤C.size∧Imm γ H blk (off+xs.length*sz)∧MV γ H m sz xs.length blk off cap fr C.size ∧
    ∀ i (hi:i<xs.length),xs[i].cells.length=sz ∧
     ∀ j (hj:j<xs[i].cells.length),∃ u,C[off+i*sz+j]?=some u∧Rel w γ H xs[i].cells[j] u
 |.ms id off sz len,v=>id<H.nx∧notBuf H id∧((len=0∧∃ a,v=.slice a 0 0)∨∃ blk cap C ty fr,γ id=some blk∧v=.slice (some ⟨blk,off,none⟩) len cap∧len≤cap ∧
   w.heap[blk]?=some (.cells C ty fr)∧off+cap*sz≤C.size∧lA fr off (off+cap*sz))
 |.mapv id,v=>id<H.nx∧notBuf H id∧∃ blk,γ id=some blk∧v=.map (some blk)
 |.nilm,v=>v=.map none
 |.func fn first cap,v=>∃ F C:Array Value,v=.func fn F C∧F.size=first.length∧C.size=cap.length ∧
   (∀ j (hj:j<first.length),∃ u,F[j]?=some u∧Rel w γ H first[j] u) ∧
   (∀ j (hj:j<cap.length),∃ u,C[j]?=some u∧Rel w γ H cap[j] u)
 |.nilf,v=>v=.nilFunc
 |.iface t x,v=>∃ u,v=.iface t u∧Rel w γ H x u
 |.nili,v=>v=.nilIface
 |.agg cs,v=>∃ C:Array Value,v=.agg C∧C.size=cs.length∧∀ j (hj:j<cs.length),∃ u,C[j]?=some u∧Rel w γ H cs[j] u
 |.tup vs,v=>∃ C:Array Value,v=.tuple C∧C.size=vs.length∧∀ j (hj:j<vs.length),∃ u,C[j]?=some u∧Rel w γ H vs[j] u
 |.junk,_=>True
termination_by x=>SizeOf.sizeOf x
decreasing_by
 all_goals simp_wf
 all_goals first
  |(have:=List.sizeOf_lt_of_mem (List.getElem_mem hj);omega)
  |(have h1:=AV.sizeOf_cells (List.getElem_mem hj);have h2:=List.sizeOf_lt_of_mem (List.getElem_mem hi);omega)
  |omega
def AtR(R:AV→Value→Prop)(cs:List AV)(C:Array Value)(off:Nat):Prop :=
 ∀(j:Nat)(hj:j<cs.length),∃ u,C[off+j]?=some u∧R cs[j] u
def S4(cs:List AV):Prop:=∀ x∈cs,∃ v,∀ w γ H,Rel w γ H x v
def AV.flat1:AV→Bool
 |.int _ _|.bool _|.str _=>true
 |_=>false
def AV.flat:AV→Bool
 |.agg cs=>cs.all AV.flat1
 |v=>v.flat1
abbrev Wz:=List AV
def lz:AV→Value
 |.int k n=>.int k n
 |.bool b=>.bool b
 |.str s=>.string ⟨s.toArray⟩
 |_=>.bool false
def dY:AV→Value
 |.agg cs=>.agg (cs.map lz).toArray
 |v=>lz v
def rq:AV→AV→Bool
 |.int k n,.int k' n'=>decide (k=k')&&decide (n=n')
 |.bool a,.bool b=>a==b
 |.str a,.str b=>decide (a=b)
 |_,_=>false
def Bg:Wz→Wz→Bool
 |[],[]=>true
 |x::xs,y::ys=>rq x y&&Bg xs ys
 |_,_=>false
def feq:AV→AV→Bool
 |.agg a,.agg b=>Bg a b
 |x,y=>rq x y
def ki:List (AV × AV)→AV→Option AV
 |[],_=>none
 |(k,x)::es,y=>if feq k y then some x else ki es y
def Es{x y:AV}(h:rq x y=true):x=y:=by
 cases x<;>cases y<;>simp[rq]at h
 ·rw[h.1,h.2]
 ·rw[h]
 ·rw[h]
def yd{x:AV}(h:x.flat1=true):rq x x=true:=by
 cases x<;>simp[AV.flat1]at h<;>simp[rq]
theorem En:∀{a b:Wz},Bg a b=true→a=b
 |[],[],_=>rfl
 |x::xs,y::ys,h=>by
  rw[Bg,Bool.and_eq_true]at h
  rw[Es h.1,En h.2]
 |[],_::_,h=>by cases h
 |_::_,[],h=>by cases h
theorem yj:∀{a:Wz},a.all AV.flat1=true→Bg a a=true
 |[],_=>rfl
 |x::xs,h=>by
  rw[List.all_cons,Bool.and_eq_true]at h
  rw[Bg,yd h.1,yj h.2];rfl
def tO{x y:AV}(h:feq x y=true):x=y:=by
 cases x
 case agg a =>
  cases y
  case agg b=>rw[En (show Bg a b=true from h)]
  all_goals exact absurd h (by simp[feq,rq])
 all_goals(cases y<;>first|exact Es (show rq _ _=true from h)|exact absurd h (by simp[feq,rq]))
def vZ{x:AV}(h:x.flat=true):feq x x=true:=by
 cases x
 case agg a=>exact yj (show a.all AV.flat1=true from h)
 all_goals(simp only[feq];exact yd (by simpa only[AV.flat]using h))
def v5{x y:AV}(hx:x.flat1=true)(hy:y.flat1=true)(h:lz x=lz y):x=y:=by
 cases x<;>cases y<;>simp[AV.flat1]at hx hy<;>simp[lz]at h
 ·rw[h.1,h.2]
 ·rw[h]
 ·rw[h]
theorem yz:∀{a b:Wz},a.all AV.flat1=true→b.all AV.flat1=true→a.map lz=b.map lz→a=b
 |[],[],_,_,_=>rfl
 |x::xs,y::ys,ha,hb,h=>by
  rw[List.all_cons,Bool.and_eq_true]at ha hb
  rw[List.map_cons,List.map_cons,List.cons.injEq]at h
  rw[v5 ha.1 hb.1 h.1,yz ha.2 hb.2 h.2]
 |[],_::_,_,_,h=>by simp at h
 |_::_,[],_,_,h=>by simp at h
def tH{x y:AV}(hx:x.flat=true)(hy:y.flat=true)(h:dY x=dY y):x=y:=by
 cases x
 case agg a =>
  cases y
  case agg b =>
   have:a.map lz=b.map lz:=by simpa[dY]using h
   rw[yz (show a.all AV.flat1=true from hx) (show b.all AV.flat1=true from hy) this]
  all_goals(simp[AV.flat,AV.flat1]at hy;try(simp[dY,lz]at h))
 all_goals
  cases y
  case agg b=>simp[AV.flat,AV.flat1]at hx;try(simp[dY,lz]at h)
  all_goals(simp only[AV.flat]at hx hy;first|(simp[AV.flat1]at hx;done)|(simp only[dY]at h;exact v5 hx hy h))
def ub{w:World}{γ:cQ}{H:AHeap}{x:AV}(hx:x.flat1=true)(v:Value):Rel w γ H x v↔v=lz x:=by
 cases x<;>simp[AV.flat1]at hx<;>(rw[Rel];rfl)
def ll{w:World}{γ:cQ}{H:AHeap}{x:AV}(hx:x.flat=true)(v:Value):Rel w γ H x v↔v=dY x:=by
 cases x
 case agg cs =>
  rw[Rel]
  have hc:∀ j (hj:j<cs.length),(cs[j]).flat1=true:=fun j hj=>(List.all_eq_true.1 (show cs.all AV.flat1=true from hx)) _ (List.getElem_mem hj)
  constructor
  ·rintro⟨C,rfl,hs,h⟩
   show Value.agg C=.agg _
   congr 1
   apply Array.ext (by simp[hs])
   intro i hi1 hi2
   obtain⟨u,hu,hr⟩:=h i (by omega)
   rw[ub (hc i (by omega))]at hr
   rw[Array.getElem?_eq_getElem hi1]at hu
   rw[Option.some.inj hu,hr]
   simp
  ·rintro rfl
   refine⟨(cs.map lz).toArray,rfl,by simp,fun j hj=>⟨lz cs[j],by simp[hj],(ub (hc j hj) _).2 rfl⟩⟩
 all_goals(simp only[AV.flat]at hx;simp only[dY];exact ub hx v)
theorem oY:∀{es:List (AV × AV)} {k x:AV},ki es k=some x→(k,x)∈es
 |[],_,_,h=>by cases h
 |(k',x')::es,k,x,h=>by
  rw[ki]at h
  split at h
  ·rename_i he;cases h;rw[tO he];exact List.mem_cons_self
  ·exact List.mem_cons_of_mem _ (oY h)
def iQ:List (AV × AV)→Wz
 |[]=>[]
 |p::es=>if(ki es p.1).isSome then iQ es else iQ es++[p.1]
structure MapOk(es:List (AV × AV))(E:Array MapEntry)(clock:Nat):Prop where
 flat:∀ p∈es,p.1.flat=true∧p.2.flat=true
 one:∀(i j:Nat)(a b:MapEntry),E[i]?=some a→E[j]?=some b→a.key=b.key→i=j
 back:∀(i:Nat)(a:MapEntry),E[i]?=some a→∃ k x,a.key=dY k∧a.val=dY x∧ki es k=some x
 here:∀ k x,ki es k=some x→∃ (i:Nat) (a:MapEntry),E[i]?=some a∧a.key=dY k
 clk:clock=E.size
 born:∀(i:Nat)(a:MapEntry),E[i]?=some a→a.born=i
 size:(iQ es).length=E.size
 ord:∀(i:Nat)(a:MapEntry),E[i]?=some a→∃ k,(iQ es)[i]?=some k∧a.key=dY k
def ObjOk(w:World)(γ:cQ)(H:AHeap)(id:Nat):AObj→Prop
 |.cells cs=>(γ id=none∧S4 cs)∨∃ blk C ty fr,γ id=some blk∧w.heap[blk]?=some (.cells C ty fr)∧cs.length=C.size∧AtR (Rel w γ H) cs C 0∧lA fr 0 cs.length
 |.buf sz n=>∀ blk,γ id=some blk→blk<w.heap.size
 |.part cs=>∃ blk C ty fr,γ id=some blk∧w.heap[blk]?=some (.cells C ty fr)∧cs.length≤C.size∧AtR (Rel w γ H) cs C 0∧lA fr 0 C.size∧∀ x∈cs,x.lt 0
 |.mapo es=>∃ blk E clock,γ id=some blk∧w.heap[blk]?=some (.map E clock)∧MapOk es E clock
structure State(w:World)(γ:cQ)(H:AHeap):Prop where
 inj:∀ i j oi oj b,H.get i=some oi→H.get j=some oj→γ i=some b→γ j=some b→i=j
 obj:∀ id o,H.get id=some o→ObjOk w γ H id o
structure Ext(w:World)(γ:cQ)(H:AHeap)(w':World)(γ':cQ)(H':AHeap):Prop where
 os:w'.os=w.os
 tape:w'.tape=w.tape
 output:w'.output=w.output
 size:w.heap.size≤w'.heap.size
 nx:H.nx≤H'.nx
 block:∀(b:Nat)(C:Array Value) ty fr,w.heap[b]?=some (.cells C ty fr)→∃ C':Array Value,w'.heap[b]?=some (.cells C' ty fr)∧C'.size=C.size ∧
  ∀ e,Imm γ H b e→∀ i,i<e→C'[i]?=C[i]?
 imm:∀ b e,b<w.heap.size→Imm γ H b e→Imm γ' H' b e
 un:∀ b,b<w.heap.size→(∀ id o,H.get id=some o→γ id≠some b)→w'.heap[b]?=w.heap[b]?
 none:∀ id,id<H.nx→H.get id=none→H'.get id=none∧γ' id=γ id
 keep:∀ id o,H.get id=some o→(∀ sz n,o≠.buf sz n)→γ' id=γ id∧notBuf H' id
 bufs:∀ id sz n,H.get id=some (.buf sz n)→∀ sz' n',H'.get id=some (.buf sz' n')→sz'=sz∧n≤n'∧(n'=n→γ' id=γ id)
 bufk:∀ id sz n,H.get id=some (.buf sz n)→∀ o,H'.get id=some o→∃ sz' n',o=.buf sz' n'
theorem AHeap.get_lt{H:AHeap}{id:Nat}{o:AObj}(h:H.get id=some o):id<H.nx:=by
 unfold AHeap.get at h
 split at h
 ·assumption
 ·cases h
theorem Ext.refl(w:World)(γ:cQ)(H:AHeap):Ext w γ H w γ H where
 os:=rfl
 tape:=rfl
 output:=rfl
 size:=Nat.le_refl _
 nx:=Nat.le_refl _
 block:=fun b C ty fr h=>⟨C,h,rfl,fun _ _ _ _=>rfl⟩
 imm:=fun _ _ _ h=>h
 un:=fun _ _ _=>rfl
 none:=fun id _ h=>⟨h,rfl⟩
 keep:=fun id o h hb=>⟨rfl,fun sz n h'=>hb sz n (by rw[h]at h';exact Option.some.inj h')⟩
 bufs:=fun id sz n h sz' n' h'=>by rw[h]at h';cases h';exact⟨rfl,Nat.le_refl _,fun _=>rfl⟩
 bufk:=fun id sz n h o h'=>by rw[h]at h';cases h';exact⟨_,_,rfl⟩
def du{w:World}{b:Nat}{o:Obj}(h:w.heap[b]?=some o):b<w.heap.size:=by
 rcases Nat.lt_or_ge b w.heap.size with h'|h'
 ·exact h'
 ·rw[Array.getElem?_eq_none h']at h;cases h
theorem Ext.notBuf{w w':World}{γ γ':cQ}{H H':AHeap}(h:Ext w γ H w' γ' H'){id:Nat}(hid:id<H.nx)(hb:AL.notBuf H id) :
 AL.notBuf H' id∧γ' id=γ id:=by
 cases ho:H.get id with
 |none=>exact⟨fun sz n hx=>(by rw[(h.none id hid ho).1]at hx;cases hx),(h.none id hid ho).2⟩
 |some o=>exact⟨(h.keep id o ho fun sz n e=>hb sz n (by rw[ho,e])).2,(h.keep id o ho fun sz n e=>hb sz n (by rw[ho,e])).1⟩
theorem Ext.buf_back{w w':World}{γ γ':cQ}{H H':AHeap}(h:Ext w γ H w' γ' H'){id sz n:Nat}(hid:id<H.nx)(h':H'.get id=some (.buf sz n)) :
 ∃ n0,H.get id=some (.buf sz n0)∧n0≤n∧(n=n0→γ' id=γ id):=by
 cases ho:H.get id with
 |none=>rw[(h.none id hid ho).1]at h';cases h'
 |some o =>
  cases o with
  |buf sz0 n0=>obtain⟨rfl,h2,h3⟩:=h.bufs id sz0 n0 ho sz n h';exact⟨n0,rfl,h2,h3⟩
  |cells cs=>exact absurd h' ((h.keep id _ ho (by intros;simp)).2 _ _)
  |part es=>exact absurd h' ((h.keep id _ ho (by intros;simp)).2 _ _)
  |mapo es=>exact absurd h' ((h.keep id _ ho (by intros;simp)).2 _ _)
theorem Ext.trans{w w1 w2:World}{γ γ1 γ2:cQ}{H H1 H2:AHeap}(h:Ext w γ H w1 γ1 H1)(k:Ext w1 γ1 H1 w2 γ2 H2):Ext w γ H w2 γ2 H2 where
 os:=k.os.trans h.os
 tape:=k.tape.trans h.tape
 output:=k.output.trans h.output
 size:=Nat.le_trans h.size k.size
 nx:=Nat.le_trans h.nx k.nx
 block:=fun b C ty fr hb=>by
  obtain⟨C1,h1,s1,e1⟩:=h.block b C ty fr hb
  obtain⟨C2,h2,s2,e2⟩:=k.block b C1 ty fr h1
  exact⟨C2,h2,s2.trans s1,fun e he i hi=>(e2 e (h.imm b e (du hb) he) i hi).trans (e1 e he i hi)⟩
 imm:=fun b e hb he=>k.imm b e (Nat.lt_of_lt_of_le hb h.size) (h.imm b e hb he)
 un:=fun b hb hu=>by
  have hu1:∀ id o,H1.get id=some o→γ1 id≠some b:=fun id o ho hg=>by
   have h1:∀ e,Imm γ1 H1 b e:=fun e=>h.imm b e hb fun id o ho hg=>absurd hg (hu id o ho)
   obtain⟨sz,n,rfl,hle⟩:=h1 0 id o ho hg
   obtain⟨sz',n',he,hle'⟩:=h1 (n*sz+1) id _ ho hg
   cases he
   omega
  exact(k.un b (Nat.lt_of_lt_of_le hb h.size) hu1).trans (h.un b hb hu)
 none:=fun id hid hn=>by
  obtain⟨h1,g1⟩:=h.none id hid hn
  obtain⟨h2,g2⟩:=k.none id (Nat.lt_of_lt_of_le hid h.nx) h1
  exact⟨h2,g2.trans g1⟩
 keep:=fun id o ho hb=>by
  obtain⟨g1,n1⟩:=h.keep id o ho hb
  obtain⟨n2,g2⟩:=k.notBuf (Nat.lt_of_lt_of_le (AHeap.get_lt ho) h.nx) n1
  exact⟨g2.trans g1,n2⟩
 bufs:=fun id sz n ho sz2 n2 h2=>by
  obtain⟨n1,h1,l1,e1⟩:=k.buf_back (Nat.lt_of_lt_of_le (AHeap.get_lt ho) h.nx) h2
  obtain⟨rfl,l0,e0⟩:=h.bufs id sz n ho _ _ h1
  exact⟨rfl,Nat.le_trans l0 l1,fun e=>(e1 (by omega)).trans (e0 (by omega))⟩
 bufk:=fun id sz n ho o h2=>by
  cases h1:H1.get id with
  |none=>rw[(k.none id (Nat.lt_of_lt_of_le (AHeap.get_lt ho) h.nx) h1).1]at h2;cases h2
  |some o1 =>
   obtain⟨sz1,n1,rfl⟩:=h.bufk id sz n ho o1 h1
   exact k.bufk id _ _ h1 o h2
theorem Rel.ext{w w':World}{γ γ':cQ}{H H':AHeap}(h:Ext w γ H w' γ' H'):∀(x:AV)(v:Value),Rel w γ H x v→Rel w' γ' H' x v
 |.int k n,v,hr=>by rw[Rel]at hr ⊢;exact hr
 |.bool b,v,hr=>by rw[Rel]at hr ⊢;exact hr
 |.str s,v,hr=>by rw[Rel]at hr ⊢;exact hr
 |.nilp,v,hr=>by rw[Rel]at hr ⊢;exact hr
 |.nilm,v,hr=>by rw[Rel]at hr ⊢;exact hr
 |.nilf,v,hr=>by rw[Rel]at hr ⊢;exact hr
 |.nili,v,hr=>by rw[Rel]at hr ⊢;exact hr
 |.junk,v,hr=>by rw[Rel];trivial
 |.ptr id off,v,hr=>by
  rw[Rel]at hr ⊢
  obtain⟨hid,hb,blk,hg,hv⟩:=hr
  obtain⟨n',g'⟩:=h.notBuf hid hb
  exact⟨Nat.lt_of_lt_of_le hid h.nx,n',blk,g'.trans hg,hv⟩
 |.mapv id,v,hr=>by
  rw[Rel]at hr ⊢
  obtain⟨hid,hb,blk,hg,hv⟩:=hr
  obtain⟨n',g'⟩:=h.notBuf hid hb
  exact⟨Nat.lt_of_lt_of_le hid h.nx,n',blk,g'.trans hg,hv⟩
 |.ms id off sz len,v,hr=>by
  rw[Rel]at hr ⊢
  obtain⟨hid,hb,hr⟩:=hr
  obtain⟨n',g'⟩:=h.notBuf hid hb
  refine⟨Nat.lt_of_lt_of_le hid h.nx,n',?_⟩
  rcases hr with hr|⟨blk,cap,C,ty,fr,hg,hv,hle,hh,hs,ht⟩
  ·exact .inl hr
  ·obtain⟨C',h',s',e'⟩:=h.block blk C ty fr hh
   exact .inr ⟨blk,cap,C',ty,fr,g'.trans hg,hv,hle,h',by omega,ht⟩
 |.cptr cs,v,hr=>by
  rw[Rel]at hr ⊢
  obtain⟨blk,off,C,ty,fr,hv,hh,hi,hc⟩:=hr
  obtain⟨C',h',s',e'⟩:=h.block blk C ty fr hh
  refine⟨blk,off,C',ty,fr,hv,h',h.imm _ _ (du hh) hi,fun j hj=>?_⟩
  obtain⟨u,hu,hr⟩:=hc j hj
  exact⟨u,(e' _ hi _ (by omega)).trans hu,Rel.ext h _ _ hr⟩
 |.slice m sz xs,v,hr=>by
  rw[Rel]at hr ⊢
  rcases hr with⟨hv,hx,hm⟩|⟨blk,off,cap,C,ty,fr,hv,hle,hh,hs,hi,hm,hc⟩
  ·refine .inl ⟨hv,hx,?_⟩
   cases m with
   |own id =>
    refine⟨Nat.lt_of_lt_of_le hm.1 h.nx,fun sz' n hb=>?_⟩
    obtain⟨n0,h0,_⟩:=h.buf_back hm.1 hb
    exact hm.2 _ _ h0
   |_=>trivial
  ·obtain⟨C',h',s',e'⟩:=h.block blk C ty fr hh
   refine .inr ⟨blk,off,cap,C',ty,fr,hv,hle,h',by omega,h.imm _ _ (du hh) hi,?_,fun i hi'=>?_⟩
   ·cases m with
    |any=>trivial
    |nil=>exact hm
    |full=>exact hm
    |own id =>
     obtain⟨hid,hm⟩:=hm
     refine⟨Nat.lt_of_lt_of_le hid h.nx,fun sz' n hb=>?_⟩
     obtain⟨n0,h0,l0,e0⟩:=h.buf_back hid hb
     obtain⟨h1,h2,h3⟩:=hm _ _ h0
     refine⟨h1,Nat.le_trans h2 l0,fun e=>?_⟩
     obtain⟨h4,h5,h6⟩:=h3 (by omega)
     exact⟨(e0 (by omega)).trans h4,h5,by rw[s'];exact h6⟩
   ·obtain⟨h1,h2⟩:=hc i hi'
    refine⟨h1,fun j hj=>?_⟩
    obtain⟨u,hu,hr⟩:=h2 j hj
    refine⟨u,(e' _ hi _ ?_).trans hu,Rel.ext h _ _ hr⟩
    have:(i+1)*sz≤xs.length*sz:=Nat.mul_le_mul_right _ hi'
    rw[Nat.add_mul]at this
    omega
 |.func fn first cap,v,hr=>by
  rw[Rel]at hr ⊢
  obtain⟨F,C,hv,s1,s2,h1,h2⟩:=hr
  refine⟨F,C,hv,s1,s2,fun j hj=>?_,fun j hj=>?_⟩
  ·obtain⟨u,hu,hr⟩:=h1 j hj
   exact⟨u,hu,Rel.ext h _ _ hr⟩
  ·obtain⟨u,hu,hr⟩:=h2 j hj
   exact⟨u,hu,Rel.ext h _ _ hr⟩
 |.iface t x,v,hr=>by
  rw[Rel]at hr ⊢
  obtain⟨u,hv,hr⟩:=hr
  exact⟨u,hv,Rel.ext h _ _ hr⟩
 |.agg cs,v,hr=>by
  rw[Rel]at hr ⊢
  obtain⟨C,hv,s,hc⟩:=hr
  refine⟨C,hv,s,fun j hj=>?_⟩
  obtain⟨u,hu,hr⟩:=hc j hj
  exact⟨u,hu,Rel.ext h _ _ hr⟩
 |.tup cs,v,hr=>by
  rw[Rel]at hr ⊢
  obtain⟨C,hv,s,hc⟩:=hr
  refine⟨C,hv,s,fun j hj=>?_⟩
  obtain⟨u,hu,hr⟩:=hc j hj
  exact⟨u,hu,Rel.ext h _ _ hr⟩
termination_by x=>SizeOf.sizeOf x
decreasing_by
 all_goals simp_wf
 all_goals first
  |(have:=List.sizeOf_lt_of_mem (List.getElem_mem hj);omega)
  |(have h1:=AV.sizeOf_cells (List.getElem_mem hj);have h2:=List.sizeOf_lt_of_mem (List.getElem_mem hi');omega)
  |omega
theorem AtR.mono{R R':AV→Value→Prop}(h:∀ x v,R x v→R' x v){cs:Wz}{C:Array Value}{off:Nat}(ha:AtR R cs C off):AtR R' cs C off :=
 fun j hj=>let ⟨u,hu,hr⟩:=ha j hj;⟨u,hu,h _ _ hr⟩
def upd(γ:cQ)(i:Nat)(b:Option Nat):cQ:=fun j=>if j=i then b else γ j
def eM(γ:cQ)(i:Nat)(b:Option Nat):upd γ i b i=b:=by simp[upd]
def eR(γ:cQ)(i j:Nat)(b:Option Nat)(h:j≠i):upd γ i b j=γ j:=by simp[upd,h]
namespace AHeap
def get_push_new(H:AHeap)(o:AObj):(H.push o).get H.nx=some o:=by simp[get,push]
def get_push_lt(H:AHeap)(o:AObj){i:Nat}(h:i<H.nx):(H.push o).get i=H.get i:=by
 have h1:i<H.nx+1:=by omega
 have h2:i≠H.nx:=by omega
 simp[get,push,h,h1,h2]
def get_push_inv(H:AHeap)(o:AObj){i:Nat}{x:AObj}(h:(H.push o).get i=some x):(i=H.nx∧x=o)∨(i<H.nx∧H.get i=some x):=by
 have hl:=get_lt h
 simp only[push]at hl
 by_cases he:i=H.nx
 ·subst he;rw[get_push_new]at h;cases h;exact .inl ⟨rfl,rfl⟩
 ·have:i<H.nx:=by omega
  rw[get_push_lt _ _ this]at h;exact .inr ⟨this,h⟩
theorem nx_push(H:AHeap)(o:AObj):(H.push o).nx=H.nx+1:=rfl
theorem nx_set(H:AHeap)(i:Nat)(o:AObj):(H.set i o).nx=H.nx:=rfl
def get_set_same(H:AHeap)(o:AObj){i:Nat}(h:i<H.nx):(H.set i o).get i=some o:=by simp[get,set,h]
def get_set_ne(H:AHeap)(o:AObj){i j:Nat}(h:j≠i):(H.set i o).get j=H.get j:=by simp[get,set,h]
def get_set_inv(H:AHeap)(o:AObj){i j:Nat}{x:AObj}(h:(H.set i o).get j=some x):(j=i∧x=o∧i<H.nx)∨(j≠i∧H.get j=some x):=by
 by_cases he:j=i
 ·subst he
  have hl:=get_lt h
  rw[nx_set]at hl
  rw[get_set_same _ _ hl]at h;cases h;exact .inl ⟨rfl,rfl,hl⟩
 ·rw[get_set_ne _ _ he]at h;exact .inr ⟨he,h⟩
end AHeap
structure Alike(w w':World):Prop where
 heap:w'.heap=w.heap
 os:w'.os=w.os
 tape:w'.tape=w.tape
 output:w'.output=w.output
theorem Alike.refl(w:World):Alike w w:=⟨rfl,rfl,rfl,rfl⟩
theorem Alike.drew(w:World):Alike w w.drew:=⟨rfl,rfl,rfl,rfl⟩
theorem ObjOk.mono{w w':World}{γ γ':cQ}{H H':AHeap}(he:Ext w γ H w' γ' H'){id:Nat}{o:AObj}(h:ObjOk w γ H id o)(hg:γ' id=γ id)
 (hrow:∀(blk:Nat)(x:Obj),γ id=some blk→w.heap[blk]?=some x→w'.heap[blk]?=some x):ObjOk w' γ' H' id o:=by
 cases o with
 |cells cs =>
  rcases h with⟨h1,h2⟩|⟨blk,C,ty,fr,h1,h2,h3,h4,h5⟩
  ·exact .inl ⟨hg.trans h1,h2⟩
  exact .inr ⟨blk,C,ty,fr,hg.trans h1,hrow _ _ h1 h2,h3,h4.mono fun x v hr=>hr.ext he,h5⟩
 |buf sz n=>intro blk hb;exact Nat.lt_of_lt_of_le (h blk (hg▸hb)) he.size
 |part cs =>
  obtain⟨blk,C,ty,fr,h1,h2,h3,h4,h5,h6⟩:=h
  exact⟨blk,C,ty,fr,hg.trans h1,hrow _ _ h1 h2,h3,h4.mono fun x v hr=>hr.ext he,h5,h6⟩
 |mapo es =>
  obtain⟨blk,E,clock,h1,h2,h3⟩:=h
  exact⟨blk,E,clock,hg.trans h1,hrow _ _ h1 h2,h3⟩
theorem State.lt{w:World}{γ:cQ}{H:AHeap}(hs:State w γ H){id:Nat}{o:AObj}{b:Nat}(h:H.get id=some o)(hg:γ id=some b):b<w.heap.size:=by
 have:=hs.obj id o h
 cases o with
 |cells cs =>
  rcases this with⟨h1,_⟩|⟨blk,C,ty,fr,h1,h2,_⟩
  ·rw[h1]at hg;cases hg
  rw[h1]at hg;cases hg
  exact du h2
 |buf sz n=>exact this b hg
 |part cs =>
  obtain⟨blk,C,ty,fr,h1,h2,_⟩:=this
  rw[h1]at hg;cases hg
  exact du h2
 |mapo es =>
  obtain⟨blk,E,clock,h1,h2,_⟩:=this
  rw[h1]at hg;cases hg
  exact du h2
def qH(w:World)(g:Nat)(old cs:Array Value)(t:TypeId)(fr:Nat × Nat)(hg:w.heap[g]?=some (.cells old t fr)) :
 (w.setRow g cs).heap[g]?=some (.cells cs t fr):=setRow_heap w g old cs t fr hg
def tw(w:World)(g k:Nat)(cs:Array Value)(h:k≠g):(w.setRow g cs).heap[k]?=w.heap[k]?:=by
 simp only[World.setRow,Array.getElem?_modify]
 rw[if_neg (by omega)]
def uF(w:World)(g:Nat)(cs:Array Value):(w.setRow g cs).heap.size=w.heap.size:=by simp[World.setRow]
section
variable {w:World} {γ:cQ} {H:AHeap} (hs:State w γ H) {id blk:Nat} {C C':Array Value} {ty:TypeId} {fr:Nat × Nat}
 (hg:γ id=some blk) (hb:w.heap[blk]?=some (.cells C ty fr)) (hsz:C'.size=C.size)
include hs hg hb hsz
theorem zl{o o':AObj}(ho:H.get id=some o)
 (hk:(∃ cs cs',o=.cells cs∧o'=.cells cs')∨(∃ sz n n',o=.buf sz n∧o'=.buf sz n'∧n≤n'∧∀ i,i<n*sz→C'[i]?=C[i]?)) :
 Ext w γ H (w.setRow blk C') γ (H.set id o') where
 os:=rfl
 tape:=rfl
 output:=rfl
 size:=by rw[uF];exact Nat.le_refl _
 nx:=Nat.le_refl _
 block:=fun b D ty' fr' hD=>by
  by_cases h:b=blk
  ·subst h
   rw[hb]at hD;cases hD
   refine⟨C',qH w _ _ _ _ _ hb,hsz,fun e he i hi=>?_⟩
   rcases hk with⟨cs,cs',rfl,rfl⟩|⟨sz,n,n',rfl,rfl,hle,hag⟩
   ·obtain⟨sz,n,h1,_⟩:=he id _ ho hg;cases h1
   ·obtain⟨sz',n'',h1,h2⟩:=he id _ ho hg
    cases h1
    exact hag i (by omega)
  ·exact⟨D,by rw[tw _ _ _ _ h];exact hD,rfl,fun _ _ _ _=>rfl⟩
 imm:=fun b e hlt he id' x hx hgx=>by
  rcases AHeap.get_set_inv _ _ hx with⟨rfl,rfl,_⟩|⟨_,hx⟩
  ·obtain⟨sz0,n0,h1,h2⟩:=he _ _ ho hgx
   rcases hk with⟨cs,cs',rfl,rfl⟩|⟨sz,n,n',rfl,rfl,hle,hag⟩
   ·cases h1
   ·cases h1
    exact⟨_,_,rfl,Nat.le_trans h2 (Nat.mul_le_mul_right _ hle)⟩
  ·exact he _ _ hx hgx
 un:=fun b hlt hu=>tw _ _ _ _ fun h=>hu id o ho (h▸hg)
 none:=fun id' hid hn=>by
  have:id'≠id:=fun h=>by rw[h,ho]at hn;cases hn
  exact⟨by rw[AHeap.get_set_ne _ _ this];exact hn,rfl⟩
 keep:=fun id' x hx hnb=>by
  refine⟨rfl,fun sz n hx'=>?_⟩
  by_cases h:id'=id
  ·subst h
   rw[ho]at hx;cases hx
   rw[AHeap.get_set_same _ _ (AHeap.get_lt ho)]at hx'
   rcases hk with⟨cs,cs',rfl,rfl⟩|⟨sz,n,n',rfl,rfl,hle,hag⟩
   ·cases hx'
   ·exact hnb _ _ rfl
  ·rw[AHeap.get_set_ne _ _ h,hx]at hx';cases hx';exact hnb _ _ rfl
 bufs:=fun id' sz n hx sz' n' hx'=>by
  by_cases h:id'=id
  ·subst h
   rw[ho]at hx;cases hx
   rw[AHeap.get_set_same _ _ (AHeap.get_lt ho)]at hx'
   rcases hk with⟨cs,cs',h1,rfl⟩|⟨sz0,n0,n1,h1,rfl,hle,hag⟩
   ·cases h1
   ·cases h1;cases hx';exact⟨rfl,hle,fun _=>rfl⟩
  ·rw[AHeap.get_set_ne _ _ h,hx]at hx';cases hx';exact⟨rfl,Nat.le_refl _,fun _=>rfl⟩
 bufk:=fun id' sz n hx x hx'=>by
  by_cases h:id'=id
  ·subst h
   rw[ho]at hx;cases hx
   rw[AHeap.get_set_same _ _ (AHeap.get_lt ho)]at hx'
   rcases hk with⟨cs,cs',h1,rfl⟩|⟨sz0,n0,n1,h1,rfl,hle,hag⟩
   ·cases h1
   ·cases hx';exact⟨_,_,rfl⟩
  ·rw[AHeap.get_set_ne _ _ h,hx]at hx';cases hx';exact⟨_,_,rfl⟩
theorem tK{o o':AObj}(ho:H.get id=some o)(he:Ext w γ H (w.setRow blk C') γ (H.set id o'))
 (hk:(∃ cs',o'=.cells cs'∧cs'.length=C'.size∧AtR (Rel w γ H) cs' C' 0∧lA fr 0 cs'.length)∨(∃ sz n',o'=.buf sz n')) :
 State (w.setRow blk C') γ (H.set id o') where
 inj:=fun i j oi oj b hi hj=>by
  have back:∀ k ok,(H.set id o').get k=some ok→∃ ok',H.get k=some ok':=fun k ok hk=>by
   rcases AHeap.get_set_inv _ _ hk with⟨rfl,rfl,_⟩|⟨_,hk⟩
   ·exact⟨_,ho⟩
   ·exact⟨_,hk⟩
  obtain⟨oi',hi'⟩:=back i oi hi
  obtain⟨oj',hj'⟩:=back j oj hj
  exact hs.inj i j oi' oj' b hi' hj'
 obj:=fun k x hx=>by
  rcases AHeap.get_set_inv _ _ hx with⟨rfl,rfl,_⟩|⟨hne,hx⟩
  ·rcases hk with⟨cs',rfl,h1,h2,h3⟩|⟨sz,n',rfl⟩
   ·exact .inr ⟨blk,C',ty,fr,hg,qH w _ _ _ _ _ hb,h1,h2.mono fun x v hr=>hr.ext he,h3⟩
   ·intro b hb'
    rw[hg]at hb';cases hb'
    rw[uF];exact du hb
  ·refine(hs.obj k x hx).mono he rfl fun b D hgb hD=>?_
   have hbb:b≠blk:=fun h=>hne (hs.inj k id x o blk hx ho (by rw[hgb,h]) hg)
   rw[tw _ _ _ _ hbb]
   exact hD
end
def vY(w:World)(b:Nat)(o:Obj):World:={w with heap:=w.heap.setIfInBounds b o}
theorem FN{w:World}{b:Nat}{o o':Obj}(h:w.heap[b]?=some o):(vY w b o').heap[b]?=some o':=by
 have:=du h
 show(w.heap.setIfInBounds b o')[b]?=_
 rw[Array.getElem?_setIfInBounds_self_of_lt this]
theorem zk{w:World}{b k:Nat}{o':Obj}(h:k≠b):(vY w b o').heap[k]?=w.heap[k]?:=by
 show(w.heap.setIfInBounds b o')[k]?=_
 rw[Array.getElem?_setIfInBounds_ne (fun e=>h e.symm)]
section
variable {w:World} {γ:cQ} {H:AHeap} (hs:State w γ H) {id blk:Nat} {E:Array MapEntry} {clock:Nat}
 (hg:γ id=some blk) (hb:w.heap[blk]?=some (.map E clock))
include hs hg hb
theorem qX{es es':List (AV × AV)}(ho:H.get id=some (.mapo es))(o':Obj):Ext w γ H (vY w blk o') γ (H.set id (.mapo es')) where
 os:=rfl
 tape:=rfl
 output:=rfl
 size:=by show _≤(w.heap.setIfInBounds blk o').size;simp
 nx:=Nat.le_refl _
 block:=fun b D ty' fr' hD=>by
  have h:b≠blk:=fun e=>by rw[e,hb]at hD;cases hD
  exact⟨D,by rw[zk h];exact hD,rfl,fun _ _ _ _=>rfl⟩
 imm:=fun b e hlt he id' x hx hgx=>by
  rcases AHeap.get_set_inv _ _ hx with⟨rfl,rfl,_⟩|⟨_,hx⟩
  ·obtain⟨sz0,n0,h1,h2⟩:=he _ _ ho hgx;cases h1
  ·exact he _ _ hx hgx
 un:=fun b hlt hu=>zk fun h=>hu id _ ho (h▸hg)
 none:=fun id' hid hn=>by
  have:id'≠id:=fun h=>by rw[h,ho]at hn;cases hn
  exact⟨by rw[AHeap.get_set_ne _ _ this];exact hn,rfl⟩
 keep:=fun id' x hx hnb=>by
  refine⟨rfl,fun sz n hx'=>?_⟩
  by_cases h:id'=id
  ·subst h
   rw[AHeap.get_set_same _ _ (AHeap.get_lt ho)]at hx';cases hx'
  ·rw[AHeap.get_set_ne _ _ h,hx]at hx';cases hx';exact hnb _ _ rfl
 bufs:=fun id' sz n hx sz' n' hx'=>by
  by_cases h:id'=id
  ·subst h;rw[ho]at hx;cases hx
  ·rw[AHeap.get_set_ne _ _ h,hx]at hx';cases hx';exact⟨rfl,Nat.le_refl _,fun _=>rfl⟩
 bufk:=fun id' sz n hx x hx'=>by
  by_cases h:id'=id
  ·subst h;rw[ho]at hx;cases hx
  ·rw[AHeap.get_set_ne _ _ h,hx]at hx';cases hx';exact⟨_,_,rfl⟩
theorem oH{es es':List (AV × AV)}(ho:H.get id=some (.mapo es)){E':Array MapEntry}{clock':Nat}(hm:MapOk es' E' clock'):State (vY w blk (.map E' clock')) γ (H.set id (.mapo es')) where
 inj:=fun i j oi oj b hi hj=>by
  have back:∀ k ok,(H.set id (.mapo es')).get k=some ok→∃ ok',H.get k=some ok':=fun k ok hk=>by
   rcases AHeap.get_set_inv _ _ hk with⟨rfl,rfl,_⟩|⟨_,hk⟩
   ·exact⟨_,ho⟩
   ·exact⟨_,hk⟩
  obtain⟨oi',hi'⟩:=back i oi hi
  obtain⟨oj',hj'⟩:=back j oj hj
  exact hs.inj i j oi' oj' b hi' hj'
 obj:=fun k x hx=>by
  rcases AHeap.get_set_inv _ _ hx with⟨rfl,rfl,_⟩|⟨hne,hx⟩
  ·exact⟨blk,E',clock',hg,FN hb,hm⟩
  ·refine(hs.obj k x hx).mono (qX hs hg hb ho _) rfl fun b D hgb hD=>?_
   have hbb:b≠blk:=fun h=>hne (hs.inj k id x _ blk hx ho (by rw[hgb,h]) hg)
   rw[zk hbb]
   exact hD
end
theorem im(w:World)(o:Obj):(w.alloc o).heap[w.heap.size]?=some o:=by
 show(w.heap.push o)[_]?=_
 simp
theorem iu(w:World)(o:Obj){b:Nat}(h:b<w.heap.size):(w.alloc o).heap[b]?=w.heap[b]?:=by
 show(w.heap.push o)[b]?=_
 rw[Array.getElem?_push,if_neg (by omega)]
section
variable {w:World} {γ:cQ} {H:AHeap} (hs:State w γ H)
include hs
theorem jC{w':World}(hos:w'.os=w.os)(htape:w'.tape=w.tape)(hout:w'.output=w.output)(hsz:w.heap.size≤w'.heap.size)
 (hold:∀ b,b<w.heap.size→w'.heap[b]?=w.heap[b]?) (g:Option Nat) (hgn:∀ b,g=some b→w.heap.size≤b) (o:AObj) :
 Ext w γ H w' (upd γ H.nx g) (H.push o) where
 os:=hos
 tape:=htape
 output:=hout
 size:=hsz
 nx:=by rw[AHeap.nx_push];omega
 block:=fun b C ty fr h=>⟨C,by rw[hold b (du h)];exact h,rfl,fun _ _ _ _=>rfl⟩
 imm:=fun b e hb he id x hx hg=>by
  rcases AHeap.get_push_inv _ _ hx with⟨rfl,rfl⟩|⟨hlt,hx⟩
  ·rw[eM]at hg;have:=hgn b hg;omega
  ·rw[eR _ _ _ _ (by omega)]at hg;exact he _ _ hx hg
 un:=fun b hb _=>hold b hb
 none:=fun id hid hn=>⟨by rw[AHeap.get_push_lt _ _ hid];exact hn,eR _ _ _ _ (by omega)⟩
 keep:=fun id x hx hnb=>⟨eR _ _ _ _ (by have:=AHeap.get_lt hx;omega),fun sz n hx'=>by
  rw[AHeap.get_push_lt _ _ (AHeap.get_lt hx),hx]at hx';cases hx';exact hnb _ _ rfl⟩
 bufs:=fun id sz n hx sz' n' hx'=>by
  rw[AHeap.get_push_lt _ _ (AHeap.get_lt hx),hx]at hx';cases hx'
  exact⟨rfl,Nat.le_refl _,fun _=>eR _ _ _ _ (by have:=AHeap.get_lt hx;omega)⟩
 bufk:=fun id sz n hx x hx'=>by
  rw[AHeap.get_push_lt _ _ (AHeap.get_lt hx),hx]at hx';cases hx';exact⟨_,_,rfl⟩
theorem io{w':World}{g:Option Nat}(hgn:∀ b,g=some b→w.heap.size≤b∧b<w'.heap.size){o:AObj}
 (he:Ext w γ H w' (upd γ H.nx g) (H.push o)) (hold:∀ b,b<w.heap.size→w'.heap[b]?=w.heap[b]?)
 (hk:(∃ (cs:Wz) (C:Array Value) (ty:TypeId) (fr:Nat × Nat) (b:Nat),o=.cells cs∧g=some b∧w'.heap[b]?=some (.cells C ty fr)∧cs.length=C.size∧AtR (Rel w γ H) cs C 0∧lA fr 0 cs.length)∨(∃ sz n,o=.buf sz n)∨(∃ (cs:Wz) (C:Array Value) (ty:TypeId) (fr:Nat × Nat) (b:Nat),o=.part cs∧g=some b∧w'.heap[b]?=some (.cells C ty fr)∧cs.length≤C.size∧AtR (Rel w γ H) cs C 0∧lA fr 0 C.size∧∀ x∈cs,x.lt 0)∨(∃ es E clock b,o=.mapo es∧g=some b∧w'.heap[b]?=some (.map E clock)∧MapOk es E clock)) :
 State w' (upd γ H.nx g) (H.push o) where
 inj:=fun i j oi oj b hi hj gi gj=>by
  rcases AHeap.get_push_inv _ _ hi with⟨rfl,_⟩|⟨hli,hi⟩<;>rcases AHeap.get_push_inv _ _ hj with⟨rfl,_⟩|⟨hlj,hj⟩
  ·rfl
  ·rw[eM]at gi
   rw[eR _ _ _ _ (by omega)]at gj
   have:=hs.lt hj gj;have:=(hgn b gi).1;omega
  ·rw[eM]at gj
   rw[eR _ _ _ _ (by omega)]at gi
   have:=hs.lt hi gi;have:=(hgn b gj).1;omega
  ·rw[eR _ _ _ _ (by omega)]at gi gj
   exact hs.inj i j oi oj b hi hj gi gj
 obj:=fun k x hx=>by
  rcases AHeap.get_push_inv _ _ hx with⟨rfl,rfl⟩|⟨hlt,hx⟩
  ·rcases hk with⟨cs,C,ty,fr,b,rfl,rfl,h1,h2,h3,h4⟩|⟨sz,n,rfl⟩|⟨cs,C,ty,fr,b,rfl,rfl,h1,h2,h3,h4,h5⟩|⟨es,E,clock,b,rfl,rfl,h1,h2⟩
   ·exact .inr ⟨b,C,ty,fr,eM _ _ _,h1,h2,h3.mono fun x v hr=>hr.ext he,h4⟩
   ·intro b hb;rw[eM]at hb;exact(hgn b hb).2
   ·exact⟨b,C,ty,fr,eM _ _ _,h1,h2,h3.mono fun x v hr=>hr.ext he,h4,h5⟩
   ·exact⟨b,E,clock,eM _ _ _,h1,h2⟩
  ·refine(hs.obj k x hx).mono he (eR _ _ _ _ (by omega)) fun b D hgb hD=>?_
   rw[hold b (du hD)];exact hD
theorem LY{w':World}(hos:w'.os=w.os)(htape:w'.tape=w.tape)(hout:w'.output=w.output)(hsz:w.heap.size≤w'.heap.size)
 (hold:∀ b,b<w.heap.size→w'.heap[b]?=w.heap[b]?) {id sz n n' b':Nat} (ho:H.get id=some (.buf sz n)) (hb':w.heap.size≤b') (hn:n<n') :
 Ext w γ H w' (upd γ id (some b')) (H.set id (.buf sz n')) where
 os:=hos
 tape:=htape
 output:=hout
 size:=hsz
 nx:=Nat.le_refl _
 block:=fun b C ty fr h=>⟨C,by rw[hold b (du h)];exact h,rfl,fun _ _ _ _=>rfl⟩
 imm:=fun b e hb he k x hx hg=>by
  by_cases hk:k=id
  ·subst hk;rw[eM]at hg;cases hg;omega
  ·rw[eR _ _ _ _ hk]at hg
   rw[AHeap.get_set_ne _ _ hk]at hx
   exact he _ _ hx hg
 un:=fun b hb _=>hold b hb
 none:=fun k hk hn=>by
  have:k≠id:=fun h=>by rw[h,ho]at hn;cases hn
  exact⟨by rw[AHeap.get_set_ne _ _ this];exact hn,eR _ _ _ _ this⟩
 keep:=fun k x hx hnb=>by
  have:k≠id:=fun h=>by rw[h,ho]at hx;cases hx;exact hnb _ _ rfl
  exact⟨eR _ _ _ _ this,fun sz n hx'=>by rw[AHeap.get_set_ne _ _ this,hx]at hx';cases hx';exact hnb _ _ rfl⟩
 bufs:=fun k sz0 n0 hx sz1 n1 hx'=>by
  by_cases hk:k=id
  ·subst hk
   rw[ho]at hx;cases hx
   rw[AHeap.get_set_same _ _ (AHeap.get_lt ho)]at hx';cases hx'
   exact⟨rfl,by omega,fun h=>by omega⟩
  ·rw[AHeap.get_set_ne _ _ hk,hx]at hx';cases hx'
   exact⟨rfl,Nat.le_refl _,fun _=>eR _ _ _ _ hk⟩
 bufk:=fun k sz0 n0 hx x hx'=>by
  by_cases hk:k=id
  ·subst hk
   rw[AHeap.get_set_same _ _ (AHeap.get_lt ho)]at hx';cases hx';exact⟨_,_,rfl⟩
  ·rw[AHeap.get_set_ne _ _ hk,hx]at hx';cases hx';exact⟨_,_,rfl⟩
theorem Cq{w':World}(hold:∀ b,b<w.heap.size→w'.heap[b]?=w.heap[b]?){id sz n n' b':Nat}(ho:H.get id=some (.buf sz n))
 (hb':w.heap.size≤b') (hb2:b'<w'.heap.size) (he:Ext w γ H w' (upd γ id (some b')) (H.set id (.buf sz n'))) :
 State w' (upd γ id (some b')) (H.set id (.buf sz n')) where
 inj:=fun i j oi oj b hi hj gi gj=>by
  rcases AHeap.get_set_inv _ _ hi with⟨hie,_,_⟩|⟨hli,hi'⟩<;>rcases AHeap.get_set_inv _ _ hj with⟨hje,_,_⟩|⟨hlj,hj'⟩
  ·rw[hie,hje]
  ·rw[hie,eM]at gi;cases gi
   rw[eR _ _ _ _ hlj]at gj
   have:=hs.lt hj' gj;omega
  ·rw[hje,eM]at gj;cases gj
   rw[eR _ _ _ _ hli]at gi
   have:=hs.lt hi' gi;omega
  ·rw[eR _ _ _ _ hli]at gi
   rw[eR _ _ _ _ hlj]at gj
   exact hs.inj i j oi oj b hi' hj' gi gj
 obj:=fun k x hx=>by
  rcases AHeap.get_set_inv _ _ hx with⟨rfl,rfl,_⟩|⟨hne,hx⟩
  ·intro b hb;rw[eM]at hb;cases hb;exact hb2
  ·refine(hs.obj k x hx).mono he (eR _ _ _ _ hne) fun b D hgb hD=>?_
   rw[hold b (du hD)];exact hD
end
theorem AV.lt_mono{m m':Nat}(h:m≤m'):∀(v:AV),v.lt m→v.lt m'
 |.int k n,hl=>by rw[AV.lt]<;>simp
 |.bool b,hl=>by rw[AV.lt]<;>simp
 |.str s,hl=>by rw[AV.lt]<;>simp
 |.nilp,hl=>by rw[AV.lt]<;>simp
 |.nilm,hl=>by rw[AV.lt]<;>simp
 |.nilf,hl=>by rw[AV.lt]<;>simp
 |.nili,hl=>by rw[AV.lt]<;>simp
 |.junk,hl=>by rw[AV.lt]<;>simp
 |.ptr id off,hl=>by rw[AV.lt]at hl ⊢;omega
 |.mapv id,hl=>by rw[AV.lt]at hl ⊢;omega
 |.ms id off sz len,hl=>by rw[AV.lt]at hl ⊢;omega
 |.iface t v,hl=>by rw[AV.lt]at hl ⊢;exact AV.lt_mono h v hl
 |.cptr cs,hl=>by rw[AV.lt]at hl ⊢;exact fun j hj=>AV.lt_mono h _ (hl j hj)
 |.agg cs,hl=>by rw[AV.lt]at hl ⊢;exact fun j hj=>AV.lt_mono h _ (hl j hj)
 |.tup cs,hl=>by rw[AV.lt]at hl ⊢;exact fun j hj=>AV.lt_mono h _ (hl j hj)
 |.slice mk sz xs,hl=>by
  rw[AV.lt]at hl ⊢
  exact⟨fun id e=>Nat.lt_of_lt_of_le (hl.1 id e) h,fun j hj=>AV.lt_mono h _ (hl.2 j hj)⟩
 |.func fn a b,hl=>by
  rw[AV.lt]at hl ⊢
  exact⟨fun j hj=>AV.lt_mono h _ (hl.1 j hj),fun j hj=>AV.lt_mono h _ (hl.2 j hj)⟩
termination_by v=>SizeOf.sizeOf v
decreasing_by
 all_goals simp_wf
 all_goals first
  |(have:=List.sizeOf_lt_of_mem (List.getElem_mem hj);omega)
  |omega
theorem AV.lt_cells{n:Nat}{x:AV}(h:x.lt n)(j:Nat)(hj:j<x.cells.length):(x.cells[j]).lt n:=by
 cases x
 case agg cs=>rw[AV.lt]at h;exact h j hj
 all_goals(simp only[AV.cells,List.length_singleton]at hj;obtain rfl:j=0:=(by omega);exact h)
theorem AV.lt_of_cells{n:Nat}{x:AV}(h:∀(j:Nat)(hj:j<x.cells.length),(x.cells[j]).lt n):x.lt n:=by
 cases x
 case agg cs=>rw[AV.lt];exact h
 all_goals exact h 0 (by simp[AV.cells])
structure AHeap.Le(H H':AHeap):Prop where
 nx:H.nx≤H'.nx
 get:∀ i o,H.get i=some o→H'.get i=some o
theorem AHeap.Le.refl(H:AHeap):H.Le H:=⟨Nat.le_refl _,fun _ _ h=>h⟩
theorem AHeap.Le.push{H H':AHeap}(h:H.Le H')(o:AObj):H.Le (H'.push o) :=
 ⟨Nat.le_trans h.nx (by rw[AHeap.nx_push];omega),fun i x hx=>by
  have:=h.get i x hx
  rw[AHeap.get_push_lt _ _ (AHeap.get_lt this)];exact this⟩
theorem AHeap.Le.trans{H H1 H2:AHeap}(h:H.Le H1)(k:H1.Le H2):H.Le H2:=⟨Nat.le_trans h.nx k.nx,fun i x hx=>k.get i x (h.get i x hx)⟩
theorem Imm.drop{γ:cQ}{H H':AHeap}(h:H.Le H'){b e:Nat}(hi:Imm γ H' b e):Imm γ H b e:=fun id o ho hg=>hi id o (h.get id o ho) hg
theorem notBuf.drop{H H':AHeap}(h:H.Le H'){id:Nat}(hb:notBuf H' id):notBuf H id:=fun sz n hx=>hb sz n (h.get _ _ hx)
theorem Rel.drop{w:World}{γ:cQ}{H H':AHeap}(h:H.Le H'):∀(x:AV)(v:Value),x.lt H.nx→Rel w γ H' x v→Rel w γ H x v
 |.int k n,v,hl,hr=>by rw[Rel]at hr ⊢;exact hr
 |.bool b,v,hl,hr=>by rw[Rel]at hr ⊢;exact hr
 |.str s,v,hl,hr=>by rw[Rel]at hr ⊢;exact hr
 |.nilp,v,hl,hr=>by rw[Rel]at hr ⊢;exact hr
 |.nilm,v,hl,hr=>by rw[Rel]at hr ⊢;exact hr
 |.nilf,v,hl,hr=>by rw[Rel]at hr ⊢;exact hr
 |.nili,v,hl,hr=>by rw[Rel]at hr ⊢;exact hr
 |.junk,v,hl,hr=>by rw[Rel];trivial
 |.ptr id off,v,hl,hr=>by
  rw[Rel]at hr ⊢;rw[AV.lt]at hl
  exact⟨hl,hr.2.1.drop h,hr.2.2⟩
 |.mapv id,v,hl,hr=>by
  rw[Rel]at hr ⊢;rw[AV.lt]at hl
  exact⟨hl,hr.2.1.drop h,hr.2.2⟩
 |.ms id off sz len,v,hl,hr=>by
  rw[Rel]at hr ⊢;rw[AV.lt]at hl
  exact⟨hl,hr.2.1.drop h,hr.2.2⟩
 |.cptr cs,v,hl,hr=>by
  rw[Rel]at hr ⊢;rw[AV.lt]at hl
  obtain⟨blk,off,C,ty,fr,hv,hh,hi,hc⟩:=hr
  refine⟨blk,off,C,ty,fr,hv,hh,hi.drop h,fun j hj=>?_⟩
  obtain⟨u,hu,hr⟩:=hc j hj
  exact⟨u,hu,Rel.drop h _ _ (hl j hj) hr⟩
 |.slice m sz xs,v,hl,hr=>by
  rw[Rel]at hr ⊢;rw[AV.lt]at hl
  obtain⟨hl1,hl2⟩:=hl
  rcases hr with⟨hv,hx,hm⟩|⟨blk,off,cap,C,ty,fr,hv,hle,hh,hs,hi,hm,hc⟩
  ·refine .inl ⟨hv,hx,?_⟩
   cases m with
   |own id=>exact⟨hl1 id rfl,fun sz' n hb=>hm.2 sz' n (h.get _ _ hb)⟩
   |_=>trivial
  ·refine .inr ⟨blk,off,cap,C,ty,fr,hv,hle,hh,hs,hi.drop h,?_,fun i hi'=>?_⟩
   ·cases m with
    |any=>trivial
    |nil=>exact hm
    |full=>exact hm
    |own id=>exact⟨hl1 id rfl,fun sz' n hb=>hm.2 sz' n (h.get _ _ hb)⟩
   ·obtain⟨h1,h2⟩:=hc i hi'
    refine⟨h1,fun j hj=>?_⟩
    obtain⟨u,hu,hr⟩:=h2 j hj
    exact⟨u,hu,Rel.drop h _ _ (AV.lt_cells (hl2 i hi') j hj) hr⟩
 |.func fn first cap,v,hl,hr=>by
  rw[Rel]at hr ⊢;rw[AV.lt]at hl
  obtain⟨F,C,hv,s1,s2,h1,h2⟩:=hr
  refine⟨F,C,hv,s1,s2,fun j hj=>?_,fun j hj=>?_⟩
  ·obtain⟨u,hu,hr⟩:=h1 j hj
   exact⟨u,hu,Rel.drop h _ _ (hl.1 j hj) hr⟩
  ·obtain⟨u,hu,hr⟩:=h2 j hj
   exact⟨u,hu,Rel.drop h _ _ (hl.2 j hj) hr⟩
 |.iface t x,v,hl,hr=>by
  rw[Rel]at hr ⊢;rw[AV.lt]at hl
  obtain⟨u,hv,hr⟩:=hr
  exact⟨u,hv,Rel.drop h _ _ hl hr⟩
 |.agg cs,v,hl,hr=>by
  rw[Rel]at hr ⊢;rw[AV.lt]at hl
  obtain⟨C,hv,s,hc⟩:=hr
  refine⟨C,hv,s,fun j hj=>?_⟩
  obtain⟨u,hu,hr⟩:=hc j hj
  exact⟨u,hu,Rel.drop h _ _ (hl j hj) hr⟩
 |.tup cs,v,hl,hr=>by
  rw[Rel]at hr ⊢;rw[AV.lt]at hl
  obtain⟨C,hv,s,hc⟩:=hr
  refine⟨C,hv,s,fun j hj=>?_⟩
  obtain⟨u,hu,hr⟩:=hc j hj
  exact⟨u,hu,Rel.drop h _ _ (hl j hj) hr⟩
termination_by x=>SizeOf.sizeOf x
decreasing_by
 all_goals simp_wf
 all_goals first
  |(have:=List.sizeOf_lt_of_mem (List.getElem_mem hj);omega)
  |(have h1:=AV.sizeOf_cells (List.getElem_mem hj);have h2:=List.sizeOf_lt_of_mem (List.getElem_mem hi');omega)
  |omega
def AHeap.Closed(H:AHeap):Prop:=∀ i cs,H.get i=some (.cells cs)→∀(j:Nat)(hj:j<cs.length),(cs[j]).lt H.nx
abbrev By1:=AV→AHeap→Prop
theorem Rel.lt{w:World}{γ:cQ}{H:AHeap}:∀(x:AV)(v:Value),Rel w γ H x v→x.lt H.nx
 |.int k n,v,hr=>by rw[AV.lt]<;>simp
 |.bool b,v,hr=>by rw[AV.lt]<;>simp
 |.str s,v,hr=>by rw[AV.lt]<;>simp
 |.nilp,v,hr=>by rw[AV.lt]<;>simp
 |.nilm,v,hr=>by rw[AV.lt]<;>simp
 |.nilf,v,hr=>by rw[AV.lt]<;>simp
 |.nili,v,hr=>by rw[AV.lt]<;>simp
 |.junk,v,hr=>by rw[AV.lt]<;>simp
 |.ptr id off,v,hr=>by rw[Rel]at hr;rw[AV.lt];exact hr.1
 |.mapv id,v,hr=>by rw[Rel]at hr;rw[AV.lt];exact hr.1
 |.ms id off sz len,v,hr=>by rw[Rel]at hr;rw[AV.lt];exact hr.1
 |.cptr cs,v,hr=>by
  rw[Rel]at hr;rw[AV.lt]
  obtain⟨blk,off,C,ty,fr,hv,hh,hi,hc⟩:=hr
  intro j hj
  obtain⟨u,hu,hr⟩:=hc j hj
  exact Rel.lt _ _ hr
 |.slice m sz xs,v,hr=>by
  rw[Rel]at hr;rw[AV.lt]
  rcases hr with⟨hv,hx,hm⟩|⟨blk,off,cap,C,ty,fr,hv,hle,hh,hs,hi,hm,hc⟩
  ·subst hx
   refine⟨fun id e=>?_,fun j hj=>(Nat.not_lt_zero _ hj).elim⟩
   subst e;exact hm.1
  ·refine⟨fun id e=>?_,fun j hj=>?_⟩
   ·subst e;exact hm.1
   ·obtain⟨h1,h2⟩:=hc j hj
    refine AV.lt_of_cells fun i hi'=>?_
    obtain⟨u,hu,hr⟩:=h2 i hi'
    exact Rel.lt _ _ hr
 |.func fn first cap,v,hr=>by
  rw[Rel]at hr;rw[AV.lt]
  obtain⟨F,C,hv,s1,s2,h1,h2⟩:=hr
  refine⟨fun j hj=>?_,fun j hj=>?_⟩
  ·obtain⟨u,hu,hr⟩:=h1 j hj
   exact Rel.lt _ _ hr
  ·obtain⟨u,hu,hr⟩:=h2 j hj
   exact Rel.lt _ _ hr
 |.iface t x,v,hr=>by
  rw[Rel]at hr;rw[AV.lt]
  obtain⟨u,hv,hr⟩:=hr
  exact Rel.lt _ _ hr
 |.agg cs,v,hr=>by
  rw[Rel]at hr;rw[AV.lt]
  obtain⟨C,hv,s,hc⟩:=hr
  intro j hj
  obtain⟨u,hu,hr⟩:=hc j hj
  exact Rel.lt _ _ hr
 |.tup cs,v,hr=>by
  rw[Rel]at hr;rw[AV.lt]
  obtain⟨C,hv,s,hc⟩:=hr
  intro j hj
  obtain⟨u,hu,hr⟩:=hc j hj
  exact Rel.lt _ _ hr
termination_by x=>SizeOf.sizeOf x
decreasing_by
 all_goals simp_wf
 all_goals first
  |(have:=List.sizeOf_lt_of_mem (List.getElem_mem hj);omega)
  |(have h1:=AV.sizeOf_cells (List.getElem_mem hi');have h2:=List.sizeOf_lt_of_mem (List.getElem_mem hj);omega)
  |omega
theorem State.drop{w:World}{γ:cQ}{H H':AHeap}(h:H.Le H')(hc:H.Closed)(hs:State w γ H'):State w γ H where
 inj:=fun i j oi oj b hi hj=>hs.inj i j oi oj b (h.get _ _ hi) (h.get _ _ hj)
 obj:=fun id o ho=>by
  have:=hs.obj id o (h.get _ _ ho)
  cases o with
  |cells cs =>
   rcases this with this|⟨blk,C,ty,fr,h1,h2,h3,h4,h5⟩
   ·exact .inl this
   exact .inr ⟨blk,C,ty,fr,h1,h2,h3,fun j hj=>let ⟨u,hu,hr⟩:=h4 j hj;⟨u,hu,Rel.drop h _ _ (hc id cs ho j hj) hr⟩,h5⟩
  |buf sz n=>exact this
  |part cs =>
   obtain⟨blk,C,ty,fr,h1,h2,h3,h4,h5,h6⟩:=this
   exact⟨blk,C,ty,fr,h1,h2,h3,fun j hj=>let ⟨u,hu,hr⟩:=h4 j hj;⟨u,hu,Rel.drop h _ _ (AV.lt_mono (Nat.zero_le _) _ (h6 _ (List.getElem_mem hj))) hr⟩,h5,h6⟩
  |mapo es=>exact this
theorem State.closed{w:World}{γ:cQ}{H:AHeap}(hs:State w γ H):H.Closed:=fun i cs hi j hj=>by
 rcases hs.obj i _ hi with⟨_,h0⟩|⟨blk,C,ty,fr,h1,h2,h3,h4,h5⟩
 ·obtain⟨v,hv⟩:=h0 _ (List.getElem_mem hj)
  exact Rel.lt _ _ (hv w γ H)
 obtain⟨u,hu,hr⟩:=h4 j hj
 exact Rel.lt _ _ hr
section
variable {w:World} {γ:cQ} {H:AHeap}
def Bt(hs:State w γ H)(o:AObj):Ext w γ H w (upd γ H.nx none) (H.push o) :=
 jC hs rfl rfl rfl (Nat.le_refl _) (fun _ _=>rfl) none (fun _ h=>nomatch h) o
def Cj(hs:State w γ H){cs:Wz}(hz:S4 cs):State w (upd γ H.nx none) (H.push (.cells cs)) where
 inj:=fun i j oi oj b hi hj gi gj=>by
  rcases AHeap.get_push_inv _ _ hi with⟨rfl,_⟩|⟨hli,hi⟩<;>rcases AHeap.get_push_inv _ _ hj with⟨rfl,_⟩|⟨hlj,hj⟩
  ·rfl
  ·rw[eM]at gi;cases gi
  ·rw[eM]at gj;cases gj
  ·rw[eR _ _ _ _ (by omega)]at gi gj
   exact hs.inj i j oi oj b hi hj gi gj
 obj:=fun k x hx=>by
  rcases AHeap.get_push_inv _ _ hx with⟨rfl,rfl⟩|⟨hlt,hx⟩
  ·exact .inl ⟨eM _ _ _,hz⟩
  ·exact(hs.obj k x hx).mono (Bt hs _) (eR _ _ _ _ (by omega)) fun _ _ _ h=>h
structure Comes(w:World)(γ:cQ)(H:AHeap)(r b:Nat)(w':World):Prop where
 none:γ r=none
 live:∃ cs,H.get r=some (.cells cs)
 os:w'.os=w.os
 tape:w'.tape=w.tape
 output:w'.output=w.output
 size:w.heap.size≤w'.heap.size
 new:w.heap.size≤b
 hold:∀ b,b<w.heap.size→w'.heap[b]?=w.heap[b]?
theorem Comes.imm{w':World}{r b:Nat}(h:Comes w γ H r b w'){k e:Nat}(hk:k<w.heap.size)(hi:Imm γ H k e):Imm (upd γ r (some b)) H k e:=fun id o ho hg=>by
 by_cases hid:id=r
 ·subst hid;rw[eM]at hg;cases hg;have:=h.new;omega
 ·rw[eR _ _ _ _ hid]at hg;exact hi id o ho hg
theorem Comes.keep{w':World}{r b:Nat}(h:Comes w γ H r b w'){id blk:Nat}(hg:γ id=some blk):upd γ r (some b) id=some blk:=by
 have:id≠r:=fun e=>by rw[e,h.none]at hg;cases hg
 rw[eR _ _ _ _ this];exact hg
theorem Comes.buf{w':World}{r b:Nat}(h:Comes w γ H r b w'){id sz n:Nat}(hg:H.get id=some (.buf sz n)):upd γ r (some b) id=γ id:=by
 have:id≠r:=fun e=>by obtain⟨cs,hc⟩:=h.live;rw[e,hc]at hg;cases hg
 rw[eR _ _ _ _ this]
theorem Comes.rel{w':World}{r b:Nat}(h:Comes w γ H r b w'):∀(x:AV)(v:Value),Rel w γ H x v→Rel w' (upd γ r (some b)) H x v
 |.int k n,v,hr=>by rw[Rel]at hr ⊢;exact hr
 |.bool b,v,hr=>by rw[Rel]at hr ⊢;exact hr
 |.str s,v,hr=>by rw[Rel]at hr ⊢;exact hr
 |.nilp,v,hr=>by rw[Rel]at hr ⊢;exact hr
 |.nilm,v,hr=>by rw[Rel]at hr ⊢;exact hr
 |.nilf,v,hr=>by rw[Rel]at hr ⊢;exact hr
 |.nili,v,hr=>by rw[Rel]at hr ⊢;exact hr
 |.junk,v,hr=>by rw[Rel];trivial
 |.ptr id off,v,hr=>by
  rw[Rel]at hr ⊢
  obtain⟨hid,hb,blk,hg,hv⟩:=hr
  exact⟨hid,hb,blk,h.keep hg,hv⟩
 |.mapv id,v,hr=>by
  rw[Rel]at hr ⊢
  obtain⟨hid,hb,blk,hg,hv⟩:=hr
  exact⟨hid,hb,blk,h.keep hg,hv⟩
 |.ms id off sz len,v,hr=>by
  rw[Rel]at hr ⊢
  obtain⟨hid,hb,hr⟩:=hr
  refine⟨hid,hb,?_⟩
  rcases hr with hr|⟨blk,cap,C,ty,fr,hg,hv,hle,hh,hs,ht⟩
  ·exact .inl hr
  ·exact .inr ⟨blk,cap,C,ty,fr,h.keep hg,hv,hle,by rw[h.hold _ (du hh)];exact hh,hs,ht⟩
 |.cptr cs,v,hr=>by
  rw[Rel]at hr ⊢
  obtain⟨blk,off,C,ty,fr,hv,hh,hi,hc⟩:=hr
  refine⟨blk,off,C,ty,fr,hv,by rw[h.hold _ (du hh)];exact hh,h.imm (du hh) hi,fun j hj=>?_⟩
  obtain⟨u,hu,hr⟩:=hc j hj
  exact⟨u,hu,Comes.rel h _ _ hr⟩
 |.slice m sz xs,v,hr=>by
  rw[Rel]at hr ⊢
  rcases hr with hr|⟨blk,off,cap,C,ty,fr,hv,hle,hh,hs,hi,hm,hc⟩
  ·exact .inl hr
  ·refine .inr ⟨blk,off,cap,C,ty,fr,hv,hle,by rw[h.hold _ (du hh)];exact hh,hs,h.imm (du hh) hi,?_,fun i hi'=>?_⟩
   ·cases m with
    |any=>trivial
    |nil=>exact hm
    |full=>exact hm
    |own id =>
     obtain⟨hid,hm⟩:=hm
     refine⟨hid,fun sz' n hb=>?_⟩
     obtain⟨h1,h2,h3⟩:=hm _ _ hb
     exact⟨h1,h2,fun e=>let ⟨h4,h5,h6⟩:=h3 e;⟨by rw[h.buf hb];exact h4,h5,h6⟩⟩
   ·obtain⟨h1,h2⟩:=hc i hi'
    refine⟨h1,fun j hj=>?_⟩
    obtain⟨u,hu,hr⟩:=h2 j hj
    exact⟨u,hu,Comes.rel h _ _ hr⟩
 |.func fn first cap,v,hr=>by
  rw[Rel]at hr ⊢
  obtain⟨F,C,hv,s1,s2,h1,h2⟩:=hr
  refine⟨F,C,hv,s1,s2,fun j hj=>?_,fun j hj=>?_⟩
  ·obtain⟨u,hu,hr⟩:=h1 j hj
   exact⟨u,hu,Comes.rel h _ _ hr⟩
  ·obtain⟨u,hu,hr⟩:=h2 j hj
   exact⟨u,hu,Comes.rel h _ _ hr⟩
 |.iface t x,v,hr=>by
  rw[Rel]at hr ⊢
  obtain⟨u,hv,hr⟩:=hr
  exact⟨u,hv,Comes.rel h _ _ hr⟩
 |.agg cs,v,hr=>by
  rw[Rel]at hr ⊢
  obtain⟨C,hv,s,hc⟩:=hr
  refine⟨C,hv,s,fun j hj=>?_⟩
  obtain⟨u,hu,hr⟩:=hc j hj
  exact⟨u,hu,Comes.rel h _ _ hr⟩
 |.tup cs,v,hr=>by
  rw[Rel]at hr ⊢
  obtain⟨C,hv,s,hc⟩:=hr
  refine⟨C,hv,s,fun j hj=>?_⟩
  obtain⟨u,hu,hr⟩:=hc j hj
  exact⟨u,hu,Comes.rel h _ _ hr⟩
termination_by x=>SizeOf.sizeOf x
decreasing_by
 all_goals simp_wf
 all_goals first
  |(have:=List.sizeOf_lt_of_mem (List.getElem_mem hj);omega)
  |(have h1:=AV.sizeOf_cells (List.getElem_mem hj);have h2:=List.sizeOf_lt_of_mem (List.getElem_mem hi');omega)
  |omega
theorem Comes.state(hs:State w γ H){w':World}{r b:Nat}(h:Comes w γ H r b w'){cs:Wz}{C:Array Value}{ty:TypeId}{fr:Nat × Nat}(hr:H.get r=some (.cells cs))
 (hb:w'.heap[b]?=some (.cells C ty fr)) (hl:cs.length=C.size) (hc:AtR (Rel w γ H) cs C 0) (ht:lA fr 0 cs.length):State w' (upd γ r (some b)) H where
 inj:=fun i j oi oj k hi hj gi gj=>by
  by_cases h1:i=r<;>by_cases h2:j=r
  ·rw[h1,h2]
  ·rw[h1,eM]at gi;cases gi
   rw[eR _ _ _ _ h2]at gj
   have:=hs.lt hj gj;have:=h.new;omega
  ·rw[h2,eM]at gj;cases gj
   rw[eR _ _ _ _ h1]at gi
   have:=hs.lt hi gi;have:=h.new;omega
  ·rw[eR _ _ _ _ h1]at gi
   rw[eR _ _ _ _ h2]at gj
   exact hs.inj i j oi oj k hi hj gi gj
 obj:=fun k x hx=>by
  by_cases hk:k=r
  ·subst hk
   rw[hr]at hx;cases hx
   exact .inr ⟨b,C,ty,fr,eM _ _ _,hb,hl,hc.mono fun x v hr=>h.rel _ _ hr,ht⟩
  ·have:=hs.obj k x hx
   cases x with
   |cells cs' =>
    rcases this with⟨h1,h2⟩|⟨blk,C',ty',fr',h1,h2,h3,h4,h5⟩
    ·exact .inl ⟨by rw[eR _ _ _ _ hk];exact h1,h2⟩
    ·exact .inr ⟨blk,C',ty',fr',by rw[eR _ _ _ _ hk];exact h1,by rw[h.hold _ (du h2)];exact h2,h3,h4.mono fun x v hr=>h.rel _ _ hr,h5⟩
   |buf sz n=>intro blk hb;rw[eR _ _ _ _ hk]at hb;exact Nat.lt_of_lt_of_le (this blk hb) h.size
   |part cs' =>
    obtain⟨blk,C',ty',fr',h1,h2,h3,h4,h5,h6⟩:=this
    exact⟨blk,C',ty',fr',by rw[eR _ _ _ _ hk];exact h1,by rw[h.hold _ (du h2)];exact h2,h3,h4.mono fun x v hr=>h.rel _ _ hr,h5,h6⟩
   |mapo es =>
    obtain⟨blk,E,clock,h1,h2,h3⟩:=this
    exact⟨blk,E,clock,by rw[eR _ _ _ _ hk];exact h1,by rw[h.hold _ (du h2)];exact h2,h3⟩
theorem Comes.ext{w0 w':World}{γ0:cQ}{H0:AHeap}(he:Ext w0 γ0 H0 w γ H){r b:Nat}(h:Comes w γ H r b w')(hr:H0.nx≤r):Ext w0 γ0 H0 w' (upd γ r (some b)) H where
 os:=h.os.trans he.os
 tape:=h.tape.trans he.tape
 output:=h.output.trans he.output
 size:=Nat.le_trans he.size h.size
 nx:=he.nx
 block:=fun k C ty fr hk=>by
  obtain⟨C',h1,h2,h3⟩:=he.block k C ty fr hk
  exact⟨C',by rw[h.hold _ (du h1)];exact h1,h2,h3⟩
 imm:=fun k e hk hi=>h.imm (Nat.lt_of_lt_of_le hk he.size) (he.imm k e hk hi)
 un:=fun k hk hu=>by rw[h.hold _ (Nat.lt_of_lt_of_le hk he.size)];exact he.un k hk hu
 none:=fun id hid hn=>by
  obtain⟨h1,h2⟩:=he.none id hid hn
  exact⟨h1,by rw[eR _ _ _ _ (by omega)];exact h2⟩
 keep:=fun id o ho hb=>by
  have:=AHeap.get_lt ho
  obtain⟨h1,h2⟩:=he.keep id o ho hb
  exact⟨by rw[eR _ _ _ _ (by omega)];exact h1,h2⟩
 bufs:=fun id sz n ho sz' n' h'=>by
  have:=AHeap.get_lt ho
  obtain⟨h1,h2,h3⟩:=he.bufs id sz n ho sz' n' h'
  exact⟨h1,h2,fun e=>by rw[eR _ _ _ _ (by omega)];exact h3 e⟩
 bufk:=he.bufk
end
def W0{p:Prop} (h:p:=by
 refine⟨rfl,rfl,rfl,Nat.le_refl _,Nat.le_refl _,fun b C ty fr hb=>⟨C,hb,rfl,fun _ _ _ _=>rfl⟩,fun b e hb him j x hg hγ=>?_,fun _ _ _=>rfl,fun j hj hn=>⟨?_,rfl⟩,fun j x hg hb=>⟨rfl,fun sz n hg'=>?_⟩,
  fun j sz n hg sz' n' hg'=>?_,fun j sz n hg x hg'=>?_⟩
 ·rcases hset hg with⟨rfl,rfl⟩|⟨_,h2⟩
  ·obtain⟨sz,n,e,_⟩:=him _ _ ho hγ;cases e
  ·exact him j x h2 hγ
 ·rw[hne (fun e=>by subst e;rw[ho]at hn;cases hn)];exact hn
 ·rcases hset hg' with⟨_,e⟩|⟨_,h2⟩
  ·cases e
  ·rw[hg]at h2;cases h2;exact hb _ _ rfl
 ·rcases hset hg' with⟨_,e⟩|⟨_,h2⟩
  ·cases e
  ·rw[hg]at h2;cases h2;exact⟨rfl,Nat.le_refl _,fun _=>rfl⟩
 ·rcases hset hg' with⟨rfl,e⟩|⟨_,h2⟩
  ·rw[ho]at hg;cases hg
  ·rw[hg]at h2;cases h2;exact⟨_,_,rfl⟩):p:=h
def W1{p:Prop} (h:p:=by
 have up:∀{i o},(H.set id (.cells cs')).get i=some o→∃ o',H.get i=some o':=fun{i o} hg=>by
  rcases hset hg with⟨rfl,rfl⟩|⟨_,h2⟩
  ·exact⟨_,ho⟩
  ·exact⟨_,h2⟩
 obtain⟨o1,g1⟩:=up hi
 obtain⟨o2,g2⟩:=up hj
 exact h.state.inj i j o1 o2 b g1 g2 h1 h2):p:=h
def W2{p:Prop} (h:p:=by
 rename_i l
 have:=(rG (P:=P) hs (vs:=args.toList.map a.eval) (by simp) (fun j x v hx hv=>by
  simp only[List.getElem?_map]at hx hv
  cases hj:args.toList[j]? with
  |none=>rw[hj]at hx;cases hx
  |some y=>rw[hj]at hx hv;cases hx;cases hv;exact hf y) h argTypes ty).next
 have ee:(args.toList.map a.eval).toArray=args.map a.eval:=by apply Array.ext';rw[Array.toList_map]
 rw[ee]at this
 simpa[execOp,resolve,invoke,builtin]using this):p:=h
def W3{p:Prop} (h:p:=by
 simp only[Instr.buildSlice,Sem.run_bind,bN hu,Result.andThen_ok,ff heinf]
 rw[if_neg (by omega)]
 simp only[C0]at hD
 by_cases h0:n*einf.size=0
 ·rw[if_pos h0,← hz1 h0]
  simp only[Sem.run_bind,Sem.run_pure,Result.andThen_ok]
  rw[hD]
  simp[newRow,hn]
 ·rw[if_neg h0]
  simp only[Sem.run_bind,jA heinf hez,Sem.run_pure,Result.andThen_ok]
  rw[← hz2 h0,hD]
  simp[newRow,hn]):p:=h
theorem W4{p:Prop} (h:p:=by
 induction j using Nat.strongRecOn with
 |_ j ihj =>
  intro hj
  cases hlj:listed.getD j false with
  |true=>rfl
  |_=>
   exfalso
   have:j∈Region.ready .any ops listed:=mem_ready.2 ⟨by rw[hgd listed j hsz hj];exact hlj,ops[j],by simp[hj],fun e he hb=>by
    have hlt:=hr.edge j ops[j] e (by simp[hj]) he hb
    exact ihj e.on hlt (by omega)⟩
   rw[hnil]at this;cases this):p:=h
def W5{p:Prop} (h:p:=by
 cases d<;>simp[gv]at hd
 refine Out.same hs ?_ (jp _)
 simp only[eqGuard_at_pointer,Sem.run_bind,Sem.run_pure,Result.andThen_ok]
 have:=rY (P:=P) (w:=w) (neg:=neg) (t:=t) (v:=.pointer (some ⟨blk,off,none⟩)) (u:=.pointer none) (b:=false) (by cases neg<;>simp[binOp]) (fun m=>by simp[Op.equalIn,bN hu])
 rw[this];simp):p:=h
def W6{p:Prop} (h:p:=by
 constructor
 ·rintro⟨h1,h2,h3⟩
  refine⟨by simp[h2],fun j hj hj'=>?_⟩
  cases j with
  |zero=>exact h1
  |succ j=>exact h3 j (by simpa using hj) (by simpa using hj')
 ·rintro⟨h1,h2⟩
  exact⟨h2 0 (by simp) (by simp),by simpa using h1,fun j hj hj'=>h2 (j+1) (by simpa using hj) (by simpa using hj')⟩):p:=h
def W7{p:Prop} (h:p:=by
 have:=tV (p:=fun j=>!listed.getD j false) (q:=fun j=>!(listed.setIfInBounds i true).getD j false) (l:=List.range ops.size) (fun x hx hq=>by
  by_cases hxi:x=i
  ·subst hxi;rw[hun];rfl
  ·rw[hset x hxi]at hq;exact hq) ⟨i,List.mem_range.2 hlt,by rw[hun];rfl,by rw[hseti];rfl⟩
 omega):p:=h
def W8{p:Prop} (h:p:=by
 rcases AHeap.get_set_inv _ _ hg with⟨rfl,rfl,_⟩|h2
 ·exact .inl ⟨rfl,rfl⟩
 ·exact .inr h2):p:=h
def W9{p:Prop} (h:p:=by
 unfold F1 at ht2
 split at ht2
 ·rename_i a ha;exact⟨_,jd ha,.inr ⟨_,rfl⟩⟩
 ·rename_i ha;exact⟨_,oG ha,.inl rfl⟩
 ·cases ht2):p:=h
theorem W10{p:Prop} (h:p:=by
 cases hlj:listed.getD j false with
 |false=>rfl
 |true=>
  have:=hanc j (by rw[hlen];simpa using hj) i hb (fun j=>listed.getD j false=true) (fun k o e h3 h4=>h1 k o e h3 h4) fun o' e ho' he hb=>h1 j o' e ho' hlj he hb
  rw[hun]at this;cases this):p:=h
def W11{p:Prop} (h:p:=by
 by_cases h0:n*einf.size=0
 ·exact⟨#[],fun _=>rfl,fun h=>absurd h0 h⟩
 ·exact⟨ez.cells,fun h=>absurd h h0,fun _=>rfl⟩):p:=h
def W12{p:Prop} (h:p:=by
 rw[Rel]
 refine⟨by rw[AHeap.nx_push];omega,fun sz n h=>(by rw[AHeap.get_push_new]at h;cases h),.inr ⟨w.heap.size,cap,C,ty,fr,eM _ _ _,rfl,hle,hnew,by omega,fun p p1 p2=>hth p (by omega) (by omega)⟩⟩):p:=h
def W13{p:Prop} (h:p:=by
 simp only[Builtin.copy_,h0,List.getElem?_toArray,yam,yan,Sem.run_bind,bN hu,Result.andThen_ok,a1,ff heinf]
 have e3:Nat.min zs.length 0=min zs.length 0:=rfl
 rw[e3,b1]
 cases a<;>simp[storeCells,goInt]):p:=h
def W14{p:Prop} (h:p:=by
 obtain⟨u,hu,hru⟩:=hr.2 t ht
 have hlt:t<vs.size:=by rw[hr.1];exact ht
 rw[List.getElem?_eq_getElem ht,Option.getD_some,Array.getD_eq_getD_getElem?,Array.getElem?_append_left hlt,hu]
 exact hru):p:=h
theorem W15{p:Prop} (h:p:=by
 refine⟨by simp[h1],fun j hj=>?_⟩
 cases j with
 |zero=>exact⟨by simp,h.1⟩
 |succ j=>obtain⟨h3,h4⟩:=h2 j (by simpa using hj);exact⟨by simpa using h3,h4⟩):p:=h
def W16{p:Prop} (h:p:=by
 obtain⟨dst,op,ty,pos,after,guard⟩:=o
 obtain⟨callee,args,argTypes⟩:=c
 dsimp only at h1 h2
 subst h1;subst h2
 simp[execOp,resolve,invoke,hv,Deferred.ofValue]):p:=h
def W17{p:Prop} (h:p:=by
 simp only[execOp,Sem.run_bind]
 rw[Array.toArray_toList]at hr
 rw[show(Sem.run P (Instr.buildSlice t n (ps.map fun x=>(x.1,a.eval x.2))) w)=.ok v w' from hr]
 rfl):p:=h
def W18{p:Prop} (h:p:=by
 by_cases hii:i'=i
 ·subst hii;rw[ho]at ho';cases ho';exact getD_set_true (hall e he hb)
 ·rw[hset i' hii]at hl';exact getD_set_true (h1 i' o' e ho' hl' he hb)):p:=h
theorem W19{p:Prop} (h:p:=by
 obtain⟨h1,h2⟩:=h.none id hid hn
 refine⟨?_,h2⟩
 cases hg:H'.get id with
 |none=>rfl
 |some o=>have:=hl.get _ _ hg;rw[h1]at this;cases this):p:=h
def W20{p:Prop} (h:p:=by
 exact BP hs (w':=w.drew.alloc _) rfl rfl rfl (by simp) (fun b hb=>iu w.drew _ hb) (im w.drew _) ho (by omega) (grownCap_ge _ _ _ _) g3 g1 g2 hrun):p:=h
theorem W21{p:Prop} (h:p:=by
 have:args.toList.length=2:=by have:=congrArg List.length hargs;simpa using this
 match args,this with
 |⟨[x0,x1]⟩,_=>exact⟨x0,x1,rfl⟩):p:=h
def W22{p:Prop} (h:p:=by
 unfold a8 at hc
 split at hc
 ·rename_i c hg;cases hc;exact hg
 ·cases hc):p:=h
def W23{p:Prop} (h:p:=by
 unfold Oper.wp
 rcases g1 with g1|⟨g1,rfl⟩
 ·rw[g1];exact hK _ v w' γ' rfl k2 k3 k4
 ·rw[g1];exact hK _ undef w' γ' rfl k2 k3 k4):p:=h
def W24{p:Prop} (h:p:=by
 obtain⟨g1,g2⟩:=h6 k o (Nat.zero_le _) ho
 exact⟨g1,fun hk=>⟨(g2 hk).1,fun j hj ha=>(g2 hk).2.2 j (Nat.zero_le _) hj ha⟩⟩):p:=h
def W25{p:Prop} (h:p:=by
 refine rel_slice.2 (.inl ⟨⟨a,rfl⟩,rfl,by rw[AHeap.nx_push];omega,fun sz' n h=>?_⟩)
 rw[AHeap.get_push_new]at h;cases h;rfl):p:=h
def W26{p:Prop} (h:p:=by
 dsimp only at hsz
 simp only[Instr.indexAt,Sem.run_bind,j7,Result.andThen_ok,bN hu,Sem.run_pure]
 simp[hn,ff heinf,jz,hsz]):p:=h
def W27{p:Prop} (h:p:=by
 refine⟨h4,fun j hj=>?_⟩
 obtain⟨u,hu,hr⟩:=h5 j hj
 exact⟨u,by rw[← hu];congr 1;rw[Nat.add_mul];omega,hr⟩):p:=h
def W28{p:Prop} (h:p:=by
 simp only[Array.getD_eq_getD_getElem?]at this ⊢
 rw[Array.getElem?_setIfInBounds_ne (fun e=>ht e.symm)];exact this):p:=h
def W29{p:Prop} (h:p:=by
 simp only[Instr.indexAt,Sem.run_bind,j7,Result.andThen_ok,bN hu,Sem.run_pure]
 simp[hn,ff heinf,jz,Instr.sureAddr]):p:=h
def W30{p:Prop} (h:p:=by
 cases a<;>simp[Builtin.firstCells,loadCells,loadCellsFrom]):p:=h
def W31{p:Prop} (h:p:=by
 constructor
 ·rintro rfl;simp[AV.cells,dp,AV.one]at h3
 ·rintro vs rfl;simp[AV.cells,dp,AV.one]at h3):p:=h
def W32{p:Prop} (h:p:=by
 rename_i t n ps
 rw[if_neg]
 ·rfl
 ·intro hm
  obtain⟨r,hr⟩:=preAt_mem.2 hm
  simp[pY,hr]at hf):p:=h
def W33{p:Prop} (h:p:=by
 unfold Oper.wp
 rw[he,hr]
 have hi':=hi.put hd h1 h2 h3
 rw[← gZ]at hi'
 exact hK _ _ _ _ _ hi' hk):p:=h
def W34{p:Prop} (h:p:=by
 exact⟨_,H,_,_,h1,any H,.stay fun c hc=>hc,fun _=>⟨rfl,fun g _=>.inr (any g.2),fun g _=>any g⟩⟩):p:=h
def W35{p:Prop} (h:p:=by
 rw[Rel]
 exact⟨#[],#[],rfl,rfl,rfl,fun j hj=>absurd hj (by simp),fun j hj=>absurd hj (by simp)⟩):p:=h
def W36{p:Prop} (h:p:=by
 exact(h.state.obj j x h2).mono he rfl fun _ _ _ hb=>hb):p:=h
def W37{p:Prop} (h:p:=by
 obtain⟨j,hj,rfl⟩:=List.getElem_of_mem hx
 obtain⟨u,_,hru⟩:=hr.2 j hj
 exact Rel.lt _ _ hru):p:=h
def W38{p:Prop} (h:p:=by
 simp only[Instr.index,Sem.run_bind,j7,Result.andThen_ok,bN hu]
 simpa[hn,ff heinf]using this):p:=h
def W39{p:Prop} (h:p:=by
 split at h
 ·simp only[Option.map_eq_some_iff]at h;obtain⟨_,_,rfl⟩:=h;rfl
 ·cases h):p:=h
theorem W40{p:Prop} (h:p:=by
 simp only[iF,n8,rP]
 cases zjg P ty (Fr.get fr t) H with
 |none=>rfl
 |some r=>simp[one]):p:=h
def W41{p:Prop} (h:p:=by
 split at h
 ·split at h<;>cases h;rfl
 ·cases h):p:=h
def W42{p:Prop} (h:p:=by
 have hi':=hi.put hdo h1 h2 h3
 rw[← hfr,← gZ]at hi'
 exact ih _ _ _ _ _ hi' hk):p:=h
def W43{p:Prop} (h:p:=by
 rw[Nat.add_zero]at this
 rw[← this,← Array.foldl_toList,Array.toList_zipIdx]):p:=h
def W44{p:Prop} (h:p:=by
 obtain⟨d,i,hu,hi,hd⟩:=jD h
 cases d<;>simp[gv]at hd
 subst hd;exact hu):p:=h
def W45{p:Prop} (h:p:=by
 rw[if_neg h2,if_neg (by omega),Array.getElem?_setIfInBounds_ne (by omega)]):p:=h
def W46{p:Prop} (h:p:=by
 exact⟨by simp[execOp,ho,he],rfl,rfl⟩):p:=h
end Go.AL
