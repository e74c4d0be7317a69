/- Contracts and plain laws, a part of the proof; no condition of its own. -/
import Derived.Test.YthpglnacipgolaaGreatS10v
import Derived.Test.YthpglnacipgolaaGreatAlTop
import Derived.Test.YthpglnacipgolaaGreatS10w
import Derived.Test.YthpglnacipgolaaGreatM20a
open Go Go.AL Go.Proofs
namespace Go.AL
set_option linter.all false
set_option maxRecDepth 10000
theorem tyInt {d:Nat} {x:AV} (h:tyV Tryz.prog (d+1) 3 x):∃ n,x=.int .i64 n ∧ -9223372036854775808≤n∧n<9223372036854775808:=by
  rw [ty_one ti_zint rfl,ty_int ti_zint] at h
  obtain ⟨_,n,e,n1,n2⟩:=h
  cases e
  exact ⟨n,rfl,by simp [IntKind.min,IntKind.signed,IntKind.bits] at n1;omega,by simp [IntKind.max,IntKind.signed,IntKind.bits] at n2;omega⟩
theorem tyU8 {d:Nat} {x:AV} (h:tyV Tryz.prog (d+1) 5 x):∃ n,x=.int .u8 n∧0≤n∧n≤255:=by
  rw [ty_one ti_zu8 rfl,ty_int ti_zu8] at h
  obtain ⟨_,n,e,n1,n2⟩:=h
  cases e
  exact ⟨n,rfl,by simpa [IntKind.min,IntKind.signed] using n1,by simp [IntKind.max,IntKind.signed,IntKind.bits] at n2;omega⟩
theorem tyBytes {d:Nat} {x:AV} (h:tyV Tryz.prog (d+3) 32 x):∃ s,x=.slice .any 1 s∧isB s:=by
  rw [ty_one ti_zbytes rfl,ty_slice ti_zbytes] at h
  obtain ⟨_,xs,e,_,hx⟩:=h
  cases e
  refine ⟨xs,by rw [sizeT_of ti_zu8],isB_of fun x hm=>?_⟩
  have:=hx x hm
  rw [ty_one ti_zu8 rfl,ty_int ti_zu8] at this
  obtain ⟨_,m,e,m1,m2⟩:=this
  cases e
  exact ⟨m,rfl,by simpa [IntKind.min,IntKind.signed] using m1,by simp [IntKind.max,IntKind.signed,IntKind.bits] at m2;omega⟩
theorem tyVal {d:Nat} {x:AV} (h:tyV Tryz.prog (d+2) 83 x):∃ hi lo,x=.agg [.int .u64 hi,.int .u64 lo]∧isV hi lo:=by
  rw [ty_agg ti_zvalue rfl] at h
  obtain ⟨cs,rfl,h⟩:=h
  rw [ty_struct ti_zvalue] at h
  obtain ⟨b1,q1,rfl,_,g1,b2,q2,rfl,_,g2,rfl⟩:=h
  rw [ty_int ti_zu64] at g1 g2
  obtain ⟨hi,rfl,i1,i2⟩:=g1
  obtain ⟨lo,rfl,i3,i4⟩:=g2
  refine ⟨hi,lo,rfl,?_⟩
  unfold isV
  simp [IntKind.min,IntKind.max,IntKind.signed,IntKind.bits] at i1 i2 i3 i4
  omega
end Go.AL


open Go Go.AL Go.Proofs
namespace Go.AL
set_option linter.all false
set_option maxRecDepth 10000
theorem ti_match:ti Tryz.prog 367=some ⟨.struct [(0,4,false),(1,83,false),(3,83,false),(5,3,false),(6,83,false)],8,64,.agg [.bool false,.int .u64 0,.int .u64 0,.int .u64 0,.int .u64 0,.int .i64 0,.int .u64 0,.int .u64 0]⟩:=by kernel_rfl
theorem ti_matches:ti Tryz.prog 197=some ⟨.slice 367,1,24,.slice .nil 1 []⟩:=by kernel_rfl
theorem ti_values:ti Tryz.prog 47=some ⟨.slice 83,1,24,.slice .nil 1 []⟩:=by kernel_rfl
theorem ti_entry:ti Tryz.prog 199=some ⟨.struct [(0,3,false),(1,197,false),(2,3,false),(3,3,false),(4,47,false)],5,72,.agg [.int .i64 0,.slice .nil 1 [],.int .i64 0,.int .i64 0,.slice .nil 1 []]⟩:=by kernel_rfl
attribute [go_sem] ti_match ti_matches ti_values ti_entry
theorem tyV_val {d:Nat} {cs:List AV} (h:tyC Tryz.prog (d+2) 83 cs):∃ x:Nat,x<2^128∧cs=vc x:=by
  have h':tyV Tryz.prog (d+2) 83 (.agg cs):=by rw [ty_agg ti_zvalue rfl];exact ⟨cs,rfl,h⟩
  obtain ⟨hi,lo,e,hv⟩:=tyVal h'
  cases e
  obtain ⟨x,hx,rfl,rfl,_⟩:=isV_out hv
  exact ⟨x,hx,rfl⟩
theorem tyMatchC {d:Nat} {cs:List AV} (h:tyC Tryz.prog (d+3) 367 cs):∃ m:SMatch,cs=matchC m∧MOk m ∧ -9223372036854775808≤m.pfx∧m.pfx≤9223372036854775807:=by
  rw [ty_struct ti_match] at h
  obtain ⟨a1,r1,rfl,_,h1,a2,r2,rfl,_,h2,a3,r3,rfl,_,h3,a4,r4,rfl,_,h4,a5,r5,rfl,_,h5,rfl⟩:=h
  rw [ty_bool ti_zbool] at h1
  rw [ty_int ti_zint] at h4
  obtain ⟨b,rfl⟩:=h1
  obtain ⟨v,hv,rfl⟩:=tyV_val h2
  obtain ⟨k,hk,rfl⟩:=tyV_val h3
  obtain ⟨p,rfl,p1,p2⟩:=h4
  obtain ⟨g,hg,rfl⟩:=tyV_val h5
  refine ⟨⟨b,v,k,p,g⟩,rfl,⟨hv,hk,hg⟩,?_,?_⟩
  · simpa [IntKind.min,IntKind.signed,IntKind.bits] using p1
  · simpa [IntKind.max,IntKind.signed,IntKind.bits] using p2
theorem list_lift {α:Type} {f:α→AV} {q:α→Prop}:∀ (l:List AV),(∀ x∈l,∃ a,x=f a∧q a)→∃ l':List α,l=l'.map f∧∀ a∈l',q a
  | [],_=>⟨[],rfl,by simp⟩
  | x::l,h=>by
    obtain ⟨a,ha,qa⟩:=h x List.mem_cons_self
    obtain ⟨l',hl,ql⟩:=list_lift l fun y hy=>h y (List.mem_cons_of_mem _ hy)
    exact ⟨a::l',by rw [ha,hl];rfl,fun b hb=>(List.mem_cons.1 hb).elim (fun e=>e ▸ qa) (ql b)⟩
/-- what is so of an entry that a caller gives -/
structure EAny (e:SEntry):Prop where
  ok:EOk e
  pf:∀ m∈e.ms,-9223372036854775808≤m.pfx∧m.pfx≤9223372036854775807
  tb : -9223372036854775808≤e.table∧e.table≤9223372036854775807
  pr : -9223372036854775808≤e.prio∧e.prio≤9223372036854775807
  ac : -9223372036854775808≤e.act∧e.act≤9223372036854775807
  ar:∀ x∈e.args,x<2^128
  bm:e.ms.length*64≤140737488351232
  ba:e.args.length*16≤140737488351232
theorem tyEntryC {d:Nat} {cs:List AV} (h:tyC Tryz.prog (d+5) 199 cs):∃ e:SEntry,cs=entryC e∧EAny e:=by
  rw [ty_struct ti_entry] at h
  obtain ⟨a1,r1,rfl,_,h1,a2,r2,rfl,_,h2,a3,r3,rfl,_,h3,a4,r4,rfl,_,h4,a5,r5,rfl,_,h5,rfl⟩:=h
  rw [ty_int ti_zint] at h1 h3 h4
  rw [ty_slice ti_matches] at h2
  rw [ty_slice ti_values] at h5
  obtain ⟨t,rfl,t1,t2⟩:=h1
  obtain ⟨p,rfl,p1,p2⟩:=h3
  obtain ⟨a,rfl,q1,q2⟩:=h4
  obtain ⟨ms,rfl,hml,hms⟩:=h2
  obtain ⟨ar,rfl,hal,har⟩:=h5
  obtain ⟨ms',rfl,hmo⟩:=list_lift (f:=matchAV) (q:=fun m=>MOk m ∧ -9223372036854775808≤m.pfx∧m.pfx≤9223372036854775807) ms fun x hx=>by
    have:=hms x hx
    have h':tyV Tryz.prog (d+3) 367 x:=this
    rw [ty_agg ti_match rfl] at h'
    obtain ⟨cs,rfl,h'⟩:=h'
    obtain ⟨m,rfl,hm⟩:=tyMatchC h'
    exact ⟨m,rfl,hm⟩
  obtain ⟨ar',rfl,hao⟩:=list_lift (f:=vv) (q:=fun x=>x<2^128) ar fun x hx=>by
    have:=har x hx
    have h':tyV Tryz.prog (d+1+2) 83 x:=this
    rw [ty_agg ti_zvalue rfl] at h'
    obtain ⟨cs,rfl,h'⟩:=h'
    obtain ⟨y,hy,rfl⟩:=tyV_val h'
    exact ⟨y,rfl,hy⟩
  refine ⟨⟨t,ms',p,a,ar'⟩,?_,?_⟩
  · rw [sizeT_of ti_match,sizeT_of ti_zvalue];rfl
  have b1:1≤Tryz.prog.bytesOf 367:=by decide +kernel
  have b2:1≤Tryz.prog.bytesOf 83:=by decide +kernel
  have c1:Tryz.prog.bytesOf 367=64:=by decide +kernel
  have c2:Tryz.prog.bytesOf 83=16:=by decide +kernel
  have m1:=Nat.mul_le_mul_left (ms'.map matchAV).length b1
  have m2:=Nat.mul_le_mul_left (ar'.map vv).length b2
  rw [List.length_map] at m1 m2 hml hal
  simp [IntKind.min,IntKind.max,IntKind.signed,IntKind.bits] at t1 t2 p1 p2 q1 q2
  exact ⟨⟨by dsimp only;omega,by dsimp only;omega,fun m hm=>(hmo m hm).1⟩,fun m hm=>(hmo m hm).2,⟨by dsimp only;omega,by dsimp only;omega⟩,⟨by dsimp only;omega,by dsimp only;omega⟩,⟨by dsimp only;omega,by dsimp only;omega⟩,hao,by dsimp only;rw [c1] at hml;omega,by dsimp only;rw [c2] at hal;omega⟩
theorem tyEntry {d:Nat} {x:AV} (h:tyV Tryz.prog (d+5) 199 x):∃ e:SEntry,x=.agg (entryC e)∧EAny e:=by
  rw [ty_agg ti_entry rfl] at h
  obtain ⟨cs,rfl,h⟩:=h
  obtain ⟨e,rfl,he⟩:=tyEntryC h
  exact ⟨e,rfl,he⟩
end Go.AL


open Go Go.AL Go.Proofs
namespace Go.AL
set_option linter.all false
set_option maxRecDepth 10000

theorem tyResp {d:Nat} {x:AV} (h:tyV Tryz.prog (d+7) 60 x):∃ r:SResp,x=.agg (respC r)∧PC r:=by
  rw [ty_agg ti_resp rfl] at h
  obtain ⟨cs,rfl,h⟩:=h
  rw [ty_struct ti_resp] at h
  obtain ⟨a1,r1,rfl,_,h1,a2,r2,rfl,_,h2,a3,r3,rfl,_,h3,a4,r4,rfl,_,h4,a5,r5,rfl,_,h5,a6,r6,rfl,_,h6,rfl⟩:=h
  rw [ty_int ti_errno] at h1
  rw [ty_int ti_zint] at h2
  rw [ty_bool ti_zbool] at h3
  rw [ty_slice ti_lentry] at h4
  rw [ty_slice ti_records] at h5
  rw [ty_struct ti_output] at h6
  obtain ⟨b1,s1,rfl,_,g1,b2,s2,rfl,_,g2,b3,s3,rfl,_,g3,b4,s4,rfl,_,g4,rfl⟩:=h6
  rw [ty_bool ti_zbool] at g1
  rw [ty_int ti_zint] at g2 g3
  rw [ty_slice ti_zbytes] at g4
  obtain ⟨co,rfl,_⟩:=h1
  obtain ⟨fa,rfl,_⟩:=h2
  obtain ⟨pr,rfl⟩:=h3
  obtain ⟨es,rfl,hel,hes⟩:=h4
  obtain ⟨rs,rfl,hrl,hrs⟩:=h5
  obtain ⟨dr,rfl⟩:=g1
  obtain ⟨re,rfl,_⟩:=g2
  obtain ⟨po,rfl,_⟩:=g3
  obtain ⟨da,rfl,_,hda⟩:=g4
  obtain ⟨es',rfl,heo⟩:=list_lift (f:=entryAV) (q:=fun e=>COk e) es fun x hx=>by
    obtain ⟨e,rfl,he⟩:=tyEntry (hes x hx)
    exact ⟨e,rfl,⟨he.ok,he.ar⟩⟩
  obtain ⟨rs',rfl,_⟩:=list_lift (f:=recAV) (q:=fun _=>True) rs fun x hx=>by
    have h':tyV Tryz.prog (d+5) 63 x:=hrs x hx
    rw [ty_agg ti_record rfl] at h'
    obtain ⟨cs,rfl,h'⟩:=h'
    rw [ty_struct ti_record] at h'
    obtain ⟨b1,s1,rfl,_,k1,b2,s2,rfl,_,k2,b3,s3,rfl,_,k3,b4,s4,rfl,_,k4,b5,s5,rfl,_,k5,b6,s6,rfl,_,k6,b7,s7,rfl,_,k7,rfl⟩:=h'
    rw [ty_int ti_zint] at k1 k2 k3 k4 k6 k7
    rw [ty_int ti_errno] at k5
    obtain ⟨n1,rfl,_⟩:=k1
    obtain ⟨n2,rfl,_⟩:=k2
    obtain ⟨n3,rfl,_⟩:=k3
    obtain ⟨n4,rfl,_⟩:=k4
    obtain ⟨n5,rfl,_⟩:=k5
    obtain ⟨n6,rfl,_⟩:=k6
    obtain ⟨n7,rfl,_⟩:=k7
    exact ⟨⟨n1,n2,n3,n4,n5,n6,n7⟩,rfl,trivial⟩
  have hB:isB da:=isB_of fun x hm=>by
    have:=hda x hm
    rw [ty_one ti_zu8 rfl,ty_int ti_zu8] at this
    obtain ⟨_,m,e,m1,m2⟩:=this
    cases e
    exact ⟨m,rfl,by simpa [IntKind.min,IntKind.signed] using m1,by simp [IntKind.max,IntKind.signed,IntKind.bits] at m2;omega⟩
  obtain ⟨ys,rfl⟩:=isB_out hB
  refine ⟨⟨co,fa,pr,es',rs',dr,re,po,ys⟩,?_,?_⟩
  · rw [sizeT_of ti_fentry,sizeT_of ti_record,sizeT_of ti_zu8];rfl
  · have b1:1≤Tryz.prog.bytesOf 199:=by decide +kernel
    have b2:1≤Tryz.prog.bytesOf 63:=by decide +kernel
    have m1:=Nat.mul_le_mul_left (es'.map entryAV).length b1
    have m2:=Nat.mul_le_mul_left (rs'.map recAV).length b2
    rw [List.length_map] at m1 m2 hel hrl
    exact ⟨by dsimp only;omega,by dsimp only;omega,heo⟩
end Go.AL

