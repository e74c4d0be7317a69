/- Contracts and plain laws, a part of the proof; no condition of its own. -/
import Derived.Test.YtepgdamgklfnmaaGreatS10l
open Go Go.AL Go.Proofs
namespace Go.AL
set_option linter.all false
set_option maxRecDepth 10000

theorem eqg_matchV:Tryz.prog.eqGuardType Tryz.prog.depth 67=false:=by kernel_rfl
theorem teq_matchV {m n:SMatch}:teq Tryz.prog 9 67 (.agg [.bool m.present,.int .u64 ((m.value/2^64:Nat):Int),.int .u64 ((m.value % 2^64:Nat):Int),.int .u64 ((m.mask/2^64:Nat):Int),.int .u64 ((m.mask % 2^64:Nat):Int),.int .i64 m.pfx,.int .u64 ((m.high/2^64:Nat):Int),.int .u64 ((m.high % 2^64:Nat):Int)])
    (.agg [.bool n.present,.int .u64 ((n.value/2^64:Nat):Int),.int .u64 ((n.value % 2^64:Nat):Int),.int .u64 ((n.mask/2^64:Nat):Int),.int .u64 ((n.mask % 2^64:Nat):Int),.int .i64 n.pfx,.int .u64 ((n.high/2^64:Nat):Int),.int .u64 ((n.high % 2^64:Nat):Int)])=some (decide (m=n)):=by
  have g1:Tryz.prog.stoodInHeld 67=false:=by kernel_rfl
  have g2:Tryz.prog.stoodInHeld 24=false:=by kernel_rfl
  by_cases h:m=n
  · subst h
    simp [ti_smatch,ti_zvalue,teq,teq.go,teq.part,ti_zu64,ti_zint,ti_zbool,ceq,g1,g2,TD.agg]
  · rw [decide_eq_false h]
    obtain ⟨p,v,k,f,hh⟩:=m
    obtain ⟨p',v',k',f',h'⟩:=n
    dsimp only
    generalize h1:v/2^64=a1
    generalize h2:v % 2^64=a2
    generalize h3:v'/2^64=b1
    generalize h4:v' % 2^64=b2
    generalize h5:k/2^64=a3
    generalize h6:k % 2^64=a4
    generalize h7:k'/2^64=b3
    generalize h8:k' % 2^64=b4
    generalize h9:hh/2^64=a5
    generalize h10:hh % 2^64=a6
    generalize h11:h'/2^64=b5
    generalize h12:h' % 2^64=b6
    simp [ti_smatch,ti_zvalue,teq,teq.go,teq.part,ti_zu64,ti_zint,ti_zbool,ceq,g1,g2,TD.agg]
    intro q1 q2 q3 q4 q5 q6 q7 q8
    apply h
    rw [q1,q6,show v=v' by omega,show k=k' by omega,show hh=h' by omega]
end Go.AL


open Go Go.AL Go.Proofs
namespace Go.AL
set_option linter.all false
set_option maxRecDepth 10000

end Go.AL


open Go Go.AL Go.Proofs
namespace Go.AL
set_option linter.all false
set_option maxRecDepth 10000

theorem actionL_in {P:SAction→Prop} (h0:P ⟨0,[],[],[],[]⟩):∀ {l:List SAction} {a:Int},(∀ x∈l,P x)→P (actionL l a)
  | [],_,_=>h0
  | x::l,a,h=>by
    unfold actionL
    split
    · exact h x List.mem_cons_self
    · exact actionL_in h0 fun y hy=>h y (List.mem_cons_of_mem _ hy)
theorem gTables_keys {b:List UInt8} {v:Nat}:∀ t∈gTables b v,t.keys.length≤3∧(∀ k∈t.keys,1≤bitsL gFields k.field∧bitsL gFields k.field≤32∧(k.kind=2→16≤bitsL gFields k.field))∧1≤t.actions.length∧t.actions.length≤5:=by
  intro t ht
  simp only [gTables,List.mem_cons,List.not_mem_nil,or_false] at ht
  rcases ht with rfl | rfl | rfl | rfl
  · refine ⟨by simp [gTable0],fun k hk=>?_,by simp [gTable0],by simp [gTable0]⟩
    simp only [gTable0,List.mem_cons,List.not_mem_nil,or_false] at hk
    subst hk
    decide
  · refine ⟨by simp only [gTable1];split<;>simp,fun k hk=>?_,by simp [gTable1],by simp [gTable1]⟩
    simp only [gTable1] at hk
    split at hk<;>simp only [List.cons_append,List.nil_append,List.append_nil,List.mem_cons,List.not_mem_nil,or_false] at hk
    · rcases hk with rfl | rfl<;>decide
    · subst hk;decide
  · refine ⟨by simp only [gTable2];split<;>simp,fun k hk=>?_,by simp [gTable2],by simp [gTable2]⟩
    simp only [gTable2] at hk
    split at hk<;>simp only [List.cons_append,List.nil_append,List.append_nil,List.mem_cons,List.not_mem_nil,or_false] at hk
    · rcases hk with rfl | rfl | rfl<;>decide
    · rcases hk with rfl | rfl<;>decide
  · refine ⟨by simp only [gTable3];split<;>simp,fun k hk=>?_,by simp [gTable3],by simp [gTable3]⟩
    simp only [gTable3] at hk
    split at hk<;>simp only [List.cons_append,List.nil_append,List.append_nil,List.mem_cons,List.not_mem_nil,or_false] at hk
    · rcases hk with rfl | rfl | rfl<;>decide
    · subst hk;decide
theorem gActions_in {b:List UInt8} {v:Nat}:∀ a∈gActions b v,a.params.length≤4∧∀ p∈a.params,0≤p.bits∧p.bits≤1000:=by
  intro a ha
  simp only [gActions,List.mem_cons,List.not_mem_nil,or_false] at ha
  rcases ha with rfl | rfl | rfl | rfl | rfl | rfl<;>refine ⟨by simp,fun p hp=>?_⟩<;>simp only [List.mem_cons,List.not_mem_nil,or_false] at hp<;>first | exact hp.elim | (subst hp;decide) | (rcases hp with rfl | rfl<;>decide)
theorem genS_ok (b:List UInt8) (v:Nat):GenS (gSchema b v).1 where
  fl:=(by decide:gFields.length≤1000)
  al:=by simp [gSchema,gActions]
  tl:=by simp [gSchema,gTables]
  t1:=by simp [gSchema,gTables]
  kl:=fun t ht=>by have:=(gTables_keys t ht).1;omega
  kb:=fun t ht=>(gTables_keys t ht).2.1
  a1:=fun t ht=>⟨(gTables_keys t ht).2.2.1,by have:=(gTables_keys t ht).2.2.2;omega⟩
  pl:=fun a=>actionL_in (P:=fun x=>x.params.length≤100) (by decide) fun x hx=>by have:=(gActions_in x hx).1;omega
  pb:=fun a=>actionL_in (P:=fun x=>∀ p∈x.params,0≤p.bits∧p.bits≤1000) (by simp) fun x hx=>(gActions_in x hx).2
def e0:SEntry:=⟨2,[⟨true,167772161,0,8,0⟩],0,0,[]⟩
theorem zod_codV {b:List UInt8}:zod b 0=codV b (cp 0 0):=by
  unfold zod codV cp
  simp
end Go.AL

