
/- Numbers put together: the walks. -/
import Derived.Test.YtgoncpjgpkoacaaVWalks
set_option linter.unusedSimpArgs false
set_option linter.unusedVariables false
namespace Go.Proofs.Ytgoncpjgpkoacaa
open Go.RowKit
theorem ext_alloc' (w : World) (o : Obj) : Ev.Ext w (w.alloc o) := (Below.refl _ _).alloc (Nat.le_refl _) _
def NumRow (ns : List Nat) (a : Option Addr) (w : World) : Prop := ∀ (i n : Nat), ns[i]? = some n → n < 18446744073709551616 ∧ ∃ b o, a = some ⟨b, o, none⟩ ∧ w.cell? ⟨b, o + i, none⟩ = some (.int .u64 n)
theorem flat_len (ns : List Nat) (h : ∀ n ∈ ns, n < 18446744073709551616) : (ns.flatMap V.num).length ≤ 10 * ns.length := by
  induction ns with
  | nil => simp
  | cons n r ih =>
    have h1 := V.num_len64 (h n List.mem_cons_self)
    have h2 := ih fun m hm => h m (List.mem_cons_of_mem _ hm)
    rw [List.flatMap_cons, List.length_append, List.length_cons]
    omega
end Go.Proofs.Ytgoncpjgpkoacaa
