/- What is more, and what is less: the ledger's closures. -/
import Derived.Test.YtbdejgbjelfbeaaLOf
import Derived.Test.YtbdejgbjelfbeaaVStamp
set_option linter.unusedSimpArgs false
set_option linter.unusedVariables false
namespace Go.Proofs.Ytbdejgbjelfbeaa
open Go.RowKit R
theorem smap_look {w : World} {b n : Nat} {m : ByteArray → Option (Int × Int)} (h : SMap w b n m) (key : ByteArray) (hk : key.size ≤ 9223372036854775807) :
    (Instr.lookup 85 (.map (some b)) (.string key) false).run Try.prog w = .ok (.agg #[.int .i64 ((m key).getD (0, 0)).1, .int .i64 ((m key).getD (0, 0)).2]) w := by
  obtain ⟨v, h1, h2, h3⟩ := h.look str_key Try.underlying85 (z := .agg #[.int .i64 0, .int .i64 0]) (fun w => by kernel_rfl) key hk false
  rw [h1]
  cases hm : m key with
  | none => rw [h3 hm]; rfl
  | some x => have := h2 x hm; unfold stv at this; rw [this]; rfl
theorem smap_ext {w w' : World} {b n : Nat} {m : ByteArray → Option (Int × Int)} (h : SMap w b n m) (he : Ev.Ext w w') : SMap w' b n m := h.mono (he.block b h.lt) (fun _ _ h => h)
namespace L
/-- of those that were seen ahead: is a dep there just so? -/
def hadB (m : ByteArray → Option (Int × Int)) (d : Dep) : Bool := decide ((m d.key).getD (0, 0) = (d.n, d.s))
/-- is a key there? -/
def hasB (m : ByteArray → Option (Int × Int)) (d : Dep) : Bool := !decide ((m d.key).getD (0, 0) = (0, 0))
end L
set_option maxRecDepth 100000 in
set_option maxHeartbeats 1000000 in
theorem part1_any (d : Dep) (hd : d.key.size ≤ 9223372036854775807) (c b n : Nat) (m : ByteArray → Option (Int × Int)) (w : World) (hc : w.cell? ⟨c, 0, none⟩ = some (.map (some b))) (hm : SMap w b n m) :
    Calls Try.prog 55 #[d.val, .pointer (some ⟨c, 0, none⟩)] w fun e w' => e = .returned (.bool (L.hadB m d)) ∧ Ev.Ext w w' := by
  unfold Dep.val
  have hE := extA w (.cells #[.string d.key, .int .i64 d.n, .int .i64 d.s] 56)
  have hl := smap_look (smap_ext hm hE) d.key hd
  have hc1 := cell_later hE hc
  clear hc
  go_enter Try.func55, Try.ntmps55
  go_wp2
  all_goals (go_ret; exact ⟨by simp_all [L.hadB, Prod.ext_iff], hE⟩)
set_option maxRecDepth 100000 in
set_option maxHeartbeats 1000000 in
theorem part2_any (d : Dep) (hd : d.key.size ≤ 9223372036854775807) (c z b n : Nat) (m : ByteArray → Option (Int × Int)) (w : World) (hc : w.cell? ⟨c, 0, none⟩ = some (.map (some b))) (hz0 : w.cell? ⟨z, 0, none⟩ = some (.int .i64 0)) (hz1 : w.cell? ⟨z, 1, none⟩ = some (.int .i64 0)) (hm : SMap w b n m) :
    Calls Try.prog 56 #[d.val, .pointer (some ⟨c, 0, none⟩), .pointer (some ⟨z, 0, none⟩)] w fun e w' => e = .returned (.bool (L.hasB m d)) ∧ Ev.Ext w w' := by
  unfold Dep.val
  have hE := extA w (.cells #[.string d.key, .int .i64 d.n, .int .i64 d.s] 56)
  have hl := smap_look (smap_ext hm hE) d.key hd
  have hc1 := cell_later hE hc
  have hz0 := cell_later hE hz0
  have hz1 := cell_later hE hz1
  clear hc
  go_enter Try.func56, Try.ntmps56
  go_wp2
  all_goals (go_ret; exact ⟨by simp_all [L.hasB, Prod.ext_iff], hE⟩)
namespace L
/-- P26.1: a part. -/
def noStamp (n s : Int) : Bool := decide (n = 0) && decide (s = 0)
def stampOpt (n s : Int) : List UInt8 := if noStamp n s then V.num 0 else V.num 1 ++ V.stamp n s
def more (e : Event) (ahead : List Dep) : List Dep := strike (hadB (ofM ahead)) e.seen
def less (e : Event) (ahead : List Dep) : List Dep := strike (hasB (ofM e.seen)) ahead
def depBytes (d : Dep) : List UInt8 := V.text d.key ++ V.stamp d.n d.s
def headBytes (e : Event) : List UInt8 := V.num e.kind.toNat ++ V.num e.client.toNat ++ V.text e.key ++ stampOpt e.n e.s
def part (e : Event) (ahead : List Dep) : List UInt8 :=
  headBytes e ++ V.num (more e ahead).length ++ (more e ahead).flatMap depBytes ++ V.num (less e ahead).length ++ (less e ahead).flatMap fun d => V.text d.key
end L
end Go.Proofs.Ytbdejgbjelfbeaa
