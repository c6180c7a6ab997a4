/- Deps and events as rows of cells; the contracts of chapters 01 to 03, told over abstract states. -/
import Derived.Test.YtbdejgbjelfbeaaATy
import Derived.Test.YtbdejgbjelfbeaaLTwice
set_option linter.unusedSimpArgs false
set_option linter.unusedVariables false
namespace Go.Proofs.Ytbdejgbjelfbeaa
open Go.RowKit A
theorem A.Pu_catB {st : ASt} {o : Oper} {t yt : TypeId} {x y : Operand} {l m : List UInt8} (ho : o.op = .binOp .add t x y yt) (hx : st.ev x = .d (.v (.string (V.ba l)))) (hy : st.ev y = .d (.v (.string (V.ba m)))) (hI : l.length + m.length ≤ maxI) : Pu Try.prog st o (.d (.v (.string (V.ba (l ++ m))))) := by
  rw [← V.ba_append]
  exact Pu_cat ho hx hy (by rw [ba_size, ba_size]; exact hI)
def Dep.row (d : Dep) : List AV := [tv d.key, iv d.n, iv d.s]
def Event.row (e : Event) : List AV := [iv e.kind, iv e.client, tv e.key, iv e.n, iv e.s, .sl 3 (e.seen.map Dep.row)]
/-- A contract of the elder form, of a function that yields a value of one cell. -/
theorem A.ofv {f : FuncId} {aa : List AV} {r : Value} (hf : ∀ (vs : Array Value) (w : World), (callFunc f vs).run Try.prog w = .ok (.enter f vs) w) (hr : vok r)
    (h : ∀ (M : Nat → Prop) (w : World) (vs : List Value), AllRep M w aa vs → Calls Try.prog f vs.toArray w fun e w' => e = .returned r ∧ Ev.Ext w w') : ACall Try.prog f aa (.v r) :=
  ⟨hf, fun M w vs _ ha => (h M w vs ha).mono fun e w' ⟨h1, h2⟩ => ⟨r, h1, h2, .v r hr⟩⟩
theorem A.all1 {M : Nat → Prop} {w : World} {x : Value} {vs : List Value} (h : AllRep M w [.v x] vs) : vs = [x] ∧ vok x := by
  obtain ⟨h1, h2⟩ := h
  match vs, h1, h2 with
  | [y], _, h2 =>
    have := h2 0 _ _ rfl rfl
    cases this with
    | v _ h => exact ⟨rfl, h⟩
theorem rnumber_a (n : Nat) (hn : n < 18446744073709551616) : ACall Try.prog 40 [uv n] (tv (V.ba (V.num n))) := A.ofv (fun _ _ => by kernel_rfl) (by have := V.num_len64 hn; simp [vok, ba_size, A.maxI]; omega) fun M w vs ha => by
  obtain ⟨rfl, _⟩ := A.all1 ha
  exact rnumber_any n hn w
theorem rtext_a (s : ByteArray) (hs : s.size ≤ 1000000) : ACall Try.prog 64 [tv s] (tv (V.ba (V.text s))) := A.ofv (fun _ _ => by kernel_rfl) (by have := V.num_len64 (n := s.size) (by omega); simp [vok, ba_size, V.text, A.maxI]; omega) fun M w vs ha => by
  obtain ⟨rfl, _⟩ := A.all1 ha
  exact rtext_any s hs w
theorem rnumber_az (z : Int) (h0 : 0 ≤ z) (hn : z ≤ 18446744073709551615) : ACall Try.prog 40 [uv z] (tv (V.ba (V.num z.toNat))) := by
  obtain ⟨n, rfl⟩ : ∃ n : Nat, z = n := ⟨z.toNat, by omega⟩
  exact rnumber_a n (by omega)
theorem A.rowv {M : Nat → Prop} {w : World} {us : List Value} {y : Value} (h : Rep M w (.row (us.map .v)) y) : y = .agg us.toArray := by
  cases h with
  | row cs ws hl h1 hrr =>
    have : ws = us := by
      apply List.ext_getElem (by simpa using hl)
      intro i h3 h4
      have h5 := hrr i (.v us[i]) ws[i] (by simp [h4]) (by simp [h3])
      generalize ws[i] = p at h5 ⊢
      cases h5; rfl
    rw [this]
theorem A.all1r {M : Nat → Prop} {w : World} {us : List Value} {vs : List Value} (h : AllRep M w [.row (us.map .v)] vs) : vs = [.agg us.toArray] := by
  obtain ⟨h1, h2⟩ := h
  match vs, h1, h2 with
  | [y], _, h2 =>
    have := A.rowv (h2 0 _ _ rfl rfl)
    rw [this]
theorem rstbytes_a (n s : Int) : ACall Try.prog 65 [.row [iv n, iv s]] (tv (V.ba (V.stamp n s))) := A.ofv (fun _ _ => by kernel_rfl) (by have := stamp_len n s; simp [vok, ba_size, A.maxI]; omega) fun M w vs ha => by
  obtain rfl := A.all1r (us := [.int .i64 n, .int .i64 s]) ha
  exact rstbytes_any n s w
end Go.Proofs.Ytbdejgbjelfbeaa
