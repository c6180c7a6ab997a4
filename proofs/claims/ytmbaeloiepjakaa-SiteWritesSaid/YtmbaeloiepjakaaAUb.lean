/- Abstract states: bytes as a text. -/
import Derived.Test.YtmbaeloiepjakaaAX
import Derived.Test.YtmbaeloiepjakaaAG
import Derived.Laws.IdiomStrings
import Derived.Laws.BytesArg
set_option linter.unusedSimpArgs false
set_option linter.unusedVariables false
namespace Go.Proofs.Ytmbaeloiepjakaa.A
open Go Go.RowKit
abbrev byteA (bs : List UInt8) : List (List AV) := colA (fun c : UInt8 => Value.int .u8 c.toNat) bs
section
variable {P : Program} {N : Nat} {M0 : Nat → Prop} {w0 : Base} {ops : Array Oper} {Q : Exit → ASt → Prop} {o : Oper} {l : List Oper} {st : ASt}
theorem byteA_at {bs : List UInt8} {i : Nat} (hi : i < bs.length) : (byteA bs)[i]? = some [.v (.int .u8 bs[i].toNat)] := by simp [byteA, colA, hi]
theorem byteA_len (bs : List UInt8) : (byteA bs).length = bs.length := by simp [byteA, colA]
theorem Pu_convBS {f t e : TypeId} {x : Operand} {bs : List UInt8} (ho : o.op = .convert f t x) (hf : P.underlying f = some (.slice e)) (he : P.underlying e = some (.int .u8)) (ht : P.underlying t = some .string) (hx : st.ev x = .d (.sl 1 (byteA bs))) : Pu P st o (.d (tv (V.ba bs))) := Pu_q fun B M ρ w a h2 _ => by
  have hm := h2 x (by simp [opsOf, ho, Op.operands])
  rw [hx] at hm
  have key : ∃ v, (convert f t (a.eval x)).run P w = .ok (.string (V.ba bs)) w ∧ bs.length ≤ maxI ∧ v = a.eval x := by
    have hm' : Rep M w (.sl 1 (byteA bs)) (a.eval x) := hm
    generalize a.eval x = y at hm'
    generalize hbl : byteA bs = rows at hm'
    have hlen : rows.length = bs.length := by rw [← hbl, byteA_len]
    cases hm' with
    | nil n a c =>
      have h0 : bs = [] := List.eq_nil_of_length_eq_zero (by simpa using hlen.symm)
      subst h0
      refine ⟨_, ?_, by simp, rfl⟩
      cases a with
      | none => exact run_convert_bytes_nil w f e hf he 0 c t ht
      | some a => exact run_convert_bytes_back w f t e a c [] hf he ht (fun j hj => by simp at hj)
    | sl n rows b o' cap g hl hcap hn hc hr =>
      refine ⟨_, ?_, by omega, rfl⟩
      have h := run_convert_bytes_back (P := P) w f t e ⟨b, o', none⟩ cap bs hf he ht (fun j hj => by
        have hat : rows[j]? = some [.v (.int .u8 bs[j].toNat)] := by rw [← hbl]; exact byteA_at hj
        obtain ⟨_, h5, _⟩ := hc j _ 0 _ hat rfl
        have h6 := hr j _ 0 _ hat rfl
        have h7 := (rep_v (ρ := fun _ _ => none) (show SRep M w (fun _ _ => none) (.d (.v (.int .u8 bs[j].toNat))) (g j 0) from h6)).1
        rw [h7] at h5
        rw [add_addr]
        rw [show o' + j * 1 + 0 = o' + j from by omega] at h5
        exact h5)
      rw [hlen]; exact h
  obtain ⟨v, h3, h4, _⟩ := key
  refine ⟨.string (V.ba bs), ?_, .v _ (by show (V.ba bs).size ≤ maxI; rw [A.ba_sz]; exact h4)⟩
  simp only [execOp, ho, Sem.run_bind, h3, Result.andThen_ok, Sem.run_pure]
end
end Go.Proofs.Ytmbaeloiepjakaa.A
