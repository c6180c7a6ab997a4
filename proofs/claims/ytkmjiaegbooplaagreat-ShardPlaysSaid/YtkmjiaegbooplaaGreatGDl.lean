
/- Rows of deps, of the call's own: Clone, Insert. -/
import Derived.Test.YtkmjiaegbooplaaGreatAS
import Derived.Test.YtkmjiaegbooplaaGreatAL
import Derived.Test.YtkmjiaegbooplaaGreatGDat
set_option linter.unusedSimpArgs false
set_option linter.unusedVariables false
namespace Go.Proofs.YtkmjiaegbooplaaGreat
open Go.RowKit A R
open A.RowT
theorem ins_grow {α : Type} {L : List α} {z x : α} {i : Nat} (hi : i < L.length) : (((L.take i ++ List.replicate (L.length + 1 - i) z).take i ++ [x].take 1 ++ (L.take i ++ List.replicate (L.length + 1 - i) z).drop (i + 1)).take (i + 1) ++ (L.drop i).take (L.length - i) ++ ((L.take i ++ List.replicate (L.length + 1 - i) z).take i ++ [x].take 1 ++ (L.take i ++ List.replicate (L.length + 1 - i) z).drop (i + 1)).drop (i + 1 + (L.length - i))) = L.take i ++ x :: L.drop i := by
  have h1 : (L.take i).length = i := by simp; omega
  have h2 : (L.take i ++ List.replicate (L.length + 1 - i) z).take i = L.take i := by
    rw [List.take_append_of_le_length (by omega), List.take_of_length_le (by omega)]
  rw [h2]
  have h3 : ((L.take i ++ List.replicate (L.length + 1 - i) z).drop (i + 1)).length = L.length - i := by simp; omega
  generalize (L.take i ++ List.replicate (L.length + 1 - i) z).drop (i + 1) = D at *
  have h4 : (L.take i ++ [x].take 1).length = i + 1 := by simp; omega
  have e1 : (L.take i ++ [x].take 1 ++ D).take (i + 1) = L.take i ++ [x].take 1 := by rw [List.take_append_of_le_length (by omega), List.take_of_length_le (by omega)]
  have e2 : (L.take i ++ [x].take 1 ++ D).drop (i + 1 + (L.length - i)) = [] := List.drop_eq_nil_of_le (by rw [List.length_append, h4, h3]; omega)
  rw [e1, e2, List.take_of_length_le (l := L.drop i) (by simp)]
  simp
theorem ins_room {α : Type} {L : List α} {x : α} {i : Nat} (hi : i < L.length) : ((L.take (i + 1) ++ (L.drop i).take (L.length - i)).take i ++ [x].take 1 ++ (L.take (i + 1) ++ (L.drop i).take (L.length - i)).drop (i + 1)) = L.take i ++ x :: L.drop i := by
  have h1 : (L.take (i + 1)).length = i + 1 := by simp; omega
  rw [List.take_append_of_le_length (by omega), List.take_take, Nat.min_eq_left (by omega), List.drop_append_of_le_length (by omega), List.drop_eq_nil_of_le (by omega), List.take_of_length_le (l := L.drop i) (by simp)]
  simp
instance : Inhabited Dep := ⟨⟨⟨#[]⟩, 0, 0⟩⟩
end Go.Proofs.YtkmjiaegbooplaaGreat
