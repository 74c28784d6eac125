/-
  Parts that are cut off, in plain Lean.
-/
import Derived.Test.YtplcdjdmkmdddaaDoorLight
import Derived.Test.YtplcdjdmkmdddaaDoorTornPlain
namespace Go.Proofs.YtplcdjdmkmdddaaDoor
open Go.ChangeShapes Go.WideShapes Go.ChangeAt Go.RowKit
set_option linter.unusedVariables false

theorem packR_inv {L : List (List UInt8)} {b : List UInt8} (h : packR L = .ok b) : b = packP L ∧ goodL L ∧ L ≠ [] ∧ L.length ≤ 64 ∧ (packP L).length ≤ 65535 := by
  unfold packR at h
  split at h
  · cases h
  · rename_i h1
    split at h
    · cases h
    · rename_i h2
      split at h
      · cases h
      · rename_i h3
        injection h with h
        rw [agg_pack] at h3
        refine ⟨h.symm, fun x hx => ?_, h2, by omega, by omega⟩
        refine bad_no ?_
        rcases hb : badX x with _ | _
        · rfl
        · exact absurd (List.any_eq_true.2 ⟨x, hx, hb⟩) h1
theorem pack_ne {L : List (List UInt8)} (h : L ≠ []) : 4 < (packP L).length + 1 ∧ packP L ≠ [] := by
  rcases snoc_or L with rfl | ⟨M, x, rfl⟩
  · exact absurd rfl h
  · have : 4 ≤ (packP (M ++ [x])).length := by rw [pack_last, List.length_append, enc_len]; omega
    exact ⟨by omega, by intro e; rw [e] at this; simp at this⟩
theorem parts_pack {L : List (List UInt8)} (hg : goodL L) (h0 : L ≠ []) (h1 : L.length ≤ 64) (h2 : (packP L).length ≤ 65535) : partsP (packP L) = .ok L :=
  parts_ok (pack_ne h0).2 (pts_pack hg) (by omega)

/-- where the first parts end, with what fills up -/
def atP (L : List (List UInt8)) (j : Nat) : Nat := ((L.take j).flatMap encp).length
theorem atP_zero (L : List (List UInt8)) : atP L 0 = 0 := rfl
theorem atP_succ {L : List (List UInt8)} {j : Nat} {x : List UInt8} (h : L[j]? = some x) : atP L (j + 1) = (atP L j + 4 + x.length + 3) / 4 * 4 := by
  unfold atP
  rw [takeL h, List.flatMap_append, List.length_append, List.flatMap_cons, List.flatMap_nil, List.append_nil, encp_len]
  have := flat_mod (L.take j)
  unfold up4
  omega
theorem atP_le (L : List (List UInt8)) (j : Nat) : atP L j ≤ (packP L).length + 3 := by
  have h := pack_flat L
  have h1 : atP L j ≤ (L.flatMap encp).length := by
    unfold atP
    conv => rhs; rw [← List.take_append_drop j L, List.flatMap_append, List.length_append]
    omega
  rw [← h, List.length_append, pad4_len] at h1
  unfold up4 at h1
  omega
/-- the first parts lie whole in so many bytes -/
def fitTo (L : List (List UInt8)) (j c : Nat) : Prop := j = 0 ∨ ∃ i x, j = i + 1 ∧ L[i]? = some x ∧ atP L i + 4 + x.length ≤ c
theorem fit_cut {L : List (List UInt8)} (hg : goodL L) {j c : Nat} (h : fitTo L j c) : ∃ R, unpackP ((packP L).take c) = L.take j ++ R := by
  rcases h with rfl | ⟨i, x, rfl, hx, hc⟩
  · exact ⟨_, rfl⟩
  · obtain ⟨hi, rfl⟩ := List.getElem?_eq_some_iff.1 hx
    have e : L = L.take i ++ [L[i]] ++ L.drop (i + 1) := by
      rw [← List.take_succ_eq_append_getElem hi, List.take_append_drop]
    have hM : goodL (L.take i) := fun y hy => hg y (List.mem_of_mem_take hy)
    obtain ⟨h1, h2⟩ := hg L[i] (List.getElem_mem hi)
    have hp : packP L = (L.take i).flatMap encp ++ (enc L[i] ++ tailP L[i].length (L.drop (i + 1))) := by
      conv => lhs; rw [e]
      exact pack_mid _ _ _
    unfold atP at hc
    have hd : ∃ d, c = ((L.take i).flatMap encp).length + ((enc L[i]).length + d) := ⟨c - (((L.take i).flatMap encp).length + (enc L[i]).length), by rw [enc_len]; omega⟩
    obtain ⟨d, rfl⟩ := hd
    rw [hp, List.take_length_add_append, List.take_length_add_append, unpack_flat hM, unpack_ok (part_enc h1 h2 _), takeL hx]
    exact ⟨_, by rw [List.append_assoc]; rfl⟩
end Go.Proofs.YtplcdjdmkmdddaaDoor
