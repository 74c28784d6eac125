/-
  A torn delimiter, in plain Lean: what a receiver finds, what Parts says.
-/
import Derived.Test.YtplcdjdmkmdddaaDoorAmpduPlain
namespace Go.Proofs.YtplcdjdmkmdddaaDoor
open Go.ChangeShapes Go.WideShapes Go.ChangeAt Go.RowKit
set_option linter.unusedVariables false

/-- a delimiter whose sign is away -/
def tornD (n : Nat) : List UInt8 := Crc.sealed (hdB n) ++ [0]
theorem tornD_len (n : Nat) : (tornD n).length = 4 := by simp [tornD, hdB, Crc.sealed]
theorem delim_set (n : Nat) : (delim n).set 3 0 = tornD n := by simp [delim, tornD, hdB, Crc.sealed]
/-- what lies behind a part -/
def tailP (n : Nat) (R : List (List UInt8)) : List UInt8 := if R = [] then [] else pad4 n ++ packP R
theorem pack_mid (M : List (List UInt8)) (x : List UInt8) (R : List (List UInt8)) : packP (M ++ [x] ++ R) = M.flatMap encp ++ (enc x ++ tailP x.length R) := by
  rcases snoc_or R with rfl | ⟨R', y, rfl⟩
  · rw [List.append_nil, pack_last, tailP, if_pos rfl, List.append_nil]
  · rw [tailP, if_neg (by simp), ← List.append_assoc, pack_last, pack_last, List.flatMap_append, List.flatMap_append, List.flatMap_cons, List.flatMap_nil, List.append_nil, encp]
    simp only [List.append_assoc]
theorem torn_set (M : List (List UInt8)) (x : List UInt8) (R : List (List UInt8)) (p : Nat) (hp : p = (M.flatMap encp).length + 3) : (packP (M ++ [x] ++ R)).set p 0 = M.flatMap encp ++ (tornD x.length ++ (x ++ tailP x.length R)) := by
  rw [pack_mid, hp, List.set_append_right _ _ (by omega), Nat.add_sub_cancel_left, enc, List.append_assoc, List.set_append_left _ _ (by rw [delim_len]; omega), delim_set]
/-- words of which none is a delimiter, and what is left -/
theorem unpack_none (y : List UInt8) (h : ∀ i, i < y.length → i % 4 = 3 → y.getD i 0 ≠ 78) : unpackP y = [] := by
  have e := List.take_append_drop (y.length / 4 * 4) y
  have hl : (y.take (y.length / 4 * 4)).length = y.length / 4 * 4 := by rw [List.length_take]; omega
  rw [← e, unpack_junk]
  · exact unpack_short (by rw [List.length_drop]; omega)
  · rw [hl]; omega
  · intro i hi h3
    rw [hl] at hi
    have := h i (by omega) h3
    rwa [show (y.take (y.length / 4 * 4)).getD i 0 = y.getD i 0 by rw [List.getD_eq_getElem?_getD, List.getD_eq_getElem?_getD, List.getElem?_take, if_pos hi]]
theorem torn_at (n : Nat) (x r : List UInt8) (hx : ∀ c ∈ x, c ≠ 78) (hr : ∀ c ∈ r, c ≠ 78) : ∀ i, i < (tornD n ++ (x ++ r)).length → i % 4 = 3 → (tornD n ++ (x ++ r)).getD i 0 ≠ 78 := by
  intro i hi h3
  rw [List.getD_eq_getElem?_getD]
  by_cases h4 : i < 4
  · obtain rfl : i = 3 := by omega
    rw [List.getElem?_append_left (by rw [tornD_len]; omega)]
    simp [tornD, hdB, Crc.sealed]
  · rw [List.getElem?_append_right (by rw [tornD_len]; omega), tornD_len]
    have hlt : i - 4 < (x ++ r).length := by rw [List.length_append, tornD_len] at hi; omega
    rw [List.getElem?_eq_getElem hlt, Option.getD_some]
    rcases List.mem_append.1 (List.getElem_mem hlt) with h | h
    · exact hx _ h
    · exact hr _ h
theorem torn_unpack {M : List (List UInt8)} {x : List UInt8} {R : List (List UInt8)} (hM : goodL M) (hR : goodL R) (hx : ∀ c ∈ x, c ≠ 78) : unpackP (M.flatMap encp ++ (tornD x.length ++ (x ++ tailP x.length R))) = M ++ R := by
  rw [unpack_flat hM]
  congr 1
  rw [tailP]
  split
  · rename_i h
    subst h
    exact unpack_none _ (torn_at _ _ _ hx (by simp))
  · have e : tornD x.length ++ (x ++ (pad4 x.length ++ packP R)) = (tornD x.length ++ (x ++ pad4 x.length)) ++ packP R := by simp only [List.append_assoc]
    rw [e, unpack_junk _ _ ?_ (torn_at _ _ _ hx ?_), unpack_pack hR]
    · simp only [List.length_append, tornD_len, pad4_len]
      have := up4_le x.length
      unfold up4 at *
      omega
    · intro c hc
      rw [pad4] at hc
      rw [List.eq_of_mem_replicate hc]
      decide
theorem torn_part (n : Nat) (r : List UInt8) : partP (tornD n ++ r) = .error 1 := by
  have e3 : (tornD n ++ r).take 3 = Crc.sealed (hdB n) := by simp [tornD, Crc.sealed, hdB]
  have e4 : (tornD n ++ r).getD 3 0 = 0 := by simp [tornD, Crc.sealed, hdB]
  unfold partP
  rw [if_neg (by rw [List.length_append, tornD_len]; omega), e3, if_neg (by rw [Crc.fits_sealed]; simp), e4, if_pos (.inl (by decide))]
theorem torn_parts {M : List (List UInt8)} (hM : goodL M) (n : Nat) (r : List UInt8) : partsP (M.flatMap encp ++ (tornD n ++ r)) = .error 1 := by
  have hne : tornD n ++ r ≠ [] := by
    intro e
    have := congrArg List.length e
    rw [List.length_append, tornD_len] at this
    simp at this
  rw [partsP, if_neg (by intro e; exact hne (List.append_eq_nil_iff.1 e).2), pts_flat hM hne, pts_err hne (torn_part n r)]
/-- of parts that are all alike -/
theorem torn_same (X : List UInt8) (n at_ : Nat) (h : at_ < n) (hX : 1 ≤ X.length) (hX2 : X.length ≤ 4095) (hx : ∀ c ∈ X, c ≠ 78) :
    partsP ((packP (List.replicate n X)).set (at_ * (4 + up4 X.length) + 3) 0) = .error 1 ∧ (unpackP ((packP (List.replicate n X)).set (at_ * (4 + up4 X.length) + 3) 0)).length = n - 1 := by
  have e : List.replicate n X = List.replicate at_ X ++ [X] ++ List.replicate (n - 1 - at_) X := by
    rw [← List.replicate_succ', List.replicate_append_replicate]
    congr 1
    omega
  have hg : ∀ k, goodL (List.replicate k X) := fun k u hu => by rw [(List.mem_replicate.1 hu).2]; exact ⟨hX, hX2⟩
  rw [e, torn_set _ _ _ _ (by rw [List.length_flatMap]; simp [encp_len])]
  refine ⟨torn_parts (hg _) _ _, ?_⟩
  rw [torn_unpack (hg _) (hg _) hx, List.length_append, List.length_replicate, List.length_replicate]
  omega
end Go.Proofs.YtplcdjdmkmdddaaDoor
