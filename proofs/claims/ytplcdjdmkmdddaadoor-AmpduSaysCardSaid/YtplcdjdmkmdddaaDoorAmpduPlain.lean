/-
  Frames that go together, in plain Lean: packing, finding.
-/
import Derived.Test.YtplcdjdmkmdddaaDoorCrcPlain
namespace Go.Proofs.YtplcdjdmkmdddaaDoor
open Go.ChangeShapes Go.WideShapes Go.ChangeAt Go.RowKit
set_option linter.unusedVariables false

def up4 (n : Nat) : Nat := (n + 3) / 4 * 4
def hdB (n : Nat) : List UInt8 := [UInt8.ofNat (n * 16), UInt8.ofNat (n * 16 / 256)]
/-- a delimiter -/
def delim (n : Nat) : List UInt8 := Crc.sealed (hdB n) ++ [78]
def pad4 (n : Nat) : List UInt8 := List.replicate (up4 n - n) 0
def packF (out x : List UInt8) : List UInt8 := out ++ pad4 out.length ++ delim x.length ++ x
def packP (L : List (List UInt8)) : List UInt8 := L.foldl packF []
def enc (x : List UInt8) : List UInt8 := delim x.length ++ x
def encp (x : List UInt8) : List UInt8 := enc x ++ pad4 x.length
theorem delim_len (n : Nat) : (delim n).length = 4 := by simp [delim, hdB, Crc.sealed]
theorem enc_len (x : List UInt8) : (enc x).length = 4 + x.length := by simp [enc, delim_len]
theorem pad4_len (n : Nat) : (pad4 n).length = up4 n - n := by simp [pad4]
theorem up4_le (n : Nat) : n ≤ up4 n := by unfold up4; omega
theorem encp_len (x : List UInt8) : (encp x).length = 4 + up4 x.length := by
  rw [encp, List.length_append, enc_len, pad4_len]; have := up4_le x.length; omega
theorem flat_mod (L : List (List UInt8)) : (L.flatMap encp).length % 4 = 0 := by
  induction L with
  | nil => rfl
  | cons x L ih => rw [List.flatMap_cons, List.length_append, encp_len]; unfold up4; omega
theorem pack_snoc (L : List (List UInt8)) (x : List UInt8) : packP (L ++ [x]) = packP L ++ pad4 (packP L).length ++ delim x.length ++ x := by simp [packP, packF]
theorem pad_mod {m n : Nat} (h : m % 4 = 0) : pad4 (m + n) = pad4 n := by unfold pad4 up4; congr 1; omega
theorem snoc_ind {α : Type} {P : List α → Prop} (h0 : P []) (h : ∀ L x, P L → P (L ++ [x])) (L : List α) : P L := by
  have key : ∀ R : List α, P R.reverse := by
    intro R
    induction R with
    | nil => exact h0
    | cons x R ih => rw [List.reverse_cons]; exact h _ _ ih
  have := key L.reverse
  rwa [List.reverse_reverse] at this
theorem snoc_or {α : Type} (L : List α) : L = [] ∨ ∃ M x, L = M ++ [x] := snoc_ind (P := fun L => L = [] ∨ ∃ M x, L = M ++ [x]) (Or.inl rfl) (fun L x _ => Or.inr ⟨L, x, rfl⟩) L
theorem pack_flat (L : List (List UInt8)) : packP L ++ pad4 (packP L).length = L.flatMap encp := by
  refine snoc_ind (P := fun L => packP L ++ pad4 (packP L).length = L.flatMap encp) rfl (fun L x ih => ?_) L
  · show _ = _
    rw [pack_snoc, List.flatMap_append, List.flatMap_cons, List.flatMap_nil, List.append_nil, encp, enc, ih]
    have e : (L.flatMap encp ++ delim x.length ++ x).length = ((L.flatMap encp).length + 4) + x.length := by
      simp only [List.length_append, delim_len]
    rw [e, pad_mod (by have := flat_mod L; omega)]
    simp only [List.append_assoc]
theorem pack_last (L : List (List UInt8)) (x : List UInt8) : packP (L ++ [x]) = L.flatMap encp ++ enc x := by
  rw [pack_snoc, pack_flat, enc, List.append_assoc]

def numB (b : List UInt8) : Nat := (b.getD 0 0).toNat + 256 * (b.getD 1 0).toNat
/-- the frame that bytes begin with, or the error's place: 0 End, 1 Shape, 5 Sum -/
def partP (b : List UInt8) : Except Nat (List UInt8) :=
  if b.length < 4 then .error 0
  else if Crc.fits (b.take 3) = false then .error 5
  else if b.getD 3 0 ≠ 78 ∨ numB b % 16 ≠ 0 ∨ numB b / 16 = 0 then .error 1
  else if b.length - 4 < numB b / 16 then .error 0
  else .ok ((b.drop 4).take (numB b / 16))
theorem part_ok {b x : List UInt8} (h : partP b = .ok x) : 4 ≤ b.length ∧ x = (b.drop 4).take x.length ∧ 1 ≤ x.length ∧ 4 + x.length ≤ b.length ∧ x.length ≤ 4095 := by
  unfold partP at h
  split at h
  · cases h
  · split at h
    · cases h
    · split at h
      · cases h
      · split at h
        · cases h
        · injection h with h
          have hl : x.length = numB b / 16 := by rw [← h, List.length_take, List.length_drop]; omega
          have hn : numB b < 65536 := by
            unfold numB
            have h1 := UInt8.toNat_lt (b.getD 0 0)
            have h2 := UInt8.toNat_lt (b.getD 1 0)
            omega
          refine ⟨by omega, by rw [hl]; exact h.symm, by omega, by omega, by omega⟩
theorem num_delim (n : Nat) (h : n ≤ 4095) (r : List UInt8) : numB (delim n ++ r) = n * 16 := by
  simp only [numB, delim, hdB, Crc.sealed, List.cons_append, List.nil_append, List.getD_cons_zero, List.getD_cons_succ]
  rw [UInt8.toNat_ofNat', UInt8.toNat_ofNat']
  omega
theorem part_enc {x : List UInt8} (h1 : 1 ≤ x.length) (h2 : x.length ≤ 4095) (r : List UInt8) : partP (enc x ++ r) = .ok x := by
  have hl := enc_len x
  have e3 : (enc x ++ r).take 3 = Crc.sealed (hdB x.length) := by
    simp [enc, delim, Crc.sealed, hdB]
  have e4 : (enc x ++ r).getD 3 0 = 78 := by simp [enc, delim, Crc.sealed, hdB]
  have en : numB (enc x ++ r) = x.length * 16 := by rw [enc, List.append_assoc]; exact num_delim _ h2 _
  have ed : (enc x ++ r).drop 4 = x ++ r := by
    rw [enc, List.append_assoc, List.drop_append_of_le_length (by rw [delim_len]; exact Nat.le_refl _), List.drop_of_length_le (by rw [delim_len]; exact Nat.le_refl _), List.nil_append]
  unfold partP
  rw [if_neg (by rw [List.length_append, hl]; omega), e3, if_neg (by rw [Crc.fits_sealed]; simp), e4, en, if_neg (by rintro (h | h | h); exact h rfl; omega; omega), if_neg (by rw [List.length_append, hl]; omega), ed]
  rw [show x.length * 16 / 16 = x.length by omega, List.take_left']
  rfl

/-- what a receiver finds -/
def unpackP (b : List UInt8) : List (List UInt8) :=
  if h : b.length < 4 then [] else
    match partP b with
    | .error _ => unpackP (b.drop 4)
    | .ok x => x :: unpackP (b.drop (4 + up4 x.length))
termination_by b.length
decreasing_by all_goals (simp only [List.length_drop]; omega)
theorem unpack_short {b : List UInt8} (h : b.length < 4) : unpackP b = [] := by rw [unpackP, dif_pos h]
theorem unpack_err {b : List UInt8} (h : ¬ b.length < 4) {e : Nat} (hp : partP b = .error e) : unpackP b = unpackP (b.drop 4) := by rw [unpackP, dif_neg h, hp]
theorem unpack_ok {b x : List UInt8} (hp : partP b = .ok x) : unpackP b = x :: unpackP (b.drop (4 + up4 x.length)) := by
  rw [unpackP, dif_neg (by have := (part_ok hp).1; omega), hp]
def goodL (L : List (List UInt8)) : Prop := ∀ x ∈ L, 1 ≤ x.length ∧ x.length ≤ 4095
theorem unpack_flat {L : List (List UInt8)} (h : goodL L) (r : List UInt8) : unpackP (L.flatMap encp ++ r) = L ++ unpackP r := by
  induction L with
  | nil => simp
  | cons x L ih =>
    obtain ⟨h1, h2⟩ := h x (List.mem_cons_self ..)
    have e : ((x :: L).flatMap encp ++ r) = enc x ++ (pad4 x.length ++ (L.flatMap encp ++ r)) := by
      rw [List.flatMap_cons, encp]; simp only [List.append_assoc]
    rw [e, unpack_ok (part_enc h1 h2 _), List.cons_append, ← ih (fun y hy => h y (List.mem_cons_of_mem _ hy))]
    congr 1
    rw [← List.append_assoc, List.drop_append_of_le_length (by rw [List.length_append, enc_len, pad4_len]; have := up4_le x.length; omega),
      List.drop_of_length_le (by rw [List.length_append, enc_len, pad4_len]; have := up4_le x.length; omega), List.nil_append]
theorem unpack_pack {L : List (List UInt8)} (h : goodL L) : unpackP (packP L) = L := by
  rcases snoc_or L with rfl | ⟨M, x, rfl⟩
  · exact unpack_short (by decide)
  · rw [pack_last]
    have hM : goodL M := fun y hy => h y (List.mem_append_left _ hy)
    obtain ⟨h1, h2⟩ := h x (List.mem_append_right _ (List.mem_cons_self ..))
    have e := part_enc h1 h2 []
    rw [List.append_nil] at e
    rw [unpack_flat hM, unpack_ok e, unpack_short (by rw [List.length_drop, enc_len]; have := up4_le x.length; omega)]

/-- the parts, one behind the other, or the error's place -/
def ptsP (b : List UInt8) : Except Nat (List (List UInt8)) :=
  if h : b.length = 0 then .ok [] else
    match hp : partP b with
    | .error e => .error e
    | .ok x =>
      if ((b.drop (4 + x.length)).take (up4 x.length - x.length)).any (fun c => c != 0) = true then .error 1
      else if 0 < min (b.length - (4 + x.length)) (up4 x.length - x.length) ∧ b.length - (4 + x.length) = min (b.length - (4 + x.length)) (up4 x.length - x.length) then .error 0
      else match ptsP (b.drop (4 + up4 x.length)) with
        | .error e => .error e
        | .ok l => .ok (x :: l)
termination_by b.length
decreasing_by all_goals (have := part_ok hp; simp only [List.length_drop]; omega)
theorem pts_nil : ptsP [] = .ok [] := by rw [ptsP, dif_pos (show ([] : List UInt8).length = 0 from rfl)]
theorem pts_err {b : List UInt8} {e : Nat} (h : b ≠ []) (hp : partP b = .error e) : ptsP b = .error e := by
  rw [ptsP, dif_neg (by intro x; exact h (List.eq_nil_of_length_eq_zero x))]
  split
  · rename_i e' he; rw [hp] at he; injection he with he; rw [he]
  · rename_i x hx; rw [hp] at hx; cases hx
theorem pts_ok {b x : List UInt8} (hp : partP b = .ok x) : ptsP b =
    if ((b.drop (4 + x.length)).take (up4 x.length - x.length)).any (fun c => c != 0) = true then .error 1
    else if 0 < min (b.length - (4 + x.length)) (up4 x.length - x.length) ∧ b.length - (4 + x.length) = min (b.length - (4 + x.length)) (up4 x.length - x.length) then .error 0
    else match ptsP (b.drop (4 + up4 x.length)) with
      | .error e => .error e
      | .ok l => .ok (x :: l) := by
  rw [ptsP, dif_neg (by have := (part_ok hp).1; omega)]
  split
  · rename_i e' he; rw [hp] at he; cases he
  · rename_i y hy; rw [hp] at hy; injection hy with hy; subst hy; rfl
def partsP (b : List UInt8) : Except Nat (List (List UInt8)) :=
  if b = [] then .error 1 else
    match ptsP b with
    | .error e => .error e
    | .ok l => if 64 < l.length ∨ 65535 < b.length then .error 3 else .ok l
theorem pad_zero (n : Nat) : (pad4 n).any (fun c => c != 0) = false := by
  rw [List.any_eq_false]
  intro c hc
  rw [pad4] at hc
  rw [List.eq_of_mem_replicate hc]
  simp
theorem pts_step {x : List UInt8} (h1 : 1 ≤ x.length) (h2 : x.length ≤ 4095) {r : List UInt8} (hr : r ≠ []) : ptsP (encp x ++ r) =
    match ptsP r with
    | .error e => .error e
    | .ok l => .ok (x :: l) := by
  have e : encp x ++ r = enc x ++ (pad4 x.length ++ r) := by rw [encp, List.append_assoc]
  have hle := up4_le x.length
  rw [e, pts_ok (part_enc h1 h2 _)]
  have d1 : (enc x ++ (pad4 x.length ++ r)).drop (4 + x.length) = pad4 x.length ++ r := by
    rw [List.drop_append_of_le_length (by rw [enc_len]; exact Nat.le_refl _), List.drop_of_length_le (by rw [enc_len]; exact Nat.le_refl _), List.nil_append]
  have d2 : (pad4 x.length ++ r).take (up4 x.length - x.length) = pad4 x.length := by rw [List.take_left' (pad4_len _)]
  have d3 : (enc x ++ (pad4 x.length ++ r)).drop (4 + up4 x.length) = r := by
    rw [← List.append_assoc, List.drop_append_of_le_length (by rw [List.length_append, enc_len, pad4_len]; omega), List.drop_of_length_le (by rw [List.length_append, enc_len, pad4_len]; omega), List.nil_append]
  have hr0 : 0 < r.length := List.length_pos_iff.2 hr
  have dl : (enc x ++ (pad4 x.length ++ r)).length = 4 + x.length + (up4 x.length - x.length) + r.length := by
    simp only [List.length_append, enc_len, pad4_len]; omega
  rw [d1, d2, pad_zero, if_neg (by simp), d3, if_neg (by rw [dl]; omega)]
theorem pts_last {x : List UInt8} (h1 : 1 ≤ x.length) (h2 : x.length ≤ 4095) : ptsP (enc x) = .ok [x] := by
  have e := part_enc h1 h2 []
  rw [List.append_nil] at e
  rw [pts_ok e, enc_len, List.drop_of_length_le (by rw [enc_len]; exact Nat.le_refl _)]
  rw [if_neg (by simp), if_neg (by omega), List.drop_of_length_le (by rw [enc_len]; have := up4_le x.length; omega), pts_nil]
theorem pts_flat {L : List (List UInt8)} (h : goodL L) {r : List UInt8} (hr : r ≠ []) : ptsP (L.flatMap encp ++ r) =
    match ptsP r with
    | .error e => .error e
    | .ok l => .ok (L ++ l) := by
  induction L with
  | nil => simp only [List.flatMap_nil, List.nil_append]; cases ptsP r <;> rfl
  | cons x L ih =>
    obtain ⟨h1, h2⟩ := h x (List.mem_cons_self ..)
    rw [List.flatMap_cons, List.append_assoc, pts_step h1 h2 (by intro e; exact hr (List.append_eq_nil_iff.1 e).2), ih (fun y hy => h y (List.mem_cons_of_mem _ hy))]
    cases ptsP r <;> rfl
theorem enc_ne (x : List UInt8) : enc x ≠ [] := by intro e; have := enc_len x; rw [e] at this; simp at this; omega
theorem pts_pack {L : List (List UInt8)} (h : goodL L) : ptsP (packP L) = .ok L := by
  rcases snoc_or L with rfl | ⟨M, x, rfl⟩
  · exact pts_nil
  · rw [pack_last, pts_flat (fun y hy => h y (List.mem_append_left _ hy)) (enc_ne x)]
    obtain ⟨h1, h2⟩ := h x (List.mem_append_right _ (List.mem_cons_self ..))
    rw [pts_last h1 h2]
/-- words of which none is a delimiter are passed over -/
theorem unpack_junk (y r : List UInt8) (h4 : y.length % 4 = 0) (h : ∀ i, i < y.length → i % 4 = 3 → y.getD i 0 ≠ 78) : unpackP (y ++ r) = unpackP r := by
  obtain ⟨k, hk⟩ : ∃ k, y.length = 4 * k := ⟨y.length / 4, by omega⟩
  induction k generalizing y with
  | zero => rw [List.eq_nil_of_length_eq_zero (by omega : y.length = 0)]; rfl
  | succ k ih =>
    have hl : ¬ (y ++ r).length < 4 := by rw [List.length_append]; omega
    have h3 : (y ++ r).getD 3 0 ≠ 78 := by
      have := h 3 (by omega) rfl
      rwa [show (y ++ r).getD 3 0 = y.getD 3 0 by rw [List.getD_eq_getElem?_getD, List.getD_eq_getElem?_getD, List.getElem?_append_left (by omega)]]
    obtain ⟨e, he⟩ : ∃ e, partP (y ++ r) = .error e := by
      unfold partP
      rw [if_neg hl]
      split
      · exact ⟨_, rfl⟩
      · rw [if_pos (.inl h3)]; exact ⟨_, rfl⟩
    rw [unpack_err hl he, List.drop_append_of_le_length (by omega)]
    refine ih (y.drop 4) (by rw [List.length_drop]; omega) (fun i hi hi4 => ?_) (by rw [List.length_drop]; omega)
    rw [List.length_drop] at hi
    have := h (4 + i) (by omega) (by omega)
    rwa [show (y.drop 4).getD i 0 = y.getD (4 + i) 0 by simp [List.getD_eq_getElem?_getD, List.getElem?_drop]]
end Go.Proofs.YtplcdjdmkmdddaaDoor
