/- The texts of HttpFull: sixty-four headers, and one more. -/
import Derived.Test.YthdmaajmgbhbmaaDoorAw
import Derived.Test.YthdmaajmgbhbmaaDoorGe
namespace Go.Proofs.YthdmaajmgbhbmaaDoor
set_option linter.unusedSimpArgs false
set_option linter.unusedVariables false
open Go.RowKit

def lineB : ByteArray := ⟨#[97, 58, 98, 13, 10]⟩
/-- The request with i headers, not ended yet. -/
def reqB : Nat → ByteArray
  | 0 => ⟨#[71, 69, 84, 32, 47, 32, 72, 84, 84, 80, 47, 49, 46, 48, 13, 10]⟩
  | i + 1 => reqB i ++ lineB
theorem reqB_size : ∀ i, (reqB i).size = 16 + 5 * i
  | 0 => rfl
  | i + 1 => by
    show (reqB i ++ lineB).size = _
    rw [ByteArray.size_append, reqB_size i]
    show 16 + 5 * i + 5 = _
    omega
def lineL : List UInt8 := [97, 58, 98, 13, 10]
def reqL (n : Nat) : List UInt8 := [71, 69, 84, 32, 47, 32, 72, 84, 84, 80, 47, 49, 46, 48, 13, 10] ++ (List.replicate n lineL).flatten ++ [13, 10]
def sF (n : Nat) : ByteArray := ⟨(reqL n).toArray⟩
theorem req_64 : reqB 64 ++ ⟨#[13, 10]⟩ = sF 64 := by kernel_rfl
theorem req_65 : reqB 65 ++ ⟨#[13, 10]⟩ = sF 65 := by kernel_rfl
theorem sF_size64 : (sF 64).size = 338 := by kernel_rfl
theorem sF_size65 : (sF 65).size = 343 := by kernel_rfl
theorem at_l (l : List UInt8) (i : Nat) (h : i < (⟨l.toArray⟩ : ByteArray).size) : (⟨l.toArray⟩ : ByteArray)[i] = l.getD i 0 := by
  have h' : i < l.length := by have e : (⟨l.toArray⟩ : ByteArray).size = l.length := by show l.toArray.size = _; simp
                               omega
  simp only [List.getD, List.getElem?_eq_getElem h', Option.getD_some]
  rfl
theorem byte_at (n i : Nat) (c : UInt8) (h : i < (sF n).size) (e : (reqL n).getD i 0 = c) : (sF n)[i] = c := by
  rw [← e]; exact at_l _ i h
/-- Header i stands at 16 + 5 i. -/
theorem hdr_bytes (n : Nat) (hn : n = 64 ∨ n = 65) : ∀ i, i < 64 → (reqL n).getD (16 + 5 * i) 0 = 97 ∧ (reqL n).getD (16 + 5 * i + 1) 0 = 58 ∧ (reqL n).getD (16 + 5 * i + 2) 0 = 98 ∧ (reqL n).getD (16 + 5 * i + 3) 0 = 13 ∧ (reqL n).getD (16 + 5 * i + 4) 0 = 10 := by
  rcases hn with rfl | rfl
  · exact (show ∀ i, i < 64 → _ from by decide +kernel)
  · exact (show ∀ i, i < 64 → _ from by decide +kernel)
theorem hdr_at (n : Nat) (hn : n = 64 ∨ n = 65) (hsz : 338 ≤ (sF n).size) (i : Nat) (hi : i < 64) : HdrAt (sF n) (16 + 5 * i) (16 + 5 * i + 1) (16 + 5 * i + 2) (16 + 5 * i + 3) := by
  obtain ⟨e0, e1, e2, e3, e4⟩ := hdr_bytes n hn i hi
  refine ⟨by omega, by omega, by omega, by omega, fun j h1 h2 h => ?_, fun h => byte_at n _ _ h e1, fun j h1 h2 h => by omega, fun h => ?_, fun j h1 h2 h => ?_, fun h => byte_at n _ _ h e3, fun h => byte_at n _ _ h e4⟩
  · obtain rfl : j = 16 + 5 * i := by omega
    rw [byte_at n _ _ h e0]; decide
  · rw [byte_at n _ _ h e2]; decide
  · obtain rfl : j = 16 + 5 * i + 2 := by omega
    rw [byte_at n _ _ h e2]; decide
/-- The headers from number i on. -/
def hlist : Nat → Nat → List (Nat × Nat × Nat)
  | _, 0 => []
  | i, r + 1 => (16 + 5 * i + 1, 16 + 5 * i + 2, 16 + 5 * i + 3) :: hlist (i + 1) r
theorem hlist_length : ∀ r i, (hlist i r).length = r
  | 0, _ => rfl
  | r + 1, i => by simp [hlist, hlist_length r]
theorem hdrs_at (n : Nat) (hn : n = 64 ∨ n = 65) (hsz : 338 ≤ (sF n).size) : ∀ r i, i + r = 64 → Hdrs (sF n) (16 + 5 * i) (hlist i r) 336
  | 0, i, h => by
    show 16 + 5 * i = 336
    omega
  | r + 1, i, h => by
    refine ⟨hdr_at n hn hsz i (by omega), ?_⟩
    have := hdrs_at n hn hsz r (i + 1) (by omega)
    rw [show 16 + 5 * (i + 1) = 16 + 5 * i + 3 + 2 by omega] at this
    exact this
theorem req_head (n : Nat) (hn : n = 64 ∨ n = 65) : (reqL n).getD 0 0 = 71 ∧ (reqL n).getD 1 0 = 69 ∧ (reqL n).getD 2 0 = 84 ∧ (reqL n).getD 3 0 = 32 ∧ (reqL n).getD 4 0 = 47 ∧ (reqL n).getD 13 0 = 48 ∧ (reqL n).getD 14 0 = 13 ∧ (reqL n).getD 15 0 = 10 := by
  rcases hn with rfl | rfl <;> decide +kernel
theorem req_vers (n : Nat) (hn : n = 64 ∨ n = 65) : ∀ i, (h : i < httpB.size) → (reqL n).getD (5 + i) 0 = httpB[i] := by
  intro i h
  have hi8 : i < 8 := h
  rcases hn with rfl | rfl <;> rcases (by omega : i = 0 ∨ i = 1 ∨ i = 2 ∨ i = 3 ∨ i = 4 ∨ i = 5 ∨ i = 6 ∨ i = 7) with rfl | rfl | rfl | rfl | rfl | rfl | rfl | rfl <;> rfl
theorem req_at (n : Nat) (hn : n = 64 ∨ n = 65) (hsz : 338 ≤ (sF n).size) : ReqAt (sF n) 3 5 0 := by
  obtain ⟨e0, e1, e2, e3, e4, e13, e14, e15⟩ := req_head n hn
  refine ⟨by omega, by omega, by omega, by omega, fun i _ h2 h => ?_, fun h => byte_at n _ _ h e3, fun i h1 h2 h => ?_, fun i hi h1 h2 => byte_at n _ _ h1 (req_vers n hn i h2), fun h => ?_, fun h => byte_at n _ _ h e14, fun h => byte_at n _ _ h e15⟩
  · rcases (by omega : i = 0 ∨ i = 1 ∨ i = 2) with rfl | rfl | rfl
    · rw [byte_at n _ _ h e0]; decide
    · rw [byte_at n _ _ h e1]; decide
    · rw [byte_at n _ _ h e2]; decide
  · obtain rfl : i = 4 := by omega
    rw [byte_at n _ _ h e4]; decide
  · refine Or.inr ⟨?_, rfl⟩
    rw [byte_at n (5 + 8) _ h e13]; decide
/-- The headers that are read. -/
def pF : HL := List.replicate 64 (⟨#[97]⟩, ⟨#[98]⟩)
theorem hv_64 : hv (sF 64) (5 + 11) (hlist 0 64) = (List.replicate 64 [Value.string ⟨#[97]⟩, .string ⟨#[98]⟩]).flatten := by kernel_rfl
theorem pF_cells : ∀ j, (hj : j < 64) → ((List.replicate 64 [Value.string ⟨#[97]⟩, .string ⟨#[98]⟩]).flatten)[j * 2]? = some (.string ⟨#[97]⟩) ∧ ((List.replicate 64 [Value.string ⟨#[97]⟩, .string ⟨#[98]⟩]).flatten)[j * 2 + 1]? = some (.string ⟨#[98]⟩) := by
  intro j hj
  have h : ∀ (n j : Nat), j < n → ((List.replicate n [Value.string ⟨#[97]⟩, .string ⟨#[98]⟩]).flatten)[j * 2]? = some (.string ⟨#[97]⟩) ∧ ((List.replicate n [Value.string ⟨#[97]⟩, .string ⟨#[98]⟩]).flatten)[j * 2 + 1]? = some (.string ⟨#[98]⟩) := by
    intro n
    induction n with
    | zero => intro j h; omega
    | succ n ih =>
      intro j h
      rw [List.replicate_succ, List.flatten_cons]
      cases j with
      | zero => exact ⟨rfl, rfl⟩
      | succ j =>
        have := ih j (by omega)
        rw [show (j + 1) * 2 = j * 2 + 2 by omega]
        exact this
  exact h 64 j hj
theorem got_F : gR (smallB ⟨#[65]⟩) pF (⟨#[]⟩, 0) = (⟨#[98]⟩, 64) := by kernel_rfl
end Go.Proofs.YthdmaajmgbhbmaaDoor
