/- strings.Split and strings.Trim (by the library's contracts), in the form in which the other functions are told. -/
import Derived.Test.YtgdnagncjlajnaaDoorPAllx0
import Derived.Test.YtgdnagncjlajnaaDoorShelf
import Derived.Lib.SplitLaws
namespace Go.Proofs.YtgdnagncjlajnaaDoor.PAll
open Go.RowKit Go.Proofs.YtgdnagncjlajnaaDoorW.PrintWords Go.Proofs.YtgdnagncjlajnaaDoorW.PrintLast Go.Proofs.YtgdnagncjlajnaaDoorW.PrintMore

/-- What the calls want of the world in which they begin: the library's one number is there. -/
def GInv (w : World) : Prop := ∃ m : Int, w.cell? ⟨2, 0, none⟩ = some (.int .i64 m)
theorem GInv.below {w w' : World} (h : GInv w) (hb : Below w.heap.size w w') : GInv w' := by
  obtain ⟨m, hm⟩ := h
  exact ⟨m, pw_cell_below hb hm⟩
theorem GInv.drewN {w : World} (h : GInv w) (n : Nat) : GInv (w.drewN n) := h

/-- A new row of texts is one of the call's own. -/
theorem strs_new (w : World) (ps : List ByteArray) (e : TypeId) (n : Nat) (hn : ps.length = n) (hm : n ≤ maxLen) :
    Kd.R Kd.string e (w.alloc (.cells (List.map Value.string ps).toArray e)) w.heap.size (fun _ => True) (.slice (some ⟨w.heap.size, 0, none⟩) n n) ps := by
  subst hn
  refine Kd.R_of_own ⟨by simp [encs], .inr ⟨w.heap.size, ps.length, (List.map Value.string ps).toArray, rfl, Nat.le_refl _, by simpa using heap_alloc_new w _, Nat.le_refl _, hm, by simp, by simp only [encs, Nat.mul_one]; exact List.take_of_length_le (by simp)⟩⟩ (fun _ _ => trivial)

def strings_Split.f (a0 a1 : ByteArray) : Option (List ByteArray) := if a0.size < 4294967281 then (if 1 ≤ a1.size then some (Lib.splitB a1 0 (Lib.countB a0 a1) a0) else none) else none
theorem strings_Split.calls (a0 a1 : ByteArray) (r : List ByteArray) (w : World) (hG : GInv w) (h : strings_Split.f a0 a1 = some r) :
    Calls Tryd.prog 19 #[.string a0, .string a1] w fun e w' => ∃ v0_ : Value, e = .returned (v0_) ∧ Kd.R Kd.string 9 w' w.heap.size (fun _ => True) v0_ r ∧ Below w.heap.size w w' := by
  unfold strings_Split.f at h
  by_cases h1 : a0.size < 4294967281
  · rw [if_pos h1] at h
    by_cases h2 : 1 ≤ a1.size
    · rw [if_pos h2] at h
      injection h with h
      subst h
      obtain ⟨m, hm⟩ := hG
      refine (Tryd.strings_Split a0 a1 m w h1 hm h2).mono ?_
      rintro e w' ⟨rfl, rfl⟩
      have hc := Lib.countB_le a1 h2 a0.size a0 (Nat.le_refl _)
      exact ⟨_, rfl, strs_new w _ 9 _ (Lib.splitB_all a1 h2 0 _ a0 rfl) (by simp only [maxLen]; omega), below_alloc (Below.refl _ _) _⟩
    · rw [if_neg h2] at h; cases h
  · rw [if_neg h1] at h; cases h

def strings_Trim.f (a0 a1 : ByteArray) : Option ByteArray := if a1.size = 1 then (if (a1.data.toList.getD 0 0).toNat < 128 then (if a0.size ≤ 9223372036854775807 then some ⟨(Lib.trimB a0.data.toList (a1.data.toList.getD 0 0)).toArray⟩ else none) else none) else none
theorem strings_Trim.calls (a0 a1 : ByteArray) (r : ByteArray) (w : World) (h : strings_Trim.f a0 a1 = some r) :
    Calls Tryd.prog 17 #[.string a0, .string a1] w fun e w' => e = .returned (.string r) ∧ Drawn0 w w' := by
  unfold strings_Trim.f at h
  by_cases h1 : a1.size = 1
  · rw [if_pos h1] at h
    obtain ⟨c, rfl⟩ : ∃ c, a1 = ⟨#[c]⟩ := by
      obtain ⟨⟨l⟩⟩ := a1
      match l, h1 with
      | [c], _ => exact ⟨c, rfl⟩
    by_cases h2 : ((⟨#[c]⟩ : ByteArray).data.toList.getD 0 0).toNat < 128
    · rw [if_pos h2] at h
      by_cases h3 : a0.size ≤ 9223372036854775807
      · rw [if_pos h3] at h
        injection h with h
        subst h
        refine (Tryd.strings_Trim_one a0 c h2 w h3).mono ?_
        rintro e w' ⟨rfl, rfl | rfl⟩
        · exact ⟨rfl, Drawn0.refl _⟩
        · exact ⟨rfl, (Drawn0.refl w).step 1⟩
      · rw [if_neg h3] at h; cases h
    · rw [if_neg h2] at h; cases h
  · rw [if_neg h1] at h; cases h

end Go.Proofs.YtgdnagncjlajnaaDoor.PAll
