/- A status's word, the program's and the document's. -/
import Derived.Test.YtpjjkejppgehaaaGreatDoorHa
import Derived.Maps.Own
namespace Go.Proofs.YtpjjkejppgehaaaGreatDoor
set_option linter.unusedSimpArgs false
set_option linter.unusedVariables false
open Go.RowKit Go.Maps

/-- The word. -/
def wordB (n : Int) : ByteArray :=
  if n = 200 then ⟨#[79, 75]⟩ else if n = 302 then ⟨#[70, 111, 117, 110, 100]⟩ else if n = 400 then ⟨#[66, 97, 100, 32, 82, 101, 113, 117, 101, 115, 116]⟩ else if n = 404 then ⟨#[78, 111, 116, 32, 70, 111, 117, 110, 100]⟩
  else if n = 414 then ⟨#[85, 82, 73, 32, 84, 111, 111, 32, 76, 111, 110, 103]⟩ else if n = 501 then ⟨#[78, 111, 116, 32, 73, 109, 112, 108, 101, 109, 101, 110, 116, 101, 100]⟩ else ⟨#[]⟩
set_option maxHeartbeats 2000000 in
theorem word_any (n : Int) (w : World) : Calls Tryz.prog 20 #[.int .i64 n] w fun e w' => e = .returned (.string (wordB n)) ∧ w' = w := by
  unfold wordB
  by_cases h1 : n = 200
  · subst h1; go_enter Tryz.func20, Tryz.ntmps20; go_wp2; go_ret; exact ⟨rfl, rfl⟩
  by_cases h2 : n = 302
  · subst h2; go_enter Tryz.func20, Tryz.ntmps20; go_wp2; go_ret; exact ⟨rfl, rfl⟩
  by_cases h3 : n = 400
  · subst h3; go_enter Tryz.func20, Tryz.ntmps20; go_wp2; go_ret; exact ⟨rfl, rfl⟩
  by_cases h4 : n = 404
  · subst h4; go_enter Tryz.func20, Tryz.ntmps20; go_wp2; go_ret; exact ⟨rfl, rfl⟩
  by_cases h5 : n = 414
  · subst h5; go_enter Tryz.func20, Tryz.ntmps20; go_wp2; go_ret; exact ⟨rfl, rfl⟩
  by_cases h6 : n = 501
  · subst h6; go_enter Tryz.func20, Tryz.ntmps20; go_wp2; go_ret; exact ⟨rfl, rfl⟩
  rw [if_neg h1, if_neg h2, if_neg h3, if_neg h4, if_neg h5, if_neg h6]
  have b1 : (n == 200) = false := by rw [beq_eq_false_iff_ne]; exact h1
  have b2 : (n == 302) = false := by rw [beq_eq_false_iff_ne]; exact h2
  have b3 : (n == 400) = false := by rw [beq_eq_false_iff_ne]; exact h3
  have b4 : (n == 404) = false := by rw [beq_eq_false_iff_ne]; exact h4
  have b5 : (n == 414) = false := by rw [beq_eq_false_iff_ne]; exact h5
  have b6 : (n == 501) = false := by rw [beq_eq_false_iff_ne]; exact h6
  go_enter Tryz.func20, Tryz.ntmps20
  go_wp2
  go_ret
  exact ⟨rfl, rfl⟩
set_option maxRecDepth 20000 in
theorem plain_string_inv {v : Value} {l : List UInt8} {ps : List MemPlace} (h : plainElem (H := Unit) Tryz.prog 9 v = some (.lit (.string l), ps)) : v = .string ⟨l.toArray⟩ := by
  unfold plainElem at h
  rw [Tryz.underlying9] at h
  cases v <;> simp at h
  obtain ⟨h1, h2, h3⟩ := h
  subst h2
  rfl
theorem keyed3 : Keyed Tryz.prog 3 := int_keyed Tryz.underlying3
abbrev OM (w : World) (g n : Nat) (D : DataW Unit) : Prop := w.ownsMap Tryz.prog 3 (plainElem Tryz.prog 9) g n D
theorem om_put {w : World} {g n : Nat} {D : DataW Unit} (h : OM w g n D) (hn : n < 100) (k : Int) (hk : (Lit.int .i64 k).wf = true) (s : ByteArray) (hs : s.size ≤ 100) :
    ∃ w', (Instr.mapUpdate 106 (.map (some g)) (.int .i64 k) (.string s)).run Tryz.prog w = .ok () w' ∧ OM w' g (n + 1) (D.put (.int .i64 k) (.lit (.string s.data.toList))) ∧ ∀ m, m ≤ g → Below m w w' := by
  obtain ⟨w', h1, h2, h3⟩ := h.update keyed3 Tryz.underlying106 (by unfold maxLen; omega) (keyOf_int_mk Tryz.underlying3 hk) (plainElem_string (H := Unit) (P := Tryz.prog) (e := 9) Tryz.underlying9 (s := s) (by unfold maxLen; omega))
  exact ⟨w', h1, h2, fun m hm => ⟨h3.os, h3.tape, h3.output, h3.size, fun j hj => h3.block j (Nat.lt_of_lt_of_le (Nat.lt_of_lt_of_le hj hm) (Nat.le_of_lt h.lt)) (fun e => by cases e; omega)⟩⟩
/-- The six words. -/
def words : List (Int × ByteArray) := [(200, ⟨#[79, 75]⟩), (302, ⟨#[70, 111, 117, 110, 100]⟩), (400, ⟨#[66, 97, 100, 32, 82, 101, 113, 117, 101, 115, 116]⟩), (404, ⟨#[78, 111, 116, 32, 70, 111, 117, 110, 100]⟩), (414, ⟨#[85, 82, 73, 32, 84, 111, 111, 32, 76, 111, 110, 103]⟩), (501, ⟨#[78, 111, 116, 32, 73, 109, 112, 108, 101, 109, 101, 110, 116, 101, 100]⟩)]
def wordD : DataW Unit := words.foldl (fun D p => D.put (.int .i64 p.1) (.lit (.string p.2.data.toList))) (.map [])
theorem word_at (n : Int) : wordD.atKey (.int .i64 n) (.lit (.string [])) = .lit (.string (wordB n).data.toList) := by
  have e : wordD = .map (words.map fun p => (Lit.int .i64 p.1, DataW.lit (.string p.2.data.toList))) := rfl
  rw [e]
  unfold wordB
  simp only [DataW.atKey, words, List.map_cons, List.map_nil, List.find?]
  by_cases h1 : n = 200
  · subst h1; rfl
  by_cases h2 : n = 302
  · subst h2; rfl
  by_cases h3 : n = 400
  · subst h3; rfl
  by_cases h4 : n = 404
  · subst h4; rfl
  by_cases h5 : n = 414
  · subst h5; rfl
  by_cases h6 : n = 501
  · subst h6; rfl
  rw [if_neg h1, if_neg h2, if_neg h3, if_neg h4, if_neg h5, if_neg h6]
  simp [Lit.sameKey, Ne.symm h1, Ne.symm h2, Ne.symm h3, Ne.symm h4, Ne.symm h5, Ne.symm h6]
set_option maxRecDepth 100000 in
set_option maxHeartbeats 8000000 in
theorem ref_word_any (n : Int) (hn : (Lit.int .i64 n).wf = true) (w : World) : Calls Tryz.prog 34 #[.int .i64 n] w fun e w' => e = .returned (.string (wordB n)) ∧ Below w.heap.size w w' := by
  have hmm := @run_makeMap Tryz.prog
  have o0 : OM (w.alloc (.map #[] 0)) w.heap.size 0 (.map []) := World.ownsMap_made _ _ _ _
  have b0 := (Below.refl w.heap.size w).alloc (Nat.le_refl _) (.map #[] 0)
  obtain ⟨w1, u1, o1, b1⟩ := om_put o0 (by omega) 200 (by decide) ⟨#[79, 75]⟩ (by decide)
  obtain ⟨w2, u2, o2, b2⟩ := om_put o1 (by omega) 302 (by decide) ⟨#[70, 111, 117, 110, 100]⟩ (by decide)
  obtain ⟨w3, u3, o3, b3⟩ := om_put o2 (by omega) 400 (by decide) ⟨#[66, 97, 100, 32, 82, 101, 113, 117, 101, 115, 116]⟩ (by decide)
  obtain ⟨w4, u4, o4, b4⟩ := om_put o3 (by omega) 404 (by decide) ⟨#[78, 111, 116, 32, 70, 111, 117, 110, 100]⟩ (by decide)
  obtain ⟨w5, u5, o5, b5⟩ := om_put o4 (by omega) 414 (by decide) ⟨#[85, 82, 73, 32, 84, 111, 111, 32, 76, 111, 110, 103]⟩ (by decide)
  obtain ⟨w6, u6, o6, b6⟩ := om_put o5 (by omega) 501 (by decide) ⟨#[78, 111, 116, 32, 73, 109, 112, 108, 101, 109, 101, 110, 116, 101, 100]⟩ (by decide)
  obtain ⟨v, ps, hl, hR⟩ := World.ownsMap.lookup o6 keyed3 Tryz.underlying106 (zd := .lit (.string [])) (zp := []) (z := .string ⟨#[]⟩) rfl (by kernel_rfl) (keyOf_int_mk Tryz.underlying3 hn)
  have hD : (((((((DataW.map [] : DataW Unit).put (.int .i64 200) (.lit (.string (⟨#[79, 75]⟩ : ByteArray).data.toList))).put (.int .i64 302) (.lit (.string (⟨#[70, 111, 117, 110, 100]⟩ : ByteArray).data.toList))).put (.int .i64 400) (.lit (.string (⟨#[66, 97, 100, 32, 82, 101, 113, 117, 101, 115, 116]⟩ : ByteArray).data.toList))).put (.int .i64 404) (.lit (.string (⟨#[78, 111, 116, 32, 70, 111, 117, 110, 100]⟩ : ByteArray).data.toList))).put (.int .i64 414) (.lit (.string (⟨#[85, 82, 73, 32, 84, 111, 111, 32, 76, 111, 110, 103]⟩ : ByteArray).data.toList))).put (.int .i64 501) (.lit (.string (⟨#[78, 111, 116, 32, 73, 109, 112, 108, 101, 109, 101, 110, 116, 101, 100]⟩ : ByteArray).data.toList))) = wordD := rfl
  rw [hD, word_at] at hR
  have hv := plain_string_inv hR
  have hv2 : v = .string (wordB n) := by rw [hv]
  subst hv2
  have HB := Lib.hid ((((((b0.trans (b1 _ (Nat.le_refl _))).trans (b2 _ (Nat.le_refl _))).trans (b3 _ (Nat.le_refl _))).trans (b4 _ (Nat.le_refl _))).trans (b5 _ (Nat.le_refl _))).trans (b6 _ (Nat.le_refl _)))
  have HL := Lib.hid hl
  clear hl hR hv hD
  have hl := HL.out
  clear HL
  clear o0 o1 o2 o3 o4 o5 o6
  go_enter Tryz.func34, Tryz.ntmps34
  go_wp2
  go_ret
  exact ⟨rfl, HB.out⟩
end Go.Proofs.YtpjjkejppgehaaaGreatDoor
