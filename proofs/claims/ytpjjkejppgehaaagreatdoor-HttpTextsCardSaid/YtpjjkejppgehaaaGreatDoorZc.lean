/- The builder's WriteString in this program: its copy check refuses where the library's panics, so the shelf's contract does not fit; by hand. -/
import Derived.Test.YtpjjkejppgehaaaGreatDoorZb
import Derived.Shelf.Strings.Builder1
import Derived.Maps.Own
namespace Go.Proofs.YtpjjkejppgehaaaGreatDoor
set_option linter.unusedSimpArgs false
set_option linter.unusedVariables false
open Go.RowKit

theorem infoB5 : (Tryz.prog.info? 5).map (fun i => (i.zero, i.size, i.bytes)) = some (some (.int .u8 0), 1, 1) := by kernel_rfl
set_option maxRecDepth 100000 in
theorem check_used (b : Nat) (w : World) (h0 : w.cell? ⟨b, 0, none⟩ = some (.pointer (some ⟨b, 0, none⟩))) :
    Calls Tryz.prog 41 #[.pointer (some ⟨b, 0, none⟩)] w fun e w' => e = .returned (.tuple #[]) ∧ w' = w := by
  obtain ⟨j, hj, -⟩ : ∃ j, Tryz.prog.info? 49 = some j ∧ j.size = 2 := Option.map_eq_some_iff.1 (show (Tryz.prog.info? 49).map (·.size) = some 2 by kernel_rfl)
  go_enter Tryz.func41, Tryz.ntmps41
  go_wp2
  rw [Lib.run_neq_ptr_same w _ Tryz.underlying46 hj]
  go_wp2
  go_end0
  exact ⟨rfl, rfl⟩
set_option maxRecDepth 100000 in
theorem check_fresh (b : Nat) (w : World) (v : Value) (hbk : w.heap[b]? = some (.cells #[.pointer none, v] 49 (0, 0))) :
    Calls Tryz.prog 41 #[.pointer (some ⟨b, 0, none⟩)] w fun e w' => e = .returned (.tuple #[]) ∧ w' = w.setCell ⟨b, 0, none⟩ (.pointer (some ⟨b, 0, none⟩)) := by
  have h0 : w.cell? ⟨b, 0, none⟩ = some (.pointer none) := by rw [Lib.cell_of_heap hbk]; rfl
  have hfz : w.frozen? ⟨b, 0, none⟩ = false := Lib.frozen_of_heap hbk 0
  have hsh : w.shape? b = some (49, 2) := by simp [World.shape?, hbk]
  obtain ⟨j, hj, hjs⟩ : ∃ j, Tryz.prog.info? 49 = some j ∧ j.size = 2 := Option.map_eq_some_iff.1 (show (Tryz.prog.info? 49).map (·.size) = some 2 by kernel_rfl)
  go_enter Tryz.func41, Tryz.ntmps41
  go_wp2
  rw [Lib.run_to_unsafe w ⟨b, 0, none⟩ Tryz.underlying46 Tryz.underlying83 hj (by rw [hjs]; decide) hsh (Nat.zero_lt_succ 1)]
  simp only [Result.andThen]
  rw [Oper.upon_value]
  go_wp2
  rw [run_callFunc_extern Tryz.func63 (by kernel_rfl) (by kernel_rfl) (by kernel_rfl) (e := Extern.AbiNoEscape.same) (by kernel_rfl)]
  rw [Lib.run_noEscape]
  simp only [Result.andThen]
  rw [Oper.upon_value]
  go_wp2
  rw [Lib.run_from_unsafe w ⟨b, 0, none⟩ Tryz.underlying83 Tryz.underlying46 hj hsh (by kernel_rfl)]
  simp only [Result.andThen]
  rw [Oper.upon_value]
  go_wp2
  go_end0
  exact ⟨rfl, rfl⟩
/-- The copy check: behind it the builder is used. -/
theorem bcheck_any (B b : Nat) (bs : List Value) (w : World) (h : Lib.IsBuilder 49 5 B b bs w) :
    Calls Tryz.prog 41 #[.pointer (some ⟨b, 0, none⟩)] w fun e w' => e = .returned (.tuple #[]) ∧ Lib.BuilderAt 49 5 B b (.pointer (some ⟨b, 0, none⟩)) bs w' ∧ Below B w w' := by
  rcases h with h | h
  · obtain ⟨hB, v, hbk, hown, hne⟩ := h
    refine (check_fresh b w v hbk).mono ?_
    rintro e w' ⟨rfl, rfl⟩
    have hn : (w.setCell ⟨b, 0, none⟩ (.pointer (some ⟨b, 0, none⟩))).heap[b]? = some (.cells #[.pointer (some ⟨b, 0, none⟩), v] 49 (0, 0)) := blk_set hbk 0 _
    refine ⟨rfl, ⟨hB, v, hn, ⟨hown.1, ?_⟩, hne⟩, (Below.refl B w).setCell (p := ⟨b, 0, none⟩) hB _⟩
    rcases hown.2 with h0 | ⟨g, cap, cur, rfl, hg, hh, hr⟩
    · exact Or.inl h0
    · refine Or.inr ⟨g, cap, cur, rfl, hg, ?_, hr⟩
      have hgb : g ≠ b := fun e => hne (by rw [e]; rfl)
      exact (Below.heap_setCell _ _ _ _ hgb).trans hh
  · refine (check_used b w h.cell0).mono ?_
    rintro e w' ⟨rfl, rfl⟩
    exact ⟨rfl, h, Below.refl _ _⟩
set_option maxRecDepth 100000 in
set_option maxHeartbeats 2000000 in
/-- WriteString: the bytes are written behind those that the builder holds. -/
theorem write_any (B b : Nat) (bs : List Value) (s : ByteArray) (w : World) (h : Lib.IsBuilder 49 5 B b bs w) (hlen : bs.length + s.size ≤ 140737488355328) (hBw : B ≤ w.heap.size) :
    Calls Tryz.prog 18 #[.pointer (some ⟨b, 0, none⟩), .string s] w fun e w' => e = .returned (.tuple #[.int .i64 s.size, .nilIface]) ∧ Lib.BuilderAt 49 5 B b (.pointer (some ⟨b, 0, none⟩)) (bs ++ Lib.strCells s) w' ∧ Below B w w' := by
  obtain ⟨i0, hi, hz0, hz1, hz2⟩ := info_parts infoB5
  have HC := bcheck_any B b bs w h
  clear h
  go_enter Tryz.func18, Tryz.ntmps18
  go_wp2_with (go_at_call 41; refine HC.mono ?_)
  rintro e w1 ⟨rfl, h1, hb1⟩
  obtain ⟨hB, v, hbk, hown, hne⟩ := h1
  have c1 : w1.cell? ⟨b, 1, none⟩ = some v := by rw [Lib.cell_of_heap hbk]; rfl
  go_wp2_with (at_builtin; refine Lib.wpList_append_own_string _ rfl _ _ 47 9 rfl B 5 i0 Tryz.underlying47 Tryz.underlying9 hi hz0 hz1 hz2 _ _ _ rfl hown s rfl ?c3 ?c4 ?c5 ?_)
  case c3 => unfold maxLen; omega
  case c4 => omega
  case c5 => have := hb1.size; omega
  intro v' w2 hown' hgrow _
  have hlt : b < w1.heap.size := heap_lt hbk
  have hb2 : w2.heap[b]? = some (.cells #[.pointer (some ⟨b, 0, none⟩), v] 49 (0, 0)) := (hgrow.block b hlt (fun e => hne e.symm)).trans hbk
  have d1 : w2.cell? ⟨b, 1, none⟩ = some v := by rw [Lib.cell_of_heap hb2]; rfl
  have f1 : w2.frozen? ⟨b, 1, none⟩ = false := Lib.frozen_of_heap hb2 1
  obtain ⟨ao, n', cap, rfl⟩ : ∃ ao n' cap, v' = .slice ao n' cap := by
    rcases hown'.2 with ⟨hv, _⟩ | ⟨g, cap, cur, hv, _⟩
    · exact ⟨_, _, _, hv⟩
    · exact ⟨_, _, _, hv⟩
  go_wp2
  go_ret2
  refine ⟨rfl, ?_, ?_⟩
  · exact Lib.BuilderAt.put hB hb2 (bs' := bs ++ Lib.strCells s) (by simpa [Lib.strCells_length] using hown') (by decide)
  · exact (hb1.grown hgrow (by have := hb1.size; omega) (fun k hk => (hown.lt k hk).1)).setCell (p := ⟨b, 1, none⟩) hB _
end Go.Proofs.YtpjjkejppgehaaaGreatDoor

/- A status's word, the program's and the document's. -/
namespace Go.Proofs.YtpjjkejppgehaaaGreatDoor
set_option linter.unusedSimpArgs false
set_option linter.unusedVariables false
open Go.RowKit Go.Maps

/-- The word. -/
def wordB (n : Int) : ByteArray :=
  if n = 200 then ⟨#[79, 75]⟩ else if n = 302 then ⟨#[70, 111, 117, 110, 100]⟩ else if n = 400 then ⟨#[66, 97, 100, 32, 82, 101, 113, 117, 101, 115, 116]⟩ else if n = 404 then ⟨#[78, 111, 116, 32, 70, 111, 117, 110, 100]⟩
  else if n = 414 then ⟨#[85, 82, 73, 32, 84, 111, 111, 32, 76, 111, 110, 103]⟩ else if n = 501 then ⟨#[78, 111, 116, 32, 73, 109, 112, 108, 101, 109, 101, 110, 116, 101, 100]⟩ else ⟨#[]⟩
set_option maxHeartbeats 2000000 in
theorem word_any (n : Int) (w : World) : Calls Tryz.prog 20 #[.int .i64 n] w fun e w' => e = .returned (.string (wordB n)) ∧ w' = w := by
  unfold wordB
  by_cases h1 : n = 200
  · subst h1; go_enter Tryz.func20, Tryz.ntmps20; go_wp2; go_ret; exact ⟨rfl, rfl⟩
  by_cases h2 : n = 302
  · subst h2; go_enter Tryz.func20, Tryz.ntmps20; go_wp2; go_ret; exact ⟨rfl, rfl⟩
  by_cases h3 : n = 400
  · subst h3; go_enter Tryz.func20, Tryz.ntmps20; go_wp2; go_ret; exact ⟨rfl, rfl⟩
  by_cases h4 : n = 404
  · subst h4; go_enter Tryz.func20, Tryz.ntmps20; go_wp2; go_ret; exact ⟨rfl, rfl⟩
  by_cases h5 : n = 414
  · subst h5; go_enter Tryz.func20, Tryz.ntmps20; go_wp2; go_ret; exact ⟨rfl, rfl⟩
  by_cases h6 : n = 501
  · subst h6; go_enter Tryz.func20, Tryz.ntmps20; go_wp2; go_ret; exact ⟨rfl, rfl⟩
  rw [if_neg h1, if_neg h2, if_neg h3, if_neg h4, if_neg h5, if_neg h6]
  have b1 : (n == 200) = false := by rw [beq_eq_false_iff_ne]; exact h1
  have b2 : (n == 302) = false := by rw [beq_eq_false_iff_ne]; exact h2
  have b3 : (n == 400) = false := by rw [beq_eq_false_iff_ne]; exact h3
  have b4 : (n == 404) = false := by rw [beq_eq_false_iff_ne]; exact h4
  have b5 : (n == 414) = false := by rw [beq_eq_false_iff_ne]; exact h5
  have b6 : (n == 501) = false := by rw [beq_eq_false_iff_ne]; exact h6
  go_enter Tryz.func20, Tryz.ntmps20
  go_wp2
  go_ret
  exact ⟨rfl, rfl⟩
set_option maxRecDepth 20000 in
theorem plain_string_inv {v : Value} {l : List UInt8} {ps : List MemPlace} (h : plainElem (H := Unit) Tryz.prog 9 v = some (.lit (.string l), ps)) : v = .string ⟨l.toArray⟩ := by
  unfold plainElem at h
  rw [Tryz.underlying9] at h
  cases v <;> simp at h
  obtain ⟨h1, h2, h3⟩ := h
  subst h2
  rfl
theorem keyed3 : Keyed Tryz.prog 3 := int_keyed Tryz.underlying3
abbrev OM (w : World) (g n : Nat) (D : DataW Unit) : Prop := w.ownsMap Tryz.prog 3 (plainElem Tryz.prog 9) g n D
theorem om_put {w : World} {g n : Nat} {D : DataW Unit} (h : OM w g n D) (hn : n < 100) (k : Int) (hk : (Lit.int .i64 k).wf = true) (s : ByteArray) (hs : s.size ≤ 100) :
    ∃ w', (Instr.mapUpdate 106 (.map (some g)) (.int .i64 k) (.string s)).run Tryz.prog w = .ok () w' ∧ OM w' g (n + 1) (D.put (.int .i64 k) (.lit (.string s.data.toList))) ∧ ∀ m, m ≤ g → Below m w w' := by
  obtain ⟨w', h1, h2, h3⟩ := h.update keyed3 Tryz.underlying106 (by unfold maxLen; omega) (keyOf_int_mk Tryz.underlying3 hk) (plainElem_string (H := Unit) (P := Tryz.prog) (e := 9) Tryz.underlying9 (s := s) (by unfold maxLen; omega))
  exact ⟨w', h1, h2, fun m hm => ⟨h3.os, h3.tape, h3.output, h3.size, fun j hj => h3.block j (Nat.lt_of_lt_of_le (Nat.lt_of_lt_of_le hj hm) (Nat.le_of_lt h.lt)) (fun e => by cases e; omega)⟩⟩
/-- The six words. -/
def words : List (Int × ByteArray) := [(200, ⟨#[79, 75]⟩), (302, ⟨#[70, 111, 117, 110, 100]⟩), (400, ⟨#[66, 97, 100, 32, 82, 101, 113, 117, 101, 115, 116]⟩), (404, ⟨#[78, 111, 116, 32, 70, 111, 117, 110, 100]⟩), (414, ⟨#[85, 82, 73, 32, 84, 111, 111, 32, 76, 111, 110, 103]⟩), (501, ⟨#[78, 111, 116, 32, 73, 109, 112, 108, 101, 109, 101, 110, 116, 101, 100]⟩)]
def wordD : DataW Unit := words.foldl (fun D p => D.put (.int .i64 p.1) (.lit (.string p.2.data.toList))) (.map [])
theorem word_at (n : Int) : wordD.atKey (.int .i64 n) (.lit (.string [])) = .lit (.string (wordB n).data.toList) := by
  have e : wordD = .map (words.map fun p => (Lit.int .i64 p.1, DataW.lit (.string p.2.data.toList))) := rfl
  rw [e]
  unfold wordB
  simp only [DataW.atKey, words, List.map_cons, List.map_nil, List.find?]
  by_cases h1 : n = 200
  · subst h1; rfl
  by_cases h2 : n = 302
  · subst h2; rfl
  by_cases h3 : n = 400
  · subst h3; rfl
  by_cases h4 : n = 404
  · subst h4; rfl
  by_cases h5 : n = 414
  · subst h5; rfl
  by_cases h6 : n = 501
  · subst h6; rfl
  rw [if_neg h1, if_neg h2, if_neg h3, if_neg h4, if_neg h5, if_neg h6]
  simp [Lit.sameKey, Ne.symm h1, Ne.symm h2, Ne.symm h3, Ne.symm h4, Ne.symm h5, Ne.symm h6]
set_option maxRecDepth 100000 in
set_option maxHeartbeats 8000000 in
theorem ref_word_any (n : Int) (hn : (Lit.int .i64 n).wf = true) (w : World) : Calls Tryz.prog 34 #[.int .i64 n] w fun e w' => e = .returned (.string (wordB n)) ∧ Below w.heap.size w w' := by
  have hmm := @run_makeMap Tryz.prog
  have o0 : OM (w.alloc (.map #[] 0)) w.heap.size 0 (.map []) := World.ownsMap_made _ _ _ _
  have b0 := (Below.refl w.heap.size w).alloc (Nat.le_refl _) (.map #[] 0)
  obtain ⟨w1, u1, o1, b1⟩ := om_put o0 (by omega) 200 (by decide) ⟨#[79, 75]⟩ (by decide)
  obtain ⟨w2, u2, o2, b2⟩ := om_put o1 (by omega) 302 (by decide) ⟨#[70, 111, 117, 110, 100]⟩ (by decide)
  obtain ⟨w3, u3, o3, b3⟩ := om_put o2 (by omega) 400 (by decide) ⟨#[66, 97, 100, 32, 82, 101, 113, 117, 101, 115, 116]⟩ (by decide)
  obtain ⟨w4, u4, o4, b4⟩ := om_put o3 (by omega) 404 (by decide) ⟨#[78, 111, 116, 32, 70, 111, 117, 110, 100]⟩ (by decide)
  obtain ⟨w5, u5, o5, b5⟩ := om_put o4 (by omega) 414 (by decide) ⟨#[85, 82, 73, 32, 84, 111, 111, 32, 76, 111, 110, 103]⟩ (by decide)
  obtain ⟨w6, u6, o6, b6⟩ := om_put o5 (by omega) 501 (by decide) ⟨#[78, 111, 116, 32, 73, 109, 112, 108, 101, 109, 101, 110, 116, 101, 100]⟩ (by decide)
  obtain ⟨v, ps, hl, hR⟩ := World.ownsMap.lookup o6 keyed3 Tryz.underlying106 (zd := .lit (.string [])) (zp := []) (z := .string ⟨#[]⟩) rfl (by kernel_rfl) (keyOf_int_mk Tryz.underlying3 hn)
  have hD : (((((((DataW.map [] : DataW Unit).put (.int .i64 200) (.lit (.string (⟨#[79, 75]⟩ : ByteArray).data.toList))).put (.int .i64 302) (.lit (.string (⟨#[70, 111, 117, 110, 100]⟩ : ByteArray).data.toList))).put (.int .i64 400) (.lit (.string (⟨#[66, 97, 100, 32, 82, 101, 113, 117, 101, 115, 116]⟩ : ByteArray).data.toList))).put (.int .i64 404) (.lit (.string (⟨#[78, 111, 116, 32, 70, 111, 117, 110, 100]⟩ : ByteArray).data.toList))).put (.int .i64 414) (.lit (.string (⟨#[85, 82, 73, 32, 84, 111, 111, 32, 76, 111, 110, 103]⟩ : ByteArray).data.toList))).put (.int .i64 501) (.lit (.string (⟨#[78, 111, 116, 32, 73, 109, 112, 108, 101, 109, 101, 110, 116, 101, 100]⟩ : ByteArray).data.toList))) = wordD := rfl
  rw [hD, word_at] at hR
  have hv := plain_string_inv hR
  have hv2 : v = .string (wordB n) := by rw [hv]
  subst hv2
  have HB := Lib.hid ((((((b0.trans (b1 _ (Nat.le_refl _))).trans (b2 _ (Nat.le_refl _))).trans (b3 _ (Nat.le_refl _))).trans (b4 _ (Nat.le_refl _))).trans (b5 _ (Nat.le_refl _))).trans (b6 _ (Nat.le_refl _)))
  have HL := Lib.hid hl
  clear hl hR hv hD
  have hl := HL.out
  clear HL
  clear o0 o1 o2 o3 o4 o5 o6
  go_enter Tryz.func34, Tryz.ntmps34
  go_wp2
  go_ret
  exact ⟨rfl, HB.out⟩
end Go.Proofs.YtpjjkejppgehaaaGreatDoor
