import Derived.Test.YtlgdenihddkjaaaDoorNum
namespace Go.Proofs.YtlgdenihddkjaaaDoor
set_option linter.unusedSimpArgs false
set_option linter.unusedVariables false
open Go.RowKit

/-- The digits behind a fraction's first one. -/
def fracL (s : ByteArray) : Nat → Nat → Nat → Nat → Except (Int × Nat) (Nat × Nat)
  | 0, _, n, k => .ok (n, k)
  | m + 1, unit, n, k => match peekS s k with
    | .error x => .error x
    | .ok c => if c.toNat < 48 ∨ 57 < c.toNat then .ok (n, k) else fracL s m (unit / 10) (n + (c.toNat - 48) * (unit / 10)) (k + 1)
/-- A fraction, if there is one. -/
def fracS (s : ByteArray) (k : Nat) : Except (Int × Nat) (Nat × Nat) :=
  match peekS s k with
  | .error x => .error x
  | .ok c => if c.toNat = 46 then (match oneS s digs (k + 1) with
      | .error x => .error x
      | .ok d => fracL s 8 100000000 ((d.toNat - 48) * 100000000) (k + 2)) else .ok (0, k)
def fracR : Except (Int × Nat) (Nat × Nat) → Except (Int × Nat) (Value × Nat)
  | .ok (n, k) => .ok (.int .i64 n, k)
  | .error x => .error x
theorem digs_of : ∀ n : Fin 256, 48 ≤ n.val → n.val ≤ 57 → ¬ Lib.indexByte digs.data.toList (UInt8.ofNat n.val) < 0 := by decide +kernel
theorem of_digit (c : UInt8) (h1 : 48 ≤ c.toNat) (h2 : c.toNat ≤ 57) : ¬ Lib.indexByte digs.data.toList c < 0 := by
  have := digs_of ⟨c.toNat, c.toNat_lt⟩ h1 h2
  simpa using this

set_option maxHeartbeats 2000000 in
theorem frac_none (b : Nat) (s : ByteArray) (k : Nat) (w : World) (hr : Rd w b s k) (hk : k < s.size) (hc : ¬ (s[k].toNat : Int) = 46) :
    Calls Tryd.prog 31 #[.pointer (some ⟨b, 0, none⟩)] w (Done b s w (.ok (.int .i64 0, k))) := by
  have H := (show Hid _ from peek_byte b s k w hr hk)
  clear hr
  go_enter Tryd.func31, Tryd.ntmps31
  go_wp2_with (go_at_call 47; refine Calls.mono H.out ?_; rintro e w1 ⟨rfl, hb1, hr1⟩)
  go_ret
  exact ⟨But.of_below hb1 (Nat.le_refl _), rfl, hr1⟩

set_option maxHeartbeats 2000000 in
theorem frac_end (b : Nat) (s : ByteArray) (k : Nat) (w : World) (hr : Rd w b s k) (hk : s.size ≤ k) (hI : ErrInv w) :
    Calls Tryd.prog 31 #[.pointer (some ⟨b, 0, none⟩)] w (Done b s w (.error ((s.size : Int), 2))) := by
  have H := (show Hid _ from peek_end b s k w hr hk hI)
  clear hr hI
  go_enter Tryd.func31, Tryd.ntmps31
  go_wp2_with (go_at_call 47; refine Calls.mono H.out ?_; rintro e w1 ⟨v, rfl, hf, hb1⟩)
  exact ⟨rfl, But.of_below hb1 (Nat.le_refl _), v, rfl, hf⟩

theorem one_err (b : Nat) (s of : ByteArray) (k : Nat) (w : World) (hr : Rd w b s k) (hI : ErrInv w) (x : Int × Nat) (hx : oneS s of k = .error x) :
    Calls Tryd.prog 30 #[.pointer (some ⟨b, 0, none⟩), .string of] w fun e w' => ∃ v, e = .panicked [{ v := v, recovered := false }] ∧ FltIs w' v (some x) ∧ Below w.heap.size w w' := by
  unfold oneS at hx
  split at hx
  · split at hx
    · cases hx
      exact one_bad b s of k w hr (by assumption) (by assumption) hI
    · cases hx
  · cases hx
    exact one_end b s of k w hr (by omega) hI
theorem one_val (b : Nat) (s of : ByteArray) (k : Nat) (w : World) (hr : Rd w b s k) (hs : s.size < 4611686018427387904) (c : UInt8) (hx : oneS s of k = .ok c) :
    Calls Tryd.prog 30 #[.pointer (some ⟨b, 0, none⟩), .string of] w fun e w' => e = .returned (.int .u8 c.toNat) ∧ But b w w' ∧ Rd w' b s (k + 1) := by
  unfold oneS at hx
  split at hx
  · split at hx
    · cases hx
    · cases hx
      exact one_ok b s of k w hr (by assumption) hs (by assumption)
  · cases hx

set_option maxHeartbeats 2000000 in
theorem frac_dot_end (b : Nat) (s : ByteArray) (k : Nat) (w : World) (hr : Rd w b s k) (hk : k < s.size) (hc : (s[k].toNat : Int) = 46) (hs : s.size < 4611686018427387904) (hI : ErrAt b w) (x : Int × Nat) (hx : oneS s digs (k + 1) = .error x) :
    Calls Tryd.prog 31 #[.pointer (some ⟨b, 0, none⟩)] w (Done b s w (.error x)) := by
  have H := (show Hid _ from peek_byte b s k w hr hk)
  have H2 : Hid (∀ w1 : World, Below w.heap.size w w1 → Rd w1 b s k → Calls Tryd.prog 30 #[.pointer (some ⟨b, 0, none⟩), .string ⟨#[48, 49, 50, 51, 52, 53, 54, 55, 56, 57]⟩] (w1.setCell ⟨b, 1, none⟩ (.int .i64 ((k : Int) + 1))) (Done b s w (.error x))) := by
    intro w1 hb1 hr1
    have hbt : But b w (w1.setCell ⟨b, 1, none⟩ (.int .i64 ((k : Int) + 1))) := (But.of_below hb1 (Nat.le_refl _)).setCell 1 _
    refine Calls.mono (one_err b s digs (k + 1) _ hr1.step (hI.but hbt).inv x hx) ?_
    rintro e w2 ⟨v, rfl, hf, hb⟩
    exact ⟨hbt.trans (But.of_below hb (Nat.le_refl _)), v, rfl, hf⟩
  clear hr hI hx
  go_enter Tryd.func31, Tryd.ntmps31
  go_wp2_with (first
    | (go_at_call 47; refine Calls.mono H.out ?_; rintro e w1 ⟨rfl, hb1, hr1⟩; have c1 := hr1.c1; have z1 := hr1.fz 1)
    | (go_at_call 30; refine Calls.mono (H2.out _ hb1 hr1) ?_; rintro e w2 ⟨hb2, v, rfl, hf⟩))
  exact ⟨rfl, hb2, v, rfl, hf⟩

set_option maxHeartbeats 4000000 in
theorem frac_dot (b : Nat) (s : ByteArray) (k : Nat) (w : World) (hr : Rd w b s k) (hk : k < s.size) (hc : (s[k].toNat : Int) = 46) (hs : s.size < 4611686018427387904) (hI : ErrAt b w) (c : UInt8) (hx : oneS s digs (k + 1) = .ok c) (hd : 48 ≤ c.toNat ∧ c.toNat ≤ 57) :
    Calls Tryd.prog 31 #[.pointer (some ⟨b, 0, none⟩)] w (Done b s w (fracR (fracL s 8 100000000 ((c.toNat - 48) * 100000000) (k + 2)))) := by
  have H := (show Hid _ from peek_byte b s k w hr hk)
  have H2 : Hid (∀ w1 : World, Below w.heap.size w w1 → Rd w1 b s k → Calls Tryd.prog 30 #[.pointer (some ⟨b, 0, none⟩), .string ⟨#[48, 49, 50, 51, 52, 53, 54, 55, 56, 57]⟩] (w1.setCell ⟨b, 1, none⟩ (.int .i64 ((k : Int) + 1))) (fun e w' => e = .returned (.int .u8 c.toNat) ∧ But b w w' ∧ Rd w' b s (k + 2))) := by
    intro w1 hb1 hr1
    have hbt : But b w (w1.setCell ⟨b, 1, none⟩ (.int .i64 ((k : Int) + 1))) := (But.of_below hb1 (Nat.le_refl _)).setCell 1 _
    refine Calls.mono (one_val b s digs (k + 1) _ hr1.step hs c hx) ?_
    rintro e w2 ⟨rfl, hb, hr2⟩
    exact ⟨rfl, hbt.trans hb, hr2⟩
  have HI : Hid (ErrAt b w) := hI
  generalize hR : fracL s 8 100000000 ((c.toNat - 48) * 100000000) (k + 2) = R
  have HR : Hid _ := hR
  clear hr hI hx hR
  go_enter Tryd.func31, Tryd.ntmps31
  go_wp2_with (first
    | (go_at_call 47; refine Calls.mono H.out ?_; rintro e w1 ⟨rfl, hb1, hr1⟩; have c1 := hr1.c1; have z1 := hr1.fz 1)
    | (go_at_call 30; refine Calls.mono (H2.out _ hb1 hr1) ?_; rintro e w2 ⟨rfl, hb2, hr2⟩))
  go_loopw [3, 4, 24] (fun n u i wr => ∃ j k' a uN : Nat, j ≤ 8 ∧ i = .int .i64 j ∧ u = .int .i64 uN ∧ uN = 10 ^ (8 - j) ∧ n = .int .i64 a ∧ a + uN ≤ 1000000000 ∧ fracL s (8 - j) uN a k' = R ∧ Rd wr b s k' ∧ But b w wr)
    (fun _ _ i _ => 8 - (intOf i).toNat)
  case atStart =>
    refine ⟨0, k + 2, (c.toNat - 48) * 100000000, 100000000, by omega, rfl, rfl, by simp, ?_, by omega, HR.out, hr2, hb2⟩
    congr 1
    omega
  case round =>
    obtain ⟨j, k', a, uN, hj, rfl, rfl, hu, rfl, ha, hf, hrr, hbb⟩ := hrel
    have HF : Hid _ := hf
    have HB : Hid _ := hbb
    have HD : Hid _ := hrr
    have HU : Hid _ := hu
    by_cases hj8 : j = 8
    · subst hj8
      clear hf hbb hrr hu
      go_wp2
      have hR := HF.out
      rw [Nat.sub_self, fracL] at hR
      subst hR
      go_ret
      exact ⟨HB.out, rfl, HD.out⟩
    · have hlt : (j : Int) < 8 := by omega
      obtain ⟨m, hm⟩ : ∃ m, 8 - j = m + 1 := ⟨7 - j, by omega⟩
      have hu1 : uN = 10 * 10 ^ m := by rw [hu, hm, Nat.pow_succ]; omega
      have hu2 : uN / 10 = 10 ^ m := by omega
      have hu3 : ((uN : Int)).tdiv 10 = ((uN / 10 : Nat) : Int) := by rw [Int.tdiv_eq_ediv_of_nonneg (by omega)]; omega
      by_cases hk1 : k' < s.size
      · have HP := (show Hid _ from peek_byte b s k' wr hrr hk1)
        by_cases hd1 : s[k'].toNat < 48 ∨ 57 < s[k'].toNat
        · have hR : fracR R = .ok (.int .i64 a, k') := by
            have hR := HF.out
            rw [hm, fracL] at hR
            rw [← hR]
            simp [peekS, hk1, hd1, fracR]
          have HRR : Hid _ := hR
          clear hf hbb hrr hu hu1 hu2 hR
          rcases hd1 with hd1 | hd1
          · have hd1' : (s[k'].toNat : Int) < 48 := by omega
            go_wp2_with (go_at_call 47; refine Calls.mono HP.out ?_; rintro e w1 ⟨rfl, hb1, hr1⟩)
            go_ret
            rw [HRR.out]
            exact ⟨HB.out.trans (But.of_below hb1 (Nat.le_refl _)), rfl, hr1⟩
          · have hd1' : ¬ (s[k'].toNat : Int) < 48 := by omega
            have hd2' : (57 : Int) < (s[k'].toNat : Int) := by omega
            go_wp2_with (go_at_call 47; refine Calls.mono HP.out ?_; rintro e w1 ⟨rfl, hb1, hr1⟩)
            go_ret
            rw [HRR.out]
            exact ⟨HB.out.trans (But.of_below hb1 (Nat.le_refl _)), rfl, hr1⟩
        · have hd3 : 48 ≤ s[k'].toNat ∧ s[k'].toNat ≤ 57 := by omega
          have hR : fracL s m (uN / 10) (a + (s[k'].toNat - 48) * (uN / 10)) (k' + 1) = R := by
            have hR := HF.out
            rw [hm, fracL] at hR
            rw [← hR]
            simp [peekS, hk1, hd1]
          have HR2 : Hid _ := hR
          have H3 : Hid (∀ w1 : World, Below wr.heap.size wr w1 → Rd w1 b s k' → Calls Tryd.prog 30 #[.pointer (some ⟨b, 0, none⟩), .string ⟨#[48, 49, 50, 51, 52, 53, 54, 55, 56, 57]⟩] w1 (fun e w' => e = .returned (.int .u8 s[k'].toNat) ∧ But b w w' ∧ Rd w' b s (k' + 1))) := by
            intro w1 hb1 hr1
            refine Calls.mono (one_ok b s digs k' w1 hr1 hk1 hs (of_digit _ hd3.1 hd3.2)) ?_
            rintro e w2 ⟨rfl, hb, hr2⟩
            exact ⟨rfl, (HB.out.trans (But.of_below hb1 (Nat.le_refl _))).trans hb, hr2⟩
          have hq : (s[k'].toNat - 48) * (uN / 10) + uN / 10 ≤ uN := by
            have h9 : s[k'].toNat - 48 ≤ 9 := by omega
            have := Nat.mul_le_mul_right (uN / 10) h9
            omega
          have hqI : ((s[k'].toNat : Int) - 48) * ((uN / 10 : Nat) : Int) = (((s[k'].toNat - 48) * (uN / 10) : Nat) : Int) := by
            push_cast
            rw [Int.ofNat_sub hd3.1]
            rfl
          generalize hprod : (s[k'].toNat - 48) * (uN / 10) = prod at hq hqI HR2
          generalize hqq : uN / 10 = q at *
          have HU2 : Hid (q = 10 ^ m) := hu2
          have hb9 : q ≤ 1000000000 := by omega
          have hp9 : a + prod ≤ 1000000000 := by omega
          clear hf hbb hrr hu hu1 hR hprod hu2
          have hd1' : ¬ (s[k'].toNat : Int) < 48 := by omega
          have hd2' : ¬ (57 : Int) < (s[k'].toNat : Int) := by omega
          go_wp2_with (first
            | (go_at_call 47; refine Calls.mono HP.out ?_; rintro e w1 ⟨rfl, hb1, hr1⟩)
            | (go_at_call 30; refine Calls.mono (H3.out _ hb1 hr1) ?_; rintro e w2 ⟨rfl, hb2, hr2⟩))
          refine ⟨⟨j + 1, k' + 1, a + prod, q, by omega, by push_cast; rfl, rfl, ?_, by push_cast; rfl, by omega, ?_, hr2, hb2⟩, ?_⟩
          · rw [HU2.out, show 8 - (j + 1) = m by omega]
          · rw [show 8 - (j + 1) = m by omega]
            exact HR2.out
          · simp [intOf]
            omega
      · have HE := (show Hid _ from peek_end b s k' wr hrr (by omega) (HI.out.but hbb).inv)
        have hR : fracR R = .error ((s.size : Int), 2) := by
          have hR := HF.out
          rw [hm, fracL] at hR
          rw [← hR]
          simp [peekS, hk1, fracR]
        have HRR : Hid _ := hR
        clear hf hbb hrr hu hu1 hu2 hR
        go_wp2_with (go_at_call 47; refine Calls.mono HE.out ?_; rintro e w1 ⟨v, rfl, hf, hb1⟩)
        refine ⟨rfl, ?_⟩
        rw [HRR.out]
        exact ⟨HB.out.trans (But.of_below hb1 (Nat.le_refl _)), v, rfl, hf⟩

theorem frac_any (b : Nat) (s : ByteArray) (k : Nat) (w : World) (hr : Rd w b s k) (hs : s.size < 4611686018427387904) (hI : ErrAt b w) :
    Calls Tryd.prog 31 #[.pointer (some ⟨b, 0, none⟩)] w (Done b s w (fracR (fracS s k))) := by
  by_cases hk : k < s.size
  · by_cases hc : s[k].toNat = 46
    · have hc' : (s[k].toNat : Int) = 46 := by omega
      cases hx : oneS s digs (k + 1) with
      | error x =>
        have e : fracR (fracS s k) = .error x := by simp [fracS, peekS, hk, hc, hx, fracR]
        rw [e]
        exact frac_dot_end b s k w hr hk hc' hs hI x hx
      | ok c =>
        have e : fracR (fracS s k) = fracR (fracL s 8 100000000 ((c.toNat - 48) * 100000000) (k + 2)) := by simp [fracS, peekS, hk, hc, hx]
        rw [e]
        refine frac_dot b s k w hr hk hc' hs hI c hx ?_
        unfold oneS at hx
        split at hx
        · split at hx
          · cases hx
          · cases hx
            exact digit_of _ (by assumption)
        · cases hx
    · have e : fracR (fracS s k) = .ok (.int .i64 0, k) := by simp [fracS, peekS, hk, hc, fracR]
      rw [e]
      exact frac_none b s k w hr hk (by omega)
  · have e : fracR (fracS s k) = .error ((s.size : Int), 2) := by simp [fracS, peekS, hk, fracR]
    rw [e]
    exact frac_end b s k w hr (by omega) hI.inv

end Go.Proofs.YtlgdenihddkjaaaDoor
