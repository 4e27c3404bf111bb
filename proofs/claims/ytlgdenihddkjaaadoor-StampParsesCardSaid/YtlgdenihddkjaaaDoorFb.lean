/- stamp.Parse, joined: what any text is read to. -/
import Derived.Test.YtlgdenihddkjaaaDoorPc
import Derived.Test.YtlgdenihddkjaaaDoorPartC
import Derived.Test.YtlgdenihddkjaaaDoorPartD
import Derived.Test.YtlgdenihddkjaaaDoorPd
import Derived.Test.YtlgdenihddkjaaaDoorDb
namespace Go.Proofs.YtlgdenihddkjaaaDoor
set_option linter.unusedSimpArgs false
set_option linter.unusedVariables false
open Go.RowKit

/-- The numbers, the sign, the nanoseconds. -/
def readS (s : ByteArray) : Except (Int × Nat) (List Pt × UInt8 × Nat) :=
  match takeS s 4 ⟨#[45]⟩ 0 with
  | .error x => .error x
  | .ok (a0, _, k1) => match takeS s 2 ⟨#[45]⟩ k1 with
  | .error x => .error x
  | .ok (a1, _, k2) => match takeS s 2 ⟨#[84, 116]⟩ k2 with
  | .error x => .error x
  | .ok (a2, _, k3) => match takeS s 2 ⟨#[58]⟩ k3 with
  | .error x => .error x
  | .ok (a3, _, k4) => match takeS s 2 ⟨#[58]⟩ k4 with
  | .error x => .error x
  | .ok (a4, _, k5) => match takeS s 2 ⟨#[]⟩ k5 with
  | .error x => .error x
  | .ok (a5, _, k6) => match fracS s k6 with
  | .error x => .error x
  | .ok (nan, k7) => match oneS s signs k7 with
  | .error x => .error x
  | .ok c =>
    if c.toNat = 43 ∨ c.toNat = 45 then
      match takeS s 2 ⟨#[58]⟩ (k7 + 1) with
      | .error x => .error x
      | .ok (a8, _, k9) => match takeS s 2 ⟨#[]⟩ k9 with
      | .error x => .error x
      | .ok (a9, _, k10) => if k10 < s.size then .error (k10, 1) else
        .ok ([⟨a0, 0, 0, 9999⟩, ⟨a1, k1, 1, 12⟩, ⟨a2, k2, 1, 31⟩, ⟨a3, k3, 0, 23⟩, ⟨a4, k4, 0, 59⟩, ⟨a5, k5, 0, 59⟩, ⟨a8, k7 + 1, 0, 23⟩, ⟨a9, k9, 0, 59⟩], c, nan)
    else if k7 + 1 < s.size then .error ((k7 + 1 : Nat), 1) else
      .ok ([⟨a0, 0, 0, 9999⟩, ⟨a1, k1, 1, 12⟩, ⟨a2, k2, 1, 31⟩, ⟨a3, k3, 0, 23⟩, ⟨a4, k4, 0, 59⟩, ⟨a5, k5, 0, 59⟩], c, nan)
/-- The stamp of a text, or the first fault in it. -/
def parseR (s : ByteArray) : Int × Int × Option (Int × Nat) :=
  match readS s with
  | .error x => (0, 0, some x)
  | .ok (ps, c, nan) => madeR ps c nan
def ParseP (w : World) (s : ByteArray) (e : Ending) (w' : World) : Prop :=
  ∃ v, e = .returned (.tuple #[.agg #[.int .i64 (parseR s).1, .int .i64 (parseR s).2.1], v]) ∧ FltIs w' v (parseR s).2.2 ∧ Below w.heap.size w w'

theorem parse_any (s : ByteArray) (w : World) (hs : s.size < 4611686018427387904) (hI : ErrInv w) : Calls Tryd.prog 10 #[.string s] w (ParseP w s) := by
  unfold ParseP parseR readS
  cases hx0 : takeS s 4 ⟨#[45]⟩ 0 with
  | error x => exact parse_e0 s w hs hI x hx0
  | ok r0 => obtain ⟨a0, c0, k1⟩ := r0; cases hx1 : takeS s 2 ⟨#[45]⟩ k1 with
  | error x => simp only [hx1]; exact parse_e1 s w hs hI x a0 c0 k1 hx0 hx1
  | ok r1 => obtain ⟨a1, c1, k2⟩ := r1; cases hx2 : takeS s 2 ⟨#[84, 116]⟩ k2 with
  | error x => simp only [hx1, hx2]; exact parse_e2 s w hs hI x a0 c0 k1 hx0 a1 c1 k2 hx1 hx2
  | ok r2 => obtain ⟨a2, c2, k3⟩ := r2; cases hx3 : takeS s 2 ⟨#[58]⟩ k3 with
  | error x => simp only [hx1, hx2, hx3]; exact parse_e3 s w hs hI x a0 c0 k1 hx0 a1 c1 k2 hx1 a2 c2 k3 hx2 hx3
  | ok r3 => obtain ⟨a3, c3, k4⟩ := r3; cases hx4 : takeS s 2 ⟨#[58]⟩ k4 with
  | error x => simp only [hx1, hx2, hx3, hx4]; exact parse_e4 s w hs hI x a0 c0 k1 hx0 a1 c1 k2 hx1 a2 c2 k3 hx2 a3 c3 k4 hx3 hx4
  | ok r4 => obtain ⟨a4, c4, k5⟩ := r4; cases hx5 : takeS s 2 ⟨#[]⟩ k5 with
  | error x => simp only [hx1, hx2, hx3, hx4, hx5]; exact parse_e5 s w hs hI x a0 c0 k1 hx0 a1 c1 k2 hx1 a2 c2 k3 hx2 a3 c3 k4 hx3 a4 c4 k5 hx4 hx5
  | ok r5 => obtain ⟨a5, c5, k6⟩ := r5; cases hx6 : fracS s k6 with
  | error x => simp only [hx1, hx2, hx3, hx4, hx5, hx6]; exact parse_e6 s w hs hI x a0 c0 k1 hx0 a1 c1 k2 hx1 a2 c2 k3 hx2 a3 c3 k4 hx3 a4 c4 k5 hx4 a5 c5 k6 hx5 hx6
  | ok r6 => obtain ⟨nan, k7⟩ := r6; cases hx7 : oneS s signs k7 with
  | error x => simp only [hx1, hx2, hx3, hx4, hx5, hx6, hx7]; exact parse_e7 s w hs hI x a0 c0 k1 hx0 a1 c1 k2 hx1 a2 c2 k3 hx2 a3 c3 k4 hx3 a4 c4 k5 hx4 a5 c5 k6 hx5 nan k7 hx6 hx7
  | ok c =>
    simp only [hx1, hx2, hx3, hx4, hx5, hx6, hx7]
    by_cases hp : c.toNat = 43
    · have hp' : (c.toNat : Int) = 43 := by omega
      rw [if_pos (Or.inl hp)]
      cases hx8 : takeS s 2 ⟨#[58]⟩ (k7 + 1) with
      | error x => exact parse_e8p s w hs hI x a0 c0 k1 hx0 a1 c1 k2 hx1 a2 c2 k3 hx2 a3 c3 k4 hx3 a4 c4 k5 hx4 a5 c5 k6 hx5 nan k7 hx6 c hx7 hx8 hp'
      | ok r8 => obtain ⟨a8, c8, k9⟩ := r8; cases hx9 : takeS s 2 ⟨#[]⟩ k9 with
      | error x => simp only [hx9]; exact parse_e9p s w hs hI x a0 c0 k1 hx0 a1 c1 k2 hx1 a2 c2 k3 hx2 a3 c3 k4 hx3 a4 c4 k5 hx4 a5 c5 k6 hx5 nan k7 hx6 c hx7 a8 c8 k9 hx8 hx9 hp'
      | ok r9 =>
        obtain ⟨a9, c9, k10⟩ := r9
        simp only [hx9]
        by_cases hx : k10 < s.size
        · simp only [if_pos hx]
          exact parse_t_p s w hs hI a0 c0 k1 hx0 a1 c1 k2 hx1 a2 c2 k3 hx2 a3 c3 k4 hx3 a4 c4 k5 hx4 a5 c5 k6 hx5 nan k7 hx6 c _ rfl hx7 a8 c8 k9 hx8 a9 c9 k10 hx9 hp' hx
        · simp only [if_neg hx]
          cases hR : (madeR [⟨a0, 0, 0, 9999⟩, ⟨a1, k1, 1, 12⟩, ⟨a2, k2, 1, 31⟩, ⟨a3, k3, 0, 23⟩, ⟨a4, k4, 0, 59⟩, ⟨a5, k5, 0, 59⟩, ⟨a8, k7 + 1, 0, 23⟩, ⟨a9, k9, 0, 59⟩] c nan).2.2 with
          | none => rw [← hR]; exact parse_m_p s w hs hI a0 c0 k1 hx0 a1 c1 k2 hx1 a2 c2 k3 hx2 a3 c3 k4 hx3 a4 c4 k5 hx4 a5 c5 k6 hx5 nan k7 hx6 c _ rfl hx7 a8 c8 k9 hx8 a9 c9 k10 hx9 hp' hx hR
          | some xr => rw [← hR]; exact parse_m_pb s w hs hI xr a0 c0 k1 hx0 a1 c1 k2 hx1 a2 c2 k3 hx2 a3 c3 k4 hx3 a4 c4 k5 hx4 a5 c5 k6 hx5 nan k7 hx6 c _ rfl hx7 a8 c8 k9 hx8 a9 c9 k10 hx9 hp' hx hR
    · have hp' : ¬ (c.toNat : Int) = 43 := by omega
      by_cases hq : c.toNat = 45
      · have hq' : (c.toNat : Int) = 45 := by omega
        rw [if_pos (Or.inr hq)]
        cases hx8 : takeS s 2 ⟨#[58]⟩ (k7 + 1) with
        | error x => exact parse_e8m s w hs hI x a0 c0 k1 hx0 a1 c1 k2 hx1 a2 c2 k3 hx2 a3 c3 k4 hx3 a4 c4 k5 hx4 a5 c5 k6 hx5 nan k7 hx6 c hx7 hx8 hp' hq'
        | ok r8 => obtain ⟨a8, c8, k9⟩ := r8; cases hx9 : takeS s 2 ⟨#[]⟩ k9 with
        | error x => simp only [hx9]; exact parse_e9m s w hs hI x a0 c0 k1 hx0 a1 c1 k2 hx1 a2 c2 k3 hx2 a3 c3 k4 hx3 a4 c4 k5 hx4 a5 c5 k6 hx5 nan k7 hx6 c hx7 a8 c8 k9 hx8 hx9 hp' hq'
        | ok r9 =>
          obtain ⟨a9, c9, k10⟩ := r9
          simp only [hx9]
          by_cases hx : k10 < s.size
          · simp only [if_pos hx]
            exact parse_t_m s w hs hI a0 c0 k1 hx0 a1 c1 k2 hx1 a2 c2 k3 hx2 a3 c3 k4 hx3 a4 c4 k5 hx4 a5 c5 k6 hx5 nan k7 hx6 c _ rfl hx7 a8 c8 k9 hx8 a9 c9 k10 hx9 hp' hq' hx
          · simp only [if_neg hx]
            cases hR : (madeR [⟨a0, 0, 0, 9999⟩, ⟨a1, k1, 1, 12⟩, ⟨a2, k2, 1, 31⟩, ⟨a3, k3, 0, 23⟩, ⟨a4, k4, 0, 59⟩, ⟨a5, k5, 0, 59⟩, ⟨a8, k7 + 1, 0, 23⟩, ⟨a9, k9, 0, 59⟩] c nan).2.2 with
            | none => rw [← hR]; exact parse_m_m s w hs hI a0 c0 k1 hx0 a1 c1 k2 hx1 a2 c2 k3 hx2 a3 c3 k4 hx3 a4 c4 k5 hx4 a5 c5 k6 hx5 nan k7 hx6 c _ rfl hx7 a8 c8 k9 hx8 a9 c9 k10 hx9 hp' hq' hx hR
            | some xr => rw [← hR]; exact parse_m_mb s w hs hI xr a0 c0 k1 hx0 a1 c1 k2 hx1 a2 c2 k3 hx2 a3 c3 k4 hx3 a4 c4 k5 hx4 a5 c5 k6 hx5 nan k7 hx6 c _ rfl hx7 a8 c8 k9 hx8 a9 c9 k10 hx9 hp' hq' hx hR
      · have hq' : ¬ (c.toNat : Int) = 45 := by omega
        rw [if_neg (by omega : ¬ (c.toNat = 43 ∨ c.toNat = 45))]
        by_cases hx : k7 + 1 < s.size
        · simp only [if_pos hx]
          exact parse_t_z s w hs hI a0 c0 k1 hx0 a1 c1 k2 hx1 a2 c2 k3 hx2 a3 c3 k4 hx3 a4 c4 k5 hx4 a5 c5 k6 hx5 nan k7 hx6 c _ rfl hx7 hp' hq' hx
        · simp only [if_neg hx]
          cases hR : (madeR [⟨a0, 0, 0, 9999⟩, ⟨a1, k1, 1, 12⟩, ⟨a2, k2, 1, 31⟩, ⟨a3, k3, 0, 23⟩, ⟨a4, k4, 0, 59⟩, ⟨a5, k5, 0, 59⟩] c nan).2.2 with
          | none => rw [← hR]; exact parse_m_z s w hs hI a0 c0 k1 hx0 a1 c1 k2 hx1 a2 c2 k3 hx2 a3 c3 k4 hx3 a4 c4 k5 hx4 a5 c5 k6 hx5 nan k7 hx6 c _ rfl hx7 hp' hq' hx hR
          | some xr => rw [← hR]; exact parse_m_zb s w hs hI xr a0 c0 k1 hx0 a1 c1 k2 hx1 a2 c2 k3 hx2 a3 c3 k4 hx3 a4 c4 k5 hx4 a5 c5 k6 hx5 nan k7 hx6 c _ rfl hx7 hp' hq' hx hR
end Go.Proofs.YtlgdenihddkjaaaDoor

/- What the document tells is told: awake. -/
namespace Go.Proofs.YtlgdenihddkjaaaDoor
set_option linter.unusedSimpArgs false
set_option linter.unusedVariables false
open Go.RowKit

def s0 : ByteArray := ⟨#[49, 57, 55, 48, 45, 48, 49, 45, 48, 50, 84, 48, 49, 58, 48, 48, 58, 48, 48, 43, 48, 49, 58, 48, 48]⟩
theorem s0_parse : parseR s0 = (86400, 0, none) := by kernel_rfl
theorem s0_parted : PSt.stamp_parted.f 10 86400 0 = some (1, ⟨#[48, 48, 58, 48, 48, 58, 48, 48]⟩) := by kernel_rfl
theorem s0_civil : PSt.stamp_Civil.f 1 = some (1970, 1, 2) := by kernel_rfl
theorem s0_y : PSt.stamp_digits.f 10 1970 4 = some ⟨#[49, 57, 55, 48]⟩ := by kernel_rfl
theorem s0_m : PSt.stamp_digits.f 10 1 2 = some ⟨#[48, 49]⟩ := by kernel_rfl
theorem s0_d : PSt.stamp_digits.f 10 2 2 = some ⟨#[48, 50]⟩ := by kernel_rfl
def s1 : ByteArray := ⟨#[49, 57, 55, 48, 45, 48, 49, 45, 48, 50, 84, 48, 48, 58, 48, 48, 58, 48, 48, 90]⟩

theorem awake_text (w : World) (hG : PSt.GInv w) : Calls Tryd.prog 13 #[.agg #[.int .i64 86400, .int .i64 0]] w fun e w' => e = .returned (.string s1) ∧ Below w.heap.size w w' :=
  text_whole 10 86400 0 1 1970 1 2 _ _ _ _ w hG (by kernel_rfl) rfl s0_parted s0_civil s0_y s0_m s0_d (by decide) (by decide) (by decide) (by decide)

theorem awake_parse (w : World) (hI : ErrInv w) : Calls Tryd.prog 10 #[.string s0] w fun e w' => e = .returned (.tuple #[.agg #[.int .i64 86400, .int .i64 0], .nilIface]) ∧ Below w.heap.size w w' := by
  refine Calls.mono (parse_any s0 w (by decide) hI) ?_
  intro e w' h
  unfold ParseP at h
  rw [s0_parse] at h
  obtain ⟨v, rfl, hf, hb⟩ := h
  have hv : v = .nilIface := hf
  subst hv
  exact ⟨rfl, hb⟩

set_option maxHeartbeats 4000000 in
theorem awake_any (w : World) (hI : ErrInv w) (hG : PSt.GInv w) : Calls Tryd.prog 7 #[] w fun e w' => e = .returned (.bool true) ∧ Below w.heap.size w w' := by
  have H1 := (show Hid _ from awake_parse w hI)
  have H2 : Hid (∀ w1, Below w.heap.size w w1 → Calls Tryd.prog 13 #[.agg #[.int .i64 86400, .int .i64 0]] w1 fun e w' => e = .returned (.string s1) ∧ Below w1.heap.size w1 w') := fun w1 hb => awake_text w1 (PSt.GInv.below hG hb)
  clear hI hG
  unfold s0 at H1
  unfold s1 at H2
  go_enter Tryd.func7, Tryd.ntmps7
  go_wp2_with (first
    | (go_at_call 10; have C := H1.out; refine Calls.mono C ?_; clear C; rintro e w1 ⟨rfl, hb1⟩; have HB1 := (show Hid _ from hb1); clear hb1)
    | (go_at_call 13; have C := H2.out (w1.alloc (.cells #[.int .i64 86400, .int .i64 0] 31)) (HB1.out.alloc HB1.out.size _); refine Calls.mono C ?_; clear C; rintro e w2 ⟨rfl, hb2⟩; have HB2 := (show Hid _ from below_to (HB1.out.alloc HB1.out.size (.cells #[.int .i64 86400, .int .i64 0] 31)) hb2); clear hb2))
  go_ret
  exact ⟨by first | rfl | simp, HB2.out⟩
end Go.Proofs.YtlgdenihddkjaaaDoor

/- A day's number leads to it; the next one is the next day, by the calendar. -/
namespace Go.Proofs.YtlgdenihddkjaaaDoor
set_option linter.unusedSimpArgs false
set_option linter.unusedVariables false
open Go.RowKit

theorem civil_any (n y m d : Int) (h : Cal.civil n = (y, m, d)) (w : World) : Calls Tryd.prog 8 #[.int .i64 n] w fun e w' => e = .returned (.tuple #[.int .i64 y, .int .i64 m, .int .i64 d]) ∧ Below w.heap.size w w' :=
  PSt.stamp_Civil.calls n y m d w (by rw [civil_f, h])

set_option maxHeartbeats 4000000 in
theorem follows_out (n : Int) (w : World) (hI : ErrInv w) (hG : PSt.GInv w) (h : n < -719528 ∨ (¬ n < -719528 ∧ n ≥ 2932896)) : Calls Tryd.prog 3 #[.int .i64 n] w fun e w' => e = .returned (.bool true) ∧ Below w.heap.size w w' := by
  have H1 := (show Hid _ from awake_any w hI hG)
  clear hI hG
  rcases h with h | ⟨h, h'⟩
  · go_enter Tryd.func3, Tryd.ntmps3
    go_wp2_with (go_at_call 7; have C := H1.out; refine Calls.mono C ?_; clear C; rintro e w1 ⟨rfl, hb⟩)
    go_ret
    exact ⟨rfl, hb⟩
  · go_enter Tryd.func3, Tryd.ntmps3
    go_wp2_with (go_at_call 7; have C := H1.out; refine Calls.mono C ?_; clear C; rintro e w1 ⟨rfl, hb⟩)
    go_ret
    exact ⟨rfl, hb⟩

set_option maxHeartbeats 4000000 in
theorem follows_same (n y m d : Int) (w : World) (hI : ErrInv w) (hG : PSt.GInv w) (h1 : ¬ n < -719528) (h2 : ¬ n ≥ 2932896) (hc : Cal.civil n = (y, m, d)) (g : Cal.good y m d) (hd : Cal.days y m d = n) (hc2 : Cal.civil (n + 1) = (y, m, d + 1)) (hl : d ≤ 31) (hl0 : 1 ≤ d) :
    Calls Tryd.prog 3 #[.int .i64 n] w fun e w' => e = .returned (.bool true) ∧ Below w.heap.size w w' := by
  have H1 := (show Hid _ from awake_any w hI hG)
  have HC := (show Hid _ from hc)
  have HC2 := (show Hid _ from hc2)
  have HD : Hid (∀ w1, Calls Tryd.prog 9 #[.int .i64 y, .int .i64 m, .int .i64 d] w1 fun e w' => e = .returned (.tuple #[.int .i64 n, .nilIface]) ∧ Below w1.heap.size w1 w') := fun w1 => by
    obtain ⟨g1, g2, g3, g4, g5, g6⟩ := g
    have := days_good y m d w1 (by omega) (by omega) (by omega) (by omega) (by omega) (by omega)
    rw [hd] at this
    exact this
  clear hI hG hc hc2 hd g
  go_enter Tryd.func3, Tryd.ntmps3
  go_wp2_with (first
    | (go_at_call 8; have C := civil_any (n + 1) y m (d + 1) HC2.out w3; refine Calls.mono C ?_; clear C; rintro e w4 ⟨rfl, hb⟩; have HB4 := (show Hid _ from below_to HB3.out hb); clear hb HB3)
    | (go_at_call 9; have HB2' := HB2; clear HB2'; have C := HD.out w2; refine Calls.mono C ?_; clear C; rintro e w3 ⟨rfl, hb⟩; have HB3 := (show Hid _ from below_to HB2.out hb); clear hb HB2)
    | (go_at_call 8; have HB1' := HB1; clear HB1'; have C := civil_any n y m d HC.out w1; refine Calls.mono C ?_; clear C; rintro e w2 ⟨rfl, hb⟩; have HB2 := (show Hid _ from below_to HB1.out hb); clear hb HB1)
    | (go_at_call 7; have C := H1.out; refine Calls.mono C ?_; clear C; rintro e w1 ⟨rfl, hb⟩; have HB1 := (show Hid _ from hb); clear hb))
  go_ret
  exact ⟨by simp, HB4.out⟩

set_option maxHeartbeats 4000000 in
theorem follows_next (n y m d y2 m2 : Int) (w : World) (hI : ErrInv w) (hG : PSt.GInv w) (h1 : ¬ n < -719528) (h2 : ¬ n ≥ 2932896) (hc : Cal.civil n = (y, m, d)) (g : Cal.good y m d) (hd : Cal.days y m d = n) (hc2 : Cal.civil (n + 1) = (y2, m2, 1)) (hl : d ≤ 31) (hd1 : 1 ≤ d) (hl0 : ¬ (1 : Int) = d + 1) (hm0 : 1 ≤ m) (hm1 : m ≤ 12) (hy0 : 0 ≤ y) (hy1 : y ≤ 9999) (hbig : d + 1 > Cal.len y m)
    (h3 : (m2 = m + 1 ∧ y2 = y) ∨ (¬ m2 = m + 1 ∧ m = 12 ∧ m2 = 1 ∧ y2 = y + 1)) :
    Calls Tryd.prog 3 #[.int .i64 n] w fun e w' => e = .returned (.bool true) ∧ Below w.heap.size w w' := by
  have H1 := (show Hid _ from awake_any w hI hG)
  have HC := (show Hid _ from hc)
  have HC2 := (show Hid _ from hc2)
  have HI := (show Hid _ from hI)
  have HD : Hid (∀ w1, Calls Tryd.prog 9 #[.int .i64 y, .int .i64 m, .int .i64 d] w1 fun e w' => e = .returned (.tuple #[.int .i64 n, .nilIface]) ∧ Below w1.heap.size w1 w') := fun w1 => by
    obtain ⟨g1, g2, g3, g4, g5, g6⟩ := g
    have := days_good y m d w1 (by omega) (by omega) (by omega) (by omega) (by omega) (by omega)
    rw [hd] at this
    exact this
  have HE : Hid (∀ w1, ErrInv w1 → Calls Tryd.prog 9 #[.int .i64 y, .int .i64 m, .int .i64 (d + 1)] w1 fun e w' => ∃ g, e = .returned (.tuple #[.int .i64 0, .iface 47 (.pointer (some g))]) ∧ Below w1.heap.size w1 w') := fun w1 hI1 => by
    obtain ⟨g1, g2, g3, g4, g5, g6⟩ := g
    refine Calls.mono (days_bad y m (d + 1) 2 w1 hI1 (by omega)) ?_
    rintro e w' ⟨v, rfl, hf, hb⟩
    obtain ⟨_, _, gf, sf, rfl, _, _⟩ := hf
    exact ⟨_, rfl, hb⟩
  clear hI hG hc hc2 hd g hbig
  rcases h3 with ⟨rfl, rfl⟩ | ⟨h3, rfl, rfl, rfl⟩
  all_goals
    go_enter Tryd.func3, Tryd.ntmps3
    go_wp2_with (first
      | (go_at_call 9; (have C := HE.out w4 (ErrInv.below HI.out HB4.out); refine Calls.mono C ?_; clear C; rintro e w5 ⟨gg, rfl, hb⟩; have HB5 := (show Hid _ from below_to HB4.out hb); clear hb HB4))
      | (go_at_call 8; have C := civil_any (n + 1) _ _ 1 HC2.out w3; refine Calls.mono C ?_; clear C; rintro e w4 ⟨rfl, hb⟩; have HB4 := (show Hid _ from below_to HB3.out hb); clear hb HB3)
      | (go_at_call 9; have HB2' := HB2; clear HB2'; have C := HD.out w2; refine Calls.mono C ?_; clear C; rintro e w3 ⟨rfl, hb⟩; have HB3 := (show Hid _ from below_to HB2.out hb); clear hb HB2)
      | (go_at_call 8; have HB1' := HB1; clear HB1'; have C := civil_any n _ _ d HC.out w1; refine Calls.mono C ?_; clear C; rintro e w2 ⟨rfl, hb⟩; have HB2 := (show Hid _ from below_to HB1.out hb); clear hb HB1)
      | (go_at_call 7; have C := H1.out; refine Calls.mono C ?_; clear C; rintro e w1 ⟨rfl, hb⟩; have HB1 := (show Hid _ from hb); clear hb))
    go_ret
    exact ⟨by simp, HB5.out⟩

/-- The law. -/
theorem follows_any (n : Int) (w : World) (hI : ErrInv w) (hG : PSt.GInv w) : Calls Tryd.prog 3 #[.int .i64 n] w fun e w' => e = .returned (.bool true) ∧ Below w.heap.size w w' := by
  by_cases h1 : n < -719528
  · exact follows_out n w hI hG (Or.inl h1)
  · by_cases h2 : n ≥ 2932896
    · exact follows_out n w hI hG (Or.inr ⟨h1, h2⟩)
    · obtain ⟨y, m, d, hc, g, hd⟩ := Cal.civil_is n
      have hcl : Cal.clamp n = n := by unfold Cal.clamp; omega
      rw [hcl] at hd
      have g' := g
      obtain ⟨g1, g2, g3, g4, g5, g6⟩ := g
      have hll := Cal.len_le y m
      have e1 := Cal.days_eq y m d g3 g4
      by_cases hlast : d + 1 ≤ Cal.len y m
      · have gn : Cal.good y m (d + 1) := ⟨g1, g2, g3, g4, by omega, hlast⟩
        have hn : Cal.days y m (d + 1) = n + 1 := by have e2 := Cal.days_eq y m (d + 1) g3 g4; omega
        have hc2 := Cal.civil_days gn
        rw [hn] at hc2
        exact follows_same n y m d w hI hG h1 h2 hc g' hd hc2 (by omega) g5
      · have hde : d = Cal.len y m := by omega
        by_cases hm : m = 12
        · have hlen : Cal.len y m = 31 := by rw [hm]; simp [Cal.len]
          have hy : y ≤ 9998 := by
            by_cases h : y < 9999
            · omega
            · have : y = 9999 := by omega
              subst this; subst hm
              rw [hde, hlen] at hd
              have : Cal.days 9999 12 31 = 2932896 := by decide
              omega
          have hl1 : Cal.len (y + 1) 1 = 31 := by simp [Cal.len]
          have gn : Cal.good (y + 1) 1 1 := ⟨by omega, by omega, by omega, by omega, by omega, by omega⟩
          have hn : Cal.days (y + 1) 1 1 = n + 1 := by
            have e2 := Cal.days_eq (y + 1) 1 1 (by omega) (by omega)
            have e3 := Cal.yr_succ y
            have e4 : Cal.cumT (y + 1) 1 = 0 := by simp [Cal.cumT]
            have e5 := Cal.cumT_succ y m g3 g4
            have e6 := Cal.cumT_13 y
            rw [hm] at e5 e1
            have e7 : Cal.cumT y (12 + 1) = Cal.cumT y 13 := rfl
            subst hm
            omega
          have hc2 := Cal.civil_days gn
          rw [hn] at hc2
          exact follows_next n y m d (y + 1) 1 w hI hG h1 h2 hc g' hd hc2 (by omega) g5 (by omega) g3 g4 g1 g2 (by omega) (Or.inr ⟨by omega, hm, rfl, rfl⟩)
        · have hl1 := Cal.len_le y (m + 1)
          have gn : Cal.good y (m + 1) 1 := ⟨g1, g2, by omega, by omega, by omega, by omega⟩
          have hn : Cal.days y (m + 1) 1 = n + 1 := by
            have e2 := Cal.days_eq y (m + 1) 1 (by omega) (by omega)
            have e5 := Cal.cumT_succ y m g3 g4
            omega
          have hc2 := Cal.civil_days gn
          rw [hn] at hc2
          exact follows_next n y m d y (m + 1) w hI hG h1 h2 hc g' hd hc2 (by omega) g5 (by omega) g3 g4 g1 g2 (by omega) (Or.inl ⟨rfl, rfl⟩)
end Go.Proofs.YtlgdenihddkjaaaDoor
