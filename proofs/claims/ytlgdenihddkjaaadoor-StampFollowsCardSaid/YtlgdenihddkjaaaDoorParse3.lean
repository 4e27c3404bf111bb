/- stamp.Parse, joined: what any text is read to. -/
import Derived.Test.YtlgdenihddkjaaaDoorPartA
import Derived.Test.YtlgdenihddkjaaaDoorPartB
import Derived.Test.YtlgdenihddkjaaaDoorPartC
import Derived.Test.YtlgdenihddkjaaaDoorPartD
import Derived.Test.YtlgdenihddkjaaaDoorPartE
import Derived.Test.YtlgdenihddkjaaaDoorPartF
namespace Go.Proofs.YtlgdenihddkjaaaDoor
set_option linter.unusedSimpArgs false
set_option linter.unusedVariables false
open Go.RowKit

/-- The numbers, the sign, the nanoseconds. -/
def readS (s : ByteArray) : Except (Int × Nat) (List Pt × UInt8 × Nat) :=
  match takeS s 4 ⟨#[45]⟩ 0 with
  | .error x => .error x
  | .ok (a0, _, k1) => match takeS s 2 ⟨#[45]⟩ k1 with
  | .error x => .error x
  | .ok (a1, _, k2) => match takeS s 2 ⟨#[84, 116]⟩ k2 with
  | .error x => .error x
  | .ok (a2, _, k3) => match takeS s 2 ⟨#[58]⟩ k3 with
  | .error x => .error x
  | .ok (a3, _, k4) => match takeS s 2 ⟨#[58]⟩ k4 with
  | .error x => .error x
  | .ok (a4, _, k5) => match takeS s 2 ⟨#[]⟩ k5 with
  | .error x => .error x
  | .ok (a5, _, k6) => match fracS s k6 with
  | .error x => .error x
  | .ok (nan, k7) => match oneS s signs k7 with
  | .error x => .error x
  | .ok c =>
    if c.toNat = 43 ∨ c.toNat = 45 then
      match takeS s 2 ⟨#[58]⟩ (k7 + 1) with
      | .error x => .error x
      | .ok (a8, _, k9) => match takeS s 2 ⟨#[]⟩ k9 with
      | .error x => .error x
      | .ok (a9, _, k10) => if k10 < s.size then .error (k10, 1) else
        .ok ([⟨a0, 0, 0, 9999⟩, ⟨a1, k1, 1, 12⟩, ⟨a2, k2, 1, 31⟩, ⟨a3, k3, 0, 23⟩, ⟨a4, k4, 0, 59⟩, ⟨a5, k5, 0, 59⟩, ⟨a8, k7 + 1, 0, 23⟩, ⟨a9, k9, 0, 59⟩], c, nan)
    else if k7 + 1 < s.size then .error ((k7 + 1 : Nat), 1) else
      .ok ([⟨a0, 0, 0, 9999⟩, ⟨a1, k1, 1, 12⟩, ⟨a2, k2, 1, 31⟩, ⟨a3, k3, 0, 23⟩, ⟨a4, k4, 0, 59⟩, ⟨a5, k5, 0, 59⟩], c, nan)
/-- The stamp of a text, or the first fault in it. -/
def parseR (s : ByteArray) : Int × Int × Option (Int × Nat) :=
  match readS s with
  | .error x => (0, 0, some x)
  | .ok (ps, c, nan) => madeR ps c nan
def ParseP (w : World) (s : ByteArray) (e : Ending) (w' : World) : Prop :=
  ∃ v, e = .returned (.tuple #[.agg #[.int .i64 (parseR s).1, .int .i64 (parseR s).2.1], v]) ∧ FltIs w' v (parseR s).2.2 ∧ Below w.heap.size w w'

theorem parse_any (s : ByteArray) (w : World) (hs : s.size < 4611686018427387904) (hI : ErrInv w) : Calls Tryd.prog 10 #[.string s] w (ParseP w s) := by
  unfold ParseP parseR readS
  cases hx0 : takeS s 4 ⟨#[45]⟩ 0 with
  | error x => exact parse_e0 s w hs hI x hx0
  | ok r0 => obtain ⟨a0, c0, k1⟩ := r0; cases hx1 : takeS s 2 ⟨#[45]⟩ k1 with
  | error x => simp only [hx1]; exact parse_e1 s w hs hI x a0 c0 k1 hx0 hx1
  | ok r1 => obtain ⟨a1, c1, k2⟩ := r1; cases hx2 : takeS s 2 ⟨#[84, 116]⟩ k2 with
  | error x => simp only [hx1, hx2]; exact parse_e2 s w hs hI x a0 c0 k1 hx0 a1 c1 k2 hx1 hx2
  | ok r2 => obtain ⟨a2, c2, k3⟩ := r2; cases hx3 : takeS s 2 ⟨#[58]⟩ k3 with
  | error x => simp only [hx1, hx2, hx3]; exact parse_e3 s w hs hI x a0 c0 k1 hx0 a1 c1 k2 hx1 a2 c2 k3 hx2 hx3
  | ok r3 => obtain ⟨a3, c3, k4⟩ := r3; cases hx4 : takeS s 2 ⟨#[58]⟩ k4 with
  | error x => simp only [hx1, hx2, hx3, hx4]; exact parse_e4 s w hs hI x a0 c0 k1 hx0 a1 c1 k2 hx1 a2 c2 k3 hx2 a3 c3 k4 hx3 hx4
  | ok r4 => obtain ⟨a4, c4, k5⟩ := r4; cases hx5 : takeS s 2 ⟨#[]⟩ k5 with
  | error x => simp only [hx1, hx2, hx3, hx4, hx5]; exact parse_e5 s w hs hI x a0 c0 k1 hx0 a1 c1 k2 hx1 a2 c2 k3 hx2 a3 c3 k4 hx3 a4 c4 k5 hx4 hx5
  | ok r5 => obtain ⟨a5, c5, k6⟩ := r5; cases hx6 : fracS s k6 with
  | error x => simp only [hx1, hx2, hx3, hx4, hx5, hx6]; exact parse_e6 s w hs hI x a0 c0 k1 hx0 a1 c1 k2 hx1 a2 c2 k3 hx2 a3 c3 k4 hx3 a4 c4 k5 hx4 a5 c5 k6 hx5 hx6
  | ok r6 => obtain ⟨nan, k7⟩ := r6; cases hx7 : oneS s signs k7 with
  | error x => simp only [hx1, hx2, hx3, hx4, hx5, hx6, hx7]; exact parse_e7 s w hs hI x a0 c0 k1 hx0 a1 c1 k2 hx1 a2 c2 k3 hx2 a3 c3 k4 hx3 a4 c4 k5 hx4 a5 c5 k6 hx5 nan k7 hx6 hx7
  | ok c =>
    simp only [hx1, hx2, hx3, hx4, hx5, hx6, hx7]
    by_cases hp : c.toNat = 43
    · have hp' : (c.toNat : Int) = 43 := by omega
      rw [if_pos (Or.inl hp)]
      cases hx8 : takeS s 2 ⟨#[58]⟩ (k7 + 1) with
      | error x => exact parse_e8p s w hs hI x a0 c0 k1 hx0 a1 c1 k2 hx1 a2 c2 k3 hx2 a3 c3 k4 hx3 a4 c4 k5 hx4 a5 c5 k6 hx5 nan k7 hx6 c hx7 hx8 hp'
      | ok r8 => obtain ⟨a8, c8, k9⟩ := r8; cases hx9 : takeS s 2 ⟨#[]⟩ k9 with
      | error x => simp only [hx9]; exact parse_e9p s w hs hI x a0 c0 k1 hx0 a1 c1 k2 hx1 a2 c2 k3 hx2 a3 c3 k4 hx3 a4 c4 k5 hx4 a5 c5 k6 hx5 nan k7 hx6 c hx7 a8 c8 k9 hx8 hx9 hp'
      | ok r9 =>
        obtain ⟨a9, c9, k10⟩ := r9
        simp only [hx9]
        by_cases hx : k10 < s.size
        · simp only [if_pos hx]
          exact parse_t_p s w hs hI a0 c0 k1 hx0 a1 c1 k2 hx1 a2 c2 k3 hx2 a3 c3 k4 hx3 a4 c4 k5 hx4 a5 c5 k6 hx5 nan k7 hx6 c _ rfl hx7 a8 c8 k9 hx8 a9 c9 k10 hx9 hp' hx
        · simp only [if_neg hx]
          cases hR : (madeR [⟨a0, 0, 0, 9999⟩, ⟨a1, k1, 1, 12⟩, ⟨a2, k2, 1, 31⟩, ⟨a3, k3, 0, 23⟩, ⟨a4, k4, 0, 59⟩, ⟨a5, k5, 0, 59⟩, ⟨a8, k7 + 1, 0, 23⟩, ⟨a9, k9, 0, 59⟩] c nan).2.2 with
          | none => rw [← hR]; exact parse_m_p s w hs hI a0 c0 k1 hx0 a1 c1 k2 hx1 a2 c2 k3 hx2 a3 c3 k4 hx3 a4 c4 k5 hx4 a5 c5 k6 hx5 nan k7 hx6 c _ rfl hx7 a8 c8 k9 hx8 a9 c9 k10 hx9 hp' hx hR
          | some xr => rw [← hR]; exact parse_m_pb s w hs hI xr a0 c0 k1 hx0 a1 c1 k2 hx1 a2 c2 k3 hx2 a3 c3 k4 hx3 a4 c4 k5 hx4 a5 c5 k6 hx5 nan k7 hx6 c _ rfl hx7 a8 c8 k9 hx8 a9 c9 k10 hx9 hp' hx hR
    · have hp' : ¬ (c.toNat : Int) = 43 := by omega
      by_cases hq : c.toNat = 45
      · have hq' : (c.toNat : Int) = 45 := by omega
        rw [if_pos (Or.inr hq)]
        cases hx8 : takeS s 2 ⟨#[58]⟩ (k7 + 1) with
        | error x => exact parse_e8m s w hs hI x a0 c0 k1 hx0 a1 c1 k2 hx1 a2 c2 k3 hx2 a3 c3 k4 hx3 a4 c4 k5 hx4 a5 c5 k6 hx5 nan k7 hx6 c hx7 hx8 hp' hq'
        | ok r8 => obtain ⟨a8, c8, k9⟩ := r8; cases hx9 : takeS s 2 ⟨#[]⟩ k9 with
        | error x => simp only [hx9]; exact parse_e9m s w hs hI x a0 c0 k1 hx0 a1 c1 k2 hx1 a2 c2 k3 hx2 a3 c3 k4 hx3 a4 c4 k5 hx4 a5 c5 k6 hx5 nan k7 hx6 c hx7 a8 c8 k9 hx8 hx9 hp' hq'
        | ok r9 =>
          obtain ⟨a9, c9, k10⟩ := r9
          simp only [hx9]
          by_cases hx : k10 < s.size
          · simp only [if_pos hx]
            exact parse_t_m s w hs hI a0 c0 k1 hx0 a1 c1 k2 hx1 a2 c2 k3 hx2 a3 c3 k4 hx3 a4 c4 k5 hx4 a5 c5 k6 hx5 nan k7 hx6 c _ rfl hx7 a8 c8 k9 hx8 a9 c9 k10 hx9 hp' hq' hx
          · simp only [if_neg hx]
            cases hR : (madeR [⟨a0, 0, 0, 9999⟩, ⟨a1, k1, 1, 12⟩, ⟨a2, k2, 1, 31⟩, ⟨a3, k3, 0, 23⟩, ⟨a4, k4, 0, 59⟩, ⟨a5, k5, 0, 59⟩, ⟨a8, k7 + 1, 0, 23⟩, ⟨a9, k9, 0, 59⟩] c nan).2.2 with
            | none => rw [← hR]; exact parse_m_m s w hs hI a0 c0 k1 hx0 a1 c1 k2 hx1 a2 c2 k3 hx2 a3 c3 k4 hx3 a4 c4 k5 hx4 a5 c5 k6 hx5 nan k7 hx6 c _ rfl hx7 a8 c8 k9 hx8 a9 c9 k10 hx9 hp' hq' hx hR
            | some xr => rw [← hR]; exact parse_m_mb s w hs hI xr a0 c0 k1 hx0 a1 c1 k2 hx1 a2 c2 k3 hx2 a3 c3 k4 hx3 a4 c4 k5 hx4 a5 c5 k6 hx5 nan k7 hx6 c _ rfl hx7 a8 c8 k9 hx8 a9 c9 k10 hx9 hp' hq' hx hR
      · have hq' : ¬ (c.toNat : Int) = 45 := by omega
        rw [if_neg (by omega : ¬ (c.toNat = 43 ∨ c.toNat = 45))]
        by_cases hx : k7 + 1 < s.size
        · simp only [if_pos hx]
          exact parse_t_z s w hs hI a0 c0 k1 hx0 a1 c1 k2 hx1 a2 c2 k3 hx2 a3 c3 k4 hx3 a4 c4 k5 hx4 a5 c5 k6 hx5 nan k7 hx6 c _ rfl hx7 hp' hq' hx
        · simp only [if_neg hx]
          cases hR : (madeR [⟨a0, 0, 0, 9999⟩, ⟨a1, k1, 1, 12⟩, ⟨a2, k2, 1, 31⟩, ⟨a3, k3, 0, 23⟩, ⟨a4, k4, 0, 59⟩, ⟨a5, k5, 0, 59⟩] c nan).2.2 with
          | none => rw [← hR]; exact parse_m_z s w hs hI a0 c0 k1 hx0 a1 c1 k2 hx1 a2 c2 k3 hx2 a3 c3 k4 hx3 a4 c4 k5 hx4 a5 c5 k6 hx5 nan k7 hx6 c _ rfl hx7 hp' hq' hx hR
          | some xr => rw [← hR]; exact parse_m_zb s w hs hI xr a0 c0 k1 hx0 a1 c1 k2 hx1 a2 c2 k3 hx2 a3 c3 k4 hx3 a4 c4 k5 hx4 a5 c5 k6 hx5 nan k7 hx6 c _ rfl hx7 hp' hq' hx hR
end Go.Proofs.YtlgdenihddkjaaaDoor
