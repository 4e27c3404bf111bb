/- What the document's Http writes. -/
import Derived.Test.YtlgdenihddkjaaaDoorHt
namespace Go.Proofs.YtlgdenihddkjaaaDoor
set_option linter.unusedSimpArgs false
set_option linter.unusedVariables false
open Go.RowKit Go.Lib Go.Proofs.YtlgdenihddkjaaaDoorW.PrintWords

def wdV : Value := .agg #[.string ⟨#[77, 111, 110]⟩, .string ⟨#[84, 117, 101]⟩, .string ⟨#[87, 101, 100]⟩, .string ⟨#[84, 104, 117]⟩, .string ⟨#[70, 114, 105]⟩, .string ⟨#[83, 97, 116]⟩, .string ⟨#[83, 117, 110]⟩]
def moV : Value := .agg #[.string ⟨#[]⟩, .string ⟨#[74, 97, 110]⟩, .string ⟨#[70, 101, 98]⟩, .string ⟨#[77, 97, 114]⟩, .string ⟨#[65, 112, 114]⟩, .string ⟨#[77, 97, 121]⟩, .string ⟨#[74, 117, 110]⟩, .string ⟨#[74, 117, 108]⟩, .string ⟨#[65, 117, 103]⟩, .string ⟨#[83, 101, 112]⟩, .string ⟨#[79, 99, 116]⟩, .string ⟨#[78, 111, 118]⟩, .string ⟨#[68, 101, 99]⟩]
theorem wdV_at (wk : Int) (h0 : 0 ≤ wk) (h6 : wk ≤ 6) (w : World) : (Instr.index 75 wdV (.int .i64 wk)).run Tryd.prog w = .ok (.string (wdT wk)) w := by
  have h : wk = 0 ∨ wk = 1 ∨ wk = 2 ∨ wk = 3 ∨ wk = 4 ∨ wk = 5 ∨ wk = 6 := by omega
  clear h0 h6
  rcases h with rfl | rfl | rfl | rfl | rfl | rfl | rfl <;> (show _ = _; kernel_rfl)
theorem moV_at (m : Int) (h0 : 1 ≤ m) (h6 : m ≤ 12) (w : World) : (Instr.index 76 moV (.int .i64 m)).run Tryd.prog w = .ok (.string (moT m)) w := by
  have h : m = 1 ∨ m = 2 ∨ m = 3 ∨ m = 4 ∨ m = 5 ∨ m = 6 ∨ m = 7 ∨ m = 8 ∨ m = 9 ∨ m = 10 ∨ m = 11 ∨ m = 12 := by omega
  clear h0 h6
  rcases h with rfl | rfl | rfl | rfl | rfl | rfl | rfl | rfl | rfl | rfl | rfl | rfl <;> (show _ = _; kernel_rfl)

set_option maxRecDepth 100000 in
set_option maxHeartbeats 8000000 in
theorem refHttp_good (k : Nat) (sec nan day c y m d wk : Int) (s1 s3 cl : ByteArray) (w : World) (hcut : PSt.eponymref16_cut.f sec nan = some (day, c)) (hc : PSt.eponymref16_Civil.f k day = some (y, m, d)) (hw : PSt.eponymref16_Week.f day = some wk) (hw0 : 0 ≤ wk) (hw6 : wk ≤ 6) (hm1 : 1 ≤ m) (hm12 : m ≤ 12)
    (h3 : PSt.eponymref16_digits.f k d 2 = some s3) (h1 : PSt.eponymref16_digits.f k y 4 = some s1) (hcl : PSt.eponymref16_clock.f k c = some cl) (z0 : cl.size ≤ 100) (z1 : s1.size ≤ 100) (z3 : s3.size ≤ 100) :
    Calls Tryd.prog 18 #[.agg #[.int .i64 sec, .int .i64 nan]] w fun e w' => e = .returned (.string (wdT wk ++ ⟨#[44, 32]⟩ ++ s3 ++ ⟨#[32]⟩ ++ moT m ++ ⟨#[32]⟩ ++ s1 ++ ⟨#[32]⟩ ++ cl ++ ⟨#[32, 71, 77, 84]⟩)) ∧ Below w.heap.size w w' := by
  have HT := (show Hid _ from hcut)
  have HC := (show Hid _ from hc)
  have HW := (show Hid _ from hw)
  have H1 : Hid (PSt.eponymref16_digits.f k y 4 = some s1) := h1
  have H3 : Hid (PSt.eponymref16_digits.f k d 2 = some s3) := h3
  have HL : Hid (PSt.eponymref16_clock.f k c = some cl) := hcl
  have HB0 := (show Hid _ from (Below.refl w.heap.size w).alloc (Nat.le_refl _) (.cells #[.int .i64 sec, .int .i64 nan] 31))
  have hs1 := wdV_at wk hw0 hw6
  have hs2 := moV_at m hm1 hm12
  have hz1 := wdT_size wk hw0 hw6
  have hz2 := moT_size m hm1 hm12
  unfold wdV at hs1
  unfold moV at hs2
  clear hcut hc hw h1 h3 hcl
  go_enter Tryd.func18, Tryd.ntmps18
  go_wp2_with (first
    | (go_at_call 44; have C := PSt.eponymref16_clock.calls k c cl w5 HL.out; (with_reducible refine Calls.mono C ?_); clear C; rintro e w6 ⟨rfl, hb⟩; have HB6 := (show Hid _ from below_to HB5.out hb); clear hb HB5)
    | (go_at_call 43; have C := PSt.eponymref16_digits.calls k y 4 s1 w4 H1.out; (with_reducible refine Calls.mono C ?_); clear C; rintro e w5 ⟨rfl, hb⟩; have HB5 := (show Hid _ from below_to HB4.out hb); clear hb HB4)
    | (go_at_call 43; have C := PSt.eponymref16_digits.calls k d 2 s3 w3 H3.out; (with_reducible refine Calls.mono C ?_); clear C; rintro e w4 ⟨rfl, hb⟩; have HB4 := (show Hid _ from below_to HB3.out hb); clear hb HB3)
    | (go_at_call 22; have C := PSt.eponymref16_Week.calls day wk w2 HW.out; (with_reducible refine Calls.mono C ?_); clear C; rintro e w3 ⟨rfl, hd⟩; have HB3 := (show Hid _ from below_to HB2.out (Drawn0.below hd)); clear hd HB2)
    | (go_at_call 20; have C := PSt.eponymref16_Civil.calls k day y m d w1 HC.out; (with_reducible refine Calls.mono C ?_); clear C; rintro e w2 ⟨rfl, hd⟩; have HB2 := (show Hid _ from below_to HB1.out (Drawn0.below hd)); clear hd HB1)
    | (go_at_call 42; have C := PSt.eponymref16_cut.calls sec nan day c (w.alloc (.cells #[.int .i64 sec, .int .i64 nan] 31)) HT.out; (with_reducible refine Calls.mono C ?_); clear C; rintro e w1 ⟨rfl, hb⟩; have HB1 := (show Hid _ from below_to HB0.out hb); clear hb))
  go_ret
  exact ⟨rfl, HB6.out⟩
end Go.Proofs.YtlgdenihddkjaaaDoor
