/- stamp.Parse: some of the places at which it may end. -/
import Derived.Test.YtlgdenihddkjaaaDoorPb
namespace Go.Proofs.YtlgdenihddkjaaaDoor
set_option linter.unusedSimpArgs false
set_option linter.unusedVariables false
open Go.RowKit

set_option maxHeartbeats 8000000 in
theorem parse_e8m (s : ByteArray) (w : World) (hs : s.size < 4611686018427387904) (hI : ErrInv w) (x : Int × Nat) (a0 : Nat) (c0 : UInt8) (k1 : Nat) (hx0 : takeS s 4 ⟨#[45]⟩ 0 = .ok (a0, c0, k1)) (a1 : Nat) (c1 : UInt8) (k2 : Nat) (hx1 : takeS s 2 ⟨#[45]⟩ k1 = .ok (a1, c1, k2)) (a2 : Nat) (c2 : UInt8) (k3 : Nat) (hx2 : takeS s 2 ⟨#[84, 116]⟩ k2 = .ok (a2, c2, k3)) (a3 : Nat) (c3 : UInt8) (k4 : Nat) (hx3 : takeS s 2 ⟨#[58]⟩ k3 = .ok (a3, c3, k4)) (a4 : Nat) (c4 : UInt8) (k5 : Nat) (hx4 : takeS s 2 ⟨#[58]⟩ k4 = .ok (a4, c4, k5)) (a5 : Nat) (c5 : UInt8) (k6 : Nat) (hx5 : takeS s 2 ⟨#[]⟩ k5 = .ok (a5, c5, k6)) (nan k7 : Nat) (hx6 : fracS s k6 = .ok (nan, k7)) (c : UInt8) (hx7 : oneS s signs k7 = .ok c) (hx8 : takeS s 2 ⟨#[58]⟩ (k7 + 1) = .error x) (hp : ¬ (c.toNat : Int) = 43) (hq : (c.toNat : Int) = 45) :
    Calls Tryd.prog 10 #[.string s] w (PErr w x) := by
  have hmf : ∀ (fn : Fn) (first cap : Array Value) (w : World), (Instr.makeFunc fn first cap).run Tryd.prog w = .ok (.func fn first cap) w := fun _ _ _ _ => rfl
  have hk0 : 0 ≤ s.size := Nat.zero_le _
  have hk1 : k1 ≤ s.size := takeS_le hx0 hk0
  have hk2 : k2 ≤ s.size := takeS_le hx1 hk1
  have hk3 : k3 ≤ s.size := takeS_le hx2 hk2
  have hk4 : k4 ≤ s.size := takeS_le hx3 hk3
  have hk5 : k5 ≤ s.size := takeS_le hx4 hk4
  have hk6 : k6 ≤ s.size := takeS_le hx5 hk5
  have hk8 : k7 + 1 ≤ s.size := oneS_le hx7
  have HS := (show Hid _ from start w s hI)
  have HT0 := (show Hid _ from HS.out.tk)
  have HI0 := (show Hid _ from HS.out.err)
  have HK0 : Hid (Keep (Turns (w.heap.size + 1 + 1) (w.heap.size + 1 + 1 + 1 + 1) (w.heap.size + 1 + 1 + 1 + 1 + 1)) (((((w.alloc (.cells #[.int .i64 0, .int .i64 0] 31)).alloc (.cells #[.nilIface] 26)).alloc (.cells #[.string s, .int .i64 0] 51)).alloc (.cells #[.pointer (some ⟨w.heap.size + 1 + 1, 0, none⟩)] 49)).alloc (.cells #[.slice none 0 0] 52)) _) := (show Hid _ from Keep.refl _ _)
  clear hI
  have hp' : ((c.toNat : Int) == 43) = false := by simpa using hp
  have hpn : ¬ c.toNat = 43 := by omega
  go_enter_defers Tryd.func10, Tryd.ntmps10
  go_wp2_with (first
    | (go_at_call 28; refine Calls.mono (take_err (w.heap.size + 1 + 1 + 1 + 1 + 1) (w.heap.size + 1 + 1 + 1 + 1) (w.heap.size + 1 + 1 + 1) (w.heap.size + 1 + 1) s (k7 + 1) 2 0 23 _ 6 _ _ HT8.out (by omega) hs hk8 (by omega) HI8.out ⟨#[58]⟩ (Or.inr ⟨by kernel_rfl, by decide⟩) x hx8) ?_; rintro e w9 ⟨g, rfl, hf, hK⟩; have HK := (show Hid _ from Keep.trans HK8.out hK); have HF := (show Hid _ from hf); clear hK hf)
    | (go_at_call 30; refine Calls.mono (sign_ok (w.heap.size + 1 + 1 + 1 + 1 + 1) (w.heap.size + 1 + 1 + 1 + 1) (w.heap.size + 1 + 1 + 1) (w.heap.size + 1 + 1) s _ _ _ _ _ HT7.out hs HI7.out c hx7) ?_; rintro e w8 ⟨rfl, hK, hI', hT'⟩; have HT8 := (show Hid _ from hT'); have HI8 := (show Hid _ from hI'); have HK8 := (show Hid _ from Keep.trans HK7.out hK); have hd8 := hT'.dcell; have hr8 := hT'.rd.c1; have hl8 := hT'.lcell; clear hK hT' hI')
    | (go_at_call 31; refine Calls.mono (frac_ok (w.heap.size + 1 + 1 + 1 + 1 + 1) (w.heap.size + 1 + 1 + 1 + 1) (w.heap.size + 1 + 1 + 1) (w.heap.size + 1 + 1) s _ _ _ _ _ HT6.out hs HI6.out nan k7 hx6) ?_; rintro e w7 ⟨rfl, hK, hI', hT'⟩; have HT7 := (show Hid _ from hT'); have HI7 := (show Hid _ from hI'); have HK7 := (show Hid _ from Keep.trans HK6.out hK); have hd7 := hT'.dcell; have hr7 := hT'.rd.c1; have hl7 := hT'.lcell; clear hK hT' hI')
    | (go_at_call 28; refine Calls.mono (take_ok (w.heap.size + 1 + 1 + 1 + 1 + 1) (w.heap.size + 1 + 1 + 1 + 1) (w.heap.size + 1 + 1 + 1) (w.heap.size + 1 + 1) s k5 2 0 59 _ 5 _ _ HT5.out (by omega) hs hk5 (by omega) HI5.out ⟨#[]⟩ (Or.inl rfl) a5 c5 k6 hx5) ?_; rintro e w6 ⟨rfl, hK, hI', v6, hT'⟩; have HT6 := (show Hid _ from hT'); have HI6 := (show Hid _ from hI'); have HK6 := (show Hid _ from Keep.trans HK5.out hK); have hd6 := hT'.dcell; have hr6 := hT'.rd.c1; have hl6 := hT'.lcell; clear hK hT' hI')
    | (go_at_call 28; refine Calls.mono (take_ok (w.heap.size + 1 + 1 + 1 + 1 + 1) (w.heap.size + 1 + 1 + 1 + 1) (w.heap.size + 1 + 1 + 1) (w.heap.size + 1 + 1) s k4 2 0 59 _ 4 _ _ HT4.out (by omega) hs hk4 (by omega) HI4.out ⟨#[58]⟩ (Or.inr ⟨by kernel_rfl, by decide⟩) a4 c4 k5 hx4) ?_; rintro e w5 ⟨rfl, hK, hI', v5, hT'⟩; have HT5 := (show Hid _ from hT'); have HI5 := (show Hid _ from hI'); have HK5 := (show Hid _ from Keep.trans HK4.out hK); have hd5 := hT'.dcell; have hr5 := hT'.rd.c1; have hl5 := hT'.lcell; clear hK hT' hI')
    | (go_at_call 28; refine Calls.mono (take_ok (w.heap.size + 1 + 1 + 1 + 1 + 1) (w.heap.size + 1 + 1 + 1 + 1) (w.heap.size + 1 + 1 + 1) (w.heap.size + 1 + 1) s k3 2 0 23 _ 3 _ _ HT3.out (by omega) hs hk3 (by omega) HI3.out ⟨#[58]⟩ (Or.inr ⟨by kernel_rfl, by decide⟩) a3 c3 k4 hx3) ?_; rintro e w4 ⟨rfl, hK, hI', v4, hT'⟩; have HT4 := (show Hid _ from hT'); have HI4 := (show Hid _ from hI'); have HK4 := (show Hid _ from Keep.trans HK3.out hK); have hd4 := hT'.dcell; have hr4 := hT'.rd.c1; have hl4 := hT'.lcell; clear hK hT' hI')
    | (go_at_call 28; refine Calls.mono (take_ok (w.heap.size + 1 + 1 + 1 + 1 + 1) (w.heap.size + 1 + 1 + 1 + 1) (w.heap.size + 1 + 1 + 1) (w.heap.size + 1 + 1) s k2 2 1 31 _ 2 _ _ HT2.out (by omega) hs hk2 (by omega) HI2.out ⟨#[84, 116]⟩ (Or.inr ⟨by kernel_rfl, by decide⟩) a2 c2 k3 hx2) ?_; rintro e w3 ⟨rfl, hK, hI', v3, hT'⟩; have HT3 := (show Hid _ from hT'); have HI3 := (show Hid _ from hI'); have HK3 := (show Hid _ from Keep.trans HK2.out hK); have hd3 := hT'.dcell; have hr3 := hT'.rd.c1; have hl3 := hT'.lcell; clear hK hT' hI')
    | (go_at_call 28; refine Calls.mono (take_ok (w.heap.size + 1 + 1 + 1 + 1 + 1) (w.heap.size + 1 + 1 + 1 + 1) (w.heap.size + 1 + 1 + 1) (w.heap.size + 1 + 1) s k1 2 1 12 _ 1 _ _ HT1.out (by omega) hs hk1 (by omega) HI1.out ⟨#[45]⟩ (Or.inr ⟨by kernel_rfl, by decide⟩) a1 c1 k2 hx1) ?_; rintro e w2 ⟨rfl, hK, hI', v2, hT'⟩; have HT2 := (show Hid _ from hT'); have HI2 := (show Hid _ from hI'); have HK2 := (show Hid _ from Keep.trans HK1.out hK); have hd2 := hT'.dcell; have hr2 := hT'.rd.c1; have hl2 := hT'.lcell; clear hK hT' hI')
    | (go_at_call 28; refine Calls.mono (take_ok (w.heap.size + 1 + 1 + 1 + 1 + 1) (w.heap.size + 1 + 1 + 1 + 1) (w.heap.size + 1 + 1 + 1) (w.heap.size + 1 + 1) s 0 4 0 9999 _ 0 _ _ HT0.out (by omega) hs hk0 (by omega) HI0.out ⟨#[45]⟩ (Or.inr ⟨by kernel_rfl, by decide⟩) a0 c0 k1 hx0) ?_; rintro e w1 ⟨rfl, hK, hI', v1, hT'⟩; have HT1 := (show Hid _ from hT'); have HI1 := (show Hid _ from hI'); have HK1 := (show Hid _ from Keep.trans HK0.out hK); have hd1 := hT'.dcell; have hr1 := hT'.rd.c1; have hl1 := hT'.lcell; clear hK hT' hI'))
  obtain ⟨hT, hE, -⟩ := HS.out.keep HK.out
  refine leaves_cons (f := 27) (args := #[.pointer (some ⟨w.heap.size, 0, none⟩), .pointer (some ⟨w.heap.size + 1, 0, none⟩)]) (by simp) (by simp [go_sem]) ?_
  refine (catch_fault w.heap.size (w.heap.size + 1) g _ _ _ [] _ hT hE (by omega)).mono ?_
  rintro e u' w'' ⟨rfl, rfl, hw⟩
  obtain ⟨r0, r1, r2, r3, r4⟩ := catch_fin HS.out HK.out g x HF.out w'' hw
  clear hw hT hE
  have HR := (show Hid _ from r3)
  have HB := (show Hid _ from r4)
  clear r3 r4
  simp [Leaves, settle, results, Tryd.results10, go_sem, r0, r1, r2]
  exact ⟨_, rfl, HR.out, HB.out⟩

set_option maxHeartbeats 8000000 in
theorem parse_e9p (s : ByteArray) (w : World) (hs : s.size < 4611686018427387904) (hI : ErrInv w) (x : Int × Nat) (a0 : Nat) (c0 : UInt8) (k1 : Nat) (hx0 : takeS s 4 ⟨#[45]⟩ 0 = .ok (a0, c0, k1)) (a1 : Nat) (c1 : UInt8) (k2 : Nat) (hx1 : takeS s 2 ⟨#[45]⟩ k1 = .ok (a1, c1, k2)) (a2 : Nat) (c2 : UInt8) (k3 : Nat) (hx2 : takeS s 2 ⟨#[84, 116]⟩ k2 = .ok (a2, c2, k3)) (a3 : Nat) (c3 : UInt8) (k4 : Nat) (hx3 : takeS s 2 ⟨#[58]⟩ k3 = .ok (a3, c3, k4)) (a4 : Nat) (c4 : UInt8) (k5 : Nat) (hx4 : takeS s 2 ⟨#[58]⟩ k4 = .ok (a4, c4, k5)) (a5 : Nat) (c5 : UInt8) (k6 : Nat) (hx5 : takeS s 2 ⟨#[]⟩ k5 = .ok (a5, c5, k6)) (nan k7 : Nat) (hx6 : fracS s k6 = .ok (nan, k7)) (c : UInt8) (hx7 : oneS s signs k7 = .ok c) (a8 : Nat) (c8 : UInt8) (k9 : Nat) (hx8 : takeS s 2 ⟨#[58]⟩ (k7 + 1) = .ok (a8, c8, k9)) (hx9 : takeS s 2 ⟨#[]⟩ k9 = .error x) (hp : (c.toNat : Int) = 43) :
    Calls Tryd.prog 10 #[.string s] w (PErr w x) := by
  have hmf : ∀ (fn : Fn) (first cap : Array Value) (w : World), (Instr.makeFunc fn first cap).run Tryd.prog w = .ok (.func fn first cap) w := fun _ _ _ _ => rfl
  have hk0 : 0 ≤ s.size := Nat.zero_le _
  have hk1 : k1 ≤ s.size := takeS_le hx0 hk0
  have hk2 : k2 ≤ s.size := takeS_le hx1 hk1
  have hk3 : k3 ≤ s.size := takeS_le hx2 hk2
  have hk4 : k4 ≤ s.size := takeS_le hx3 hk3
  have hk5 : k5 ≤ s.size := takeS_le hx4 hk4
  have hk6 : k6 ≤ s.size := takeS_le hx5 hk5
  have hk8 : k7 + 1 ≤ s.size := oneS_le hx7
  have hk9 : k9 ≤ s.size := takeS_le hx8 hk8
  have HS := (show Hid _ from start w s hI)
  have HT0 := (show Hid _ from HS.out.tk)
  have HI0 := (show Hid _ from HS.out.err)
  have HK0 : Hid (Keep (Turns (w.heap.size + 1 + 1) (w.heap.size + 1 + 1 + 1 + 1) (w.heap.size + 1 + 1 + 1 + 1 + 1)) (((((w.alloc (.cells #[.int .i64 0, .int .i64 0] 31)).alloc (.cells #[.nilIface] 26)).alloc (.cells #[.string s, .int .i64 0] 51)).alloc (.cells #[.pointer (some ⟨w.heap.size + 1 + 1, 0, none⟩)] 49)).alloc (.cells #[.slice none 0 0] 52)) _) := (show Hid _ from Keep.refl _ _)
  clear hI
  go_enter_defers Tryd.func10, Tryd.ntmps10
  go_wp2_with (first
    | (go_at_call 28; refine Calls.mono (take_err (w.heap.size + 1 + 1 + 1 + 1 + 1) (w.heap.size + 1 + 1 + 1 + 1) (w.heap.size + 1 + 1 + 1) (w.heap.size + 1 + 1) s k9 2 0 59 _ 7 _ _ HT9.out (by omega) hs hk9 (by omega) HI9.out ⟨#[]⟩ (Or.inl rfl) x hx9) ?_; rintro e w10 ⟨g, rfl, hf, hK⟩; have HK := (show Hid _ from Keep.trans HK9.out hK); have HF := (show Hid _ from hf); clear hK hf)
    | (go_at_call 28; refine Calls.mono (take_ok (w.heap.size + 1 + 1 + 1 + 1 + 1) (w.heap.size + 1 + 1 + 1 + 1) (w.heap.size + 1 + 1 + 1) (w.heap.size + 1 + 1) s (k7 + 1) 2 0 23 _ 6 _ _ HT8.out (by omega) hs hk8 (by omega) HI8.out ⟨#[58]⟩ (Or.inr ⟨by kernel_rfl, by decide⟩) a8 c8 k9 hx8) ?_; rintro e w9 ⟨rfl, hK, hI', v9, hT'⟩; have HT9 := (show Hid _ from hT'); have HI9 := (show Hid _ from hI'); have HK9 := (show Hid _ from Keep.trans HK8.out hK); have hd9 := hT'.dcell; have hr9 := hT'.rd.c1; have hl9 := hT'.lcell; clear hK hT' hI')
    | (go_at_call 30; refine Calls.mono (sign_ok (w.heap.size + 1 + 1 + 1 + 1 + 1) (w.heap.size + 1 + 1 + 1 + 1) (w.heap.size + 1 + 1 + 1) (w.heap.size + 1 + 1) s _ _ _ _ _ HT7.out hs HI7.out c hx7) ?_; rintro e w8 ⟨rfl, hK, hI', hT'⟩; have HT8 := (show Hid _ from hT'); have HI8 := (show Hid _ from hI'); have HK8 := (show Hid _ from Keep.trans HK7.out hK); have hd8 := hT'.dcell; have hr8 := hT'.rd.c1; have hl8 := hT'.lcell; clear hK hT' hI')
    | (go_at_call 31; refine Calls.mono (frac_ok (w.heap.size + 1 + 1 + 1 + 1 + 1) (w.heap.size + 1 + 1 + 1 + 1) (w.heap.size + 1 + 1 + 1) (w.heap.size + 1 + 1) s _ _ _ _ _ HT6.out hs HI6.out nan k7 hx6) ?_; rintro e w7 ⟨rfl, hK, hI', hT'⟩; have HT7 := (show Hid _ from hT'); have HI7 := (show Hid _ from hI'); have HK7 := (show Hid _ from Keep.trans HK6.out hK); have hd7 := hT'.dcell; have hr7 := hT'.rd.c1; have hl7 := hT'.lcell; clear hK hT' hI')
    | (go_at_call 28; refine Calls.mono (take_ok (w.heap.size + 1 + 1 + 1 + 1 + 1) (w.heap.size + 1 + 1 + 1 + 1) (w.heap.size + 1 + 1 + 1) (w.heap.size + 1 + 1) s k5 2 0 59 _ 5 _ _ HT5.out (by omega) hs hk5 (by omega) HI5.out ⟨#[]⟩ (Or.inl rfl) a5 c5 k6 hx5) ?_; rintro e w6 ⟨rfl, hK, hI', v6, hT'⟩; have HT6 := (show Hid _ from hT'); have HI6 := (show Hid _ from hI'); have HK6 := (show Hid _ from Keep.trans HK5.out hK); have hd6 := hT'.dcell; have hr6 := hT'.rd.c1; have hl6 := hT'.lcell; clear hK hT' hI')
    | (go_at_call 28; refine Calls.mono (take_ok (w.heap.size + 1 + 1 + 1 + 1 + 1) (w.heap.size + 1 + 1 + 1 + 1) (w.heap.size + 1 + 1 + 1) (w.heap.size + 1 + 1) s k4 2 0 59 _ 4 _ _ HT4.out (by omega) hs hk4 (by omega) HI4.out ⟨#[58]⟩ (Or.inr ⟨by kernel_rfl, by decide⟩) a4 c4 k5 hx4) ?_; rintro e w5 ⟨rfl, hK, hI', v5, hT'⟩; have HT5 := (show Hid _ from hT'); have HI5 := (show Hid _ from hI'); have HK5 := (show Hid _ from Keep.trans HK4.out hK); have hd5 := hT'.dcell; have hr5 := hT'.rd.c1; have hl5 := hT'.lcell; clear hK hT' hI')
    | (go_at_call 28; refine Calls.mono (take_ok (w.heap.size + 1 + 1 + 1 + 1 + 1) (w.heap.size + 1 + 1 + 1 + 1) (w.heap.size + 1 + 1 + 1) (w.heap.size + 1 + 1) s k3 2 0 23 _ 3 _ _ HT3.out (by omega) hs hk3 (by omega) HI3.out ⟨#[58]⟩ (Or.inr ⟨by kernel_rfl, by decide⟩) a3 c3 k4 hx3) ?_; rintro e w4 ⟨rfl, hK, hI', v4, hT'⟩; have HT4 := (show Hid _ from hT'); have HI4 := (show Hid _ from hI'); have HK4 := (show Hid _ from Keep.trans HK3.out hK); have hd4 := hT'.dcell; have hr4 := hT'.rd.c1; have hl4 := hT'.lcell; clear hK hT' hI')
    | (go_at_call 28; refine Calls.mono (take_ok (w.heap.size + 1 + 1 + 1 + 1 + 1) (w.heap.size + 1 + 1 + 1 + 1) (w.heap.size + 1 + 1 + 1) (w.heap.size + 1 + 1) s k2 2 1 31 _ 2 _ _ HT2.out (by omega) hs hk2 (by omega) HI2.out ⟨#[84, 116]⟩ (Or.inr ⟨by kernel_rfl, by decide⟩) a2 c2 k3 hx2) ?_; rintro e w3 ⟨rfl, hK, hI', v3, hT'⟩; have HT3 := (show Hid _ from hT'); have HI3 := (show Hid _ from hI'); have HK3 := (show Hid _ from Keep.trans HK2.out hK); have hd3 := hT'.dcell; have hr3 := hT'.rd.c1; have hl3 := hT'.lcell; clear hK hT' hI')
    | (go_at_call 28; refine Calls.mono (take_ok (w.heap.size + 1 + 1 + 1 + 1 + 1) (w.heap.size + 1 + 1 + 1 + 1) (w.heap.size + 1 + 1 + 1) (w.heap.size + 1 + 1) s k1 2 1 12 _ 1 _ _ HT1.out (by omega) hs hk1 (by omega) HI1.out ⟨#[45]⟩ (Or.inr ⟨by kernel_rfl, by decide⟩) a1 c1 k2 hx1) ?_; rintro e w2 ⟨rfl, hK, hI', v2, hT'⟩; have HT2 := (show Hid _ from hT'); have HI2 := (show Hid _ from hI'); have HK2 := (show Hid _ from Keep.trans HK1.out hK); have hd2 := hT'.dcell; have hr2 := hT'.rd.c1; have hl2 := hT'.lcell; clear hK hT' hI')
    | (go_at_call 28; refine Calls.mono (take_ok (w.heap.size + 1 + 1 + 1 + 1 + 1) (w.heap.size + 1 + 1 + 1 + 1) (w.heap.size + 1 + 1 + 1) (w.heap.size + 1 + 1) s 0 4 0 9999 _ 0 _ _ HT0.out (by omega) hs hk0 (by omega) HI0.out ⟨#[45]⟩ (Or.inr ⟨by kernel_rfl, by decide⟩) a0 c0 k1 hx0) ?_; rintro e w1 ⟨rfl, hK, hI', v1, hT'⟩; have HT1 := (show Hid _ from hT'); have HI1 := (show Hid _ from hI'); have HK1 := (show Hid _ from Keep.trans HK0.out hK); have hd1 := hT'.dcell; have hr1 := hT'.rd.c1; have hl1 := hT'.lcell; clear hK hT' hI'))
  obtain ⟨hT, hE, -⟩ := HS.out.keep HK.out
  refine leaves_cons (f := 27) (args := #[.pointer (some ⟨w.heap.size, 0, none⟩), .pointer (some ⟨w.heap.size + 1, 0, none⟩)]) (by simp) (by simp [go_sem]) ?_
  refine (catch_fault w.heap.size (w.heap.size + 1) g _ _ _ [] _ hT hE (by omega)).mono ?_
  rintro e u' w'' ⟨rfl, rfl, hw⟩
  obtain ⟨r0, r1, r2, r3, r4⟩ := catch_fin HS.out HK.out g x HF.out w'' hw
  clear hw hT hE
  have HR := (show Hid _ from r3)
  have HB := (show Hid _ from r4)
  clear r3 r4
  simp [Leaves, settle, results, Tryd.results10, go_sem, r0, r1, r2]
  exact ⟨_, rfl, HR.out, HB.out⟩

set_option maxHeartbeats 8000000 in
theorem parse_e9m (s : ByteArray) (w : World) (hs : s.size < 4611686018427387904) (hI : ErrInv w) (x : Int × Nat) (a0 : Nat) (c0 : UInt8) (k1 : Nat) (hx0 : takeS s 4 ⟨#[45]⟩ 0 = .ok (a0, c0, k1)) (a1 : Nat) (c1 : UInt8) (k2 : Nat) (hx1 : takeS s 2 ⟨#[45]⟩ k1 = .ok (a1, c1, k2)) (a2 : Nat) (c2 : UInt8) (k3 : Nat) (hx2 : takeS s 2 ⟨#[84, 116]⟩ k2 = .ok (a2, c2, k3)) (a3 : Nat) (c3 : UInt8) (k4 : Nat) (hx3 : takeS s 2 ⟨#[58]⟩ k3 = .ok (a3, c3, k4)) (a4 : Nat) (c4 : UInt8) (k5 : Nat) (hx4 : takeS s 2 ⟨#[58]⟩ k4 = .ok (a4, c4, k5)) (a5 : Nat) (c5 : UInt8) (k6 : Nat) (hx5 : takeS s 2 ⟨#[]⟩ k5 = .ok (a5, c5, k6)) (nan k7 : Nat) (hx6 : fracS s k6 = .ok (nan, k7)) (c : UInt8) (hx7 : oneS s signs k7 = .ok c) (a8 : Nat) (c8 : UInt8) (k9 : Nat) (hx8 : takeS s 2 ⟨#[58]⟩ (k7 + 1) = .ok (a8, c8, k9)) (hx9 : takeS s 2 ⟨#[]⟩ k9 = .error x) (hp : ¬ (c.toNat : Int) = 43) (hq : (c.toNat : Int) = 45) :
    Calls Tryd.prog 10 #[.string s] w (PErr w x) := by
  have hmf : ∀ (fn : Fn) (first cap : Array Value) (w : World), (Instr.makeFunc fn first cap).run Tryd.prog w = .ok (.func fn first cap) w := fun _ _ _ _ => rfl
  have hk0 : 0 ≤ s.size := Nat.zero_le _
  have hk1 : k1 ≤ s.size := takeS_le hx0 hk0
  have hk2 : k2 ≤ s.size := takeS_le hx1 hk1
  have hk3 : k3 ≤ s.size := takeS_le hx2 hk2
  have hk4 : k4 ≤ s.size := takeS_le hx3 hk3
  have hk5 : k5 ≤ s.size := takeS_le hx4 hk4
  have hk6 : k6 ≤ s.size := takeS_le hx5 hk5
  have hk8 : k7 + 1 ≤ s.size := oneS_le hx7
  have hk9 : k9 ≤ s.size := takeS_le hx8 hk8
  have HS := (show Hid _ from start w s hI)
  have HT0 := (show Hid _ from HS.out.tk)
  have HI0 := (show Hid _ from HS.out.err)
  have HK0 : Hid (Keep (Turns (w.heap.size + 1 + 1) (w.heap.size + 1 + 1 + 1 + 1) (w.heap.size + 1 + 1 + 1 + 1 + 1)) (((((w.alloc (.cells #[.int .i64 0, .int .i64 0] 31)).alloc (.cells #[.nilIface] 26)).alloc (.cells #[.string s, .int .i64 0] 51)).alloc (.cells #[.pointer (some ⟨w.heap.size + 1 + 1, 0, none⟩)] 49)).alloc (.cells #[.slice none 0 0] 52)) _) := (show Hid _ from Keep.refl _ _)
  clear hI
  have hp' : ((c.toNat : Int) == 43) = false := by simpa using hp
  have hpn : ¬ c.toNat = 43 := by omega
  go_enter_defers Tryd.func10, Tryd.ntmps10
  go_wp2_with (first
    | (go_at_call 28; refine Calls.mono (take_err (w.heap.size + 1 + 1 + 1 + 1 + 1) (w.heap.size + 1 + 1 + 1 + 1) (w.heap.size + 1 + 1 + 1) (w.heap.size + 1 + 1) s k9 2 0 59 _ 7 _ _ HT9.out (by omega) hs hk9 (by omega) HI9.out ⟨#[]⟩ (Or.inl rfl) x hx9) ?_; rintro e w10 ⟨g, rfl, hf, hK⟩; have HK := (show Hid _ from Keep.trans HK9.out hK); have HF := (show Hid _ from hf); clear hK hf)
    | (go_at_call 28; refine Calls.mono (take_ok (w.heap.size + 1 + 1 + 1 + 1 + 1) (w.heap.size + 1 + 1 + 1 + 1) (w.heap.size + 1 + 1 + 1) (w.heap.size + 1 + 1) s (k7 + 1) 2 0 23 _ 6 _ _ HT8.out (by omega) hs hk8 (by omega) HI8.out ⟨#[58]⟩ (Or.inr ⟨by kernel_rfl, by decide⟩) a8 c8 k9 hx8) ?_; rintro e w9 ⟨rfl, hK, hI', v9, hT'⟩; have HT9 := (show Hid _ from hT'); have HI9 := (show Hid _ from hI'); have HK9 := (show Hid _ from Keep.trans HK8.out hK); have hd9 := hT'.dcell; have hr9 := hT'.rd.c1; have hl9 := hT'.lcell; clear hK hT' hI')
    | (go_at_call 30; refine Calls.mono (sign_ok (w.heap.size + 1 + 1 + 1 + 1 + 1) (w.heap.size + 1 + 1 + 1 + 1) (w.heap.size + 1 + 1 + 1) (w.heap.size + 1 + 1) s _ _ _ _ _ HT7.out hs HI7.out c hx7) ?_; rintro e w8 ⟨rfl, hK, hI', hT'⟩; have HT8 := (show Hid _ from hT'); have HI8 := (show Hid _ from hI'); have HK8 := (show Hid _ from Keep.trans HK7.out hK); have hd8 := hT'.dcell; have hr8 := hT'.rd.c1; have hl8 := hT'.lcell; clear hK hT' hI')
    | (go_at_call 31; refine Calls.mono (frac_ok (w.heap.size + 1 + 1 + 1 + 1 + 1) (w.heap.size + 1 + 1 + 1 + 1) (w.heap.size + 1 + 1 + 1) (w.heap.size + 1 + 1) s _ _ _ _ _ HT6.out hs HI6.out nan k7 hx6) ?_; rintro e w7 ⟨rfl, hK, hI', hT'⟩; have HT7 := (show Hid _ from hT'); have HI7 := (show Hid _ from hI'); have HK7 := (show Hid _ from Keep.trans HK6.out hK); have hd7 := hT'.dcell; have hr7 := hT'.rd.c1; have hl7 := hT'.lcell; clear hK hT' hI')
    | (go_at_call 28; refine Calls.mono (take_ok (w.heap.size + 1 + 1 + 1 + 1 + 1) (w.heap.size + 1 + 1 + 1 + 1) (w.heap.size + 1 + 1 + 1) (w.heap.size + 1 + 1) s k5 2 0 59 _ 5 _ _ HT5.out (by omega) hs hk5 (by omega) HI5.out ⟨#[]⟩ (Or.inl rfl) a5 c5 k6 hx5) ?_; rintro e w6 ⟨rfl, hK, hI', v6, hT'⟩; have HT6 := (show Hid _ from hT'); have HI6 := (show Hid _ from hI'); have HK6 := (show Hid _ from Keep.trans HK5.out hK); have hd6 := hT'.dcell; have hr6 := hT'.rd.c1; have hl6 := hT'.lcell; clear hK hT' hI')
    | (go_at_call 28; refine Calls.mono (take_ok (w.heap.size + 1 + 1 + 1 + 1 + 1) (w.heap.size + 1 + 1 + 1 + 1) (w.heap.size + 1 + 1 + 1) (w.heap.size + 1 + 1) s k4 2 0 59 _ 4 _ _ HT4.out (by omega) hs hk4 (by omega) HI4.out ⟨#[58]⟩ (Or.inr ⟨by kernel_rfl, by decide⟩) a4 c4 k5 hx4) ?_; rintro e w5 ⟨rfl, hK, hI', v5, hT'⟩; have HT5 := (show Hid _ from hT'); have HI5 := (show Hid _ from hI'); have HK5 := (show Hid _ from Keep.trans HK4.out hK); have hd5 := hT'.dcell; have hr5 := hT'.rd.c1; have hl5 := hT'.lcell; clear hK hT' hI')
    | (go_at_call 28; refine Calls.mono (take_ok (w.heap.size + 1 + 1 + 1 + 1 + 1) (w.heap.size + 1 + 1 + 1 + 1) (w.heap.size + 1 + 1 + 1) (w.heap.size + 1 + 1) s k3 2 0 23 _ 3 _ _ HT3.out (by omega) hs hk3 (by omega) HI3.out ⟨#[58]⟩ (Or.inr ⟨by kernel_rfl, by decide⟩) a3 c3 k4 hx3) ?_; rintro e w4 ⟨rfl, hK, hI', v4, hT'⟩; have HT4 := (show Hid _ from hT'); have HI4 := (show Hid _ from hI'); have HK4 := (show Hid _ from Keep.trans HK3.out hK); have hd4 := hT'.dcell; have hr4 := hT'.rd.c1; have hl4 := hT'.lcell; clear hK hT' hI')
    | (go_at_call 28; refine Calls.mono (take_ok (w.heap.size + 1 + 1 + 1 + 1 + 1) (w.heap.size + 1 + 1 + 1 + 1) (w.heap.size + 1 + 1 + 1) (w.heap.size + 1 + 1) s k2 2 1 31 _ 2 _ _ HT2.out (by omega) hs hk2 (by omega) HI2.out ⟨#[84, 116]⟩ (Or.inr ⟨by kernel_rfl, by decide⟩) a2 c2 k3 hx2) ?_; rintro e w3 ⟨rfl, hK, hI', v3, hT'⟩; have HT3 := (show Hid _ from hT'); have HI3 := (show Hid _ from hI'); have HK3 := (show Hid _ from Keep.trans HK2.out hK); have hd3 := hT'.dcell; have hr3 := hT'.rd.c1; have hl3 := hT'.lcell; clear hK hT' hI')
    | (go_at_call 28; refine Calls.mono (take_ok (w.heap.size + 1 + 1 + 1 + 1 + 1) (w.heap.size + 1 + 1 + 1 + 1) (w.heap.size + 1 + 1 + 1) (w.heap.size + 1 + 1) s k1 2 1 12 _ 1 _ _ HT1.out (by omega) hs hk1 (by omega) HI1.out ⟨#[45]⟩ (Or.inr ⟨by kernel_rfl, by decide⟩) a1 c1 k2 hx1) ?_; rintro e w2 ⟨rfl, hK, hI', v2, hT'⟩; have HT2 := (show Hid _ from hT'); have HI2 := (show Hid _ from hI'); have HK2 := (show Hid _ from Keep.trans HK1.out hK); have hd2 := hT'.dcell; have hr2 := hT'.rd.c1; have hl2 := hT'.lcell; clear hK hT' hI')
    | (go_at_call 28; refine Calls.mono (take_ok (w.heap.size + 1 + 1 + 1 + 1 + 1) (w.heap.size + 1 + 1 + 1 + 1) (w.heap.size + 1 + 1 + 1) (w.heap.size + 1 + 1) s 0 4 0 9999 _ 0 _ _ HT0.out (by omega) hs hk0 (by omega) HI0.out ⟨#[45]⟩ (Or.inr ⟨by kernel_rfl, by decide⟩) a0 c0 k1 hx0) ?_; rintro e w1 ⟨rfl, hK, hI', v1, hT'⟩; have HT1 := (show Hid _ from hT'); have HI1 := (show Hid _ from hI'); have HK1 := (show Hid _ from Keep.trans HK0.out hK); have hd1 := hT'.dcell; have hr1 := hT'.rd.c1; have hl1 := hT'.lcell; clear hK hT' hI'))
  obtain ⟨hT, hE, -⟩ := HS.out.keep HK.out
  refine leaves_cons (f := 27) (args := #[.pointer (some ⟨w.heap.size, 0, none⟩), .pointer (some ⟨w.heap.size + 1, 0, none⟩)]) (by simp) (by simp [go_sem]) ?_
  refine (catch_fault w.heap.size (w.heap.size + 1) g _ _ _ [] _ hT hE (by omega)).mono ?_
  rintro e u' w'' ⟨rfl, rfl, hw⟩
  obtain ⟨r0, r1, r2, r3, r4⟩ := catch_fin HS.out HK.out g x HF.out w'' hw
  clear hw hT hE
  have HR := (show Hid _ from r3)
  have HB := (show Hid _ from r4)
  clear r3 r4
  simp [Leaves, settle, results, Tryd.results10, go_sem, r0, r1, r2]
  exact ⟨_, rfl, HR.out, HB.out⟩

set_option maxHeartbeats 8000000 in
theorem parse_t_z (s : ByteArray) (w : World) (hs : s.size < 4611686018427387904) (hI : ErrInv w) (a0 : Nat) (c0 : UInt8) (k1 : Nat) (hx0 : takeS s 4 ⟨#[45]⟩ 0 = .ok (a0, c0, k1)) (a1 : Nat) (c1 : UInt8) (k2 : Nat) (hx1 : takeS s 2 ⟨#[45]⟩ k1 = .ok (a1, c1, k2)) (a2 : Nat) (c2 : UInt8) (k3 : Nat) (hx2 : takeS s 2 ⟨#[84, 116]⟩ k2 = .ok (a2, c2, k3)) (a3 : Nat) (c3 : UInt8) (k4 : Nat) (hx3 : takeS s 2 ⟨#[58]⟩ k3 = .ok (a3, c3, k4)) (a4 : Nat) (c4 : UInt8) (k5 : Nat) (hx4 : takeS s 2 ⟨#[58]⟩ k4 = .ok (a4, c4, k5)) (a5 : Nat) (c5 : UInt8) (k6 : Nat) (hx5 : takeS s 2 ⟨#[]⟩ k5 = .ok (a5, c5, k6)) (nan k7 : Nat) (hx6 : fracS s k6 = .ok (nan, k7)) (c : UInt8) (k8 : Nat) (hk8e : k8 = k7 + 1) (hx7 : oneS s signs k7 = .ok c) (hp : ¬ (c.toNat : Int) = 43) (hq : ¬ (c.toNat : Int) = 45) (hx : k8 < s.size) :
    Calls Tryd.prog 10 #[.string s] w (PErr w ((k8 : Nat), 1)) := by
  have hmf : ∀ (fn : Fn) (first cap : Array Value) (w : World), (Instr.makeFunc fn first cap).run Tryd.prog w = .ok (.func fn first cap) w := fun _ _ _ _ => rfl
  have hk0 : 0 ≤ s.size := Nat.zero_le _
  have hk1 : k1 ≤ s.size := takeS_le hx0 hk0
  have hk2 : k2 ≤ s.size := takeS_le hx1 hk1
  have hk3 : k3 ≤ s.size := takeS_le hx2 hk2
  have hk4 : k4 ≤ s.size := takeS_le hx3 hk3
  have hk5 : k5 ≤ s.size := takeS_le hx4 hk4
  have hk6 : k6 ≤ s.size := takeS_le hx5 hk5
  have hk8 : k8 ≤ s.size := hk8e ▸ oneS_le hx7
  have HS := (show Hid _ from start w s hI)
  have HT0 := (show Hid _ from HS.out.tk)
  have HI0 := (show Hid _ from HS.out.err)
  have HK0 : Hid (Keep (Turns (w.heap.size + 1 + 1) (w.heap.size + 1 + 1 + 1 + 1) (w.heap.size + 1 + 1 + 1 + 1 + 1)) (((((w.alloc (.cells #[.int .i64 0, .int .i64 0] 31)).alloc (.cells #[.nilIface] 26)).alloc (.cells #[.string s, .int .i64 0] 51)).alloc (.cells #[.pointer (some ⟨w.heap.size + 1 + 1, 0, none⟩)] 49)).alloc (.cells #[.slice none 0 0] 52)) _) := (show Hid _ from Keep.refl _ _)
  clear hI
  have HE8 := (show Hid _ from hk8e)
  clear hk8e
  have hxi : (k8 : Int) < (s.size : Int) := by omega
  have hp' : ((c.toNat : Int) == 43) = false := by simpa using hp
  have hpn : ¬ c.toNat = 43 := by omega
  have hq' : ((c.toNat : Int) == 45) = false := by simpa using hq
  have hqn : ¬ c.toNat = 45 := by omega
  go_enter_defers Tryd.func10, Tryd.ntmps10
  go_wp2_with (first
    | (go_at_call 30; refine Calls.mono (sign_ok2 (w.heap.size + 1 + 1 + 1 + 1 + 1) (w.heap.size + 1 + 1 + 1 + 1) (w.heap.size + 1 + 1 + 1) (w.heap.size + 1 + 1) s _ k8 HE8.out _ _ _ _ HT7.out hs HI7.out c hx7) ?_; rintro e w8 ⟨rfl, hK, hI', hT'⟩; have HT8 := (show Hid _ from hT'); have HI8 := (show Hid _ from hI'); have HK8 := (show Hid _ from Keep.trans HK7.out hK); have hd8 := hT'.dcell; have hr8 := hT'.rd.c1; have hl8 := hT'.lcell; clear hK hT' hI')
    | (go_at_call 31; refine Calls.mono (frac_ok (w.heap.size + 1 + 1 + 1 + 1 + 1) (w.heap.size + 1 + 1 + 1 + 1) (w.heap.size + 1 + 1 + 1) (w.heap.size + 1 + 1) s _ _ _ _ _ HT6.out hs HI6.out nan k7 hx6) ?_; rintro e w7 ⟨rfl, hK, hI', hT'⟩; have HT7 := (show Hid _ from hT'); have HI7 := (show Hid _ from hI'); have HK7 := (show Hid _ from Keep.trans HK6.out hK); have hd7 := hT'.dcell; have hr7 := hT'.rd.c1; have hl7 := hT'.lcell; clear hK hT' hI')
    | (go_at_call 28; refine Calls.mono (take_ok (w.heap.size + 1 + 1 + 1 + 1 + 1) (w.heap.size + 1 + 1 + 1 + 1) (w.heap.size + 1 + 1 + 1) (w.heap.size + 1 + 1) s k5 2 0 59 _ 5 _ _ HT5.out (by omega) hs hk5 (by omega) HI5.out ⟨#[]⟩ (Or.inl rfl) a5 c5 k6 hx5) ?_; rintro e w6 ⟨rfl, hK, hI', v6, hT'⟩; have HT6 := (show Hid _ from hT'); have HI6 := (show Hid _ from hI'); have HK6 := (show Hid _ from Keep.trans HK5.out hK); have hd6 := hT'.dcell; have hr6 := hT'.rd.c1; have hl6 := hT'.lcell; clear hK hT' hI')
    | (go_at_call 28; refine Calls.mono (take_ok (w.heap.size + 1 + 1 + 1 + 1 + 1) (w.heap.size + 1 + 1 + 1 + 1) (w.heap.size + 1 + 1 + 1) (w.heap.size + 1 + 1) s k4 2 0 59 _ 4 _ _ HT4.out (by omega) hs hk4 (by omega) HI4.out ⟨#[58]⟩ (Or.inr ⟨by kernel_rfl, by decide⟩) a4 c4 k5 hx4) ?_; rintro e w5 ⟨rfl, hK, hI', v5, hT'⟩; have HT5 := (show Hid _ from hT'); have HI5 := (show Hid _ from hI'); have HK5 := (show Hid _ from Keep.trans HK4.out hK); have hd5 := hT'.dcell; have hr5 := hT'.rd.c1; have hl5 := hT'.lcell; clear hK hT' hI')
    | (go_at_call 28; refine Calls.mono (take_ok (w.heap.size + 1 + 1 + 1 + 1 + 1) (w.heap.size + 1 + 1 + 1 + 1) (w.heap.size + 1 + 1 + 1) (w.heap.size + 1 + 1) s k3 2 0 23 _ 3 _ _ HT3.out (by omega) hs hk3 (by omega) HI3.out ⟨#[58]⟩ (Or.inr ⟨by kernel_rfl, by decide⟩) a3 c3 k4 hx3) ?_; rintro e w4 ⟨rfl, hK, hI', v4, hT'⟩; have HT4 := (show Hid _ from hT'); have HI4 := (show Hid _ from hI'); have HK4 := (show Hid _ from Keep.trans HK3.out hK); have hd4 := hT'.dcell; have hr4 := hT'.rd.c1; have hl4 := hT'.lcell; clear hK hT' hI')
    | (go_at_call 28; refine Calls.mono (take_ok (w.heap.size + 1 + 1 + 1 + 1 + 1) (w.heap.size + 1 + 1 + 1 + 1) (w.heap.size + 1 + 1 + 1) (w.heap.size + 1 + 1) s k2 2 1 31 _ 2 _ _ HT2.out (by omega) hs hk2 (by omega) HI2.out ⟨#[84, 116]⟩ (Or.inr ⟨by kernel_rfl, by decide⟩) a2 c2 k3 hx2) ?_; rintro e w3 ⟨rfl, hK, hI', v3, hT'⟩; have HT3 := (show Hid _ from hT'); have HI3 := (show Hid _ from hI'); have HK3 := (show Hid _ from Keep.trans HK2.out hK); have hd3 := hT'.dcell; have hr3 := hT'.rd.c1; have hl3 := hT'.lcell; clear hK hT' hI')
    | (go_at_call 28; refine Calls.mono (take_ok (w.heap.size + 1 + 1 + 1 + 1 + 1) (w.heap.size + 1 + 1 + 1 + 1) (w.heap.size + 1 + 1 + 1) (w.heap.size + 1 + 1) s k1 2 1 12 _ 1 _ _ HT1.out (by omega) hs hk1 (by omega) HI1.out ⟨#[45]⟩ (Or.inr ⟨by kernel_rfl, by decide⟩) a1 c1 k2 hx1) ?_; rintro e w2 ⟨rfl, hK, hI', v2, hT'⟩; have HT2 := (show Hid _ from hT'); have HI2 := (show Hid _ from hI'); have HK2 := (show Hid _ from Keep.trans HK1.out hK); have hd2 := hT'.dcell; have hr2 := hT'.rd.c1; have hl2 := hT'.lcell; clear hK hT' hI')
    | (go_at_call 28; refine Calls.mono (take_ok (w.heap.size + 1 + 1 + 1 + 1 + 1) (w.heap.size + 1 + 1 + 1 + 1) (w.heap.size + 1 + 1 + 1) (w.heap.size + 1 + 1) s 0 4 0 9999 _ 0 _ _ HT0.out (by omega) hs hk0 (by omega) HI0.out ⟨#[45]⟩ (Or.inr ⟨by kernel_rfl, by decide⟩) a0 c0 k1 hx0) ?_; rintro e w1 ⟨rfl, hK, hI', v1, hT'⟩; have HT1 := (show Hid _ from hT'); have HI1 := (show Hid _ from hI'); have HK1 := (show Hid _ from Keep.trans HK0.out hK); have hd1 := hT'.dcell; have hr1 := hT'.rd.c1; have hl1 := hT'.lcell; clear hK hT' hI'))
  obtain ⟨hT, hE, hB⟩ := HS.out.keep HK8.out
  obtain ⟨a, he, -⟩ := (ErrAt.inv HI8.out).sent 1 (by decide)
  have he' : w8.cell? ⟨1, 0, none⟩ = _ := he
  have t0 := blk_cell hT 0
  have t1 := blk_cell hT 1
  have e0 := blk_cell hE 0
  have y0 := blk_fz hT 0
  have y1 := blk_fz hT 1
  have ye := blk_fz hE 0
  simp at t0 t1 e0
  have HT := (show Hid _ from hT)
  have HE := (show Hid _ from hE)
  have HB := (show Hid _ from hB)
  clear hT hE hB he
  have hlT := heap_lt HT.out
  have hlE := heap_lt HE.out
  have t0' : ∀ o, (w8.drew.alloc o).cell? ⟨w.heap.size, 0, none⟩ = some (.int .i64 0) := fun o => (World.cell?_alloc_lt w8.drew o ⟨w.heap.size, 0, none⟩ hlT).trans t0
  have t1' : ∀ o, (w8.drew.alloc o).cell? ⟨w.heap.size, 1, none⟩ = some (.int .i64 0) := fun o => (World.cell?_alloc_lt w8.drew o ⟨w.heap.size, 1, none⟩ hlT).trans t1
  have e0' : ∀ o, (w8.drew.alloc o).cell? ⟨w.heap.size + 1, 0, none⟩ = some .nilIface := fun o => (World.cell?_alloc_lt w8.drew o ⟨w.heap.size + 1, 0, none⟩ hlE).trans e0
  have y0' : ∀ o, (w8.drew.alloc o).frozen? ⟨w.heap.size, 0, none⟩ = false := fun o => (World.frozen?_of_block (w := w8.drew) (Below.heap_alloc w8.drew o _ hlT)).trans y0
  have y1' : ∀ o, (w8.drew.alloc o).frozen? ⟨w.heap.size, 1, none⟩ = false := fun o => (World.frozen?_of_block (w := w8.drew) (Below.heap_alloc w8.drew o _ hlT)).trans y1
  have ye' : ∀ o, (w8.drew.alloc o).frozen? ⟨w.heap.size + 1, 0, none⟩ = false := fun o => (World.frozen?_of_block (w := w8.drew) (Below.heap_alloc w8.drew o _ hlE)).trans ye
  refine wp_region_noPanic ?_
  go_region_with (first | (go_at_call 24; refine (fault_any _ _ _ _).mono ?_; rintro e w' ⟨rfl, rfl⟩))
  all_goals
    refine NoPanic.normal ?_
    go_wp2
    refine leaves_cons (f := 27) (args := #[.pointer (some ⟨w.heap.size, 0, none⟩), .pointer (some ⟨w.heap.size + 1, 0, none⟩)]) (by simp) (by simp [go_sem]) ?_
    refine (catch_idle ⟨w.heap.size, 0, none⟩ ⟨w.heap.size + 1, 0, none⟩ _).mono ?_
    rintro e u' w'' ⟨rfl, rfl, hw⟩
    obtain ⟨r0, r1, r2, r3, r4⟩ := tail_fin HT.out HE.out HB.out HS.out.glob _ he' _ w'' hw
    have HR := (show Hid _ from r3)
    have HB' := (show Hid _ from r4)
    clear hw r3 r4 t0' t1' e0' y0' y1' ye' t0 t1 e0
    simp [Leaves, settle, results, Tryd.results10, go_sem, r0, r1, r2]
    exact ⟨_, rfl, HR.out, HB'.out⟩

end Go.Proofs.YtlgdenihddkjaaaDoor
