import Derived.Test.YtlgdenihddkjaaaDoorYb
import Derived.Test.YtlgdenihddkjaaaDoorYc
import Derived.Test.YtlgdenihddkjaaaDoorYd
import Derived.Deep.CutRange
namespace Go.Proofs.YtlgdenihddkjaaaDoor
set_option linter.unusedSimpArgs false
set_option linter.unusedVariables false
open Go.RowKit Go.Lib
theorem y_to10 (s : ByteArray) (w : World) (hs : s.size ≤ 60) (r : RR) (p : Nat) (hlt : p < s.size) (v : Int) (H : Yat 10 w r (fun y0 y2 _ y6 y7 y10 y11 _ _ _ _ => y0 = .string s ∧ y2 = .pointer (some ⟨w.heap.size, 0, none⟩) ∧ y6 = .int .i64 ((p : Int) + 1) ∧ y7 = .int .i64 (v) ∧ y10 = .int .u8 (s[p].toNat : Int) ∧ y11 = .int .i64 ((p : Int) + 1))) : Yat 6 w r (fun y0 y2 _ y6 y7 _ _ _ _ _ _ => y0 = .string s ∧ y2 = .pointer (some ⟨w.heap.size, 0, none⟩) ∧ y6 = .int .i64 (p) ∧ y7 = .int .i64 (v)) :=
  y_6 s w hs r p hlt v (y_7 s w hs r p hlt v (y_8 s w hs r p hlt v (y_9 s w hs r p hlt v H)))

theorem y_cal (s : ByteArray) (w : World) (hs : s.size ≤ 60) (p : Nat) (hlt : p < s.size) (v t0 t2 t5 t8 t11 t14 t17 L D : Int) (g : Int → Bool) (T : Told s t0 t2 t5 t8 t11 t14 t17 L D v g) (rest : RR) (H : t11 ≤ 23 → t14 ≤ 59 → t17 ≤ 59 → Yat 22 w rest (fun y0 y2 _ _ y7 y10 y11 _ _ _ y18 => y0 = .string s ∧ y2 = .pointer (some ⟨w.heap.size, 0, none⟩) ∧ y7 = .int .i64 (v) ∧ y10 = .int .u8 (s[p].toNat : Int) ∧ y11 = .int .i64 ((p : Int) + 1) ∧ y18 = .int .i64 (secR D t11 t14 t17))) : Yat 13 w (calR t5 t8 t11 t14 t17 L rest) (fun y0 y2 _ _ y7 y10 y11 _ _ _ _ => y0 = .string s ∧ y2 = .pointer (some ⟨w.heap.size, 0, none⟩) ∧ y7 = .int .i64 (v) ∧ y10 = .int .u8 (s[p].toNat : Int) ∧ y11 = .int .i64 ((p : Int) + 1)) := by
  refine y_13 s w hs _ p hlt v t0 t2 T.b0 T.b2 T.h0 T.h2 (y_14 s w hs _ p hlt v t0 t2 t5 T.h5 ?_)
  unfold calR
  by_cases q0 : t5 < 1 ∨ 12 < t5
  · rw [if_pos q0]; exact y_15b s w hs p hlt v t0 t2 t5 q0
  rw [if_neg q0]
  refine y_15 s w hs _ p hlt v t0 t2 t5 (by omega) (by omega) ?_
  have hL := T.hL (by omega) (by omega)
  by_cases q1 : t8 < 1 ∨ L < t8
  · rw [if_pos q1]; exact y_16b s w hs p hlt v t0 t2 t5 t8 L T.h8 hL q1
  rw [if_neg q1]
  refine y_16 s w hs _ p hlt v t0 t2 t5 t8 L T.h8 hL (by omega) (by omega) ?_
  by_cases q2 : 23 < t11
  · rw [if_pos q2]; exact y_17b s w hs p hlt v t0 t2 t5 t11 T.h11 q2
  rw [if_neg q2]
  refine y_17 s w hs _ p hlt v t0 t2 t5 t11 T.h11 (by omega) ?_
  by_cases q3 : 59 < t14
  · rw [if_pos q3]; exact y_18b s w hs p hlt v t0 t2 t5 t14 T.h14 q3
  rw [if_neg q3]
  refine y_18 s w hs _ p hlt v t0 t2 t5 t14 T.h14 (by omega) ?_
  by_cases q4 : 59 < t17
  · rw [if_pos q4]; exact y_19b s w hs p hlt v t0 t2 t5 t17 T.h17 q4
  rw [if_neg q4]
  refine y_19 s w hs _ p hlt v t0 t2 t5 t17 T.h17 (by omega) ?_
  exact y_20 s w hs _ p hlt v t0 t2 t5 t8 D T.h8 (T.hD (by omega) (by omega) (by omega) (by omega)) (y_21 s w hs _ p hlt v t11 t14 t17 D _ T.b11 T.b14 T.b17 T.bD rfl T.h11 T.h14 T.h17 (H (by omega) (by omega) (by omega)))

theorem y_end (s : ByteArray) (w : World) (hs : s.size ≤ 60) (p : Nat) (hlt : p < s.size) (v S : Int) (g : Int → Bool) (hG : ∀ sec, Tells 14 #[.agg #[.int .i64 sec, .int .i64 v]] (.bool (g sec))) : Yat 23 w (endR g S v) (fun y0 y2 _ _ y7 y10 y11 _ _ _ y18 => y0 = .string s ∧ y2 = .pointer (some ⟨w.heap.size, 0, none⟩) ∧ y7 = .int .i64 (v) ∧ y10 = .int .u8 (s[p].toNat : Int) ∧ y11 = .int .i64 ((p : Int) + 1) ∧ y18 = .int .i64 (S)) := by
  have h := hG S
  unfold endR
  cases hg : g S with
  | true => rw [hg] at h; exact y_23t s w hs p hlt v S h
  | false => rw [hg] at h; rw [if_neg (by decide)]; exact y_23f s w hs p hlt v S h

theorem ref_short (s : ByteArray) (w : World) (hs : s.size ≤ 60) (h19 : 19 ≤ s.size) (HF : ∀ j, j < 19 → fitAt s j) (p : Nat) (v : Int) (dot : Bool) (hP : FracP s p v dot) (r : RR) (HO : (p = s.size ∧ ((0, 0, (s.size : Int), 2) : RR) = r) ∨ (∃ h : p < s.size, (¬ (s[p].toNat : Int) = 90 ∧ ¬ (s[p].toNat : Int) = 122 ∧ ¬ (s[p].toNat : Int) = 43 ∧ ¬ (s[p].toNat : Int) = 45) ∧ ((0, 0, (p : Int), 1) : RR) = r) ∨ (∃ h : p < s.size, ((s[p].toNat : Int) = 90 ∨ (s[p].toNat : Int) = 122) ∧ p + 1 < s.size ∧ ((0, 0, ((p + 1 : Nat) : Int), 1) : RR) = r)) :
    Calls Tryd.prog 11 #[.string s] w (RQ w r) := by
  refine ref_pre s w hs h19 HF p v dot hP r ?_
  rcases HO with ⟨hp, rfl⟩ | ⟨hlt, ⟨n1, n2, n3, n4⟩, rfl⟩ | ⟨hlt, hz, hend, rfl⟩
  · exact y_6e s w hs p hp v
  · exact y_to10 s w hs _ p hlt v (y_10b s w hs p hlt v n1 n2 n3 n4)
  · exact y_to10 s w hs _ p hlt v (y_10 s w hs _ p hlt v (by omega) (y_11z s w hs _ p hlt v (p + 1) rfl hz (y_12t s w hs p hlt v (p + 1) hend)))
theorem ref_z (s : ByteArray) (w : World) (hs : s.size ≤ 60) (h19 : 19 ≤ s.size) (HF : ∀ j, j < 19 → fitAt s j) (p : Nat) (v : Int) (dot : Bool) (hP : FracP s p v dot) (hlt : p < s.size) (hc : (s[p].toNat : Int) = 90 ∨ (s[p].toNat : Int) = 122) (hend : p + 1 = s.size) (t0 t2 t5 t8 t11 t14 t17 L D : Int) (g : Int → Bool) (T : Told s t0 t2 t5 t8 t11 t14 t17 L D v g) :
    Calls Tryd.prog 11 #[.string s] w (RQ w (calR t5 t8 t11 t14 t17 L (endR g (secR D t11 t14 t17) v))) :=
  ref_pre s w hs h19 HF p v dot hP _ (y_to10 s w hs _ p hlt v (y_10 s w hs _ p hlt v (by omega) (y_11z s w hs _ p hlt v (p + 1) rfl hc (y_12 s w hs _ p hlt v (p + 1) hend
    (y_cal s w hs p hlt v t0 t2 t5 t8 t11 t14 t17 L D g T _ (fun _ _ _ => y_22z s w hs _ p hlt v _ hc (y_end s w hs p hlt v _ g T.hG)))))))
theorem ref_zends (s : ByteArray) (w : World) (hs : s.size ≤ 60) (h19 : 19 ≤ s.size) (HF : ∀ j, j < 19 → fitAt s j) (p : Nat) (v : Int) (dot : Bool) (hP : FracP s p v dot) (hlt : p < s.size) (hc : (s[p].toNat : Int) = 43 ∨ (s[p].toNat : Int) = 45) (m : Nat) (hm : m ≤ 5) (q0 : Nat) (hqx : q0 ≤ p + 1 + m) (hqy : p + 1 + m ≤ q0) (hq0 : q0 ≤ s.size) (HFZ : Hid (∀ j, j < m → fitZ s (p + 1) j)) (r : RR) (HO : (m < 5 ∧ q0 = s.size ∧ ((0, 0, (s.size : Int), 2) : RR) = r) ∨ (m < 5 ∧ q0 < s.size ∧ (∀ (h1 : m < patZ.size) (h2 : q0 < s.size), fitS (patZ[m].toNat : Int) (s[q0].toNat : Int) = false) ∧ ((0, 0, (q0 : Int), 1) : RR) = r) ∨ (5 ≤ m ∧ q0 < s.size ∧ ((0, 0, (q0 : Int), 1) : RR) = r)) :
    Calls Tryd.prog 11 #[.string s] w (RQ w r) := by
  refine ref_pre s w hs h19 HF p v dot hP r (y_to10 s w hs _ p hlt v (y_10 s w hs _ p hlt v (by omega) ?_))
  rcases HO with h | h | ⟨h5, hq, rfl⟩
  · exact y_11e s w hs p hlt v hc m h.1 q0 hqx hqy hq0 HFZ r (Lib.hid (Or.inl h))
  · exact y_11e s w hs p hlt v hc m h.1 q0 hqx hqy hq0 HFZ r (Lib.hid (Or.inr h))
  · exact y_11p s w hs _ p hlt v q0 (by omega) hq0 hc m hm h5 HFZ (y_12t s w hs p hlt v q0 hq)
theorem ref_pm (s : ByteArray) (w : World) (hs : s.size ≤ 60) (h19 : 19 ≤ s.size) (HF : ∀ j, j < 19 → fitAt s j) (p : Nat) (v : Int) (dot : Bool) (hP : FracP s p v dot) (hlt : p < s.size) (hc : (s[p].toNat : Int) = 43 ∨ (s[p].toNat : Int) = 45) (hend : p + 6 = s.size) (HFZ : Hid (∀ j, j < 5 → fitZ s (p + 1) j)) (tz tz3 : Int) (Z : ToldZ s p tz tz3) (t0 t2 t5 t8 t11 t14 t17 L D : Int) (g : Int → Bool) (T : Told s t0 t2 t5 t8 t11 t14 t17 L D v g) (by_ : Int) (hby : by_ = if (s[p].toNat : Int) = 45 then 3600 * tz + 60 * tz3 else - (3600 * tz + 60 * tz3)) :
    Calls Tryd.prog 11 #[.string s] w (RQ w (calR t5 t8 t11 t14 t17 L (zoneR p tz tz3 (endR g (secR D t11 t14 t17 + by_) v)))) := by
  refine ref_pre s w hs h19 HF p v dot hP _ (y_to10 s w hs _ p hlt v (y_10 s w hs _ p hlt v (by omega) (y_11p s w hs _ p hlt v (p + 6) rfl (by omega) hc 5 (by omega) (by omega) HFZ (y_12 s w hs _ p hlt v (p + 6) hend
    (y_cal s w hs p hlt v t0 t2 t5 t8 t11 t14 t17 L D g T _ (fun l1 l2 l3 => ?_))))))
  obtain ⟨z1, z2⟩ := Z.bz
  obtain ⟨z3, z4⟩ := Z.bz3
  unfold zoneR
  by_cases g8 : 23 < tz
  · rw [if_pos g8]; exact y_22b s w hs p hlt v _ hc tz Z.hz g8
  rw [if_neg g8]
  by_cases g9 : 59 < tz3
  · rw [if_pos g9]; exact y_22c s w hs p hlt v _ hc tz Z.hz tz3 Z.hz3 (by omega) g9
  rw [if_neg g9]
  have bS : -2000000000000 ≤ secR D t11 t14 t17 ∧ secR D t11 t14 t17 ≤ 2000000000000 := by
    have a1 := T.b11; have a2 := T.b14; have a3 := T.b17; have a4 := T.bD
    unfold secR
    omega
  rcases hc with hc | hc
  · rw [if_neg (by omega)] at hby
    exact y_22p43 s w hs _ p hlt v _ (secR D t11 t14 t17 + by_) bS hc tz Z.hz tz3 Z.hz3 Z.bz Z.bz3 (by omega) (by omega) (by omega) (y_end s w hs p hlt v _ g T.hG)
  · rw [if_pos hc] at hby
    exact y_22p45 s w hs _ p hlt v _ (secR D t11 t14 t17 + by_) bS hc tz Z.hz tz3 Z.hz3 Z.bz Z.bz3 (by omega) (by omega) (by omega) (y_end s w hs p hlt v _ g T.hG)
end Go.Proofs.YtlgdenihddkjaaaDoor
