/- The document's own reading of a text is the program's. -/
import Derived.Test.YtlgdenihddkjaaaDoorXq
import Derived.Test.YtlgdenihddkjaaaDoorYz
import Derived.Test.YtlgdenihddkjaaaDoorXf
namespace Go.Proofs.YtlgdenihddkjaaaDoor
set_option linter.unusedSimpArgs false
set_option linter.unusedVariables false
open Go.RowKit Go.Lib Go.Proofs.YtlgdenihddkjaaaDoorW.PrintWords

/-- The number of two digits at a place. -/
def tw (s : ByteArray) (i : Nat) : Nat := 10 * dvN s i + dvN s (i + 1)
theorem two_tells (s : ByteArray) (i z : Nat) (a : Int) (ha : a = i) (hs : s.size ≤ 60) (h1 : i < s.size) (hza : z ≤ i + 1) (hzb : i + 1 ≤ z) (h2 : z < s.size) (d e : Int) (hd : (s[i].toNat : Int) = d + 48) (he : (s[z].toNat : Int) = e + 48) (b1 : 0 ≤ d) (b2 : d ≤ 9) (b3 : 0 ≤ e) (b4 : e ≤ 9) :
    Tells 34 #[.string s, .int .i64 a] (.int .i64 (10 * d + e)) := by
  subst ha
  intro x
  have w0 : IntKind.i64.wrap (s[i].toNat : Int) = (s[i].toNat : Int) := IntWalk.i64_in _ (by omega)
  have w1 : IntKind.i64.wrap ((s[i].toNat : Int) - 48) = d := by rw [IntWalk.i64_in _ (by omega)]; omega
  have w2 : IntKind.i64.wrap (10 * d) = 10 * d := IntWalk.i64_in _ (by omega)
  have w3 : IntKind.i64.wrap ((i : Int) + 1) = (z : Int) := by rw [IntWalk.i64_in _ (by omega)]; omega
  have w4 : IntKind.i64.wrap (s[z].toNat : Int) = (s[z].toNat : Int) := IntWalk.i64_in _ (by omega)
  have w5 : IntKind.i64.wrap (10 * d + (s[z].toNat : Int)) = 10 * d + (s[z].toNat : Int) := IntWalk.i64_in _ (by omega)
  have w6 : IntKind.i64.wrap (10 * d + (s[z].toNat : Int) - 48) = 10 * d + e := by rw [IntWalk.i64_in _ (by omega)]; omega
  clear hd he hza hzb
  go_enter Tryd.func34, Tryd.ntmps34
  go_wp2
  go_quiet (fail)
  go_wp2
  go_ret
  exact ⟨rfl, Below.drewN (Below.refl _ _) _⟩
theorem dig_at {pf : Nat → Int} {s : ByteArray} {lo k i : Nat} (hF : Fit pf s lo k) (h1 : lo ≤ i) (h2 : i < k) (hp : pf i = 48) : ∃ h : i < s.size, (s[i].toNat : Int) = (dvN s i : Int) + 48 ∧ (dvN s i : Int) ≤ 9 := by
  have hi : i < s.size := by have := hF.1; omega
  have := hF.2 i h1 h2 hi
  rw [hp] at this
  have h := fit48.1 this
  refine ⟨hi, ?_, ?_⟩ <;> (unfold dvN; rw [dif_pos hi]; omega)
theorem two_of {pf : Nat → Int} {s : ByteArray} {lo k : Nat} (hs : s.size ≤ 60) (hF : Fit pf s lo k) (i : Nat) (a : Int) (ha : a = i) (h1 : lo ≤ i) (h2 : i + 1 < k) (hp : pf i = 48) (hp2 : pf (i + 1) = 48) :
    Tells 34 #[.string s, .int .i64 a] (.int .i64 (tw s i : Int)) ∧ tw s i ≤ 99 := by
  obtain ⟨a1, a2, a3⟩ := dig_at hF h1 (by omega) hp
  obtain ⟨b1, b2, b3⟩ := dig_at hF (by omega) h2 hp2
  refine ⟨?_, by unfold tw; omega⟩
  have h := two_tells s i (i + 1) a ha hs a1 (Nat.le_refl _) (Nat.le_refl _) b1 (dvN s i) (dvN s (i + 1)) a2 b2 (by omega) a3 (by omega) b3
  have e : ((tw s i : Nat) : Int) = 10 * (dvN s i : Int) + (dvN s (i + 1) : Int) := by unfold tw; omega
  rw [e]
  exact h
/-- Is a stamp right? -/
def goodR (v : Int) (sec : Int) : Bool := decide (checkS sec v = none)
theorem good_is (sec nan : Int) : PSt.eponymref16_Good.f sec nan = some (goodR nan sec) := by
  unfold PSt.eponymref16_Good.f goodR checkS
  by_cases h1 : nan ≥ 0
  · by_cases h2 : nan ≤ 999999999
    · by_cases h3 : sec ≥ -62167219200
      · by_cases h4 : sec ≤ 253402300799
        · rw [if_pos h1, if_pos h2, if_pos h3, if_neg (by omega)]; simp [h4]
        · rw [if_pos h1, if_pos h2, if_pos h3, if_pos (by omega)]; simp [h4]
      · rw [if_pos h1, if_pos h2, if_neg h3, if_pos (by omega)]; simp
    · rw [if_pos h1, if_neg h2, if_pos (by omega)]; simp
  · rw [if_neg h1, if_pos (by omega)]; simp
theorem days_bdE (y m d : Int) (h : daysE y m d = none) : -10000000 ≤ Cal.days y m d ∧ Cal.days y m d ≤ 10000000 := by
  unfold daysE at h
  split at h
  · cases h
  · split at h
    · cases h
    · split at h
      · cases h
      · have hl := Cal.len_le y m
        have e := Cal.days_eq y m d (by omega) (by omega)
        have hb := Cal.cumT_bd y m (by omega) (by omega)
        have hlp := Cal.lp_01 y
        have hyr : 0 ≤ Cal.yr y ∧ Cal.yr y ≤ 3700000 := by unfold Cal.yr; omega
        omega
/-- The number of a day that there is; else 0. -/
def dN (y m d : Int) : Int := if daysE y m d = none then Cal.days y m d else 0
theorem told_of (s : ByteArray) (hs : s.size ≤ 60) (hF : Fit pfT s 0 19) (v : Int) :
    Told s (tw s 0) (tw s 2) (tw s 5) (tw s 8) (tw s 11) (tw s 14) (tw s 17) (Cal.len (100 * (tw s 0 : Int) + tw s 2) (tw s 5)) (dN (100 * (tw s 0 : Int) + tw s 2) (tw s 5) (tw s 8)) v (goodR v) := by
  obtain ⟨q0, p0⟩ := two_of hs hF 0 0 rfl (by omega) (by omega) (by decide) (by decide)
  obtain ⟨q2, p2⟩ := two_of hs hF 2 2 rfl (by omega) (by omega) (by decide) (by decide)
  obtain ⟨q5, p5⟩ := two_of hs hF 5 5 rfl (by omega) (by omega) (by decide) (by decide)
  obtain ⟨q8, p8⟩ := two_of hs hF 8 8 rfl (by omega) (by omega) (by decide) (by decide)
  obtain ⟨q11, p11⟩ := two_of hs hF 11 11 rfl (by omega) (by omega) (by decide) (by decide)
  obtain ⟨q14, p14⟩ := two_of hs hF 14 14 rfl (by omega) (by omega) (by decide) (by decide)
  obtain ⟨q17, p17⟩ := two_of hs hF 17 17 rfl (by omega) (by omega) (by decide) (by decide)
  refine ⟨q0, q2, q5, q8, q11, q14, q17, fun a b x => ?_, fun a b c d x => ?_, fun sec x => PSt.eponymref16_Good.calls sec v _ x (good_is sec v), by omega, by omega, by omega, by omega, by omega, ?_⟩
  · refine Calls.mono (PSt.eponymref16_Length.calls _ _ _ x (refLen_f _ _ (by omega) a b)) ?_
    rintro e w' ⟨h1, h2⟩
    exact ⟨h1, Drawn0.below h2⟩
  · have hE : daysE (100 * (tw s 0 : Int) + tw s 2) (tw s 5) (tw s 8) = none := by
      unfold daysE
      rw [if_neg (by omega), if_neg (by omega), if_neg (by omega)]
    have h := refDays_f (100 * (tw s 0 : Int) + tw s 2) (tw s 5) (tw s 8)
    rw [hE] at h
    have e : daysN (100 * (tw s 0 : Int) + tw s 2) (tw s 5) (tw s 8) = dN (100 * (tw s 0 : Int) + tw s 2) (tw s 5) (tw s 8) := rfl
    rw [e] at h
    refine Calls.mono (PSt.eponymref16_Days.calls 40 _ _ _ _ _ _ x h) ?_
    rintro e w' ⟨h1, h2⟩
    exact ⟨h1, Drawn0.below h2⟩
  · unfold dN
    split
    · rename_i h; exact days_bdE _ _ _ h
    · omega
theorem toldZ_of (s : ByteArray) (hs : s.size ≤ 60) (p : Nat) (hF : Fit (pfZ (p + 1)) s (p + 1) (p + 6)) : ToldZ s p (tw s (p + 1)) (tw s (p + 4)) := by
  obtain ⟨q0, p0⟩ := two_of hs hF (p + 1) ((p : Int) + 1) (by omega) (by omega) (by omega) (by unfold pfZ; rw [show p + 1 - (p + 1) = 0 by omega]; decide) (by unfold pfZ; rw [show p + 1 + 1 - (p + 1) = 1 by omega]; decide)
  obtain ⟨q3, p3⟩ := two_of hs hF (p + 4) ((p : Int) + 4) (by omega) (by omega) (by omega) (by unfold pfZ; rw [show p + 4 - (p + 1) = 3 by omega]; decide) (by unfold pfZ; rw [show p + 4 + 1 - (p + 1) = 4 by omega]; decide)
  exact ⟨q0, q3, by omega, by omega⟩

/-- An error's place and number. -/
def outE : Option (Int × Nat) → Int × Int
  | none => (0, 0)
  | some x => (x.1, (x.2 : Int))
def outR (m : Int × Int × Option (Int × Nat)) : RR := (m.1, m.2.1, (outE m.2.2).1, (outE m.2.2).2)
theorem madeL_bad (H : Int) (i : Nat) (x : Pt) (r : List Pt) (hi : Int) (he : (if i = 2 then H else x.hi) = hi) (h : (x.n : Int) < x.lo ∨ (x.n : Int) > hi) : madeL H i (x :: r) = some ((x.p : Int), 4) := by subst he; exact if_pos h
theorem madeL_good (H : Int) (i : Nat) (x : Pt) (r : List Pt) (hi : Int) (he : (if i = 2 then H else x.hi) = hi) (h : ¬ ((x.n : Int) < x.lo ∨ (x.n : Int) > hi)) : madeL H i (x :: r) = madeL H (i + 1) r := by subst he; exact if_neg h
theorem end_is (T : Int) (nan : Nat) : outR (match checkS T nan with | some x => (0, 0, some x) | none => (T, (nan : Int), none)) = endR (goodR nan) T nan := by
  unfold endR goodR
  rcases check_cases T nan with h | h <;> rw [h] <;> simp [outR, outE]
theorem made_cal (H : Int) (a0 a1 a2 a3 a4 a5 : Nat) (r : List Pt) (R : RR) (h0 : a0 ≤ 9999) (g : Option (Int × Nat) → Int × Int × Option (Int × Nat)) (hg : ∀ x, g (some x) = (0, 0, some x)) (hR : (1 ≤ a1 ∧ a1 ≤ 12 ∧ 1 ≤ a2 ∧ (a2 : Int) ≤ H) → outR (g (madeL H 6 r)) = R) :
    outR (g (madeL H 0 (⟨a0, 0, 0, 9999⟩ :: ⟨a1, 5, 1, 12⟩ :: ⟨a2, 8, 1, 31⟩ :: ⟨a3, 11, 0, 23⟩ :: ⟨a4, 14, 0, 59⟩ :: ⟨a5, 17, 0, 59⟩ :: r))) = calR a1 a2 a3 a4 a5 H R := by
  rw [madeL_good H 0 _ _ 9999 rfl (by show ¬ ((a0 : Int) < 0 ∨ (a0 : Int) > 9999); omega)]
  unfold calR
  by_cases h1 : (a1 : Int) < 1 ∨ 12 < (a1 : Int)
  · rw [if_pos h1, madeL_bad H 1 _ _ 12 rfl h1, hg]; rfl
  rw [if_neg h1, madeL_good H 1 _ _ 12 rfl h1]
  by_cases h2 : (a2 : Int) < 1 ∨ H < (a2 : Int)
  · rw [if_pos h2, madeL_bad H 2 _ _ H rfl h2, hg]; rfl
  rw [if_neg h2, madeL_good H 2 _ _ H rfl h2]
  by_cases h3 : 23 < (a3 : Int)
  · rw [if_pos h3, madeL_bad H 3 _ _ 23 rfl (Or.inr h3), hg]; rfl
  rw [if_neg h3, madeL_good H 3 _ _ 23 rfl (by show ¬ ((a3 : Int) < 0 ∨ (a3 : Int) > 23); omega)]
  by_cases h4 : 59 < (a4 : Int)
  · rw [if_pos h4, madeL_bad H 4 _ _ 59 rfl (Or.inr h4), hg]; rfl
  rw [if_neg h4, madeL_good H 4 _ _ 59 rfl (by show ¬ ((a4 : Int) < 0 ∨ (a4 : Int) > 59); omega)]
  by_cases h5 : 59 < (a5 : Int)
  · rw [if_pos h5, madeL_bad H 5 _ _ 59 rfl (Or.inr h5), hg]; rfl
  rw [if_neg h5, madeL_good H 5 _ _ 59 rfl (by show ¬ ((a5 : Int) < 0 ∨ (a5 : Int) > 59); omega)]
  exact hR (by omega)
theorem made_z (a0 a1 a2 a3 a4 a5 nan : Nat) (c : UInt8) (h0 : a0 ≤ 9999) :
    outR (madeR [⟨a0, 0, 0, 9999⟩, ⟨a1, 5, 1, 12⟩, ⟨a2, 8, 1, 31⟩, ⟨a3, 11, 0, 23⟩, ⟨a4, 14, 0, 59⟩, ⟨a5, 17, 0, 59⟩] c nan) = calR a1 a2 a3 a4 a5 (Cal.len a0 a1) (endR (goodR nan) (secR (dN a0 a1 a2) a3 a4 a5) nan) := by
  refine made_cal (Cal.len a0 a1) a0 a1 a2 a3 a4 a5 [] _ h0 (fun o => match o with
    | some x => (0, 0, some x)
    | none => match checkS (madeT [⟨a0, 0, 0, 9999⟩, ⟨a1, 5, 1, 12⟩, ⟨a2, 8, 1, 31⟩, ⟨a3, 11, 0, 23⟩, ⟨a4, 14, 0, 59⟩, ⟨a5, 17, 0, 59⟩] c) nan with
      | some x => (0, 0, some x)
      | none => (madeT [⟨a0, 0, 0, 9999⟩, ⟨a1, 5, 1, 12⟩, ⟨a2, 8, 1, 31⟩, ⟨a3, 11, 0, 23⟩, ⟨a4, 14, 0, 59⟩, ⟨a5, 17, 0, 59⟩] c, (nan : Int), none)) (fun x => rfl) ?_
  intro hb
  have hE : daysE a0 a1 a2 = none := by
    unfold daysE
    rw [if_neg (by omega), if_neg (by omega), if_neg (by omega)]
  have e : madeT [⟨a0, 0, 0, 9999⟩, ⟨a1, 5, 1, 12⟩, ⟨a2, 8, 1, 31⟩, ⟨a3, 11, 0, 23⟩, ⟨a4, 14, 0, 59⟩, ⟨a5, 17, 0, 59⟩] c = secR (dN a0 a1 a2) a3 a4 a5 := by
    unfold secR dN
    rw [if_pos hE]
    show Cal.days a0 a1 a2 * 86400 + (a3 : Int) * 3600 + (a4 : Int) * 60 + a5 = _
    omega
  rw [e]
  exact end_is _ nan
theorem made_p (k8 k9 : Nat) (a0 a1 a2 a3 a4 a5 a8 a9 nan p : Nat) (c : UInt8) (h0 : a0 ≤ 9999) (h8 : k8 = p + 1) (h9 : k9 = p + 4) (by_ : Int) (hby : by_ = if c.toNat = 45 then (3600 * (a8 : Int) + 60 * a9) else - (3600 * (a8 : Int) + 60 * a9)) :
    outR (madeR [⟨a0, 0, 0, 9999⟩, ⟨a1, 5, 1, 12⟩, ⟨a2, 8, 1, 31⟩, ⟨a3, 11, 0, 23⟩, ⟨a4, 14, 0, 59⟩, ⟨a5, 17, 0, 59⟩, ⟨a8, k8, 0, 23⟩, ⟨a9, k9, 0, 59⟩] c nan) = calR a1 a2 a3 a4 a5 (Cal.len a0 a1) (zoneR p a8 a9 (endR (goodR nan) (secR (dN a0 a1 a2) a3 a4 a5 + by_) nan)) := by
  subst h8 h9
  refine made_cal (Cal.len a0 a1) a0 a1 a2 a3 a4 a5 [⟨a8, p + 1, 0, 23⟩, ⟨a9, p + 4, 0, 59⟩] _ h0 (fun o => match o with
    | some x => (0, 0, some x)
    | none => match checkS (madeT [⟨a0, 0, 0, 9999⟩, ⟨a1, 5, 1, 12⟩, ⟨a2, 8, 1, 31⟩, ⟨a3, 11, 0, 23⟩, ⟨a4, 14, 0, 59⟩, ⟨a5, 17, 0, 59⟩, ⟨a8, p + 1, 0, 23⟩, ⟨a9, p + 4, 0, 59⟩] c) nan with
      | some x => (0, 0, some x)
      | none => (madeT [⟨a0, 0, 0, 9999⟩, ⟨a1, 5, 1, 12⟩, ⟨a2, 8, 1, 31⟩, ⟨a3, 11, 0, 23⟩, ⟨a4, 14, 0, 59⟩, ⟨a5, 17, 0, 59⟩, ⟨a8, p + 1, 0, 23⟩, ⟨a9, p + 4, 0, 59⟩] c, (nan : Int), none)) (fun x => rfl) ?_
  intro hb
  unfold zoneR
  by_cases g8 : 23 < (a8 : Int)
  · rw [if_pos g8, madeL_bad _ 6 _ _ 23 rfl (Or.inr g8)]; rfl
  rw [if_neg g8, madeL_good _ 6 _ _ 23 rfl (by show ¬ ((a8 : Int) < 0 ∨ (a8 : Int) > 23); omega)]
  by_cases g9 : 59 < (a9 : Int)
  · rw [if_pos g9, madeL_bad _ 7 _ _ 59 rfl (Or.inr g9)]; rfl
  rw [if_neg g9, madeL_good _ 7 _ _ 59 rfl (by show ¬ ((a9 : Int) < 0 ∨ (a9 : Int) > 59); omega)]
  have hE : daysE a0 a1 a2 = none := by
    unfold daysE
    rw [if_neg (by omega), if_neg (by omega), if_neg (by omega)]
  have e : madeT [⟨a0, 0, 0, 9999⟩, ⟨a1, 5, 1, 12⟩, ⟨a2, 8, 1, 31⟩, ⟨a3, 11, 0, 23⟩, ⟨a4, 14, 0, 59⟩, ⟨a5, 17, 0, 59⟩, ⟨a8, p + 1, 0, 23⟩, ⟨a9, p + 4, 0, 59⟩] c = secR (dN a0 a1 a2) a3 a4 a5 + by_ := by
    unfold secR dN
    rw [if_pos hE, hby]
    show (if c.toNat = 45 then Cal.days a0 a1 a2 * 86400 + (a3 : Int) * 3600 + (a4 : Int) * 60 + a5 + ((a8 : Int) * 3600 + a9 * 60) else Cal.days a0 a1 a2 * 86400 + (a3 : Int) * 3600 + (a4 : Int) * 60 + a5 - ((a8 : Int) * 3600 + a9 * 60)) = _
    split <;> omega
  rw [e]
  exact end_is _ nan

def RefP (s : ByteArray) (w : World) (r : Int × Int × Option (Int × Nat)) : Prop :=
  Calls Tryd.prog 11 #[.string s] w fun e w' => e = .returned (.tuple #[.agg #[.int .i64 r.1, .int .i64 r.2.1], .int .i64 (outE r.2.2).1, .int .i64 (outE r.2.2).2]) ∧ Below w.heap.size w w'
theorem refP_of (s : ByteArray) (w : World) (r : Int × Int × Option (Int × Nat)) (q : RR) (hq : outR r = q) (h : Calls Tryd.prog 11 #[.string s] w fun e w' => e = .returned (.tuple #[.agg #[.int .i64 q.1, .int .i64 q.2.1], .int .i64 q.2.2.1, .int .i64 q.2.2.2]) ∧ Below w.heap.size w w') : RefP s w r := by
  subst hq; exact h
theorem ref_stop (s : ByteArray) (w : World) (hs : s.size ≤ 60) (x : Int × Nat) (h : StopAt pfT s 0 19 x) : RefP s w (0, 0, some x) := by
  obtain ⟨k, -, hk, hF, h⟩ := h
  rcases h with ⟨hlt, hn, rfl⟩ | ⟨he, rfl⟩
  · exact refP_of s w _ (0, 0, (k : Int), 1) rfl (ref_bad s w hs k hk hF.1 (fitAt_of hF) hlt (fun h1 h2 => by have := hn h2; unfold pfT at this; rw [dif_pos h1] at this; exact this))
  · exact refP_of s w _ (0, 0, (s.size : Int), 2) rfl (ref_end s w hs k hk hF.1 (fitAt_of hF) he)
theorem ref_zstop (s : ByteArray) (w : World) (hs : s.size ≤ 60) (hF0 : Fit pfT s 0 19) (p : Nat) (v : Int) (dot : Bool) (hP : FracP s p v dot) (hlt : p < s.size) (hc : (s[p].toNat : Int) = 43 ∨ (s[p].toNat : Int) = 45) (x : Int × Nat) (h : StopAt (pfZ (p + 1)) s (p + 1) (p + 6) x) : RefP s w (0, 0, some x) := by
  obtain ⟨k, hk0, hk, hF, h⟩ := h
  have hF' : Fit (pfZ (p + 1)) s (p + 1) (p + 1 + (k - (p + 1))) := by rw [show p + 1 + (k - (p + 1)) = k by omega]; exact hF
  rcases h with ⟨hk2, hn, rfl⟩ | ⟨he, rfl⟩
  · refine refP_of s w _ (0, 0, (k : Int), 1) rfl (ref_zends s w hs hF0.1 (fitAt_of hF0) p v dot hP hlt hc (k - (p + 1)) (by omega) k (by omega) (by omega) hF.1 (Lib.hid (fitZ_of hF')) _ (Or.inr (Or.inl ⟨by omega, hk2, fun h1 h2 => ?_, rfl⟩)))
    have := hn h2
    unfold pfZ at this
    rw [dif_pos h1] at this
    exact this
  · exact refP_of s w _ (0, 0, (s.size : Int), 2) rfl (ref_zends s w hs hF0.1 (fitAt_of hF0) p v dot hP hlt hc (k - (p + 1)) (by omega) k (by omega) (by omega) hF.1 (Lib.hid (fitZ_of hF')) _ (Or.inl ⟨by omega, he, rfl⟩))
theorem val2 (s : ByteArray) (k : Nat) : valN s 2 0 k = tw s k := by
  show 10 * (10 * 0 + dvN s k) + dvN s (k + 1) = 10 * dvN s k + dvN s (k + 1)
  omega
theorem val4 (s : ByteArray) : valN s 4 0 0 = 100 * tw s 0 + tw s 2 := by
  show 10 * (10 * (10 * (10 * 0 + dvN s 0) + dvN s 1) + dvN s 2) + dvN s 3 = 100 * (10 * dvN s 0 + dvN s 1) + (10 * dvN s 2 + dvN s 3)
  omega
theorem pfT_digs (a b : Nat) (h : ((List.range 19).all fun j => (decide (a ≤ j ∧ j < b)).not || decide (pfT j = 48)) = true) (hb : b ≤ 19) : ∀ j, a ≤ j → j < b → pfT j = 48 := by
  intro j h1 h2
  have := List.all_eq_true.1 h j (by simp; omega)
  simp [h1, h2] at this
  exact this
theorem ref_any (s : ByteArray) (w : World) (hs : s.size ≤ 60) : RefP s w (parseR s) := by
  unfold parseR readS
  have st := ref_stop s w hs
  have f0 : Fit pfT s 0 0 := ⟨by omega, fun j _ h => by omega⟩
  have t0 := take_step (m := 4) (pfT_digs 0 4 (by decide +kernel) (by omega)) (by decide +kernel : pfT (0 + 4) = 45) set_45 (by decide) (Nat.zero_le _) f0
  cases hx0 : takeS s 4 ⟨#[45]⟩ 0 with
  | error x => exact st x ((t0.1 x hx0).wide (by omega))
  | ok r0 => obtain ⟨a0, c0, k1⟩ := r0; obtain ⟨f1, e0, rfl⟩ := t0.2 _ _ _ hx0
             have t1 := take_step (m := 2) (pfT_digs 5 7 (by decide +kernel) (by omega)) (by decide +kernel : pfT (5 + 2) = 45) set_45 (by decide) (Nat.zero_le _) f1
             cases hx1 : takeS s 2 ⟨#[45]⟩ (0 + 4 + 1) with
  | error x => simp only [hx1]; exact st x ((t1.1 x hx1).wide (by omega))
  | ok r1 => obtain ⟨a1, c1, k2⟩ := r1; obtain ⟨f2, e1, rfl⟩ := t1.2 _ _ _ hx1
             have t2 := take_step (m := 2) (pfT_digs 8 10 (by decide +kernel) (by omega)) (by decide +kernel : pfT (8 + 2) = 84) set_84 (by decide) (Nat.zero_le _) f2
             cases hx2 : takeS s 2 ⟨#[84, 116]⟩ (0 + 4 + 1 + 2 + 1) with
  | error x => simp only [hx1, hx2]; exact st x ((t2.1 x hx2).wide (by omega))
  | ok r2 => obtain ⟨a2, c2, k3⟩ := r2; obtain ⟨f3, e2, rfl⟩ := t2.2 _ _ _ hx2
             have t3 := take_step (m := 2) (pfT_digs 11 13 (by decide +kernel) (by omega)) (by decide +kernel : pfT (11 + 2) = 58) set_58 (by decide) (Nat.zero_le _) f3
             cases hx3 : takeS s 2 ⟨#[58]⟩ (0 + 4 + 1 + 2 + 1 + 2 + 1) with
  | error x => simp only [hx1, hx2, hx3]; exact st x ((t3.1 x hx3).wide (by omega))
  | ok r3 => obtain ⟨a3, c3, k4⟩ := r3; obtain ⟨f4, e3, rfl⟩ := t3.2 _ _ _ hx3
             have t4 := take_step (m := 2) (pfT_digs 14 16 (by decide +kernel) (by omega)) (by decide +kernel : pfT (14 + 2) = 58) set_58 (by decide) (Nat.zero_le _) f4
             cases hx4 : takeS s 2 ⟨#[58]⟩ (0 + 4 + 1 + 2 + 1 + 2 + 1 + 2 + 1) with
  | error x => simp only [hx1, hx2, hx3, hx4]; exact st x ((t4.1 x hx4).wide (by omega))
  | ok r4 => obtain ⟨a4, c4, k5⟩ := r4; obtain ⟨f5, e4, rfl⟩ := t4.2 _ _ _ hx4
             have t5 := take_step0 (m := 2) (pfT_digs 17 19 (by decide +kernel) (by omega)) (Nat.zero_le _) f5
             cases hx5 : takeS s 2 ⟨#[]⟩ (0 + 4 + 1 + 2 + 1 + 2 + 1 + 2 + 1 + 2 + 1) with
  | error x => simp only [hx1, hx2, hx3, hx4, hx5]; exact st x ((t5.1 x hx5).wide (by omega))
  | ok r5 =>
    obtain ⟨a5, c5, k6⟩ := r5
    obtain ⟨f6, e5, rfl⟩ := t5.2 _ _ _ hx5
    have hF : Fit pfT s 0 19 := f6
    have h19 := hF.1
    have hAt := fitAt_of hF
    have T := told_of s hs hF
    simp only [hx1, hx2, hx3, hx4, hx5]
    rw [val4] at e0
    rw [val2] at e1 e2 e3 e4 e5
    have b0 : tw s 0 ≤ 99 ∧ tw s 2 ≤ 99 := ⟨by have := (T 0).b0; omega, by have := (T 0).b2; omega⟩
    cases hx6 : fracS s 19 with
    | error x =>
      simp only [show fracS s (0 + 4 + 1 + 2 + 1 + 2 + 1 + 2 + 1 + 2 + 1 + 2) = .error x from hx6]
      rcases frac_er h19 hx6 with ⟨he, rfl⟩ | ⟨hlt, h46, ⟨⟨n, hn, hD, he⟩, rfl⟩ | ⟨h20, hbad, rfl⟩⟩
      · exact refP_of s w _ (0, 0, (s.size : Int), 2) rfl (ref_short s w hs h19 hAt 19 0 false (Or.inl ⟨rfl, rfl, rfl, fun h => by omega⟩) _ (Or.inl ⟨he.symm, rfl⟩))
      · exact refP_of s w _ (0, 0, (s.size : Int), 2) rfl (rfrac_e s w hs 19 (by omega) (by omega) h19 hAt hlt h46 n (by omega) (dvI s) (dvI_bd s) hD hn he)
      · exact refP_of s w _ (0, 0, 20, 1) rfl (rfrac_d s w hs 19 (by omega) (by omega) h19 hAt hlt h46 0 (by omega) (dvI s) (dvI_bd s) (fun j hj => by omega) (by omega) 20 (by omega) (by omega) h20 hbad)
    | ok r6 =>
      obtain ⟨nan, p⟩ := r6
      simp only [show fracS s (0 + 4 + 1 + 2 + 1 + 2 + 1 + 2 + 1 + 2 + 1 + 2) = .ok (nan, p) from hx6]
      obtain ⟨hp19, hps, hp29, dot, hP⟩ := frac_okP h19 hx6
      cases hx7 : oneS s signs p with
      | error x =>
        simp only []
        unfold oneS at hx7
        split at hx7
        · rename_i hlt
          split at hx7
          · rename_i hc
            cases hx7
            have hc := (sign_iff _).1 hc
            exact refP_of s w _ (0, 0, (p : Int), 1) rfl (ref_short s w hs h19 hAt p nan dot hP _ (Or.inr (Or.inl ⟨hlt, ⟨by omega, by omega, by omega, by omega⟩, rfl⟩)))
          · cases hx7
        · cases hx7
          exact refP_of s w _ (0, 0, (s.size : Int), 2) rfl (ref_short s w hs h19 hAt p nan dot hP _ (Or.inl ⟨by omega, rfl⟩))
      | ok c =>
        simp only []
        have hsg : ∃ hlt : p < s.size, c = s[p] ∧ (c.toNat = 90 ∨ c.toNat = 122 ∨ c.toNat = 43 ∨ c.toNat = 45) := by
          unfold oneS at hx7
          split at hx7
          · rename_i hlt
            split at hx7
            · cases hx7
            · rename_i hc
              cases hx7
              exact ⟨hlt, rfl, Decidable.byContradiction fun h => hc ((sign_iff _).2 h)⟩
          · cases hx7
        obtain ⟨hlt, hcp, hcs⟩ := hsg
        have hcn : (s[p].toNat : Int) = (c.toNat : Int) := by rw [hcp]
        by_cases hz : c.toNat = 43 ∨ c.toNat = 45
        · rw [if_pos hz]
          have hc2 : (s[p].toNat : Int) = 43 ∨ (s[p].toNat : Int) = 45 := by omega
          have g0 : Fit (pfZ (p + 1)) s (p + 1) (p + 1) := ⟨by omega, fun j _ h => by omega⟩
          have pz : ∀ j m, j = p + 1 + m → pfZ (p + 1) j = pfZ 0 m := by intro j m e; subst e; unfold pfZ; rw [show p + 1 + m - (p + 1) = m - 0 by omega]
          have u0 := take_step (m := 2) (p := 58) (fun j h1 h2 => by
            rcases (by omega : j = p + 1 + 0 ∨ j = p + 1 + 1) with e | e <;> (rw [pz j _ e]; decide)) (by rw [pz (p + 1 + 2) 2 rfl]; decide) set_58 (by decide) (Nat.le_refl _) g0
          cases hx8 : takeS s 2 ⟨#[58]⟩ (p + 1) with
          | error x => exact ref_zstop s w hs hF p nan dot hP hlt hc2 x ((u0.1 x hx8).wide (by omega))
          | ok r8 =>
            obtain ⟨a8, c8, k9⟩ := r8
            obtain ⟨g1, e8, rfl⟩ := u0.2 _ _ _ hx8
            have u1 := take_step0 (m := 2) (fun j h1 h2 => by
              rcases (by omega : j = p + 1 + 3 ∨ j = p + 1 + 4) with e | e <;> (rw [pz j _ e]; decide)) (by omega) g1
            cases hx9 : takeS s 2 ⟨#[]⟩ (p + 1 + 2 + 1) with
            | error x => simp only [hx9]; exact ref_zstop s w hs hF p nan dot hP hlt hc2 x ((u1.1 x hx9).wide (by omega))
            | ok r9 =>
              obtain ⟨a9, c9, k10⟩ := r9
              obtain ⟨g2, e9, rfl⟩ := u1.2 _ _ _ hx9
              simp only [hx9]
              rw [val2] at e8 e9
              have g3 : Fit (pfZ (p + 1)) s (p + 1) (p + 6) := g2
              have hp6 := g3.1
              by_cases hx : p + 1 + 2 + 1 + 2 < s.size
              · simp only [if_pos hx]
                exact refP_of s w _ (0, 0, ((p + 6 : Nat) : Int), 1) rfl (ref_zends s w hs h19 hAt p nan dot hP hlt hc2 5 (by omega) (p + 6) (by omega) (by omega) hp6 (Lib.hid (fitZ_of g3)) _ (Or.inr (Or.inr ⟨by omega, by omega, rfl⟩)))
              · simp only [if_neg hx]
                have Z := toldZ_of s hs p g3
                subst e0 e1 e2 e3 e4 e5 e8 e9
                have e6 : ((100 * tw s 0 + tw s 2 : Nat) : Int) = 100 * (tw s 0 : Int) + tw s 2 := by omega
                refine refP_of s w _ _ (made_p _ _ _ _ _ _ _ _ _ _ nan p c (by omega) (by omega) (by omega) _ rfl) ?_
                rw [e6]
                exact ref_pm s w hs h19 hAt p nan dot hP hlt hc2 (by omega) (Lib.hid (fitZ_of g3)) _ _ Z _ _ _ _ _ _ _ _ _ _ (T nan) _ (by by_cases h45 : c.toNat = 45 <;> first | rw [if_pos h45, if_pos (by omega)] | rw [if_neg h45, if_neg (by omega)])
        · rw [if_neg hz]
          by_cases hx : p + 1 < s.size
          · simp only [if_pos hx]
            exact refP_of s w _ (0, 0, ((p + 1 : Nat) : Int), 1) rfl (ref_short s w hs h19 hAt p nan dot hP _ (Or.inr (Or.inr ⟨hlt, by omega, hx, rfl⟩)))
          · simp only [if_neg hx]
            subst e0 e1 e2 e3 e4 e5
            have e6 : ((100 * tw s 0 + tw s 2 : Nat) : Int) = 100 * (tw s 0 : Int) + tw s 2 := by omega
            refine refP_of s w _ _ (made_z _ _ _ _ _ _ nan c (by omega)) ?_
            rw [e6]
            exact ref_z s w hs h19 hAt p nan dot hP hlt (by omega) (by omega) _ _ _ _ _ _ _ _ _ _ (T nan)
end Go.Proofs.YtlgdenihddkjaaaDoor
