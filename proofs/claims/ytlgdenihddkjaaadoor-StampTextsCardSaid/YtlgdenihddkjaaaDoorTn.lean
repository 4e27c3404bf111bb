/- StampTexts, the law: any stamp. -/
import Derived.Test.YtlgdenihddkjaaaDoorTm
namespace Go.Proofs.YtlgdenihddkjaaaDoor
set_option linter.unusedSimpArgs false
set_option linter.unusedVariables false
open Go.RowKit Go.Lib Go.Proofs.YtlgdenihddkjaaaDoorW.PrintWords

theorem nat_of (z : Int) (a b : Int) (h0 : 0 ≤ z) : ∃ n : Nat, (n : Int) = z := ⟨z.toNat, by omega⟩
theorem fracT_length (n : Nat) : (fracT n).length ≤ 10 := by
  unfold fracT
  split
  · obtain ⟨j, hj⟩ := trim_is 9 (dg 9 n) (dg_length 9 n)
    have := congrArg List.length hj
    rw [dg_length] at this
    simp at this ⊢
    omega
  · simp
theorem stampTexts_any (sec nan : Int) (w : World) (hI : IsInv w) (hl : 18 < w.heap.size) (hG : PSt.GInv w) :
    Calls Tryd.prog 5 #[.agg #[.int .i64 sec, .int .i64 nan]] w fun e w' => e = .returned (.bool true) ∧ Below w.heap.size w w' := by
  rcases check_cases sec nan with hk | hk
  · have hr : ¬ (nan < 0 ∨ nan ≥ 1000000000 ∨ sec < -62167219200 ∨ sec > 253402300799) := fun h => by rw [checkS, if_pos h] at hk; cases hk
    obtain ⟨n, rfl⟩ : ∃ n : Nat, nan = n := ⟨nan.toNat, by omega⟩
    obtain ⟨c, hc⟩ : ∃ c : Nat, (c : Int) = sec - sec / 86400 * 86400 := ⟨(sec - sec / 86400 * 86400).toNat, by omega⟩
    obtain ⟨y', m', d', hv, g, hd⟩ := Cal.civil_is (sec / 86400)
    have hcl : Cal.clamp (sec / 86400) = sec / 86400 := by unfold Cal.clamp; omega
    rw [hcl] at hd
    have g' := g
    obtain ⟨g1, g2, g3, g4, g5, g6⟩ := g
    have hll := Cal.len_le y' m'
    obtain ⟨y, rfl⟩ : ∃ n : Nat, y' = n := ⟨y'.toNat, by omega⟩
    obtain ⟨m, rfl⟩ : ∃ n : Nat, m' = n := ⟨m'.toNat, by omega⟩
    obtain ⟨d, rfl⟩ : ∃ n : Nat, d' = n := ⟨d'.toNat, by omega⟩
    obtain ⟨wk, hw1, hw2⟩ := week_same (sec / 86400)
    have hwk : 0 ≤ wk ∧ wk ≤ 6 := by
      unfold PSt.stamp_Week.f at hw1
      have e := Option.some.inj hw1
      have hin : 0 ≤ wrap64 (wrap64 (Int.tmod (sec / 86400) 7 + 7) + 3) := by
        by_cases h : 0 ≤ sec / 86400
        · rw [tm_nn h]; simp (disch := omega) only [w64]; omega
        · rw [tm_neg (by omega)]; simp (disch := omega) only [w64]; omega
      rw [tm_nn hin] at e
      omega
    have hE : ∀ x, Below w.heap.size w x → ErrInv x := fun x hb => ErrInv.below (hI.err hl) hb
    have hGx : ∀ x, Below w.heap.size w x → PSt.GInv x := fun x hb => PSt.GInv.below hG hb
    refine texts_good sec n (bs (textL y m d c n)) _ w (fun x hb => awake_any x (hE x hb) (hGx x hb)) (fun x hb => text_any sec n y m d c (by omega) (by omega) (by omega) hc hv (by omega) (by omega) (by omega) x (hGx x hb))
      (fun x => PSt.eponymref16_Good.calls sec n true x (by rw [good_f, hk]; rfl)) (fun x hb => ?_)
      (fun x => PSt.eponymref16_Text.calls _ sec n _ x (refText_f sec n 3000000000 y m d c (by omega) (by omega) (by omega) (by omega) hc hv (by omega) (by omega) (by omega)))
      (fun x hb => http_good 20 sec n (sec / 86400) y m d wk _ _ _ x (hGx x hb) hk (parted_f sec n 20 (by omega) (by omega) (by omega) c hc) (by rw [civil_f, hv]) hw1 hwk.1 hwk.2 (by omega) (by omega) (sd4 y 20 y rfl (by omega) (by omega)) (sd2 d 20 d rfl (by omega) (by omega)) (by rw [bs_size, clockL_length]; omega) (by rw [bs_size, dg_length]; omega) (by rw [bs_size, dg_length]; omega))
      (fun x => ?_) (fun x => check_good sec n x hr)
    · refine Calls.mono (parse_any (bs (textL y m d c n)) x (by rw [bs_size]; have := fracT_length n; simp [textL, dayL_length]; omega) (hE x hb)) ?_
      intro e w' h
      unfold ParseP at h
      rw [parse_text sec y m d c n (by omega) (by omega) (by omega) hc g' hd] at h
      obtain ⟨v, rfl, hf, hb2⟩ := h
      have hv2 : v = .nilIface := hf
      subst hv2
      exact ⟨rfl, hb2⟩
    · have hk2 := refCivil_k (sec / 86400) 3000000000 (by omega)
      rw [hv] at hk2
      exact refHttp_good _ sec n (sec / 86400) c y m d wk _ _ _ x (by rw [cut_f sec n (by omega) (by omega), hc]) hk2 hw2 hwk.1 hwk.2 (by omega) (by omega) (rd2 d _ d rfl (by omega) (by omega)) (rd4 y _ y rfl (by omega) (by omega)) (refClock_f c _ (by omega) (by omega)) (by rw [bs_size, clockL_length]; omega) (by rw [bs_size, dg_length]; omega) (by rw [bs_size, dg_length]; omega)
  · exact texts_bad sec nan w hI hl hG hk
end Go.Proofs.YtlgdenihddkjaaaDoor
