/- RangesParses: the law's walk. -/
import Derived.Test.YthggpjiabklekaaGreatDoorRe
import Derived.Test.YthggpjiabklekaaGreatDoorPn
namespace Go.Proofs.YthggpjiabklekaaGreatDoor.PRg
set_option linter.unusedSimpArgs false
set_option linter.unusedVariables false
open Go.RowKit Go.Lib Go.Proofs.YthggpjiabklekaaGreatDoorW.PrintWords Go.Proofs.YthggpjiabklekaaGreatDoorW.PrintLast Go.Proofs.YthggpjiabklekaaGreatDoorW.PrintMore

theorem right_is (l : List S28) (hl : l.length ≤ 200) (hT : Tab (-1) (rgs l)) : eponymlaw03_Right.f 400 l = some true := by
  obtain ⟨c1, c2, hc, hct⟩ := check_loop l (by omega) l.length 0 400 (by omega) (by omega)
  rw [List.drop_zero] at hct
  unfold eponymlaw03_Right.f eponymref03_Check.f
  rw [if_neg (by omega), show (0 : Int) = ((0 : Nat) : Int) from rfl, hc, Option.bind_some]
  have : c2 = 0 := hct.2 hT
  simp [this]
def slsOf (p : List Rg) : List S28 := p.map fun x => ⟨x.1, x.2.1, x.2.2⟩
theorem rgs_sls (p : List Rg) : rgs (slsOf p) = p := by unfold rgs slsOf; rw [List.map_map]; exact List.map_id p
theorem sls_length (p : List Rg) : (slsOf p).length = p.length := List.length_map _
theorem rows_read {w : World} {base : Nat} {v : Value} (p : List Rg) (hl : p.length ≤ 200) (h : w.ownsRow base 28 3 v p.length (cells3 p)) : ∃ A c, v = .slice A p.length c ∧ p.length ≤ c ∧ Kd.C k28 w A p.length (slsOf p) := by
  rcases h.2 with ⟨e, h0⟩ | ⟨g, cap, cur, e, h1, h2, h3, h4, h5, h6⟩
  · have hn : p = [] := List.length_eq_zero_iff.1 h0
    subst hn
    exact ⟨none, 0, e, Nat.le_refl _, Kd.C_nil _ _⟩
  · refine ⟨some ⟨g, 0, none⟩, cap, e, h3, ⟨sls_length p, by first | omega | (unfold maxLen; omega), fun _ => ⟨_, rfl, fun j q hq => ⟨[.int .i32 q.f0, .int .i32 q.f1, .int .i64 q.f2], rfl, k28_mk w q, fun i u hu => ?_⟩⟩⟩⟩
    subst e
    have hj0 : j < (slsOf p).length := (List.getElem?_eq_some_iff.1 hq).1
    have hj : j < p.length := by rw [sls_length] at hj0; exact hj0
    have hqe : (slsOf p)[j] = q := (List.getElem?_eq_some_iff.1 hq).2
    have eg : p[j] = (q.f0, q.f1, q.f2) := by rw [← hqe]; simp [slsOf]
    obtain ⟨c1, c2, c3⟩ := cells3_at p j hj
    rw [eg] at c1 c2 c3
    match i, hu with
    | 0, hu =>
      obtain rfl : Value.int .i32 q.f0 = u := by simpa using hu
      have h := h.cellAt (j * 3) (by omega); rw [c1] at h; rw [addr0]; exact h
    | 1, hu =>
      obtain rfl : Value.int .i32 q.f1 = u := by simpa using hu
      have h := h.cellAt (j * 3 + 1) (by omega); rw [c2] at h; rw [addr0]; exact h
    | 2, hu =>
      obtain rfl : Value.int .i64 q.f2 = u := by simpa using hu
      have h := h.cellAt (j * 3 + 2) (by omega); rw [c3] at h; rw [addr0]; exact h
set_option maxRecDepth 100000 in
set_option maxHeartbeats 2000000 in
theorem parses_long (s : ByteArray) (w : World) (hI : RInv w) (hl : 200 < s.size) :
    Calls Tryz.prog 5 #[.string s] w fun e w' => e = .returned (.bool true) ∧ Below w.heap.size w w' := by
  have C := Lib.hid (awake_any w hI)
  have hl' : (s.size : Int) > 200 := by omega
  clear hI hl
  go_enter Tryz.func5, Tryz.ntmps5
  go_wp2_with (go_at_call 10; refine C.out.mono ?_; rintro e w1 ⟨rfl, hb⟩; have HB := Lib.hid hb; clear hb)
  go_ret
  exact ⟨rfl, HB.out⟩
theorem isB_not (a c : Nat) (hc : c ≠ 18) : isB (some ((a : Int), c)) 0 18 = false := by
  unfold isB
  have : ((c : Int) == 18) = false := by rw [beq_eq_false_iff_ne]; omega
  simp [this]
set_option maxRecDepth 100000 in
set_option maxHeartbeats 4000000 in
theorem parses_short (s : ByteArray) (w : World) (hI : RInv w) (hE : ErrsLaid w) (hl : s.size ≤ 200) :
    Calls Tryz.prog 5 #[.string s] w fun e w' => e = .returned (.bool true) ∧ Below w.heap.size w w' := by
  have C := Lib.hid (awake_any w hI)
  have HI := Lib.hid hI
  have hl' : ¬ (s.size : Int) > 200 := by omega
  have CP := Lib.hid (fun x (hb : Below w.heap.size w x) => parse_all s hl x (hI.below hb) (hE.below hb))
  clear hI hE hl
  go_enter Tryz.func5, Tryz.ntmps5
  go_wp2_with (go_at_call 10; refine C.out.mono ?_; rintro e w1 ⟨rfl, hb⟩; have HB := Lib.hid hb; clear hb)
  refine (CP.out _ HB.out).mono ?_
  rintro e w2 h
  rcases h with ⟨v, p, rfl, ho, hT, hpl, hps, hb⟩ | ⟨g, a, c, rfl, hf, hc, hpos, hb⟩
  · have hb2 := Go.Proofs.YthggpjiabklekaaGreatDoor.below_to HB.out hb
    obtain ⟨A, c1, rfl, hc1, hK⟩ := rows_read p hpl ho
    have hK' : Kd.C k28 w2 A (slsOf p).length (slsOf p) := by rw [sls_length]; exact hK
    have hTs : Tab (-1) (rgs (slsOf p)) := by rw [rgs_sls]; exact hT
    have hck : checkS p = none := by
      unfold checkS
      rw [if_neg (by omega), (tab_of p (-1) 0).2 hT]
    have HB2 := Lib.hid hb2
    have HK := Lib.hid hK'
    have CR := Lib.hid (fun x (hx : Below w2.heap.size w2 x) => eponymlaw03_Right.calls 400 A c1 (slsOf p) true x (Kd.C_below HK.out hx) (by rw [sls_length]; exact hc1) (right_is _ (by rw [sls_length]; exact hpl) hTs))
    have CT := Lib.hid (fun x (hx : Below w2.heap.size w2 x) => text_good A c1 p x ((HI.out.below hb2).below hx) (by have h := lies_of (Kd.C_below HK.out hx); rw [rgs_sls] at h; exact h) (by omega) hck (inT_of p (-1) hT))
    rw [show (⟨(textS p).toArray⟩ : ByteArray) = s from hps] at CT
    rw [sls_length] at CR
    clear ho hT hK hK' hTs hck hb hb2 hps
    go_wp2_with (first
      | (go_at_call 11; refine (CR.out _ (Below.refl _ _)).mono ?_; rintro e w3 ⟨rfl, hb⟩; have HB3 := Lib.hid hb; clear hb)
      | (go_at_call 15; refine (CT.out _ HB3.out).mono ?_; rintro e w4 ⟨rfl, hb⟩; have HB4 := Lib.hid (Go.Proofs.YthggpjiabklekaaGreatDoor.below_to HB3.out hb); clear hb))
    go_ret
    exact ⟨by first | rfl | simp, Go.Proofs.YthggpjiabklekaaGreatDoor.below_to HB2.out HB4.out⟩
  · have hb2 := Go.Proofs.YthggpjiabklekaaGreatDoor.below_to HB.out hb
    have hne := toList_ne hpos
    have CI := is_any (.iface 70 (.pointer (some ⟨g, 0, none⟩))) (some ((a : Int), c)) 0 18 (by omega) (by omega) w2 hf (HI.out.below hb2).is
    rw [isB_not a c hc] at CI
    have CI' := Lib.hid CI
    have HB2 := Lib.hid hb2
    clear hf hc hpos hb hb2 CI
    go_wp2_with (go_at_call 19; refine CI'.out.mono ?_; rintro e w3 ⟨rfl, hb⟩; have HB3 := Lib.hid (Go.Proofs.YthggpjiabklekaaGreatDoor.below_to HB2.out hb); clear hb)
    go_ret
    exact ⟨by first | rfl | simp, HB3.out⟩
theorem parses_any (s : ByteArray) (w : World) (hI : RInv w) (hE : ErrsLaid w) :
    Calls Tryz.prog 5 #[.string s] w fun e w' => e = .returned (.bool true) ∧ Below w.heap.size w w' := by
  by_cases hl : 200 < s.size
  · exact parses_long s w hI hl
  · exact parses_short s w hI hE (by omega)
end Go.Proofs.YthggpjiabklekaaGreatDoor.PRg
