/- awake: what one line tells is told. -/
import Derived.Test.YthggpjiabklekaaGreatDoorPl
import Derived.Test.YthggpjiabklekaaGreatDoorFe
namespace Go.Proofs.YthggpjiabklekaaGreatDoor
set_option linter.unusedSimpArgs false
set_option linter.unusedVariables false
open Go.RowKit Go.Lib

theorem line0 : bs (lineL 65 90 3) = ⟨#[48, 48, 52, 49, 46, 46, 48, 48, 53, 65, 32, 51]⟩ := by kernel_rfl
theorem cut_call (s sep a b : ByteArray) (f : Bool) (hs : s.size < 4294967281) (h : Lib.cut s.data.toList sep.data.toList = (a.data.toList, b.data.toList, f)) (W : World) (hm : ∃ m : Int, W.cell? ⟨19, 0, none⟩ = some (.int .i64 m)) :
    Calls Tryz.prog 34 #[.string s, .string sep] W fun e w' => e = .returned (.tuple #[.string a, .string b, .bool f]) ∧ Below W.heap.size W w' := by
  obtain ⟨m, hm⟩ := hm
  refine (Tryz.strings_Cut s sep m W hs hm).mono ?_
  rintro e w' ⟨rfl, n, rfl⟩
  rw [h]
  exact ⟨rfl, below_drewN (Below.refl _ _) n⟩
theorem read0 (W : World) (hI : RInv W) : Calls Tryz.prog 35 #[.string ⟨#[48, 48, 52, 49, 46, 46, 48, 48, 53, 65, 32, 51]⟩] W fun e w' => e = .returned (.tuple #[rgV (65, 90, 3), .bool true]) ∧ Below W.heap.size W w' := by
  refine read_good ⟨#[48, 48, 52, 49, 46, 46, 48, 48, 53, 65, 32, 51]⟩ ⟨#[48, 48, 52, 49, 46, 46, 48, 48, 53, 65]⟩ ⟨#[48, 48, 52, 49]⟩ ⟨#[48, 48, 53, 65]⟩ ⟨#[48, 48, 53, 65]⟩ ⟨#[51]⟩ true 10 (by decide) (by decide) (by decide +kernel) (by kernel_rfl) (by kernel_rfl) ?_ rfl (by decide) (by decide) (by decide) 65 90 (by decide) (by decide) 3 ?_ ?_ ?_ ?_ W hI.tz hI.p10 hI.mx
  · exact fun W hm => cut_call _ _ _ _ _ (by decide) (by kernel_rfl) W hm
  · exact fun W => parseInt16 ⟨#[48, 48, 52, 49]⟩ (by decide) (by decide) 48 rfl (by decide) (by decide) 65 (by decide) (by kernel_rfl) W
  · exact fun W => parseInt16 ⟨#[48, 48, 53, 65]⟩ (by decide) (by decide) 48 rfl (by decide) (by decide) 90 (by decide) (by kernel_rfl) W
  · intro W
    refine (Tryz.strconv_Atoi ⟨#[51]⟩ 3 (by decide) (by kernel_rfl) W).mono ?_
    rintro e w' ⟨rfl, t, rfl⟩
    exact ⟨rfl, bytes_below W t⟩
  · intro W ht hp
    have h := line_any 65 90 3 (by decide) (by decide) (by decide) (by decide) W ht hp
    rw [line0] at h
    exact h
theorem lines0 : LinesG ⟨#[48, 48, 52, 49, 46, 46, 48, 48, 53, 65, 32, 51, 10]⟩ [(65, 90, 3)] :=
  ⟨by decide, ⟨#[48, 48, 52, 49, 46, 46, 48, 48, 53, 65, 32, 51]⟩, ⟨#[]⟩, by decide, fun W hI => cut_call _ _ _ _ _ (by decide) (by kernel_rfl) W hI.mx, read0, rfl⟩
theorem parse0 (w : World) (hI : RInv w) : Calls Tryz.prog 17 #[.string ⟨#[48, 48, 52, 49, 46, 46, 48, 48, 53, 65, 32, 51, 10]⟩] w fun e w' => ∃ g cap, e = .returned (.tuple #[.slice (some ⟨g, 0, none⟩) 1 cap, .nilIface]) ∧ Lies w' (some ⟨g, 0, none⟩) [(65, 90, 3)] ∧ Below w.heap.size w w' := by
  refine (parse_lines _ [(65, 90, 3)] (by decide) lines0 (by decide) (by kernel_rfl) w hI).mono ?_
  rintro e w' ⟨v, rfl, ho, hb⟩
  obtain ⟨g, cap, rfl, _, _⟩ := ho.form (by decide)
  refine ⟨g, cap, rfl, fun _ => ⟨_, rfl, fun j hj => ?_⟩, hb⟩
  obtain rfl : j = 0 := by simpa using hj
  exact ⟨ho.cellAt 0 (by decide), ho.cellAt 1 (by decide), ho.cellAt 2 (by decide)⟩
set_option maxRecDepth 100000 in
set_option maxHeartbeats 8000000 in
theorem awake_any (w : World) (hI : RInv w) : Calls Tryz.prog 10 #[] w fun e w' => e = .returned (.bool true) ∧ Below w.heap.size w w' := by
  have HP := Lib.hid (parse0 w hI)
  have HI := Lib.hid hI
  have hT : Tab (-1) [((65 : Int), (90 : Int), (3 : Int))] := ((tab_of _ _ 0).1 (by kernel_rfl))
  have HF := Lib.hid (fun A c x (hA : Lies x A [(65, 90, 3)]) => find_any A c [(65, 90, 3)] 66 x (by decide) hA hT)
  have hff : findS [(65, 90, 3)] 66 = (3, true) := by kernel_rfl
  rw [hff] at HF
  clear hI hT
  go_enter Tryz.func10, Tryz.ntmps10
  go_wp2_with (first
    | (go_at_call 17; refine HP.out.mono ?_; rintro e w1 ⟨g, cap, rfl, hl, hb⟩; have HB := Lib.hid hb; have HLi := Lib.hid hl; clear hb hl)
    | (go_at_call 12; refine (HF.out _ _ _ HLi.out).mono ?_; rintro e w2 ⟨rfl, hb⟩; have HB2 := Lib.hid (below_to HB.out hb); clear hb)
    | (go_at_call 26; have HB3 := Lib.hid (HB2.out.alloc HB2.out.size (.cells #[.int .i32 5, .int .i32 4, .int .i64 0] 28)); refine (check_small _ _ [(5, 4, 0)] _ (HI.out.is.below HB3.out) (fun _ => ⟨_, rfl, fun j hj => (by
        obtain rfl : j = 0 := by simpa using hj
        have hn := blk_new w2 (.cells #[.int .i32 5, .int .i32 4, .int .i64 0] 28)
        exact ⟨(blk_cell hn 0).trans rfl, (blk_cell hn 1).trans rfl, (blk_cell hn 2).trans rfl⟩)⟩) (by decide)).mono ?_; rintro e w4 ⟨v4, rfl, hf, hb⟩; have HF4 := Lib.hid hf; have HB4 := Lib.hid (below_to HB3.out hb); clear hb hf)
    | (go_at_call 19; refine (is_any _ _ 0 4 (by decide) (by decide) _ HF4.out (HI.out.is.below HB4.out)).mono ?_; rintro e w5 ⟨rfl, hb⟩; have HB5 := Lib.hid (below_to HB4.out hb); clear hb))
  go_ret
  exact ⟨rfl, HB5.out⟩
end Go.Proofs.YthggpjiabklekaaGreatDoor
