/- RangesTexts, of a table. -/
import Derived.Test.YthggpjiabklekaaGreatDoorRs
namespace Go.Proofs.YthggpjiabklekaaGreatDoor.PRg
set_option linter.unusedSimpArgs false
set_option linter.unusedVariables false
open Go.RowKit Go.Lib Go.Proofs.YthggpjiabklekaaGreatDoorW.PrintWords Go.Proofs.YthggpjiabklekaaGreatDoorW.PrintLast Go.Proofs.YthggpjiabklekaaGreatDoorW.PrintMore

set_option maxRecDepth 100000 in
set_option maxHeartbeats 8000000 in
theorem texts_right (A : Option Addr) (c : Nat) (l : List S28) (w : World) (hI : RInv w) (hr : Kd.C k28 w A l.length l) (hc : l.length ≤ c) (hl : l.length ≤ 60) (hT : Tab (-1) (rgs l)) :
    Calls Tryz.prog 4 #[.slice A l.length c] w fun e w' => e = .returned (.bool true) ∧ Below w.heap.size w w' := by
  have C := Lib.hid (awake_any w hI)
  have hl' : ¬ (l.length : Int) > 60 := by omega
  have HI := Lib.hid hI
  have HR := Lib.hid hr
  have hlen : (rgs l).length = l.length := rgs_length l
  have hck : checkS (rgs l) = none := (checkS_iff _ (by rw [hlen]; omega)).2 hT
  have hin := inT_of (rgs l) (-1) hT
  have CR := Lib.hid (fun x (hb : Below w.heap.size w x) => eponymlaw03_Right.calls 400 A c l true x (Kd.C_below HR.out hb) hc (right_yes l hl hT))
  have CT := Lib.hid (fun x (hb : Below w.heap.size w x) => text_good A c (rgs l) x (HI.out.below hb) (lies_of (Kd.C_below HR.out hb)) (by rw [hlen]; omega) hck hin)
  have htl := textS_len 0 (rgs l) hin
  have CP := Lib.hid (fun x (hb : Below w.heap.size w x) => parse_lines (bs (textS (rgs l))) (rgs l) (by rw [bs_size]; omega) (lines_text (rgs l) (by rw [hlen]; omega) hin) (by rw [hlen]; omega) hck x (HI.out.below hb))
  have CS := Lib.hid (fun A1 c1 x (h1 : Kd.C k28 x A1 l.length l) (hc1 : l.length ≤ c1) (hb : Below w.heap.size w x) => eponymref03_Same.calls 400 A1 c1 l A c l true x h1 hc1 (Kd.C_below HR.out hb) hc (same_f l hl))
  rw [hlen] at CT CP
  have HLn := Lib.hid hlen
  have HIn := Lib.hid hin
  have HLI := Lib.hid (lies_of hr)
  have HL6 := Lib.hid hl
  clear hI hT hlen hck hin htl hr hl
  go_enter Tryz.func4, Tryz.ntmps4
  go_wp2_with (first
    | (go_at_call 10; refine C.out.mono ?_; rintro e w1 ⟨rfl, hb⟩; have HB := Lib.hid hb; clear hb)
    | (go_at_call 11; refine (CR.out _ HB.out).mono ?_; rintro e w2 ⟨rfl, hb⟩; have HB2 := Lib.hid (Go.Proofs.YthggpjiabklekaaGreatDoor.below_to HB.out hb); clear hb))
  go_loopw [3, 4] (fun s3 s4 wr => ∃ k : Nat, k ≤ l.length ∧ s3 = .string (bs (textS ((rgs l).take k))) ∧ s4 = .int .i64 k ∧ Below w.heap.size w wr) (fun _ s4 _ => l.length - (RowKit.intOf s4).toNat)
  case atStart => exact ⟨0, Nat.zero_le _, rfl, rfl, HB2.out⟩
  case round =>
    obtain ⟨k, hk, rfl, rfl, hB⟩ := hrel
    have HBr := Lib.hid hB
    by_cases hkl : k < l.length
    · have hkl' : (k : Int) < (l.length : Int) := by omega
      have hk0 : 0 ≤ (k : Int) := by omega
      have hkp : k < (rgs l).length := by rw [HLn.out]; exact hkl
      obtain ⟨ad, rfl, hcells⟩ := HLI.out (by omega)
      obtain ⟨c0, c1, c2⟩ := hcells k hkp
      have hin := HIn.out _ (List.getElem_mem hkp)
      have CL := Lib.hid (fun W => eponymref03_Line.calls 3000000 (rgs l)[k].1 (rgs l)[k].2.1 (rgs l)[k].2.2 (bs (lineR (rgs l)[k])) W (ref_line _ hin))
      have hll := lineR_len _ hin
      have HT := Lib.hid (textS_take (rgs l) k hkp)
      have hlen := textS_len 0 ((rgs l).take k) (fun y hy => HIn.out y (List.mem_of_mem_take hy))
      have hlen2 : (textS ((rgs l).take k)).length ≤ 100000 := by have h2 : ((rgs l).take k).length ≤ k := List.length_take_le k _; have h6 := HL6.out; omega
      replace c0 := (hB.cell (World.block_lt_of_cell? w _ c0)).trans c0
      replace c1 := (hB.cell (World.block_lt_of_cell? w _ c1)).trans c1
      replace c2 := (hB.cell (World.block_lt_of_cell? w _ c2)).trans c2
      generalize (rgs l)[k] = x at c0 c1 c2 CL hll HT
      replace c1 : wr.cell? { block := (ad.add (k * 3)).block, off := (ad.add (k * 3)).off + 1 } = some (.int .i32 x.2.1) := by
        rw [← Addr.add_add] at c1; exact c1
      replace c2 : wr.cell? { block := (ad.add (k * 3)).block, off := (ad.add (k * 3)).off + 2 } = some (.int .i64 x.2.2) := by
        rw [← Addr.add_add] at c2; exact c2
      generalize lineR x = ln at CL hll HT
      generalize textS ((rgs l).take k) = T at hlen2 HT ⊢
      have zl : (bs ln).size ≤ 40 := by rw [bs_size]; exact hll
      have zt : (bs T).size ≤ 100000 := by rw [bs_size]; exact hlen2
      obtain ⟨X, hX, z1, add1⟩ := add_any (bs ln) ⟨#[10]⟩ (by omega) (by decide)
      have zX : X.size ≤ 41 := by rw [z1]; show _ + 1 ≤ 41; omega
      obtain ⟨Y, hY, z2, add2⟩ := add_any (bs T) X (by omega) (by omega)
      have hYl : Y = bs (textS ((rgs l).take (k + 1))) := by
        rw [bs_data Y, hY.out, hX.out, bs_dl, bs_dl, HT.out]
      have HYL := Lib.hid hYl
      clear z1 z2 hX hY hYl hlen hlen2 hin hll hcells hB zl zt zX
      go_wp2_with (go_at_call 16; refine (CL.out _).mono ?_; rintro e w3 ⟨rfl, hb⟩; have HB3 := Lib.hid (Go.Proofs.YthggpjiabklekaaGreatDoor.below_to HBr.out hb); clear hb)
      go_roundw
      case rel => exact ⟨k + 1, by omega, by rw [HYL.out], by go_num, HB3.out⟩
      case measure => simp [RowKit.intOf]; omega
    · have hkl' : ¬ (k : Int) < (l.length : Int) := by omega
      have hkk : k = l.length := by omega
      have htk : (rgs l).take k = rgs l := by rw [List.take_of_length_le]; rw [HLn.out]; omega
      rw [htk]
      have hS : (⟨(textS (rgs l)).toArray⟩ : ByteArray) = bs (textS (rgs l)) := rfl
      rw [hS] at CT
      generalize bs (textS (rgs l)) = S at CT CP ⊢
      clear hkk htk hS hB
      go_wp2_with (first
        | (go_at_call 17; refine (CP.out _ HBr.out).mono ?_; rintro e w4 ⟨v, rfl, ho, hb⟩; have HB4 := Lib.hid (Go.Proofs.YthggpjiabklekaaGreatDoor.below_to HBr.out hb); obtain ⟨A1, c1, rfl, hc1, hk1⟩ := rows_of l HL6.out ho; have HK1 := Lib.hid hk1; have HC1 := Lib.hid hc1; clear hb ho hk1 hc1)
        | (go_at_call 15; refine (CT.out _ HB4.out).mono ?_; rintro e w5 ⟨rfl, hb⟩; have HB5 := Lib.hid (Go.Proofs.YthggpjiabklekaaGreatDoor.below_to HB4.out hb); have n0_ := Lib.hid (Kd.C_below HK1.out hb); clear HK1; have HK1 := n0_; clear n0_ hb)
        | (go_at_call 18; refine (CS.out _ _ _ HK1.out HC1.out HB5.out).mono ?_; rintro e w6 ⟨rfl, hb⟩; have HB6 := Lib.hid (Go.Proofs.YthggpjiabklekaaGreatDoor.below_to HB5.out hb.below); clear hb))
      go_ret
      exact ⟨by first | rfl | simp, HB6.out⟩
theorem texts_any (A : Option Addr) (c : Nat) (l : List S28) (w : World) (hI : RInv w) (hr : Kd.C k28 w A l.length l) (hc : l.length ≤ c) :
    Calls Tryz.prog 4 #[.slice A l.length c] w fun e w' => e = .returned (.bool true) ∧ Below w.heap.size w w' := by
  by_cases hl : 60 < l.length
  · exact texts_many A c l w hI hl
  · by_cases hT : Tab (-1) (rgs l)
    · exact texts_right A c l w hI hr hc (by omega) hT
    · exact texts_wrong A c l w hI hr hc (by omega) hT
end Go.Proofs.YthggpjiabklekaaGreatDoor.PRg
