/- ranges.Parse of any text. -/
import Derived.Test.YthggpjiabklekaaGreatDoorRb
namespace Go.Proofs.YthggpjiabklekaaGreatDoor
set_option linter.unusedSimpArgs false
set_option linter.unusedVariables false
open Go.RowKit Go.Lib
attribute [local go_sem] Exit.noGoto_ret

theorem cut10 (l a b : List UInt8) (h : Lib.cut l [10] = (a, b, true)) : l = a ++ 10 :: b := by
  rcases index_spec l [10] with ⟨h1, _⟩ | ⟨i, h1, h2, h3, _⟩
  · unfold Lib.cut at h
    rw [h1] at h
    simp at h
  · unfold Lib.cut at h
    rw [if_pos (by omega), h1] at h
    injection h with e1 e2
    injection e2 with e2 _
    subst e1 e2
    unfold occAt at h3
    rw [List.isPrefixOf_iff_prefix] at h3
    obtain ⟨t, ht⟩ := h3
    have e : l.drop (i + 1) = t := by
      have := congrArg (List.drop 1) ht
      simpa [List.drop_drop] using this.symm
    rw [Int.toNat_natCast]
    show l = l.take i ++ 10 :: l.drop (i + 1)
    rw [e]
    conv => lhs; rw [← List.take_append_drop i l, ← ht]
    rfl
/-- How Parse ends. -/
def PaEnd (s : ByteArray) (w : World) (e : Ending) (w' : World) : Prop :=
  (∃ (v : Value) (p : List Rg), e = .returned (.tuple #[v, .nilIface]) ∧ w'.ownsRow w.heap.size 28 3 v p.length (cells3 p) ∧ Tab (-1) p ∧ p.length ≤ 200 ∧ bs (textS p) = s ∧ Below w.heap.size w w') ∨
  ∃ (g a : Nat) (c : Nat), e = .returned (.tuple #[.slice none 0 0, .iface 70 (.pointer (some ⟨g, 0, none⟩))]) ∧ FltIs w' (.iface 70 (.pointer (some ⟨g, 0, none⟩))) (some ((a : Int), c)) ∧ c ≠ 18 ∧ 0 < s.size ∧ Below w.heap.size w w'
theorem textS_pos : ∀ (p : List Rg), p ≠ [] → 0 < (textS p).length
  | [], h => absurd rfl h
  | x :: r, _ => by simp only [textS, List.length_append, List.length_cons, List.length_nil]; omega
theorem checkS_some (p : List Rg) (hl : p.length ≤ 200) (a : Int) (c : Nat) (h : checkS p = some (a, c)) : c ≠ 18 ∧ p ≠ [] ∧ ∃ n : Nat, a = n := by
  unfold checkS at h
  rw [if_neg (by omega)] at h
  cases hf : faultsL (-1) p 0 with
  | nil => rw [hf] at h; cases h
  | cons x r =>
    rw [hf] at h
    have hc := faultsL_code p (-1) 0 x (by rw [hf]; exact List.mem_cons_self)
    obtain ⟨i, cc⟩ := x
    injection h with h
    injection h with h1 h2
    refine ⟨by omega, ?_, i, h1.symm⟩
    intro e
    subst e
    cases hf
set_option maxRecDepth 100000 in
set_option maxHeartbeats 8000000 in
theorem parse_all (s : ByteArray) (hs : s.size ≤ 200) (w : World) (hI : RInv w) (hE : ErrsLaid w) :
    Calls Tryz.prog 17 #[.string s] w fun e w' => PaEnd s w e w' := by
  have HI := Lib.hid hI
  have HE := Lib.hid hE
  obtain ⟨i0, hi0, hz0, hz1, hz2⟩ := info_parts infoR28
  obtain ⟨N, hN⟩ : ∃ N, N = s.data.toList := ⟨_, rfl⟩
  have hNl : N.length ≤ 200 := by rw [hN, szL]; exact hs
  have HN := Lib.hid hN
  clear hI hE hN
  go_enter Tryz.func17, Tryz.ntmps17
  go_wp2
  go_step3
  go_wp2
  go_step3
  go_wp2
  go_loopw [0, 4, 5] (fun s0 s4 s5 wr => ∃ (t : ByteArray) (D : List Rg), s0 = .string t ∧ D.length + t.size ≤ 200 ∧ textS D ++ t.data.toList = N ∧ s5 = .int .i64 D.length ∧ wr.ownsRow w.heap.size 28 3 s4 D.length (cells3 D) ∧ Below w.heap.size w wr) (fun s0 _ _ _ => match s0 with | .string t => t.size | _ => 0)
  case atStart => exact ⟨s, [], rfl, by simpa using hs, HN.out.symm, rfl, World.ownsRow_nil _ _ _ _, Below.refl _ _⟩
  case round =>
    obtain ⟨t, D, rfl, hdt, hDN, rfl, hown, hB⟩ := hrel
    have HDN := Lib.hid hDN
    have HOwn := Lib.hid hown
    have HB := Lib.hid hB
    have HRI := Lib.hid (HI.out.below hB)
    have HER := Lib.hid (HE.out.below hB)
    by_cases hz : t.size = 0
    · have hz' : ¬ (t.size : Int) > 0 := by omega
      have hD : bs (textS D) = s := by
        have e : t.data.toList = [] := List.eq_nil_of_length_eq_zero (by rw [szL]; exact hz)
        rw [e, List.append_nil, HN.out] at hDN
        rw [hDN, ← bs_data]
      obtain ⟨A, c, rfl, hA⟩ : ∃ A c, u4 = .slice A D.length c ∧ Lies wr A D := by
        rcases hown.2 with ⟨e, h0⟩ | ⟨g, cap, cur, e, h1, h2, h3, h4, h5, h6⟩
        · exact ⟨none, 0, by rw [e, h0], fun h => by omega⟩
        · refine ⟨some ⟨g, 0, none⟩, cap, e, fun _ => ⟨_, rfl, fun j hj => ?_⟩⟩
          subst e
          obtain ⟨c1, c2, c3⟩ := cells3_at D j hj
          refine ⟨?_, ?_, ?_⟩
          · have h := hown.cellAt (j * 3) (by omega); rw [c1] at h; rw [addr0]; exact h
          · have h := hown.cellAt (j * 3 + 1) (by omega); rw [c2] at h; rw [addr0]; exact h
          · have h := hown.cellAt (j * 3 + 2) (by omega); rw [c3] at h; rw [addr0]; exact h
      have CK := check_small A c D wr HRI.out.is hA (by omega)
      have HD := Lib.hid hD
      have hDl : D.length ≤ 200 := by omega
      cases hck : checkS D with
      | none =>
        rw [hck] at CK
        have CK' := Lib.hid CK
        have hT : Tab (-1) D := by
          unfold checkS at hck
          rw [if_neg (by omega)] at hck
          refine (tab_of D (-1) 0).1 ?_
          cases hf : faultsL (-1) D 0 with
          | nil => rfl
          | cons x r => rw [hf] at hck; cases hck
        have HT := Lib.hid hT
        clear hz hDN hown hB hA CK hck hT hD
        go_wp2_with (go_at_call 26; refine CK'.out.mono ?_; rintro e w3 ⟨v3, rfl, hf, hb⟩; obtain rfl : v3 = .nilIface := hf; have n0_ := Lib.hid (below_to HB.out hb); clear HB; have HB := n0_; clear n0_; have n0_ := Lib.hid (own_below HOwn.out hb); clear HOwn; have HOwn := n0_; clear n0_ hb)
        simp only [Exit.then, Exit.inBlock, Exit.noGoto_ret]
        go_ret2
        exact Or.inl ⟨_, D, rfl, HOwn.out, HT.out, hDl, HD.out, HB.out⟩
      | some x =>
        obtain ⟨fa, fc⟩ := x
        obtain ⟨f1, f2, n, rfl⟩ := checkS_some D hDl fa fc hck
        have hpos : 0 < s.size := by rw [← hD, bs_size]; exact textS_pos D f2
        rw [hck] at CK
        have CK' := Lib.hid CK
        clear hz hDN hown hB hA CK hck hD f2
        go_wp2_with (go_at_call 26; refine CK'.out.mono ?_; rintro e w3 ⟨v3, rfl, hf, hb⟩; have HF := Lib.hid hf; obtain ⟨-, -, g, sv, rfl, -, -⟩ := hf; have n0_ := Lib.hid (below_to HB.out hb); clear HB; have HB := n0_; clear n0_ hb)
        simp only [Exit.then, Exit.inBlock, Exit.noGoto_ret]
        go_ret2
        exact Or.inr ⟨_, n, fc, rfl, HF.out, f1, hpos, HB.out⟩
    · have h0' : (t.size : Int) > 0 := by omega
      have hspos : 0 < s.size := by
        have h := congrArg List.length hDN
        rw [List.length_append, szL, HN.out, szL] at h
        omega
      obtain ⟨A, B0, f, hc⟩ : ∃ A B0 f, Lib.cut t.data.toList [10] = (A, B0, f) := ⟨_, _, _, rfl⟩
      have hcl := cut_len t.data.toList [10]
      rw [hc, szL] at hcl
      dsimp only at hcl
      have hsl : (bs A).size ≤ 1000 := by rw [bs_size]; omega
      have CUT := Lib.hid (fun W (h : RInv W) => cut_call t ⟨#[10]⟩ (bs A) (bs B0) f (by omega) (by rw [bs_dl, bs_dl]; exact hc) W h.mx)
      have hrd := read_all (bs A) hsl
      have HC := Lib.hid hc
      have HCL := Lib.hid hcl
      obtain ⟨ln, hln⟩ : ∃ ln, bs A = ln := ⟨_, rfl⟩
      obtain ⟨rest, hrest⟩ : ∃ rest, bs B0 = rest := ⟨_, rfl⟩
      have HLN := Lib.hid hln
      have HRE := Lib.hid hrest
      rw [hln] at hrd CUT
      rw [hrest] at CUT
      clear hc hcl hsl hln hrest hDN hown hB hz
      cases f with
      | false =>
        rcases hrd with ⟨x, hx, hxl, hr⟩ | hr
        · have RD := Lib.hid hr
          unfold rgV at RD
          clear hx hxl hr
          go_wp2_with (first
            | (go_at_call 34; refine (CUT.out _ HRI.out).mono ?_; rintro e w1 ⟨rfl, hb⟩; have HRI1 := Lib.hid (HRI.out.below hb); have HER1 := Lib.hid (HER.out.below hb); have HB1 := Lib.hid (below_to HB.out hb); clear hb)
            | (go_at_call 35; refine (RD.out _ HRI1.out HER1.out).mono ?_; rintro e w2 ⟨rfl, hb⟩; have HI2 := HRI1.out.below hb; have HB2 := Lib.hid (below_to HB1.out hb); have hb3 := (Below.refl w2.heap.size w2).alloc (Nat.le_refl _) (.cells #[.int .i32 x.1, .int .i32 x.2.1, .int .i64 x.2.2] 28); obtain ⟨ea, hea, -⟩ := (HI2.below hb3).is.sent 2 (by omega) (by omega); have HEA := Lib.hid hea; have hea0 : World.cell? (w2.alloc (.cells #[.int .i32 x.1, .int .i32 x.2.1, .int .i64 x.2.2] 28)) ⟨0, 0, none⟩ = some (.iface 189 (.pointer (some ea))) := hea; have HB3 := Lib.hid (below_to HB2.out hb3); clear hb HI2 hea hb3)
            | (go_at_call 36; refine (fault_at _ _ _ _).mono ?_; rintro e w4 ⟨rfl, rfl⟩))
          simp only [Exit.then, Exit.inBlock, Exit.noGoto_ret]
          go_ret2
          exact Or.inr ⟨_, D.length, 2, rfl, (by have h := flt_here _ (D.length : Int) 2 (by omega) (by omega) _ _ HEA.out; rw [World.size_alloc] at h; exact h), by decide, hspos, HB3.out.alloc HB3.out.size _⟩
        · have RD := Lib.hid hr
          clear hr
          go_wp2_with (first
            | (go_at_call 34; refine (CUT.out _ HRI.out).mono ?_; rintro e w1 ⟨rfl, hb⟩; have HRI1 := Lib.hid (HRI.out.below hb); have HER1 := Lib.hid (HER.out.below hb); have HB1 := Lib.hid (below_to HB.out hb); clear hb)
            | (go_at_call 35; refine (RD.out _ HRI1.out HER1.out).mono ?_; rintro e w2 ⟨rfl, hb⟩; have HI2 := HRI1.out.below hb; have HB2 := Lib.hid (below_to HB1.out hb); have hb3 := (Below.refl w2.heap.size w2).alloc (Nat.le_refl _) (.cells #[.int .i32 0, .int .i32 0, .int .i64 0] 28); obtain ⟨ea, hea, -⟩ := (HI2.below hb3).is.sent 2 (by omega) (by omega); have HEA := Lib.hid hea; have hea0 : World.cell? (w2.alloc (.cells #[.int .i32 0, .int .i32 0, .int .i64 0] 28)) ⟨0, 0, none⟩ = some (.iface 189 (.pointer (some ea))) := hea; have HB3 := Lib.hid (below_to HB2.out hb3); clear hb HI2 hea hb3)
            | (go_at_call 36; refine (fault_at _ _ _ _).mono ?_; rintro e w4 ⟨rfl, rfl⟩))
          simp only [Exit.then, Exit.inBlock, Exit.noGoto_ret]
          go_ret2
          exact Or.inr ⟨_, D.length, 2, rfl, (by have h := flt_here _ (D.length : Int) 2 (by omega) (by omega) _ _ HEA.out; rw [World.size_alloc] at h; exact h), by decide, hspos, HB3.out.alloc HB3.out.size _⟩
      | true =>
        rcases hrd with ⟨x, hx, hxl, hr⟩ | hr
        · have RD := Lib.hid hr
          unfold rgV at RD
          have hcut := cut10 _ _ _ HC.out
          have hA : A = lineR x := by
            have h := HLN.out.trans hxl.symm
            have h2 := congrArg (fun b : ByteArray => b.data.toList) h
            try dsimp only at h2
            rwa [bs_dl, bs_dl] at h2
          have hrl : rest.data.toList = B0 := by rw [← HRE.out, bs_dl]
          have hnext : textS (D ++ [x]) ++ rest.data.toList = N := by
            rw [textS_snoc, hrl, ← HDN.out, hcut, hA]
            simp
          have hsz : D.length + 1 + rest.size ≤ 200 ∧ rest.size < t.size := by
            have h := congrArg List.length hcut
            rw [szL, List.length_append, List.length_cons] at h
            have h2 := szL rest
            rw [hrl] at h2
            omega
          have HNX := Lib.hid hnext
          clear hx hxl hr hcut hA hrl hnext
          go_wp2_with (first
            | (go_at_call 34; refine (CUT.out _ HRI.out).mono ?_; rintro e w1 ⟨rfl, hb⟩; have HRI1 := Lib.hid (HRI.out.below hb); have HER1 := Lib.hid (HER.out.below hb); have HB1 := Lib.hid (below_to HB.out hb); have HO1 := Lib.hid (own_below HOwn.out hb); clear hb)
            | (go_at_call 35; refine (RD.out _ HRI1.out HER1.out).mono ?_; rintro e w2 ⟨rfl, hb⟩; have HB2 := Lib.hid (below_to HB1.out hb); have HO2 := Lib.hid (own_below HO1.out hb); clear hb)
            | (at_builtin; refine wpList_append_own _ rfl _ _ 22 rfl w.heap.size 28 i0 _ 3 16 Tryz.underlying22 hi0 hz0 hz1 hz2 rfl (by decide) u4 D.length (cells3 D) rfl ((HO2.out.alloc _).alloc _) ⟨w2.heap.size + 1, 0, none⟩ 1 1 [.int .i32 x.1, .int .i32 x.2.1, .int .i64 x.2.2] rfl rfl ?c1 ?c2 ?c3 ?c4 ?c5 ?_))
          case c1 =>
            have h := blk_new (w2.alloc (.cells #[.int .i32 x.1, .int .i32 x.2.1, .int .i64 x.2.2] 28)) (.cells #[.int .i32 x.1, .int .i32 x.2.1, .int .i64 x.2.2] 28)
            rw [World.size_alloc] at h
            exact World.news_of_block (cs := #[.int .i32 x.1, .int .i32 x.2.1, .int .i64 x.2.2]) (t := 28) (fr := (0, 0)) h
          case c2 => simp [Value.oneCell']
          case c3 => unfold maxLen; omega
          case c4 => omega
          case c5 => have h1 := HB2.out.size; simp; omega
          intro v' w10 hown' hgrow _
          have hrow : ∀ g, u4.ownBlock = some g → w.heap.size ≤ g := fun g hg => (HO2.out.lt g hg).1
          have hB10 : Below w.heap.size w w10 := Below.grown ((HB2.out.alloc HB2.out.size _).alloc (by simp; have := HB2.out.size; omega) _) hgrow (by simp; have := HB2.out.size; omega) hrow
          have HB10 := Lib.hid hB10
          have HO10 := Lib.hid hown'
          clear hrow hB10 hgrow hown'
          go_wp2
          go_roundw
          case rel =>
            refine ⟨rest, D ++ [x], rfl, by rw [List.length_append, List.length_singleton]; omega, HNX.out, by simp, ?_, HB10.out⟩
            rw [cells3_snoc, List.length_append]; exact HO10.out
          case measure => simp; omega
        · have RD := Lib.hid hr
          clear hr
          go_wp2_with (first
            | (go_at_call 34; refine (CUT.out _ HRI.out).mono ?_; rintro e w1 ⟨rfl, hb⟩; have HRI1 := Lib.hid (HRI.out.below hb); have HER1 := Lib.hid (HER.out.below hb); have HB1 := Lib.hid (below_to HB.out hb); clear hb)
            | (go_at_call 35; refine (RD.out _ HRI1.out HER1.out).mono ?_; rintro e w2 ⟨rfl, hb⟩; have HI2 := HRI1.out.below hb; have HB2 := Lib.hid (below_to HB1.out hb); have hb3 := (Below.refl w2.heap.size w2).alloc (Nat.le_refl _) (.cells #[.int .i32 0, .int .i32 0, .int .i64 0] 28); obtain ⟨ea, hea, -⟩ := (HI2.below hb3).is.sent 5 (by omega) (by omega); have HEA := Lib.hid hea; have hea0 : World.cell? (w2.alloc (.cells #[.int .i32 0, .int .i32 0, .int .i64 0] 28)) ⟨1, 0, none⟩ = some (.iface 189 (.pointer (some ea))) := hea; have HB3 := Lib.hid (below_to HB2.out hb3); clear hb HI2 hea hb3)
            | (go_at_call 36; refine (fault_at _ _ _ _).mono ?_; rintro e w4 ⟨rfl, rfl⟩))
          simp only [Exit.then, Exit.inBlock, Exit.noGoto_ret]
          go_ret2
          exact Or.inr ⟨_, D.length, 5, rfl, (by have h := flt_here _ (D.length : Int) 5 (by omega) (by omega) _ _ HEA.out; rw [World.size_alloc] at h; exact h), by decide, hspos, HB3.out.alloc HB3.out.size _⟩
end Go.Proofs.YthggpjiabklekaaGreatDoor
