/- ranges.read at every text. -/
import Derived.Test.YthggpjiabklekaaGreatDoorRa
import Derived.Test.YthggpjiabklekaaGreatDoorPm
namespace Go.Proofs.YthggpjiabklekaaGreatDoor
set_option linter.unusedSimpArgs false
set_option linter.unusedVariables false
open Go.RowKit Go.Lib

theorem cut_len (s sep : List UInt8) : (cut s sep).1.length ≤ s.length ∧ (cut s sep).2.1.length ≤ s.length := by
  unfold cut
  split
  · simp only [List.length_take, List.length_drop]; omega
  · simp
/-- A row whose line can be written. -/
def InW (x : Rg) : Prop := 0 ≤ x.1 ∧ x.1 ≤ 2147483647 ∧ 0 ≤ x.2.1 ∧ x.2.1 ≤ 2147483647 ∧ -9223372036854775808 ≤ x.2.2 ∧ x.2.2 ≤ 9223372036854775807
theorem lineW_any (x : Rg) (h : InW x) (w : World) (ht : Tz w) (hp : Pow10 w) : Calls Tryz.prog 30 #[.agg #[.int .i32 x.1, .int .i32 x.2.1, .int .i64 x.2.2]] w fun e w' => e = .returned (.string (bs (lineR x))) ∧ Below w.heap.size w w' := by
  obtain ⟨h1, h2, h3, h4, h5, h6⟩ := h
  have C := line_any x.1.toNat x.2.1.toNat x.2.2 (by omega) (by omega) h5 h6 w ht hp
  rw [show ((x.1.toNat : Nat) : Int) = x.1 by omega, show ((x.2.1.toNat : Nat) : Int) = x.2.1 by omega] at C
  exact C
/-- What read tells of a text. -/
def RdEnd (s : ByteArray) : Prop := (∃ x : Rg, InW x ∧ bs (lineR x) = s ∧ ∀ w, RInv w → ErrsLaid w → Calls Tryz.prog 35 #[.string s] w fun e w' => e = .returned (.tuple #[rgV x, .bool true]) ∧ Below w.heap.size w w') ∨ ∀ w, RInv w → ErrsLaid w → RdNo s w
theorem read_all (s : ByteArray) (hs : s.size ≤ 1000) : RdEnd s := by
  by_cases hi : Lib.indexByte s.data.toList 32 = -1
  · exact Or.inr fun w hI hE => read_none s hs hi w hI hE
  have hge := Lib.indexByte_ge s.data.toList 32
  obtain ⟨k, hidx⟩ : ∃ k : Nat, Lib.indexByte s.data.toList 32 = (k : Int) := ⟨(Lib.indexByte s.data.toList 32).toNat, by omega⟩
  have hat := (Lib.indexByte_some hidx).1
  have hk : k + 1 ≤ s.size := by
    have := (List.getElem?_eq_some_iff.1 hat).1
    rw [szL] at this
    omega
  obtain ⟨t, ht⟩ : ∃ t, s.extract 0 k = t := ⟨_, rfl⟩
  obtain ⟨u, hu⟩ : ∃ u, s.extract (k + 1) s.size = u := ⟨_, rfl⟩
  have ht1 : t.size ≤ 1000 := by rw [← ht, ByteArray.size_extract]; omega
  have hu1 : u.size ≤ 1000000 := by rw [← hu, ByteArray.size_extract]; omega
  obtain ⟨A, B0, f, hc⟩ : ∃ A B0 f, Lib.cut t.data.toList [46, 46] = (A, B0, f) := ⟨_, _, _, rfl⟩
  have hcl := cut_len t.data.toList [46, 46]
  rw [hc, szL] at hcl
  dsimp only at hcl
  have ha : (bs A).size ≤ 1000000 := by rw [bs_size]; omega
  have hb : (bs B0).size ≤ 1000000 := by rw [bs_size]; omega
  have hcut : ∀ W, (∃ m : Int, W.cell? ⟨19, 0, none⟩ = some (.int .i64 m)) → Calls Tryz.prog 34 #[.string t, .string ⟨#[46, 46]⟩] W fun e w' => e = .returned (.tuple #[.string (bs A), .string (bs B0), .bool f]) ∧ Below W.heap.size W w' := fun W hm => by
    refine cut_call t ⟨#[46, 46]⟩ (bs A) (bs B0) f (by omega) ?_ W hm
    rw [bs_dl, bs_dl]
    exact hc
  generalize bs A = a at ha hcut
  generalize bs B0 = b at hb hcut
  clear hc hcl hat hge hi
  obtain ⟨x, hA⟩ := parseInt16_all a ha
  obtain ⟨y, hB⟩ := parseInt16_all b hb
  obtain ⟨v, hV⟩ := atoi_all u hu1
  cases f with
  | true =>
    rcases hA with ⟨hx1, hx2, hA⟩ | hA
    · rcases hB with ⟨hy1, hy2, hB⟩ | hB
      · rcases hV with ⟨hv1, hv2, hV⟩ | hV
        · by_cases hxn : x < 0
          · exact Or.inr fun w hI hE => read_tx s t a b b u k hs hk hidx ht hu hcut x y v hA hB hV hx1 hx2 hy1 hy2 hxn w hI hE
          by_cases hyn : y < 0
          · exact Or.inr fun w hI hE => read_ty s t a b b u k hs hk hidx ht hu hcut x y v hA hB hV hx1 hx2 hy1 hy2 hxn hyn w hI hE
          by_cases gm : (if (a.size : Int) < (b.size : Int) then (b.size : Int) else (a.size : Int)) > 6
          · exact Or.inr fun w hI hE => read_tm s t a b b u k hs hk hidx ht hu hcut x y v hA hB hV hx1 hx2 hy1 hy2 hxn hyn gm w hI hE
          by_cases gl : (s.size : Int) - k > 8
          · exact Or.inr fun w hI hE => read_tl s t a b b u k hs hk hidx ht hu hcut x y v hA hB hV hx1 hx2 hy1 hy2 hxn hyn gm gl w hI hE
          have hw : InW (x, y, v) := ⟨by show 0 ≤ x; omega, hx2, by show 0 ≤ y; omega, hy2, hv1, hv2⟩
          have CL := fun W ht hp => lineW_any (x, y, v) hw W ht hp
          by_cases hL : bs (lineR (x, y, v)) = s
          · rw [hL] at CL
            exact Or.inl ⟨(x, y, v), hw, hL, fun w hI hE => read_tg s t a b b u k hs hk hidx ht hu hcut x y v hA hB hV hx1 hx2 hy1 hy2 hxn hyn gm gl CL w hI hE⟩
          · exact Or.inr fun w hI hE => read_tn s t a b b u k hs hk hidx ht hu hcut x y v hA hB hV hx1 hx2 hy1 hy2 hxn hyn gm gl _ CL hL w hI hE
        · exact Or.inr fun w hI hE => read_tv s t a b b u k hs hk hidx ht hu hcut x y v hA hB hV hx1 hx2 hy1 hy2 w hI hE
      · rcases hV with ⟨hv1, hv2, hV⟩ | hV
        · exact Or.inr fun w hI hE => read_tb s t a b b u k hs hk hidx ht hu hcut x y v hA hB hV hx1 hx2 w hI hE
        · exact Or.inr fun w hI hE => read_tbv s t a b b u k hs hk hidx ht hu hcut x y v hA hB hV hx1 hx2 w hI hE
    · rcases hB with ⟨hy1, hy2, hB⟩ | hB
      · rcases hV with ⟨hv1, hv2, hV⟩ | hV
        · exact Or.inr fun w hI hE => read_tab s t a b b u k hs hk hidx ht hu hcut x y v hA hB hV w hI hE
        · exact Or.inr fun w hI hE => read_tabv s t a b b u k hs hk hidx ht hu hcut x y v hA hB hV w hI hE
      · rcases hV with ⟨hv1, hv2, hV⟩ | hV
        · exact Or.inr fun w hI hE => read_ta s t a b b u k hs hk hidx ht hu hcut x y v hA hB hV w hI hE
        · exact Or.inr fun w hI hE => read_tav s t a b b u k hs hk hidx ht hu hcut x y v hA hB hV w hI hE
  | false =>
    rcases hA with ⟨hx1, hx2, hA⟩ | hA
    · rcases hV with ⟨hv1, hv2, hV⟩ | hV
      · by_cases hxn : x < 0
        · exact Or.inr fun w hI hE => read_fx s t a b b u k hs hk hidx ht hu hcut x y v hA hV hx1 hx2 hxn w hI hE
        by_cases gm : (a.size : Int) > 6
        · exact Or.inr fun w hI hE => read_fm s t a b b u k hs hk hidx ht hu hcut x y v hA hV hx1 hx2 hxn gm w hI hE
        by_cases gl : (s.size : Int) - k > 8
        · exact Or.inr fun w hI hE => read_fl s t a b b u k hs hk hidx ht hu hcut x y v hA hV hx1 hx2 hxn gm gl w hI hE
        have hw : InW (x, x, v) := ⟨by show 0 ≤ x; omega, hx2, by show 0 ≤ x; omega, hx2, hv1, hv2⟩
        have CL := fun W ht hp => lineW_any (x, x, v) hw W ht hp
        by_cases hL : bs (lineR (x, x, v)) = s
        · rw [hL] at CL
          exact Or.inl ⟨(x, x, v), hw, hL, fun w hI hE => read_fg s t a b b u k hs hk hidx ht hu hcut x y v hA hV hx1 hx2 hxn gm gl CL w hI hE⟩
        · exact Or.inr fun w hI hE => read_fn s t a b b u k hs hk hidx ht hu hcut x y v hA hV hx1 hx2 hxn gm gl _ CL hL w hI hE
      · exact Or.inr fun w hI hE => read_fv s t a b b u k hs hk hidx ht hu hcut x y v hA hV hx1 hx2 w hI hE
    · rcases hV with ⟨hv1, hv2, hV⟩ | hV
      · exact Or.inr fun w hI hE => read_fa s t a b b u k hs hk hidx ht hu hcut x y v hA hV w hI hE
      · exact Or.inr fun w hI hE => read_fav s t a b b u k hs hk hidx ht hu hcut x y v hA hV w hI hE
end Go.Proofs.YthggpjiabklekaaGreatDoor
