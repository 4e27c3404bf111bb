/- RangesFull: the law's walk. -/
import Derived.Test.YthggpjiabklekaaGreatDoorBm
namespace Go.Proofs.YthggpjiabklekaaGreatDoor
set_option linter.unusedSimpArgs false
set_option linter.unusedVariables false
open Go.RowKit Go.Lib

/-- The law's ranges: one rune by the next but one. -/
def fullL (n : Nat) : List Rg := (List.range n).map fun i : Nat => (2 * (i : Int), 2 * (i : Int), (i : Int))
theorem fullL_length (n : Nat) : (fullL n).length = n := by simp [fullL]
theorem fullL_succ (n : Nat) : fullL (n + 1) = fullL n ++ [(2 * (n : Int), 2 * (n : Int), (n : Int))] := by unfold fullL; rw [List.range_succ, List.map_append]; rfl
theorem fullL_tab (n : Nat) (hn : n ≤ 2000) : Tab (-1) (fullL n) := by
  rw [tab_pw]
  constructor
  · intro x hx
    obtain ⟨i, hi, rfl⟩ := List.mem_map.1 hx
    have := List.mem_range.1 hi
    refine ⟨decide_eq_true ?_, ?_⟩
    · dsimp only; omega
    · dsimp only; omega
  · unfold fullL
    rw [List.pairwise_map]
    refine List.Pairwise.imp ?_ (List.pairwise_lt_range (n := n))
    intro a b hab
    dsimp only
    omega
theorem clash_none : ∀ (r pre : List Rg) (i : Nat), Tab (-1) (pre ++ r) → clashL pre r i = none
  | [], _, _, _ => rfl
  | x :: r, pre, i, hT => by
    have hp := ((tab_pw _ _).1 hT).2
    rw [List.pairwise_append] at hp
    have hn : ¬ pre.any (hits x) = true := by
      intro h
      rw [List.any_eq_true] at h
      obtain ⟨y, hy, h⟩ := h
      have h1 := of_decide_eq_true h
      have h2 := hp.2.2 y hy x List.mem_cons_self
      omega
    rw [clashL, if_neg hn]
    exact clash_none r (pre ++ [x]) (i + 1) (by rw [List.append_assoc]; exact hT)
/-- A table is built as it is. -/
theorem bldE_tab (p : List Rg) (hT : Tab (-1) p) (hl : p.length ≤ 2000) : bldE p = none := by
  have hb := (badL_none p 0).2 (fun x hx => (((tab_pw p _).1 hT).1 x hx).1)
  unfold bldE
  rw [if_neg (by omega), hb]
  simp only [clash_none p [] 0 hT]
theorem checkS_tab (p : List Rg) (hT : Tab (-1) p) (hl : p.length ≤ 2000) : checkS p = none := by
  unfold checkS
  rw [if_neg (by omega), (tab_of p (-1) 0).2 hT]
theorem own_slice3 {w : World} {base n : Nat} {v : Value} {xs : List Value} (h : w.ownsRow base 28 3 v n xs) : ∃ A c, v = .slice A n c := by
  rcases h.2 with ⟨rfl, h0⟩ | ⟨g, cap, cur, rfl, _⟩
  · exact ⟨none, 0, by rw [h0]⟩
  · exact ⟨_, _, rfl⟩
theorem own_lies {w : World} {base : Nat} {v : Value} {p : List Rg} (h : w.ownsRow base 28 3 v p.length (cells3 p)) : ∃ A c, v = .slice A p.length c ∧ p.length ≤ c ∧ Lies w A p := by
  rcases h.2 with ⟨rfl, h0⟩ | ⟨g, cap, cur, rfl, hb, hg, h1, h2, h3, h4⟩
  · exact ⟨none, 0, by rw [h0], by omega, fun hp => by omega⟩
  · refine ⟨_, _, rfl, h1, fun hp => ⟨_, rfl, fun j hj => ?_⟩⟩
    obtain ⟨c0, c1, c2⟩ := cells3_at p j hj
    refine ⟨?_, ?_, ?_⟩
    · rw [Addr.add_lit, Nat.zero_add, blk_cell hg, ← c0, ← h4, List.getElem?_take_of_lt (by omega), Array.getElem?_toList]
    · rw [Addr.add_lit, Nat.zero_add, blk_cell hg, ← c1, ← h4, List.getElem?_take_of_lt (by omega), Array.getElem?_toList]
    · rw [Addr.add_lit, Nat.zero_add, blk_cell hg, ← c2, ← h4, List.getElem?_take_of_lt (by omega), Array.getElem?_toList]
end Go.Proofs.YthggpjiabklekaaGreatDoor
namespace Go.Proofs.YthggpjiabklekaaGreatDoor.PRg
set_option linter.constructorNameAsVariable false
open Go.RowKit Go.Lib Go.Proofs.YthggpjiabklekaaGreatDoorW.PrintWords Go.Proofs.YthggpjiabklekaaGreatDoorW.PrintLast Go.Proofs.YthggpjiabklekaaGreatDoorW.PrintMore

theorem rows_ofF {w : World} {base : Nat} {v : Value} (l : List S28) (hl : l.length ≤ 2000) (h : w.ownsRow base 28 3 v l.length (cells3 (rgs l))) : ∃ A c, v = .slice A l.length c ∧ l.length ≤ c ∧ Kd.C k28 w A l.length l := by
  rcases h.2 with ⟨e, h0⟩ | ⟨g, cap, cur, e, h1, h2, h3, h4, h5, h6⟩
  · have hn : l = [] := List.length_eq_zero_iff.1 h0
    subst hn
    exact ⟨none, 0, e, Nat.le_refl _, Kd.C_nil _ _⟩
  · refine ⟨some ⟨g, 0, none⟩, cap, e, h3, ⟨rfl, by first | omega | (unfold maxLen; omega), fun _ => ⟨_, rfl, fun j p hp => ⟨[.int .i32 p.f0, .int .i32 p.f1, .int .i64 p.f2], rfl, k28_mk w p, fun i u hu => ?_⟩⟩⟩⟩
    subst e
    have hj : j < l.length := (List.getElem?_eq_some_iff.1 hp).1
    have hpe : l[j] = p := (List.getElem?_eq_some_iff.1 hp).2
    have hj' : j < (rgs l).length := by rw [rgs_length]; exact hj
    have eg : (rgs l)[j] = (p.f0, p.f1, p.f2) := by rw [← hpe]; simp [rgs]
    obtain ⟨c1, c2, c3⟩ := cells3_at (rgs l) j hj'
    rw [eg] at c1 c2 c3
    match i, hu with
    | 0, hu =>
      obtain rfl : Value.int .i32 p.f0 = u := by simpa using hu
      have h := h.cellAt (j * 3) (by omega); rw [c1] at h; rw [addr0]; exact h
    | 1, hu =>
      obtain rfl : Value.int .i32 p.f1 = u := by simpa using hu
      have h := h.cellAt (j * 3 + 1) (by omega); rw [c2] at h; rw [addr0]; exact h
    | 2, hu =>
      obtain rfl : Value.int .i64 p.f2 = u := by simpa using hu
      have h := h.cellAt (j * 3 + 2) (by omega); rw [c3] at h; rw [addr0]; exact h
def fullS (n : Nat) : List S28 := (List.range n).map fun i : Nat => ⟨2 * (i : Int), 2 * (i : Int), (i : Int)⟩
theorem fullS_rgs (n : Nat) : rgs (fullS n) = fullL n := by unfold rgs fullS fullL; rw [List.map_map]; rfl
theorem fullS_length (n : Nat) : (fullS n).length = n := by simp [fullS]
theorem cnt_ones : ∀ (l : List S28) (acc : Int), (∀ x ∈ l, x.f0 = x.f1 ∧ 0 ≤ x.f0 ∧ x.f0 ≤ 1000000) → 0 ≤ acc → acc + (l.length : Int) ≤ 1000000 → cntL acc l = acc + (l.length : Int)
  | [], acc, _, _, _ => by simp [cntL]
  | x :: r, acc, h, h0, h1 => by
    have hx := h x List.mem_cons_self
    simp only [List.length_cons] at h1
    have e1 : wrap64 x.f1 = x.f1 := by rw [wrap64]; omega
    have e0 : wrap64 x.f0 = x.f0 := by rw [wrap64]; omega
    have e2 : wrap64 (x.f1 - x.f0) = 0 := by rw [wrap64]; omega
    have e3 : wrap64 (0 + 1) = 1 := by rw [wrap64]; omega
    have e4 : wrap64 (acc + 1) = acc + 1 := by rw [wrap64]; omega
    rw [cntL, e1, e0, e2, e3, e4, cnt_ones r (acc + 1) (fun y hy => h y (List.mem_cons_of_mem _ hy)) (by omega) (by omega), List.length_cons]
    omega
theorem count_full (n : Nat) (hn : n ≤ 2000) : ranges_Count.f 3000 (fullS n) = some (n : Int) := by
  unfold ranges_Count.f
  have hl := fullS_length n
  have h := count_loop (fullS n) (by omega) (fullS n).length 0 3000 0 (by omega) (by omega)
  rw [List.drop_zero, cnt_ones (fullS n) 0 (fun x hx => by
    obtain ⟨i, hi, rfl⟩ := List.mem_map.1 hx
    have := List.mem_range.1 hi
    refine ⟨rfl, ?_, ?_⟩ <;> (dsimp only; omega)) (by omega) (by omega), Int.zero_add, hl] at h
  rw [hl]
  exact h
set_option maxRecDepth 100000 in
set_option maxHeartbeats 4000000 in
theorem full_any (b : Bool) (w : World) (hI : RInv w) :
    Calls Tryz.prog 9 #[.bool b] w fun e w' => e = .returned (.bool true) ∧ Below w.heap.size w w' := by
  have C := Lib.hid (awake_any w hI)
  obtain ⟨i0, hi0, hz0, hz1, hz2⟩ := info_parts infoR28
  have HI := Lib.hid hI
  clear hI
  cases b with
  | true =>
    go_enter Tryz.func9, Tryz.ntmps9
    go_wp2_with (go_at_call 10; refine C.out.mono ?_; rintro e w1 ⟨rfl, hb⟩; have HB1 := Lib.hid hb; clear hb)
    go_loopw [4, 5] (fun v i wr => ∃ k : Nat, k ≤ 2001 ∧ i = .int .i64 k ∧ wr.ownsRow w1.heap.size 28 3 v k (cells3 (fullL k)) ∧ Below w1.heap.size w1 wr) (fun _ i _ => 2001 - (RowKit.intOf i).toNat)
    case atStart => exact ⟨0, by omega, rfl, World.ownsRow_nil _ _ _ _, Below.refl _ _⟩
    case round =>
      obtain ⟨k, hk, rfl, ho, hB⟩ := hrel
      obtain ⟨xs, hxs⟩ : ∃ xs, cells3 (fullL k) = xs := ⟨_, rfl⟩
      have HB := Lib.hid hB
      by_cases hkl : k < 2001
      · rw [hxs] at ho
        have HO := Lib.hid ho
        have HXS := Lib.hid hxs
        clear ho hxs hB
        have hkl' : (k : Int) < 2001 := by omega
        have hw1 : IntKind.i64.wrap (2 * (k : Int)) = 2 * (k : Int) := by rw [IntKind.wrap_i64]; omega
        have hw2 : IntKind.i32.wrap (2 * (k : Int)) = 2 * (k : Int) := by rw [IntKind.wrap_i32]; omega
        go_wp2_with (at_builtin; refine wpList_append_own _ rfl _ _ 22 rfl w1.heap.size 28 i0 _ 3 16 Tryz.underlying22 hi0 hz0 hz1 hz2 rfl (by decide) u4 k xs rfl (HO.out.alloc _) ⟨wr.heap.size, 0, none⟩ 1 1 [.int .i32 (2 * (k : Int)), .int .i32 (2 * (k : Int)), .int .i64 (k : Int)] rfl rfl ?c1 ?c2 ?c3 ?c4 ?c5 ?_)
        case c1 =>
          have h := Go.Proofs.YthggpjiabklekaaGreatDoor.blk_new wr (.cells #[.int .i32 (2 * (k : Int)), .int .i32 (2 * (k : Int)), .int .i64 (k : Int)] 28)
          exact World.news_of_block (cs := #[.int .i32 (2 * (k : Int)), .int .i32 (2 * (k : Int)), .int .i64 (k : Int)]) (t := 28) (fr := (0, 0)) h
        case c2 => simp [Value.oneCell']
        case c3 => simp only [maxLen]; omega
        case c4 => omega
        case c5 => have h1 := HB.out.size; simp; omega
        intro v' w10 hown' hgrow _
        have hrow : ∀ g, u4.ownBlock = some g → w1.heap.size ≤ g := fun g hg => (HO.out.lt g hg).1
        have hB10 : Below w1.heap.size w1 w10 := Below.grown (HB.out.alloc HB.out.size _) hgrow (by have := HB.out.size; simp; omega) hrow
        have HB10 := Lib.hid hB10
        have HO10 := Lib.hid hown'
        clear hrow hB10 hgrow hown'
        go_wp2
        go_roundw
        case rel =>
          refine ⟨k + 1, by omega, by go_num, ?_, HB10.out⟩
          rw [fullL_succ, Go.Proofs.YthggpjiabklekaaGreatDoor.cells3_append, HXS.out]
          exact HO10.out
        case measure => simp [RowKit.intOf]; omega
      · have hkl' : ¬ (k : Int) < 2001 := by omega
        have hke : k = 2001 := by omega
        subst hke
        have hfl := fullL_length 2001
        have ho2 : wr.ownsRow w1.heap.size 28 3 u4 (fullL 2001).length (cells3 (fullL 2001)) := by rw [hfl]; exact ho
        obtain ⟨A, c, rfl, hc, hA⟩ := own_lies ho2
        have HR := Lib.hid (HI.out.below (Go.Proofs.YthggpjiabklekaaGreatDoor.below_to HB1.out hB))
        have HBW := Lib.hid (Go.Proofs.YthggpjiabklekaaGreatDoor.below_to HB1.out hB)
        have CB := Lib.hid (build_any A c (fullL 2001) wr HR.out.is hA)
        have CK := Lib.hid (fun x (hb : Below wr.heap.size wr x) => check_full A c (fullL 2001) x (HR.out.below hb).is (by rw [hfl]; omega))
        have hE : bldE (fullL 2001) = some (0, 18) := by unfold bldE; rw [if_pos (by rw [hfl]; omega)]
        rw [hfl] at CB CK
        have HE := Lib.hid hE
        have HFL := Lib.hid hfl
        clear ho ho2 hA hE hB hxs hc hfl
        rw [HFL.out]
        go_wp2_with (first
          | (go_at_call 19; refine (is_any v4 (some (0, 18)) 0 18 (by decide) (by decide) w4 HV4.out (HR.out.below HB4.out).is).mono ?_; rintro e w5 ⟨rfl, hb⟩; have HB5 := Lib.hid (Go.Proofs.YthggpjiabklekaaGreatDoor.below_to HB4.out hb); rw [show isB (some (0, 18)) 0 18 = true from rfl]; clear hb)
          | (go_at_call 26; refine (CK.out _ HB3.out).mono ?_; rintro e w4 ⟨v4, rfl, hf4, hb⟩; have HV4 := Lib.hid hf4; have HB4 := Lib.hid (Go.Proofs.YthggpjiabklekaaGreatDoor.below_to HB3.out hb); clear hf4 hb)
          | (go_at_call 19; refine (is_any er (some (0, 18)) 0 18 (by decide) (by decide) w2 HF2.out (HR.out.below HB2.out).is).mono ?_; rintro e w3 ⟨rfl, hb⟩; have HB3 := Lib.hid (Go.Proofs.YthggpjiabklekaaGreatDoor.below_to HB2.out hb); rw [show isB (some (0, 18)) 0 18 = true from rfl]; clear hb)
          | (go_at_call 24; refine CB.out.mono ?_; rintro e w2 ⟨v, er, rfl, hf, -, hv, hb⟩; obtain rfl := hv (by rw [HE.out]; simp); rw [HE.out] at hf; have HF2 := Lib.hid hf; have HB2 := Lib.hid hb; clear hf hv hb))
        go_ret
        exact ⟨by first | rfl | simp, Go.Proofs.YthggpjiabklekaaGreatDoor.below_to HBW.out HB5.out⟩
  | false =>
    go_enter Tryz.func9, Tryz.ntmps9
    go_wp2_with (go_at_call 10; refine C.out.mono ?_; rintro e w1 ⟨rfl, hb⟩; have HB1 := Lib.hid hb; clear hb)
    go_loopw [4, 5] (fun v i wr => ∃ k : Nat, k ≤ 2000 ∧ i = .int .i64 k ∧ wr.ownsRow w1.heap.size 28 3 v k (cells3 (fullL k)) ∧ Below w1.heap.size w1 wr) (fun _ i _ => 2000 - (RowKit.intOf i).toNat)
    case atStart => exact ⟨0, by omega, rfl, World.ownsRow_nil _ _ _ _, Below.refl _ _⟩
    case round =>
      obtain ⟨k, hk, rfl, ho, hB⟩ := hrel
      obtain ⟨xs, hxs⟩ : ∃ xs, cells3 (fullL k) = xs := ⟨_, rfl⟩
      have HB := Lib.hid hB
      by_cases hkl : k < 2000
      · rw [hxs] at ho
        have HO := Lib.hid ho
        have HXS := Lib.hid hxs
        clear ho hxs hB
        have hkl' : (k : Int) < 2000 := by omega
        have hw1 : IntKind.i64.wrap (2 * (k : Int)) = 2 * (k : Int) := by rw [IntKind.wrap_i64]; omega
        have hw2 : IntKind.i32.wrap (2 * (k : Int)) = 2 * (k : Int) := by rw [IntKind.wrap_i32]; omega
        go_wp2_with (at_builtin; refine wpList_append_own _ rfl _ _ 22 rfl w1.heap.size 28 i0 _ 3 16 Tryz.underlying22 hi0 hz0 hz1 hz2 rfl (by decide) u4 k xs rfl (HO.out.alloc _) ⟨wr.heap.size, 0, none⟩ 1 1 [.int .i32 (2 * (k : Int)), .int .i32 (2 * (k : Int)), .int .i64 (k : Int)] rfl rfl ?c1 ?c2 ?c3 ?c4 ?c5 ?_)
        case c1 =>
          have h := Go.Proofs.YthggpjiabklekaaGreatDoor.blk_new wr (.cells #[.int .i32 (2 * (k : Int)), .int .i32 (2 * (k : Int)), .int .i64 (k : Int)] 28)
          exact World.news_of_block (cs := #[.int .i32 (2 * (k : Int)), .int .i32 (2 * (k : Int)), .int .i64 (k : Int)]) (t := 28) (fr := (0, 0)) h
        case c2 => simp [Value.oneCell']
        case c3 => simp only [maxLen]; omega
        case c4 => omega
        case c5 => have h1 := HB.out.size; simp; omega
        intro v' w10 hown' hgrow _
        have hrow : ∀ g, u4.ownBlock = some g → w1.heap.size ≤ g := fun g hg => (HO.out.lt g hg).1
        have hB10 : Below w1.heap.size w1 w10 := Below.grown (HB.out.alloc HB.out.size _) hgrow (by have := HB.out.size; simp; omega) hrow
        have HB10 := Lib.hid hB10
        have HO10 := Lib.hid hown'
        clear hrow hB10 hgrow hown'
        go_wp2
        go_roundw
        case rel =>
          refine ⟨k + 1, by omega, by go_num, ?_, HB10.out⟩
          rw [fullL_succ, Go.Proofs.YthggpjiabklekaaGreatDoor.cells3_append, HXS.out]
          exact HO10.out
        case measure => simp [RowKit.intOf]; omega
      · have hkl' : ¬ (k : Int) < 2000 := by omega
        have hke : k = 2000 := by omega
        subst hke
        have hfl := fullL_length 2000
        have ho2 : wr.ownsRow w1.heap.size 28 3 u4 (fullL 2000).length (cells3 (fullL 2000)) := by rw [hfl]; exact ho
        obtain ⟨A, c, rfl, hc, hA⟩ := own_lies ho2
        have HR := Lib.hid (HI.out.below (Go.Proofs.YthggpjiabklekaaGreatDoor.below_to HB1.out hB))
        have HBW := Lib.hid (Go.Proofs.YthggpjiabklekaaGreatDoor.below_to HB1.out hB)
        have CB := Lib.hid (build_any A c (fullL 2000) wr HR.out.is hA)
        have CK := Lib.hid (fun x (hb : Below wr.heap.size wr x) => check_small A c (fullL 2000) x (HR.out.below hb).is (hA.below hb) (by rw [hfl]; omega))
        have hE : bldE (fullL 2000) = none := bldE_tab _ (fullL_tab 2000 (by omega)) (by rw [hfl]; omega)
        have hS : checkS (fullL 2000) = none := checkS_tab _ (fullL_tab 2000 (by omega)) (by rw [hfl]; omega)
        have hsl := fullS_length 2000
        have ho3 : wr.ownsRow w1.heap.size 28 3 (.slice A (fullL 2000).length c) (fullS 2000).length (cells3 (rgs (fullS 2000))) := by rw [fullS_rgs, hsl]; exact ho
        obtain ⟨A', c', hAc, hc', hK⟩ := rows_ofF (fullS 2000) (by omega) ho3
        obtain ⟨rfl, rfl⟩ : A' = A ∧ c' = c := by injection hAc with e1 e2 e3; exact ⟨e1.symm, e3.symm⟩
        have CC := Lib.hid (fun x (hb : Below wr.heap.size wr x) => ranges_Count.calls 3000 A' c' (fullS 2000) 2000 x (Kd.C_below hK hb) hc' (count_full 2000 (by omega)))
        rw [hfl] at CB CK
        rw [hsl] at CC
        rw [hS] at CK
        have HE := Lib.hid hE
        have HFL := Lib.hid hfl
        clear ho ho2 ho3 hA hE hS hB hxs hc hfl hsl hK hAc hc'
        rw [HFL.out]
        go_wp2_with (first
          | (go_at_call 14; refine (CC.out _ HB3.out).mono ?_; rintro e w4 ⟨rfl, hb⟩; have HB4 := Lib.hid (Go.Proofs.YthggpjiabklekaaGreatDoor.below_to HB3.out hb); clear hb)
          | (go_at_call 26; refine (CK.out _ HB2.out).mono ?_; rintro e w3 ⟨v3, rfl, hf3, hb⟩; obtain rfl : v3 = .nilIface := hf3; have HB3 := Lib.hid (Go.Proofs.YthggpjiabklekaaGreatDoor.below_to HB2.out hb); clear hb)
          | (go_at_call 24; refine CB.out.mono ?_; rintro e w2 ⟨v, er, rfl, hf, ho, -, hb⟩; have hv := ho HE.out; rw [HE.out] at hf; obtain rfl : er = .nilIface := hf; obtain ⟨A2, c2, rfl⟩ := own_slice3 hv; rw [HFL.out]; have HB2 := Lib.hid hb; clear ho hv hb))
        go_ret
        exact ⟨by first | rfl | simp, Go.Proofs.YthggpjiabklekaaGreatDoor.below_to HBW.out HB4.out⟩
end Go.Proofs.YthggpjiabklekaaGreatDoor.PRg
