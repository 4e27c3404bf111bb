/- ranges.Build, plain: what it tells. -/
import Derived.Test.YthggpjiabklekaaGreatDoorFd
import Derived.Test.YthggpjiabklekaaGreatDoorCl
import Derived.LoopTactic
import Derived.Deep.RegionHeld3
import Derived.Lib.Overlaps
import Derived.Lib.AppendZerosOnto
import Derived.Laws.IdiomCopy
import Derived.Laws.Externs
import Derived.Test.YthggpjiabklekaaGreatDoorFe
import Derived.Test.YthggpjiabklekaaGreatDoorKt
import Derived.OwnWalk
namespace Go.Proofs.YthggpjiabklekaaGreatDoor
set_option linter.unusedSimpArgs false
set_option linter.unusedVariables false
/-- The first range that may not be. -/
def badL : List Rg → Nat → Option Nat
  | [], _ => none
  | x :: r, i => if mayB x = true then badL r (i + 1) else some i
/-- Have two ranges a rune together? -/
def hits (x y : Rg) : Bool := decide (y.1 ≤ x.2.1 ∧ x.1 ≤ y.2.1)
/-- The first range that has a rune of one ahead of it. -/
def clashL : List Rg → List Rg → Nat → Option Nat
  | _, [], _ => none
  | pre, x :: r, i => if pre.any (hits x) = true then some i else clashL (pre ++ [x]) r (i + 1)
/-- What Build tells. -/
def bldE (p : List Rg) : Option (Int × Nat) :=
  if 2000 < p.length then some (0, 18) else match badL p 0 with
    | some i => some ((i : Int), 4)
    | none => match clashL [] p 0 with
      | some i => some ((i : Int), 7)
      | none => none
theorem badL_none : ∀ (p : List Rg) (i : Nat), badL p i = none ↔ ∀ x ∈ p, mayB x = true
  | [], _ => by simp [badL]
  | x :: r, i => by
    rw [badL]
    by_cases h : mayB x = true
    · rw [if_pos h, badL_none r (i + 1)]; simp [h]
    · rw [if_neg h]; simp [h]
theorem badL_skip : ∀ (a b : List Rg) (i : Nat), (∀ x ∈ a, mayB x = true) → badL (a ++ b) i = badL b (i + a.length)
  | [], b, i, _ => rfl
  | x :: r, b, i, h => by
    rw [List.cons_append, badL, if_pos (h x List.mem_cons_self), badL_skip r b (i + 1) (fun y hy => h y (List.mem_cons_of_mem _ hy)), List.length_cons]
    congr 1
    omega
/-- A table, by its neighbours. -/
theorem tab_pw : ∀ (p : List Rg) (la : Int), Tab la p ↔ (∀ x ∈ p, mayB x = true ∧ la < x.1) ∧ p.Pairwise (fun a b => a.2.1 < b.1)
  | [], _ => by simp [Tab]
  | x :: r, la => by
    rw [Tab, tab_pw r x.2.1, List.pairwise_cons]
    constructor
    · rintro ⟨h1, h2, h3, h4⟩
      have := tab_le h1
      refine ⟨fun y hy => ?_, fun y hy => (h3 y hy).2, h4⟩
      rcases List.mem_cons.1 hy with rfl | hy
      · exact ⟨h1, h2⟩
      · have := h3 y hy; exact ⟨this.1, by omega⟩
    · rintro ⟨h1, h2, h3⟩
      exact ⟨(h1 x List.mem_cons_self).1, (h1 x List.mem_cons_self).2, fun y hy => ⟨(h1 y (List.mem_cons_of_mem _ hy)).1, h2 y hy⟩, h3⟩
theorem pos_lt (p : List Rg) (hT : Tab (-1) p) (r : Int) (j : Nat) (hj : j < p.length) : j < posS p r ↔ p[j].2.1 < r := by
  have h := count_at (fun i => decide (r ≤ (p.getD i z3).2.1)) p.length (fun a b hab hb h => by
    rw [decide_eq_true_eq] at h ⊢
    exact tab_mono p hT r a b hab hb h) j hj
  unfold posS
  rw [← h, decide_eq_false_iff_not, getD_at p j hj]
  omega
/-- Where the search stands, a clash is seen. -/
theorem clash_at (p : List Rg) (hT : Tab (-1) p) (x : Rg) (k : Nat) (hk : posS p x.1 = k) : (∃ h : k < p.length, p[k].1 ≤ x.2.1) ↔ p.any (hits x) = true := by
  constructor
  · rintro ⟨h, h1⟩
    rw [List.any_eq_true]
    refine ⟨p[k], List.getElem_mem h, ?_⟩
    have h2 := not_congr (pos_lt p hT x.1 k h)
    unfold hits
    rw [decide_eq_true_eq]
    exact ⟨h1, by omega⟩
  · intro h
    rw [List.any_eq_true] at h
    obtain ⟨y, hy, h⟩ := h
    obtain ⟨j, hj, rfl⟩ := List.mem_iff_getElem.1 hy
    unfold hits at h
    rw [decide_eq_true_eq] at h
    have h2 := not_congr (pos_lt p hT x.1 j hj)
    have hkj : k ≤ j := by omega
    refine ⟨by omega, ?_⟩
    by_cases e : k = j
    · subst e; exact h.1
    · have h3 := tab_rise p (-1) hT k j (by omega) hj
      have h4 := (tab_ge p (-1) hT p[k] (List.getElem_mem (by omega))).2
      omega
/-- Where no clash is seen, the range is put there. -/
theorem put_at (p : List Rg) (hT : Tab (-1) p) (x : Rg) (hm : mayB x = true) (k : Nat) (hk : posS p x.1 = k) (hc : ¬ p.any (hits x) = true) : Tab (-1) (p.take k ++ x :: p.drop k) := by
  have hp := (tab_pw p _).1 hT
  have hle : k ≤ p.length := by rw [← hk]; exact posS_le p x.1
  have hx := of_decide_eq_true hm
  rw [tab_pw]
  constructor
  · intro y hy
    rcases List.mem_append.1 hy with hy | hy
    · exact hp.1 y (List.mem_of_mem_take hy)
    · rcases List.mem_cons.1 hy with rfl | hy
      · exact ⟨hm, by have := hx.1; omega⟩
      · exact hp.1 y (List.mem_of_mem_drop hy)
  · rw [List.pairwise_append, List.pairwise_cons]
    have hlt : ∀ a ∈ p.take k, a.2.1 < x.1 := fun a ha => by
      obtain ⟨j, hj, rfl⟩ := List.mem_iff_getElem.1 ha
      rw [List.length_take] at hj
      rw [List.getElem_take]
      exact (pos_lt p hT x.1 j (by omega)).1 (by omega)
    have hgt : ∀ b ∈ p.drop k, x.2.1 < b.1 := fun b hb => by
      obtain ⟨j, hj, rfl⟩ := List.mem_iff_getElem.1 hb
      rw [List.length_drop] at hj
      rw [List.getElem_drop]
      have h1 := not_congr (pos_lt p hT x.1 (k + j) (by omega))
      apply Classical.byContradiction
      intro h2
      refine hc ?_
      rw [List.any_eq_true]
      refine ⟨p[k + j], List.getElem_mem _, ?_⟩
      unfold hits
      rw [decide_eq_true_eq]
      omega
    refine ⟨hp.2.sublist (List.take_sublist _ _), ⟨hgt, hp.2.sublist (List.drop_sublist _ _)⟩, fun a ha b hb => ?_⟩
    rcases List.mem_cons.1 hb with rfl | hb
    · exact hlt a ha
    · have h1 := hlt a ha
      have h2 := hgt b hb
      have h3 := hx.2.1
      omega
theorem put_perm (p : List Rg) (x : Rg) (k : Nat) : (p.take k ++ x :: p.drop k).Perm (p ++ [x]) := by
  have h1 : (p.take k ++ x :: p.drop k).Perm (x :: (p.take k ++ p.drop k)) := List.perm_middle
  rw [List.take_append_drop] at h1
  exact h1.trans (List.perm_append_comm (l₁ := [x]) (l₂ := p))
/-- Sorted by the first rune, in one way alone. -/
theorem sorted_one : ∀ (h m : List Rg), h.Pairwise (fun a b => a.1 < b.1) → m.Pairwise (fun a b => a.1 ≤ b.1) → m.Perm h → m = h
  | [], m, _, _, hp => List.perm_nil.1 hp
  | x :: r, [], _, _, hp => by have := hp.length_eq; simp at this
  | x :: r, a :: m, hs, hm, hp => by
    rw [List.pairwise_cons] at hs hm
    have ha : a ∈ x :: r := hp.subset List.mem_cons_self
    have hx : x ∈ a :: m := hp.symm.subset List.mem_cons_self
    have e : a = x := by
      rcases List.mem_cons.1 ha with e | ha
      · exact e
      · have h1 := hs.1 a ha
        rcases List.mem_cons.1 hx with e | hx
        · exact e.symm
        · have h2 := hm.1 x hx; omega
    subst e
    rw [sorted_one r m hs.2 hm.2 hp.cons_inv]
theorem tab_lo (p : List Rg) (hT : Tab (-1) p) : p.Pairwise (fun a b => a.1 < b.1) := by
  have h := (tab_pw p _).1 hT
  refine h.2.imp_of_mem ?_
  intro a b ha hb hab
  have := tab_le (h.1 a ha).1
  omega
theorem any_perm {a b : List Rg} (h : a.Perm b) (f : Rg → Bool) : a.any f = b.any f := by
  cases hb : b.any f with
  | true =>
    rw [List.any_eq_true] at hb ⊢
    obtain ⟨x, hx, h2⟩ := hb
    exact ⟨x, h.symm.subset hx, h2⟩
  | false =>
    rw [List.any_eq_false] at hb ⊢
    intro x hx
    exact hb x (h.subset hx)
/-- The document's insertion. -/
def insR (x : Rg) : List Rg → List Rg
  | [] => [x]
  | y :: r => if x.1 < y.1 then x :: y :: r else y :: insR x r
theorem insR_perm (x : Rg) : ∀ (l : List Rg), (insR x l).Perm (l ++ [x])
  | [] => List.Perm.refl _
  | y :: r => by
    rw [insR]
    split
    · exact List.perm_append_comm (l₁ := [x]) (l₂ := y :: r)
    · exact (insR_perm x r).cons y
theorem insR_mem (x : Rg) (l : List Rg) (z : Rg) (h : z ∈ insR x l) : z = x ∨ z ∈ l := by
  have := (insR_perm x l).subset h
  rcases List.mem_append.1 this with h | h
  · exact .inr h
  · exact .inl (List.mem_singleton.1 h)
theorem insR_sorted (x : Rg) : ∀ (l : List Rg), l.Pairwise (fun a b => a.1 ≤ b.1) → (insR x l).Pairwise (fun a b => a.1 ≤ b.1)
  | [], _ => List.pairwise_singleton _ _
  | y :: r, h => by
    rw [List.pairwise_cons] at h
    rw [insR]
    split
    · rename_i hc
      rw [List.pairwise_cons, List.pairwise_cons]
      refine ⟨fun z hz => ?_, h⟩
      rcases List.mem_cons.1 hz with rfl | hz
      · omega
      · have := h.1 z hz; omega
    · rename_i hc
      rw [List.pairwise_cons]
      refine ⟨fun z hz => ?_, insR_sorted x r h.2⟩
      rcases insR_mem x r z hz with rfl | hz
      · omega
      · exact h.1 z hz
def sortR (p : List Rg) : List Rg := p.foldl (fun o x => insR x o) []
theorem sortR_snoc (p : List Rg) (x : Rg) : sortR (p ++ [x]) = insR x (sortR p) := by unfold sortR; rw [List.foldl_append]; rfl
theorem foldl_ins : ∀ (p o : List Rg), o.Pairwise (fun a b => a.1 ≤ b.1) → (p.foldl (fun o x => insR x o) o).Pairwise (fun a b => a.1 ≤ b.1) ∧ (p.foldl (fun o x => insR x o) o).Perm (o ++ p)
  | [], o, h => by rw [List.append_nil]; exact ⟨h, List.Perm.refl _⟩
  | x :: r, o, h => by
    obtain ⟨h1, h2⟩ := foldl_ins r (insR x o) (insR_sorted x o h)
    refine ⟨h1, h2.trans ?_⟩
    have := (insR_perm x o).append_right r
    rw [List.append_assoc] at this
    exact this
theorem sortR_ok (p : List Rg) : (sortR p).Pairwise (fun a b => a.1 ≤ b.1) ∧ (sortR p).Perm p := foldl_ins p [] List.Pairwise.nil
theorem sortR_len (p : List Rg) : (sortR p).length = p.length := (sortR_ok p).2.length_eq
/-- Without a clash the table is there: what has come in one by one. -/
theorem clash_tab : ∀ (r pre hv : List Rg) (i : Nat), (∀ x ∈ r, mayB x = true) → Tab (-1) hv → hv.Perm pre → clashL pre r i = none → ∃ hv', Tab (-1) hv' ∧ hv'.Perm (pre ++ r)
  | [], pre, hv, i, _, hT, hP, _ => ⟨hv, hT, by rw [List.append_nil]; exact hP⟩
  | x :: r, pre, hv, i, hm, hT, hP, hc => by
    rw [clashL] at hc
    split at hc
    · cases hc
    · rename_i hn
      have hn' : ¬ hv.any (hits x) = true := by rw [any_perm hP]; exact hn
      obtain ⟨hv', h1, h2⟩ := clash_tab r (pre ++ [x]) (hv.take (posS hv x.1) ++ x :: hv.drop (posS hv x.1)) (i + 1) (fun y hy => hm y (List.mem_cons_of_mem _ hy)) (put_at hv hT x (hm x List.mem_cons_self) _ rfl hn') ((put_perm hv x _).trans (hP.append_right [x])) hc
      exact ⟨hv', h1, by rw [List.append_assoc] at h2; exact h2⟩
theorem bld_ok (p : List Rg) (h : bldE p = none) : p.length ≤ 2000 ∧ badL p 0 = none ∧ clashL [] p 0 = none ∧ Tab (-1) (sortR p) := by
  unfold bldE at h
  split at h
  · cases h
  · rename_i hl
    cases hb : badL p 0 with
    | some i => rw [hb] at h; cases h
    | none =>
      rw [hb] at h
      cases hc : clashL [] p 0 with
      | some i => rw [hc] at h; cases h
      | none =>
        obtain ⟨hv, h1, h2⟩ := clash_tab p [] [] 0 ((badL_none p 0).1 hb) trivial (List.Perm.refl _) hc
        have h3 := sortR_ok p
        have e := sorted_one hv (sortR p) (tab_lo hv h1) h3.1 (h3.2.trans h2.symm)
        exact ⟨by omega, rfl, rfl, by rw [e]; exact h1⟩
/-- What is sorted otherwise is the same. -/
theorem sortR_eq (p m : List Rg) (h : bldE p = none) (hm : m.Pairwise (fun a b => a.1 ≤ b.1)) (hp : m.Perm p) : m = sortR p := by
  have h1 := (bld_ok p h).2.2.2
  exact sorted_one (sortR p) m (tab_lo _ h1) hm (hp.trans (sortR_ok p).2.symm)
end Go.Proofs.YthggpjiabklekaaGreatDoor

/- ranges.Build's order: by the first rune, then by the place. -/
namespace Go.Proofs.YthggpjiabklekaaGreatDoor
set_option linter.unusedSimpArgs false
set_option linter.unusedVariables false
open Go.RowKit Go.Lib Go.Sort

def cmp3 (a b : Int) : Int := if a < b then -1 else if b < a then 1 else 0
theorem isNaNR_any (a : Int) (w : World) : Calls Tryz.prog 66 #[.int .i32 a] w fun e w' => e = .returned (.bool false) ∧ w' = w := by
  go_enter Tryz.func66, Tryz.ntmps66
  go_wp2
  go_ret
  exact ⟨by simp, rfl⟩
theorem isNaNI_any (a : Int) (w : World) : Calls Tryz.prog 67 #[.int .i64 a] w fun e w' => e = .returned (.bool false) ∧ w' = w := by
  go_enter Tryz.func67, Tryz.ntmps67
  go_wp2
  go_ret
  exact ⟨by simp, rfl⟩
theorem cmpR_any (a b : Int) (w : World) : Calls Tryz.prog 47 #[.int .i32 a, .int .i32 b] w fun e w' => e = .returned (.int .i64 (cmp3 a b)) ∧ w' = w := by
  unfold cmp3
  by_cases h1 : a < b
  · go_enter Tryz.func47, Tryz.ntmps47
    go_wp2_with (go_at_call 66; refine (isNaNR_any _ _).mono ?_; rintro e w' ⟨rfl, rfl⟩)
    go_ret
    exact ⟨rfl, rfl⟩
  · by_cases h2 : b < a
    · go_enter Tryz.func47, Tryz.ntmps47
      go_wp2_with (go_at_call 66; refine (isNaNR_any _ _).mono ?_; rintro e w' ⟨rfl, rfl⟩)
      go_ret
      exact ⟨rfl, rfl⟩
    · go_enter Tryz.func47, Tryz.ntmps47
      go_wp2_with (go_at_call 66; refine (isNaNR_any _ _).mono ?_; rintro e w' ⟨rfl, rfl⟩)
      go_ret
      exact ⟨rfl, rfl⟩
theorem cmpI_any (a b : Int) (w : World) : Calls Tryz.prog 48 #[.int .i64 a, .int .i64 b] w fun e w' => e = .returned (.int .i64 (cmp3 a b)) ∧ w' = w := by
  unfold cmp3
  by_cases h1 : a < b
  · go_enter Tryz.func48, Tryz.ntmps48
    go_wp2_with (go_at_call 67; refine (isNaNI_any _ _).mono ?_; rintro e w' ⟨rfl, rfl⟩)
    go_ret
    exact ⟨rfl, rfl⟩
  · by_cases h2 : b < a
    · go_enter Tryz.func48, Tryz.ntmps48
      go_wp2_with (go_at_call 67; refine (isNaNI_any _ _).mono ?_; rintro e w' ⟨rfl, rfl⟩)
      go_ret
      exact ⟨rfl, rfl⟩
    · go_enter Tryz.func48, Tryz.ntmps48
      go_wp2_with (go_at_call 67; refine (isNaNI_any _ _).mono ?_; rintro e w' ⟨rfl, rfl⟩)
      go_ret
      exact ⟨rfl, rfl⟩
theorem or2_any (b : Nat) (c1 c2 : Int) (w : World) (h0 : w.cell? ⟨b, 0, none⟩ = some (.int .i64 c1)) (h1 : w.cell? ⟨b, 1, none⟩ = some (.int .i64 c2)) :
    Calls Tryz.prog 46 #[.slice (some ⟨b, 0, none⟩) 2 2] w fun e w' => e = .returned (.int .i64 (if c1 ≠ 0 then c1 else c2)) ∧ w' = w := by
  by_cases h : c1 = 0
  · subst h
    by_cases h2 : c2 = 0
    · subst h2
      go_enter Tryz.func46, Tryz.ntmps46
      go_wp2
      go_loop [8] (fun i => ∃ k : Nat, k ≤ 2 ∧ i = .int .i64 k) (fun i => 2 - (RowKit.intOf i).toNat)
      case atStart => exact ⟨0, by omega, rfl⟩
      case round =>
        obtain ⟨k, hk, rfl⟩ := hrel
        have h3 : k = 0 ∨ k = 1 ∨ k = 2 := by omega
        rcases h3 with rfl | rfl | rfl
        · go_wp2
          go_round
          case rel => exact ⟨1, by omega, by go_num⟩
          case measure => simp [RowKit.intOf]
        · go_wp2
          go_round
          case rel => exact ⟨2, by omega, by go_num⟩
          case measure => simp [RowKit.intOf]
        · go_wp2
          go_ret
          exact ⟨rfl, rfl⟩
    · go_enter Tryz.func46, Tryz.ntmps46
      go_wp2
      go_loop [8] (fun i => ∃ k : Nat, k ≤ 1 ∧ i = .int .i64 k) (fun i => 2 - (RowKit.intOf i).toNat)
      case atStart => exact ⟨0, by omega, rfl⟩
      case round =>
        obtain ⟨k, hk, rfl⟩ := hrel
        have h3 : k = 0 ∨ k = 1 := by omega
        rcases h3 with rfl | rfl
        · go_wp2
          go_round
          case rel => exact ⟨1, by omega, by go_num⟩
          case measure => simp [RowKit.intOf]
        · go_wp2
          go_ret
          exact ⟨by simp, rfl⟩
  · go_enter Tryz.func46, Tryz.ntmps46
    go_wp2
    go_loop [8] (fun i => i = .int .i64 0) (fun i => 2 - (RowKit.intOf i).toNat)
    case atStart => rfl
    case round =>
      subst hrel
      go_wp2
      go_ret
      exact ⟨by simp [h], rfl⟩
/-- The order of two places. -/
def ordC (la lb a b : Int) : Int := if cmp3 la lb ≠ 0 then cmp3 la lb else cmp3 a b
set_option maxRecDepth 100000 in
set_option maxHeartbeats 4000000 in
theorem order_any (Bs n c a b : Nat) (ad : Addr) (la lb : Int) (w : World) (hn : n ≤ 1000000) (ha : a < n) (hb : b < n) (h0 : w.cell? ⟨Bs, 0, none⟩ = some (.slice (some ad) n c)) (h1 : w.cell? (ad.add (a * 3)) = some (.int .i32 la)) (h2 : w.cell? (ad.add (b * 3)) = some (.int .i32 lb)) :
    Calls Tryz.prog 45 #[.int .i64 (a : Int), .int .i64 (b : Int), .pointer (some ⟨Bs, 0, none⟩)] w fun e w' => e = .returned (.int .i64 (ordC la lb a b)) ∧ ∃ q os', w' = grow (w.drewN q) os' := by
  unfold ordC
  generalize hr : (if cmp3 la lb ≠ 0 then cmp3 la lb else cmp3 a b) = r
  have HO : Hid (∀ x n, x.cell? ⟨n, 0, none⟩ = some (.int .i64 (cmp3 la lb)) → x.cell? ⟨n, 1, none⟩ = some (.int .i64 (cmp3 a b)) → Calls Tryz.prog 46 #[.slice (some ⟨n, 0, none⟩) 2 2] x fun e w' => e = .returned (.int .i64 r) ∧ w' = x) := fun x n h0 h1 => by rw [← hr]; exact or2_any n _ _ x h0 h1
  clear hr
  have HX : Hid (∀ x, Calls Tryz.prog 47 #[.int .i32 la, .int .i32 lb] x fun e w' => e = .returned (.int .i64 (cmp3 la lb)) ∧ w' = x) := fun x => cmpR_any la lb x
  have HY : Hid (∀ x, Calls Tryz.prog 48 #[.int .i64 (a : Int), .int .i64 (b : Int)] x fun e w' => e = .returned (.int .i64 (cmp3 a b)) ∧ w' = x) := fun x => cmpI_any a b x
  generalize cmp3 la lb = c1 at HO HX
  generalize cmp3 (a : Int) (b : Int) = c2 at HO HY
  have ha' : (a : Int) < (n : Int) := by omega
  have hb' : (b : Int) < (n : Int) := by omega
  have HZ0 : (w.alloc (.cells #[.int .i64 c1, .int .i64 c2] 3)).drew.cell? ⟨w.heap.size, 0, none⟩ = some (.int .i64 c1) := (blk_cell (blk_new w (.cells #[.int .i64 c1, .int .i64 c2] 3)) 0).trans rfl
  have HZ1 : (w.alloc (.cells #[.int .i64 c1, .int .i64 c2] 3)).drew.cell? ⟨w.heap.size, 1, none⟩ = some (.int .i64 c2) := (blk_cell (blk_new w (.cells #[.int .i64 c1, .int .i64 c2] 3)) 1).trans rfl
  go_enter Tryz.func45, Tryz.ntmps45
  go_wp2
  go_region_held3 (fun x => x.cell? ⟨Bs, 0, none⟩ = some (.slice (some ad) n c) ∧ x.cell? (ad.add (a * 3)) = some (.int .i32 la) ∧ x.cell? (ad.add (b * 3)) = some (.int .i32 lb)) (go_keep) (first
    | (go_at_call 47; (with_reducible refine (HX.out _).mono ?_); rintro e w' ⟨rfl, rfl⟩)
    | (go_at_call 48; (with_reducible refine (HY.out _).mono ?_); rintro e w' ⟨rfl, rfl⟩)
    | (go_at_call 46; (with_reducible refine (HO.out (w.alloc (.cells #[.int .i64 c1, .int .i64 c2] 3)).drew w.heap.size HZ0 HZ1).mono ?_); rintro e w' ⟨rfl, rfl⟩))
  all_goals
    go_wp2
    go_ret
    exact ⟨rfl, 1, _, by rw [alloc_eq_grow]; rfl⟩
end Go.Proofs.YthggpjiabklekaaGreatDoor

/- ranges.Build: the places, sorted. -/
namespace Go.Proofs.YthggpjiabklekaaGreatDoor
set_option linter.unusedSimpArgs false
set_option linter.unusedVariables false
open Go.RowKit Go.Lib Go.Sort

theorem grownBy_sorted {α : Type} [Inhabited α] {enc : α → Value} {w : World} {g n : Nat} {os : Array Obj} (F : Array α) : w.grownBy (sortWorld enc w g 0 n F os) (some g) := by
  refine ⟨rfl, rfl, rfl, by simp [sortWorld, grow, putRow, mapBlock, Sort.ahead], fun k hk hne => ?_⟩
  unfold sortWorld
  rw [heap_grow_old _ _ (by simpa [putRow, mapBlock, Sort.ahead] using hk)]
  have : g ≠ k := fun e => hne (by rw [e])
  simp [putRow, mapBlock, Sort.ahead, Array.getElem?_modify, this]
theorem heap_sorted {α : Type} [Inhabited α] {enc : α → Value} {w : World} {g n : Nat} {os : Array Obj} {cur : Array Value} {e : TypeId} {fr : Nat × Nat} (F : Array α) (hb : w.heap[g]? = some (.cells cur e fr)) :
    (sortWorld enc w g 0 n F os).heap[g]? = some (.cells (putCells enc 0 F cur) e fr) := by
  have hg : g < w.heap.size := (Array.getElem?_eq_some_iff.1 hb).1
  unfold sortWorld
  rw [heap_grow_old _ _ (by simpa [putRow, mapBlock, Sort.ahead] using hg)]
  simp [putRow, mapBlock, Sort.ahead, Array.getElem?_modify, hb, onCells]
theorem putCells_all {α : Type} [Inhabited α] (enc : α → Value) (F : Array α) (cur : Array Value) (h : cur.size = F.size) : putCells enc 0 F cur = (F.toList.map enc).toArray := by
  apply Array.ext
  · simp [putCells, h]
  · intro i h1 h2
    have hi : i < F.size := by simpa [putCells, h] using h1
    simp [putCells, hi]
/-- Sorted by the first runes. -/
def LoSorted (p : List Rg) (o : List Nat) : Prop := o.Pairwise fun a b => (p.getD a z3).1 ≤ (p.getD b z3).1
theorem cmp3_lt (a b : Int) : (cmp3 a b < 0) ↔ a < b := by unfold cmp3; split <;> (try split) <;> omega
theorem ordC_lt (la lb a b : Int) : ordC la lb a b < 0 ↔ la < lb ∨ la = lb ∧ a < b := by
  unfold ordC cmp3
  split <;> (try split) <;> (try split) <;> omega
def ordF (p : List Rg) (n : Nat) (x y : Fin n) : Int := ordC (p.getD x.1 z3).1 (p.getD y.1 z3).1 (x.1 : Int) (y.1 : Int)
theorem ordF_lt (p : List Rg) (n : Nat) (x y : Fin n) : ltOf (ordF p n) x y = decide ((p.getD x.1 z3).1 < (p.getD y.1 z3).1 ∨ (p.getD x.1 z3).1 = (p.getD y.1 z3).1 ∧ x.1 < y.1) := by
  unfold ltOf ordF
  rw [decide_eq_decide, ordC_lt]
  omega
theorem ordSwo (p : List Rg) (n : Nat) : SWO (ltOf (ordF p n)) where
  irrefl x := by rw [ordF_lt]; simp
  trans x y z h1 h2 := by rw [ordF_lt] at *; simp only [decide_eq_true_eq] at *; omega
  ntrans x y z h1 h2 := by rw [ordF_lt] at *; simp only [decide_eq_false_iff_not] at *; omega
theorem ord_total (p : List Rg) (n : Nat) (x y : Fin n) (h1 : ltOf (ordF p n) x y = false) (h2 : ltOf (ordF p n) y x = false) : x = y := by
  rw [ordF_lt] at *
  simp only [decide_eq_false_iff_not] at h1 h2
  exact Fin.ext (by omega)
def encN (x : Nat) : Value := .int .i64 (x : Int)
theorem sort_order (Bs n c blk cap : Nat) (ad : Addr) (p : List Rg) (w : World) (hpn : p.length = n) (hn : n ≤ 1000000) (h0 : w.cell? ⟨Bs, 0, none⟩ = some (.slice (some ad) n c))
    (hrow : ∀ j (hj : j < n), w.cell? (ad.add (j * 3)) = some (.int .i32 (p.getD j z3).1)) (hB : Bs ≠ blk) (hA : ad.block ≠ blk) (hpos : 0 < n)
    (hH : w.heap[blk]? = some (.cells ((List.range n).map encN).toArray 3 (0, 0))) :
    Calls Tryz.prog 44 #[.slice (some ⟨blk, 0, none⟩) n cap, .func (.func 45) #[] #[.pointer (some ⟨Bs, 0, none⟩)]] w fun e w' => e = .returned (.tuple #[]) ∧
      ∃ o : List Nat, o.Perm (List.range n) ∧ LoSorted p o ∧ w'.heap[blk]? = some (.cells (o.map encN).toArray 3 (0, 0)) ∧ w.grownBy w' (some blk) := by
  haveI : Inhabited (Fin n) := ⟨⟨0, hpos⟩⟩
  have hd : (List.finRange n).toArray.size = n := by simp
  have hfr : (List.finRange n).map (fun x : Fin n => x.1) = List.range n := by
    apply List.ext_getElem
    · simp
    · intro i h1 h2; simp
  have C := Tryz.slices_SortFunc_total (fun x : Fin n => encN x.1) (fun x => rfl) (ordF p n) (ordSwo p n) 45 #[.pointer (some ⟨Bs, 0, none⟩)] blk 0 cap (List.finRange n).toArray w (enters_of Tryz.func45 (by kernel_rfl) rfl) ?_ ?_ (heap_lt hH) (by rw [hd]; omega) (ord_total p n)
  · rw [hd] at C
    refine C.mono ?_
    rintro e w' ⟨rfl, k, os, rfl⟩
    have hperm : ((List.finRange n).toArray.toList.mergeSort fun x y => !(ltOf (ordF p n)) y x).Perm (List.finRange n) := List.mergeSort_perm _ _
    have hsort := List.pairwise_mergeSort (le := fun x y : Fin n => !(ltOf (ordF p n)) y x) (fun a b c h1 h2 => by
      have := (ordSwo p n).ntrans c b a (by simpa using h2) (by simpa using h1)
      simp [this]) (fun a b => by
      cases h : ltOf (ordF p n) b a with
      | false => simp
      | true =>
        have h3 : ltOf (ordF p n) a b = false := by
          rw [ordF_lt] at h ⊢
          simp only [decide_eq_true_eq, decide_eq_false_iff_not] at *
          omega
        simp [h3]) (List.finRange n)
    refine ⟨rfl, ((List.finRange n).toArray.toList.mergeSort fun x y => !(ltOf (ordF p n)) y x).map (fun x => x.1), ?_, ?_, ?_, grownBy_sorted _⟩
    · have := hperm.map (fun x : Fin n => x.1)
      rw [hfr] at this
      exact this
    · unfold LoSorted
      rw [List.pairwise_map]
      refine List.Pairwise.imp ?_ hsort
      intro a b hab
      have hab' : ltOf (ordF p n) b a = false := by simpa using hab
      rw [ordF_lt] at hab'
      simp only [decide_eq_false_iff_not] at hab'
      omega
    · rw [heap_sorted _ hH, putCells_all _ _ _ (by simp), List.map_map]
      rfl
  · intro m os dk hs x y
    have hg : w.grownBy (sortWorld (fun x : Fin n => encN x.1) w blk 0 m dk os) (some blk) := grownBy_sorted dk
    have q0 := hg.cell h0 (by show some Bs ≠ some blk; simpa using hB)
    have hadd : ∀ j, (ad.add j).block = ad.block := fun j => by unfold Addr.add; split <;> rfl
    have q1 := hg.cell (hrow x.1 x.2) (by rw [hadd]; simpa using hA)
    have q2 := hg.cell (hrow y.1 y.2) (by rw [hadd]; simpa using hA)
    exact order_any Bs n c x.1 y.1 ad _ _ _ hn x.2 y.2 q0 q1 q2
  · intro j hj
    rw [hd] at hj
    rw [Nat.zero_add]
    refine ⟨?_, blk_fz hH j⟩
    rw [blk_cell hH j, getElem!_pos _ j (by rw [hd]; exact hj)]
    simp [hj]
end Go.Proofs.YthggpjiabklekaaGreatDoor

/- slices.Insert of one range into an owned row. -/
namespace Go.Proofs.YthggpjiabklekaaGreatDoor
set_option linter.unusedSimpArgs false
set_option linter.unusedVariables false
open Go.RowKit Go.Lib

theorem run_copy_cells3 {P : Program} (w : World) (dT sT ty elem : TypeId) (b o dLen dCap : Nat) (a : Addr) (sLen sCap : Nat) (cs : List Value)
    (hu : P.underlying dT = some (.slice elem)) (hs : (P.info? elem).map (·.size) = some 3) (hn : cs.length = Nat.min sLen dLen * 3)
    (hsrc : ∀ j v, cs[j]? = some v → w.cell? (a.add j) = some v) (hc : ∀ j, j < cs.length → (w.cell? ⟨b, o + j, none⟩).isSome = true) (hf : ∀ j, j < cs.length → w.frozen? ⟨b, o + j, none⟩ = false) (h1 : ∀ v ∈ cs, v.oneCell' = true) :
    (Builtin.copy_ #[dT, sT] ty #[.slice (some ⟨b, o, none⟩) dLen dCap, .slice (some a) sLen sCap]).run P w = .ok (goInt (Nat.min sLen dLen : Nat)) (w.setCells b o cs) := by
  have hl := run_loadCells_list (P := P) w a cs hsrc
  have hst := run_storeCells_cells (P := P) b o cs 0 w (by simpa using hc) (by simpa using hf) h1
  cases hq : P.info? elem with
  | none => simp [hq] at hs
  | some i =>
    have hi : i.size = 3 := by simpa [hq] using hs
    simp [Builtin.copy_, run_underlying hu, Builtin.lenOf, Builtin.firstCells, sizeOf, typeInfo, hq, hi, ← hn, hl, hst]
theorem wp_copy_run3 {P : Program} (w : World) {o : Oper} {a : Act} {K : Act → World → Prop} {Q : Exit → Act → World → Prop} (d s : Operand) (t t' : TypeId)
    (ho : o.op = .call { callee := .builtin .copy, args := #[d, s], argTypes := #[t, t'] }) (v u : Value) (hd : a.eval d = v) (hs : a.eval s = u) {v' : Value} {w' : World}
    (hr : (Builtin.copy_ #[t, t'] o.type #[v, u]).run P w = .ok v' w') (h : K (a.put o.dst v') w') : o.wp P a w K Q := by
  unfold Oper.wp execOp
  simp only [ho, resolve, invoke, builtin, Sem.run_bind, Sem.run_pure, Result.andThen_ok, List.map_toArray, List.map_cons, List.map_nil, hd, hs, hr]
  exact h
theorem wpList_copy_run3 {P : Program} (w : World) {ops : Array Oper} {rest : List Oper} {o : Oper} {a : Act} {Q : Exit → Act → World → Prop} (hgd : o.guard = none) (d s : Operand) (t t' : TypeId)
    (ho : o.op = .call { callee := .builtin .copy, args := #[d, s], argTypes := #[t, t'] }) (v u : Value) (hd : a.eval d = v) (hs : a.eval s = u) {v' : Value} {w' : World}
    (hr : (Builtin.copy_ #[t, t'] o.type #[v, u]).run P w = .ok v' w') (h : wpList P ops Q rest (a.put o.dst v') w') : wpList P ops Q (o :: rest) a w :=
  wpList_plain hgd fun _ hK => wp_copy_run3 w d s t t' ho v u hd hs hr (hK _ _ h)
theorem step_copy_run3 {P : Program} {ops : Array Oper} {o : Oper} {a : Act} {w : World} {K : Act → World → Prop} {Q : Exit → Act → World → Prop} {E : Prop}
    (hg : o.guard = none) (d x : Operand) (dT sT : TypeId) (hop : o.op = Op.call { callee := Callee.builtin Builtin.copy, args := #[d, x], argTypes := #[dT, sT] })
    (v u : Value) (hd : a.eval d = v) (hx : a.eval x = u) {v' : Value} {w' : World} (hr : (Builtin.copy_ #[dT, sT] o.type #[v, u]).run P w = .ok v' w') (hK : K (a.put o.dst v') w') :
    if Region.wanted o (yielded ops a.tmps) = true then Oper.wp P o a w K Q else E := by
  have hw : Region.wanted o (yielded ops a.tmps) = true := by simp [Region.wanted, hg]
  rw [if_pos hw]
  unfold Oper.wp
  simp [execOp, hop, resolve, invoke, builtin, hd, hx, hr, Result.andThen]
  exact hK
theorem isSome_setCells (b : Nat) (vs : List Value) (o : Nat) (w : World) (h : ∀ j, j < vs.length → (w.cell? ⟨b, o + j, none⟩).isSome = true) (k : Nat) (hk : (w.cell? ⟨b, k, none⟩).isSome = true) : ((w.setCells b o vs).cell? ⟨b, k, none⟩).isSome = true := by
  by_cases hin : o ≤ k ∧ k < o + vs.length
  · have := World.cell?_setCells_in b vs o w h (k - o) (by omega)
    rw [show o + (k - o) = k by omega] at this
    rw [this]; rfl
  · rw [World.cell?_setCells_out b vs o w ⟨b, k, none⟩ (fun _ _ => by show k < o ∨ o + vs.length ≤ k; omega)]
    exact hk
theorem infoR : (Tryz.prog.info? 28).map (fun i => (i.zero, i.size, i.bytes)) = some (some (.agg #[.int .i32 0, .int .i32 0, .int .i64 0]), 3, 16) := by kernel_rfl
set_option maxRecDepth 100000 in
set_option maxHeartbeats 4000000 in
theorem insert_shift (b n c i vb : Nat) (cs vs : List Value) (w : World) (hi : i < n) (hroom : n + 1 ≤ c) (hc63 : c ≤ 9223372036854775807) (hvb : vb ≠ b)
    (hcl : cs.length = n * 3) (hvl : vs.length = 3)
    (hcs : ∀ j v, cs[j]? = some v → w.cell? ⟨b, j, none⟩ = some v) (hsp : ∀ j, j < (n + 1) * 3 → (w.cell? ⟨b, j, none⟩).isSome = true) (hfz : ∀ j, w.frozen? ⟨b, j, none⟩ = false)
    (hvs : ∀ j v, vs[j]? = some v → w.cell? ⟨vb, j, none⟩ = some v) (h1c : ∀ v ∈ cs, v.oneCell' = true) (h1v : ∀ v ∈ vs, v.oneCell' = true)
    (tA tB : TypeId) (kA kB : Nat) (hsa : w.shape? vb = some (tA, kA)) (hsb : w.shape? b = some (tB, kB)) (hkB : kB ≠ 0) (hfa : w.frozen? ⟨vb, 0, none⟩ = false) (hfe : w.frozen? ⟨vb, kA, none⟩ = false) :
    Calls Tryz.prog 69 #[.slice (some ⟨b, 0, none⟩) n c, .int .i64 i, .slice (some ⟨vb, 0, none⟩) 1 1] w fun e w' =>
      e = .returned (.slice (some ⟨b, 0, none⟩) (n + 1) c) ∧ w' = (w.drew.setCells b ((i + 1) * 3) (cs.drop (i * 3))).setCells b (i * 3) vs := by
  have hz2 : ¬ ((i : Int) = (n : Int)) := by omega
  have hsz : (Tryz.prog.info? 28).map (·.size) = some 3 := by
    obtain ⟨i0, hi0, h0, h1, h2⟩ := info_parts infoR
    rw [hi0]; simp [h1]
  have hov : ∀ lb cb, (callFunc 92 #[.slice (some ⟨vb, 0, none⟩) 1 1, .slice (some ⟨b, (i + 1) * 3, none⟩) lb cb]).run Tryz.prog w = .ok (.value (.bool false)) w := fun lb cb => by
    rw [run_callFunc_extern Tryz.func92 (by kernel_rfl) (by kernel_rfl) (by kernel_rfl) (e := Extern.SlicesOverlaps.overlaps #[22, 22] #[4]) (by kernel_rfl),
      Lib.run_overlaps_apart w 22 4 28 Tryz.underlying22 3 (fun w => by obtain ⟨i0, hi0, h0, h1, h2⟩ := info_parts infoR; simp [sizeOf, typeInfo, hi0, h1]) ⟨vb, 0, none⟩ ⟨b, (i + 1) * 3, none⟩ 1 1 lb cb hvb tA tB kA kB hsa hsb hkB hfa hfe]
    rfl
  have hdl : (cs.drop (i * 3)).length = (n - i) * 3 := by rw [List.length_drop, hcl]; omega
  have hw1 : IntKind.i64.wrap ((i : Int) + 1) = (i : Int) + 1 := by rw [IntKind.wrap_i64]; omega
  have hb1 : (0 : Int) ≤ (i : Int) + 1 := by omega
  have hin : i ≤ n := by omega
  have htn : ((i : Int) + 1).toNat = i + 1 := by omega
  have hb2 : ¬ (c = i + 1) := by omega
  have hb3 : (i : Int) ≤ (n : Int) + 1 := by omega
  have hb4 : ¬ (c = i) := by omega
  have hcp1 : ∀ ty dc sc, (Builtin.copy_ #[22, 22] ty #[.slice (some ⟨b, (i + 1) * 3, none⟩) (n - i) dc, .slice (some ⟨b, i * 3, none⟩) (n + 1 - i) sc]).run Tryz.prog w.drew = .ok (goInt (Nat.min (n + 1 - i) (n - i) : Nat)) (w.drew.setCells b ((i + 1) * 3) (cs.drop (i * 3))) := fun ty dc sc =>
    run_copy_cells3 w.drew _ _ ty 28 b ((i + 1) * 3) (n - i) dc ⟨b, i * 3, none⟩ (n + 1 - i) sc (cs.drop (i * 3)) Tryz.underlying22 hsz (by rw [hdl]; simp only [Nat.min_def]; split <;> omega)
      (fun j v hj => by rw [Addr.add_lit]; exact hcs (i * 3 + j) v (by rwa [List.getElem?_drop] at hj))
      (fun j hj => hsp _ (by omega)) (fun j hj => hfz _) (fun v hv => h1c v (List.mem_of_mem_drop hv))
  obtain ⟨W1, hW1⟩ : ∃ W1, W1 = w.drew.setCells b ((i + 1) * 3) (cs.drop (i * 3)) := ⟨_, rfl⟩
  have hsp1 : ∀ k, k < (n + 1) * 3 → (W1.cell? ⟨b, k, none⟩).isSome = true := fun k hk => by
    rw [hW1]
    exact isSome_setCells b (cs.drop (i * 3)) ((i + 1) * 3) w.drew (fun j hj => hsp _ (by rw [hdl] at hj; omega)) _ (hsp k hk)
  have hcp2 : ∀ (W : World), (∀ x, W.cell? x = W1.cell? x) → (∀ x, W.frozen? x = W1.frozen? x) → ∀ ty dc, (Builtin.copy_ #[22, 22] ty #[.slice (some ⟨b, i * 3, none⟩) (n + 1 - i) dc, .slice (some ⟨vb, 0, none⟩) 1 1]).run Tryz.prog W = .ok (goInt (Nat.min 1 (n + 1 - i) : Nat)) (W.setCells b (i * 3) vs) := fun W hWc hWf ty dc =>
    run_copy_cells3 W _ _ ty 28 b (i * 3) (n + 1 - i) dc ⟨vb, 0, none⟩ 1 1 vs Tryz.underlying22 hsz (by rw [hvl]; simp only [Nat.min_def]; split <;> omega)
      (fun j v hj => by
        rw [Addr.add_lit, Nat.zero_add, hWc, hW1, World.cell?_setCells_out b _ _ _ _ (fun h _ => absurd h hvb)]
        exact hvs j v hj)
      (fun j hj => by rw [hWc]; exact hsp1 _ (by omega)) (fun j hj => by rw [hWf, hW1, World.frozen?_setCells]; exact hfz _) h1v
  rw [← hW1] at hcp1
  go_enter Tryz.func69, Tryz.ntmps69
  go_wp2_with (simp only [hov])
  go_region_law (refine step_copy_run3 rfl _ _ 22 22 rfl _ _ (by simp [Act.eval, Act.put]) (by simp [Act.eval, Act.put]) (hcp1 _ _ _) ?_)
  go_wp2_with (at_builtin; refine wpList_copy_run3 _ rfl _ _ 22 22 rfl _ _ rfl rfl (hcp2 _ (fun _ => rfl) (fun _ => rfl) _ _) ?_)
  go_ret
  first | exact ⟨rfl, rfl⟩ | exact ⟨rfl, by rw [hW1]⟩
set_option maxRecDepth 100000 in
set_option maxHeartbeats 4000000 in
/-- Not at the end, and no room: a new row. -/
theorem insert_grow (b n i vb : Nat) (cs vs : List Value) (w : World) (hi : i < n) (hn : n ≤ 100000)
    (hcl : cs.length = n * 3) (hvl : vs.length = 3)
    (hcs : ∀ j v, cs[j]? = some v → w.cell? ⟨b, j, none⟩ = some v)
    (hvs : ∀ j v, vs[j]? = some v → w.cell? ⟨vb, j, none⟩ = some v) (h1c : ∀ v ∈ cs, v.oneCell' = true) (h1v : ∀ v ∈ vs, v.oneCell' = true) :
    Calls Tryz.prog 69 #[.slice (some ⟨b, 0, none⟩) n n, .int .i64 i, .slice (some ⟨vb, 0, none⟩) 1 1] w fun e w' =>
      ∃ (G : Nat) (Z : List Value), e = .returned (.slice (some ⟨w.heap.size, 0, none⟩) (n + 1) G) ∧ n + 1 ≤ G ∧ G ≤ maxLen ∧ Z.length = (n + 1 - i) * 3 + (G - (n + 1)) * 3 ∧
      w' = (((w.drew.alloc (.cells (cs.take (i * 3) ++ Z).toArray 28)).setCells w.heap.size (i * 3) vs).drew).setCells w.heap.size ((i + 1) * 3) (cs.drop (i * 3)) := by
  obtain ⟨i0, hi0, hz0, hzs, hzb⟩ := info_parts infoR
  have hz2 : ¬ ((i : Int) = (n : Int)) := by omega
  have hz3 : (n : Int) < (n : Int) + 1 := by omega
  have hsz : (Tryz.prog.info? 28).map (·.size) = some 3 := by rw [hi0]; simp [hzs]
  have hbw : b < w.heap.size := World.block_lt_of_cell? w _ (hcs 0 _ (List.getElem?_eq_getElem (by omega)))
  have hvw : vb < w.heap.size := World.block_lt_of_cell? w _ (hvs 0 _ (List.getElem?_eq_getElem (by omega)))
  have hkk : (n : Int) + 1 - (i : Int) = ((n + 1 - i : Nat) : Int) := by omega
  have hik : i + (n + 1 - i) = n + 1 := by omega
  have hold : (Builtin.firstCells i0.size i (.slice (some ⟨b, 0, none⟩) i n)).run Tryz.prog w.drew = .ok (cs.take (i * 3)).toArray w.drew := by
    rw [hzs]
    exact run_firstCells_some w.drew 3 i ⟨b, 0, none⟩ i n (cs.take (i * 3)) (by rw [List.length_take]; omega) (fun j v hj => by
      rw [Addr.add_lit, Nat.zero_add]
      rw [List.getElem?_take] at hj
      split at hj
      · exact hcs j v hj
      · cases hj)
  have hrz : ∀ ty, (Builtin.append_ #[22, 3] ty #[.slice (some ⟨b, 0, none⟩) i n, .int .i64 ((n + 1 - i : Nat) : Int)]).run Tryz.prog w = .ok (.slice (some ⟨w.heap.size, 0, none⟩) (n + 1) (grownCap w (n + 1) n 28))
        (w.drew.alloc (.cells ((cs.take (i * 3)).toArray ++ Builtin.zeroCells (Value.agg #[.int .i32 0, .int .i32 0, .int .i64 0]).cells (n + 1 - i) ++ Builtin.zeroCells (Value.agg #[.int .i32 0, .int .i32 0, .int .i64 0]).cells (grownCap w (n + 1) n 28 - (n + 1))) 28)) := fun ty => by
    have h := Lib.run_append_grow_zeros w 22 3 ty 28 i0 _ .i64 .i64 Tryz.underlying22 Tryz.underlying3 hi0 hz0 (some ⟨b, 0, none⟩) i n (cs.take (i * 3)) hold (n + 1 - i) (by omega) (by omega) (by omega) (by omega) (by rw [hzb]; omega) (by rw [hzb, hik]; exact growslice_fits (by omega) (by omega))
    rw [hik] at h
    exact h
  have hG1 := grownCap_ge w (n + 1) n 28
  have hG2 := grownCap_le_maxLen w (n + 1) n 28 (by simp only [maxLen]; omega)
  generalize grownCap w (n + 1) n 28 = G at hrz hG1 hG2
  obtain ⟨Z, hZ, hZl⟩ : ∃ Z : List Value, (cs.take (i * 3)).toArray ++ Builtin.zeroCells (Value.agg #[.int .i32 0, .int .i32 0, .int .i64 0]).cells (n + 1 - i) ++ Builtin.zeroCells (Value.agg #[.int .i32 0, .int .i32 0, .int .i64 0]).cells (G - (n + 1)) = (cs.take (i * 3) ++ Z).toArray ∧ Z.length = (n + 1 - i) * 3 + (G - (n + 1)) * 3 := by
    refine ⟨(Builtin.zeroCells (Value.agg #[.int .i32 0, .int .i32 0, .int .i64 0]).cells (n + 1 - i)).toList ++ (Builtin.zeroCells (Value.agg #[.int .i32 0, .int .i32 0, .int .i64 0]).cells (G - (n + 1))).toList, ?_, ?_⟩
    · apply Array.ext'
      simp
    · simp [Builtin.zeroCells, Value.cells]
  rw [hZ] at hrz
  obtain ⟨W1, hW1⟩ : ∃ W1, W1 = w.drew.alloc (.cells (cs.take (i * 3) ++ Z).toArray 28) := ⟨_, rfl⟩
  rw [← hW1] at hrz
  have htl : (cs.take (i * 3)).length = i * 3 := by rw [List.length_take]; omega
  have hdl : (cs.drop (i * 3)).length = (n - i) * 3 := by rw [List.length_drop, hcl]; omega
  have hRl : (n + 1) * 3 ≤ (cs.take (i * 3) ++ Z).length := by rw [List.length_append, htl, hZl]; omega
  have hblk : W1.heap[w.heap.size]? = some (.cells (cs.take (i * 3) ++ Z).toArray 28 (0, 0)) := by rw [hW1]; exact blk_new w.drew _
  have hN : ∀ j, j < (n + 1) * 3 → (W1.cell? ⟨w.heap.size, j, none⟩).isSome = true := fun j hj => by
    rw [blk_cell hblk j]
    simp
    simp at hRl
    omega
  have hF : ∀ j, W1.frozen? ⟨w.heap.size, j, none⟩ = false := fun j => blk_fz hblk j
  have hold1 : ∀ (bb : Nat), bb < w.heap.size → ∀ j, W1.cell? ⟨bb, j, none⟩ = w.cell? ⟨bb, j, none⟩ := fun bb hbb j => by
    rw [hW1]
    exact (World.cell?_of_block (a := ⟨bb, j, none⟩) ((World.grownBy_alloc w.drew _ none).block bb hbb (by simp)))
  have hcp1 : ∀ ty dc, (Builtin.copy_ #[22, 22] ty #[.slice (some ⟨w.heap.size, i * 3, none⟩) (n + 1 - i) dc, .slice (some ⟨vb, 0, none⟩) 1 1]).run Tryz.prog W1 = .ok (goInt (Nat.min 1 (n + 1 - i) : Nat)) (W1.setCells w.heap.size (i * 3) vs) := fun ty dc =>
    run_copy_cells3 W1 _ _ ty 28 w.heap.size (i * 3) (n + 1 - i) dc ⟨vb, 0, none⟩ 1 1 vs Tryz.underlying22 hsz (by rw [hvl]; simp only [Nat.min_def]; split <;> omega)
      (fun j v hj => by rw [Addr.add_lit, Nat.zero_add, hold1 vb hvw]; exact hvs j v hj)
      (fun j hj => hN _ (by omega)) (fun j hj => hF _) h1v
  obtain ⟨W2, hW2⟩ : ∃ W2, W2 = W1.setCells w.heap.size (i * 3) vs := ⟨_, rfl⟩
  rw [← hW2] at hcp1
  have hN2 : ∀ k, k < (n + 1) * 3 → (W2.cell? ⟨w.heap.size, k, none⟩).isSome = true := fun k hk => by
    rw [hW2]
    exact isSome_setCells w.heap.size vs (i * 3) W1 (fun j hj => hN _ (by omega)) _ (hN k hk)
  have hcp2 : ∀ (W : World), (∀ x, W.cell? x = W2.cell? x) → (∀ x, W.frozen? x = W2.frozen? x) → ∀ ty dc sc, (Builtin.copy_ #[22, 22] ty #[.slice (some ⟨w.heap.size, (i + 1) * 3, none⟩) (n - i) dc, .slice (some ⟨b, i * 3, none⟩) (n - i) sc]).run Tryz.prog W = .ok (goInt (Nat.min (n - i) (n - i) : Nat)) (W.setCells w.heap.size ((i + 1) * 3) (cs.drop (i * 3))) := fun W hWc hWf ty dc sc =>
    run_copy_cells3 W _ _ ty 28 w.heap.size ((i + 1) * 3) (n - i) dc ⟨b, i * 3, none⟩ (n - i) sc (cs.drop (i * 3)) Tryz.underlying22 hsz (by rw [hdl]; simp only [Nat.min_def]; split <;> omega)
      (fun j v hj => by
        rw [Addr.add_lit, hWc, hW2, World.cell?_setCells_out w.heap.size _ _ _ _ (fun h _ => by have : b = w.heap.size := h; omega), hold1 b hbw]
        exact hcs (i * 3 + j) v (by rwa [List.getElem?_drop] at hj))
      (fun j hj => by rw [hWc]; exact hN2 _ (by omega)) (fun j hj => by rw [hWf, hW2, World.frozen?_setCells]; exact hF _) (fun v hv => h1c v (List.mem_of_mem_drop hv))
  have hw1 : IntKind.i64.wrap ((i : Int) + 1) = (i : Int) + 1 := by rw [IntKind.wrap_i64]; omega
  have hb1 : (0 : Int) ≤ (i : Int) + 1 := by omega
  have hin : i ≤ n := by omega
  have htn : ((i : Int) + 1).toNat = i + 1 := by omega
  have hb3 : (i : Int) ≤ (n : Int) + 1 := by omega
  have hg4 : ¬ (G = i) := by omega
  have hg2 : ¬ (G = i + 1) := by omega
  have hg5 : ¬ (n = i) := by omega
  have HE := Lib.hid (show ((W1.setCells w.heap.size (i * 3) vs).drew).setCells w.heap.size ((i + 1) * 3) (cs.drop (i * 3)) = W2.drew.setCells w.heap.size ((i + 1) * 3) (cs.drop (i * 3)) from by rw [hW2])
  have HZ := Lib.hid hZl
  have HG1 := Lib.hid hG1
  have HG2 := Lib.hid hG2
  have HW1 := Lib.hid hW1
  clear hZl hZ hG1 hG2 hW1 hW2 hold hold1 hN hN2 hF hblk hcl hvl hcs hvs htl hdl hRl
  have hcp3 := hcp2 W2.drew (fun _ => rfl) (fun _ => rfl)
  clear hcp2
  go_enter Tryz.func69, Tryz.ntmps69
  go_wp2_with (first
    | (at_builtin; refine Lib.wpList_append_run _ rfl _ _ _ _ rfl _ _ rfl rfl _ _ (hrz _) ?_)
    | (at_builtin; refine wpList_copy_run3 _ rfl _ _ 22 22 rfl _ _ rfl rfl (hcp1 _ _) ?_))
  go_region_law (refine step_copy_run3 rfl _ _ 22 22 rfl _ _ (by simp [Act.eval, Act.put]) (by simp [Act.eval, Act.put]) (hcp3 _ _ _) ?_)
  go_wp2
  go_ret
  exact ⟨G, Z, rfl, HG1.out, HG2.out, HZ.out, by rw [← HW1.out, HE.out]⟩
end Go.Proofs.YthggpjiabklekaaGreatDoor

/- slices.Insert of one range into an owned row: the row owns what is put in. -/
namespace Go.Proofs.YthggpjiabklekaaGreatDoor
set_option linter.unusedSimpArgs false
set_option linter.unusedVariables false
open Go.RowKit Go.Lib

def putL : Array Value → Nat → List Value → Array Value
  | cur, _, [] => cur
  | cur, o, v :: r => putL (cur.setIfInBounds o v) (o + 1) r
theorem putL_heap (b : Nat) (t : TypeId) : ∀ (vs : List Value) (o : Nat) (cur : Array Value) (w : World), w.heap[b]? = some (.cells cur t (0, 0)) → (w.setCells b o vs).heap[b]? = some (.cells (putL cur o vs) t (0, 0))
  | [], _, _, _, h => h
  | v :: r, o, cur, w, h => putL_heap b t r (o + 1) _ _ (blk_set h o v)
theorem setCells_grown (b : Nat) : ∀ (vs : List Value) (o : Nat) (w : World), w.grownBy (w.setCells b o vs) (some b)
  | [], _, w => ⟨rfl, rfl, rfl, Nat.le_refl _, fun _ _ _ => rfl⟩
  | v :: r, o, w => by
    have h1 : w.grownBy (w.setCell ⟨b, o, none⟩ v) (some b) := ⟨rfl, rfl, rfl, by simp [World.setCell], fun k _ hk => heap_setCell_other w ⟨b, o, none⟩ k v (fun e => hk (by rw [e]))⟩
    have h2 := setCells_grown b r (o + 1) (w.setCell ⟨b, o, none⟩ v)
    exact ⟨h2.os.trans h1.os, h2.tape.trans h1.tape, h2.output.trans h1.output, Nat.le_trans h1.size h2.size, fun k hk hne => (h2.block k (Nat.lt_of_lt_of_le hk h1.size) hne).trans (h1.block k hk hne)⟩
theorem putL_size : ∀ (vs : List Value) (o : Nat) (cur : Array Value), (putL cur o vs).size = cur.size
  | [], _, _ => rfl
  | v :: r, o, cur => by rw [putL, putL_size r]; simp
theorem putL_list : ∀ (vs : List Value) (o : Nat) (cur : Array Value), o + vs.length ≤ cur.size → (putL cur o vs).toList = cur.toList.take o ++ vs ++ cur.toList.drop (o + vs.length)
  | [], o, cur, h => by simp [putL]
  | v :: r, o, cur, h => by
    simp only [List.length_cons] at h
    rw [putL, putL_list r (o + 1) _ (by simp; omega), Array.toList_setIfInBounds]
    have hlt : o < cur.toList.length := by simp; omega
    rw [List.take_set, List.drop_set_of_lt (by omega), List.take_succ_eq_append_getElem hlt, List.set_append_right _ _ (by simp; omega)]
    simp only [List.length_take, List.length_cons]
    rw [Nat.min_eq_left (by omega), Nat.sub_self]
    simp
    congr 1
    omega
theorem cells3_append : ∀ (a b : List Rg), cells3 (a ++ b) = cells3 a ++ cells3 b
  | [], b => rfl
  | x :: r, b => by simp [cells3, cells3_append r b]
theorem cells3_take (l : List Rg) (i : Nat) (h : i ≤ l.length) : cells3 (l.take i) = (cells3 l).take (i * 3) := by
  have e := cells3_append (l.take i) (l.drop i)
  rw [List.take_append_drop] at e
  have hn : (cells3 (l.take i)).length = i * 3 := by rw [cells3_length, List.length_take, Nat.min_eq_left h]
  rw [e, ← hn]
  exact (List.take_left ..).symm
theorem cells3_drop (l : List Rg) (i : Nat) (h : i ≤ l.length) : cells3 (l.drop i) = (cells3 l).drop (i * 3) := by
  have e := cells3_append (l.take i) (l.drop i)
  rw [List.take_append_drop] at e
  have hn : (cells3 (l.take i)).length = i * 3 := by rw [cells3_length, List.length_take, Nat.min_eq_left h]
  rw [e, ← hn]
  exact (List.drop_left ..).symm
theorem cells3_put (l : List Rg) (x : Rg) (i : Nat) (h : i ≤ l.length) : cells3 (l.take i ++ x :: l.drop i) = (cells3 l).take (i * 3) ++ cells3 [x] ++ (cells3 l).drop (i * 3) := by
  rw [cells3_append, show x :: l.drop i = [x] ++ l.drop i from rfl, cells3_append, cells3_take l i h, cells3_drop l i h, List.append_assoc]
set_option maxRecDepth 100000 in
set_option maxHeartbeats 4000000 in
/-- At the end: an append. -/
theorem insert_end (base vb : Nat) (v : Value) (l : List Rg) (x : Rg) (w : World) (hb : base ≤ w.heap.size) (hl : l.length ≤ 100000) (h : w.ownsRow base 28 3 v l.length (cells3 l))
    (hx : ∀ j u, (cells3 [x])[j]? = some u → w.cell? ((⟨vb, 0, none⟩ : Addr).add j) = some u) :
    Calls Tryz.prog 69 #[v, .int .i64 (l.length : Int), .slice (some ⟨vb, 0, none⟩) 1 1] w fun e w' => ∃ v', e = .returned v' ∧ w'.ownsRow base 28 3 v' (l.length + 1) (cells3 (l ++ [x])) ∧ w.grownBy w' v.ownBlock := by
  obtain ⟨i0, hi, hz0, hz1, hz2⟩ := info_parts infoR28
  have H := Lib.hid h
  have HX := Lib.hid hx
  have hsl : (∃ A c, v = .slice A l.length c ∧ l.length ≤ c ∧ c ≤ maxLen) := by
    rcases h.2 with ⟨rfl, h0⟩ | ⟨g, cap, cur, rfl, _, _, h1, h2, _⟩
    · exact ⟨none, 0, by rw [h0], by omega, by omega⟩
    · exact ⟨_, _, rfl, h1, h2⟩
  obtain ⟨A, c, rfl, hc, hcm⟩ := hsl
  have hcells : cells3 (l ++ [x]) = cells3 l ++ cells3 [x] := cells3_append l [x]
  rw [hcells]
  have HCL := Lib.hid (show (cells3 [x]).length = 1 * 3 from rfl)
  have HC1 := Lib.hid (cells3_one [x])
  clear h hx hcells
  generalize cells3 [x] = xs at *
  simp only [maxLen] at hcm
  go_enter Tryz.func69, Tryz.ntmps69
  go_wp2_with (at_builtin; refine wpList_append_own _ rfl _ _ 22 rfl base 28 i0 (.agg #[.int .i32 0, .int .i32 0, .int .i64 0]) 3 16 Tryz.underlying22 hi hz0 hz1 hz2 rfl (by decide) (.slice A l.length c) l.length (cells3 l) rfl H.out ⟨vb, 0, none⟩ 1 1 xs rfl HCL.out HX.out HC1.out (by simp only [maxLen]; omega) (by omega) hb ?_; intro v' w1 hown hg _; have HO := Lib.hid hown; have HG := Lib.hid hg; clear hown hg)
  all_goals
    go_ret
    first
      | exact ⟨_, rfl, HO.out, HG.out⟩
      | exact ⟨_, rfl, HO.out, by have h := HG.out; cases A <;> exact h⟩
/-- Wherever. -/
theorem insert_any (base vb i : Nat) (v : Value) (l : List Rg) (x : Rg) (tv : TypeId) (w : World) (hb : base ≤ w.heap.size) (hl : l.length ≤ 100000) (hi : i ≤ l.length) (h : w.ownsRow base 28 3 v l.length (cells3 l))
    (hx : w.heap[vb]? = some (.cells (cells3 [x]).toArray tv (0, 0))) (hne : v.ownBlock ≠ some vb) :
    Calls Tryz.prog 69 #[v, .int .i64 (i : Int), .slice (some ⟨vb, 0, none⟩) 1 1] w fun e w' => ∃ v', e = .returned v' ∧ w'.ownsRow base 28 3 v' (l.length + 1) (cells3 (l.take i ++ x :: l.drop i)) ∧ w.grownBy w' v.ownBlock := by
  have hxa : ∀ j u, (cells3 [x])[j]? = some u → w.cell? ⟨vb, j, none⟩ = some u := fun j u hu => by rw [blk_cell hx j]; simpa using hu
  by_cases he : i = l.length
  · subst he
    have := insert_end base vb v l x w hb hl h (fun j u hu => by rw [Addr.add_lit, Nat.zero_add]; exact hxa j u hu)
    rw [List.take_length, List.drop_length]
    exact this
  · have hlt : i < l.length := by omega
    rcases h.2 with ⟨rfl, h0⟩ | ⟨g, cap, cur, rfl, hg0, hg, h1, h2, h3, h4⟩
    · omega
    · have hgv : vb ≠ g := fun e => hne (by rw [e]; rfl)
      have hcs : ∀ j u, (cells3 l)[j]? = some u → w.cell? ⟨g, j, none⟩ = some u := fun j u hu => by
        have hj : j < (cells3 l).length := (List.getElem?_eq_some_iff.1 hu).1
        rw [cells3_length] at hj
        rw [blk_cell hg j, ← hu, ← h4, List.getElem?_take_of_lt hj, Array.getElem?_toList]
      have hcl := cells3_length l
      have hdl : ((cells3 l).drop (i * 3)).length = (l.length - i) * 3 := by rw [List.length_drop, hcl]; omega
      have htl : ((cells3 l).take (i * 3)).length = i * 3 := by rw [List.length_take, hcl]; omega
      have hxl : (cells3 [x]).length = 3 := rfl
      simp only [maxLen] at h2
      rw [cells3_put l x i hi]
      by_cases hroom : l.length + 1 ≤ cap
      · refine (insert_shift g l.length cap i vb (cells3 l) (cells3 [x]) w hlt hroom (by omega) hgv hcl hxl hcs (fun j hj => ?_) (fun j => blk_fz hg j) hxa (cells3_one l) (cells3_one [x]) tv 28 3 cur.size ?_ ?_ (by omega) (blk_fz hx 0) (blk_fz hx 3)).mono ?_
        · rw [blk_cell hg j, Array.getElem?_eq_getElem (by omega)]; rfl
        · simp [World.shape?, hx, cells3]
        · simp [World.shape?, hg]
        · rintro e w' ⟨rfl, rfl⟩
          have q1 := putL_heap g 28 ((cells3 l).drop (i * 3)) ((i + 1) * 3) cur w.drew hg
          have q2 := putL_heap g 28 (cells3 [x]) (i * 3) _ _ q1
          have s1 := putL_size ((cells3 l).drop (i * 3)) ((i + 1) * 3) cur
          have l1 := putL_list ((cells3 l).drop (i * 3)) ((i + 1) * 3) cur (by omega)
          have l2 := putL_list (cells3 [x]) (i * 3) (putL cur ((i + 1) * 3) ((cells3 l).drop (i * 3))) (by rw [s1]; omega)
          refine ⟨_, rfl, ⟨by simp only [List.length_append, htl, hxl, hdl]; omega, .inr ⟨g, cap, _, rfl, hg0, q2, by omega, by simp only [maxLen]; omega, by rw [putL_size, s1, h3], ?_⟩⟩, ?_⟩
          · rw [l2, l1]
            have e1 : (cur.toList.take ((i + 1) * 3) ++ (cells3 l).drop (i * 3) ++ cur.toList.drop ((i + 1) * 3 + ((cells3 l).drop (i * 3)).length)).take (i * 3) = (cells3 l).take (i * 3) := by
              rw [List.append_assoc, List.take_append_of_le_length (by simp; omega), List.take_take, Nat.min_eq_left (by omega), ← h4, List.take_take, Nat.min_eq_left (by omega)]
            have e2 : (cur.toList.take ((i + 1) * 3) ++ (cells3 l).drop (i * 3) ++ cur.toList.drop ((i + 1) * 3 + ((cells3 l).drop (i * 3)).length)).drop (i * 3 + (cells3 [x]).length) = (cells3 l).drop (i * 3) ++ cur.toList.drop ((i + 1) * 3 + ((cells3 l).drop (i * 3)).length) := by
              have hk : (cur.toList.take ((i + 1) * 3)).length = i * 3 + (cells3 [x]).length := by simp [hxl]; omega
              rw [List.append_assoc, ← hk]
              exact List.drop_left ..
            rw [e1, e2, ← List.append_assoc]
            have hk : ((cells3 l).take (i * 3) ++ cells3 [x] ++ (cells3 l).drop (i * 3)).length = (l.length + 1) * 3 := by simp only [List.length_append, htl, hxl, hdl]; omega
            rw [← hk]
            exact List.take_left ..
          · have g1 := setCells_grown g ((cells3 l).drop (i * 3)) ((i + 1) * 3) w.drew
            have g2 := setCells_grown g (cells3 [x]) (i * 3) (w.drew.setCells g ((i + 1) * 3) ((cells3 l).drop (i * 3)))
            exact ⟨g2.os.trans g1.os, g2.tape.trans g1.tape, g2.output.trans g1.output, Nat.le_trans g1.size g2.size, fun k hk hne => (g2.block k (Nat.lt_of_lt_of_le hk g1.size) hne).trans (g1.block k hk hne)⟩
      · have hcap : cap = l.length := by omega
        subst hcap
        refine (insert_grow g l.length i vb (cells3 l) (cells3 [x]) w hlt hl hcl hxl hcs hxa (cells3_one l) (cells3_one [x])).mono ?_
        rintro e w' ⟨G, Z, rfl, hG1, hG2, hZ, rfl⟩
        have q0 : (w.drew.alloc (.cells ((cells3 l).take (i * 3) ++ Z).toArray 28)).heap[w.heap.size]? = some (.cells ((cells3 l).take (i * 3) ++ Z).toArray 28 (0, 0)) := blk_new w.drew _
        have q1 := putL_heap w.heap.size 28 (cells3 [x]) (i * 3) _ _ q0
        have q2 := putL_heap w.heap.size 28 ((cells3 l).drop (i * 3)) ((i + 1) * 3) _ (((w.drew.alloc (.cells ((cells3 l).take (i * 3) ++ Z).toArray 28)).setCells w.heap.size (i * 3) (cells3 [x])).drew) q1
        have s0 : (((cells3 l).take (i * 3) ++ Z).toArray).size = G * 3 := by simp only [List.size_toArray, List.length_append, htl, hZ]; omega
        have s1 := putL_size (cells3 [x]) (i * 3) ((cells3 l).take (i * 3) ++ Z).toArray
        have l1 := putL_list (cells3 [x]) (i * 3) ((cells3 l).take (i * 3) ++ Z).toArray (by omega)
        have l2 := putL_list ((cells3 l).drop (i * 3)) ((i + 1) * 3) (putL ((cells3 l).take (i * 3) ++ Z).toArray (i * 3) (cells3 [x])) (by rw [s1]; omega)
        refine ⟨_, rfl, ⟨by simp only [List.length_append, htl, hxl, hdl]; omega, .inr ⟨w.heap.size, G, _, rfl, hb, q2, hG1, hG2, by rw [putL_size, s1, s0], ?_⟩⟩, ?_⟩
        · rw [l2, l1]
          simp only [List.toList_toArray]
          have e0 : ((cells3 l).take (i * 3) ++ Z).take (i * 3) = (cells3 l).take (i * 3) := by
            have := List.take_left (l₁ := (cells3 l).take (i * 3)) (l₂ := Z)
            rw [htl] at this
            exact this
          rw [e0]
          have e1 : ((cells3 l).take (i * 3) ++ cells3 [x] ++ ((cells3 l).take (i * 3) ++ Z).drop (i * 3 + (cells3 [x]).length)).take ((i + 1) * 3) = (cells3 l).take (i * 3) ++ cells3 [x] := by
            have hk : ((cells3 l).take (i * 3) ++ cells3 [x]).length = (i + 1) * 3 := by simp only [List.length_append, htl, hxl]; omega
            rw [← hk]
            exact List.take_left ..
          rw [e1]
          have hk : ((cells3 l).take (i * 3) ++ cells3 [x] ++ (cells3 l).drop (i * 3)).length = (l.length + 1) * 3 := by simp only [List.length_append, htl, hxl, hdl]; omega
          rw [← hk]
          exact List.take_left ..
        · have g0 := World.grownBy_alloc w.drew (.cells ((cells3 l).take (i * 3) ++ Z).toArray 28) none
          have g1 := setCells_grown w.heap.size (cells3 [x]) (i * 3) (w.drew.alloc (.cells ((cells3 l).take (i * 3) ++ Z).toArray 28))
          have g2 := setCells_grown w.heap.size ((cells3 l).drop (i * 3)) ((i + 1) * 3) (((w.drew.alloc (.cells ((cells3 l).take (i * 3) ++ Z).toArray 28)).setCells w.heap.size (i * 3) (cells3 [x])).drew)
          refine ⟨g2.os.trans (g1.os.trans g0.os), g2.tape.trans (g1.tape.trans g0.tape), g2.output.trans (g1.output.trans g0.output), Nat.le_trans g0.size (Nat.le_trans g1.size g2.size), fun k hk hne => ?_⟩
          have hkn : some k ≠ some w.heap.size := by simp; omega
          exact (g2.block k (Nat.lt_of_lt_of_le hk (Nat.le_trans g0.size g1.size)) hkn).trans ((g1.block k (Nat.lt_of_lt_of_le hk g0.size) hkn).trans (g0.block k hk (by simp)))
end Go.Proofs.YthggpjiabklekaaGreatDoor

/- ranges.clash. -/
namespace Go.Proofs.YthggpjiabklekaaGreatDoor
set_option linter.unusedSimpArgs false
set_option linter.unusedVariables false
open Go.RowKit Go.Lib Go.Sort

theorem clash_cl (ad : Addr) (c i len : Nat) (y n : Int) (ba bx : Nat) (x : World) (hi : i < len) (hl : len ≤ 1000000) (h0 : x.cell? ⟨ba, 0, none⟩ = some (.slice (some ad) len c)) (h1 : x.cell? ⟨bx, 0, none⟩ = some (.int .i32 n))
    (h2 : x.cell? (ad.add (i * 3 + 1)) = some (.int .i32 y)) :
    Calls Tryz.prog 68 #[.int .i64 i, .pointer (some ⟨ba, 0, none⟩), .pointer (some ⟨bx, 0, none⟩)] x fun e w' => e = .returned (.bool (decide (n ≤ y))) ∧ ∃ q, w' = x.drewN q := by
  have h2' : x.cell? ((ad.add (i * 3)).add 1) = some (.int .i32 y) := by rw [Addr.add_add]; exact h2
  have h2'' : x.cell? { block := (ad.add (i * 3)).block, off := (ad.add (i * 3)).off + 1 } = some (.int .i32 y) := h2'
  go_enter Tryz.func68, Tryz.ntmps68
  go_wp2
  go_quiet (fail)
  go_wp2
  go_ret
  exact ⟨by simp, nq, rfl⟩
/-- The search among what is there. -/
theorem clash_search (v : Value) (hv : List Rg) (n : Int) (ba bx base : Nat) (w : World) (hl : hv.length ≤ 1000000) (hT : Tab (-1) hv) (h0 : w.cell? ⟨ba, 0, none⟩ = some v) (h1 : w.cell? ⟨bx, 0, none⟩ = some (.int .i32 n)) (ho : w.ownsRow base 28 3 v hv.length (cells3 hv)) :
    Calls Tryz.prog 27 #[.int .i64 (hv.length : Int), .func (.func 68) #[] #[.pointer (some ⟨ba, 0, none⟩), .pointer (some ⟨bx, 0, none⟩)]] w fun e w' => e = .returned (.int .i64 (posS hv n : Nat)) ∧ ∃ q os, w' = grow (w.drewN q) os := by
  have hm := tab_mono hv hT n
  refine Go.Proofs.Any.sort_Search Tryz.searchL 68 #[.pointer (some ⟨ba, 0, none⟩), .pointer (some ⟨bx, 0, none⟩)] hv.length (fun i => decide (n ≤ (hv.getD i z3).2.1)) w (enters_of Tryz.func68 (by kernel_rfl) rfl) (by omega)
    (fun m os i hi => ?_) (fun a b h1 h2 h3 => by simpa using hm a b h1 h2 (by simpa using h3))
  rcases ho.2 with ⟨rfl, h00⟩ | ⟨g, cap, cur, rfl, hb, hg, k1, k2, k3, k4⟩
  · omega
  · rw [getD_at hv i hi]
    obtain ⟨c0, c1, c2⟩ := cells3_at hv i hi
    have hc : w.cell? ((⟨g, 0, none⟩ : Addr).add (i * 3 + 1)) = some (.int .i32 hv[i].2.1) := by
      rw [Addr.add_lit, Nat.zero_add, blk_cell hg, ← c1, ← k4, List.getElem?_take_of_lt (by omega), Array.getElem?_toList]
    have hlt := World.block_lt_of_cell? _ _ hc
    refine (clash_cl ⟨g, 0, none⟩ cap i hv.length hv[i].2.1 n ba bx _ hi hl (cell_grown (World.block_lt_of_cell? _ _ h0) h0 m os) (cell_grown (World.block_lt_of_cell? _ _ h1) h1 m os) (cell_grown hlt hc m os)).mono ?_
    rintro e w' ⟨rfl, q, rfl⟩
    exact ⟨rfl, q, #[], by rw [grow_empty]⟩
/-- What clash tells. -/
def clashI (p : List Rg) : Int := match clashL [] p 0 with | some i => (i : Int) | none => -1
theorem clash_hit (pre : List Rg) (x : Rg) (r : List Rg) (i : Nat) (h : pre.any (hits x) = true) : clashL pre (x :: r) i = some i := by rw [clashL, if_pos h]
theorem clash_on (pre : List Rg) (x : Rg) (r : List Rg) (i : Nat) (h : ¬ pre.any (hits x) = true) : clashL pre (x :: r) i = clashL (pre ++ [x]) r (i + 1) := by rw [clashL, if_neg h]
theorem own_row_blk {w : World} {base : Nat} {v : Value} {n : Nat} {xs : List Value} (h : w.ownsRow base 28 3 v n xs) : ∀ g, v.ownBlock = some g → base ≤ g := fun g hg => (h.lt g hg).1
set_option maxRecDepth 100000 in
set_option maxHeartbeats 2000000 in
theorem clash_any (A : Option Addr) (c : Nat) (p : List Rg) (w : World) (hA : Lies w A p) (hl : p.length ≤ 2000) (hm : ∀ x ∈ p, mayB x = true) :
    Calls Tryz.prog 49 #[.slice A p.length c] w fun e w' => e = .returned (.int .i64 (clashI p)) ∧ Below w.heap.size w w' := by
  have HA := Lib.hid hA
  have HM := Lib.hid hm
  have HN0 := Lib.hid (blk_new w (.cells #[.slice none 0 0] 22))
  have HB0 := Lib.hid ((Below.refl w.heap.size w).alloc (Nat.le_refl _) (.cells #[.slice none 0 0] 22))
  obtain ⟨R, hR⟩ : ∃ R, clashI p = R := ⟨_, rfl⟩
  rw [hR]
  unfold clashI at hR
  have HR := Lib.hid hR
  clear hA hm hR
  go_enter Tryz.func49, Tryz.ntmps49
  go_wp2
  go_loopw [9] (fun i wr => ∃ (k : Nat) (hv : List Rg) (v : Value), k ≤ p.length ∧ i = .int .i64 k ∧ Tab (-1) hv ∧ hv.Perm (p.take k) ∧ hv.length = k ∧ wr.heap[w.heap.size]? = some (.cells #[v] 22 (0, 0)) ∧ wr.ownsRow (w.heap.size + 1) 28 3 v hv.length (cells3 hv) ∧ Below w.heap.size w wr ∧ clashL [] p 0 = clashL (p.take k) (p.drop k) k)
    (fun i _ => p.length - (intOf i).toNat)
  case atStart => exact ⟨0, [], .slice none 0 0, by omega, rfl, trivial, List.Perm.refl _, rfl, HN0.out, World.ownsRow_nil _ _ _ _, HB0.out, rfl⟩
  case round =>
    obtain ⟨k, hv, v, hk, rfl, hT, hP, hlen, hN, ho, hB, hcl⟩ := hrel
    by_cases hkl : k < p.length
    · have hkl' : (k : Int) < (p.length : Int) := by omega
      obtain ⟨ad, rfl, hcs⟩ := HA.out (by omega)
      obtain ⟨a0, a1, a2⟩ := hcs k hkl
      have hdr : p.drop k = p[k] :: p.drop (k + 1) := List.drop_eq_getElem_cons hkl
      have htk : p.take (k + 1) = p.take k ++ [p[k]] := List.take_succ_eq_append_getElem hkl
      have hmx := HM.out _ (List.getElem_mem hkl)
      generalize p[k] = x at a0 a1 a2 hdr htk hmx
      obtain ⟨lo, hi, va⟩ := x
      dsimp only at a0 a1 a2
      have b0 : wr.cell? (ad.add (k * 3)) = some (.int .i32 lo) := cell_in hB a0
      have b1 : wr.cell? { block := (ad.add (k * 3)).block, off := (ad.add (k * 3)).off + 1 } = some (.int .i32 hi) := by have h := cell_in hB a1; rw [← Addr.add_add] at h; exact h
      have b2 : wr.cell? { block := (ad.add (k * 3)).block, off := (ad.add (k * 3)).off + 2 } = some (.int .i64 va) := by have h := cell_in hB a2; rw [← Addr.add_add] at h; exact h
      clear a0 a1 a2 hcs
      obtain ⟨A', c', rfl⟩ : ∃ A' c', v = .slice A' hv.length c' := by
        rcases ho.2 with ⟨rfl, h0⟩ | ⟨g, cap, cur, rfl, _⟩
        · exact ⟨none, 0, by rw [h0]⟩
        · exact ⟨_, _, rfl⟩
      have hwr : w.heap.size < wr.heap.size := heap_lt hN
      have hX1 := blk_new wr (.cells #[.int .i32 lo, .int .i32 hi, .int .i64 va] 28)
      have hN1 : (wr.alloc (.cells #[.int .i32 lo, .int .i32 hi, .int .i64 va] 28)).heap[w.heap.size]? = some (.cells #[.slice A' hv.length c'] 22 (0, 0)) := below_blk ((Below.refl _ _).alloc (Nat.le_refl _) _) hN
      have q0 := (blk_cell hN1 0).trans rfl
      have hB1 : Below w.heap.size w (wr.alloc (.cells #[.int .i32 lo, .int .i32 hi, .int .i64 va] 28)) := hB.alloc hB.size _
      have C := clash_search (.slice A' hv.length c') hv lo w.heap.size wr.heap.size (w.heap.size + 1) (wr.alloc (.cells #[.int .i32 lo, .int .i32 hi, .int .i64 va] 28)) (by omega) hT q0 ((blk_cell hX1 0).trans rfl) (ho.alloc _)
      have hpos := posS_le hv lo
      have hat := clash_at hv hT (lo, hi, va) (posS hv lo) rfl
      have hput := put_at hv hT (lo, hi, va) hmx (posS hv lo) rfl
      have hpp := put_perm hv (lo, hi, va) (posS hv lo)
      generalize posS hv lo = at_ at C hpos hat hput hpp
      have HC := Lib.hid C
      have HO1 := Lib.hid (ho.alloc (.cells #[.int .i32 lo, .int .i32 hi, .int .i64 va] 28))
      have HN1 := Lib.hid hN1
      have HX1 := Lib.hid hX1
      have HB1 := Lib.hid hB1
      have HP := Lib.hid hP
      have HAT := Lib.hid hat
      have HPUT := Lib.hid hput
      have HPP := Lib.hid hpp
      have HCL := Lib.hid hcl
      have HDR := Lib.hid hdr
      have HTK := Lib.hid htk
      have hvl : hv.length ≤ 100000 := by omega
      have HLEN := Lib.hid hlen
      clear C ho hN hN1 hX1 hB1 hB hP hat hput hpp hcl hdr htk hlen hT
      go_wp2_with (go_at_call 27; refine HC.out.mono ?_; rintro e w2 ⟨rfl, q, os, rfl⟩; have hb2 := below_grown_sl (wr.alloc (.cells #[.int .i32 lo, .int .i32 hi, .int .i64 va] 28)).heap.size (wr.alloc (.cells #[.int .i32 lo, .int .i32 hi, .int .i64 va] 28)) q os (Nat.le_refl _); have hn2 := below_blk hb2 HN1.out; have hx2 := below_blk hb2 HX1.out; have ho2 := own_below HO1.out hb2; have hbb2 := below_to HB1.out hb2; generalize Sort.grow ((wr.alloc (.cells #[.int .i32 lo, .int .i32 hi, .int .i64 va] 28)).drewN q) os = w2 at hb2 hn2 hx2 ho2 hbb2 ⊢)
      have r0 := (blk_cell hn2 0).trans rfl
      have y0 := (blk_cell hx2 0).trans rfl
      have y1 := (blk_cell hx2 1).trans rfl
      have y2 := (blk_cell hx2 2).trans rfl
      have HN2 := Lib.hid hn2
      have HX2 := Lib.hid hx2
      have HO2 := Lib.hid ho2
      have HBB2 := Lib.hid hbb2
      clear hn2 hx2 ho2 hbb2 hb2 q0
      by_cases hat : at_ = hv.length
      · subst hat
        have hat' : ¬ (hv.length : Int) < (hv.length : Int) := by omega
        go_quiet (fail)
        have hn3 : ((w2.drewN nq).alloc (.cells #[.int .i32 lo, .int .i32 hi, .int .i64 va] 28)).heap[w.heap.size]? = some (.cells #[.slice A' hv.length c'] 22 (0, 0)) := below_blk ((Below.refl _ _).alloc (Nat.le_refl _) _) (show (w2.drewN nq).heap[w.heap.size]? = _ from HN2.out)
        have r0n : (w2.drewN nq).cell? ⟨w.heap.size, 0, none⟩ = some (.slice A' hv.length c') := r0
        have y0n : (w2.drewN nq).cell? ⟨wr.heap.size, 0, none⟩ = some (.int .i32 lo) := y0
        have y1n : (w2.drewN nq).cell? ⟨wr.heap.size, 1, none⟩ = some (.int .i32 hi) := y1
        have y2n : (w2.drewN nq).cell? ⟨wr.heap.size, 2, none⟩ = some (.int .i64 va) := y2
        have hX3 := blk_new (w2.drewN nq) (.cells #[.int .i32 lo, .int .i32 hi, .int .i64 va] 28)
        have CI := Lib.hid (insert_any (w.heap.size + 1) w2.heap.size hv.length (.slice A' hv.length c') hv (lo, hi, va) 28 ((w2.drewN nq).alloc (.cells #[.int .i32 lo, .int .i32 hi, .int .i64 va] 28)) (by have := HBB2.out.size; have := heap_lt HN2.out; simp; omega) hvl hpos (World.ownsRow.alloc (show (w2.drewN nq).ownsRow _ _ _ _ _ _ from HO2.out) _) hX3 (fun e => by have := (HO2.out.lt _ e).2; omega))
        have HN3 := Lib.hid hn3
        have HB3 := Lib.hid (show Below w.heap.size w ((w2.drewN nq).alloc (.cells #[.int .i32 lo, .int .i32 hi, .int .i64 va] 28)) from (below_drewN HBB2.out nq).alloc HBB2.out.size _)
        have HL := Lib.hid (fun gg (e : (Value.slice A' hv.length c').ownBlock = some gg) => (HO2.out.lt gg e).1)
        clear hn3 r0 y0 y1 y2 hX3
        go_wp2_with (go_at_call 69; refine CI.out.mono ?_; rintro e w4 ⟨v', rfl, ho4, hg4⟩; obtain ⟨A4, n4, c4, rfl⟩ : ∃ A4 n4 c4, v' = .slice A4 n4 c4 := (by rcases ho4.2 with ⟨hv_, _⟩ | ⟨g, cap, cur, hv_, _⟩ <;> exact ⟨_, _, _, hv_⟩); have hn4 := (hg4.block w.heap.size (heap_lt HN3.out) (fun e => by have := HL.out _ e.symm; omega)).trans HN3.out; have r4 := (blk_cell hn4 0).trans rfl; have rf4 := blk_fz hn4 0; have HN4 := Lib.hid hn4; have HO4 := Lib.hid ho4; have HB4 := Lib.hid (HB3.out.grown hg4 HB3.out.size (fun g e => by have := HL.out g e; omega)); clear hn4 ho4 hg4)
        have hnv := (show ¬ hv.any (hits (lo, hi, va)) = true from fun h => by obtain ⟨h1, _⟩ := HAT.out.2 h; omega)
        go_roundw
        case rel =>
          have hlen := HLEN.out
          refine ⟨k + 1, hv.take hv.length ++ (lo, hi, va) :: hv.drop hv.length, .slice A4 n4 c4, by omega, by go_num, HPUT.out hnv, ?_, ?_, blk_set HN4.out 0 _, ?_, HB4.out.setCell (p := ⟨w.heap.size, 0, none⟩) (Nat.le_refl _) _, ?_⟩
          · rw [HTK.out]; exact HPP.out.trans (HP.out.append_right _)
          · simp <;> omega
          · have h := ownsRow_setCell_below HO4.out (a := ⟨w.heap.size, 0, none⟩) (by show w.heap.size < _; omega) (.slice A4 n4 c4)
            have e : (hv.take hv.length ++ (lo, hi, va) :: hv.drop hv.length).length = hv.length + 1 := by simp <;> omega
            rw [e]; exact h
          · rw [HCL.out, HDR.out, clash_on _ _ _ _ (fun h => hnv (by rw [any_perm HP.out]; exact h)), HTK.out]
        case measure => simp [intOf]; omega
      · have hat' : (at_ : Int) < (hv.length : Int) := by omega
        have hal : at_ < hv.length := by omega
        obtain ⟨g, cap, cur, hsl, hgb, hg, k1, k2, k3, k4⟩ := (HO2.out.2).resolve_left (fun h => by omega)
        obtain ⟨rfl, rfl⟩ : A' = some ⟨g, 0, none⟩ ∧ c' = cap := by injection hsl with e1 e2 e3; exact ⟨e1, e3⟩
        obtain ⟨c0, -, -⟩ := cells3_at hv at_ hal
        have hcell : w2.cell? ⟨g, at_ * 3, none⟩ = some (.int .i32 hv[at_].1) := by
          rw [blk_cell hg, ← c0, ← k4, List.getElem?_take_of_lt (by omega), Array.getElem?_toList]
        have HATT := Lib.hid (fun h => HAT.out.1 ⟨hal, h⟩)
        have HATF := Lib.hid (fun h => HAT.out.2 h)
        clear c0 k4 k3 hg hsl
        generalize hy : hv[at_].1 = y at hcell HATT
        by_cases hh : y ≤ hi
        · go_quiet (fail)
          go_wp2
          go_ret
          have hany := HATT.out hh
          have hRk : R = (k : Int) := by rw [← HR.out, HCL.out, HDR.out, clash_hit _ _ _ _ (by rw [← any_perm HP.out]; exact hany)]
          exact ⟨by rw [hRk]; rfl, below_drewN HBB2.out nq⟩
        · go_quiet (fail)
          have hn3 : ((w2.drewN nq).alloc (.cells #[.int .i32 lo, .int .i32 hi, .int .i64 va] 28)).heap[w.heap.size]? = some (.cells #[.slice (some ⟨g, 0, none⟩) hv.length c'] 22 (0, 0)) := below_blk ((Below.refl _ _).alloc (Nat.le_refl _) _) (show (w2.drewN nq).heap[w.heap.size]? = _ from HN2.out)
          have r0n : (w2.drewN nq).cell? ⟨w.heap.size, 0, none⟩ = some (.slice (some ⟨g, 0, none⟩) hv.length c') := r0
          have y0n : (w2.drewN nq).cell? ⟨wr.heap.size, 0, none⟩ = some (.int .i32 lo) := y0
          have y1n : (w2.drewN nq).cell? ⟨wr.heap.size, 1, none⟩ = some (.int .i32 hi) := y1
          have y2n : (w2.drewN nq).cell? ⟨wr.heap.size, 2, none⟩ = some (.int .i64 va) := y2
          have hX3 := blk_new (w2.drewN nq) (.cells #[.int .i32 lo, .int .i32 hi, .int .i64 va] 28)
          have CI := Lib.hid (insert_any (w.heap.size + 1) w2.heap.size at_ (.slice (some ⟨g, 0, none⟩) hv.length c') hv (lo, hi, va) 28 ((w2.drewN nq).alloc (.cells #[.int .i32 lo, .int .i32 hi, .int .i64 va] 28)) (by have := HBB2.out.size; have := heap_lt HN2.out; simp; omega) hvl hpos (World.ownsRow.alloc (show (w2.drewN nq).ownsRow _ _ _ _ _ _ from HO2.out) _) hX3 (fun e => by have := (HO2.out.lt _ e).2; omega))
          have HN3 := Lib.hid hn3
          have HB3 := Lib.hid (show Below w.heap.size w ((w2.drewN nq).alloc (.cells #[.int .i32 lo, .int .i32 hi, .int .i64 va] 28)) from (below_drewN HBB2.out nq).alloc HBB2.out.size _)
          have HL := Lib.hid (fun gg (e : (Value.slice (some ⟨g, 0, none⟩) hv.length c').ownBlock = some gg) => (HO2.out.lt gg e).1)
          clear hn3 r0 y0 y1 y2 hX3
          go_wp2_with (go_at_call 69; refine CI.out.mono ?_; rintro e w4 ⟨v', rfl, ho4, hg4⟩; obtain ⟨A4, n4, c4, rfl⟩ : ∃ A4 n4 c4, v' = .slice A4 n4 c4 := (by rcases ho4.2 with ⟨hv_, _⟩ | ⟨g, cap, cur, hv_, _⟩ <;> exact ⟨_, _, _, hv_⟩); have hn4 := (hg4.block w.heap.size (heap_lt HN3.out) (fun e => by have := HL.out _ e.symm; omega)).trans HN3.out; have r4 := (blk_cell hn4 0).trans rfl; have rf4 := blk_fz hn4 0; have HN4 := Lib.hid hn4; have HO4 := Lib.hid ho4; have HB4 := Lib.hid (HB3.out.grown hg4 HB3.out.size (fun g e => by have := HL.out g e; omega)); clear hn4 ho4 hg4)
          have hnv := (show ¬ hv.any (hits (lo, hi, va)) = true from fun h => by obtain ⟨_, h2⟩ := HATF.out h; rw [hy] at h2; omega)
          go_roundw
          case rel =>
            have hlen := HLEN.out
            refine ⟨k + 1, hv.take at_ ++ (lo, hi, va) :: hv.drop at_, .slice A4 n4 c4, by omega, by go_num, HPUT.out hnv, ?_, ?_, blk_set HN4.out 0 _, ?_, HB4.out.setCell (p := ⟨w.heap.size, 0, none⟩) (Nat.le_refl _) _, ?_⟩
            · rw [HTK.out]; exact HPP.out.trans (HP.out.append_right _)
            · simp <;> omega
            · have h := ownsRow_setCell_below HO4.out (a := ⟨w.heap.size, 0, none⟩) (by show w.heap.size < _; omega) (.slice A4 n4 c4)
              have e : (hv.take at_ ++ (lo, hi, va) :: hv.drop at_).length = hv.length + 1 := by simp <;> omega
              rw [e]; exact h
            · rw [HCL.out, HDR.out, clash_on _ _ _ _ (fun h => hnv (by rw [any_perm HP.out]; exact h)), HTK.out]
          case measure => simp [intOf]; omega
    · have hkl' : ¬ (k : Int) < (p.length : Int) := by omega
      have hnil : p.drop k = [] := List.drop_eq_nil_of_le (by omega)
      have HB := Lib.hid hB
      have HE := Lib.hid (show (-1 : Int) = R from by rw [← HR.out, hcl, hnil, clashL])
      clear hcl hnil hB ho hN hP hT
      go_wp2
      go_ret
      exact ⟨by rw [← HE.out]; rfl, HB.out⟩
end Go.Proofs.YthggpjiabklekaaGreatDoor

/- ranges.Build. -/
namespace Go.Proofs.YthggpjiabklekaaGreatDoor
set_option linter.unusedSimpArgs false
set_option linter.unusedVariables false
open Go.RowKit Go.Lib Go.Sort

/-- The sort of the places, of none too. -/
theorem sort_places (Bs n c blk cap : Nat) (A : Option Addr) (p : List Rg) (w : World) (hpn : p.length = n) (hn : n ≤ 1000000) (h0 : w.cell? ⟨Bs, 0, none⟩ = some (.slice A n c)) (hA : Lies w A p) (hB : Bs ≠ blk) (hAb : ∀ ad, A = some ad → 0 < n → ad.block ≠ blk)
    (hH : w.heap[blk]? = some (.cells ((List.range n).map encN).toArray 3 (0, 0))) :
    Calls Tryz.prog 44 #[.slice (some ⟨blk, 0, none⟩) n cap, .func (.func 45) #[] #[.pointer (some ⟨Bs, 0, none⟩)]] w fun e w' => e = .returned (.tuple #[]) ∧
      ∃ o : List Nat, o.Perm (List.range n) ∧ LoSorted p o ∧ w'.heap[blk]? = some (.cells (o.map encN).toArray 3 (0, 0)) ∧ w.grownBy w' (some blk) := by
  by_cases hz : n = 0
  · subst hz
    haveI : Inhabited Nat := ⟨0⟩
    refine (Tryz.slices_SortFunc_none (α := Nat) (some ⟨blk, 0, none⟩) cap _ w).mono ?_
    rintro e w' ⟨rfl, rfl⟩
    exact ⟨rfl, [], List.Perm.refl _, List.Pairwise.nil, hH, ⟨rfl, rfl, rfl, Nat.le_refl _, fun _ _ _ => rfl⟩⟩
  · obtain ⟨ad, rfl, hc⟩ := hA (by omega)
    exact sort_order Bs n c blk cap ad p w hpn hn h0 (fun j hj => by rw [getD_at p j (by omega)]; exact (hc j (by omega)).1) hB (hAb ad rfl (by omega)) (by omega) hH
/-- What Build hands back. -/
def BuildEnd (p : List Rg) (w : World) (e : Ending) (w' : World) : Prop :=
  ∃ v er, e = .returned (.tuple #[v, er]) ∧ FltIs w' er (bldE p) ∧ (bldE p = none → w'.ownsRow w.heap.size 28 3 v p.length (cells3 (sortR p))) ∧ (bldE p ≠ none → v = .slice none 0 0) ∧ Below w.heap.size w w'
set_option maxRecDepth 100000 in
set_option maxHeartbeats 4000000 in
theorem build_full (A : Option Addr) (c : Nat) (p : List Rg) (w : World) (hI : IsInv w) (h : 2000 < p.length) :
    Calls Tryz.prog 24 #[.slice A p.length c] w (BuildEnd p w) := by
  have hE : bldE p = some (0, 18) := by unfold bldE; rw [if_pos h]
  have hb0 : Below w.heap.size w (w.alloc (.cells #[.slice A p.length c] 22)) := (Below.refl _ _).alloc (Nat.le_refl _) _
  obtain ⟨er, her, -⟩ := hI.sent 18 (by omega) (by omega)
  have her' : (w.alloc (.cells #[.slice A p.length c] 22)).cell? ⟨2, 0, none⟩ = some (.iface 189 (.pointer (some er))) := cell_in hb0 her
  have h' : (p.length : Int) > 2000 := by omega
  have HF := Lib.hid (flt_here (w.alloc (.cells #[.slice A p.length c] 22)) 0 18 (by omega) (by omega) _ _ (cell_in hb0 her))
  have HB := Lib.hid (fun o => hb0.alloc hb0.size o)
  have HE := Lib.hid hE
  clear hI her hb0 hE
  go_enter Tryz.func24, Tryz.ntmps24
  go_wp2_with (go_at_call 36; (with_reducible refine Calls.mono (fault_at _ _ _ _) ?_); rintro e w5 ⟨rfl, rfl⟩)
  go_ret2
  have hF := HF.out
  rw [World.size_alloc] at hF
  exact ⟨.slice none 0 0, .iface 70 (.pointer (some ⟨w.heap.size + 1, 0, none⟩)), rfl, by rw [HE.out]; exact hF, (fun h => by rw [HE.out] at h; cases h), (fun _ => rfl), HB.out _⟩
theorem infoI : (Tryz.prog.info? 3).map (fun i => (i.zero, i.size, i.bytes)) = some (some (.int .i64 0), 1, 8) := by kernel_rfl
set_option maxRecDepth 100000 in
set_option maxHeartbeats 4000000 in
theorem build_small (A : Option Addr) (c : Nat) (p : List Rg) (w : World) (hI : IsInv w) (hA : Lies w A p) (h : p.length ≤ 2000) :
    Calls Tryz.prog 24 #[.slice A p.length c] w (BuildEnd p w) := by
  have h' : ¬ (p.length : Int) > 2000 := by omega
  have hl' : ¬ 2000 < p.length := by omega
  obtain ⟨i1, hi1, hy0, hy1, hy2⟩ := info_parts infoI
  obtain ⟨i0, hi0, hz0, hz1, hz2⟩ := info_parts infoR28
  obtain ⟨e4, he4, -⟩ := hI.sent 4 (by omega) (by omega)
  obtain ⟨e7, he7, -⟩ := hI.sent 7 (by omega) (by omega)
  have hlo := sent_lo hI
  have HN0 := Lib.hid (blk_new w (.cells #[.slice A p.length c] 22))
  have HB0 := Lib.hid ((Below.refl w.heap.size w).alloc (Nat.le_refl _) (.cells #[.slice A p.length c] 22))
  have c1 := (blk_cell HN0.out 0).trans rfl
  have HI := Lib.hid hI
  have HA := Lib.hid hA
  have HE4 := Lib.hid he4
  have HE7 := Lib.hid he7
  have hAlt : ∀ ad, A = some ad → 0 < p.length → ad.block < w.heap.size := fun ad e hp => by
    obtain ⟨ad', e', h2⟩ := HA.out hp
    obtain rfl : ad = ad' := by rw [e] at e'; injection e'
    have := World.block_lt_of_cell? w _ (h2 0 hp).1
    have e3 : (ad.add (0 * 3)).block = ad.block := by unfold Addr.add; split <;> rfl
    omega
  have HALT := Lib.hid hAlt
  clear hI hA he4 he7 hAlt
  go_enter Tryz.func24, Tryz.ntmps24
  go_wp2
  go_loopw [19] (fun i wr => ∃ k : Nat, k ≤ p.length ∧ i = .int .i64 k ∧ (∀ x ∈ p.take k, mayB x = true) ∧ wr.heap[w.heap.size]? = some (.cells #[.slice A p.length c] 22 (0, 0)) ∧ Below w.heap.size w wr) (fun i _ => p.length - (intOf i).toNat)
  case atStart => exact ⟨0, by omega, rfl, (fun x hx => by simp at hx), HN0.out, HB0.out⟩
  case round =>
    obtain ⟨k, hk, rfl, hm, hN, hB⟩ := hrel
    have HN := Lib.hid hN
    have HB := Lib.hid hB
    have HM := Lib.hid hm
    clear hm c1
    by_cases hkl : k < p.length
    · have hkl' : (k : Int) < (p.length : Int) := by omega
      obtain ⟨ad, rfl, hcs⟩ := HA.out (by omega)
      obtain ⟨a0, a1, a2⟩ := hcs k hkl
      have hdr : p.drop k = p[k] :: p.drop (k + 1) := List.drop_eq_getElem_cons hkl
      have htk : p.take (k + 1) = p.take k ++ [p[k]] := List.take_succ_eq_append_getElem hkl
      generalize p[k] = x at a0 a1 a2 hdr htk
      obtain ⟨lo, hi, va⟩ := x
      dsimp only at a0 a1 a2
      have b0 : wr.cell? (ad.add (k * 3)) = some (.int .i32 lo) := cell_in hB a0
      have b1 : wr.cell? { block := (ad.add (k * 3)).block, off := (ad.add (k * 3)).off + 1 } = some (.int .i32 hi) := by have h := cell_in hB a1; rw [← Addr.add_add] at h; exact h
      have b2 : wr.cell? { block := (ad.add (k * 3)).block, off := (ad.add (k * 3)).off + 2 } = some (.int .i64 va) := by have h := cell_in hB a2; rw [← Addr.add_add] at h; exact h
      have hX := blk_new wr (.cells #[.int .i32 lo, .int .i32 hi, .int .i64 va] 28)
      have y0 := (blk_cell hX 0).trans rfl
      have y1 := (blk_cell hX 1).trans rfl
      have y2 := (blk_cell hX 2).trans rfl
      have HDR := Lib.hid hdr
      have HTK := Lib.hid htk
      have hB1 : Below w.heap.size w (wr.alloc (.cells #[.int .i32 lo, .int .i32 hi, .int .i64 va] 28)) := hB.alloc hB.size _
      have HB1 := Lib.hid hB1
      have HN1 := Lib.hid (below_blk ((Below.refl wr.heap.size wr).alloc (Nat.le_refl _) (.cells #[.int .i32 lo, .int .i32 hi, .int .i64 va] 28)) hN)
      clear a0 a1 a2 hcs hdr htk hN hB hB1 hX
      cases hm : mayB (lo, hi, va) with
      | false =>
        go_wp2_with (first
          | (go_at_call 43; refine (may_any lo hi va _).mono ?_; rintro e w3 ⟨rfl, hb3⟩; rw [hm]; have hbb := below_to HB1.out hb3; have g4 : w3.cell? ⟨3, 0, none⟩ = some (.iface 189 (.pointer (some e4))) := cell_in hbb HE4.out; have HBB := Lib.hid hbb; clear hb3 hbb y0 y1 y2)
          | (go_at_call 36; (with_reducible refine Calls.mono (fault_at _ _ _ _) ?_); rintro e w5 ⟨rfl, rfl⟩))
        go_ret2
        have hbd : bldE p = some ((k : Int), 4) := by
          have e := badL_skip (p.take k) (p.drop k) 0 HM.out
          rw [List.take_append_drop, HDR.out, badL, if_neg (by rw [hm]; decide), List.length_take, Nat.zero_add, Nat.min_eq_left (by omega)] at e
          unfold bldE
          rw [if_neg hl', e]
        have hF := flt_here w3 (k : Int) 4 (by omega) (by omega) 189 (.pointer (some e4)) g4
        exact ⟨.slice none 0 0, .iface 70 (.pointer (some ⟨w3.heap.size, 0, none⟩)), rfl, by rw [hbd]; exact hF, (fun h => by rw [hbd] at h; cases h), (fun _ => rfl), HBB.out.alloc HBB.out.size _⟩
      | true =>
        go_wp2_with (go_at_call 43; refine (may_any lo hi va _).mono ?_; rintro e w3 ⟨rfl, hb3⟩; rw [hm]; have HBB := Lib.hid (below_to HB1.out hb3); have HN3 := Lib.hid (below_blk hb3 HN1.out); clear hb3 y0 y1 y2)
        go_roundw
        case rel => exact ⟨k + 1, by omega, by go_num, (fun x hx => by rw [HTK.out] at hx; rcases List.mem_append.1 hx with hx | hx; exact HM.out x hx; rw [List.mem_singleton.1 hx]; exact hm), HN3.out, HBB.out⟩
        case measure => simp [intOf]; omega
    · have hkl' : ¬ (k : Int) < (p.length : Int) := by omega
      have hkp : p.take k = p := List.take_of_length_le (by omega)
      have HMA := Lib.hid (show ∀ x ∈ p, mayB x = true from fun x hx => HM.out x (by rw [hkp]; exact hx))
      have c1 := (blk_cell HN.out 0).trans rfl
      clear hkp HM hN hB
      go_wp2_with (refine wpList_make_full _ rfl _ _ 79 rfl wr.heap.size 3 i1 (.int .i64 0) 1 Tryz.underlying79 hi1 hy0 hy1 .i64 .i64 p.length p.length p.length rfl rfl rfl rfl (by rw [hy2]; omega) (by simp only [maxLen]; omega) (Nat.le_refl _) ?_; intro w3 ho3 hg3)
      have hN3 := (hg3.block w.heap.size (heap_lt HN.out) (by simp)).trans HN.out
      have hB3 := HB.out.grown hg3 HB.out.size (fun g e => by cases e)
      obtain ⟨cur, hcur, hcs⟩ : ∃ cur : Array Value, w3.heap[wr.heap.size]? = some (.cells cur 3 (0, 0)) ∧ cur.size = p.length := by
        rcases ho3.2 with ⟨h1, _⟩ | ⟨g, cap, cur, h1, _, h2, _, _, h3, _⟩
        · cases h1
        · injection h1 with e1 e2 e3
          injection e1 with e1
          injection e1 with e1
          subst e1 e3
          exact ⟨cur, h2, by omega⟩
      have hwr : w.heap.size < wr.heap.size := heap_lt HN.out
      have hN3L := Lib.hid hN3
      have hB3L := Lib.hid hB3
      have hcurL := Lib.hid hcur
      generalize wr.heap.size = blk at hwr hcurL ⊢
      clear hN3 hB3 hcur ho3 hg3 c1 HN HB
      go_loopw [36] (fun i wq => ∃ (k : Nat) (cu : Array Value), k ≤ p.length ∧ i = .int .i64 k ∧ wq.heap[blk]? = some (.cells cu 3 (0, 0)) ∧ cu.size = p.length ∧ (∀ j, j < k → cu[j]? = some (encN j)) ∧ wq.heap[w.heap.size]? = some (.cells #[.slice A p.length c] 22 (0, 0)) ∧ Below w.heap.size w wq) (fun i _ => p.length - (intOf i).toNat)
      case atStart => exact ⟨0, cur, by omega, rfl, hcurL.out, hcs, (fun j hj => by omega), hN3L.out, hB3L.out⟩
      case round =>
        obtain ⟨k2, cu, hk2, rfl, hcu, hcz, hcj, hN, hB⟩ := hrel
        have HCU := Lib.hid hcu
        have HCJ := Lib.hid hcj
        have HN := Lib.hid hN
        have HB := Lib.hid hB
        clear hcu hcj hN hB
        by_cases hkl2 : k2 < p.length
        · have hkl2' : (k2 : Int) < (p.length : Int) := by omega
          have d1 : wr.cell? ⟨blk, k2, none⟩ = some (cu[k2]'(by omega)) := by rw [blk_cell HCU.out]; exact Array.getElem?_eq_getElem (by omega)
          have df := blk_fz HCU.out k2
          generalize cu[k2]'(by omega) = ov at d1
          go_wp2
          go_roundw
          case rel =>
            refine ⟨k2 + 1, cu.setIfInBounds k2 (encN k2), by omega, by go_num, blk_set HCU.out k2 _, by simp; omega, fun j hj => ?_, ?_, HB.out.setCell (p := ⟨blk, k2, none⟩) (show w.heap.size ≤ blk by omega) _⟩
            · rw [Array.getElem?_setIfInBounds]
              by_cases e : k2 = j
              · subst e; rw [if_pos rfl, if_pos (by omega)]
              · rw [if_neg e]; exact HCJ.out j (by omega)
            · rw [heap_setCell_other _ _ _ _ (by show w.heap.size ≠ blk; omega)]; exact HN.out
          case measure => simp [intOf]; omega
        · have hkl2' : ¬ (k2 : Int) < (p.length : Int) := by omega
          have hcuE : cu = ((List.range p.length).map encN).toArray := by
            apply Array.ext
            · simp [hcz]
            · intro j h1 h2
              have hj := HCJ.out j (by omega)
              rw [Array.getElem?_eq_getElem h1] at hj
              simp
              exact Option.some.inj hj
          subst hcuE
          have q1 := (blk_cell HN.out 0).trans rfl
          have C44 := Lib.hid (sort_places w.heap.size p.length c blk p.length A p wr rfl (by omega) q1 (HA.out.below HB.out) (by omega) (fun ad e hp => by have := HALT.out ad e hp; omega) HCU.out)
          clear hcz HCJ
          cases hcl : clashL [] p 0 with
          | some i =>
            have hci : clashI p = (i : Int) := by unfold clashI; rw [hcl]
            have hbd : bldE p = some ((i : Int), 7) := by
              have hb := (badL_none p 0).2 HMA.out
              unfold bldE
              rw [if_neg hl', hb]
              simp only [hcl]
            have HBD := Lib.hid hbd
            clear hbd hcl
            go_wp2_with (first
              | (go_at_call 44; refine C44.out.mono ?_; rintro e w6 ⟨rfl, o, hpo, hso, h6, hg6⟩; have hn6 := (hg6.block w.heap.size (heap_lt HN.out) (by simp; omega)).trans HN.out; have HB6 := Lib.hid (HB.out.grown hg6 HB.out.size (fun g e => by injection e with e; omega)); have q6 := (blk_cell hn6 0).trans rfl; clear hpo hso h6 hg6 hn6 q1)
              | (go_at_call 49; refine (clash_any A c p _ (HA.out.below HB6.out) h HMA.out).mono ?_; rintro e w7 ⟨rfl, hb7⟩; rw [hci]; have hbb := below_to HB6.out hb7; have g7 : w7.cell? ⟨4, 0, none⟩ = some (.iface 189 (.pointer (some e7))) := cell_in hbb HE7.out; have HBB := Lib.hid hbb; clear hb7 hbb)
              | (go_at_call 36; (with_reducible refine Calls.mono (fault_at _ _ _ _) ?_); rintro e w8 ⟨rfl, rfl⟩))
            go_ret2
            have hF := flt_here w7 (i : Int) 7 (by omega) (by omega) 189 (.pointer (some e7)) g7
            exact ⟨.slice none 0 0, .iface 70 (.pointer (some ⟨w7.heap.size, 0, none⟩)), rfl, by rw [HBD.out]; exact hF, (fun h => by rw [HBD.out] at h; cases h), (fun _ => rfl), HBB.out.alloc HBB.out.size _⟩
          | none =>
            have hci : clashI p = -1 := by unfold clashI; rw [hcl]
            have hbd : bldE p = none := by
              have hb := (badL_none p 0).2 HMA.out
              unfold bldE
              rw [if_neg hl', hb]
              simp only [hcl]
            have HBD := Lib.hid hbd
            clear hbd hcl
            go_wp2_with (first
              | (go_at_call 44; refine C44.out.mono ?_; rintro e w6 ⟨rfl, o, hpo, hso, h6, hg6⟩; have hn6 := (hg6.block w.heap.size (heap_lt HN.out) (by simp; omega)).trans HN.out; have HB6 := Lib.hid (HB.out.grown hg6 HB.out.size (fun g e => by injection e with e; omega)); have q6 := (blk_cell hn6 0).trans rfl; have HPO := Lib.hid hpo; have HSO := Lib.hid hso; have H6 := Lib.hid h6; have HN6 := Lib.hid hn6; clear hpo hso h6 hg6 hn6 q1)
              | (go_at_call 49; refine (clash_any A c p _ (HA.out.below HB6.out) h HMA.out).mono ?_; rintro e w7 ⟨rfl, hb7⟩; rw [hci]; have HBB := Lib.hid (below_to HB6.out hb7); have H7 := Lib.hid (below_blk hb7 H6.out); have HN7 := Lib.hid (below_blk hb7 HN6.out); clear hb7))
            have hol : o.length = p.length := by have := HPO.out.length_eq; simpa using this
            have hom : ∀ a ∈ o, a < p.length := fun a ha => List.mem_range.1 (HPO.out.subset ha)
            have HOM := Lib.hid hom
            have hsz7 := HBB.out.size
            have hblk7 : blk < w7.heap.size := heap_lt H7.out
            clear hom
            go_loopw [9, 56] (fun v i wq => ∃ k : Nat, k ≤ p.length ∧ i = .int .i64 k ∧ wq.ownsRow w7.heap.size 28 3 v k (cells3 ((o.take k).map (fun a => p.getD a z3))) ∧ Below w7.heap.size w7 wq) (fun _ i _ => p.length - (intOf i).toNat)
            case atStart => exact ⟨0, by omega, rfl, World.ownsRow_nil _ _ _ _, Below.refl _ _⟩
            case round =>
              obtain ⟨k3, hk3, rfl, ho, hB3⟩ := hrel
              obtain ⟨xs, hxs⟩ : ∃ xs, cells3 ((o.take k3).map (fun a => p.getD a z3)) = xs := ⟨_, rfl⟩
              rw [hxs] at ho
              have HXS := Lib.hid hxs
              clear hxs
              have HO := Lib.hid ho
              have HB3 := Lib.hid hB3
              clear ho hB3
              by_cases hkl3 : k3 < p.length
              · have hkl3' : (k3 : Int) < (p.length : Int) := by omega
                have hx : k3 < o.length := by rw [hol]; exact hkl3
                have htk : o.take (k3 + 1) = o.take k3 ++ [o[k3]] := List.take_succ_eq_append_getElem hx
                have hoa := HOM.out _ (List.getElem_mem hx)
                have d1 : wr.cell? ⟨blk, k3, none⟩ = some (.int .i64 (o[k3] : Int)) := by
                  rw [HB3.out.cell (p := ⟨blk, k3, none⟩) hblk7, blk_cell H7.out]
                  simp [hx, encN]
                generalize o[k3] = a at htk hoa d1
                have hoa' : (a : Int) < (p.length : Int) := by omega
                have hoa0 : (0 : Int) ≤ (a : Int) := by omega
                have q8 : wr.cell? ⟨w.heap.size, 0, none⟩ = some (.slice A p.length c) := (HB3.out.cell (p := ⟨w.heap.size, 0, none⟩) (heap_lt HN7.out)).trans ((blk_cell HN7.out 0).trans rfl)
                obtain ⟨ad, rfl, hcs⟩ := HA.out (by omega)
                obtain ⟨a0, a1, a2⟩ := hcs a hoa
                have hga := getD_at p a hoa
                generalize p[a] = x at a0 a1 a2 hga
                obtain ⟨lo, hi, va⟩ := x
                dsimp only at a0 a1 a2
                have hB8 : Below w.heap.size w wr := below_to HBB.out HB3.out
                have b0 : wr.cell? (ad.add (a * 3)) = some (.int .i32 lo) := cell_in hB8 a0
                have b1 : wr.cell? { block := (ad.add (a * 3)).block, off := (ad.add (a * 3)).off + 1 } = some (.int .i32 hi) := by have h := cell_in hB8 a1; rw [← Addr.add_add] at h; exact h
                have b2 : wr.cell? { block := (ad.add (a * 3)).block, off := (ad.add (a * 3)).off + 2 } = some (.int .i64 va) := by have h := cell_in hB8 a2; rw [← Addr.add_add] at h; exact h
                have HTK := Lib.hid htk
                have HGA := Lib.hid hga
                clear a0 a1 a2 hcs hB8 htk hga hx
                go_wp2_with (at_builtin; refine wpList_append_own _ rfl _ _ 22 rfl w7.heap.size 28 i0 _ 3 16 Tryz.underlying22 hi0 hz0 hz1 hz2 rfl (by decide) u9 k3 xs rfl (HO.out.alloc _) ⟨wr.heap.size, 0, none⟩ 1 1 [.int .i32 lo, .int .i32 hi, .int .i64 va] rfl rfl ?c1 ?c2 ?c3 ?c4 ?c5 ?_)
                case c1 =>
                  have h := blk_new wr (.cells #[.int .i32 lo, .int .i32 hi, .int .i64 va] 28)
                  exact World.news_of_block (cs := #[.int .i32 lo, .int .i32 hi, .int .i64 va]) (t := 28) (fr := (0, 0)) h
                case c2 => simp [Value.oneCell']
                case c3 => simp only [maxLen]; omega
                case c4 => omega
                case c5 => have h1 := HB3.out.size; simp; omega
                intro v' w10 hown' hgrow _
                have hrow : ∀ g, u9.ownBlock = some g → w7.heap.size ≤ g := fun g hg => (HO.out.lt g hg).1
                have hB10 : Below w7.heap.size w7 w10 := Below.grown (HB3.out.alloc HB3.out.size _) hgrow (by have := HB3.out.size; simp; omega) hrow
                have HB10 := Lib.hid hB10
                have HO10 := Lib.hid hown'
                clear hrow hB10 hgrow hown'
                go_wp2
                go_roundw
                case rel =>
                  refine ⟨k3 + 1, by omega, by go_num, ?_, HB10.out⟩
                  rw [HTK.out, List.map_append, cells3_append, List.map_singleton, HGA.out, HXS.out]
                  exact HO10.out
                case measure => simp [intOf]; omega
              · have hkl3' : ¬ (k3 : Int) < (p.length : Int) := by omega
                have htk : o.take k3 = o := List.take_of_length_le (by omega)
                have hke : k3 = p.length := by omega
                have hfin : wr.ownsRow w7.heap.size 28 3 u9 p.length (cells3 (sortR p)) := by
                  have h1 := HO.out
                  rw [← HXS.out, htk, hke] at h1
                  have hpm : (o.map (fun a => p.getD a z3)).Perm p := by
                    have h2 := HPO.out.map (fun a => p.getD a z3)
                    have e : (List.range p.length).map (fun a => p.getD a z3) = p := by
                      apply List.ext_getElem
                      · simp
                      · intro j h3 h4
                        simp [h4]
                    rw [e] at h2
                    exact h2
                  have hps : (o.map (fun a => p.getD a z3)).Pairwise (fun a b => a.1 ≤ b.1) := by
                    rw [List.pairwise_map]
                    exact HSO.out
                  rw [sortR_eq p _ HBD.out hps hpm] at h1
                  exact h1
                have HF := Lib.hid hfin
                clear htk hke hfin
                go_wp2
                go_ret2
                refine ⟨u9, .nilIface, rfl, by rw [HBD.out]; rfl, fun _ => ?_, (fun h => absurd HBD.out h), below_to HBB.out HB3.out⟩
                have h1 := HF.out
                refine ⟨h1.1, ?_⟩
                rcases h1.2 with h2 | ⟨g, cap, cur, e1, e2, e3⟩
                · exact .inl h2
                · exact .inr ⟨g, cap, cur, e1, by omega, e3⟩
/-- ranges.Build. -/
theorem build_any (A : Option Addr) (c : Nat) (p : List Rg) (w : World) (hI : IsInv w) (hA : Lies w A p) :
    Calls Tryz.prog 24 #[.slice A p.length c] w (BuildEnd p w) := by
  by_cases h : 2000 < p.length
  · exact build_full A c p w hI h
  · exact build_small A c p w hI hA (by omega)
end Go.Proofs.YthggpjiabklekaaGreatDoor
