/- The document's Check and Build, plain. -/
import Derived.Test.YthggpjiabklekaaGreatDoorPRgx4
import Derived.Test.YthggpjiabklekaaGreatDoorPn
import Derived.Test.YthggpjiabklekaaGreatDoorBz
import Derived.Test.YthggpjiabklekaaGreatDoorKt
import Derived.Test.YthggpjiabklekaaGreatDoorPRgx5
import Derived.Test.YthggpjiabklekaaGreatDoorPm
namespace Go.Proofs.YthggpjiabklekaaGreatDoor.PRg
set_option linter.unusedSimpArgs false
set_option linter.unusedVariables false
open Go.RowKit Go.Proofs.YthggpjiabklekaaGreatDoorW.PrintWords Go.Proofs.YthggpjiabklekaaGreatDoorW.PrintLast Go.Proofs.YthggpjiabklekaaGreatDoorW.PrintMore

/-- A fault as the document's two numbers. -/
def chkR (x : Option (Int × Nat)) : Int × Int := match x with | none => (0, 0) | some (i, c) => (i, (c : Int))
def headF (q : List (Nat × Nat)) : Option (Int × Nat) := match q with | [] => none | (i, c) :: _ => some ((i : Int), c)
theorem check_full_loop (l : List S28) (hl : l.length ≤ 2000) : ∀ (n i k : Nat), i + n = l.length → n < k → eponymref03_Check.l0 k l (i : Int) = some (chkR (headF (faultsL (prevL l i) (rgs (l.drop i)) i)))
  | 0, i, k, hi, hk => by
    obtain ⟨k, rfl⟩ : ∃ k', k = k' + 1 := ⟨k - 1, by omega⟩
    rw [eponymref03_Check.l0, if_neg (by omega), List.drop_eq_nil_of_le (by omega)]
    rfl
  | n + 1, i, k, hi, hk => by
    obtain ⟨k, rfl⟩ : ∃ k', k = k' + 1 := ⟨k - 1, by omega⟩
    have hil : i < l.length := by omega
    have ih := check_full_loop l hl n (i + 1) k (by omega) (by omega)
    rw [eponymref03_Check.l0, if_pos (by omega), if_pos (by omega), rd_at l i hil, may_eq, Option.bind_some, rgs_drop l i hil, faultsL]
    rw [prev_succ l i hil] at ih
    dsimp only
    by_cases hm : mayB (l[i].f0, l[i].f1, l[i].f2) = true
    · rw [if_pos hm, if_neg (show ¬ mayB (l[i].f0, l[i].f1, l[i].f2) = false by rw [hm]; decide), w64_succ i (by omega)]
      have hm0 : 0 ≤ l[i].f0 := by have := of_decide_eq_true hm; exact this.1
      by_cases h0 : i = 0
      · subst h0
        have hp : prevL l 0 = -1 := by unfold prevL; rw [if_pos rfl]
        rw [if_neg (by omega), hp, if_neg (by omega), List.nil_append]
        exact ih
      · rw [if_pos (by omega), w64_pred i (by omega) (by omega), if_pos (by omega), if_pos (by omega), rd_at l (i - 1) (by omega)]
        have hp : prevL l i = l[i - 1].f1 := by
          have h := prev_succ l (i - 1) (by omega)
          rwa [Nat.sub_add_cancel (by omega)] at h
        rw [hp]
        by_cases hc : l[i].f0 ≤ l[i - 1].f1
        · rw [if_pos hc, if_pos hc]
          rfl
        · rw [if_neg hc, if_neg hc, List.nil_append]
          exact ih
    · have hmf : mayB (l[i].f0, l[i].f1, l[i].f2) = false := by simpa using hm
      rw [if_neg hm, if_pos hmf]
      rfl
theorem rcheck_f (l : List S28) (hl : l.length ≤ 60) (k : Nat) (hk : l.length < k) : eponymref03_Check.f k l = some (chkR (checkS (rgs l))) := by
  unfold eponymref03_Check.f
  rw [if_neg (by omega), show (0 : Int) = ((0 : Nat) : Int) from rfl, check_full_loop l (by omega) l.length 0 k (by omega) hk, List.drop_zero]
  unfold checkS
  rw [if_neg (by rw [rgs_length]; omega)]
  rfl
/-- The first phase: what may not be. -/
theorem build_l0 (l : List S28) (hl : l.length ≤ 60) (K : Nat) : ∀ (n i : Nat), i + n = l.length → eponymref03_Build.l0 (n + 1 + K) l (i : Int) = match badL (rgs (l.drop i)) i with | some j => some ([], (j : Int), 4) | none => eponymref03_Build.l1 K l 0
  | 0, i, hi => by
    rw [show 0 + 1 + K = K + 1 by omega, eponymref03_Build.l0, if_neg (by omega), List.drop_eq_nil_of_le (by omega)]
    rfl
  | n + 1, i, hi => by
    have hil : i < l.length := by omega
    rw [show n + 1 + 1 + K = (n + 1 + K) + 1 by omega, eponymref03_Build.l0, if_pos (by omega), if_pos (by omega), rd_at l i hil, may_eq, Option.bind_some, rgs_drop l i hil, badL]
    by_cases hm : mayB (l[i].f0, l[i].f1, l[i].f2) = true
    · rw [if_pos hm, if_pos hm, w64_succ i (by omega)]
      exact build_l0 l hl K n (i + 1) (by omega)
    · rw [if_neg hm, if_neg hm]
theorem rgs_take (l : List S28) (i : Nat) : rgs (l.take i) = (rgs l).take i := List.map_take ..
/-- The second phase, one range: does it have a rune of one ahead of it? -/
theorem build_l2 (l : List S28) (hl : l.length ≤ 60) (K i : Nat) (hi : i < l.length) : ∀ (m j : Nat), j + m = i → eponymref03_Build.l2 (m + 1 + K) l (i : Int) (j : Int) = if ((rgs (l.take i)).drop j).any (hits (l[i].f0, l[i].f1, l[i].f2)) = true then some ([], (i : Int), 7) else eponymref03_Build.l1 K l ((i + 1 : Nat) : Int)
  | 0, j, hj => by
    have hnil : (rgs (l.take i)).drop j = [] := List.drop_eq_nil_of_le (by rw [rgs_length, List.length_take]; omega)
    rw [show 0 + 1 + K = K + 1 by omega, eponymref03_Build.l2, if_neg (by omega), hnil, if_neg (by simp), w64_succ i (by omega)]
  | m + 1, j, hj => by
    have hjl : j < l.length := by omega
    have hjt : j < (l.take i).length := by rw [List.length_take]; omega
    have ih := build_l2 l hl K i hi m (j + 1) (by omega)
    have hd : (rgs (l.take i)).drop j = (l[j].f0, l[j].f1, l[j].f2) :: (rgs (l.take i)).drop (j + 1) := by
      have h1 : j < (rgs (l.take i)).length := by rw [rgs_length]; exact hjt
      rw [List.drop_eq_getElem_cons h1]
      congr 1
      simp [rgs]
    rw [show m + 1 + 1 + K = (m + 1 + K) + 1 by omega, eponymref03_Build.l2, if_pos (by omega), if_pos (by omega), if_pos (by omega), if_pos (by omega), if_pos (by omega), rd_at l j hjl, rd_at l i hi, w64_succ j (by omega), ih, hd, List.any_cons]
    have hq : ∀ X : Bool, (hits (l[i].f0, l[i].f1, l[i].f2) (l[j].f0, l[j].f1, l[j].f2) || X) = if l[j].f0 ≤ l[i].f1 ∧ l[i].f0 ≤ l[j].f1 then true else X := fun X => by
      unfold hits
      dsimp only
      split <;> rename_i hc
      · rw [decide_eq_true hc]; rfl
      · rw [decide_eq_false hc]; rfl
    rw [hq]
    generalize (List.drop (j + 1) (rgs (List.take i l))).any (hits (l[i].f0, l[i].f1, l[i].f2)) = X
    by_cases h1 : l[j].f0 ≤ l[i].f1
    · by_cases h2 : l[i].f0 ≤ l[j].f1
      · simp [h1, h2]
      · simp [h1, h2]
    · simp [h1]
def need1 : Nat → Nat → Nat
  | 0, _ => 1
  | n + 1, i => 1 + (i + 1) + need1 n (i + 1)
theorem build_l1 (l : List S28) (hl : l.length ≤ 60) (K : Nat) : ∀ (n i : Nat), i + n = l.length → eponymref03_Build.l1 (need1 n i + K) l (i : Int) = match clashL (rgs (l.take i)) (rgs (l.drop i)) i with | some j => some ([], (j : Int), 7) | none => eponymref03_Build.l3 K l [] 0
  | 0, i, hi => by
    rw [need1, show 1 + K = K + 1 by omega, eponymref03_Build.l1, if_neg (by omega), List.drop_eq_nil_of_le (by omega)]
    rfl
  | n + 1, i, hi => by
    have hil : i < l.length := by omega
    have h2 := build_l2 l hl (need1 n (i + 1) + K) i hil i 0 (by omega)
    rw [need1, show 1 + (i + 1) + need1 n (i + 1) + K = (i + 1 + (need1 n (i + 1) + K)) + 1 by omega, eponymref03_Build.l1, if_pos (by omega), show (0 : Int) = ((0 : Nat) : Int) from rfl, h2, rgs_drop l i hil, clashL, List.drop_zero]
    by_cases hh : (rgs (l.take i)).any (hits (l[i].f0, l[i].f1, l[i].f2)) = true
    · rw [if_pos hh, if_pos hh]
    · rw [if_neg hh, if_neg hh, build_l1 l hl K n (i + 1) (by omega)]
      have e : rgs (l.take (i + 1)) = rgs (l.take i) ++ [(l[i].f0, l[i].f1, l[i].f2)] := by
        rw [List.take_succ_eq_append_getElem hil]
        unfold rgs
        rw [List.map_append]
        rfl
      rw [e]
      rfl
def insS (x : S28) : List S28 → List S28
  | [] => [x]
  | y :: r => if x.f0 < y.f0 then x :: y :: r else y :: insS x r
theorem insS_rgs (x : S28) : ∀ (l : List S28), rgs (insS x l) = insR (x.f0, x.f1, x.f2) (rgs l)
  | [] => rfl
  | y :: r => by
    rw [insS, show rgs (y :: r) = (y.f0, y.f1, y.f2) :: rgs r from rfl, insR]
    by_cases h : x.f0 < y.f0
    · rw [if_pos h, if_pos h]; rfl
    · rw [if_neg h, if_neg h, ← insS_rgs x r]; rfl
theorem insS_len (x : S28) : ∀ (l : List S28), (insS x l).length = l.length + 1
  | [] => rfl
  | y :: r => by
    rw [insS]
    split
    · rfl
    · rw [List.length_cons, insS_len x r]; rfl
/-- The third phase, one range. -/
theorem build_l4 (l : List S28) (hl : l.length ≤ 60) (K i : Nat) (hi : i < l.length) (out : List S28) (ho : out.length ≤ 60) : ∀ (m j : Nat) (nx : List S28) (d : Bool), j + m = out.length → nx.length ≤ 2 * j + 1 →
    eponymref03_Build.l4 (m + 1 + K) l out (i : Int) nx d (j : Int) = eponymref03_Build.l3 K l (nx ++ (if d = true then out.drop j else insS l[i] (out.drop j))) ((i + 1 : Nat) : Int)
  | 0, j, nx, d, hj, hn => by
    rw [show 0 + 1 + K = K + 1 by omega, eponymref03_Build.l4, if_neg (by omega), List.drop_eq_nil_of_le (by omega)]
    cases d with
    | true => rw [if_pos rfl, if_pos rfl, w64_succ i (by omega), List.append_nil]
    | false => rw [if_neg Bool.false_ne_true, if_neg Bool.false_ne_true, if_pos (by omega), if_pos (by omega), if_pos (by omega), rd_at l i hi, w64_succ i (by omega)]; rfl
  | m + 1, j, nx, d, hj, hn => by
    have hjl : j < out.length := by omega
    have hd : out.drop j = out[j] :: out.drop (j + 1) := List.drop_eq_getElem_cons hjl
    rw [show m + 1 + 1 + K = (m + 1 + K) + 1 by omega, eponymref03_Build.l4, if_pos (by omega), rd_at out j hjl, w64_succ j (by omega), hd]
    cases d with
    | true =>
      rw [if_pos rfl, if_pos (by omega), if_pos (by omega), build_l4 l hl K i hi out ho m (j + 1) _ true (by omega) (by simp; omega), if_pos rfl, if_pos rfl, List.append_assoc]
      rfl
    | false =>
      rw [if_neg Bool.false_ne_true, if_pos (by omega), if_pos (by omega), if_pos (by omega), rd_at l i hi, insS]
      by_cases h : l[i].f0 < out[j].f0
      · rw [if_pos h, if_pos h, if_pos (by omega), Option.bind_some, if_pos (by simp; omega), build_l4 l hl K i hi out ho m (j + 1) _ true (by omega) (by simp; omega), if_pos rfl, List.append_assoc, List.append_assoc]
        rfl
      · rw [if_neg h, if_neg h, if_pos (by omega), build_l4 l hl K i hi out ho m (j + 1) _ false (by omega) (by simp; omega), if_neg Bool.false_ne_true, List.append_assoc]
        rfl
def need3 : Nat → Nat → Nat
  | 0, _ => 1
  | n + 1, i => 1 + (i + 1) + need3 n (i + 1)
theorem build_l3 (l : List S28) (hl : l.length ≤ 60) (K : Nat) : ∀ (n i : Nat) (out : List S28), i + n = l.length → out.length = i → eponymref03_Build.l3 (need3 n i + K) l out (i : Int) = some ((l.drop i).foldl (fun o x => insS x o) out, 0, 0)
  | 0, i, out, hi, ho => by
    rw [need3, show 1 + K = K + 1 by omega, eponymref03_Build.l3, if_neg (by omega), List.drop_eq_nil_of_le (by omega)]
    rfl
  | n + 1, i, out, hi, ho => by
    have hil : i < l.length := by omega
    have h4 := build_l4 l hl (need3 n (i + 1) + K) i hil out (by omega) i 0 [] false (by omega) (by simp)
    rw [need3, show 1 + (i + 1) + need3 n (i + 1) + K = (i + 1 + (need3 n (i + 1) + K)) + 1 by omega, eponymref03_Build.l3, if_pos (by omega), show (0 : Int) = ((0 : Nat) : Int) from rfl, h4, if_neg Bool.false_ne_true, List.nil_append, List.drop_zero,
      build_l3 l hl K n (i + 1) _ (by omega) (by rw [insS_len]; omega), List.drop_eq_getElem_cons hil, List.foldl_cons]
    rfl
theorem need_le : ∀ (n i : Nat), i + n ≤ 60 → need1 n i ≤ 1 + n * 62 ∧ need3 n i ≤ 1 + n * 62
  | 0, i, h => ⟨Nat.le_refl _, Nat.le_refl _⟩
  | n + 1, i, h => by
    have := need_le n (i + 1) (by omega)
    rw [need1, need3]
    omega
/-- The document's Build. -/
def bldR (l : List S28) : List S28 × Int × Int := match bldE (rgs l) with | some (i, c) => ([], i, (c : Int)) | none => (l.foldl (fun o x => insS x o) [], 0, 0)
theorem rbuild_f (l : List S28) (hl : l.length ≤ 60) : eponymref03_Build.f 10000 l = some (bldR l) := by
  have hn := need_le l.length 0 (by omega)
  obtain ⟨K, hK⟩ : ∃ K, 10000 = l.length + 1 + (need1 l.length 0 + (need3 l.length 0 + K)) := ⟨10000 - (l.length + 1 + (need1 l.length 0 + need3 l.length 0)), by omega⟩
  unfold eponymref03_Build.f bldR bldE
  rw [if_neg (by omega), if_neg (by rw [rgs_length]; omega), hK, show (0 : Int) = ((0 : Nat) : Int) from rfl, build_l0 l hl _ l.length 0 (by omega), List.drop_zero]
  cases badL (rgs l) 0 with
  | some i => rfl
  | none =>
    have h1 := build_l1 l hl (need3 l.length 0 + K) l.length 0 (by omega)
    rw [List.drop_zero, List.take_zero] at h1
    dsimp only
    rw [show (0 : Int) = ((0 : Nat) : Int) from rfl, h1]
    show (match clashL [] (rgs l) 0 with | some j => _ | none => _) = _
    cases clashL [] (rgs l) 0 with
    | some i => rfl
    | none =>
      have h3 := build_l3 l hl K l.length 0 [] (by omega) rfl
      rw [List.drop_zero] at h3
      exact h3
theorem foldl_rgs : ∀ (l o : List S28), rgs (l.foldl (fun o x => insS x o) o) = (rgs l).foldl (fun o x => insR x o) (rgs o)
  | [], o => rfl
  | x :: r, o => by rw [List.foldl_cons, foldl_rgs r, insS_rgs]; rfl
theorem foldl_len : ∀ (l o : List S28), (l.foldl (fun o x => insS x o) o).length = o.length + l.length
  | [], o => rfl
  | x :: r, o => by rw [List.foldl_cons, foldl_len r, insS_len, List.length_cons]; omega
theorem sorted_rgs (l : List S28) : rgs (l.foldl (fun o x => insS x o) []) = sortR (rgs l) := foldl_rgs l []
end Go.Proofs.YthggpjiabklekaaGreatDoor.PRg

/- RangesChecks: the law's walk. -/
namespace Go.Proofs.YthggpjiabklekaaGreatDoor.PRg
set_option linter.unusedSimpArgs false
set_option linter.unusedVariables false
open Go.RowKit Go.Lib Go.Proofs.YthggpjiabklekaaGreatDoorW.PrintWords Go.Proofs.YthggpjiabklekaaGreatDoorW.PrintLast Go.Proofs.YthggpjiabklekaaGreatDoorW.PrintMore

theorem same_loopB (l : List S28) (hl : l.length ≤ 2000) : ∀ (n i k : Nat), i + n = l.length → n < k → eponymref03_Same.l0 k l l (i : Int) = some true
  | 0, i, k, hi, hk => by
    obtain ⟨k, rfl⟩ : ∃ k', k = k' + 1 := ⟨k - 1, by omega⟩
    rw [eponymref03_Same.l0, if_neg (by omega)]
  | n + 1, i, k, hi, hk => by
    obtain ⟨k, rfl⟩ : ∃ k', k = k' + 1 := ⟨k - 1, by omega⟩
    have hil : i < l.length := by omega
    rw [eponymref03_Same.l0, if_pos (by omega), if_pos (by omega), if_pos (by omega), if_neg (by simp), w64_succ i (by omega)]
    exact same_loopB l hl n (i + 1) k (by omega) (by omega)
theorem same_fB (l : List S28) (hl : l.length ≤ 60) : eponymref03_Same.f 400 l l = some true := by
  unfold eponymref03_Same.f
  rw [if_pos rfl]
  exact same_loopB l (by omega) l.length 0 400 (by omega) (by omega)
theorem rows_ofB {w : World} {base : Nat} {v : Value} (l : List S28) (hl : l.length ≤ 60) (h : w.ownsRow base 28 3 v l.length (cells3 (rgs l))) : ∃ A c, v = .slice A l.length c ∧ l.length ≤ c ∧ Kd.C k28 w A l.length l := by
  rcases h.2 with ⟨e, h0⟩ | ⟨g, cap, cur, e, h1, h2, h3, h4, h5, h6⟩
  · have hn : l = [] := List.length_eq_zero_iff.1 h0
    subst hn
    exact ⟨none, 0, e, Nat.le_refl _, Kd.C_nil _ _⟩
  · refine ⟨some ⟨g, 0, none⟩, cap, e, h3, ⟨rfl, by first | omega | (unfold maxLen; omega), fun _ => ⟨_, rfl, fun j p hp => ⟨[.int .i32 p.f0, .int .i32 p.f1, .int .i64 p.f2], rfl, k28_mk w p, fun i u hu => ?_⟩⟩⟩⟩
    subst e
    have hj : j < l.length := (List.getElem?_eq_some_iff.1 hp).1
    have hpe : l[j] = p := (List.getElem?_eq_some_iff.1 hp).2
    have hj' : j < (rgs l).length := by rw [rgs_length]; exact hj
    have eg : (rgs l)[j] = (p.f0, p.f1, p.f2) := by rw [← hpe]; simp [rgs]
    obtain ⟨c1, c2, c3⟩ := cells3_at (rgs l) j hj'
    rw [eg] at c1 c2 c3
    match i, hu with
    | 0, hu =>
      obtain rfl : Value.int .i32 p.f0 = u := by simpa using hu
      have h := h.cellAt (j * 3) (by omega); rw [c1] at h; rw [addr0]; exact h
    | 1, hu =>
      obtain rfl : Value.int .i32 p.f1 = u := by simpa using hu
      have h := h.cellAt (j * 3 + 1) (by omega); rw [c2] at h; rw [addr0]; exact h
    | 2, hu =>
      obtain rfl : Value.int .i64 p.f2 = u := by simpa using hu
      have h := h.cellAt (j * 3 + 2) (by omega); rw [c3] at h; rw [addr0]; exact h
/-- What is told of a fault is that fault. -/
theorem isB_chk (x : Option (Int × Nat)) (h : ∀ a c, x = some (a, c) → 1 ≤ c) : isB x (chkR x).1 (chkR x).2 = true := by
  match x, h with
  | none, _ => rfl
  | some (a, c), h =>
    have := h a c rfl
    unfold isB chkR
    simp
    omega
theorem chkR_in (x : Option (Int × Nat)) (h : ∀ a c, x = some (a, c) → 1 ≤ c ∧ c ≤ 18) : 0 ≤ (chkR x).2 ∧ (chkR x).2 ≤ 18 := by
  match x, h with
  | none, _ => exact ⟨by decide, by decide⟩
  | some (a, c), h =>
    have := h a c rfl
    unfold chkR
    dsimp only
    omega
theorem checkS_in (p : List Rg) (a : Int) (c : Nat) (h : checkS p = some (a, c)) : 1 ≤ c ∧ c ≤ 18 := by
  unfold checkS at h
  split at h
  · injection h with h; injection h with h1 h2; omega
  · cases hf : faultsL (-1) p 0 with
    | nil => rw [hf] at h; cases h
    | cons x r =>
      rw [hf] at h
      have := faultsL_code p (-1) 0 x (by rw [hf]; exact List.mem_cons_self)
      obtain ⟨i, d⟩ := x
      injection h with h; injection h with h1 h2
      dsimp only at this
      omega
theorem bldE_in (p : List Rg) (a : Int) (c : Nat) (h : bldE p = some (a, c)) : 1 ≤ c ∧ c ≤ 18 := by
  unfold bldE at h
  split at h
  · injection h with h; injection h with h1 h2; omega
  · split at h
    · injection h with h; injection h with h1 h2; omega
    · split at h
      · injection h with h; injection h with h1 h2; omega
      · cases h
theorem bldR_num (l : List S28) : (bldR l).2 = chkR (bldE (rgs l)) := by
  unfold bldR chkR
  cases bldE (rgs l) with
  | none => rfl
  | some x => rfl
theorem bldR_len (l : List S28) : (bldR l).1.length ≤ l.length := by
  unfold bldR
  cases bldE (rgs l) with
  | none => dsimp only; rw [foldl_len]; simp
  | some x => simp
/-- What Build hands back, as the document's list. -/
theorem build_rows (l : List S28) (hl : l.length ≤ 60) {w w' : World} {e : Ending} (h : BuildEnd (rgs l) w e w') :
    ∃ (Am : Option Addr) (cm : Nat) (er : Value), e = .returned (.tuple #[.slice Am (bldR l).1.length cm, er]) ∧ FltIs w' er (bldE (rgs l)) ∧ (bldR l).1.length ≤ cm ∧ Kd.C k28 w' Am (bldR l).1.length (bldR l).1 ∧ Below w.heap.size w w' := by
  obtain ⟨v, er, rfl, hf, h1, h2, hb⟩ := h
  cases hE : bldE (rgs l) with
  | none =>
    have ho := h1 hE
    have e1 : (bldR l).1 = l.foldl (fun o x => insS x o) [] := by unfold bldR; rw [hE]
    rw [e1]
    have hlen : (l.foldl (fun o x => insS x o) []).length = l.length := by rw [foldl_len]; simp
    rw [← sorted_rgs l, rgs_length, ← hlen] at ho
    obtain ⟨Am, cm, rfl, hc, hk⟩ := rows_ofB (l.foldl (fun o x => insS x o) []) (by omega) ho
    exact ⟨Am, cm, er, rfl, by rw [← hE]; exact hf, hc, hk, hb⟩
  | some x =>
    have hv := h2 (by rw [hE]; simp)
    subst hv
    have e1 : (bldR l).1 = [] := by unfold bldR; rw [hE]
    rw [e1]
    exact ⟨none, 0, er, rfl, by rw [← hE]; exact hf, Nat.le_refl _, Kd.C_nil _ _, hb⟩
set_option maxRecDepth 100000 in
set_option maxHeartbeats 4000000 in
theorem checks_small (A : Option Addr) (c : Nat) (l : List S28) (w : World) (hI : RInv w) (hr : Kd.C k28 w A l.length l) (hc : l.length ≤ c) (hl : l.length ≤ 60) :
    Calls Tryz.prog 8 #[.slice A l.length c] w fun e w' => e = .returned (.bool true) ∧ Below w.heap.size w w' := by
  have hl' : ¬ (l.length : Int) > 60 := by omega
  have HI := Lib.hid hI
  have HR := Lib.hid hr
  have hlen : (rgs l).length = l.length := rgs_length l
  have C := Lib.hid (fun x (hb : Below w.heap.size w x) => awake_any x (HI.out.below hb))
  have hci := chkR_in (checkS (rgs l)) (checkS_in (rgs l))
  have hcb := isB_chk (checkS (rgs l)) (fun a c h => (checkS_in (rgs l) a c h).1)
  have CR := Lib.hid (fun x (hb : Below w.heap.size w x) => eponymref03_Check.calls 400 A c l (chkR (checkS (rgs l))).1 (chkR (checkS (rgs l))).2 x (Kd.C_below HR.out hb) hc (rcheck_f l hl 400 (by omega)))
  have CK := Lib.hid (fun x (hb : Below w.heap.size w x) => check_small A c (rgs l) x (HI.out.below hb).is (lies_of (Kd.C_below HR.out hb)) (by rw [hlen]; omega))
  have hdi := chkR_in (bldE (rgs l)) (bldE_in (rgs l))
  have hdb := isB_chk (bldE (rgs l)) (fun a c h => (bldE_in (rgs l) a c h).1)
  rw [← bldR_num] at hdi hdb
  have CB := Lib.hid (fun x (hb : Below w.heap.size w x) => (build_any A c (rgs l) x (HI.out.below hb).is (lies_of (Kd.C_below HR.out hb))).mono (fun e w' h => build_rows l hl h))
  have CQ := Lib.hid (fun x (hb : Below w.heap.size w x) => eponymref03_Build.calls 10000 A c l (bldR l).1 (bldR l).2.1 (bldR l).2.2 x (Kd.C_below HR.out hb) hc (rbuild_f l hl))
  rw [hlen] at CK CB
  have hbl := bldR_len l
  generalize bldR l = br at CB CQ hdi hdb hbl
  obtain ⟨m, bi, bn⟩ := br
  generalize chkR (checkS (rgs l)) = cr at CR hci hcb
  obtain ⟨ci, cn⟩ := cr
  generalize checkS (rgs l) = ck at CK hcb
  generalize bldE (rgs l) = cb at CB hdb
  dsimp only at CB CQ CR hci hcb hdi hdb hbl
  have CS := Lib.hid (fun A1 c1 A2 c2 x (h1 : Kd.C k28 x A1 m.length m) (hc1 : m.length ≤ c1) (h2 : Kd.C k28 x A2 m.length m) (hc2 : m.length ≤ c2) => eponymref03_Same.calls 400 A1 c1 m A2 c2 m true x h1 hc1 h2 hc2 (same_fB m (by omega)))
  have HCB := Lib.hid hcb
  have HDB := Lib.hid hdb
  clear hI hr hlen hcb hdb hbl
  go_enter Tryz.func8, Tryz.ntmps8
  go_wp2_with (first
    | (go_at_call 18; refine (CS.out _ _ _ _ _ KM7.out HCM.out KQ7.out HCQ.out).mono ?_; rintro e w8 ⟨rfl, hb⟩; have HB8 := Lib.hid (Go.Proofs.YthggpjiabklekaaGreatDoor.below_to HB7.out hb.below); clear hb)
    | (go_at_call 19; refine (is_any er cb bi bn hdi.1 hdi.2 w6 HF6.out (HI.out.below HB6.out).is).mono ?_; rintro e w7 ⟨rfl, hb⟩; rw [HDB.out]; have HB7 := Lib.hid (Go.Proofs.YthggpjiabklekaaGreatDoor.below_to HB6.out hb); have KM7 := Lib.hid (Kd.C_below KM6.out hb); have KQ7 := Lib.hid (Kd.C_below KQ6.out hb); clear hb)
    | (go_at_call 19; refine (is_any v5 ck ci cn hci.1 hci.2 w5 HV5.out (HI.out.below HB5.out).is).mono ?_; rintro e w6 ⟨rfl, hb⟩; rw [HCB.out]; have HB6 := Lib.hid (Go.Proofs.YthggpjiabklekaaGreatDoor.below_to HB5.out hb); have KM6 := Lib.hid (Kd.C_below KM5.out hb); have KQ6 := Lib.hid (Kd.C_below KQ5.out hb); have HF6 := Lib.hid (HF5.out.below hb); clear hb)
    | (go_at_call 26; refine (CK.out _ HB4.out).mono ?_; rintro e w5 ⟨v5, rfl, hv5, hb⟩; have HV5 := Lib.hid hv5; have HB5 := Lib.hid (Go.Proofs.YthggpjiabklekaaGreatDoor.below_to HB4.out hb); have KM5 := Lib.hid (Kd.C_below KM4.out hb); have KQ5 := Lib.hid (Kd.C_below KQ4.out hb); have HF5 := Lib.hid (HF4.out.below hb); clear hv5 hb)
    | (go_at_call 25; refine (CQ.out _ HB3.out).mono ?_; rintro e w4 ⟨v4, rfl, ho, hb⟩; obtain ⟨Aq, cq, rfl⟩ := Kd.R_slice ho; have HCQ := Lib.hid (Kd.R_reads' ho).2.1; have KQ4 := Lib.hid (Kd.R_reads' ho).2.2; have HB4 := Lib.hid (Go.Proofs.YthggpjiabklekaaGreatDoor.below_to HB3.out hb); have KM4 := Lib.hid (Kd.C_below KM3.out hb); have HF4 := Lib.hid (HF3.out.below hb); clear ho hb)
    | (go_at_call 24; refine (CB.out _ HB2.out).mono ?_; rintro e w3 ⟨Am, cm, er, rfl, hf, hcm, hkm, hb⟩; have HF3 := Lib.hid hf; have HCM := Lib.hid hcm; have KM3 := Lib.hid hkm; have HB3 := Lib.hid (Go.Proofs.YthggpjiabklekaaGreatDoor.below_to HB2.out hb); clear hf hcm hkm hb)
    | (go_at_call 23; refine (CR.out _ HB1.out).mono ?_; rintro e w2 ⟨rfl, hb⟩; have HB2 := Lib.hid (Go.Proofs.YthggpjiabklekaaGreatDoor.below_to HB1.out hb); clear hb)
    | (go_at_call 10; refine (C.out _ (Below.refl _ _)).mono ?_; rintro e w1 ⟨rfl, hb⟩; have HB1 := Lib.hid hb; clear hb))
  go_ret
  exact ⟨by first | rfl | simp, HB8.out⟩
theorem checks_any (A : Option Addr) (c : Nat) (l : List S28) (w : World) (hI : RInv w) (hr : Kd.C k28 w A l.length l) (hc : l.length ≤ c) :
    Calls Tryz.prog 8 #[.slice A l.length c] w fun e w' => e = .returned (.bool true) ∧ Below w.heap.size w w' := by
  by_cases hl : l.length ≤ 60
  · exact checks_small A c l w hI hr hc hl
  · have C := Lib.hid (awake_any w hI)
    have hl' : (l.length : Int) > 60 := by omega
    clear hI hl hr
    go_enter Tryz.func8, Tryz.ntmps8
    go_wp2_with (go_at_call 10; refine C.out.mono ?_; rintro e w1 ⟨rfl, hb⟩; have HB := Lib.hid hb; clear hb)
    go_ret
    exact ⟨rfl, HB.out⟩
end Go.Proofs.YthggpjiabklekaaGreatDoor.PRg
