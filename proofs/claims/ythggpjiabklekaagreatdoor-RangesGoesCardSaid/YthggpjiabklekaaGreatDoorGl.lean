/- RangesGoes: the law's walk. -/
import Derived.Test.YthggpjiabklekaaGreatDoorKi
import Derived.Test.YthggpjiabklekaaGreatDoorGq
import Derived.Test.YthggpjiabklekaaGreatDoorPm
namespace Go.Proofs.YthggpjiabklekaaGreatDoor.PRg
set_option linter.unusedSimpArgs false
set_option linter.unusedVariables false
open Go.RowKit Go.Lib Go.Shelf Go.Proofs.YthggpjiabklekaaGreatDoorW.PrintWords Go.Proofs.YthggpjiabklekaaGreatDoorW.PrintLast Go.Proofs.YthggpjiabklekaaGreatDoorW.PrintMore
attribute [local go_sem] Oper.semAt_some

/-- One round of the law: is all well, and the last rune. -/
def goodF (p : List Rg) (s : Bool × Int) (x : Int × Int) : Bool × Int := (s.1 && (findS p x.1).2 && (x.2 == (findS p x.1).1) && decide (x.1 > s.2), x.1)
def goodA (p : List Rg) (pre : List (Int × Int)) : Bool × Int := pre.foldl (goodF p) (true, -1)
theorem goodA_snoc (p : List Rg) (pre : List (Int × Int)) (x : Int × Int) : goodA p (pre ++ [x]) = goodF p (goodA p pre) x := by unfold goodA; rw [List.foldl_append]; rfl
theorem good_fold (p : List Rg) : ∀ (ys : List (Int × Int)) (la : Int), (∀ y ∈ ys, findS p y.1 = (y.2, true) ∧ la < y.1) → ys.Pairwise (fun a b => a.1 < b.1) → (ys.foldl (goodF p) (true, la)).1 = true
  | [], _, _, _ => rfl
  | y :: r, la, h, hP => by
    have h1 := h y List.mem_cons_self
    rw [List.pairwise_cons] at hP
    have e : goodF p (true, la) y = (true, y.1) := by unfold goodF; rw [h1.1]; simp [h1.2]
    rw [List.foldl_cons, e]
    exact good_fold p r y.1 (fun z hz => ⟨(h z (List.mem_cons_of_mem _ hz)).1, hP.1 z hz⟩) hP.2
theorem good_pre (p : List Rg) (hT : Tab (-1) p) (pre : List (Int × Int)) (h : pre <+: goesL p) : (goodA p pre).1 = true := by
  refine good_fold p pre (-1) (fun y hy => ?_) ((goesL_rise p _ hT).sublist h.sublist)
  have hm := h.subset hy
  obtain ⟨x, hx, h1, h2, h3⟩ := goesL_mem p _ hT y hm
  have := tab_ge p _ hT x hx
  exact ⟨goesL_find p hT y hm, by omega⟩
theorem keepsFrom_below {B : Nat} {W W' : World} (h : Below W.heap.size W W') : KeepsFrom B W W' := ⟨h.size, fun k o _ hk _ => (h.block k (Go.Proofs.YthggpjiabklekaaGreatDoor.heap_lt hk)).trans hk⟩
theorem row_own {w : World} {base : Nat} {v : Value} {p : List Rg} (h : w.ownsRow base 28 3 v p.length (cells3 p)) : ∃ A c, v = .slice A p.length c ∧ RowAt base w A p := by
  rcases h.2 with ⟨rfl, h0⟩ | ⟨g, cap, cur, rfl, hbase, hb, h1, h2, h3, h4⟩
  · exact ⟨none, 0, by rw [h0], fun hp => by omega⟩
  · refine ⟨_, _, rfl, fun hp => ⟨g, cur, _, rfl, hbase, hb, fun j hj => ?_⟩⟩
    obtain ⟨c0, c1, c2⟩ := cells3_at p j hj
    refine ⟨?_, ?_, ?_⟩
    · rw [← c0, ← h4, List.getElem?_take_of_lt (by omega), Array.getElem?_toList]
    · rw [← c1, ← h4, List.getElem?_take_of_lt (by omega), Array.getElem?_toList]
    · rw [← c2, ← h4, List.getElem?_take_of_lt (by omega), Array.getElem?_toList]
theorem keepsOwn_b2 {n₀ n₁ : Nat} {w : World} (hn : n₀ ≤ w.heap.size) (W : World) (l : Nat) (o o' : Obj) (hl : w.heap.size ≤ l) (h : W.heap[l]? = some o) (hc : o.isCells = false) (hw : o.isWalk = false) : KeepsOwn n₀ n₁ W (W.putObj l o') := by
  refine ⟨belowK_b hn W l o o' hl h hc hw, fun k cs t fr _ hk => ?_⟩
  have hne : k ≠ l := by
    rintro rfl
    rw [h] at hk
    injection hk with hk
    subst hk
    cases hc
  exact (World.putObj_heap_other hne).trans hk
theorem keepsOwn_set {n₀ n₁ : Nat} {W W' : World} (h : KeepsOwn n₀ n₁ W W') (g : Nat) (hg : n₀ ≤ g) (hg1 : g < n₁) (i : Nat) (v : Value) : KeepsOwn n₀ n₁ W (W'.setCell ⟨g, i, none⟩ v) :=
  ⟨h.1.setCell (p := ⟨g, i, none⟩) hg v, fun k cs t fr hk hc => by rw [heap_setCell_other _ _ k _ (by show k ≠ g; omega)]; exact h.2 k cs t fr hk hc⟩
/-- What the law's own blocks hold between two rounds. -/
def GoSt (p : List Rg) (N : Nat) (pre : List (Int × Int)) (W : World) : Prop :=
  W.heap[N]? = some (.cells #[.int .i64 (pre.length : Int)] 3 (0, 0)) ∧ W.heap[N + 1]? = some (.cells #[.int .i32 (goodA p pre).2] 21 (0, 0)) ∧ W.heap[N + 1 + 1]? = some (.cells #[.bool (goodA p pre).1] 4 (0, 0))
theorem RowAt.mono {n₁ n₂ : Nat} {W : World} {A : Option Addr} {p : List Rg} (h : RowAt n₁ W A p) (hn : n₂ ≤ n₁) : RowAt n₂ W A p := fun hp => by
  obtain ⟨g, cs, t, e, h1, h2⟩ := h hp
  exact ⟨g, cs, t, e, by omega, h2⟩
/-- The law's three stores of one round. -/
theorem go_step (W : World) (N m : Nat) (n la : Int) (gd : Bool) (q : Value) (tq : TypeId) (hm : m < N) (h5 : W.heap[N]? = some (.cells #[.int .i64 n] 3 (0, 0))) (h6 : W.heap[N + 1]? = some (.cells #[.int .i32 la] 21 (0, 0))) (h7 : W.heap[N + 1 + 1]? = some (.cells #[.bool gd] 4 (0, 0)))
    (h3 : W.heap[m]? = some (.cells #[q] tq (0, 0))) (G : Bool) (r : Int) :
    (W.setCell ⟨N + 1 + 1, 0, none⟩ (.bool G)).heap[N + 1]? = some (.cells #[.int .i32 la] 21 (0, 0)) ∧
    ((W.setCell ⟨N + 1 + 1, 0, none⟩ (.bool G)).setCell ⟨N + 1, 0, none⟩ (.int .i32 r)).heap[N]? = some (.cells #[.int .i64 n] 3 (0, 0)) ∧
    (((W.setCell ⟨N + 1 + 1, 0, none⟩ (.bool G)).setCell ⟨N + 1, 0, none⟩ (.int .i32 r)).setCell ⟨N, 0, none⟩ (.int .i64 (n + 1))).heap[N]? = some (.cells #[.int .i64 (n + 1)] 3 (0, 0)) ∧
    (((W.setCell ⟨N + 1 + 1, 0, none⟩ (.bool G)).setCell ⟨N + 1, 0, none⟩ (.int .i32 r)).setCell ⟨N, 0, none⟩ (.int .i64 (n + 1))).heap[N + 1]? = some (.cells #[.int .i32 r] 21 (0, 0)) ∧
    (((W.setCell ⟨N + 1 + 1, 0, none⟩ (.bool G)).setCell ⟨N + 1, 0, none⟩ (.int .i32 r)).setCell ⟨N, 0, none⟩ (.int .i64 (n + 1))).heap[N + 1 + 1]? = some (.cells #[.bool G] 4 (0, 0)) ∧
    (((W.setCell ⟨N + 1 + 1, 0, none⟩ (.bool G)).setCell ⟨N + 1, 0, none⟩ (.int .i32 r)).setCell ⟨N, 0, none⟩ (.int .i64 (n + 1))).heap[m]? = some (.cells #[q] tq (0, 0)) := by
  have a6 : (W.setCell ⟨N + 1 + 1, 0, none⟩ (.bool G)).heap[N + 1]? = some (.cells #[.int .i32 la] 21 (0, 0)) := by rw [heap_setCell_other _ _ (N + 1) _ (by show N + 1 ≠ N + 1 + 1; omega)]; exact h6
  have a7 : (W.setCell ⟨N + 1 + 1, 0, none⟩ (.bool G)).heap[N + 1 + 1]? = some (.cells #[.bool G] 4 (0, 0)) := Go.Proofs.YthggpjiabklekaaGreatDoor.blk_set h7 0 (.bool G)
  have a5 : (W.setCell ⟨N + 1 + 1, 0, none⟩ (.bool G)).heap[N]? = some (.cells #[.int .i64 n] 3 (0, 0)) := by rw [heap_setCell_other _ _ N _ (by show N ≠ N + 1 + 1; omega)]; exact h5
  have a3 : (W.setCell ⟨N + 1 + 1, 0, none⟩ (.bool G)).heap[m]? = some (.cells #[q] tq (0, 0)) := by rw [heap_setCell_other _ _ m _ (by show m ≠ N + 1 + 1; omega)]; exact h3
  generalize W.setCell ⟨N + 1 + 1, 0, none⟩ (.bool G) = W2 at *
  have b6 : (W2.setCell ⟨N + 1, 0, none⟩ (.int .i32 r)).heap[N + 1]? = some (.cells #[.int .i32 r] 21 (0, 0)) := Go.Proofs.YthggpjiabklekaaGreatDoor.blk_set a6 0 (.int .i32 r)
  have b7 : (W2.setCell ⟨N + 1, 0, none⟩ (.int .i32 r)).heap[N + 1 + 1]? = some (.cells #[.bool G] 4 (0, 0)) := by rw [heap_setCell_other _ _ (N + 1 + 1) _ (by show N + 1 + 1 ≠ N + 1; omega)]; exact a7
  have b5 : (W2.setCell ⟨N + 1, 0, none⟩ (.int .i32 r)).heap[N]? = some (.cells #[.int .i64 n] 3 (0, 0)) := by rw [heap_setCell_other _ _ N _ (by show N ≠ N + 1; omega)]; exact a5
  have b3 : (W2.setCell ⟨N + 1, 0, none⟩ (.int .i32 r)).heap[m]? = some (.cells #[q] tq (0, 0)) := by rw [heap_setCell_other _ _ m _ (by show m ≠ N + 1; omega)]; exact a3
  generalize W2.setCell ⟨N + 1, 0, none⟩ (.int .i32 r) = W3 at *
  exact ⟨a6, b5, Go.Proofs.YthggpjiabklekaaGreatDoor.blk_set b5 0 (.int .i64 (n + 1)), by rw [heap_setCell_other _ _ (N + 1) _ (by show N + 1 ≠ N; omega)]; exact b6, by rw [heap_setCell_other _ _ (N + 1 + 1) _ (by show N + 1 + 1 ≠ N; omega)]; exact b7, by rw [heap_setCell_other _ _ m _ (by show m ≠ N; omega)]; exact b3⟩
set_option maxRecDepth 100000 in
set_option maxHeartbeats 8000000 in
theorem goes_right (A : Option Addr) (c : Nat) (l : List S28) (most : Int) (w : World) (hI : RInv w) (hr : Kd.C k28 w A l.length l) (hc : l.length ≤ c) (hl : l.length ≤ 60) (hT : Tab (-1) (rgs l)) (hm1 : 1 ≤ most) (hm2 : most ≤ 200) :
    Calls Tryz.prog 7 #[.slice A l.length c, .int .i64 most] w fun e w' => e = .returned (.bool true) ∧ Below w.heap.size w w' := by
  have hl' : ¬ (l.length : Int) > 60 := by omega
  have hma : ¬ most < 1 := by omega
  have hmb : ¬ most > 200 := by omega
  have HI := Lib.hid hI
  have HR := Lib.hid hr
  have HT := Lib.hid hT
  have hlen : (rgs l).length = l.length := rgs_length l
  have C := Lib.hid (fun x (hb : Below w.heap.size w x) => awake_any x (HI.out.below hb))
  have CR := Lib.hid (fun x (hb : Below w.heap.size w x) => eponymlaw03_Right.calls 400 A c l true x (Kd.C_below HR.out hb) hc (right_yesG l hl hT))
  have CA := Lib.hid (fun x (hb : Below w.heap.size w x) => all_any A c (rgs l) x (by rw [hlen]; omega) (by rw [hlen]; omega) (lies_of (Kd.C_below HR.out hb)))
  rw [hlen] at CA
  have CF := Lib.hid (fun x (hb : Below w.heap.size w x) (a : Int) => eponymref03_Find.calls 400 A c l a (findS (rgs l) a).1 (findS (rgs l) a).2 x (Kd.C_below HR.out hb) hc (rfind_fG l (by omega) a 400 (by omega)))
  have CC := Lib.hid (fun x (hb : Below w.heap.size w x) => ranges_Count.calls 400 A c l _ x (Kd.C_below HR.out hb) hc (goes_count l hl hT 400 (by omega)))
  have HB0 := Lib.hid (show Below w.heap.size w ((w.alloc (.cells #[.slice A l.length c] 22)).alloc (.cells #[.int .i64 most] 3)) from ((Below.refl _ w).alloc (Nat.le_refl _) _).alloc (by simp) _)
  have N2 := Lib.hid (show ((w.alloc (.cells #[.slice A l.length c] 22)).alloc (.cells #[.int .i64 most] 3)).heap[w.heap.size]? = some (.cells #[.slice A l.length c] 22 (0, 0)) from below_blk ((Below.refl _ _).alloc (Nat.le_refl _) _) (Go.Proofs.YthggpjiabklekaaGreatDoor.blk_new w _))
  have N3 := Lib.hid (show ((w.alloc (.cells #[.slice A l.length c] 22)).alloc (.cells #[.int .i64 most] 3)).heap[w.heap.size + 1]? = some (.cells #[.int .i64 most] 3 (0, 0)) from by rw [← World.size_alloc w (.cells #[.slice A l.length c] 22)]; exact Go.Proofs.YthggpjiabklekaaGreatDoor.blk_new _ _)
  clear hI hr hT
  refine (callsIn_wide (n := 4)).1 ?_
  refine callsIn_of_wp_marks Tryz.func7 rfl trivial ?_ rfl
  simp only [Tryz.ntmps7, List.size_toArray, List.length_cons, List.length_nil, Nat.reduceAdd, Nat.reduceSub, Array.replicate_succ, Array.replicate_zero, List.push_toArray, List.append_toArray, List.nil_append, List.cons_append]
  gi_wp2_with (first
    | (refine ⟨trivial, ?_⟩; gi_at_call 22; refine (callsIn_wide.2 (CA.out _ HB3.out)).mono ?_; rintro e w4 ⟨v', rfl, ha, ho, hb⟩; rw [HZ3.out] at ha ho; have HA4 := Lib.hid ha; have HO4 := Lib.hid ho; have HB4 := Lib.hid hb; clear ha ho hb)
    | (refine ⟨trivial, ?_⟩; gi_at_call 11; refine (callsIn_wide.2 (CR.out _ HB1.out)).mono ?_; rintro e w2 ⟨rfl, hb⟩; have HB2 := Lib.hid (below_to HB1.out hb); have K2 := Lib.hid (below_blk hb M2.out); have K3 := Lib.hid (below_blk hb M3.out); have d2 := (blk_cell K2.out 0).trans rfl; have d3 := (blk_cell K3.out 0).trans rfl;
       have HB3 := Lib.hid (show Below w.heap.size w (((w2.alloc (.cells #[.int .i64 0] 3)).alloc (.cells #[.int .i32 (-1)] 21)).alloc (.cells #[.bool true] 4)) from ((HB2.out.alloc HB2.out.size _).alloc (by have := HB2.out.size; simp; omega) _).alloc (by have := HB2.out.size; simp; omega) _);
       have HZ3 := Lib.hid (show (((w2.alloc (.cells #[.int .i64 0] 3)).alloc (.cells #[.int .i32 (-1)] 21)).alloc (.cells #[.bool true] 4)).heap.size = w2.heap.size + 3 from by simp);
       have HD3 := Lib.hid (show Below w2.heap.size w2 (((w2.alloc (.cells #[.int .i64 0] 3)).alloc (.cells #[.int .i32 (-1)] 21)).alloc (.cells #[.bool true] 4)) from (((Below.refl _ w2).alloc (Nat.le_refl _) _).alloc (by simp) _).alloc (by simp; omega) _);
       have e2 := cell_in HD3.out d2; have e3 := cell_in HD3.out d3;
       clear hb)
    | (refine ⟨trivial, ?_⟩; gi_at_call 10; refine (callsIn_wide.2 (C.out _ HB0.out)).mono ?_; rintro e w1 ⟨rfl, hb⟩; have HB1 := Lib.hid (below_to HB0.out hb); have M2 := Lib.hid (below_blk hb N2.out); have M3 := Lib.hid (below_blk hb N3.out); have c2 := (blk_cell M2.out 0).trans rfl; have c3 := (blk_cell M3.out 0).trans rfl; clear hb))
  have hs4 := HB4.out.size
  rw [HZ3.out] at hs4
  have HBW := Lib.hid (show Below w2.heap.size w2 w4 from HD3.out.trans (HB4.out.mono (by rw [HZ3.out]; omega)))
  have hx5 : (((w2.alloc (.cells #[.int .i64 0] 3)).alloc (.cells #[.int .i32 (-1)] 21)).alloc (.cells #[.bool true] 4)).heap[w2.heap.size]? = some (.cells #[.int .i64 0] 3 (0, 0)) := blk_alloc (blk_alloc (Go.Proofs.YthggpjiabklekaaGreatDoor.blk_new w2 _) _) _
  have hx6 : (((w2.alloc (.cells #[.int .i64 0] 3)).alloc (.cells #[.int .i32 (-1)] 21)).alloc (.cells #[.bool true] 4)).heap[w2.heap.size + 1]? = some (.cells #[.int .i32 (-1)] 21 (0, 0)) := blk_alloc (by rw [← World.size_alloc w2 (.cells #[.int .i64 0] 3)]; exact Go.Proofs.YthggpjiabklekaaGreatDoor.blk_new _ _) _
  have hx7 : (((w2.alloc (.cells #[.int .i64 0] 3)).alloc (.cells #[.int .i32 (-1)] 21)).alloc (.cells #[.bool true] 4)).heap[w2.heap.size + 1 + 1]? = some (.cells #[.bool true] 4 (0, 0)) := by rw [← World.size_alloc w2 (.cells #[.int .i64 0] 3), ← World.size_alloc (w2.alloc (.cells #[.int .i64 0] 3)) (.cells #[.int .i32 (-1)] 21)]; exact Go.Proofs.YthggpjiabklekaaGreatDoor.blk_new _ _
  replace hx5 := below_blk HB4.out hx5
  replace hx6 := below_blk HB4.out hx6
  replace hx7 := below_blk HB4.out hx7
  have ho := HO4.out
  rw [← hlen] at ho
  obtain ⟨A', c', rfl, hrow⟩ := row_own ho
  have hbs : w4.cell? ⟨w2.heap.size + 1 + 1 + 1, 0, none⟩ = some (.slice A' (rgs l).length c') := (blk_cell HA4.out 0).trans rfl
  have HROW := Lib.hid (RowAt.mono hrow (show w2.heap.size + 3 ≤ w2.heap.size + 3 + 1 by omega))
  clear ho hrow HO4 HA4
  refine wpIn_rangeFunc_ownG rfl (by omega) (gf := 41) (lb := #[.pointer (some ⟨w2.heap.size + 1 + 1 + 1, 0, none⟩)]) rfl trivial (enters_of Tryz.func41 (by kernel_rfl) rfl)
    (goes_stops 3 (w2.heap.size + 1 + 1 + 1) w2.heap.size (w2.heap.size + 3) c' (by omega) A' (rgs l) HT.out (by rw [hlen]; omega) w4 hs4 (by omega) hbs HROW.out) KeepsOwn.trans (fun W l o o' hl h hc hw => keepsOwn_b2 (by omega) W l o o' hl h hc hw) (Below.refl _ _) (fun _ => rfl)
    (fun pre W => (GoSt (rgs l) w2.heap.size pre W ∧ (pre.length : Int) < most) ∧ Below w2.heap.size w2 W)
    (fun c pre W => (c = .exit 0 ∧ GoSt (rgs l) w2.heap.size pre W ∧ (pre.length : Int) = most) ∧ Below w2.heap.size w2 W)
    (OwnFrom.and (Own.from (fun s A B row hs hg hr => ⟨⟨heap_kept hs.1.1 hg hr, heap_kept hs.1.2.1 hg hr, heap_kept hs.1.2.2 hg hr⟩, hs.2⟩) _) (ownFrom_below (Nat.le_refl _) (by omega)))
    (fun c => OwnFrom.and (Own.from (fun s A B row hs hg hr => ⟨hs.1, ⟨heap_kept hs.2.1.1 hg hr, heap_kept hs.2.1.2.1 hg hr, heap_kept hs.2.1.2.2 hg hr⟩, hs.2.2⟩) _) (ownFrom_below (Nat.le_refl _) (by omega)))
    ⟨⟨⟨hx5, hx6, hx7⟩, by show (0 : Int) < most; omega⟩, HBW.out⟩
    (fun x => { tmps := #[.slice A l.length c, .int .i64 most, .pointer (some ⟨w.heap.size, 0, none⟩), .pointer (some ⟨w.heap.size + 1, 0, none⟩), .bool false, .pointer (some ⟨w2.heap.size, 0, none⟩), .pointer (some ⟨w2.heap.size + 1, 0, none⟩), .pointer (some ⟨w2.heap.size + 1 + 1, 0, none⟩),
      .int .i32 x.1, .int .i64 x.2, undef, undef, .bool true, .bool false, .slice A l.length c, .int .i64 l.length, .bool (decide (60 < (l.length : Int))), .bool (decide (60 < (l.length : Int))), .slice A l.length c, .bool true, .bool false, .bool (decide (60 < (l.length : Int))), .bool (decide (60 < (l.length : Int))),
      .int .i64 most, .bool (decide (most < 1)), .bool (decide (60 < (l.length : Int)) || decide (most < 1)), .bool (decide (60 < (l.length : Int)) || decide (most < 1)), .int .i64 most, .bool (decide (200 < most)), .bool (decide (60 < (l.length : Int)) || decide (most < 1) || decide (200 < most)), .slice A l.length c,
      .func (.func 41) #[] #[.pointer (some ⟨w2.heap.size + 1 + 1 + 1, 0, none⟩)], .int .i32 x.1, .int .i64 x.2, undef, undef, undef, undef, undef, undef, undef, undef, undef, undef, undef, undef, undef, undef, undef, undef, undef, undef, undef, undef, undef, undef, undef, undef, undef, undef, undef, undef, undef, undef, undef, undef, undef, undef, undef], defers := [] }) ?assign ?body ?done ?stop
  case assign =>
    intro l0 x W K hK
    gi_wp2
    exact hK
  case body =>
    rintro l0 pre x W ⟨⟨⟨h5, h6, h7⟩, hlt⟩, hB⟩ _
    have hB5 := below_to HB2.out hB
    have f2 : W.cell? ⟨w.heap.size, 0, none⟩ = some (.slice A l.length c) := (hB.cell (p := ⟨w.heap.size, 0, none⟩) (Go.Proofs.YthggpjiabklekaaGreatDoor.heap_lt K2.out)).trans d2
    have hN3 : W.heap[w.heap.size + 1]? = some (.cells #[.int .i64 most] 3 (0, 0)) := below_blk hB K3.out
    have hmN : w.heap.size + 1 < w2.heap.size := Go.Proofs.YthggpjiabklekaaGreatDoor.heap_lt K3.out
    have CFx := CF.out W hB5 x.1
    have hgs := goodA_snoc (rgs l) pre x
    unfold goodF at hgs
    obtain ⟨r, v⟩ := x
    dsimp only at CFx hgs
    generalize findS (rgs l) r = fs at CFx hgs
    obtain ⟨want, is⟩ := fs
    generalize goodA (rgs l) pre = s at h6 h7 hgs
    obtain ⟨gd, la⟩ := s
    dsimp only at CFx hgs h6 h7
    have CFX := Lib.hid CFx
    have HB := Lib.hid hB
    have HGS := Lib.hid hgs
    clear CFx hB hgs
    have hw1 : IntKind.i64.wrap ((pre.length : Int) + 1) = (pre.length : Int) + 1 := by rw [IntKind.wrap_i64]; omega
    have fin : ∀ (W1 : World) (G : Bool), Below W.heap.size W W1 → G = (gd && is && (v == want) && decide (r > la)) →
        ∀ W4, W4 = ((W1.setCell ⟨w2.heap.size + 1 + 1, 0, none⟩ (.bool G)).setCell ⟨w2.heap.size + 1, 0, none⟩ (.int .i32 r)).setCell ⟨w2.heap.size, 0, none⟩ (.int .i64 ((pre.length : Int) + 1)) →
        KeepsFrom w4.heap.size W W4 ∧ KeepsOwn w2.heap.size (w2.heap.size + 3) W W4 ∧ GoSt (rgs l) w2.heap.size (pre ++ [(r, v)]) W4 ∧ (((pre ++ [(r, v)]).length : Int) = (pre.length : Int) + 1) ∧ Below w2.heap.size w2 W4 := by
      intro W1 G hb hG W4 hW4
      obtain ⟨-, -, r5, r6, r7, -⟩ := go_step W1 w2.heap.size (w.heap.size + 1) (pre.length : Int) la gd _ _ hmN (below_blk hb h5) (below_blk hb h6) (below_blk hb h7) (below_blk hb hN3) G r
      rw [← hW4] at r5 r6 r7
      have hk : KeepsOwn w2.heap.size (w2.heap.size + 3) W W1 := KeepsOwn.of_below hb HB.out.size
      refine ⟨?_, ?_, ⟨?_, ?_, ?_⟩, by simp, ?_⟩
      · rw [hW4]
        exact (((keepsFrom_below hb).trans ((KeepsOthers.setCell _ _ _).from _)).trans ((KeepsOthers.setCell _ _ _).from _)).trans ((KeepsOthers.setCell _ _ _).from _)
      · rw [hW4]
        exact keepsOwn_set (keepsOwn_set (keepsOwn_set hk _ (by omega) (by omega) _ _) _ (by omega) (by omega) _ _) _ (by omega) (by omega) _ _
      · simpa using r5
      · rw [HGS.out]; exact r6
      · rw [HGS.out]; show W4.heap[w2.heap.size + 1 + 1]? = some (.cells #[.bool (gd && is && (v == want) && decide (r > la))] 4 (0, 0)); rw [← hG]; exact r7
      · rw [hW4]
        exact (((below_to HB.out hb).setCell (p := ⟨w2.heap.size + 1 + 1, 0, none⟩) (show w2.heap.size ≤ w2.heap.size + 1 + 1 by omega) _).setCell (p := ⟨w2.heap.size + 1, 0, none⟩) (show w2.heap.size ≤ w2.heap.size + 1 by omega) _).setCell (p := ⟨w2.heap.size, 0, none⟩) (Nat.le_refl _) _
    have step : ∀ (G : Bool) (W1 : World), Below W.heap.size W W1 → _ := fun G W1 hb => go_step W1 w2.heap.size (w.heap.size + 1) (pre.length : Int) la gd _ _ hmN (below_blk hb h5) (below_blk hb h6) (below_blk hb h7) (below_blk hb hN3) G r
    generalize hn1 : (pre.length : Int) + 1 = n1 at fin step hw1
    have FIN := Lib.hid fin
    clear fin HGS
    have STEP := Lib.hid step
    have H5 := Lib.hid h5
    have H6 := Lib.hid h6
    have H7 := Lib.hid h7
    clear step h5 h6 h7 hN3
    by_cases hn : n1 = most
    · subst hn
      cases gd with
      | false =>
        gi_wp2_with (refine ⟨trivial, ?_⟩; gi_at_call 13; refine (CallsIn.inRound l0 (callsIn_wide.2 CFX.out)).mono ?_; rintro e W1 ⟨rfl, hd⟩; have hb := hd.below; have k7 := below_blk hb H7.out; have k6 := below_blk hb H6.out; obtain ⟨q6, q5, r5, -, -, r3⟩ := STEP.out false W1 hb; have u7 := (Go.Proofs.YthggpjiabklekaaGreatDoor.blk_cell k7 0).trans rfl; have uf7 := Go.Proofs.YthggpjiabklekaaGreatDoor.blk_fz k7 0; have u6 := (Go.Proofs.YthggpjiabklekaaGreatDoor.blk_cell k6 0).trans rfl; have p6 := (Go.Proofs.YthggpjiabklekaaGreatDoor.blk_cell q6 0).trans rfl; have pf6 := Go.Proofs.YthggpjiabklekaaGreatDoor.blk_fz q6 0; have p5 := (Go.Proofs.YthggpjiabklekaaGreatDoor.blk_cell q5 0).trans rfl; have pf5 := Go.Proofs.YthggpjiabklekaaGreatDoor.blk_fz q5 0; have t5 := (Go.Proofs.YthggpjiabklekaaGreatDoor.blk_cell r5 0).trans rfl; have t3 := (Go.Proofs.YthggpjiabklekaaGreatDoor.blk_cell r3 0).trans rfl; have HB1 := Lib.hid hb; clear hd hb k7 k6 q6 q5 r5 r3)
        obtain ⟨g1, g2, g3, g4, g5⟩ := FIN.out W1 false HB1.out (by simp [*]) _ rfl
        exact ⟨g1, ⟨rfl, g3, g4⟩, g5⟩
      | true =>
        cases is with
        | false =>
          gi_wp2_with (refine ⟨trivial, ?_⟩; gi_at_call 13; refine (CallsIn.inRound l0 (callsIn_wide.2 CFX.out)).mono ?_; rintro e W1 ⟨rfl, hd⟩; have hb := hd.below; have k7 := below_blk hb H7.out; have k6 := below_blk hb H6.out; obtain ⟨q6, q5, r5, -, -, r3⟩ := STEP.out false W1 hb; have u7 := (Go.Proofs.YthggpjiabklekaaGreatDoor.blk_cell k7 0).trans rfl; have uf7 := Go.Proofs.YthggpjiabklekaaGreatDoor.blk_fz k7 0; have u6 := (Go.Proofs.YthggpjiabklekaaGreatDoor.blk_cell k6 0).trans rfl; have p6 := (Go.Proofs.YthggpjiabklekaaGreatDoor.blk_cell q6 0).trans rfl; have pf6 := Go.Proofs.YthggpjiabklekaaGreatDoor.blk_fz q6 0; have p5 := (Go.Proofs.YthggpjiabklekaaGreatDoor.blk_cell q5 0).trans rfl; have pf5 := Go.Proofs.YthggpjiabklekaaGreatDoor.blk_fz q5 0; have t5 := (Go.Proofs.YthggpjiabklekaaGreatDoor.blk_cell r5 0).trans rfl; have t3 := (Go.Proofs.YthggpjiabklekaaGreatDoor.blk_cell r3 0).trans rfl; have HB1 := Lib.hid hb; clear hd hb k7 k6 q6 q5 r5 r3)
          obtain ⟨g1, g2, g3, g4, g5⟩ := FIN.out W1 false HB1.out (by simp [*]) _ rfl
          exact ⟨g1, ⟨rfl, g3, g4⟩, g5⟩
        | true =>
          by_cases hv : v = want
          · have hv_ := hv
            gi_wp2_with (refine ⟨trivial, ?_⟩; gi_at_call 13; refine (CallsIn.inRound l0 (callsIn_wide.2 CFX.out)).mono ?_; rintro e W1 ⟨rfl, hd⟩; have hb := hd.below; have k7 := below_blk hb H7.out; have k6 := below_blk hb H6.out; obtain ⟨q6, q5, r5, -, -, r3⟩ := STEP.out (decide (la < r)) W1 hb; have u7 := (Go.Proofs.YthggpjiabklekaaGreatDoor.blk_cell k7 0).trans rfl; have uf7 := Go.Proofs.YthggpjiabklekaaGreatDoor.blk_fz k7 0; have u6 := (Go.Proofs.YthggpjiabklekaaGreatDoor.blk_cell k6 0).trans rfl; have p6 := (Go.Proofs.YthggpjiabklekaaGreatDoor.blk_cell q6 0).trans rfl; have pf6 := Go.Proofs.YthggpjiabklekaaGreatDoor.blk_fz q6 0; have p5 := (Go.Proofs.YthggpjiabklekaaGreatDoor.blk_cell q5 0).trans rfl; have pf5 := Go.Proofs.YthggpjiabklekaaGreatDoor.blk_fz q5 0; have t5 := (Go.Proofs.YthggpjiabklekaaGreatDoor.blk_cell r5 0).trans rfl; have t3 := (Go.Proofs.YthggpjiabklekaaGreatDoor.blk_cell r3 0).trans rfl; have HB1 := Lib.hid hb; clear hd hb k7 k6 q6 q5 r5 r3)
            obtain ⟨g1, g2, g3, g4, g5⟩ := FIN.out W1 (decide (la < r)) HB1.out (by simp [*]) _ rfl
            exact ⟨g1, ⟨rfl, g3, g4⟩, g5⟩
          · have hv' := hv
            gi_wp2_with (refine ⟨trivial, ?_⟩; gi_at_call 13; refine (CallsIn.inRound l0 (callsIn_wide.2 CFX.out)).mono ?_; rintro e W1 ⟨rfl, hd⟩; have hb := hd.below; have k7 := below_blk hb H7.out; have k6 := below_blk hb H6.out; obtain ⟨q6, q5, r5, -, -, r3⟩ := STEP.out false W1 hb; have u7 := (Go.Proofs.YthggpjiabklekaaGreatDoor.blk_cell k7 0).trans rfl; have uf7 := Go.Proofs.YthggpjiabklekaaGreatDoor.blk_fz k7 0; have u6 := (Go.Proofs.YthggpjiabklekaaGreatDoor.blk_cell k6 0).trans rfl; have p6 := (Go.Proofs.YthggpjiabklekaaGreatDoor.blk_cell q6 0).trans rfl; have pf6 := Go.Proofs.YthggpjiabklekaaGreatDoor.blk_fz q6 0; have p5 := (Go.Proofs.YthggpjiabklekaaGreatDoor.blk_cell q5 0).trans rfl; have pf5 := Go.Proofs.YthggpjiabklekaaGreatDoor.blk_fz q5 0; have t5 := (Go.Proofs.YthggpjiabklekaaGreatDoor.blk_cell r5 0).trans rfl; have t3 := (Go.Proofs.YthggpjiabklekaaGreatDoor.blk_cell r3 0).trans rfl; have HB1 := Lib.hid hb; clear hd hb k7 k6 q6 q5 r5 r3)
            obtain ⟨g1, g2, g3, g4, g5⟩ := FIN.out W1 false HB1.out (by simp [*]) _ rfl
            exact ⟨g1, ⟨rfl, g3, g4⟩, g5⟩
    · have hn_ := hn
      cases gd with
      | false =>
        gi_wp2_with (refine ⟨trivial, ?_⟩; gi_at_call 13; refine (CallsIn.inRound l0 (callsIn_wide.2 CFX.out)).mono ?_; rintro e W1 ⟨rfl, hd⟩; have hb := hd.below; have k7 := below_blk hb H7.out; have k6 := below_blk hb H6.out; obtain ⟨q6, q5, r5, -, -, r3⟩ := STEP.out false W1 hb; have u7 := (Go.Proofs.YthggpjiabklekaaGreatDoor.blk_cell k7 0).trans rfl; have uf7 := Go.Proofs.YthggpjiabklekaaGreatDoor.blk_fz k7 0; have u6 := (Go.Proofs.YthggpjiabklekaaGreatDoor.blk_cell k6 0).trans rfl; have p6 := (Go.Proofs.YthggpjiabklekaaGreatDoor.blk_cell q6 0).trans rfl; have pf6 := Go.Proofs.YthggpjiabklekaaGreatDoor.blk_fz q6 0; have p5 := (Go.Proofs.YthggpjiabklekaaGreatDoor.blk_cell q5 0).trans rfl; have pf5 := Go.Proofs.YthggpjiabklekaaGreatDoor.blk_fz q5 0; have t5 := (Go.Proofs.YthggpjiabklekaaGreatDoor.blk_cell r5 0).trans rfl; have t3 := (Go.Proofs.YthggpjiabklekaaGreatDoor.blk_cell r3 0).trans rfl; have HB1 := Lib.hid hb; clear hd hb k7 k6 q6 q5 r5 r3)
        obtain ⟨g1, g2, g3, g4, g5⟩ := FIN.out W1 false HB1.out (by simp [*]) _ rfl
        exact ⟨g1, g2, ⟨g3, by rw [g4]; omega⟩, g5⟩
      | true =>
        cases is with
        | false =>
          gi_wp2_with (refine ⟨trivial, ?_⟩; gi_at_call 13; refine (CallsIn.inRound l0 (callsIn_wide.2 CFX.out)).mono ?_; rintro e W1 ⟨rfl, hd⟩; have hb := hd.below; have k7 := below_blk hb H7.out; have k6 := below_blk hb H6.out; obtain ⟨q6, q5, r5, -, -, r3⟩ := STEP.out false W1 hb; have u7 := (Go.Proofs.YthggpjiabklekaaGreatDoor.blk_cell k7 0).trans rfl; have uf7 := Go.Proofs.YthggpjiabklekaaGreatDoor.blk_fz k7 0; have u6 := (Go.Proofs.YthggpjiabklekaaGreatDoor.blk_cell k6 0).trans rfl; have p6 := (Go.Proofs.YthggpjiabklekaaGreatDoor.blk_cell q6 0).trans rfl; have pf6 := Go.Proofs.YthggpjiabklekaaGreatDoor.blk_fz q6 0; have p5 := (Go.Proofs.YthggpjiabklekaaGreatDoor.blk_cell q5 0).trans rfl; have pf5 := Go.Proofs.YthggpjiabklekaaGreatDoor.blk_fz q5 0; have t5 := (Go.Proofs.YthggpjiabklekaaGreatDoor.blk_cell r5 0).trans rfl; have t3 := (Go.Proofs.YthggpjiabklekaaGreatDoor.blk_cell r3 0).trans rfl; have HB1 := Lib.hid hb; clear hd hb k7 k6 q6 q5 r5 r3)
          obtain ⟨g1, g2, g3, g4, g5⟩ := FIN.out W1 false HB1.out (by simp [*]) _ rfl
          exact ⟨g1, g2, ⟨g3, by rw [g4]; omega⟩, g5⟩
        | true =>
          by_cases hv : v = want
          · have hv_ := hv
            gi_wp2_with (refine ⟨trivial, ?_⟩; gi_at_call 13; refine (CallsIn.inRound l0 (callsIn_wide.2 CFX.out)).mono ?_; rintro e W1 ⟨rfl, hd⟩; have hb := hd.below; have k7 := below_blk hb H7.out; have k6 := below_blk hb H6.out; obtain ⟨q6, q5, r5, -, -, r3⟩ := STEP.out (decide (la < r)) W1 hb; have u7 := (Go.Proofs.YthggpjiabklekaaGreatDoor.blk_cell k7 0).trans rfl; have uf7 := Go.Proofs.YthggpjiabklekaaGreatDoor.blk_fz k7 0; have u6 := (Go.Proofs.YthggpjiabklekaaGreatDoor.blk_cell k6 0).trans rfl; have p6 := (Go.Proofs.YthggpjiabklekaaGreatDoor.blk_cell q6 0).trans rfl; have pf6 := Go.Proofs.YthggpjiabklekaaGreatDoor.blk_fz q6 0; have p5 := (Go.Proofs.YthggpjiabklekaaGreatDoor.blk_cell q5 0).trans rfl; have pf5 := Go.Proofs.YthggpjiabklekaaGreatDoor.blk_fz q5 0; have t5 := (Go.Proofs.YthggpjiabklekaaGreatDoor.blk_cell r5 0).trans rfl; have t3 := (Go.Proofs.YthggpjiabklekaaGreatDoor.blk_cell r3 0).trans rfl; have HB1 := Lib.hid hb; clear hd hb k7 k6 q6 q5 r5 r3)
            obtain ⟨g1, g2, g3, g4, g5⟩ := FIN.out W1 (decide (la < r)) HB1.out (by simp [*]) _ rfl
            exact ⟨g1, g2, ⟨g3, by rw [g4]; omega⟩, g5⟩
          · have hv' := hv
            gi_wp2_with (refine ⟨trivial, ?_⟩; gi_at_call 13; refine (CallsIn.inRound l0 (callsIn_wide.2 CFX.out)).mono ?_; rintro e W1 ⟨rfl, hd⟩; have hb := hd.below; have k7 := below_blk hb H7.out; have k6 := below_blk hb H6.out; obtain ⟨q6, q5, r5, -, -, r3⟩ := STEP.out false W1 hb; have u7 := (Go.Proofs.YthggpjiabklekaaGreatDoor.blk_cell k7 0).trans rfl; have uf7 := Go.Proofs.YthggpjiabklekaaGreatDoor.blk_fz k7 0; have u6 := (Go.Proofs.YthggpjiabklekaaGreatDoor.blk_cell k6 0).trans rfl; have p6 := (Go.Proofs.YthggpjiabklekaaGreatDoor.blk_cell q6 0).trans rfl; have pf6 := Go.Proofs.YthggpjiabklekaaGreatDoor.blk_fz q6 0; have p5 := (Go.Proofs.YthggpjiabklekaaGreatDoor.blk_cell q5 0).trans rfl; have pf5 := Go.Proofs.YthggpjiabklekaaGreatDoor.blk_fz q5 0; have t5 := (Go.Proofs.YthggpjiabklekaaGreatDoor.blk_cell r5 0).trans rfl; have t3 := (Go.Proofs.YthggpjiabklekaaGreatDoor.blk_cell r3 0).trans rfl; have HB1 := Lib.hid hb; clear hd hb k7 k6 q6 q5 r5 r3)
            obtain ⟨g1, g2, g3, g4, g5⟩ := FIN.out W1 false HB1.out (by simp [*]) _ rfl
            exact ⟨g1, g2, ⟨g3, by rw [g4]; omega⟩, g5⟩
  case done =>
    rintro D ys W hD rfl ⟨⟨⟨h5, h6, h7⟩, hlt⟩, hB⟩ hK
    have hg := good_pre (rgs l) HT.out _ (List.prefix_refl _)
    rw [hg] at h7
    have hB5 := Lib.hid (below_to HB2.out hB)
    have f2 : W.cell? ⟨w.heap.size, 0, none⟩ = some (.slice A l.length c) := (hB.cell (p := ⟨w.heap.size, 0, none⟩) (Go.Proofs.YthggpjiabklekaaGreatDoor.heap_lt K2.out)).trans d2
    have f3 : W.cell? ⟨w.heap.size + 1, 0, none⟩ = some (.int .i64 most) := (hB.cell (p := ⟨w.heap.size + 1, 0, none⟩) (Go.Proofs.YthggpjiabklekaaGreatDoor.heap_lt K3.out)).trans d3
    have u5 := (Go.Proofs.YthggpjiabklekaaGreatDoor.blk_cell h5 0).trans rfl
    have u7 := (Go.Proofs.YthggpjiabklekaaGreatDoor.blk_cell h7 0).trans rfl
    have HK := Lib.hid hK
    have HB := Lib.hid hB
    clear h5 h6 h7 hK hB hg
    generalize (goesL (rgs l)).length = cnt at *
    gi_wp2
    refine wpIn_mono ?_ NoPanic.imp
    gi_region_with (refine ⟨trivial, ?_⟩; gi_at_call 14; refine (callsIn_wide.2 (CC.out _ (Below.drew hB5.out))).mono ?_; rintro e W1 ⟨rfl, hb⟩; have f3a := cell_in hb f3; have u5a := cell_in hb u5; have HB1 := Lib.hid hb; clear hb)
    all_goals
      refine NoPanic.normal ?_
      gi_wp2
      have hK1 := below_blk HB1.out (show W.drew.heap[D]? = _ from HK.out)
      refine ⟨by simp, .inl ⟨_, _, rfl, run_takeDeferred hK1, ?_⟩⟩
      refine ⟨.bool true, ?_, rfl, ?_⟩
      · simp [results, Tryz.f7, go_sem]
        omega
      · have hz2 := HB2.out.size
        exact (below_to (Below.drew hB5.out) HB1.out).trans (belowK_b (w := w) (Nat.le_refl _) W1 D _ (.deferred none) (by omega) hK1 rfl rfl)
  case stop =>
    rintro D c0 pre W hD hpre ⟨⟨rfl, ⟨h5, h6, h7⟩, hlt⟩, hB⟩ hK
    have hg := good_pre (rgs l) HT.out _ hpre
    have hle := hpre.length_le
    rw [hg] at h7
    have hB5 := Lib.hid (below_to HB2.out hB)
    have f2 : W.cell? ⟨w.heap.size, 0, none⟩ = some (.slice A l.length c) := (hB.cell (p := ⟨w.heap.size, 0, none⟩) (Go.Proofs.YthggpjiabklekaaGreatDoor.heap_lt K2.out)).trans d2
    have f3 : W.cell? ⟨w.heap.size + 1, 0, none⟩ = some (.int .i64 most) := (hB.cell (p := ⟨w.heap.size + 1, 0, none⟩) (Go.Proofs.YthggpjiabklekaaGreatDoor.heap_lt K3.out)).trans d3
    have u5 := (Go.Proofs.YthggpjiabklekaaGreatDoor.blk_cell h5 0).trans rfl
    have u7 := (Go.Proofs.YthggpjiabklekaaGreatDoor.blk_cell h7 0).trans rfl
    have HK := Lib.hid hK
    have HB := Lib.hid hB
    clear h5 h6 h7 hK hB hg
    rw [hlt] at u5
    generalize (goesL (rgs l)).length = cnt at *
    clear hpre
    gi_wp2
    refine wpIn_mono ?_ NoPanic.imp
    gi_region_with (refine ⟨trivial, ?_⟩; gi_at_call 14; refine (callsIn_wide.2 (CC.out _ (Below.drew hB5.out))).mono ?_; rintro e W1 ⟨rfl, hb⟩; have f3a := cell_in hb f3; have u5a := cell_in hb u5; have HB1 := Lib.hid hb; clear hb)
    all_goals
      refine NoPanic.normal ?_
      gi_wp2
      have hK1 := below_blk HB1.out (show W.drew.heap[D]? = _ from HK.out)
      refine ⟨by simp, .inl ⟨_, _, rfl, run_takeDeferred hK1, ?_⟩⟩
      refine ⟨.bool true, ?_, rfl, ?_⟩
      · simp [results, Tryz.f7, go_sem]
        omega
      · have hz2 := HB2.out.size
        exact (below_to (Below.drew hB5.out) HB1.out).trans (belowK_b (w := w) (Nat.le_refl _) W1 D _ (.deferred none) (by omega) hK1 rfl rfl)
set_option maxRecDepth 100000 in
set_option maxHeartbeats 8000000 in
theorem goes_wrong (A : Option Addr) (c : Nat) (l : List S28) (most : Int) (w : World) (hI : RInv w) (hr : Kd.C k28 w A l.length l) (hc : l.length ≤ c) (hw : ¬ (l.length ≤ 60 ∧ Tab (-1) (rgs l) ∧ 1 ≤ most ∧ most ≤ 200)) :
    Calls Tryz.prog 7 #[.slice A l.length c, .int .i64 most] w fun e w' => e = .returned (.bool true) ∧ Below w.heap.size w w' := by
  have HI := Lib.hid hI
  have HR := Lib.hid hr
  have C := Lib.hid (fun x (hb : Below w.heap.size w x) => awake_any x (HI.out.below hb))
  have HB0 := Lib.hid (show Below w.heap.size w ((w.alloc (.cells #[.slice A l.length c] 22)).alloc (.cells #[.int .i64 most] 3)) from ((Below.refl _ w).alloc (Nat.le_refl _) _).alloc (by simp) _)
  have N2 := Lib.hid (show ((w.alloc (.cells #[.slice A l.length c] 22)).alloc (.cells #[.int .i64 most] 3)).heap[w.heap.size]? = some (.cells #[.slice A l.length c] 22 (0, 0)) from below_blk ((Below.refl _ _).alloc (Nat.le_refl _) _) (Go.Proofs.YthggpjiabklekaaGreatDoor.blk_new w _))
  have N3 := Lib.hid (show ((w.alloc (.cells #[.slice A l.length c] 22)).alloc (.cells #[.int .i64 most] 3)).heap[w.heap.size + 1]? = some (.cells #[.int .i64 most] 3 (0, 0)) from by rw [← World.size_alloc w (.cells #[.slice A l.length c] 22)]; exact Go.Proofs.YthggpjiabklekaaGreatDoor.blk_new _ _)
  clear hI hr
  by_cases hl : 60 < l.length
  · have hl' : (l.length : Int) > 60 := by omega
    go_enter Tryz.func7, Tryz.ntmps7
    go_wp2_with (go_at_call 10; refine (C.out _ HB0.out).mono ?_; rintro e w1 ⟨rfl, hb⟩; have HB1 := Lib.hid (below_to HB0.out hb); have M2 := Lib.hid (below_blk hb N2.out); have M3 := Lib.hid (below_blk hb N3.out); have c2 := (Go.Proofs.YthggpjiabklekaaGreatDoor.blk_cell M2.out 0).trans rfl; have c3 := (Go.Proofs.YthggpjiabklekaaGreatDoor.blk_cell M3.out 0).trans rfl; clear hb)
    go_ret
    exact ⟨rfl, HB1.out⟩
  · have hl' : ¬ (l.length : Int) > 60 := by omega
    by_cases hT : Tab (-1) (rgs l)
    · have CR := Lib.hid (fun x (hb : Below w.heap.size w x) => eponymlaw03_Right.calls 400 A c l true x (Kd.C_below HR.out hb) hc (right_yesG l (by omega) hT))
      by_cases hm : most < 1
      · clear hw hT
        go_enter Tryz.func7, Tryz.ntmps7
        go_wp2_with (first
          | (go_at_call 11; refine (CR.out _ HB1.out).mono ?_; rintro e w2 ⟨rfl, hb⟩; have HB2 := Lib.hid (below_to HB1.out hb); have K3 := Lib.hid (below_blk hb M3.out); have d3 := (Go.Proofs.YthggpjiabklekaaGreatDoor.blk_cell K3.out 0).trans rfl; clear hb)
          | (go_at_call 10; refine (C.out _ HB0.out).mono ?_; rintro e w1 ⟨rfl, hb⟩; have HB1 := Lib.hid (below_to HB0.out hb); have M2 := Lib.hid (below_blk hb N2.out); have M3 := Lib.hid (below_blk hb N3.out); have c2 := (Go.Proofs.YthggpjiabklekaaGreatDoor.blk_cell M2.out 0).trans rfl; have c3 := (Go.Proofs.YthggpjiabklekaaGreatDoor.blk_cell M3.out 0).trans rfl; clear hb))
        go_ret
        exact ⟨rfl, HB2.out⟩
      · have hm2 : most > 200 := by
          apply Classical.byContradiction
          intro h
          exact hw ⟨by omega, hT, by omega, by omega⟩
        clear hw hT
        go_enter Tryz.func7, Tryz.ntmps7
        go_wp2_with (first
          | (go_at_call 11; refine (CR.out _ HB1.out).mono ?_; rintro e w2 ⟨rfl, hb⟩; have HB2 := Lib.hid (below_to HB1.out hb); have K3 := Lib.hid (below_blk hb M3.out); have d3 := (Go.Proofs.YthggpjiabklekaaGreatDoor.blk_cell K3.out 0).trans rfl; clear hb)
          | (go_at_call 10; refine (C.out _ HB0.out).mono ?_; rintro e w1 ⟨rfl, hb⟩; have HB1 := Lib.hid (below_to HB0.out hb); have M2 := Lib.hid (below_blk hb N2.out); have M3 := Lib.hid (below_blk hb N3.out); have c2 := (Go.Proofs.YthggpjiabklekaaGreatDoor.blk_cell M2.out 0).trans rfl; have c3 := (Go.Proofs.YthggpjiabklekaaGreatDoor.blk_cell M3.out 0).trans rfl; clear hb))
        go_ret
        exact ⟨rfl, HB2.out⟩
    · have CR := Lib.hid (fun x (hb : Below w.heap.size w x) => eponymlaw03_Right.calls 400 A c l false x (Kd.C_below HR.out hb) hc (right_notG l (by omega) hT))
      clear hw hT
      go_enter Tryz.func7, Tryz.ntmps7
      go_wp2_with (first
        | (go_at_call 11; refine (CR.out _ HB1.out).mono ?_; rintro e w2 ⟨rfl, hb⟩; have HB2 := Lib.hid (below_to HB1.out hb); have K3 := Lib.hid (below_blk hb M3.out); have d3 := (Go.Proofs.YthggpjiabklekaaGreatDoor.blk_cell K3.out 0).trans rfl; clear hb)
        | (go_at_call 10; refine (C.out _ HB0.out).mono ?_; rintro e w1 ⟨rfl, hb⟩; have HB1 := Lib.hid (below_to HB0.out hb); have M2 := Lib.hid (below_blk hb N2.out); have M3 := Lib.hid (below_blk hb N3.out); have c2 := (Go.Proofs.YthggpjiabklekaaGreatDoor.blk_cell M2.out 0).trans rfl; have c3 := (Go.Proofs.YthggpjiabklekaaGreatDoor.blk_cell M3.out 0).trans rfl; clear hb))
      go_ret
      exact ⟨rfl, HB2.out⟩
theorem goes_any (A : Option Addr) (c : Nat) (l : List S28) (most : Int) (w : World) (hI : RInv w) (hr : Kd.C k28 w A l.length l) (hc : l.length ≤ c) :
    Calls Tryz.prog 7 #[.slice A l.length c, .int .i64 most] w fun e w' => e = .returned (.bool true) ∧ Below w.heap.size w w' := by
  by_cases h : l.length ≤ 60 ∧ Tab (-1) (rgs l) ∧ 1 ≤ most ∧ most ≤ 200
  · exact goes_right A c l most w hI hr hc h.1 h.2.1 h.2.2.1 h.2.2.2
  · exact goes_wrong A c l most w hI hr hc h
end Go.Proofs.YthggpjiabklekaaGreatDoor.PRg
