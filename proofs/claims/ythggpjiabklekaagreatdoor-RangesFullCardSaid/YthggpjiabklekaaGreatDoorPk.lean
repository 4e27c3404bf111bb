/- ranges.read at a good line. -/
import Derived.Test.YthggpjiabklekaaGreatDoorPj
import Derived.Test.YthggpjiabklekaaGreatDoorShelf
namespace Go.Proofs.YthggpjiabklekaaGreatDoor
set_option linter.unusedSimpArgs false
set_option linter.unusedVariables false
open Go.RowKit Go.Lib

theorem mx2_int (k k' : IntKind) (x y : Int) : Builtin.max2 (.int k x) (.int k' y) = pure (.int k (if x < y then y else x)) := by simp only [Builtin.max2, gt_iff_lt]
theorem mx_two (ats : Array TypeId) (ty : TypeId) (a b : Value) : Builtin.max_ ats ty #[a, b] = (Builtin.max2 a b >>= fun s => pure s) := by simp only [Builtin.max_, List.foldlM_cons, List.foldlM_nil]
attribute [local go_sem] mx2_int mx_two
theorem info28 : (Tryz.prog.info? 28).map (fun i => (i.zero, i.size, i.bytes)) = some (some (.agg #[(.int .i32 0), (.int .i32 0), (.int .i64 0)]), 3, 16) := by kernel_rfl

/-- What stays while a line is read. -/
structure St (w v : World) : Prop where
  below : Below w.heap.size w v
  tz : Tz v
  p10 : Pow10 v
  mx : ∃ m : Int, v.cell? ⟨19, 0, none⟩ = some (.int .i64 m)
  blk : v.heap[w.heap.size]? = some (.cells #[.int .i32 0, .int .i32 0, .int .i64 0] 28 (0, 0))
theorem St.step {w v v' : World} (h : St w v) (hb : Below v.heap.size v v') : St w v' where
  below := below_to h.below hb
  tz := h.tz.below hb
  p10 := h.p10.below hb
  mx := by obtain ⟨m, hm⟩ := h.mx; exact ⟨m, cell_in hb hm⟩
  blk := below_blk hb h.blk
theorem St.first (w : World) (ht : Tz w) (hp : Pow10 w) (hm : ∃ m : Int, w.cell? ⟨19, 0, none⟩ = some (.int .i64 m)) : St w (w.alloc (.cells #[.int .i32 0, .int .i32 0, .int .i64 0] 28)) := by
  have hb : Below w.heap.size w (w.alloc (.cells #[.int .i32 0, .int .i32 0, .int .i64 0] 28)) := (Below.refl _ _).alloc (Nat.le_refl _) _
  obtain ⟨m, hm⟩ := hm
  exact ⟨hb, ht.below hb, hp.below hb, ⟨m, cell_in hb hm⟩, blk_new w _⟩

set_option maxRecDepth 100000 in
set_option maxHeartbeats 8000000 in
theorem read_good (s t a b0 b u : ByteArray) (f : Bool) (k : Nat) (hs : s.size ≤ 1000) (hk : k + 1 ≤ s.size) (hidx : Lib.indexByte s.data.toList 32 = (k : Int)) (ht : s.extract 0 k = t) (hu : s.extract (k + 1) s.size = u)
    (hcut : ∀ W, (∃ m : Int, W.cell? ⟨19, 0, none⟩ = some (.int .i64 m)) → Calls Tryz.prog 34 #[.string t, .string ⟨#[46, 46]⟩] W fun e w' => e = .returned (.tuple #[.string a, .string b0, .bool f]) ∧ Below W.heap.size W w') (hb : b = if f = true then b0 else a)
    (za : a.size ≤ 6) (zb : b.size ≤ 6) (zu : s.size ≤ k + 8) (x y : Nat) (hx : x < 2147483648) (hy : y < 2147483648) (v : Int)
    (CA : ∀ W, Calls Tryz.prog 56 #[.string a, .int .i64 16, .int .i64 32] W fun e w' => e = .returned (.tuple #[.int .i64 x, .nilIface]) ∧ Below W.heap.size W w')
    (CB : ∀ W, Calls Tryz.prog 56 #[.string b, .int .i64 16, .int .i64 32] W fun e w' => e = .returned (.tuple #[.int .i64 y, .nilIface]) ∧ Below W.heap.size W w')
    (CV : ∀ W, Calls Tryz.prog 57 #[.string u] W fun e w' => e = .returned (.tuple #[.int .i64 v, .nilIface]) ∧ Below W.heap.size W w')
    (CL : ∀ W, Tz W → Pow10 W → Calls Tryz.prog 30 #[.agg #[.int .i32 x, .int .i32 y, .int .i64 v]] W fun e w' => e = .returned (.string s) ∧ Below W.heap.size W w')
    (w : World) (hT : Tz w) (hP : Pow10 w) (hm : ∃ m : Int, w.cell? ⟨19, 0, none⟩ = some (.int .i64 m)) :
    Calls Tryz.prog 35 #[.string s] w fun e w' => e = .returned (.tuple #[.agg #[.int .i32 x, .int .i32 y, .int .i64 v], .bool true]) ∧ Below w.heap.size w w' := by
  have HS := Lib.hid (St.first w hT hP hm)
  have CX := Lib.hid (fun W => Tryz.strings_IndexByte s 32 W)
  have e32 : (32 : Int).toNat.toUInt8 = 32 := by decide
  rw [e32, hidx] at CX
  have CUT := Lib.hid hcut
  have CA := Lib.hid CA
  have CB := Lib.hid CB
  have CV := Lib.hid CV
  have CL := Lib.hid CL
  have hk1 : (k : Int) + 1 ≤ s.size := by omega
  have g1 : ¬ (k : Int) < 0 := by omega
  have gx : ¬ (x : Int) < 0 := by omega
  have gy : ¬ (y : Int) < 0 := by omega
  have gm : ¬ (if (a.size : Int) < (b.size : Int) then (b.size : Int) else (a.size : Int)) > 6 := by split <;> omega
  have gl : ¬ (s.size : Int) - k > 8 := by omega
  clear hT hP hm hcut hidx
  cases f
  · obtain rfl : b = a := by simpa using hb
    clear hb
    go_enter Tryz.func35, Tryz.ntmps35
    go_wp2_with (first
      | (go_at_call 55; refine (CX.out _).mono ?_; rintro e w1 ⟨rfl, rfl⟩)
      | ((try rw [ht]); go_at_call 34; refine (CUT.out _ HS.out.mx).mono ?_; rintro e w1 ⟨rfl, hb⟩; have n0_ := Lib.hid (HS.out.step hb); clear HS hb; have HS := n0_; clear n0_)
      | (go_at_call 56; refine (CA.out _).mono ?_; rintro e w1 ⟨rfl, hb⟩; have n0_ := Lib.hid (HS.out.step hb); clear HS hb CA; have HS := n0_; clear n0_)
      | (go_at_call 56; refine (CB.out _).mono ?_; rintro e w1 ⟨rfl, hb⟩; have n0_ := Lib.hid (HS.out.step hb); clear HS hb CB; have HS := n0_; clear n0_)
      | (go_at_call 57; refine (CV.out _).mono ?_; rintro e w1 ⟨rfl, hb⟩; have n0_ := Lib.hid (HS.out.step hb); clear HS hb CV; have HS := n0_; clear n0_)
      | (go_at_call 30; have S1 := HS.out.step ((Below.refl w1.heap.size w1).alloc (Nat.le_refl _) (.cells #[.int .i32 x, .int .i32 y, .int .i64 v] 28)); refine (CL.out _ S1.tz S1.p10).mono ?_; rintro e w9 ⟨rfl, hb⟩; have hn := below_blk hb (blk_new w1 (.cells #[.int .i32 x, .int .i32 y, .int .i64 v] 28)); have q0 := (blk_cell hn 0).trans rfl; have q1 := (blk_cell hn 1).trans rfl; have q2 := (blk_cell hn 2).trans rfl; have n0_ := Lib.hid (S1.step hb); clear HS hb hn S1; have HS := n0_; clear n0_; have hz := HS.out.blk; have z0 := (blk_cell hz 0).trans rfl; have z1 := (blk_cell hz 1).trans rfl; have z2 := (blk_cell hz 2).trans rfl; have zf := blk_fz hz 0; have zf1 := blk_fz hz 1; have zf2 := blk_fz hz 2; clear hz))
    all_goals
      have hz := set_blk (set_blk (set_blk HS.out.blk 0 (.int .i32 x)) 1 (.int .i32 y)) 2 (.int .i64 v)
      have hb := ((HS.out.below.setCell (p := ⟨w.heap.size, 0, none⟩) (Nat.le_refl _) (.int .i32 x)).setCell (p := ⟨w.heap.size, 1, none⟩) (Nat.le_refl _) (.int .i32 y)).setCell (p := ⟨w.heap.size, 2, none⟩) (Nat.le_refl _) (.int .i64 v)
      clear z0 z1 z2 zf zf1 zf2
      generalize World.setCell (World.setCell (World.setCell w9 ⟨w.heap.size, 0, none⟩ (.int .i32 x)) ⟨w.heap.size, 1, none⟩ (.int .i32 y)) ⟨w.heap.size, 2, none⟩ (.int .i64 v) = w10 at hz hb ⊢
      have z0 := (blk_cell hz 0).trans rfl
      have z1 := (blk_cell hz 1).trans rfl
      have z2 := (blk_cell hz 2).trans rfl
      have HB := Lib.hid hb
      clear hb hz
      have hr : Tryz.f35.results = #[.cell 2 28, .tmp 3] := rfl
      refine bodyPost_ret (v := .tuple #[.agg #[.int .i32 x, .int .i32 y, .int .i64 v], .bool true]) ?_ rfl ⟨rfl, HB.out⟩
      simp [results, hr, go_sem, z0, z1, z2]
  · obtain rfl : b = b0 := by simpa using hb
    clear hb
    go_enter Tryz.func35, Tryz.ntmps35
    go_wp2_with (first
      | (go_at_call 55; refine (CX.out _).mono ?_; rintro e w1 ⟨rfl, rfl⟩)
      | ((try rw [ht]); go_at_call 34; refine (CUT.out _ HS.out.mx).mono ?_; rintro e w1 ⟨rfl, hb⟩; have n0_ := Lib.hid (HS.out.step hb); clear HS hb; have HS := n0_; clear n0_)
      | (go_at_call 56; refine (CA.out _).mono ?_; rintro e w1 ⟨rfl, hb⟩; have n0_ := Lib.hid (HS.out.step hb); clear HS hb CA; have HS := n0_; clear n0_)
      | (go_at_call 56; refine (CB.out _).mono ?_; rintro e w1 ⟨rfl, hb⟩; have n0_ := Lib.hid (HS.out.step hb); clear HS hb CB; have HS := n0_; clear n0_)
      | (go_at_call 57; refine (CV.out _).mono ?_; rintro e w1 ⟨rfl, hb⟩; have n0_ := Lib.hid (HS.out.step hb); clear HS hb CV; have HS := n0_; clear n0_)
      | (go_at_call 30; have S1 := HS.out.step ((Below.refl w1.heap.size w1).alloc (Nat.le_refl _) (.cells #[.int .i32 x, .int .i32 y, .int .i64 v] 28)); refine (CL.out _ S1.tz S1.p10).mono ?_; rintro e w9 ⟨rfl, hb⟩; have hn := below_blk hb (blk_new w1 (.cells #[.int .i32 x, .int .i32 y, .int .i64 v] 28)); have q0 := (blk_cell hn 0).trans rfl; have q1 := (blk_cell hn 1).trans rfl; have q2 := (blk_cell hn 2).trans rfl; have n0_ := Lib.hid (S1.step hb); clear HS hb hn S1; have HS := n0_; clear n0_; have hz := HS.out.blk; have z0 := (blk_cell hz 0).trans rfl; have z1 := (blk_cell hz 1).trans rfl; have z2 := (blk_cell hz 2).trans rfl; have zf := blk_fz hz 0; have zf1 := blk_fz hz 1; have zf2 := blk_fz hz 2; clear hz))
    all_goals
      have hz := set_blk (set_blk (set_blk HS.out.blk 0 (.int .i32 x)) 1 (.int .i32 y)) 2 (.int .i64 v)
      have hb := ((HS.out.below.setCell (p := ⟨w.heap.size, 0, none⟩) (Nat.le_refl _) (.int .i32 x)).setCell (p := ⟨w.heap.size, 1, none⟩) (Nat.le_refl _) (.int .i32 y)).setCell (p := ⟨w.heap.size, 2, none⟩) (Nat.le_refl _) (.int .i64 v)
      clear z0 z1 z2 zf zf1 zf2
      generalize World.setCell (World.setCell (World.setCell w9 ⟨w.heap.size, 0, none⟩ (.int .i32 x)) ⟨w.heap.size, 1, none⟩ (.int .i32 y)) ⟨w.heap.size, 2, none⟩ (.int .i64 v) = w10 at hz hb ⊢
      have z0 := (blk_cell hz 0).trans rfl
      have z1 := (blk_cell hz 1).trans rfl
      have z2 := (blk_cell hz 2).trans rfl
      have HB := Lib.hid hb
      clear hb hz
      have hr : Tryz.f35.results = #[.cell 2 28, .tmp 3] := rfl
      refine bodyPost_ret (v := .tuple #[.agg #[.int .i32 x, .int .i32 y, .int .i64 v], .bool true]) ?_ rfl ⟨rfl, HB.out⟩
      simp [results, hr, go_sem, z0, z1, z2]
end Go.Proofs.YthggpjiabklekaaGreatDoor
