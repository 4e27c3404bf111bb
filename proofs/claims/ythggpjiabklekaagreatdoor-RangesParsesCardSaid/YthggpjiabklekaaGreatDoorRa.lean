/- ranges.read at every text: printed by gen_ra.py. -/
import Derived.Test.YthggpjiabklekaaGreatDoorPq
import Derived.Test.YthggpjiabklekaaGreatDoorTv
namespace Go.Proofs.YthggpjiabklekaaGreatDoor
set_option linter.unusedSimpArgs false
set_option linter.unusedVariables false
open Go.RowKit Go.Lib
attribute [local go_sem] mx2_int mx_two

/-- What stays while a line is read. -/
structure StE (w v : World) : Prop where
  st : St w v
  er : ErrsLaid v
theorem StE.step {w v v' : World} (h : StE w v) (hb : Below v.heap.size v v') : StE w v' := ⟨h.st.step hb, h.er.below hb⟩
theorem StE.alloc {w v : World} (h : StE w v) (o : Obj) : StE w (v.alloc o) := h.step ((Below.refl _ _).alloc (Nat.le_refl _) o)
theorem StE.first (w : World) (hI : RInv w) (hE : ErrsLaid w) : StE w (w.alloc (.cells #[.int .i32 0, .int .i32 0, .int .i64 0] 28)) := ⟨St.first w hI.tz hI.p10 hI.mx, hE.below ((Below.refl _ _).alloc (Nat.le_refl _) _)⟩
/-- The end of read. -/
theorem read_ret {w W : World} {tm : Array Value} (hS : StE w W) (x y v : Int) (b : Bool) (h2 : tm.getD 2 undef = .pointer (some ⟨w.heap.size, 0, none⟩)) (h3 : tm.getD 3 undef = .bool b) :
    bodyPost Tryz.prog Tryz.f35 (fun e w' => e = .returned (.tuple #[.agg #[.int .i32 x, .int .i32 y, .int .i64 v], .bool b]) ∧ Below w.heap.size w w') Exit.ret { tmps := tm, defers := [] }
      (((W.setCell ⟨w.heap.size, 0, none⟩ (.int .i32 x)).setCell ⟨w.heap.size, 1, none⟩ (.int .i32 y)).setCell ⟨w.heap.size, 2, none⟩ (.int .i64 v)) := by
  have hz := set_blk (set_blk (set_blk hS.st.blk 0 (.int .i32 x)) 1 (.int .i32 y)) 2 (.int .i64 v)
  have hb := ((hS.st.below.setCell (p := ⟨w.heap.size, 0, none⟩) (Nat.le_refl _) (.int .i32 x)).setCell (p := ⟨w.heap.size, 1, none⟩) (Nat.le_refl _) (.int .i32 y)).setCell (p := ⟨w.heap.size, 2, none⟩) (Nat.le_refl _) (.int .i64 v)
  generalize World.setCell (World.setCell (World.setCell W ⟨w.heap.size, 0, none⟩ (.int .i32 x)) ⟨w.heap.size, 1, none⟩ (.int .i32 y)) ⟨w.heap.size, 2, none⟩ (.int .i64 v) = w10 at hz hb ⊢
  have z0 := (blk_cell hz 0).trans rfl
  have z1 := (blk_cell hz 1).trans rfl
  have z2 := (blk_cell hz 2).trans rfl
  have hr : Tryz.f35.results = #[.cell 2 28, .tmp 3] := rfl
  refine bodyPost_ret (v := .tuple #[.agg #[.int .i32 x, .int .i32 y, .int .i64 v], .bool b]) ?_ rfl ⟨rfl, hb⟩
  have h2' : tm[2]?.getD undef = .pointer (some ⟨w.heap.size, 0, none⟩) := by simpa using h2
  have h3' : tm[3]?.getD undef = .bool b := by simpa using h3
  simp [results, hr, go_sem, z0, z1, z2, h2', h3']
theorem read_ret0 {w W : World} {tm : Array Value} (hS : StE w W) (h2 : tm.getD 2 undef = .pointer (some ⟨w.heap.size, 0, none⟩)) (h3 : tm.getD 3 undef = .bool false) :
    bodyPost Tryz.prog Tryz.f35 (fun e w' => e = .returned (.tuple #[.agg #[.int .i32 0, .int .i32 0, .int .i64 0], .bool false]) ∧ Below w.heap.size w w') Exit.ret { tmps := tm, defers := [] } W := by
  have hz := hS.st.blk
  have z0 := (blk_cell hz 0).trans rfl
  have z1 := (blk_cell hz 1).trans rfl
  have z2 := (blk_cell hz 2).trans rfl
  have hr : Tryz.f35.results = #[.cell 2 28, .tmp 3] := rfl
  refine bodyPost_ret (v := .tuple #[.agg #[.int .i32 0, .int .i32 0, .int .i64 0], .bool false]) ?_ rfl ⟨rfl, hS.st.below⟩
  have h2' : tm[2]?.getD undef = .pointer (some ⟨w.heap.size, 0, none⟩) := by simpa using h2
  have h3' : tm[3]?.getD undef = .bool false := by simpa using h3
  simp [results, hr, go_sem, z0, z1, z2, h2', h3']

/-- No text of a line. -/
abbrev RdNo (s : ByteArray) (w : World) : Prop := Calls Tryz.prog 35 #[.string s] w fun e w' => e = .returned (.tuple #[.agg #[.int .i32 0, .int .i32 0, .int .i64 0], .bool false]) ∧ Below w.heap.size w w'
abbrev OkC (s : ByteArray) (x : Int) : Prop := ∀ w, ErrsLaid w → Calls Tryz.prog 56 #[.string s, .int .i64 16, .int .i64 32] w fun e w' => e = .returned (.tuple #[.int .i64 x, .nilIface]) ∧ Below w.heap.size w w'
abbrev NoC (s : ByteArray) (x : Int) : Prop := ∀ w, ErrsLaid w → Calls Tryz.prog 56 #[.string s, .int .i64 16, .int .i64 32] w fun e w' => ∃ N, e = .returned (.tuple #[.int .i64 x, .iface 153 (.pointer (some ⟨N, 0, none⟩))]) ∧ Below w.heap.size w w'
abbrev OkV (s : ByteArray) (x : Int) : Prop := ∀ w, ErrsLaid w → Calls Tryz.prog 57 #[.string s] w fun e w' => e = .returned (.tuple #[.int .i64 x, .nilIface]) ∧ Below w.heap.size w w'
abbrev NoV (s : ByteArray) (x : Int) : Prop := ∀ w, ErrsLaid w → Calls Tryz.prog 57 #[.string s] w fun e w' => ∃ N, e = .returned (.tuple #[.int .i64 x, .iface 153 (.pointer (some ⟨N, 0, none⟩))]) ∧ Below w.heap.size w w'
set_option maxRecDepth 100000 in
set_option maxHeartbeats 4000000 in
theorem read_none (s : ByteArray) (hs : s.size ≤ 1000) (hidx : Lib.indexByte s.data.toList 32 = -1) (w : World) (hI : RInv w) (hE : ErrsLaid w) : RdNo s w := by
  have HS := Lib.hid (StE.first w hI hE)
  have CX := Lib.hid (fun W => Tryz.strings_IndexByte s 32 W)
  have e32 : (32 : Int).toNat.toUInt8 = 32 := by decide
  rw [e32, hidx] at CX
  clear hidx e32 hI hE
  have hz := HS.out.st.blk
  have z0 := (blk_cell hz 0).trans rfl
  have z1 := (blk_cell hz 1).trans rfl
  have z2 := (blk_cell hz 2).trans rfl
  have zf := blk_fz hz 0; have zf1 := blk_fz hz 1; have zf2 := blk_fz hz 2; clear hz
  go_enter Tryz.func35, Tryz.ntmps35
  go_wp2_with (go_at_call 55; refine (CX.out _).mono ?_; rintro e w1 ⟨rfl, rfl⟩)
  exact read_ret0 HS.out rfl rfl

set_option maxRecDepth 100000 in
set_option maxHeartbeats 8000000 in
theorem read_ta (s t a b0 b u : ByteArray) (k : Nat) (hs : s.size ≤ 1000) (hk : k + 1 ≤ s.size) (hidx : Lib.indexByte s.data.toList 32 = (k : Int)) (ht : s.extract 0 k = t) (hu : s.extract (k + 1) s.size = u)
    (hcut : ∀ W, (∃ m : Int, W.cell? ⟨19, 0, none⟩ = some (.int .i64 m)) → Calls Tryz.prog 34 #[.string t, .string ⟨#[46, 46]⟩] W fun e w' => e = .returned (.tuple #[.string a, .string b0, .bool true]) ∧ Below W.heap.size W w')
    (x y v : Int) (CA : NoC a x) (CB : NoC b0 y) (CV : OkV u v) 
    (w : World) (hI : RInv w) (hE : ErrsLaid w) : RdNo s w := by
  have HS := Lib.hid (StE.first w hI hE)
  have CX := Lib.hid (fun W => Tryz.strings_IndexByte s 32 W)
  have e32 : (32 : Int).toNat.toUInt8 = 32 := by decide
  rw [e32, hidx] at CX
  have CUT := Lib.hid hcut
  have CA := Lib.hid CA
  have CB := Lib.hid CB
  have CV := Lib.hid CV
  have hk1 : (k : Int) + 1 ≤ s.size := by omega
  have g1 : ¬ (k : Int) < 0 := by omega
  clear hcut hidx e32 hI hE
  go_enter Tryz.func35, Tryz.ntmps35
  go_wp2_with (first
    | (go_at_call 55; refine (CX.out _).mono ?_; rintro e w1 ⟨rfl, rfl⟩)
    | ((try rw [ht]); go_at_call 34; refine (CUT.out _ HS.out.st.mx).mono ?_; rintro e w1 ⟨rfl, hb⟩; have n0_ := Lib.hid (HS.out.step hb); clear HS hb; have HS := n0_; clear n0_)
    | (go_at_call 56; refine (CA.out _ HS.out.er).mono ?_; rintro e w1 ⟨N, rfl, hb⟩; have n0_ := Lib.hid (HS.out.step hb); clear HS hb; have HS := n0_; clear n0_; clear CA)
    | (go_at_call 56; refine (CB.out _ HS.out.er).mono ?_; rintro e w1 ⟨N, rfl, hb⟩; have n0_ := Lib.hid (HS.out.step hb); clear HS hb; have HS := n0_; clear n0_; clear CB)
    | (go_at_call 57; refine (CV.out _ HS.out.er).mono ?_; rintro e w1 ⟨rfl, hb⟩; have n0_ := Lib.hid (HS.out.step hb); clear HS hb; have HS := n0_; clear n0_; have HA := Lib.hid (fun o => HS.out.alloc o); have z0 := fun o => (blk_cell (HA.out o).st.blk 0).trans rfl; have z1 := fun o => (blk_cell (HA.out o).st.blk 1).trans rfl; have z2 := fun o => (blk_cell (HA.out o).st.blk 2).trans rfl; have zf := fun o => blk_fz (HA.out o).st.blk 0; have zf1 := fun o => blk_fz (HA.out o).st.blk 1; have zf2 := fun o => blk_fz (HA.out o).st.blk 2; clear CV))
  all_goals exact read_ret (HA.out _) _ _ _ _ rfl rfl

set_option maxRecDepth 100000 in
set_option maxHeartbeats 8000000 in
theorem read_tav (s t a b0 b u : ByteArray) (k : Nat) (hs : s.size ≤ 1000) (hk : k + 1 ≤ s.size) (hidx : Lib.indexByte s.data.toList 32 = (k : Int)) (ht : s.extract 0 k = t) (hu : s.extract (k + 1) s.size = u)
    (hcut : ∀ W, (∃ m : Int, W.cell? ⟨19, 0, none⟩ = some (.int .i64 m)) → Calls Tryz.prog 34 #[.string t, .string ⟨#[46, 46]⟩] W fun e w' => e = .returned (.tuple #[.string a, .string b0, .bool true]) ∧ Below W.heap.size W w')
    (x y v : Int) (CA : NoC a x) (CB : NoC b0 y) (CV : NoV u v) 
    (w : World) (hI : RInv w) (hE : ErrsLaid w) : RdNo s w := by
  have HS := Lib.hid (StE.first w hI hE)
  have CX := Lib.hid (fun W => Tryz.strings_IndexByte s 32 W)
  have e32 : (32 : Int).toNat.toUInt8 = 32 := by decide
  rw [e32, hidx] at CX
  have CUT := Lib.hid hcut
  have CA := Lib.hid CA
  have CB := Lib.hid CB
  have CV := Lib.hid CV
  have hk1 : (k : Int) + 1 ≤ s.size := by omega
  have g1 : ¬ (k : Int) < 0 := by omega
  clear hcut hidx e32 hI hE
  go_enter Tryz.func35, Tryz.ntmps35
  go_wp2_with (first
    | (go_at_call 55; refine (CX.out _).mono ?_; rintro e w1 ⟨rfl, rfl⟩)
    | ((try rw [ht]); go_at_call 34; refine (CUT.out _ HS.out.st.mx).mono ?_; rintro e w1 ⟨rfl, hb⟩; have n0_ := Lib.hid (HS.out.step hb); clear HS hb; have HS := n0_; clear n0_)
    | (go_at_call 56; refine (CA.out _ HS.out.er).mono ?_; rintro e w1 ⟨N, rfl, hb⟩; have n0_ := Lib.hid (HS.out.step hb); clear HS hb; have HS := n0_; clear n0_; clear CA)
    | (go_at_call 56; refine (CB.out _ HS.out.er).mono ?_; rintro e w1 ⟨N, rfl, hb⟩; have n0_ := Lib.hid (HS.out.step hb); clear HS hb; have HS := n0_; clear n0_; clear CB)
    | (go_at_call 57; refine (CV.out _ HS.out.er).mono ?_; rintro e w1 ⟨N, rfl, hb⟩; have n0_ := Lib.hid (HS.out.step hb); clear HS hb; have HS := n0_; clear n0_; have HA := Lib.hid (fun o => HS.out.alloc o); have z0 := fun o => (blk_cell (HA.out o).st.blk 0).trans rfl; have z1 := fun o => (blk_cell (HA.out o).st.blk 1).trans rfl; have z2 := fun o => (blk_cell (HA.out o).st.blk 2).trans rfl; have zf := fun o => blk_fz (HA.out o).st.blk 0; have zf1 := fun o => blk_fz (HA.out o).st.blk 1; have zf2 := fun o => blk_fz (HA.out o).st.blk 2; clear CV))
  all_goals exact read_ret (HA.out _) _ _ _ _ rfl rfl

set_option maxRecDepth 100000 in
set_option maxHeartbeats 8000000 in
theorem read_tab (s t a b0 b u : ByteArray) (k : Nat) (hs : s.size ≤ 1000) (hk : k + 1 ≤ s.size) (hidx : Lib.indexByte s.data.toList 32 = (k : Int)) (ht : s.extract 0 k = t) (hu : s.extract (k + 1) s.size = u)
    (hcut : ∀ W, (∃ m : Int, W.cell? ⟨19, 0, none⟩ = some (.int .i64 m)) → Calls Tryz.prog 34 #[.string t, .string ⟨#[46, 46]⟩] W fun e w' => e = .returned (.tuple #[.string a, .string b0, .bool true]) ∧ Below W.heap.size W w')
    (x y v : Int) (CA : NoC a x) (CB : OkC b0 y) (CV : OkV u v) 
    (w : World) (hI : RInv w) (hE : ErrsLaid w) : RdNo s w := by
  have HS := Lib.hid (StE.first w hI hE)
  have CX := Lib.hid (fun W => Tryz.strings_IndexByte s 32 W)
  have e32 : (32 : Int).toNat.toUInt8 = 32 := by decide
  rw [e32, hidx] at CX
  have CUT := Lib.hid hcut
  have CA := Lib.hid CA
  have CB := Lib.hid CB
  have CV := Lib.hid CV
  have hk1 : (k : Int) + 1 ≤ s.size := by omega
  have g1 : ¬ (k : Int) < 0 := by omega
  clear hcut hidx e32 hI hE
  go_enter Tryz.func35, Tryz.ntmps35
  go_wp2_with (first
    | (go_at_call 55; refine (CX.out _).mono ?_; rintro e w1 ⟨rfl, rfl⟩)
    | ((try rw [ht]); go_at_call 34; refine (CUT.out _ HS.out.st.mx).mono ?_; rintro e w1 ⟨rfl, hb⟩; have n0_ := Lib.hid (HS.out.step hb); clear HS hb; have HS := n0_; clear n0_)
    | (go_at_call 56; refine (CA.out _ HS.out.er).mono ?_; rintro e w1 ⟨N, rfl, hb⟩; have n0_ := Lib.hid (HS.out.step hb); clear HS hb; have HS := n0_; clear n0_; clear CA)
    | (go_at_call 56; refine (CB.out _ HS.out.er).mono ?_; rintro e w1 ⟨rfl, hb⟩; have n0_ := Lib.hid (HS.out.step hb); clear HS hb; have HS := n0_; clear n0_; clear CB)
    | (go_at_call 57; refine (CV.out _ HS.out.er).mono ?_; rintro e w1 ⟨rfl, hb⟩; have n0_ := Lib.hid (HS.out.step hb); clear HS hb; have HS := n0_; clear n0_; have HA := Lib.hid (fun o => HS.out.alloc o); have z0 := fun o => (blk_cell (HA.out o).st.blk 0).trans rfl; have z1 := fun o => (blk_cell (HA.out o).st.blk 1).trans rfl; have z2 := fun o => (blk_cell (HA.out o).st.blk 2).trans rfl; have zf := fun o => blk_fz (HA.out o).st.blk 0; have zf1 := fun o => blk_fz (HA.out o).st.blk 1; have zf2 := fun o => blk_fz (HA.out o).st.blk 2; clear CV))
  all_goals exact read_ret (HA.out _) _ _ _ _ rfl rfl

set_option maxRecDepth 100000 in
set_option maxHeartbeats 8000000 in
theorem read_tabv (s t a b0 b u : ByteArray) (k : Nat) (hs : s.size ≤ 1000) (hk : k + 1 ≤ s.size) (hidx : Lib.indexByte s.data.toList 32 = (k : Int)) (ht : s.extract 0 k = t) (hu : s.extract (k + 1) s.size = u)
    (hcut : ∀ W, (∃ m : Int, W.cell? ⟨19, 0, none⟩ = some (.int .i64 m)) → Calls Tryz.prog 34 #[.string t, .string ⟨#[46, 46]⟩] W fun e w' => e = .returned (.tuple #[.string a, .string b0, .bool true]) ∧ Below W.heap.size W w')
    (x y v : Int) (CA : NoC a x) (CB : OkC b0 y) (CV : NoV u v) 
    (w : World) (hI : RInv w) (hE : ErrsLaid w) : RdNo s w := by
  have HS := Lib.hid (StE.first w hI hE)
  have CX := Lib.hid (fun W => Tryz.strings_IndexByte s 32 W)
  have e32 : (32 : Int).toNat.toUInt8 = 32 := by decide
  rw [e32, hidx] at CX
  have CUT := Lib.hid hcut
  have CA := Lib.hid CA
  have CB := Lib.hid CB
  have CV := Lib.hid CV
  have hk1 : (k : Int) + 1 ≤ s.size := by omega
  have g1 : ¬ (k : Int) < 0 := by omega
  clear hcut hidx e32 hI hE
  go_enter Tryz.func35, Tryz.ntmps35
  go_wp2_with (first
    | (go_at_call 55; refine (CX.out _).mono ?_; rintro e w1 ⟨rfl, rfl⟩)
    | ((try rw [ht]); go_at_call 34; refine (CUT.out _ HS.out.st.mx).mono ?_; rintro e w1 ⟨rfl, hb⟩; have n0_ := Lib.hid (HS.out.step hb); clear HS hb; have HS := n0_; clear n0_)
    | (go_at_call 56; refine (CA.out _ HS.out.er).mono ?_; rintro e w1 ⟨N, rfl, hb⟩; have n0_ := Lib.hid (HS.out.step hb); clear HS hb; have HS := n0_; clear n0_; clear CA)
    | (go_at_call 56; refine (CB.out _ HS.out.er).mono ?_; rintro e w1 ⟨rfl, hb⟩; have n0_ := Lib.hid (HS.out.step hb); clear HS hb; have HS := n0_; clear n0_; clear CB)
    | (go_at_call 57; refine (CV.out _ HS.out.er).mono ?_; rintro e w1 ⟨N, rfl, hb⟩; have n0_ := Lib.hid (HS.out.step hb); clear HS hb; have HS := n0_; clear n0_; have HA := Lib.hid (fun o => HS.out.alloc o); have z0 := fun o => (blk_cell (HA.out o).st.blk 0).trans rfl; have z1 := fun o => (blk_cell (HA.out o).st.blk 1).trans rfl; have z2 := fun o => (blk_cell (HA.out o).st.blk 2).trans rfl; have zf := fun o => blk_fz (HA.out o).st.blk 0; have zf1 := fun o => blk_fz (HA.out o).st.blk 1; have zf2 := fun o => blk_fz (HA.out o).st.blk 2; clear CV))
  all_goals exact read_ret (HA.out _) _ _ _ _ rfl rfl

set_option maxRecDepth 100000 in
set_option maxHeartbeats 8000000 in
theorem read_tb (s t a b0 b u : ByteArray) (k : Nat) (hs : s.size ≤ 1000) (hk : k + 1 ≤ s.size) (hidx : Lib.indexByte s.data.toList 32 = (k : Int)) (ht : s.extract 0 k = t) (hu : s.extract (k + 1) s.size = u)
    (hcut : ∀ W, (∃ m : Int, W.cell? ⟨19, 0, none⟩ = some (.int .i64 m)) → Calls Tryz.prog 34 #[.string t, .string ⟨#[46, 46]⟩] W fun e w' => e = .returned (.tuple #[.string a, .string b0, .bool true]) ∧ Below W.heap.size W w')
    (x y v : Int) (CA : OkC a x) (CB : NoC b0 y) (CV : OkV u v) (hx1 : -2147483648 ≤ x) (hx2 : x ≤ 2147483647)
    (w : World) (hI : RInv w) (hE : ErrsLaid w) : RdNo s w := by
  have HS := Lib.hid (StE.first w hI hE)
  have CX := Lib.hid (fun W => Tryz.strings_IndexByte s 32 W)
  have e32 : (32 : Int).toNat.toUInt8 = 32 := by decide
  rw [e32, hidx] at CX
  have CUT := Lib.hid hcut
  have CA := Lib.hid CA
  have CB := Lib.hid CB
  have CV := Lib.hid CV
  have hk1 : (k : Int) + 1 ≤ s.size := by omega
  have g1 : ¬ (k : Int) < 0 := by omega
  clear hcut hidx e32 hI hE
  go_enter Tryz.func35, Tryz.ntmps35
  go_wp2_with (first
    | (go_at_call 55; refine (CX.out _).mono ?_; rintro e w1 ⟨rfl, rfl⟩)
    | ((try rw [ht]); go_at_call 34; refine (CUT.out _ HS.out.st.mx).mono ?_; rintro e w1 ⟨rfl, hb⟩; have n0_ := Lib.hid (HS.out.step hb); clear HS hb; have HS := n0_; clear n0_)
    | (go_at_call 56; refine (CA.out _ HS.out.er).mono ?_; rintro e w1 ⟨rfl, hb⟩; have n0_ := Lib.hid (HS.out.step hb); clear HS hb; have HS := n0_; clear n0_; clear CA)
    | (go_at_call 56; refine (CB.out _ HS.out.er).mono ?_; rintro e w1 ⟨N, rfl, hb⟩; have n0_ := Lib.hid (HS.out.step hb); clear HS hb; have HS := n0_; clear n0_; clear CB)
    | (go_at_call 57; refine (CV.out _ HS.out.er).mono ?_; rintro e w1 ⟨rfl, hb⟩; have n0_ := Lib.hid (HS.out.step hb); clear HS hb; have HS := n0_; clear n0_; have HA := Lib.hid (fun o => HS.out.alloc o); have z0 := fun o => (blk_cell (HA.out o).st.blk 0).trans rfl; have z1 := fun o => (blk_cell (HA.out o).st.blk 1).trans rfl; have z2 := fun o => (blk_cell (HA.out o).st.blk 2).trans rfl; have zf := fun o => blk_fz (HA.out o).st.blk 0; have zf1 := fun o => blk_fz (HA.out o).st.blk 1; have zf2 := fun o => blk_fz (HA.out o).st.blk 2; clear CV))
  all_goals exact read_ret (HA.out _) _ _ _ _ rfl rfl

set_option maxRecDepth 100000 in
set_option maxHeartbeats 8000000 in
theorem read_tbv (s t a b0 b u : ByteArray) (k : Nat) (hs : s.size ≤ 1000) (hk : k + 1 ≤ s.size) (hidx : Lib.indexByte s.data.toList 32 = (k : Int)) (ht : s.extract 0 k = t) (hu : s.extract (k + 1) s.size = u)
    (hcut : ∀ W, (∃ m : Int, W.cell? ⟨19, 0, none⟩ = some (.int .i64 m)) → Calls Tryz.prog 34 #[.string t, .string ⟨#[46, 46]⟩] W fun e w' => e = .returned (.tuple #[.string a, .string b0, .bool true]) ∧ Below W.heap.size W w')
    (x y v : Int) (CA : OkC a x) (CB : NoC b0 y) (CV : NoV u v) (hx1 : -2147483648 ≤ x) (hx2 : x ≤ 2147483647)
    (w : World) (hI : RInv w) (hE : ErrsLaid w) : RdNo s w := by
  have HS := Lib.hid (StE.first w hI hE)
  have CX := Lib.hid (fun W => Tryz.strings_IndexByte s 32 W)
  have e32 : (32 : Int).toNat.toUInt8 = 32 := by decide
  rw [e32, hidx] at CX
  have CUT := Lib.hid hcut
  have CA := Lib.hid CA
  have CB := Lib.hid CB
  have CV := Lib.hid CV
  have hk1 : (k : Int) + 1 ≤ s.size := by omega
  have g1 : ¬ (k : Int) < 0 := by omega
  clear hcut hidx e32 hI hE
  go_enter Tryz.func35, Tryz.ntmps35
  go_wp2_with (first
    | (go_at_call 55; refine (CX.out _).mono ?_; rintro e w1 ⟨rfl, rfl⟩)
    | ((try rw [ht]); go_at_call 34; refine (CUT.out _ HS.out.st.mx).mono ?_; rintro e w1 ⟨rfl, hb⟩; have n0_ := Lib.hid (HS.out.step hb); clear HS hb; have HS := n0_; clear n0_)
    | (go_at_call 56; refine (CA.out _ HS.out.er).mono ?_; rintro e w1 ⟨rfl, hb⟩; have n0_ := Lib.hid (HS.out.step hb); clear HS hb; have HS := n0_; clear n0_; clear CA)
    | (go_at_call 56; refine (CB.out _ HS.out.er).mono ?_; rintro e w1 ⟨N, rfl, hb⟩; have n0_ := Lib.hid (HS.out.step hb); clear HS hb; have HS := n0_; clear n0_; clear CB)
    | (go_at_call 57; refine (CV.out _ HS.out.er).mono ?_; rintro e w1 ⟨N, rfl, hb⟩; have n0_ := Lib.hid (HS.out.step hb); clear HS hb; have HS := n0_; clear n0_; have HA := Lib.hid (fun o => HS.out.alloc o); have z0 := fun o => (blk_cell (HA.out o).st.blk 0).trans rfl; have z1 := fun o => (blk_cell (HA.out o).st.blk 1).trans rfl; have z2 := fun o => (blk_cell (HA.out o).st.blk 2).trans rfl; have zf := fun o => blk_fz (HA.out o).st.blk 0; have zf1 := fun o => blk_fz (HA.out o).st.blk 1; have zf2 := fun o => blk_fz (HA.out o).st.blk 2; clear CV))
  all_goals exact read_ret (HA.out _) _ _ _ _ rfl rfl

set_option maxRecDepth 100000 in
set_option maxHeartbeats 8000000 in
theorem read_tv (s t a b0 b u : ByteArray) (k : Nat) (hs : s.size ≤ 1000) (hk : k + 1 ≤ s.size) (hidx : Lib.indexByte s.data.toList 32 = (k : Int)) (ht : s.extract 0 k = t) (hu : s.extract (k + 1) s.size = u)
    (hcut : ∀ W, (∃ m : Int, W.cell? ⟨19, 0, none⟩ = some (.int .i64 m)) → Calls Tryz.prog 34 #[.string t, .string ⟨#[46, 46]⟩] W fun e w' => e = .returned (.tuple #[.string a, .string b0, .bool true]) ∧ Below W.heap.size W w')
    (x y v : Int) (CA : OkC a x) (CB : OkC b0 y) (CV : NoV u v) (hx1 : -2147483648 ≤ x) (hx2 : x ≤ 2147483647) (hy1 : -2147483648 ≤ y) (hy2 : y ≤ 2147483647)
    (w : World) (hI : RInv w) (hE : ErrsLaid w) : RdNo s w := by
  have HS := Lib.hid (StE.first w hI hE)
  have CX := Lib.hid (fun W => Tryz.strings_IndexByte s 32 W)
  have e32 : (32 : Int).toNat.toUInt8 = 32 := by decide
  rw [e32, hidx] at CX
  have CUT := Lib.hid hcut
  have CA := Lib.hid CA
  have CB := Lib.hid CB
  have CV := Lib.hid CV
  have hk1 : (k : Int) + 1 ≤ s.size := by omega
  have g1 : ¬ (k : Int) < 0 := by omega
  clear hcut hidx e32 hI hE
  go_enter Tryz.func35, Tryz.ntmps35
  go_wp2_with (first
    | (go_at_call 55; refine (CX.out _).mono ?_; rintro e w1 ⟨rfl, rfl⟩)
    | ((try rw [ht]); go_at_call 34; refine (CUT.out _ HS.out.st.mx).mono ?_; rintro e w1 ⟨rfl, hb⟩; have n0_ := Lib.hid (HS.out.step hb); clear HS hb; have HS := n0_; clear n0_)
    | (go_at_call 56; refine (CA.out _ HS.out.er).mono ?_; rintro e w1 ⟨rfl, hb⟩; have n0_ := Lib.hid (HS.out.step hb); clear HS hb; have HS := n0_; clear n0_; clear CA)
    | (go_at_call 56; refine (CB.out _ HS.out.er).mono ?_; rintro e w1 ⟨rfl, hb⟩; have n0_ := Lib.hid (HS.out.step hb); clear HS hb; have HS := n0_; clear n0_; clear CB)
    | (go_at_call 57; refine (CV.out _ HS.out.er).mono ?_; rintro e w1 ⟨N, rfl, hb⟩; have n0_ := Lib.hid (HS.out.step hb); clear HS hb; have HS := n0_; clear n0_; have HA := Lib.hid (fun o => HS.out.alloc o); have z0 := fun o => (blk_cell (HA.out o).st.blk 0).trans rfl; have z1 := fun o => (blk_cell (HA.out o).st.blk 1).trans rfl; have z2 := fun o => (blk_cell (HA.out o).st.blk 2).trans rfl; have zf := fun o => blk_fz (HA.out o).st.blk 0; have zf1 := fun o => blk_fz (HA.out o).st.blk 1; have zf2 := fun o => blk_fz (HA.out o).st.blk 2; clear CV))
  all_goals exact read_ret (HA.out _) _ _ _ _ rfl rfl

set_option maxRecDepth 100000 in
set_option maxHeartbeats 8000000 in
theorem read_tx (s t a b0 b u : ByteArray) (k : Nat) (hs : s.size ≤ 1000) (hk : k + 1 ≤ s.size) (hidx : Lib.indexByte s.data.toList 32 = (k : Int)) (ht : s.extract 0 k = t) (hu : s.extract (k + 1) s.size = u)
    (hcut : ∀ W, (∃ m : Int, W.cell? ⟨19, 0, none⟩ = some (.int .i64 m)) → Calls Tryz.prog 34 #[.string t, .string ⟨#[46, 46]⟩] W fun e w' => e = .returned (.tuple #[.string a, .string b0, .bool true]) ∧ Below W.heap.size W w')
    (x y v : Int) (CA : OkC a x) (CB : OkC b0 y) (CV : OkV u v) (hx1 : -2147483648 ≤ x) (hx2 : x ≤ 2147483647) (hy1 : -2147483648 ≤ y) (hy2 : y ≤ 2147483647) (hxn : x < 0)
    (w : World) (hI : RInv w) (hE : ErrsLaid w) : RdNo s w := by
  have HS := Lib.hid (StE.first w hI hE)
  have CX := Lib.hid (fun W => Tryz.strings_IndexByte s 32 W)
  have e32 : (32 : Int).toNat.toUInt8 = 32 := by decide
  rw [e32, hidx] at CX
  have CUT := Lib.hid hcut
  have CA := Lib.hid CA
  have CB := Lib.hid CB
  have CV := Lib.hid CV
  have hk1 : (k : Int) + 1 ≤ s.size := by omega
  have g1 : ¬ (k : Int) < 0 := by omega
  clear hcut hidx e32 hI hE
  go_enter Tryz.func35, Tryz.ntmps35
  go_wp2_with (first
    | (go_at_call 55; refine (CX.out _).mono ?_; rintro e w1 ⟨rfl, rfl⟩)
    | ((try rw [ht]); go_at_call 34; refine (CUT.out _ HS.out.st.mx).mono ?_; rintro e w1 ⟨rfl, hb⟩; have n0_ := Lib.hid (HS.out.step hb); clear HS hb; have HS := n0_; clear n0_)
    | (go_at_call 56; refine (CA.out _ HS.out.er).mono ?_; rintro e w1 ⟨rfl, hb⟩; have n0_ := Lib.hid (HS.out.step hb); clear HS hb; have HS := n0_; clear n0_; clear CA)
    | (go_at_call 56; refine (CB.out _ HS.out.er).mono ?_; rintro e w1 ⟨rfl, hb⟩; have n0_ := Lib.hid (HS.out.step hb); clear HS hb; have HS := n0_; clear n0_; clear CB)
    | (go_at_call 57; refine (CV.out _ HS.out.er).mono ?_; rintro e w1 ⟨rfl, hb⟩; have n0_ := Lib.hid (HS.out.step hb); clear HS hb; have HS := n0_; clear n0_; have HA := Lib.hid (fun o => HS.out.alloc o); have z0 := fun o => (blk_cell (HA.out o).st.blk 0).trans rfl; have z1 := fun o => (blk_cell (HA.out o).st.blk 1).trans rfl; have z2 := fun o => (blk_cell (HA.out o).st.blk 2).trans rfl; have zf := fun o => blk_fz (HA.out o).st.blk 0; have zf1 := fun o => blk_fz (HA.out o).st.blk 1; have zf2 := fun o => blk_fz (HA.out o).st.blk 2; clear CV))
  all_goals exact read_ret (HA.out _) _ _ _ _ rfl rfl

set_option maxRecDepth 100000 in
set_option maxHeartbeats 8000000 in
theorem read_ty (s t a b0 b u : ByteArray) (k : Nat) (hs : s.size ≤ 1000) (hk : k + 1 ≤ s.size) (hidx : Lib.indexByte s.data.toList 32 = (k : Int)) (ht : s.extract 0 k = t) (hu : s.extract (k + 1) s.size = u)
    (hcut : ∀ W, (∃ m : Int, W.cell? ⟨19, 0, none⟩ = some (.int .i64 m)) → Calls Tryz.prog 34 #[.string t, .string ⟨#[46, 46]⟩] W fun e w' => e = .returned (.tuple #[.string a, .string b0, .bool true]) ∧ Below W.heap.size W w')
    (x y v : Int) (CA : OkC a x) (CB : OkC b0 y) (CV : OkV u v) (hx1 : -2147483648 ≤ x) (hx2 : x ≤ 2147483647) (hy1 : -2147483648 ≤ y) (hy2 : y ≤ 2147483647) (hxn : ¬ x < 0) (hyn : y < 0)
    (w : World) (hI : RInv w) (hE : ErrsLaid w) : RdNo s w := by
  have HS := Lib.hid (StE.first w hI hE)
  have CX := Lib.hid (fun W => Tryz.strings_IndexByte s 32 W)
  have e32 : (32 : Int).toNat.toUInt8 = 32 := by decide
  rw [e32, hidx] at CX
  have CUT := Lib.hid hcut
  have CA := Lib.hid CA
  have CB := Lib.hid CB
  have CV := Lib.hid CV
  have hk1 : (k : Int) + 1 ≤ s.size := by omega
  have g1 : ¬ (k : Int) < 0 := by omega
  clear hcut hidx e32 hI hE
  go_enter Tryz.func35, Tryz.ntmps35
  go_wp2_with (first
    | (go_at_call 55; refine (CX.out _).mono ?_; rintro e w1 ⟨rfl, rfl⟩)
    | ((try rw [ht]); go_at_call 34; refine (CUT.out _ HS.out.st.mx).mono ?_; rintro e w1 ⟨rfl, hb⟩; have n0_ := Lib.hid (HS.out.step hb); clear HS hb; have HS := n0_; clear n0_)
    | (go_at_call 56; refine (CA.out _ HS.out.er).mono ?_; rintro e w1 ⟨rfl, hb⟩; have n0_ := Lib.hid (HS.out.step hb); clear HS hb; have HS := n0_; clear n0_; clear CA)
    | (go_at_call 56; refine (CB.out _ HS.out.er).mono ?_; rintro e w1 ⟨rfl, hb⟩; have n0_ := Lib.hid (HS.out.step hb); clear HS hb; have HS := n0_; clear n0_; clear CB)
    | (go_at_call 57; refine (CV.out _ HS.out.er).mono ?_; rintro e w1 ⟨rfl, hb⟩; have n0_ := Lib.hid (HS.out.step hb); clear HS hb; have HS := n0_; clear n0_; have HA := Lib.hid (fun o => HS.out.alloc o); have z0 := fun o => (blk_cell (HA.out o).st.blk 0).trans rfl; have z1 := fun o => (blk_cell (HA.out o).st.blk 1).trans rfl; have z2 := fun o => (blk_cell (HA.out o).st.blk 2).trans rfl; have zf := fun o => blk_fz (HA.out o).st.blk 0; have zf1 := fun o => blk_fz (HA.out o).st.blk 1; have zf2 := fun o => blk_fz (HA.out o).st.blk 2; clear CV))
  all_goals exact read_ret (HA.out _) _ _ _ _ rfl rfl

set_option maxRecDepth 100000 in
set_option maxHeartbeats 8000000 in
theorem read_tm (s t a b0 b u : ByteArray) (k : Nat) (hs : s.size ≤ 1000) (hk : k + 1 ≤ s.size) (hidx : Lib.indexByte s.data.toList 32 = (k : Int)) (ht : s.extract 0 k = t) (hu : s.extract (k + 1) s.size = u)
    (hcut : ∀ W, (∃ m : Int, W.cell? ⟨19, 0, none⟩ = some (.int .i64 m)) → Calls Tryz.prog 34 #[.string t, .string ⟨#[46, 46]⟩] W fun e w' => e = .returned (.tuple #[.string a, .string b0, .bool true]) ∧ Below W.heap.size W w')
    (x y v : Int) (CA : OkC a x) (CB : OkC b0 y) (CV : OkV u v) (hx1 : -2147483648 ≤ x) (hx2 : x ≤ 2147483647) (hy1 : -2147483648 ≤ y) (hy2 : y ≤ 2147483647) (hxn : ¬ x < 0) (hyn : ¬ y < 0) (gm : (if (a.size : Int) < (b0.size : Int) then (b0.size : Int) else (a.size : Int)) > 6)
    (w : World) (hI : RInv w) (hE : ErrsLaid w) : RdNo s w := by
  have HS := Lib.hid (StE.first w hI hE)
  have CX := Lib.hid (fun W => Tryz.strings_IndexByte s 32 W)
  have e32 : (32 : Int).toNat.toUInt8 = 32 := by decide
  rw [e32, hidx] at CX
  have CUT := Lib.hid hcut
  have CA := Lib.hid CA
  have CB := Lib.hid CB
  have CV := Lib.hid CV
  have hk1 : (k : Int) + 1 ≤ s.size := by omega
  have g1 : ¬ (k : Int) < 0 := by omega
  clear hcut hidx e32 hI hE
  go_enter Tryz.func35, Tryz.ntmps35
  go_wp2_with (first
    | (go_at_call 55; refine (CX.out _).mono ?_; rintro e w1 ⟨rfl, rfl⟩)
    | ((try rw [ht]); go_at_call 34; refine (CUT.out _ HS.out.st.mx).mono ?_; rintro e w1 ⟨rfl, hb⟩; have n0_ := Lib.hid (HS.out.step hb); clear HS hb; have HS := n0_; clear n0_)
    | (go_at_call 56; refine (CA.out _ HS.out.er).mono ?_; rintro e w1 ⟨rfl, hb⟩; have n0_ := Lib.hid (HS.out.step hb); clear HS hb; have HS := n0_; clear n0_; clear CA)
    | (go_at_call 56; refine (CB.out _ HS.out.er).mono ?_; rintro e w1 ⟨rfl, hb⟩; have n0_ := Lib.hid (HS.out.step hb); clear HS hb; have HS := n0_; clear n0_; clear CB)
    | (go_at_call 57; refine (CV.out _ HS.out.er).mono ?_; rintro e w1 ⟨rfl, hb⟩; have n0_ := Lib.hid (HS.out.step hb); clear HS hb; have HS := n0_; clear n0_; have HA := Lib.hid (fun o => HS.out.alloc o); have z0 := fun o => (blk_cell (HA.out o).st.blk 0).trans rfl; have z1 := fun o => (blk_cell (HA.out o).st.blk 1).trans rfl; have z2 := fun o => (blk_cell (HA.out o).st.blk 2).trans rfl; have zf := fun o => blk_fz (HA.out o).st.blk 0; have zf1 := fun o => blk_fz (HA.out o).st.blk 1; have zf2 := fun o => blk_fz (HA.out o).st.blk 2; clear CV))
  all_goals exact read_ret (HA.out _) _ _ _ _ rfl rfl

set_option maxRecDepth 100000 in
set_option maxHeartbeats 8000000 in
theorem read_tl (s t a b0 b u : ByteArray) (k : Nat) (hs : s.size ≤ 1000) (hk : k + 1 ≤ s.size) (hidx : Lib.indexByte s.data.toList 32 = (k : Int)) (ht : s.extract 0 k = t) (hu : s.extract (k + 1) s.size = u)
    (hcut : ∀ W, (∃ m : Int, W.cell? ⟨19, 0, none⟩ = some (.int .i64 m)) → Calls Tryz.prog 34 #[.string t, .string ⟨#[46, 46]⟩] W fun e w' => e = .returned (.tuple #[.string a, .string b0, .bool true]) ∧ Below W.heap.size W w')
    (x y v : Int) (CA : OkC a x) (CB : OkC b0 y) (CV : OkV u v) (hx1 : -2147483648 ≤ x) (hx2 : x ≤ 2147483647) (hy1 : -2147483648 ≤ y) (hy2 : y ≤ 2147483647) (hxn : ¬ x < 0) (hyn : ¬ y < 0) (gm : ¬ (if (a.size : Int) < (b0.size : Int) then (b0.size : Int) else (a.size : Int)) > 6) (gl : (s.size : Int) - k > 8)
    (w : World) (hI : RInv w) (hE : ErrsLaid w) : RdNo s w := by
  have HS := Lib.hid (StE.first w hI hE)
  have CX := Lib.hid (fun W => Tryz.strings_IndexByte s 32 W)
  have e32 : (32 : Int).toNat.toUInt8 = 32 := by decide
  rw [e32, hidx] at CX
  have CUT := Lib.hid hcut
  have CA := Lib.hid CA
  have CB := Lib.hid CB
  have CV := Lib.hid CV
  have hk1 : (k : Int) + 1 ≤ s.size := by omega
  have g1 : ¬ (k : Int) < 0 := by omega
  clear hcut hidx e32 hI hE
  go_enter Tryz.func35, Tryz.ntmps35
  go_wp2_with (first
    | (go_at_call 55; refine (CX.out _).mono ?_; rintro e w1 ⟨rfl, rfl⟩)
    | ((try rw [ht]); go_at_call 34; refine (CUT.out _ HS.out.st.mx).mono ?_; rintro e w1 ⟨rfl, hb⟩; have n0_ := Lib.hid (HS.out.step hb); clear HS hb; have HS := n0_; clear n0_)
    | (go_at_call 56; refine (CA.out _ HS.out.er).mono ?_; rintro e w1 ⟨rfl, hb⟩; have n0_ := Lib.hid (HS.out.step hb); clear HS hb; have HS := n0_; clear n0_; clear CA)
    | (go_at_call 56; refine (CB.out _ HS.out.er).mono ?_; rintro e w1 ⟨rfl, hb⟩; have n0_ := Lib.hid (HS.out.step hb); clear HS hb; have HS := n0_; clear n0_; clear CB)
    | (go_at_call 57; refine (CV.out _ HS.out.er).mono ?_; rintro e w1 ⟨rfl, hb⟩; have n0_ := Lib.hid (HS.out.step hb); clear HS hb; have HS := n0_; clear n0_; have HA := Lib.hid (fun o => HS.out.alloc o); have z0 := fun o => (blk_cell (HA.out o).st.blk 0).trans rfl; have z1 := fun o => (blk_cell (HA.out o).st.blk 1).trans rfl; have z2 := fun o => (blk_cell (HA.out o).st.blk 2).trans rfl; have zf := fun o => blk_fz (HA.out o).st.blk 0; have zf1 := fun o => blk_fz (HA.out o).st.blk 1; have zf2 := fun o => blk_fz (HA.out o).st.blk 2; clear CV))
  all_goals exact read_ret (HA.out _) _ _ _ _ rfl rfl

set_option maxRecDepth 100000 in
set_option maxHeartbeats 8000000 in
theorem read_tn (s t a b0 b u : ByteArray) (k : Nat) (hs : s.size ≤ 1000) (hk : k + 1 ≤ s.size) (hidx : Lib.indexByte s.data.toList 32 = (k : Int)) (ht : s.extract 0 k = t) (hu : s.extract (k + 1) s.size = u)
    (hcut : ∀ W, (∃ m : Int, W.cell? ⟨19, 0, none⟩ = some (.int .i64 m)) → Calls Tryz.prog 34 #[.string t, .string ⟨#[46, 46]⟩] W fun e w' => e = .returned (.tuple #[.string a, .string b0, .bool true]) ∧ Below W.heap.size W w')
    (x y v : Int) (CA : OkC a x) (CB : OkC b0 y) (CV : OkV u v) (hx1 : -2147483648 ≤ x) (hx2 : x ≤ 2147483647) (hy1 : -2147483648 ≤ y) (hy2 : y ≤ 2147483647) (hxn : ¬ x < 0) (hyn : ¬ y < 0) (gm : ¬ (if (a.size : Int) < (b0.size : Int) then (b0.size : Int) else (a.size : Int)) > 6) (gl : ¬ (s.size : Int) - k > 8) (L : ByteArray) (CL : ∀ W, Tz W → Pow10 W → Calls Tryz.prog 30 #[.agg #[.int .i32 x, .int .i32 y, .int .i64 v]] W fun e w' => e = .returned (.string L) ∧ Below W.heap.size W w') (hL : L ≠ s)
    (w : World) (hI : RInv w) (hE : ErrsLaid w) : RdNo s w := by
  have HS := Lib.hid (StE.first w hI hE)
  have CX := Lib.hid (fun W => Tryz.strings_IndexByte s 32 W)
  have e32 : (32 : Int).toNat.toUInt8 = 32 := by decide
  rw [e32, hidx] at CX
  have CUT := Lib.hid hcut
  have CA := Lib.hid CA
  have CB := Lib.hid CB
  have CV := Lib.hid CV
  have CL := Lib.hid CL
  have hk1 : (k : Int) + 1 ≤ s.size := by omega
  have g1 : ¬ (k : Int) < 0 := by omega
  have hL1 : (L.toList == s.toList) = false := by rw [beq_eq_false_iff_ne]; intro e; exact hL (ByteArray.ext (Array.toList_inj.1 (by rwa [Lib.toList_data, Lib.toList_data] at e)))
  have hL2 : (L.toList != s.toList) = true := by rw [bne, hL1]; rfl
  clear hL
  clear hcut hidx e32 hI hE
  go_enter Tryz.func35, Tryz.ntmps35
  go_wp2_with (first
    | (go_at_call 55; refine (CX.out _).mono ?_; rintro e w1 ⟨rfl, rfl⟩)
    | ((try rw [ht]); go_at_call 34; refine (CUT.out _ HS.out.st.mx).mono ?_; rintro e w1 ⟨rfl, hb⟩; have n0_ := Lib.hid (HS.out.step hb); clear HS hb; have HS := n0_; clear n0_)
    | (go_at_call 56; refine (CA.out _ HS.out.er).mono ?_; rintro e w1 ⟨rfl, hb⟩; have n0_ := Lib.hid (HS.out.step hb); clear HS hb; have HS := n0_; clear n0_; clear CA)
    | (go_at_call 56; refine (CB.out _ HS.out.er).mono ?_; rintro e w1 ⟨rfl, hb⟩; have n0_ := Lib.hid (HS.out.step hb); clear HS hb; have HS := n0_; clear n0_; clear CB)
    | (go_at_call 57; refine (CV.out _ HS.out.er).mono ?_; rintro e w1 ⟨rfl, hb⟩; have n0_ := Lib.hid (HS.out.step hb); clear HS hb; have HS := n0_; clear n0_; have HA := Lib.hid (fun o => HS.out.alloc o); have z0 := fun o => (blk_cell (HA.out o).st.blk 0).trans rfl; have z1 := fun o => (blk_cell (HA.out o).st.blk 1).trans rfl; have z2 := fun o => (blk_cell (HA.out o).st.blk 2).trans rfl; have zf := fun o => blk_fz (HA.out o).st.blk 0; have zf1 := fun o => blk_fz (HA.out o).st.blk 1; have zf2 := fun o => blk_fz (HA.out o).st.blk 2; clear CV)
    | (go_at_call 30; have S1 := HS.out.step ((Below.refl w1.heap.size w1).alloc (Nat.le_refl _) (.cells #[.int .i32 x, .int .i32 y, .int .i64 v] 28)); refine (CL.out _ S1.st.tz S1.st.p10).mono ?_; rintro e w9 ⟨rfl, hb⟩; have hn := below_blk hb (blk_new w1 (.cells #[.int .i32 x, .int .i32 y, .int .i64 v] 28)); have q0 := (blk_cell hn 0).trans rfl; have q1 := (blk_cell hn 1).trans rfl; have q2 := (blk_cell hn 2).trans rfl; have n0_ := Lib.hid (S1.step hb); clear HS hb hn S1; have HS := n0_; clear n0_; have hz := HS.out.st.blk; have z0 := (blk_cell hz 0).trans rfl; have z1 := (blk_cell hz 1).trans rfl; have z2 := (blk_cell hz 2).trans rfl; have zf := blk_fz hz 0; have zf1 := blk_fz hz 1; have zf2 := blk_fz hz 2; clear hz))
  all_goals exact read_ret HS.out _ _ _ _ rfl rfl

set_option maxRecDepth 100000 in
set_option maxHeartbeats 8000000 in
theorem read_tg (s t a b0 b u : ByteArray) (k : Nat) (hs : s.size ≤ 1000) (hk : k + 1 ≤ s.size) (hidx : Lib.indexByte s.data.toList 32 = (k : Int)) (ht : s.extract 0 k = t) (hu : s.extract (k + 1) s.size = u)
    (hcut : ∀ W, (∃ m : Int, W.cell? ⟨19, 0, none⟩ = some (.int .i64 m)) → Calls Tryz.prog 34 #[.string t, .string ⟨#[46, 46]⟩] W fun e w' => e = .returned (.tuple #[.string a, .string b0, .bool true]) ∧ Below W.heap.size W w')
    (x y v : Int) (CA : OkC a x) (CB : OkC b0 y) (CV : OkV u v) (hx1 : -2147483648 ≤ x) (hx2 : x ≤ 2147483647) (hy1 : -2147483648 ≤ y) (hy2 : y ≤ 2147483647) (hxn : ¬ x < 0) (hyn : ¬ y < 0) (gm : ¬ (if (a.size : Int) < (b0.size : Int) then (b0.size : Int) else (a.size : Int)) > 6) (gl : ¬ (s.size : Int) - k > 8) (CL : ∀ W, Tz W → Pow10 W → Calls Tryz.prog 30 #[.agg #[.int .i32 x, .int .i32 y, .int .i64 v]] W fun e w' => e = .returned (.string s) ∧ Below W.heap.size W w')
    (w : World) (hI : RInv w) (hE : ErrsLaid w) : Calls Tryz.prog 35 #[.string s] w fun e w' => e = .returned (.tuple #[.agg #[.int .i32 x, .int .i32 y, .int .i64 v], .bool true]) ∧ Below w.heap.size w w' := by
  have HS := Lib.hid (StE.first w hI hE)
  have CX := Lib.hid (fun W => Tryz.strings_IndexByte s 32 W)
  have e32 : (32 : Int).toNat.toUInt8 = 32 := by decide
  rw [e32, hidx] at CX
  have CUT := Lib.hid hcut
  have CA := Lib.hid CA
  have CB := Lib.hid CB
  have CV := Lib.hid CV
  have CL := Lib.hid CL
  have hk1 : (k : Int) + 1 ≤ s.size := by omega
  have g1 : ¬ (k : Int) < 0 := by omega
  clear hcut hidx e32 hI hE
  go_enter Tryz.func35, Tryz.ntmps35
  go_wp2_with (first
    | (go_at_call 55; refine (CX.out _).mono ?_; rintro e w1 ⟨rfl, rfl⟩)
    | ((try rw [ht]); go_at_call 34; refine (CUT.out _ HS.out.st.mx).mono ?_; rintro e w1 ⟨rfl, hb⟩; have n0_ := Lib.hid (HS.out.step hb); clear HS hb; have HS := n0_; clear n0_)
    | (go_at_call 56; refine (CA.out _ HS.out.er).mono ?_; rintro e w1 ⟨rfl, hb⟩; have n0_ := Lib.hid (HS.out.step hb); clear HS hb; have HS := n0_; clear n0_; clear CA)
    | (go_at_call 56; refine (CB.out _ HS.out.er).mono ?_; rintro e w1 ⟨rfl, hb⟩; have n0_ := Lib.hid (HS.out.step hb); clear HS hb; have HS := n0_; clear n0_; clear CB)
    | (go_at_call 57; refine (CV.out _ HS.out.er).mono ?_; rintro e w1 ⟨rfl, hb⟩; have n0_ := Lib.hid (HS.out.step hb); clear HS hb; have HS := n0_; clear n0_; have HA := Lib.hid (fun o => HS.out.alloc o); have z0 := fun o => (blk_cell (HA.out o).st.blk 0).trans rfl; have z1 := fun o => (blk_cell (HA.out o).st.blk 1).trans rfl; have z2 := fun o => (blk_cell (HA.out o).st.blk 2).trans rfl; have zf := fun o => blk_fz (HA.out o).st.blk 0; have zf1 := fun o => blk_fz (HA.out o).st.blk 1; have zf2 := fun o => blk_fz (HA.out o).st.blk 2; clear CV)
    | (go_at_call 30; have S1 := HS.out.step ((Below.refl w1.heap.size w1).alloc (Nat.le_refl _) (.cells #[.int .i32 x, .int .i32 y, .int .i64 v] 28)); refine (CL.out _ S1.st.tz S1.st.p10).mono ?_; rintro e w9 ⟨rfl, hb⟩; have hn := below_blk hb (blk_new w1 (.cells #[.int .i32 x, .int .i32 y, .int .i64 v] 28)); have q0 := (blk_cell hn 0).trans rfl; have q1 := (blk_cell hn 1).trans rfl; have q2 := (blk_cell hn 2).trans rfl; have n0_ := Lib.hid (S1.step hb); clear HS hb hn S1; have HS := n0_; clear n0_; have hz := HS.out.st.blk; have z0 := (blk_cell hz 0).trans rfl; have z1 := (blk_cell hz 1).trans rfl; have z2 := (blk_cell hz 2).trans rfl; have zf := blk_fz hz 0; have zf1 := blk_fz hz 1; have zf2 := blk_fz hz 2; clear hz))
  all_goals exact read_ret HS.out _ _ _ _ rfl rfl

set_option maxRecDepth 100000 in
set_option maxHeartbeats 8000000 in
theorem read_fa (s t a b0 b u : ByteArray) (k : Nat) (hs : s.size ≤ 1000) (hk : k + 1 ≤ s.size) (hidx : Lib.indexByte s.data.toList 32 = (k : Int)) (ht : s.extract 0 k = t) (hu : s.extract (k + 1) s.size = u)
    (hcut : ∀ W, (∃ m : Int, W.cell? ⟨19, 0, none⟩ = some (.int .i64 m)) → Calls Tryz.prog 34 #[.string t, .string ⟨#[46, 46]⟩] W fun e w' => e = .returned (.tuple #[.string a, .string b0, .bool false]) ∧ Below W.heap.size W w')
    (x y v : Int) (CA : NoC a x) (CV : OkV u v) 
    (w : World) (hI : RInv w) (hE : ErrsLaid w) : RdNo s w := by
  have HS := Lib.hid (StE.first w hI hE)
  have CX := Lib.hid (fun W => Tryz.strings_IndexByte s 32 W)
  have e32 : (32 : Int).toNat.toUInt8 = 32 := by decide
  rw [e32, hidx] at CX
  have CUT := Lib.hid hcut
  have CB := Lib.hid CA
  have CA := Lib.hid CA
  have CV := Lib.hid CV
  have hk1 : (k : Int) + 1 ≤ s.size := by omega
  have g1 : ¬ (k : Int) < 0 := by omega
  clear hcut hidx e32 hI hE
  go_enter Tryz.func35, Tryz.ntmps35
  go_wp2_with (first
    | (go_at_call 55; refine (CX.out _).mono ?_; rintro e w1 ⟨rfl, rfl⟩)
    | ((try rw [ht]); go_at_call 34; refine (CUT.out _ HS.out.st.mx).mono ?_; rintro e w1 ⟨rfl, hb⟩; have n0_ := Lib.hid (HS.out.step hb); clear HS hb; have HS := n0_; clear n0_)
    | (go_at_call 56; refine (CA.out _ HS.out.er).mono ?_; rintro e w1 ⟨N, rfl, hb⟩; have n0_ := Lib.hid (HS.out.step hb); clear HS hb; have HS := n0_; clear n0_; clear CA)
    | (go_at_call 56; refine (CB.out _ HS.out.er).mono ?_; rintro e w1 ⟨N, rfl, hb⟩; have n0_ := Lib.hid (HS.out.step hb); clear HS hb; have HS := n0_; clear n0_; clear CB)
    | (go_at_call 57; refine (CV.out _ HS.out.er).mono ?_; rintro e w1 ⟨rfl, hb⟩; have n0_ := Lib.hid (HS.out.step hb); clear HS hb; have HS := n0_; clear n0_; have HA := Lib.hid (fun o => HS.out.alloc o); have z0 := fun o => (blk_cell (HA.out o).st.blk 0).trans rfl; have z1 := fun o => (blk_cell (HA.out o).st.blk 1).trans rfl; have z2 := fun o => (blk_cell (HA.out o).st.blk 2).trans rfl; have zf := fun o => blk_fz (HA.out o).st.blk 0; have zf1 := fun o => blk_fz (HA.out o).st.blk 1; have zf2 := fun o => blk_fz (HA.out o).st.blk 2; clear CV))
  all_goals exact read_ret (HA.out _) _ _ _ _ rfl rfl

set_option maxRecDepth 100000 in
set_option maxHeartbeats 8000000 in
theorem read_fav (s t a b0 b u : ByteArray) (k : Nat) (hs : s.size ≤ 1000) (hk : k + 1 ≤ s.size) (hidx : Lib.indexByte s.data.toList 32 = (k : Int)) (ht : s.extract 0 k = t) (hu : s.extract (k + 1) s.size = u)
    (hcut : ∀ W, (∃ m : Int, W.cell? ⟨19, 0, none⟩ = some (.int .i64 m)) → Calls Tryz.prog 34 #[.string t, .string ⟨#[46, 46]⟩] W fun e w' => e = .returned (.tuple #[.string a, .string b0, .bool false]) ∧ Below W.heap.size W w')
    (x y v : Int) (CA : NoC a x) (CV : NoV u v) 
    (w : World) (hI : RInv w) (hE : ErrsLaid w) : RdNo s w := by
  have HS := Lib.hid (StE.first w hI hE)
  have CX := Lib.hid (fun W => Tryz.strings_IndexByte s 32 W)
  have e32 : (32 : Int).toNat.toUInt8 = 32 := by decide
  rw [e32, hidx] at CX
  have CUT := Lib.hid hcut
  have CB := Lib.hid CA
  have CA := Lib.hid CA
  have CV := Lib.hid CV
  have hk1 : (k : Int) + 1 ≤ s.size := by omega
  have g1 : ¬ (k : Int) < 0 := by omega
  clear hcut hidx e32 hI hE
  go_enter Tryz.func35, Tryz.ntmps35
  go_wp2_with (first
    | (go_at_call 55; refine (CX.out _).mono ?_; rintro e w1 ⟨rfl, rfl⟩)
    | ((try rw [ht]); go_at_call 34; refine (CUT.out _ HS.out.st.mx).mono ?_; rintro e w1 ⟨rfl, hb⟩; have n0_ := Lib.hid (HS.out.step hb); clear HS hb; have HS := n0_; clear n0_)
    | (go_at_call 56; refine (CA.out _ HS.out.er).mono ?_; rintro e w1 ⟨N, rfl, hb⟩; have n0_ := Lib.hid (HS.out.step hb); clear HS hb; have HS := n0_; clear n0_; clear CA)
    | (go_at_call 56; refine (CB.out _ HS.out.er).mono ?_; rintro e w1 ⟨N, rfl, hb⟩; have n0_ := Lib.hid (HS.out.step hb); clear HS hb; have HS := n0_; clear n0_; clear CB)
    | (go_at_call 57; refine (CV.out _ HS.out.er).mono ?_; rintro e w1 ⟨N, rfl, hb⟩; have n0_ := Lib.hid (HS.out.step hb); clear HS hb; have HS := n0_; clear n0_; have HA := Lib.hid (fun o => HS.out.alloc o); have z0 := fun o => (blk_cell (HA.out o).st.blk 0).trans rfl; have z1 := fun o => (blk_cell (HA.out o).st.blk 1).trans rfl; have z2 := fun o => (blk_cell (HA.out o).st.blk 2).trans rfl; have zf := fun o => blk_fz (HA.out o).st.blk 0; have zf1 := fun o => blk_fz (HA.out o).st.blk 1; have zf2 := fun o => blk_fz (HA.out o).st.blk 2; clear CV))
  all_goals exact read_ret (HA.out _) _ _ _ _ rfl rfl

set_option maxRecDepth 100000 in
set_option maxHeartbeats 8000000 in
theorem read_fv (s t a b0 b u : ByteArray) (k : Nat) (hs : s.size ≤ 1000) (hk : k + 1 ≤ s.size) (hidx : Lib.indexByte s.data.toList 32 = (k : Int)) (ht : s.extract 0 k = t) (hu : s.extract (k + 1) s.size = u)
    (hcut : ∀ W, (∃ m : Int, W.cell? ⟨19, 0, none⟩ = some (.int .i64 m)) → Calls Tryz.prog 34 #[.string t, .string ⟨#[46, 46]⟩] W fun e w' => e = .returned (.tuple #[.string a, .string b0, .bool false]) ∧ Below W.heap.size W w')
    (x y v : Int) (CA : OkC a x) (CV : NoV u v) (hx1 : -2147483648 ≤ x) (hx2 : x ≤ 2147483647)
    (w : World) (hI : RInv w) (hE : ErrsLaid w) : RdNo s w := by
  have HS := Lib.hid (StE.first w hI hE)
  have CX := Lib.hid (fun W => Tryz.strings_IndexByte s 32 W)
  have e32 : (32 : Int).toNat.toUInt8 = 32 := by decide
  rw [e32, hidx] at CX
  have CUT := Lib.hid hcut
  have CB := Lib.hid CA
  have CA := Lib.hid CA
  have CV := Lib.hid CV
  have hk1 : (k : Int) + 1 ≤ s.size := by omega
  have g1 : ¬ (k : Int) < 0 := by omega
  clear hcut hidx e32 hI hE
  go_enter Tryz.func35, Tryz.ntmps35
  go_wp2_with (first
    | (go_at_call 55; refine (CX.out _).mono ?_; rintro e w1 ⟨rfl, rfl⟩)
    | ((try rw [ht]); go_at_call 34; refine (CUT.out _ HS.out.st.mx).mono ?_; rintro e w1 ⟨rfl, hb⟩; have n0_ := Lib.hid (HS.out.step hb); clear HS hb; have HS := n0_; clear n0_)
    | (go_at_call 56; refine (CA.out _ HS.out.er).mono ?_; rintro e w1 ⟨rfl, hb⟩; have n0_ := Lib.hid (HS.out.step hb); clear HS hb; have HS := n0_; clear n0_; clear CA)
    | (go_at_call 56; refine (CB.out _ HS.out.er).mono ?_; rintro e w1 ⟨rfl, hb⟩; have n0_ := Lib.hid (HS.out.step hb); clear HS hb; have HS := n0_; clear n0_; clear CB)
    | (go_at_call 57; refine (CV.out _ HS.out.er).mono ?_; rintro e w1 ⟨N, rfl, hb⟩; have n0_ := Lib.hid (HS.out.step hb); clear HS hb; have HS := n0_; clear n0_; have HA := Lib.hid (fun o => HS.out.alloc o); have z0 := fun o => (blk_cell (HA.out o).st.blk 0).trans rfl; have z1 := fun o => (blk_cell (HA.out o).st.blk 1).trans rfl; have z2 := fun o => (blk_cell (HA.out o).st.blk 2).trans rfl; have zf := fun o => blk_fz (HA.out o).st.blk 0; have zf1 := fun o => blk_fz (HA.out o).st.blk 1; have zf2 := fun o => blk_fz (HA.out o).st.blk 2; clear CV))
  all_goals exact read_ret (HA.out _) _ _ _ _ rfl rfl

set_option maxRecDepth 100000 in
set_option maxHeartbeats 8000000 in
theorem read_fx (s t a b0 b u : ByteArray) (k : Nat) (hs : s.size ≤ 1000) (hk : k + 1 ≤ s.size) (hidx : Lib.indexByte s.data.toList 32 = (k : Int)) (ht : s.extract 0 k = t) (hu : s.extract (k + 1) s.size = u)
    (hcut : ∀ W, (∃ m : Int, W.cell? ⟨19, 0, none⟩ = some (.int .i64 m)) → Calls Tryz.prog 34 #[.string t, .string ⟨#[46, 46]⟩] W fun e w' => e = .returned (.tuple #[.string a, .string b0, .bool false]) ∧ Below W.heap.size W w')
    (x y v : Int) (CA : OkC a x) (CV : OkV u v) (hx1 : -2147483648 ≤ x) (hx2 : x ≤ 2147483647) (hxn : x < 0)
    (w : World) (hI : RInv w) (hE : ErrsLaid w) : RdNo s w := by
  have HS := Lib.hid (StE.first w hI hE)
  have CX := Lib.hid (fun W => Tryz.strings_IndexByte s 32 W)
  have e32 : (32 : Int).toNat.toUInt8 = 32 := by decide
  rw [e32, hidx] at CX
  have CUT := Lib.hid hcut
  have CB := Lib.hid CA
  have CA := Lib.hid CA
  have CV := Lib.hid CV
  have hk1 : (k : Int) + 1 ≤ s.size := by omega
  have g1 : ¬ (k : Int) < 0 := by omega
  clear hcut hidx e32 hI hE
  go_enter Tryz.func35, Tryz.ntmps35
  go_wp2_with (first
    | (go_at_call 55; refine (CX.out _).mono ?_; rintro e w1 ⟨rfl, rfl⟩)
    | ((try rw [ht]); go_at_call 34; refine (CUT.out _ HS.out.st.mx).mono ?_; rintro e w1 ⟨rfl, hb⟩; have n0_ := Lib.hid (HS.out.step hb); clear HS hb; have HS := n0_; clear n0_)
    | (go_at_call 56; refine (CA.out _ HS.out.er).mono ?_; rintro e w1 ⟨rfl, hb⟩; have n0_ := Lib.hid (HS.out.step hb); clear HS hb; have HS := n0_; clear n0_; clear CA)
    | (go_at_call 56; refine (CB.out _ HS.out.er).mono ?_; rintro e w1 ⟨rfl, hb⟩; have n0_ := Lib.hid (HS.out.step hb); clear HS hb; have HS := n0_; clear n0_; clear CB)
    | (go_at_call 57; refine (CV.out _ HS.out.er).mono ?_; rintro e w1 ⟨rfl, hb⟩; have n0_ := Lib.hid (HS.out.step hb); clear HS hb; have HS := n0_; clear n0_; have HA := Lib.hid (fun o => HS.out.alloc o); have z0 := fun o => (blk_cell (HA.out o).st.blk 0).trans rfl; have z1 := fun o => (blk_cell (HA.out o).st.blk 1).trans rfl; have z2 := fun o => (blk_cell (HA.out o).st.blk 2).trans rfl; have zf := fun o => blk_fz (HA.out o).st.blk 0; have zf1 := fun o => blk_fz (HA.out o).st.blk 1; have zf2 := fun o => blk_fz (HA.out o).st.blk 2; clear CV))
  all_goals exact read_ret (HA.out _) _ _ _ _ rfl rfl

set_option maxRecDepth 100000 in
set_option maxHeartbeats 8000000 in
theorem read_fm (s t a b0 b u : ByteArray) (k : Nat) (hs : s.size ≤ 1000) (hk : k + 1 ≤ s.size) (hidx : Lib.indexByte s.data.toList 32 = (k : Int)) (ht : s.extract 0 k = t) (hu : s.extract (k + 1) s.size = u)
    (hcut : ∀ W, (∃ m : Int, W.cell? ⟨19, 0, none⟩ = some (.int .i64 m)) → Calls Tryz.prog 34 #[.string t, .string ⟨#[46, 46]⟩] W fun e w' => e = .returned (.tuple #[.string a, .string b0, .bool false]) ∧ Below W.heap.size W w')
    (x y v : Int) (CA : OkC a x) (CV : OkV u v) (hx1 : -2147483648 ≤ x) (hx2 : x ≤ 2147483647) (hxn : ¬ x < 0) (gm : (a.size : Int) > 6)
    (w : World) (hI : RInv w) (hE : ErrsLaid w) : RdNo s w := by
  have HS := Lib.hid (StE.first w hI hE)
  have CX := Lib.hid (fun W => Tryz.strings_IndexByte s 32 W)
  have e32 : (32 : Int).toNat.toUInt8 = 32 := by decide
  rw [e32, hidx] at CX
  have CUT := Lib.hid hcut
  have CB := Lib.hid CA
  have CA := Lib.hid CA
  have CV := Lib.hid CV
  have hk1 : (k : Int) + 1 ≤ s.size := by omega
  have g1 : ¬ (k : Int) < 0 := by omega
  clear hcut hidx e32 hI hE
  go_enter Tryz.func35, Tryz.ntmps35
  go_wp2_with (first
    | (go_at_call 55; refine (CX.out _).mono ?_; rintro e w1 ⟨rfl, rfl⟩)
    | ((try rw [ht]); go_at_call 34; refine (CUT.out _ HS.out.st.mx).mono ?_; rintro e w1 ⟨rfl, hb⟩; have n0_ := Lib.hid (HS.out.step hb); clear HS hb; have HS := n0_; clear n0_)
    | (go_at_call 56; refine (CA.out _ HS.out.er).mono ?_; rintro e w1 ⟨rfl, hb⟩; have n0_ := Lib.hid (HS.out.step hb); clear HS hb; have HS := n0_; clear n0_; clear CA)
    | (go_at_call 56; refine (CB.out _ HS.out.er).mono ?_; rintro e w1 ⟨rfl, hb⟩; have n0_ := Lib.hid (HS.out.step hb); clear HS hb; have HS := n0_; clear n0_; clear CB)
    | (go_at_call 57; refine (CV.out _ HS.out.er).mono ?_; rintro e w1 ⟨rfl, hb⟩; have n0_ := Lib.hid (HS.out.step hb); clear HS hb; have HS := n0_; clear n0_; have HA := Lib.hid (fun o => HS.out.alloc o); have z0 := fun o => (blk_cell (HA.out o).st.blk 0).trans rfl; have z1 := fun o => (blk_cell (HA.out o).st.blk 1).trans rfl; have z2 := fun o => (blk_cell (HA.out o).st.blk 2).trans rfl; have zf := fun o => blk_fz (HA.out o).st.blk 0; have zf1 := fun o => blk_fz (HA.out o).st.blk 1; have zf2 := fun o => blk_fz (HA.out o).st.blk 2; clear CV))
  all_goals exact read_ret (HA.out _) _ _ _ _ rfl rfl

set_option maxRecDepth 100000 in
set_option maxHeartbeats 8000000 in
theorem read_fl (s t a b0 b u : ByteArray) (k : Nat) (hs : s.size ≤ 1000) (hk : k + 1 ≤ s.size) (hidx : Lib.indexByte s.data.toList 32 = (k : Int)) (ht : s.extract 0 k = t) (hu : s.extract (k + 1) s.size = u)
    (hcut : ∀ W, (∃ m : Int, W.cell? ⟨19, 0, none⟩ = some (.int .i64 m)) → Calls Tryz.prog 34 #[.string t, .string ⟨#[46, 46]⟩] W fun e w' => e = .returned (.tuple #[.string a, .string b0, .bool false]) ∧ Below W.heap.size W w')
    (x y v : Int) (CA : OkC a x) (CV : OkV u v) (hx1 : -2147483648 ≤ x) (hx2 : x ≤ 2147483647) (hxn : ¬ x < 0) (gm : ¬ (a.size : Int) > 6) (gl : (s.size : Int) - k > 8)
    (w : World) (hI : RInv w) (hE : ErrsLaid w) : RdNo s w := by
  have HS := Lib.hid (StE.first w hI hE)
  have CX := Lib.hid (fun W => Tryz.strings_IndexByte s 32 W)
  have e32 : (32 : Int).toNat.toUInt8 = 32 := by decide
  rw [e32, hidx] at CX
  have CUT := Lib.hid hcut
  have CB := Lib.hid CA
  have CA := Lib.hid CA
  have CV := Lib.hid CV
  have hk1 : (k : Int) + 1 ≤ s.size := by omega
  have g1 : ¬ (k : Int) < 0 := by omega
  clear hcut hidx e32 hI hE
  go_enter Tryz.func35, Tryz.ntmps35
  go_wp2_with (first
    | (go_at_call 55; refine (CX.out _).mono ?_; rintro e w1 ⟨rfl, rfl⟩)
    | ((try rw [ht]); go_at_call 34; refine (CUT.out _ HS.out.st.mx).mono ?_; rintro e w1 ⟨rfl, hb⟩; have n0_ := Lib.hid (HS.out.step hb); clear HS hb; have HS := n0_; clear n0_)
    | (go_at_call 56; refine (CA.out _ HS.out.er).mono ?_; rintro e w1 ⟨rfl, hb⟩; have n0_ := Lib.hid (HS.out.step hb); clear HS hb; have HS := n0_; clear n0_; clear CA)
    | (go_at_call 56; refine (CB.out _ HS.out.er).mono ?_; rintro e w1 ⟨rfl, hb⟩; have n0_ := Lib.hid (HS.out.step hb); clear HS hb; have HS := n0_; clear n0_; clear CB)
    | (go_at_call 57; refine (CV.out _ HS.out.er).mono ?_; rintro e w1 ⟨rfl, hb⟩; have n0_ := Lib.hid (HS.out.step hb); clear HS hb; have HS := n0_; clear n0_; have HA := Lib.hid (fun o => HS.out.alloc o); have z0 := fun o => (blk_cell (HA.out o).st.blk 0).trans rfl; have z1 := fun o => (blk_cell (HA.out o).st.blk 1).trans rfl; have z2 := fun o => (blk_cell (HA.out o).st.blk 2).trans rfl; have zf := fun o => blk_fz (HA.out o).st.blk 0; have zf1 := fun o => blk_fz (HA.out o).st.blk 1; have zf2 := fun o => blk_fz (HA.out o).st.blk 2; clear CV))
  all_goals exact read_ret (HA.out _) _ _ _ _ rfl rfl

set_option maxRecDepth 100000 in
set_option maxHeartbeats 8000000 in
theorem read_fn (s t a b0 b u : ByteArray) (k : Nat) (hs : s.size ≤ 1000) (hk : k + 1 ≤ s.size) (hidx : Lib.indexByte s.data.toList 32 = (k : Int)) (ht : s.extract 0 k = t) (hu : s.extract (k + 1) s.size = u)
    (hcut : ∀ W, (∃ m : Int, W.cell? ⟨19, 0, none⟩ = some (.int .i64 m)) → Calls Tryz.prog 34 #[.string t, .string ⟨#[46, 46]⟩] W fun e w' => e = .returned (.tuple #[.string a, .string b0, .bool false]) ∧ Below W.heap.size W w')
    (x y v : Int) (CA : OkC a x) (CV : OkV u v) (hx1 : -2147483648 ≤ x) (hx2 : x ≤ 2147483647) (hxn : ¬ x < 0) (gm : ¬ (a.size : Int) > 6) (gl : ¬ (s.size : Int) - k > 8) (L : ByteArray) (CL : ∀ W, Tz W → Pow10 W → Calls Tryz.prog 30 #[.agg #[.int .i32 x, .int .i32 x, .int .i64 v]] W fun e w' => e = .returned (.string L) ∧ Below W.heap.size W w') (hL : L ≠ s)
    (w : World) (hI : RInv w) (hE : ErrsLaid w) : RdNo s w := by
  have HS := Lib.hid (StE.first w hI hE)
  have CX := Lib.hid (fun W => Tryz.strings_IndexByte s 32 W)
  have e32 : (32 : Int).toNat.toUInt8 = 32 := by decide
  rw [e32, hidx] at CX
  have CUT := Lib.hid hcut
  have CB := Lib.hid CA
  have CA := Lib.hid CA
  have CV := Lib.hid CV
  have CL := Lib.hid CL
  have hk1 : (k : Int) + 1 ≤ s.size := by omega
  have g1 : ¬ (k : Int) < 0 := by omega
  have hL1 : (L.toList == s.toList) = false := by rw [beq_eq_false_iff_ne]; intro e; exact hL (ByteArray.ext (Array.toList_inj.1 (by rwa [Lib.toList_data, Lib.toList_data] at e)))
  have hL2 : (L.toList != s.toList) = true := by rw [bne, hL1]; rfl
  clear hL
  clear hcut hidx e32 hI hE
  go_enter Tryz.func35, Tryz.ntmps35
  go_wp2_with (first
    | (go_at_call 55; refine (CX.out _).mono ?_; rintro e w1 ⟨rfl, rfl⟩)
    | ((try rw [ht]); go_at_call 34; refine (CUT.out _ HS.out.st.mx).mono ?_; rintro e w1 ⟨rfl, hb⟩; have n0_ := Lib.hid (HS.out.step hb); clear HS hb; have HS := n0_; clear n0_)
    | (go_at_call 56; refine (CA.out _ HS.out.er).mono ?_; rintro e w1 ⟨rfl, hb⟩; have n0_ := Lib.hid (HS.out.step hb); clear HS hb; have HS := n0_; clear n0_; clear CA)
    | (go_at_call 56; refine (CB.out _ HS.out.er).mono ?_; rintro e w1 ⟨rfl, hb⟩; have n0_ := Lib.hid (HS.out.step hb); clear HS hb; have HS := n0_; clear n0_; clear CB)
    | (go_at_call 57; refine (CV.out _ HS.out.er).mono ?_; rintro e w1 ⟨rfl, hb⟩; have n0_ := Lib.hid (HS.out.step hb); clear HS hb; have HS := n0_; clear n0_; have HA := Lib.hid (fun o => HS.out.alloc o); have z0 := fun o => (blk_cell (HA.out o).st.blk 0).trans rfl; have z1 := fun o => (blk_cell (HA.out o).st.blk 1).trans rfl; have z2 := fun o => (blk_cell (HA.out o).st.blk 2).trans rfl; have zf := fun o => blk_fz (HA.out o).st.blk 0; have zf1 := fun o => blk_fz (HA.out o).st.blk 1; have zf2 := fun o => blk_fz (HA.out o).st.blk 2; clear CV)
    | (go_at_call 30; have S1 := HS.out.step ((Below.refl w1.heap.size w1).alloc (Nat.le_refl _) (.cells #[.int .i32 x, .int .i32 x, .int .i64 v] 28)); refine (CL.out _ S1.st.tz S1.st.p10).mono ?_; rintro e w9 ⟨rfl, hb⟩; have hn := below_blk hb (blk_new w1 (.cells #[.int .i32 x, .int .i32 x, .int .i64 v] 28)); have q0 := (blk_cell hn 0).trans rfl; have q1 := (blk_cell hn 1).trans rfl; have q2 := (blk_cell hn 2).trans rfl; have n0_ := Lib.hid (S1.step hb); clear HS hb hn S1; have HS := n0_; clear n0_; have hz := HS.out.st.blk; have z0 := (blk_cell hz 0).trans rfl; have z1 := (blk_cell hz 1).trans rfl; have z2 := (blk_cell hz 2).trans rfl; have zf := blk_fz hz 0; have zf1 := blk_fz hz 1; have zf2 := blk_fz hz 2; clear hz))
  all_goals exact read_ret HS.out _ _ _ _ rfl rfl

set_option maxRecDepth 100000 in
set_option maxHeartbeats 8000000 in
theorem read_fg (s t a b0 b u : ByteArray) (k : Nat) (hs : s.size ≤ 1000) (hk : k + 1 ≤ s.size) (hidx : Lib.indexByte s.data.toList 32 = (k : Int)) (ht : s.extract 0 k = t) (hu : s.extract (k + 1) s.size = u)
    (hcut : ∀ W, (∃ m : Int, W.cell? ⟨19, 0, none⟩ = some (.int .i64 m)) → Calls Tryz.prog 34 #[.string t, .string ⟨#[46, 46]⟩] W fun e w' => e = .returned (.tuple #[.string a, .string b0, .bool false]) ∧ Below W.heap.size W w')
    (x y v : Int) (CA : OkC a x) (CV : OkV u v) (hx1 : -2147483648 ≤ x) (hx2 : x ≤ 2147483647) (hxn : ¬ x < 0) (gm : ¬ (a.size : Int) > 6) (gl : ¬ (s.size : Int) - k > 8) (CL : ∀ W, Tz W → Pow10 W → Calls Tryz.prog 30 #[.agg #[.int .i32 x, .int .i32 x, .int .i64 v]] W fun e w' => e = .returned (.string s) ∧ Below W.heap.size W w')
    (w : World) (hI : RInv w) (hE : ErrsLaid w) : Calls Tryz.prog 35 #[.string s] w fun e w' => e = .returned (.tuple #[.agg #[.int .i32 x, .int .i32 x, .int .i64 v], .bool true]) ∧ Below w.heap.size w w' := by
  have HS := Lib.hid (StE.first w hI hE)
  have CX := Lib.hid (fun W => Tryz.strings_IndexByte s 32 W)
  have e32 : (32 : Int).toNat.toUInt8 = 32 := by decide
  rw [e32, hidx] at CX
  have CUT := Lib.hid hcut
  have CB := Lib.hid CA
  have CA := Lib.hid CA
  have CV := Lib.hid CV
  have CL := Lib.hid CL
  have hk1 : (k : Int) + 1 ≤ s.size := by omega
  have g1 : ¬ (k : Int) < 0 := by omega
  clear hcut hidx e32 hI hE
  go_enter Tryz.func35, Tryz.ntmps35
  go_wp2_with (first
    | (go_at_call 55; refine (CX.out _).mono ?_; rintro e w1 ⟨rfl, rfl⟩)
    | ((try rw [ht]); go_at_call 34; refine (CUT.out _ HS.out.st.mx).mono ?_; rintro e w1 ⟨rfl, hb⟩; have n0_ := Lib.hid (HS.out.step hb); clear HS hb; have HS := n0_; clear n0_)
    | (go_at_call 56; refine (CA.out _ HS.out.er).mono ?_; rintro e w1 ⟨rfl, hb⟩; have n0_ := Lib.hid (HS.out.step hb); clear HS hb; have HS := n0_; clear n0_; clear CA)
    | (go_at_call 56; refine (CB.out _ HS.out.er).mono ?_; rintro e w1 ⟨rfl, hb⟩; have n0_ := Lib.hid (HS.out.step hb); clear HS hb; have HS := n0_; clear n0_; clear CB)
    | (go_at_call 57; refine (CV.out _ HS.out.er).mono ?_; rintro e w1 ⟨rfl, hb⟩; have n0_ := Lib.hid (HS.out.step hb); clear HS hb; have HS := n0_; clear n0_; have HA := Lib.hid (fun o => HS.out.alloc o); have z0 := fun o => (blk_cell (HA.out o).st.blk 0).trans rfl; have z1 := fun o => (blk_cell (HA.out o).st.blk 1).trans rfl; have z2 := fun o => (blk_cell (HA.out o).st.blk 2).trans rfl; have zf := fun o => blk_fz (HA.out o).st.blk 0; have zf1 := fun o => blk_fz (HA.out o).st.blk 1; have zf2 := fun o => blk_fz (HA.out o).st.blk 2; clear CV)
    | (go_at_call 30; have S1 := HS.out.step ((Below.refl w1.heap.size w1).alloc (Nat.le_refl _) (.cells #[.int .i32 x, .int .i32 x, .int .i64 v] 28)); refine (CL.out _ S1.st.tz S1.st.p10).mono ?_; rintro e w9 ⟨rfl, hb⟩; have hn := below_blk hb (blk_new w1 (.cells #[.int .i32 x, .int .i32 x, .int .i64 v] 28)); have q0 := (blk_cell hn 0).trans rfl; have q1 := (blk_cell hn 1).trans rfl; have q2 := (blk_cell hn 2).trans rfl; have n0_ := Lib.hid (S1.step hb); clear HS hb hn S1; have HS := n0_; clear n0_; have hz := HS.out.st.blk; have z0 := (blk_cell hz 0).trans rfl; have z1 := (blk_cell hz 1).trans rfl; have z2 := (blk_cell hz 2).trans rfl; have zf := blk_fz hz 0; have zf1 := blk_fz hz 1; have zf2 := blk_fz hz 2; clear hz))
  all_goals exact read_ret HS.out _ _ _ _ rfl rfl

end Go.Proofs.YthggpjiabklekaaGreatDoor

