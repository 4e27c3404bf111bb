/- http.sorts: what each byte may be. -/
import Derived.Test.YtpjjkejppgehaaaGreatDoorZb
import Derived.Deep.WholeRow
import Derived.Laws.Cells
namespace Go.Proofs.YtpjjkejppgehaaaGreatDoor
set_option linter.unusedSimpArgs false
set_option linter.unusedVariables false
open Go.RowKit

theorem info74 : (Tryz.prog.info? 74).map (fun i => (i.zero, i.size)) = some (some (.agg (Array.replicate 256 (.int .u8 0))), 256) := by kernel_rfl
theorem zero46 : Tryz.zeroCells74 = Array.replicate 256 (.int .u8 0) := by kernel_rfl
/-- The marks. -/
def marks : ByteArray := ⟨#[33, 35, 36, 37, 38, 39, 42, 43, 45, 46, 94, 95, 124, 126, 96]⟩
def isMark (i : Nat) : Bool := [33, 35, 36, 37, 38, 39, 42, 43, 45, 46, 94, 95, 124, 126, 96].contains i
theorem marks_fin : ∀ i : Fin 256, (decide (0 ≤ Lib.indexByte marks.data.toList (UInt8.ofNat i.val))) = isMark i.val := by decide +kernel
theorem idx_mark (i : Nat) (hit : i < 256) (m : Bool) (hm : isMark i = m) (a : Int) (ha : a = i) : ∃ ix : Int, decide (0 ≤ ix) = m ∧ Hid (∀ x, Calls Tryz.prog 61 #[.string ⟨#[33, 35, 36, 37, 38, 39, 42, 43, 45, 46, 94, 95, 124, 126, 96]⟩, .int .u8 a] x fun e w' => e = .returned (.int .i64 ix) ∧ w' = x) := by
  subst ha
  refine ⟨Lib.indexByte marks.data.toList (UInt8.ofNat i), by rw [← hm]; exact marks_fin ⟨i, hit⟩, fun x => ?_⟩
  refine Calls.mono (Tryz.strings_IndexByte marks (i : Int) x) ?_
  rintro e w' ⟨h1, h2⟩
  exact ⟨h1, h2⟩
/-- The sorts in block g are told up to i. -/
def Ks (w : World) (g : Nat) (i : Nat) : Prop := ∃ cs : Array Value, w.heap[g]? = some (.cells cs 74 (0, 0)) ∧ cs.size = 256 ∧ ∀ j, j < 256 → cs[j]? = some (.int .u8 ((if j < i then kindN j else 0 : Nat) : Int))
/-- .. and byte i is on the way. -/
def Kx (w : World) (g i : Nat) (v : Int) : Prop := ∃ cs : Array Value, w.heap[g]? = some (.cells cs 74 (0, 0)) ∧ cs.size = 256 ∧ i < 256 ∧ cs[i]? = some (.int .u8 v) ∧ ∀ j, j < 256 → j ≠ i → cs[j]? = some (.int .u8 ((if j < i then kindN j else 0 : Nat) : Int))
theorem Ks.kx {w : World} {g i : Nat} (h : Ks w g i) (hi : i < 256) : Kx w g i 0 := by
  obtain ⟨cs, h1, h2, h3⟩ := h
  refine ⟨cs, h1, h2, hi, ?_, fun j hj _ => h3 j hj⟩
  rw [h3 i hi, if_neg (by omega)]
  rfl
theorem Kx.cell {w : World} {g i : Nat} {v : Int} (h : Kx w g i v) : w.cell? ⟨g, i, none⟩ = some (.int .u8 v) := by
  obtain ⟨cs, h1, h2, h3, h4, h5⟩ := h; rw [blk_cell h1]; exact h4
theorem Kx.fz {w : World} {g i : Nat} {v : Int} (h : Kx w g i v) : w.frozen? ⟨g, i, none⟩ = false := by
  obtain ⟨cs, h1, _⟩ := h; exact blk_fz h1 i
theorem Kx.set {w : World} {g i : Nat} {v : Int} (h : Kx w g i v) (u : Int) : Kx (w.setCell ⟨g, i, none⟩ (.int .u8 u)) g i u := by
  obtain ⟨cs, h1, h2, h3, h4, h5⟩ := h
  refine ⟨cs.setIfInBounds i (.int .u8 u), blk_set h1 i _, by simp [h2], h3, ?_, fun j hj hne => ?_⟩
  · rw [Array.getElem?_setIfInBounds_self_of_lt (by omega)]
  · rw [Array.getElem?_setIfInBounds_ne (by omega)]; exact h5 j hj hne
theorem Kx.done {w : World} {g i : Nat} {v : Int} (h : Kx w g i v) (hv : v = (kindN i : Int)) : Ks w g (i + 1) := by
  subst hv
  obtain ⟨cs, h1, h2, h3, h4, h5⟩ := h
  refine ⟨cs, h1, h2, fun j hj => ?_⟩
  by_cases e : j = i
  · subst e; rw [if_pos (by omega)]; exact h4
  · rw [h5 j hj e]
    by_cases l : j < i
    · rw [if_pos l, if_pos (by omega)]
    · rw [if_neg l, if_neg (by omega)]
theorem or_09 : bits BinOp.or IntKind.u8 0 9 = 9 := by decide
theorem or_92 : bits BinOp.or IntKind.u8 9 2 = 11 := by decide
theorem or_b4 : bits BinOp.or IntKind.u8 11 4 = 15 := by decide
theorem or_01 : bits BinOp.or IntKind.u8 0 1 = 1 := by decide
theorem or_12 : bits BinOp.or IntKind.u8 1 2 = 3 := by decide
theorem or_34 : bits BinOp.or IntKind.u8 3 4 = 7 := by decide
theorem or_02 : bits BinOp.or IntKind.u8 0 2 = 2 := by decide
theorem or_24 : bits BinOp.or IntKind.u8 2 4 = 6 := by decide
theorem or_04 : bits BinOp.or IntKind.u8 0 4 = 4 := by decide
/-- The state of the loop. -/
structure So (w wr : World) (i : Nat) : Prop where
  k : Ks wr (w.heap.size + 1) i
  z : wr.heap[w.heap.size]? = some (.cells (Array.replicate 256 (.int .u8 0)) 74 (0, 0))
  b : Below w.heap.size w wr
theorem So.new (w : World) : So w ((w.alloc (.cells (Array.replicate 256 (.int .u8 0)) 74)).alloc (.cells (Array.replicate 256 (.int .u8 0)) 74)) 0 := by
  have s1 : (w.alloc (.cells (Array.replicate 256 (.int .u8 0)) 74)).heap.size = w.heap.size + 1 := by simp
  have n1 : (w.alloc (.cells (Array.replicate 256 (.int .u8 0)) 74)).heap[w.heap.size]? = some (.cells (Array.replicate 256 (.int .u8 0)) 74 (0, 0)) := by show (w.heap.push _)[w.heap.size]? = _; simp
  have b1 := (Below.refl w.heap.size w).alloc (Nat.le_refl _) (.cells (Array.replicate 256 (.int .u8 0)) 74)
  generalize w.alloc (.cells (Array.replicate 256 (.int .u8 0)) 74) = w1 at *
  refine ⟨⟨Array.replicate 256 (.int .u8 0), ?_, ?_, fun j hj => ?_⟩, (Below.heap_alloc w1 _ _ (by omega)).trans n1, b1.alloc (by omega) _⟩
  · rw [← s1]; show (w1.heap.push _)[w1.heap.size]? = _; simp
  · simp
  · rw [if_neg (by omega), Array.getElem?_replicate, if_pos hj]; rfl
theorem So.next {w wr : World} {i : Nat} (h : So w wr i) (hi : i < 256) : Kx wr (w.heap.size + 1) i 0 := h.k.kx hi
/-- What the round leaves. -/
structure Sy (w x : World) (i : Nat) (v : Int) : Prop where
  k : Kx x (w.heap.size + 1) i v
  z : x.heap[w.heap.size]? = some (.cells (Array.replicate 256 (.int .u8 0)) 74 (0, 0))
  b : Below w.heap.size w x
theorem So.sy {w wr : World} {i : Nat} (h : So w wr i) (hi : i < 256) : Sy w wr i 0 := ⟨h.k.kx hi, h.z, h.b⟩
theorem Sy.set {w x : World} {i : Nat} {v : Int} (h : Sy w x i v) (u : Int) : Sy w (x.setCell ⟨w.heap.size + 1, i, none⟩ (.int .u8 u)) i u :=
  ⟨h.k.set u, (Below.heap_setCell _ _ _ _ (by show w.heap.size ≠ w.heap.size + 1; omega)).trans h.z, h.b.setCell (by show w.heap.size ≤ w.heap.size + 1; omega) _⟩
/-- The sorts, all. -/
def KD : Array Value := Array.ofFn (n := 256) fun i => .int .u8 (kindN i.val)
theorem KD_size : KD.size = 256 := by simp [KD]
theorem KD_at (j : Nat) (hj : j < 256) : KD[j]? = some (.int .u8 (kindN j)) := by simp [KD, hj]
theorem KD_one : ∀ v ∈ KD.toList, v.oneCell' = true := by
  intro v hv
  simp only [KD, Array.toList_ofFn, List.mem_ofFn] at hv
  obtain ⟨i, rfl⟩ := hv
  rfl
theorem load_row (x : World) (g : Nat) (cs : Array Value) (t : TypeId) (fr : Nat × Nat) (h : x.heap[g]? = some (.cells cs t fr)) (hn : cs.size = 256) : (loadCellsFrom ⟨g, 0, none⟩ 0 256 #[]).run Tryz.prog x = .ok cs x := by
  have := run_loadCells_list (P := Tryz.prog) x ⟨g, 0, none⟩ cs.toList (fun j v hv => by
    have hadd : (⟨g, 0, none⟩ : Addr).add j = ⟨g, j, none⟩ := by unfold Addr.add; split <;> simp_all
    rw [hadd]
    simp [World.cell?, h]
    simpa using hv)
  have e : cs.toList.length = 256 := by simpa using hn
  rw [e] at this
  simpa [loadCells] using this
theorem loadVar_row (x : World) (g : Nat) (cs : Array Value) (h : x.heap[g]? = some (.cells cs 74 (0, 0))) (hn : cs.size = 256) : (loadVar 74 ⟨g, 0, none⟩).run Tryz.prog x = .ok (.agg cs) x :=
  run_loadVar_row _ _ 74 74 cs (0, 0) _ h Tryz.underlying74 rfl (by rw [hn]; kernel_rfl)
theorem loadAt_row (x : World) (g : Nat) (cs : Array Value) (h : x.heap[g]? = some (.cells cs 74 (0, 0))) (hn : cs.size = 256) : (Instr.loadAt 74 (.pointer (some ⟨g, 0, none⟩))).run Tryz.prog x = .ok (.agg cs) x := by
  simp only [Instr.loadAt, Instr.sureAddr, Sem.run_bind, Sem.run_pure, Result.andThen]
  exact run_loadVar_row _ _ 74 74 cs (0, 0) _ h Tryz.underlying74 rfl (by rw [hn]; kernel_rfl)
theorem storeAt_row (x : World) (g : Nat) (cs cs' : Array Value) (h : x.heap[g]? = some (.cells cs 74 (0, 0))) (hn : cs.size = 256) (hn' : cs'.size = 256) (h1 : ∀ v ∈ cs'.toList, v.oneCell' = true) : (Instr.storeAt 74 (.pointer (some ⟨g, 0, none⟩)) (.agg cs')).run Tryz.prog x = .ok () (x.setRow g cs') := by
  simp only [Instr.storeAt, Instr.sureAddr, Sem.run_bind, Sem.run_pure, Result.andThen]
  exact run_storeVar_row _ _ 74 74 cs cs' h (by rw [hn']; kernel_rfl) (by rw [hn, hn']) (by rw [← Array.all_toList, List.all_eq_true]; exact h1)
theorem wp_load {P : Program} {o : Oper} {a : Act} {w : World} {K : Act → World → Prop} {Q : Exit → Act → World → Prop} {v : Value} {t : TypeId} {x : Operand} {y : Value} (ho : o.op = .load t x) (hy : a.eval x = y) (h : (Instr.loadAt t y).run P w = .ok v w) (hk : K (a.put o.dst v) w) : Oper.wp P o a w K Q := by
  subst hy
  unfold Oper.wp execOp
  simp only [ho, Sem.run_bind, h, Result.andThen, Sem.run_pure]
  exact hk
theorem wp_store {P : Program} {o : Oper} {a : Act} {w w' : World} {K : Act → World → Prop} {Q : Exit → Act → World → Prop} {t : TypeId} {x z : Operand} {y u : Value} (ho : o.op = .store t x z) (hy : a.eval x = y) (hu : a.eval z = u) (h : (Instr.storeAt t y u).run P w = .ok () w') (hk : K (a.put o.dst undef) w') : Oper.wp P o a w K Q := by
  subst hy hu
  unfold Oper.wp execOp
  simp only [ho, Sem.run_bind, h, Result.andThen, Sem.run_pure]
  exact hk
theorem So.end_ {w wr : World} (h : So w wr 256) : ∃ W : World, (loadCellsFrom ⟨w.heap.size + 1, 0, none⟩ 0 256 #[]).run Tryz.prog wr = .ok KD wr ∧ (storeCells ⟨w.heap.size, 0, none⟩ KD.toList 0).run Tryz.prog wr = .ok () W ∧ (loadCellsFrom ⟨w.heap.size, 0, none⟩ 0 256 #[]).run Tryz.prog W = .ok KD W ∧ Below w.heap.size w W ∧ (Instr.loadAt 74 (.pointer (some ⟨w.heap.size + 1, 0, none⟩))).run Tryz.prog wr = .ok (.agg KD) wr ∧ (Instr.storeAt 74 (.pointer (some ⟨w.heap.size, 0, none⟩)) (.agg KD)).run Tryz.prog wr = .ok () W ∧ (loadVar 74 ⟨w.heap.size, 0, none⟩).run Tryz.prog W = .ok (.agg KD) W := by
  obtain ⟨⟨cs, h1, h2, h3⟩, hz, hb⟩ := h
  have e : cs = KD := by
    apply Array.ext
    · rw [h2, KD_size]
    · intro j hj1 hj2
      have hj : j < 256 := by omega
      have a := h3 j hj
      have b := KD_at j hj
      rw [if_pos hj] at a
      rw [Array.getElem?_eq_getElem hj1] at a
      rw [Array.getElem?_eq_getElem hj2] at b
      exact Option.some.inj (a.trans b.symm)
  subst e
  have hs := run_storeCells_from (P := Tryz.prog) w.heap.size 74 KD.toList 0 (Array.replicate 256 (.int .u8 0)) wr hz (by simp [KD_size]) KD_one
  have e2 : ((Array.replicate 256 (Value.int .u8 0)).toList.take 0 ++ KD.toList).toArray = KD := by simp
  rw [e2] at hs
  have hh := setRow_heap wr w.heap.size (Array.replicate 256 (.int .u8 0)) KD 74 (0, 0) hz
  refine ⟨_, load_row wr _ KD 74 _ h1 KD_size, hs, load_row _ _ KD 74 _ hh KD_size, ?_, loadAt_row _ _ _ h1 KD_size, storeAt_row _ _ _ _ hz (by simp) KD_size KD_one, loadVar_row _ _ _ hh KD_size⟩
  refine hb.trans ⟨rfl, rfl, rfl, by simp [World.setRow], fun k hk => ?_⟩
  simp only [World.setRow, Array.getElem?_modify]
  rw [if_neg (by omega)]
theorem Sy.done {w x : World} {i : Nat} {v : Int} (h : Sy w x i v) (hv : v = (kindN i : Int)) : So w x (i + 1) := ⟨h.k.done hv, h.z, h.b⟩

set_option maxRecDepth 20000 in
set_option maxHeartbeats 16000000 in
theorem sorts_any (w : World) : Calls Tryz.prog 36 #[] w fun e w' => e = .returned (.agg (Array.ofFn (n := 256) fun i => .int .u8 (kindN i.val))) ∧ Below w.heap.size w w' := by
  have HN := Lib.hid (So.new w)
  go_enter Tryz.func36, Tryz.ntmps36
  go_wp2
  simp only [zero46]
  go_loopw [3] (fun n wr => ∃ i : Nat, i ≤ 256 ∧ n = .int .i64 i ∧ So w wr i) (fun n _ => 256 - (RowKit.intOf n).toNat)
  case atStart => exact ⟨0, by omega, rfl, HN.out⟩
  case round =>
    clear HN
    obtain ⟨i, hi, rfl, hS⟩ := hrel
    by_cases hit : i < 256
    · have hit' : (i : Int) < 256 := by omega
      have nY := Lib.hid (hS.sy hit)
      have c0 := nY.out.k.cell
      have z0 := nY.out.k.fz
      have c1 : ∀ u, World.cell? (World.setCell wr ⟨w.heap.size + 1, i, none⟩ (.int .u8 u)) ⟨w.heap.size + 1, i, none⟩ = some (.int .u8 u) := fun u => (nY.out.set u).k.cell
      have c2 : ∀ u u', World.cell? (World.setCell (World.setCell wr ⟨w.heap.size + 1, i, none⟩ (.int .u8 u)) ⟨w.heap.size + 1, i, none⟩ (.int .u8 u')) ⟨w.heap.size + 1, i, none⟩ = some (.int .u8 u') := fun u u' => ((nY.out.set u).set u').k.cell
      have e0 : IntKind.u8.wrap (i : Int) = (i : Int) := IntWalk.u8_in _ (by omega)
      have o1 := or_09; have o2 := or_92; have o3 := or_b4; have o4 := or_01; have o5 := or_12; have o6 := or_34; have o7 := or_02; have o8 := or_24; have o9 := or_04
      clear hS
      rcases (by omega : (0 ≤ i ∧ i ≤ 0) ∨ (1 ≤ i ∧ i ≤ 8) ∨ (9 ≤ i ∧ i ≤ 9) ∨ (10 ≤ i ∧ i ≤ 10) ∨ (11 ≤ i ∧ i ≤ 12) ∨ (13 ≤ i ∧ i ≤ 13) ∨ (14 ≤ i ∧ i ≤ 31) ∨ (32 ≤ i ∧ i ≤ 32) ∨ (33 ≤ i ∧ i ≤ 47) ∨ (48 ≤ i ∧ i ≤ 57) ∨ (58 ≤ i ∧ i ≤ 64) ∨ (65 ≤ i ∧ i ≤ 90) ∨ (91 ≤ i ∧ i ≤ 96) ∨ (97 ≤ i ∧ i ≤ 122) ∨ (123 ≤ i ∧ i ≤ 126) ∨ (127 ≤ i ∧ i ≤ 127) ∨ (128 ≤ i ∧ i ≤ 255)) with ⟨l1, l2⟩ | ⟨l1, l2⟩ | ⟨l1, l2⟩ | ⟨l1, l2⟩ | ⟨l1, l2⟩ | ⟨l1, l2⟩ | ⟨l1, l2⟩ | ⟨l1, l2⟩ | ⟨l1, l2⟩ | ⟨l1, l2⟩ | ⟨l1, l2⟩ | ⟨l1, l2⟩ | ⟨l1, l2⟩ | ⟨l1, l2⟩ | ⟨l1, l2⟩ | ⟨l1, l2⟩ | ⟨l1, l2⟩
      · obtain rfl : i = 0 := by omega
        have HK : Hid (kindN 0 = 0) := by show _ = _; decide
        have hm : isMark 0 = false := by decide
        obtain ⟨ix, hx, HC⟩ := idx_mark 0 (by omega) false hm 0 (by omega)
        rw [decide_eq_false_iff_not] at hx
        clear hm
        go_wp2_with (go_at_call 61; with_reducible refine Calls.mono (HC.out _) ?_; rintro e w2 ⟨rfl, rfl⟩)
        go_roundw
        case rel => exact ⟨0 + 1, by omega, by go_num, nY.out.done (by rw [HK.out]; rfl)⟩
        case measure => first | (simp [RowKit.intOf]; done) | (simp [RowKit.intOf]; omega)
      · have HK : Hid (kindN i = 4) := (show ∀ i : Fin 256, 1 ≤ i.val → i.val ≤ 8 → kindN i.val = 4 from by decide +kernel) ⟨i, hit⟩ l1 l2
        have q0 : ¬ (65 : Int) ≤ (i : Int) := by omega
        have q1 : (i : Int) ≤ 90 := by omega
        have q2 : ¬ (97 : Int) ≤ (i : Int) := by omega
        have q3 : (i : Int) ≤ 122 := by omega
        have q4 : ¬ (48 : Int) ≤ (i : Int) := by omega
        have q5 : (i : Int) ≤ 57 := by omega
        have q6 : ¬ (32 : Int) ≤ (i : Int) := by omega
        have r0 : ((i : Int) == 127) = false := by rw [beq_eq_false_iff_ne]; omega
        have t0 : ((i : Int) != 127) = true := by rw [bne_iff_ne]; omega
        have r1 : ((i : Int) == 9) = false := by rw [beq_eq_false_iff_ne]; omega
        have t1 : ((i : Int) != 9) = true := by rw [bne_iff_ne]; omega
        have r2 : ((i : Int) == 32) = false := by rw [beq_eq_false_iff_ne]; omega
        have t2 : ((i : Int) != 32) = true := by rw [bne_iff_ne]; omega
        have r3 : ((i : Int) == 13) = false := by rw [beq_eq_false_iff_ne]; omega
        have t3 : ((i : Int) != 13) = true := by rw [bne_iff_ne]; omega
        have r4 : ((i : Int) == 10) = false := by rw [beq_eq_false_iff_ne]; omega
        have t4 : ((i : Int) != 10) = true := by rw [bne_iff_ne]; omega
        have r5 : ((i : Int) == 0) = false := by rw [beq_eq_false_iff_ne]; omega
        have t5 : ((i : Int) != 0) = true := by rw [bne_iff_ne]; omega
        have hm : isMark i = false := (show ∀ i : Fin 256, 1 ≤ i.val → i.val ≤ 8 → isMark i.val = false from by decide +kernel) ⟨i, hit⟩ l1 l2
        obtain ⟨ix, hx, HC⟩ := idx_mark i hit false hm i (by omega)
        rw [decide_eq_false_iff_not] at hx
        clear hm
        go_wp2_with (go_at_call 61; with_reducible refine Calls.mono (HC.out _) ?_; rintro e w2 ⟨rfl, rfl⟩)
        go_roundw
        case rel => exact ⟨i + 1, by omega, by go_num, (nY.out.set _).done (by rw [HK.out]; rfl)⟩
        case measure => first | (simp [RowKit.intOf]; done) | (simp [RowKit.intOf]; omega)
      · obtain rfl : i = 9 := by omega
        have HK : Hid (kindN 9 = 6) := by show _ = _; decide
        have hm : isMark 9 = false := by decide
        obtain ⟨ix, hx, HC⟩ := idx_mark 9 (by omega) false hm 9 (by omega)
        rw [decide_eq_false_iff_not] at hx
        clear hm
        go_wp2_with (go_at_call 61; with_reducible refine Calls.mono (HC.out _) ?_; rintro e w2 ⟨rfl, rfl⟩)
        go_roundw
        case rel => exact ⟨9 + 1, by omega, by go_num, ((nY.out.set _).set _).done (by rw [HK.out]; rfl)⟩
        case measure => first | (simp [RowKit.intOf]; done) | (simp [RowKit.intOf]; omega)
      · obtain rfl : i = 10 := by omega
        have HK : Hid (kindN 10 = 0) := by show _ = _; decide
        have hm : isMark 10 = false := by decide
        obtain ⟨ix, hx, HC⟩ := idx_mark 10 (by omega) false hm 10 (by omega)
        rw [decide_eq_false_iff_not] at hx
        clear hm
        go_wp2_with (go_at_call 61; with_reducible refine Calls.mono (HC.out _) ?_; rintro e w2 ⟨rfl, rfl⟩)
        go_roundw
        case rel => exact ⟨10 + 1, by omega, by go_num, nY.out.done (by rw [HK.out]; rfl)⟩
        case measure => first | (simp [RowKit.intOf]; done) | (simp [RowKit.intOf]; omega)
      · have HK : Hid (kindN i = 4) := (show ∀ i : Fin 256, 11 ≤ i.val → i.val ≤ 12 → kindN i.val = 4 from by decide +kernel) ⟨i, hit⟩ l1 l2
        have q0 : ¬ (65 : Int) ≤ (i : Int) := by omega
        have q1 : (i : Int) ≤ 90 := by omega
        have q2 : ¬ (97 : Int) ≤ (i : Int) := by omega
        have q3 : (i : Int) ≤ 122 := by omega
        have q4 : ¬ (48 : Int) ≤ (i : Int) := by omega
        have q5 : (i : Int) ≤ 57 := by omega
        have q6 : ¬ (32 : Int) ≤ (i : Int) := by omega
        have r0 : ((i : Int) == 127) = false := by rw [beq_eq_false_iff_ne]; omega
        have t0 : ((i : Int) != 127) = true := by rw [bne_iff_ne]; omega
        have r1 : ((i : Int) == 9) = false := by rw [beq_eq_false_iff_ne]; omega
        have t1 : ((i : Int) != 9) = true := by rw [bne_iff_ne]; omega
        have r2 : ((i : Int) == 32) = false := by rw [beq_eq_false_iff_ne]; omega
        have t2 : ((i : Int) != 32) = true := by rw [bne_iff_ne]; omega
        have r3 : ((i : Int) == 13) = false := by rw [beq_eq_false_iff_ne]; omega
        have t3 : ((i : Int) != 13) = true := by rw [bne_iff_ne]; omega
        have r4 : ((i : Int) == 10) = false := by rw [beq_eq_false_iff_ne]; omega
        have t4 : ((i : Int) != 10) = true := by rw [bne_iff_ne]; omega
        have r5 : ((i : Int) == 0) = false := by rw [beq_eq_false_iff_ne]; omega
        have t5 : ((i : Int) != 0) = true := by rw [bne_iff_ne]; omega
        have hm : isMark i = false := (show ∀ i : Fin 256, 11 ≤ i.val → i.val ≤ 12 → isMark i.val = false from by decide +kernel) ⟨i, hit⟩ l1 l2
        obtain ⟨ix, hx, HC⟩ := idx_mark i hit false hm i (by omega)
        rw [decide_eq_false_iff_not] at hx
        clear hm
        go_wp2_with (go_at_call 61; with_reducible refine Calls.mono (HC.out _) ?_; rintro e w2 ⟨rfl, rfl⟩)
        go_roundw
        case rel => exact ⟨i + 1, by omega, by go_num, (nY.out.set _).done (by rw [HK.out]; rfl)⟩
        case measure => first | (simp [RowKit.intOf]; done) | (simp [RowKit.intOf]; omega)
      · obtain rfl : i = 13 := by omega
        have HK : Hid (kindN 13 = 0) := by show _ = _; decide
        have hm : isMark 13 = false := by decide
        obtain ⟨ix, hx, HC⟩ := idx_mark 13 (by omega) false hm 13 (by omega)
        rw [decide_eq_false_iff_not] at hx
        clear hm
        go_wp2_with (go_at_call 61; with_reducible refine Calls.mono (HC.out _) ?_; rintro e w2 ⟨rfl, rfl⟩)
        go_roundw
        case rel => exact ⟨13 + 1, by omega, by go_num, nY.out.done (by rw [HK.out]; rfl)⟩
        case measure => first | (simp [RowKit.intOf]; done) | (simp [RowKit.intOf]; omega)
      · have HK : Hid (kindN i = 4) := (show ∀ i : Fin 256, 14 ≤ i.val → i.val ≤ 31 → kindN i.val = 4 from by decide +kernel) ⟨i, hit⟩ l1 l2
        have q0 : ¬ (65 : Int) ≤ (i : Int) := by omega
        have q1 : (i : Int) ≤ 90 := by omega
        have q2 : ¬ (97 : Int) ≤ (i : Int) := by omega
        have q3 : (i : Int) ≤ 122 := by omega
        have q4 : ¬ (48 : Int) ≤ (i : Int) := by omega
        have q5 : (i : Int) ≤ 57 := by omega
        have q6 : ¬ (32 : Int) ≤ (i : Int) := by omega
        have r0 : ((i : Int) == 127) = false := by rw [beq_eq_false_iff_ne]; omega
        have t0 : ((i : Int) != 127) = true := by rw [bne_iff_ne]; omega
        have r1 : ((i : Int) == 9) = false := by rw [beq_eq_false_iff_ne]; omega
        have t1 : ((i : Int) != 9) = true := by rw [bne_iff_ne]; omega
        have r2 : ((i : Int) == 32) = false := by rw [beq_eq_false_iff_ne]; omega
        have t2 : ((i : Int) != 32) = true := by rw [bne_iff_ne]; omega
        have r3 : ((i : Int) == 13) = false := by rw [beq_eq_false_iff_ne]; omega
        have t3 : ((i : Int) != 13) = true := by rw [bne_iff_ne]; omega
        have r4 : ((i : Int) == 10) = false := by rw [beq_eq_false_iff_ne]; omega
        have t4 : ((i : Int) != 10) = true := by rw [bne_iff_ne]; omega
        have r5 : ((i : Int) == 0) = false := by rw [beq_eq_false_iff_ne]; omega
        have t5 : ((i : Int) != 0) = true := by rw [bne_iff_ne]; omega
        have hm : isMark i = false := (show ∀ i : Fin 256, 14 ≤ i.val → i.val ≤ 31 → isMark i.val = false from by decide +kernel) ⟨i, hit⟩ l1 l2
        obtain ⟨ix, hx, HC⟩ := idx_mark i hit false hm i (by omega)
        rw [decide_eq_false_iff_not] at hx
        clear hm
        go_wp2_with (go_at_call 61; with_reducible refine Calls.mono (HC.out _) ?_; rintro e w2 ⟨rfl, rfl⟩)
        go_roundw
        case rel => exact ⟨i + 1, by omega, by go_num, (nY.out.set _).done (by rw [HK.out]; rfl)⟩
        case measure => first | (simp [RowKit.intOf]; done) | (simp [RowKit.intOf]; omega)
      · obtain rfl : i = 32 := by omega
        have HK : Hid (kindN 32 = 2) := by show _ = _; decide
        have hm : isMark 32 = false := by decide
        obtain ⟨ix, hx, HC⟩ := idx_mark 32 (by omega) false hm 32 (by omega)
        rw [decide_eq_false_iff_not] at hx
        clear hm
        go_wp2_with (go_at_call 61; with_reducible refine Calls.mono (HC.out _) ?_; rintro e w2 ⟨rfl, rfl⟩)
        go_roundw
        case rel => exact ⟨32 + 1, by omega, by go_num, (nY.out.set _).done (by rw [HK.out]; rfl)⟩
        case measure => first | (simp [RowKit.intOf]; done) | (simp [RowKit.intOf]; omega)
      · have q0 : ¬ (65 : Int) ≤ (i : Int) := by omega
        have q1 : (i : Int) ≤ 90 := by omega
        have q2 : ¬ (97 : Int) ≤ (i : Int) := by omega
        have q3 : (i : Int) ≤ 122 := by omega
        have q4 : ¬ (48 : Int) ≤ (i : Int) := by omega
        have q5 : (i : Int) ≤ 57 := by omega
        have q6 : (32 : Int) ≤ (i : Int) := by omega
        have r0 : ((i : Int) == 127) = false := by rw [beq_eq_false_iff_ne]; omega
        have t0 : ((i : Int) != 127) = true := by rw [bne_iff_ne]; omega
        have r1 : ((i : Int) == 9) = false := by rw [beq_eq_false_iff_ne]; omega
        have t1 : ((i : Int) != 9) = true := by rw [bne_iff_ne]; omega
        have r2 : ((i : Int) == 32) = false := by rw [beq_eq_false_iff_ne]; omega
        have t2 : ((i : Int) != 32) = true := by rw [bne_iff_ne]; omega
        have r3 : ((i : Int) == 13) = false := by rw [beq_eq_false_iff_ne]; omega
        have t3 : ((i : Int) != 13) = true := by rw [bne_iff_ne]; omega
        have r4 : ((i : Int) == 10) = false := by rw [beq_eq_false_iff_ne]; omega
        have t4 : ((i : Int) != 10) = true := by rw [bne_iff_ne]; omega
        have r5 : ((i : Int) == 0) = false := by rw [beq_eq_false_iff_ne]; omega
        have t5 : ((i : Int) != 0) = true := by rw [bne_iff_ne]; omega
        cases hm : isMark i with
        | true =>
          have HK : Hid (kindN i = 7) := (show ∀ i : Fin 256, 33 ≤ i.val → i.val ≤ 47 → isMark i.val = true → kindN i.val = 7 from by decide +kernel) ⟨i, hit⟩ l1 l2 hm
          obtain ⟨ix, hx, HC⟩ := idx_mark i hit true hm i rfl
          rw [decide_eq_true_iff] at hx
          clear hm
          go_wp2_with (go_at_call 61; with_reducible refine Calls.mono (HC.out _) ?_; rintro e w2 ⟨rfl, rfl⟩)
          go_roundw
          case rel => exact ⟨i + 1, by omega, by go_num, (((nY.out.set _).set _).set _).done (by rw [HK.out]; rfl)⟩
          case measure => first | (simp [RowKit.intOf]; done) | (simp [RowKit.intOf]; omega)
        | false =>
          have HK : Hid (kindN i = 6) := (show ∀ i : Fin 256, 33 ≤ i.val → i.val ≤ 47 → isMark i.val = false → kindN i.val = 6 from by decide +kernel) ⟨i, hit⟩ l1 l2 hm
          obtain ⟨ix, hx, HC⟩ := idx_mark i hit false hm i rfl
          rw [decide_eq_false_iff_not] at hx
          clear hm
          go_wp2_with (go_at_call 61; with_reducible refine Calls.mono (HC.out _) ?_; rintro e w2 ⟨rfl, rfl⟩)
          go_roundw
          case rel => exact ⟨i + 1, by omega, by go_num, ((nY.out.set _).set _).done (by rw [HK.out]; rfl)⟩
          case measure => first | (simp [RowKit.intOf]; done) | (simp [RowKit.intOf]; omega)
      · have HK : Hid (kindN i = 7) := (show ∀ i : Fin 256, 48 ≤ i.val → i.val ≤ 57 → kindN i.val = 7 from by decide +kernel) ⟨i, hit⟩ l1 l2
        have q0 : ¬ (65 : Int) ≤ (i : Int) := by omega
        have q1 : (i : Int) ≤ 90 := by omega
        have q2 : ¬ (97 : Int) ≤ (i : Int) := by omega
        have q3 : (i : Int) ≤ 122 := by omega
        have q4 : (48 : Int) ≤ (i : Int) := by omega
        have q5 : (i : Int) ≤ 57 := by omega
        have q6 : (32 : Int) ≤ (i : Int) := by omega
        have r0 : ((i : Int) == 127) = false := by rw [beq_eq_false_iff_ne]; omega
        have t0 : ((i : Int) != 127) = true := by rw [bne_iff_ne]; omega
        have r1 : ((i : Int) == 9) = false := by rw [beq_eq_false_iff_ne]; omega
        have t1 : ((i : Int) != 9) = true := by rw [bne_iff_ne]; omega
        have r2 : ((i : Int) == 32) = false := by rw [beq_eq_false_iff_ne]; omega
        have t2 : ((i : Int) != 32) = true := by rw [bne_iff_ne]; omega
        have r3 : ((i : Int) == 13) = false := by rw [beq_eq_false_iff_ne]; omega
        have t3 : ((i : Int) != 13) = true := by rw [bne_iff_ne]; omega
        have r4 : ((i : Int) == 10) = false := by rw [beq_eq_false_iff_ne]; omega
        have t4 : ((i : Int) != 10) = true := by rw [bne_iff_ne]; omega
        have r5 : ((i : Int) == 0) = false := by rw [beq_eq_false_iff_ne]; omega
        have t5 : ((i : Int) != 0) = true := by rw [bne_iff_ne]; omega
        go_wp2
        go_roundw
        case rel => exact ⟨i + 1, by omega, by go_num, (((nY.out.set _).set _).set _).done (by rw [HK.out]; rfl)⟩
        case measure => first | (simp [RowKit.intOf]; done) | (simp [RowKit.intOf]; omega)
      · have HK : Hid (kindN i = 6) := (show ∀ i : Fin 256, 58 ≤ i.val → i.val ≤ 64 → kindN i.val = 6 from by decide +kernel) ⟨i, hit⟩ l1 l2
        have q0 : ¬ (65 : Int) ≤ (i : Int) := by omega
        have q1 : (i : Int) ≤ 90 := by omega
        have q2 : ¬ (97 : Int) ≤ (i : Int) := by omega
        have q3 : (i : Int) ≤ 122 := by omega
        have q4 : (48 : Int) ≤ (i : Int) := by omega
        have q5 : ¬ (i : Int) ≤ 57 := by omega
        have q6 : (32 : Int) ≤ (i : Int) := by omega
        have r0 : ((i : Int) == 127) = false := by rw [beq_eq_false_iff_ne]; omega
        have t0 : ((i : Int) != 127) = true := by rw [bne_iff_ne]; omega
        have r1 : ((i : Int) == 9) = false := by rw [beq_eq_false_iff_ne]; omega
        have t1 : ((i : Int) != 9) = true := by rw [bne_iff_ne]; omega
        have r2 : ((i : Int) == 32) = false := by rw [beq_eq_false_iff_ne]; omega
        have t2 : ((i : Int) != 32) = true := by rw [bne_iff_ne]; omega
        have r3 : ((i : Int) == 13) = false := by rw [beq_eq_false_iff_ne]; omega
        have t3 : ((i : Int) != 13) = true := by rw [bne_iff_ne]; omega
        have r4 : ((i : Int) == 10) = false := by rw [beq_eq_false_iff_ne]; omega
        have t4 : ((i : Int) != 10) = true := by rw [bne_iff_ne]; omega
        have r5 : ((i : Int) == 0) = false := by rw [beq_eq_false_iff_ne]; omega
        have t5 : ((i : Int) != 0) = true := by rw [bne_iff_ne]; omega
        have hm : isMark i = false := (show ∀ i : Fin 256, 58 ≤ i.val → i.val ≤ 64 → isMark i.val = false from by decide +kernel) ⟨i, hit⟩ l1 l2
        obtain ⟨ix, hx, HC⟩ := idx_mark i hit false hm i (by omega)
        rw [decide_eq_false_iff_not] at hx
        clear hm
        go_wp2_with (go_at_call 61; with_reducible refine Calls.mono (HC.out _) ?_; rintro e w2 ⟨rfl, rfl⟩)
        go_roundw
        case rel => exact ⟨i + 1, by omega, by go_num, ((nY.out.set _).set _).done (by rw [HK.out]; rfl)⟩
        case measure => first | (simp [RowKit.intOf]; done) | (simp [RowKit.intOf]; omega)
      · have HK : Hid (kindN i = 15) := (show ∀ i : Fin 256, 65 ≤ i.val → i.val ≤ 90 → kindN i.val = 15 from by decide +kernel) ⟨i, hit⟩ l1 l2
        have q0 : (65 : Int) ≤ (i : Int) := by omega
        have q1 : (i : Int) ≤ 90 := by omega
        have q2 : ¬ (97 : Int) ≤ (i : Int) := by omega
        have q3 : (i : Int) ≤ 122 := by omega
        have q4 : (48 : Int) ≤ (i : Int) := by omega
        have q5 : ¬ (i : Int) ≤ 57 := by omega
        have q6 : (32 : Int) ≤ (i : Int) := by omega
        have r0 : ((i : Int) == 127) = false := by rw [beq_eq_false_iff_ne]; omega
        have t0 : ((i : Int) != 127) = true := by rw [bne_iff_ne]; omega
        have r1 : ((i : Int) == 9) = false := by rw [beq_eq_false_iff_ne]; omega
        have t1 : ((i : Int) != 9) = true := by rw [bne_iff_ne]; omega
        have r2 : ((i : Int) == 32) = false := by rw [beq_eq_false_iff_ne]; omega
        have t2 : ((i : Int) != 32) = true := by rw [bne_iff_ne]; omega
        have r3 : ((i : Int) == 13) = false := by rw [beq_eq_false_iff_ne]; omega
        have t3 : ((i : Int) != 13) = true := by rw [bne_iff_ne]; omega
        have r4 : ((i : Int) == 10) = false := by rw [beq_eq_false_iff_ne]; omega
        have t4 : ((i : Int) != 10) = true := by rw [bne_iff_ne]; omega
        have r5 : ((i : Int) == 0) = false := by rw [beq_eq_false_iff_ne]; omega
        have t5 : ((i : Int) != 0) = true := by rw [bne_iff_ne]; omega
        go_wp2
        go_roundw
        case rel => exact ⟨i + 1, by omega, by go_num, (((nY.out.set _).set _).set _).done (by rw [HK.out]; rfl)⟩
        case measure => first | (simp [RowKit.intOf]; done) | (simp [RowKit.intOf]; omega)
      · have q0 : (65 : Int) ≤ (i : Int) := by omega
        have q1 : ¬ (i : Int) ≤ 90 := by omega
        have q2 : ¬ (97 : Int) ≤ (i : Int) := by omega
        have q3 : (i : Int) ≤ 122 := by omega
        have q4 : (48 : Int) ≤ (i : Int) := by omega
        have q5 : ¬ (i : Int) ≤ 57 := by omega
        have q6 : (32 : Int) ≤ (i : Int) := by omega
        have r0 : ((i : Int) == 127) = false := by rw [beq_eq_false_iff_ne]; omega
        have t0 : ((i : Int) != 127) = true := by rw [bne_iff_ne]; omega
        have r1 : ((i : Int) == 9) = false := by rw [beq_eq_false_iff_ne]; omega
        have t1 : ((i : Int) != 9) = true := by rw [bne_iff_ne]; omega
        have r2 : ((i : Int) == 32) = false := by rw [beq_eq_false_iff_ne]; omega
        have t2 : ((i : Int) != 32) = true := by rw [bne_iff_ne]; omega
        have r3 : ((i : Int) == 13) = false := by rw [beq_eq_false_iff_ne]; omega
        have t3 : ((i : Int) != 13) = true := by rw [bne_iff_ne]; omega
        have r4 : ((i : Int) == 10) = false := by rw [beq_eq_false_iff_ne]; omega
        have t4 : ((i : Int) != 10) = true := by rw [bne_iff_ne]; omega
        have r5 : ((i : Int) == 0) = false := by rw [beq_eq_false_iff_ne]; omega
        have t5 : ((i : Int) != 0) = true := by rw [bne_iff_ne]; omega
        cases hm : isMark i with
        | true =>
          have HK : Hid (kindN i = 7) := (show ∀ i : Fin 256, 91 ≤ i.val → i.val ≤ 96 → isMark i.val = true → kindN i.val = 7 from by decide +kernel) ⟨i, hit⟩ l1 l2 hm
          obtain ⟨ix, hx, HC⟩ := idx_mark i hit true hm i rfl
          rw [decide_eq_true_iff] at hx
          clear hm
          go_wp2_with (go_at_call 61; with_reducible refine Calls.mono (HC.out _) ?_; rintro e w2 ⟨rfl, rfl⟩)
          go_roundw
          case rel => exact ⟨i + 1, by omega, by go_num, (((nY.out.set _).set _).set _).done (by rw [HK.out]; rfl)⟩
          case measure => first | (simp [RowKit.intOf]; done) | (simp [RowKit.intOf]; omega)
        | false =>
          have HK : Hid (kindN i = 6) := (show ∀ i : Fin 256, 91 ≤ i.val → i.val ≤ 96 → isMark i.val = false → kindN i.val = 6 from by decide +kernel) ⟨i, hit⟩ l1 l2 hm
          obtain ⟨ix, hx, HC⟩ := idx_mark i hit false hm i rfl
          rw [decide_eq_false_iff_not] at hx
          clear hm
          go_wp2_with (go_at_call 61; with_reducible refine Calls.mono (HC.out _) ?_; rintro e w2 ⟨rfl, rfl⟩)
          go_roundw
          case rel => exact ⟨i + 1, by omega, by go_num, ((nY.out.set _).set _).done (by rw [HK.out]; rfl)⟩
          case measure => first | (simp [RowKit.intOf]; done) | (simp [RowKit.intOf]; omega)
      · have HK : Hid (kindN i = 7) := (show ∀ i : Fin 256, 97 ≤ i.val → i.val ≤ 122 → kindN i.val = 7 from by decide +kernel) ⟨i, hit⟩ l1 l2
        have q0 : (65 : Int) ≤ (i : Int) := by omega
        have q1 : ¬ (i : Int) ≤ 90 := by omega
        have q2 : (97 : Int) ≤ (i : Int) := by omega
        have q3 : (i : Int) ≤ 122 := by omega
        have q4 : (48 : Int) ≤ (i : Int) := by omega
        have q5 : ¬ (i : Int) ≤ 57 := by omega
        have q6 : (32 : Int) ≤ (i : Int) := by omega
        have r0 : ((i : Int) == 127) = false := by rw [beq_eq_false_iff_ne]; omega
        have t0 : ((i : Int) != 127) = true := by rw [bne_iff_ne]; omega
        have r1 : ((i : Int) == 9) = false := by rw [beq_eq_false_iff_ne]; omega
        have t1 : ((i : Int) != 9) = true := by rw [bne_iff_ne]; omega
        have r2 : ((i : Int) == 32) = false := by rw [beq_eq_false_iff_ne]; omega
        have t2 : ((i : Int) != 32) = true := by rw [bne_iff_ne]; omega
        have r3 : ((i : Int) == 13) = false := by rw [beq_eq_false_iff_ne]; omega
        have t3 : ((i : Int) != 13) = true := by rw [bne_iff_ne]; omega
        have r4 : ((i : Int) == 10) = false := by rw [beq_eq_false_iff_ne]; omega
        have t4 : ((i : Int) != 10) = true := by rw [bne_iff_ne]; omega
        have r5 : ((i : Int) == 0) = false := by rw [beq_eq_false_iff_ne]; omega
        have t5 : ((i : Int) != 0) = true := by rw [bne_iff_ne]; omega
        go_wp2
        go_roundw
        case rel => exact ⟨i + 1, by omega, by go_num, (((nY.out.set _).set _).set _).done (by rw [HK.out]; rfl)⟩
        case measure => first | (simp [RowKit.intOf]; done) | (simp [RowKit.intOf]; omega)
      · have q0 : (65 : Int) ≤ (i : Int) := by omega
        have q1 : ¬ (i : Int) ≤ 90 := by omega
        have q2 : (97 : Int) ≤ (i : Int) := by omega
        have q3 : ¬ (i : Int) ≤ 122 := by omega
        have q4 : (48 : Int) ≤ (i : Int) := by omega
        have q5 : ¬ (i : Int) ≤ 57 := by omega
        have q6 : (32 : Int) ≤ (i : Int) := by omega
        have r0 : ((i : Int) == 127) = false := by rw [beq_eq_false_iff_ne]; omega
        have t0 : ((i : Int) != 127) = true := by rw [bne_iff_ne]; omega
        have r1 : ((i : Int) == 9) = false := by rw [beq_eq_false_iff_ne]; omega
        have t1 : ((i : Int) != 9) = true := by rw [bne_iff_ne]; omega
        have r2 : ((i : Int) == 32) = false := by rw [beq_eq_false_iff_ne]; omega
        have t2 : ((i : Int) != 32) = true := by rw [bne_iff_ne]; omega
        have r3 : ((i : Int) == 13) = false := by rw [beq_eq_false_iff_ne]; omega
        have t3 : ((i : Int) != 13) = true := by rw [bne_iff_ne]; omega
        have r4 : ((i : Int) == 10) = false := by rw [beq_eq_false_iff_ne]; omega
        have t4 : ((i : Int) != 10) = true := by rw [bne_iff_ne]; omega
        have r5 : ((i : Int) == 0) = false := by rw [beq_eq_false_iff_ne]; omega
        have t5 : ((i : Int) != 0) = true := by rw [bne_iff_ne]; omega
        cases hm : isMark i with
        | true =>
          have HK : Hid (kindN i = 7) := (show ∀ i : Fin 256, 123 ≤ i.val → i.val ≤ 126 → isMark i.val = true → kindN i.val = 7 from by decide +kernel) ⟨i, hit⟩ l1 l2 hm
          obtain ⟨ix, hx, HC⟩ := idx_mark i hit true hm i rfl
          rw [decide_eq_true_iff] at hx
          clear hm
          go_wp2_with (go_at_call 61; with_reducible refine Calls.mono (HC.out _) ?_; rintro e w2 ⟨rfl, rfl⟩)
          go_roundw
          case rel => exact ⟨i + 1, by omega, by go_num, (((nY.out.set _).set _).set _).done (by rw [HK.out]; rfl)⟩
          case measure => first | (simp [RowKit.intOf]; done) | (simp [RowKit.intOf]; omega)
        | false =>
          have HK : Hid (kindN i = 6) := (show ∀ i : Fin 256, 123 ≤ i.val → i.val ≤ 126 → isMark i.val = false → kindN i.val = 6 from by decide +kernel) ⟨i, hit⟩ l1 l2 hm
          obtain ⟨ix, hx, HC⟩ := idx_mark i hit false hm i rfl
          rw [decide_eq_false_iff_not] at hx
          clear hm
          go_wp2_with (go_at_call 61; with_reducible refine Calls.mono (HC.out _) ?_; rintro e w2 ⟨rfl, rfl⟩)
          go_roundw
          case rel => exact ⟨i + 1, by omega, by go_num, ((nY.out.set _).set _).done (by rw [HK.out]; rfl)⟩
          case measure => first | (simp [RowKit.intOf]; done) | (simp [RowKit.intOf]; omega)
      · obtain rfl : i = 127 := by omega
        have HK : Hid (kindN 127 = 4) := by show _ = _; decide
        have hm : isMark 127 = false := by decide
        obtain ⟨ix, hx, HC⟩ := idx_mark 127 (by omega) false hm 127 (by omega)
        rw [decide_eq_false_iff_not] at hx
        clear hm
        go_wp2_with (go_at_call 61; with_reducible refine Calls.mono (HC.out _) ?_; rintro e w2 ⟨rfl, rfl⟩)
        go_roundw
        case rel => exact ⟨127 + 1, by omega, by go_num, (nY.out.set _).done (by rw [HK.out]; rfl)⟩
        case measure => first | (simp [RowKit.intOf]; done) | (simp [RowKit.intOf]; omega)
      · have HK : Hid (kindN i = 6) := (show ∀ i : Fin 256, 128 ≤ i.val → i.val ≤ 255 → kindN i.val = 6 from by decide +kernel) ⟨i, hit⟩ l1 l2
        have q0 : (65 : Int) ≤ (i : Int) := by omega
        have q1 : ¬ (i : Int) ≤ 90 := by omega
        have q2 : (97 : Int) ≤ (i : Int) := by omega
        have q3 : ¬ (i : Int) ≤ 122 := by omega
        have q4 : (48 : Int) ≤ (i : Int) := by omega
        have q5 : ¬ (i : Int) ≤ 57 := by omega
        have q6 : (32 : Int) ≤ (i : Int) := by omega
        have r0 : ((i : Int) == 127) = false := by rw [beq_eq_false_iff_ne]; omega
        have t0 : ((i : Int) != 127) = true := by rw [bne_iff_ne]; omega
        have r1 : ((i : Int) == 9) = false := by rw [beq_eq_false_iff_ne]; omega
        have t1 : ((i : Int) != 9) = true := by rw [bne_iff_ne]; omega
        have r2 : ((i : Int) == 32) = false := by rw [beq_eq_false_iff_ne]; omega
        have t2 : ((i : Int) != 32) = true := by rw [bne_iff_ne]; omega
        have r3 : ((i : Int) == 13) = false := by rw [beq_eq_false_iff_ne]; omega
        have t3 : ((i : Int) != 13) = true := by rw [bne_iff_ne]; omega
        have r4 : ((i : Int) == 10) = false := by rw [beq_eq_false_iff_ne]; omega
        have t4 : ((i : Int) != 10) = true := by rw [bne_iff_ne]; omega
        have r5 : ((i : Int) == 0) = false := by rw [beq_eq_false_iff_ne]; omega
        have t5 : ((i : Int) != 0) = true := by rw [bne_iff_ne]; omega
        have hm : isMark i = false := (show ∀ i : Fin 256, 128 ≤ i.val → i.val ≤ 255 → isMark i.val = false from by decide +kernel) ⟨i, hit⟩ l1 l2
        obtain ⟨ix, hx, HC⟩ := idx_mark i hit false hm i (by omega)
        rw [decide_eq_false_iff_not] at hx
        clear hm
        go_wp2_with (go_at_call 61; with_reducible refine Calls.mono (HC.out _) ?_; rintro e w2 ⟨rfl, rfl⟩)
        go_roundw
        case rel => exact ⟨i + 1, by omega, by go_num, ((nY.out.set _).set _).done (by rw [HK.out]; rfl)⟩
        case measure => first | (simp [RowKit.intOf]; done) | (simp [RowKit.intOf]; omega)
    · obtain rfl : i = 256 := by omega
      obtain ⟨W1, l1, l2, l3, hB, l4, l5, l6⟩ := hS.end_
      have hK : KD = Array.ofFn (n := 256) fun i => .int .u8 (kindN i.val) := rfl
      have HB := Lib.hid hB
      have HK := Lib.hid hK
      have hks := KD_size
      clear hit hS hB hK
      generalize KD = K at *
      have L4 := Lib.hid l4
      have L5 := Lib.hid l5
      have L6 := Lib.hid l6
      clear l1 l3 l4 l5 l6
      go_wp2
      refine wp_load rfl rfl L4.out ?_
      simp only [Act.put, List.setIfInBounds_toArray, List.set_cons_zero, List.set_cons_succ]
      go_wp2
      refine ⟨rfl, .agg K, ?_, by rw [HK.out], HB.out⟩
      simp [results, Tryz.results36]
      exact L6.out
end Go.Proofs.YtpjjkejppgehaaaGreatDoor
