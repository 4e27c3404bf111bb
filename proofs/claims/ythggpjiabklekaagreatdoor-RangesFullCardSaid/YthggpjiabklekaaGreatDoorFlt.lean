/- What an error of the program says: none, or a named error at a place; eponymlaw01.Is asks just that. -/
import Derived.Test.YthggpjiabklekaaGreatDoorErr
import Derived.Below
import Derived.WalkLawsBesides
namespace Go.Proofs.YthggpjiabklekaaGreatDoor
open Go.RowKit

/-- The variable of a named error. -/
def gidx : Nat → Nat
  | 1 => 6
  | 2 => 0
  | 3 => 7
  | 4 => 3
  | 5 => 1
  | 6 => 8
  | 7 => 4
  | 8 => 9
  | 9 => 10
  | 10 => 11
  | 11 => 12
  | 12 => 13
  | 13 => 14
  | 14 => 15
  | 15 => 16
  | 16 => 17
  | 17 => 18
  | 18 => 2
  | _ => 0
/-- What the calls want of the world in which they begin: the named errors are there, each another one; and so is what errors.As reads. -/
structure IsInv (w : World) : Prop where
  et : w.cell? ⟨5, 0, none⟩ = some (.iface 118 (.agg #[.pointer (some ⟨28, 34, none⟩)]))
  sent : ∀ c, 1 ≤ c → c ≤ 18 → ∃ a : Addr, w.cell? ⟨gidx c, 0, none⟩ = some (.iface 189 (.pointer (some a))) ∧ ∃ cs t, w.heap[a.block]? = some (.cells cs t (0, 0))
  other : ∀ c c' a, 1 ≤ c → c ≤ 18 → 1 ≤ c' → c' ≤ 18 → w.cell? ⟨gidx c, 0, none⟩ = some (.iface 189 (.pointer (some a))) → w.cell? ⟨gidx c', 0, none⟩ = some (.iface 189 (.pointer (some a))) → c = c'
theorem cell_in {w w' : World} (hb : Below w.heap.size w w') {a : Addr} {v : Value} (h : w.cell? a = some v) : w'.cell? a = some v := (hb.cell (World.block_lt_of_cell? w a h)).trans h
theorem heap_lt {w : World} {g : Nat} {o : Obj} (h : w.heap[g]? = some o) : g < w.heap.size := by
  rcases Nat.lt_or_ge g w.heap.size with hlt | hge
  · exact hlt
  · rw [Array.getElem?_eq_none hge] at h; cases h
theorem IsInv.below {w w' : World} (h : IsInv w) (hb : Below w.heap.size w w') : IsInv w' where
  et := cell_in hb h.et
  sent := fun c h1 h2 => by
    obtain ⟨a, hc, cs, t, hh⟩ := h.sent c h1 h2
    exact ⟨a, cell_in hb hc, cs, t, (hb.block _ (heap_lt hh)).trans hh⟩
  other := fun c c' a h1 h2 h3 h4 e e' => by
    obtain ⟨b, hc, _⟩ := h.sent c h1 h2
    obtain ⟨b', hc', _⟩ := h.sent c' h3 h4
    have e2 := (cell_in hb hc).symm.trans e
    have e3 := (cell_in hb hc').symm.trans e'
    exact h.other c c' a h1 h2 h3 h4 (hc.trans e2) (hc'.trans e3)
theorem IsInv.drewN {w : World} (h : IsInv w) (n : Nat) : IsInv (w.drewN n) where
  et := h.et
  sent := h.sent
  other := h.other

/-- What the calls that make errors want: the variables are there, and the named errors that these calls tell. -/
structure ErrInv (w : World) : Prop where
  lo : 18 < w.heap.size
  sent : ∀ c, c ∈ ([1, 2, 4] : List Nat) → ∃ a : Addr, w.cell? ⟨gidx c, 0, none⟩ = some (.iface 189 (.pointer (some a))) ∧ ∃ cs t, w.heap[a.block]? = some (.cells cs t (0, 0))
theorem ErrInv.below {w w' : World} (h : ErrInv w) (hb : Below w.heap.size w w') : ErrInv w' where
  lo := Nat.lt_of_lt_of_le h.lo hb.size
  sent := fun c h1 => by
    obtain ⟨a, hc, cs, t, hh⟩ := h.sent c h1
    exact ⟨a, cell_in hb hc, cs, t, (hb.block _ (heap_lt hh)).trans hh⟩
theorem ErrInv.drewN {w : World} (h : ErrInv w) (n : Nat) : ErrInv (w.drewN n) where
  lo := h.lo
  sent := h.sent
theorem gidx_lo (c : Nat) : gidx c ≤ 18 := by unfold gidx; split <;> omega
theorem IsInv.err {w : World} (h : IsInv w) (hl : 18 < w.heap.size) : ErrInv w where
  lo := hl
  sent := fun c hc => h.sent c (by simp at hc; omega) (by simp at hc; omega)

/-- The error that a value is: none, or a place and a named error's number. -/
def FltIs (w : World) (v : Value) : Option (Int × Nat) → Prop
  | none => v = .nilIface
  | some (a, c) => 1 ≤ c ∧ c ≤ 18 ∧ ∃ g s, v = .iface 70 (.pointer (some ⟨g, 0, none⟩)) ∧ w.heap[g]? = some (.cells #[.int .i64 a, s] 74 (0, 0)) ∧ w.cell? ⟨gidx c, 0, none⟩ = some s
theorem FltIs.below {w w' : World} {v : Value} {x : Option (Int × Nat)} (h : FltIs w v x) (hb : Below w.heap.size w w') : FltIs w' v x := by
  match x, h with
  | none, h => exact h
  | some (a, c), ⟨h1, h2, g, s, h3, h4, h5⟩ => exact ⟨h1, h2, g, s, h3, (hb.block _ (heap_lt h4)).trans h4, cell_in hb h5⟩
theorem FltIs.drewN {w : World} {v : Value} {x : Option (Int × Nat)} (h : FltIs w v x) (n : Nat) : FltIs (w.drewN n) v x := by
  match x, h with
  | none, h => exact h
  | some (a, c), h => exact h
/-- What eponymlaw01.Is tells. -/
def isB (x : Option (Int × Nat)) (a c : Int) : Bool :=
  match x with
  | none => c == 0
  | some (b, d) => c != 0 && b == a && (d : Int) == c

theorem as_fault (e : Addr) (w : World) (hg : w.cell? ⟨5, 0, none⟩ = some (.iface 118 (.agg #[.pointer (some ⟨28, 34, none⟩)]))) :
    Calls Tryz.prog 37 #[.iface 70 (.pointer (some e)), .iface 72 (.pointer (some ⟨w.heap.size, 0, none⟩))] (w.alloc (.cells #[.pointer none] 70)) fun ev w' => ev = .returned (.bool true) ∧ w'.cell? ⟨w.heap.size, 0, none⟩ = some (.pointer (some e)) ∧ Below w.heap.size w w' := by
  refine (as_hit e ⟨w.heap.size, 0, none⟩ (.pointer none) _ (by rw [World.cell?_alloc_lt _ _ ⟨5, 0, none⟩ (World.block_lt_of_cell? w _ hg)]; exact hg) (by simp) (by simp)).mono ?_
  rintro ev w' ⟨rfl, rfl⟩
  refine ⟨rfl, ?_, ?_⟩
  · refine World.cell?_setCell_same' _ _ _ ?_
    rw [World.cell?_alloc_lt _ _ _ (by first | (simp; done) | (simp; omega)), World.cell?_alloc_lt _ _ _ (by first | (simp; done) | (simp; omega)), World.cell?_alloc_lt _ _ _ (by first | (simp; done) | (simp; omega)), World.cell?_alloc_lt _ _ _ (by first | (simp; done) | (simp; omega))]
    simp
  · exact ((((((Below.refl _ _).alloc (Nat.le_refl _) _).alloc (by simp) _).alloc (by simp; omega) _).alloc (by simp; omega) _).alloc (by simp; omega) _).setCell (Nat.le_refl _) _

theorem named_any (c : Nat) (h1 : 1 ≤ c) (h2 : c ≤ 18) (s : Value) (w : World) (hs : w.cell? ⟨gidx c, 0, none⟩ = some s) :
    Calls Tryz.prog 39 #[.int .i64 (c : Int)] w fun e w' => e = .returned s ∧ w' = w := by
  obtain h | h | h | h | h | h | h | h | h | h | h | h | h | h | h | h | h | h : c = 1 ∨ c = 2 ∨ c = 3 ∨ c = 4 ∨ c = 5 ∨ c = 6 ∨ c = 7 ∨ c = 8 ∨ c = 9 ∨ c = 10 ∨ c = 11 ∨ c = 12 ∨ c = 13 ∨ c = 14 ∨ c = 15 ∨ c = 16 ∨ c = 17 ∨ c = 18 := by omega
  all_goals
    subst h
    clear h1 h2
    simp only [gidx] at hs
    go_enter Tryz.func39, Tryz.ntmps39
    go_wp2
    go_ret
    exact ⟨rfl, rfl⟩

/-- eponymlaw01.Is. -/
theorem is_zero (v : Value) (x : Option (Int × Nat)) (a : Int) (w : World) (hx : FltIs w v x) :
    Calls Tryz.prog 19 #[v, .int .i64 a, .int .i64 0] w fun e w' => e = .returned (.bool (isB x a 0)) ∧ w' = w := by
  match x, hx with
  | none, hx =>
    obtain rfl : v = .nilIface := hx
    go_enter Tryz.func19, Tryz.ntmps19
    go_wp2
    go_ret
    exact ⟨rfl, rfl⟩
  | some (b, d), ⟨_, _, g, s, h3, _, _⟩ =>
    subst h3
    go_enter Tryz.func19, Tryz.ntmps19
    go_wp2
    go_ret
    exact ⟨rfl, rfl⟩
theorem is_nil_other (a c : Int) (w : World) (hc : (c == 0) = false) :
    Calls Tryz.prog 19 #[.nilIface, .int .i64 a, .int .i64 c] w fun e w' => e = .returned (.bool false) ∧ Below w.heap.size w w' := by
  go_enter Tryz.func19, Tryz.ntmps19
  go_wp2
  go_ret
  exact ⟨rfl, (Below.refl _ _).alloc (Nat.le_refl _) _⟩
theorem is_far (g : Nat) (b : Int) (s : Value) (a c : Int) (w : World) (hc : (c == 0) = false) (hba : (b == a) = false) (hg : w.heap[g]? = some (.cells #[.int .i64 b, s] 74 (0, 0))) (hI : IsInv w) :
    Calls Tryz.prog 19 #[.iface 70 (.pointer (some ⟨g, 0, none⟩)), .int .i64 a, .int .i64 c] w fun e w' => e = .returned (.bool false) ∧ Below w.heap.size w w' := by
  have hgl := heap_lt hg
  have k0 : w.cell? ⟨g, 0, none⟩ = some (.int .i64 b) := by simp [World.cell?, hg]
  go_enter Tryz.func19, Tryz.ntmps19
  go_wp2_with fail
  refine (as_fault ⟨g, 0, none⟩ w hI.et).mono ?_
  rintro e w1 ⟨rfl, ht, hb⟩
  have k1 := (hb.cell (p := ⟨g, 0, none⟩) hgl).trans k0
  go_wp2
  go_ret
  exact ⟨rfl, hb⟩
theorem is_near (g : Nat) (d : Nat) (s : Value) (a : Int) (c : Nat) (h1 : 1 ≤ c) (h2 : c ≤ 18) (d1 : 1 ≤ d) (d2 : d ≤ 18) (w : World) (hg : w.heap[g]? = some (.cells #[.int .i64 a, s] 74 (0, 0))) (hs : w.cell? ⟨gidx d, 0, none⟩ = some s) (hI : IsInv w) :
    Calls Tryz.prog 19 #[.iface 70 (.pointer (some ⟨g, 0, none⟩)), .int .i64 a, .int .i64 (c : Int)] w fun e w' => e = .returned (.bool (d == c)) ∧ Below w.heap.size w w' := by
  have hgl := heap_lt hg
  have k0 : w.cell? ⟨g, 0, none⟩ = some (.int .i64 a) := by simp [World.cell?, hg]
  have k1 : w.cell? ⟨g, 1, none⟩ = some s := by simp [World.cell?, hg]
  obtain ⟨x, hx, cx, tx, bx⟩ := hI.sent d d1 d2
  obtain ⟨y, hy, cy, ty, by_⟩ := hI.sent c h1 h2
  obtain rfl : s = .iface 189 (.pointer (some x)) := by rw [hs] at hx; injection hx
  have hc0 : ((c : Int) == 0) = false := by rw [beq_eq_false_iff_ne]; omega
  have hxy := hI.other d c
  have hfin : (d == c) = decide (x = y) := by
    rw [Bool.eq_iff_iff, beq_iff_eq, decide_eq_true_eq]
    constructor
    · intro e; subst e; rw [hx] at hy; injection hy with hy; injection hy with _ hy; injection hy with hy; injection hy
    · intro e; subst e; exact hxy x d1 d2 h1 h2 hx hy
  rw [hfin]
  clear hfin hxy
  go_enter Tryz.func19, Tryz.ntmps19
  go_wp2_with fail
  refine (as_fault ⟨g, 0, none⟩ w hI.et).mono ?_
  rintro e w1 ⟨rfl, ht, hb⟩
  have q0 := (hb.cell (p := ⟨g, 0, none⟩) hgl).trans k0
  have q1 := (hb.cell (p := ⟨g, 1, none⟩) hgl).trans k1
  have qy := cell_in hb hy
  have qbx := (hb.block _ (heap_lt bx)).trans bx
  have qby := (hb.block _ (heap_lt by_)).trans by_
  go_wp2_with fail
  refine (named_any c h1 h2 _ w1 qy).mono ?_
  rintro e w2 ⟨rfl, rfl⟩
  go_wp2_with fail
  by_cases hxy : x = y
  · subst hxy
    refine (is_wrap_same g x _ q1).mono ?_
    rintro e w3 ⟨rfl, rfl⟩
    go_wp2
    go_ret
    exact ⟨by simp, hb⟩
  · refine (is_wrap_other g y x cx cy tx ty _ q1 hxy qbx qby).mono ?_
    rintro e w3 ⟨rfl, rfl⟩
    go_wp2
    go_ret
    exact ⟨by simp [hxy], hb⟩
theorem is_any (v : Value) (x : Option (Int × Nat)) (a c : Int) (h0 : 0 ≤ c) (h18 : c ≤ 18) (w : World) (hx : FltIs w v x) (hI : IsInv w) :
    Calls Tryz.prog 19 #[v, .int .i64 a, .int .i64 c] w fun e w' => e = .returned (.bool (isB x a c)) ∧ Below w.heap.size w w' := by
  by_cases hc : c = 0
  · subst hc
    refine (is_zero v x a w hx).mono ?_
    rintro e w' ⟨rfl, rfl⟩
    exact ⟨rfl, Below.refl _ _⟩
  · have hc' : (c == 0) = false := by rw [beq_eq_false_iff_ne]; exact hc
    match x, hx with
    | none, hx =>
      obtain rfl : v = .nilIface := hx
      refine (is_nil_other a c w hc').mono ?_
      rintro e w' ⟨rfl, hb⟩
      exact ⟨by simp [isB, hc'], hb⟩
    | some (b, d), ⟨d1, d2, g, s, h3, h4, h5⟩ =>
      subst h3
      by_cases hba : b = a
      · subst hba
        obtain ⟨n, rfl⟩ := Int.eq_ofNat_of_zero_le h0
        refine (is_near g d s b n (by omega) (by omega) d1 d2 w h4 h5 hI).mono ?_
        rintro e w' ⟨rfl, hb⟩
        refine ⟨?_, hb⟩
        have : (d == n) = isB (some (b, d)) b (n : Int) := by
          simp only [isB]
          rw [Bool.eq_iff_iff]
          simp
          omega
        rw [this]
      · refine (is_far g b s a c w hc' (by rw [beq_eq_false_iff_ne]; exact hba) h4 hI).mono ?_
        rintro e w' ⟨rfl, hb⟩
        exact ⟨by simp [isB, hba], hb⟩
end Go.Proofs.YthggpjiabklekaaGreatDoor
