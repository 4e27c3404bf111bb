/- What the deferred closure of http.Parse does; the state of its reading. -/
import Derived.Test.YtpjjkejppgehaaaGreatDoorHh
import Derived.Test.YtpjjkejppgehaaaGreatDoorSo
namespace Go.Proofs.YtpjjkejppgehaaaGreatDoor
set_option linter.unusedSimpArgs false
set_option linter.unusedVariables false
open Go.RowKit

theorem assert_nil (w : World) : (Instr.typeAssert Value.nilIface 20 54 true).run Tryz.prog w = .ok (.tuple #[.pointer none, .bool false]) w := by kernel_rfl
theorem assert_flt (g : Addr) (w : World) : (Instr.typeAssert (.iface 54 (.pointer (some g))) 20 54 true).run Tryz.prog w = .ok (.tuple #[.pointer (some g), .bool true]) w := by kernel_rfl

set_option maxRecDepth 100000 in
theorem catch_idle (p q : Addr) (w : World) :
    CallsD Tryz.prog 35 #[.pointer (some p), .pointer (some q)] .returning w fun e u' w' => e = .returned (.tuple #[]) ∧ u' = .returning ∧ w' = w := by
  refine callsD_of_wpS Tryz.func35 rfl fun c₀ cs hu => ?_
  apply wpS_seq
  apply wpS_region
  simp [wpOpsS, go_sem, recoverD, hu, assert_nil, assert_flt, Tryz.ntmps35, Exit.thenS]
  apply wpS_seq
  apply wpS_region
  simp [wpOpsS, go_sem, Exit.thenS]
  refine wpS_cond (t := false) (by simp [Act.eval, Array.replicate]) ?_
  simp only [Bool.false_eq_true, if_false]
  refine wpS_of_wp (wp_skip ?_)
  cases c₀
  simp_all [bodyPostS, results, Tryz.results35]

set_option maxRecDepth 100000 in
theorem catch_fault (T E : Nat) (g : Addr) (a0 a1 a2 a3 b0 : Value) (older : List PanicEntry) (w : World) (hT : w.heap[T]? = some (.cells #[a0, a1, a2, a3] 39 (0, 0))) (hE : w.heap[E]? = some (.cells #[b0] 32 (0, 0))) (hTE : T ≠ E) :
    CallsD Tryz.prog 35 #[.pointer (some ⟨T, 0, none⟩), .pointer (some ⟨E, 0, none⟩)] (.panicking ({ v := .iface 54 (.pointer (some g)), recovered := false } :: older)) w fun e u' w' =>
      e = .returned (.tuple #[]) ∧ u' = .panicking ({ v := .iface 54 (.pointer (some g)), recovered := true } :: older) ∧
        w' = ((((w.setCell ⟨T, 0, none⟩ (.string ⟨#[]⟩)).setCell ⟨T, 1, none⟩ (.string ⟨#[]⟩)).setCell ⟨T, 2, none⟩ (.int .i64 0)).setCell ⟨T, 3, none⟩ (.slice none 0 0)).setCell ⟨E, 0, none⟩ (.iface 54 (.pointer (some g))) := by
  refine callsD_of_wpS Tryz.func35 rfl fun c₀ cs hu => ?_
  apply wpS_seq
  apply wpS_region
  simp [wpOpsS, go_sem, recoverD, hu, assert_nil, assert_flt, Tryz.ntmps35, Exit.thenS]
  apply wpS_seq
  apply wpS_region
  simp [wpOpsS, go_sem, Exit.thenS]
  refine wpS_cond (t := true) (by simp [Act.eval, Array.replicate]) ?_
  simp only [if_true]
  have c0 := blk_cell hT 0
  have c1 := blk_cell hT 1
  have c2 := blk_cell hT 2
  have c3 := blk_cell hT 3
  have e0 := blk_cell hE 0
  have z0 := blk_fz hT 0
  have z1 := blk_fz hT 1
  have z2 := blk_fz hT 2
  have z3 := blk_fz hT 3
  have ze := blk_fz hE 0
  simp at c0 c1 c2 c3 e0
  apply wpS_region
  simp [wpOpsS, go_sem, c0, c1, c2, c3, e0, z0, z1, z2, z3, ze, hTE, Ne.symm hTE, bodyPostS, results, Tryz.results35]

/-- The state of Parse's reading: the request's block, the error's, the reader's, the headers' row. -/
structure PX (w : World) (d M : Nat) (s : ByteArray) (k : Nat) (m t : ByteArray) (mi : Int) (v : Value) (n : Nat) (xs : List Value) (x : World) : Prop where
  r : x.heap[w.heap.size]? = some (.cells #[.string m, .string t, .int .i64 mi, v] 39 (0, 0))
  e : x.heap[w.heap.size + 1]? = some (.cells #[.nilIface] 32 (0, 0))
  rd : Rd x d s k
  own : x.ownsRow M 43 2 v n xs
  bel : Below w.heap.size w x
  o1 : w.heap.size + 1 < d
  o2 : d < M
  o3 : M ≤ x.heap.size
theorem owns_at {w w' : World} {M n : Nat} {v : Value} {xs : List Value} (h : w.ownsRow M 43 2 v n xs) (hb : ∀ k, M ≤ k → k < w.heap.size → w'.heap[k]? = w.heap[k]?) : w'.ownsRow M 43 2 v n xs := by
  obtain ⟨h7, h8⟩ := h
  refine ⟨h7, ?_⟩
  rcases h8 with h8 | ⟨g, cap, cur, rfl, hg, hh, hr2⟩
  · exact .inl h8
  · exact .inr ⟨g, cap, cur, rfl, hg, (hb g hg (heap_lt hh)).trans hh, hr2⟩
theorem frozen_alloc {w : World} {L : Nat} (h : L < w.heap.size) (i : Nat) (o : Obj) : (w.alloc o).frozen? ⟨L, i, none⟩ = w.frozen? ⟨L, i, none⟩ := World.frozen?_of_block (Below.heap_alloc _ _ _ h)
section
variable {w : World} {d M : Nat} {s : ByteArray} {k : Nat} {m t : ByteArray} {mi : Int} {v : Value} {n : Nat} {xs : List Value} {x y : World}
theorem PX.to (h : PX w d M s k m t mi v n xs x) (hb : Below x.heap.size x y) : PX w d M s k m t mi v n xs y :=
  ⟨below_blk hb h.r, below_blk hb h.e, h.rd.but hb, owns_at h.own (fun j _ hj => hb.block j hj), below_to h.bel hb, h.o1, h.o2, Nat.le_trans h.o3 hb.size⟩
theorem PX.at_ {k' : Nat} (h : PX w d M s k m t mi v n xs x) (hb : But d x y) (hr : Rd y d s k') : PX w d M s k' m t mi v n xs y := by
  have o1 := h.o1; have o2 := h.o2; have o3 := h.o3
  exact ⟨(hb.block _ (heap_lt h.r) (by omega)).trans h.r, (hb.block _ (heap_lt h.e) (by omega)).trans h.e, hr, owns_at h.own (fun j hj hl => hb.block j hl (by omega)), h.bel.trans (hb.below (by omega) h.bel.size), o1, o2, Nat.le_trans o3 hb.size⟩
theorem PX.step (h : PX w d M s k m t mi v n xs x) (i : Int) (k' : Nat) (hi : i = (k' : Int)) : PX w d M s k' m t mi v n xs (x.setCell ⟨d, 1, none⟩ (.int .i64 i)) :=
  h.at_ ((But.refl d x).setCell 1 _) (h.rd.to i k' hi)
/-- A store into the request's block. -/
theorem PX.put {m' t' : ByteArray} {mi' : Int} (h : PX w d M s k m t mi v n xs x) (i : Nat) (u : Value) (hr : (#[Value.string m, .string t, .int .i64 mi, v]).setIfInBounds i u = #[.string m', .string t', .int .i64 mi', v]) : PX w d M s k m' t' mi' v n xs (x.setCell ⟨w.heap.size, i, none⟩ u) := by
  have o1 := h.o1; have o2 := h.o2; have o3 := h.o3
  have hne : ∀ j, j ≠ w.heap.size → (x.setCell ⟨w.heap.size, i, none⟩ u).heap[j]? = x.heap[j]? := fun j hj => Below.heap_setCell _ _ _ _ hj
  refine ⟨?_, (hne _ (by omega)).trans h.e, h.rd.at_ (hne _ (by omega)), owns_at h.own (fun j hj _ => hne j (by omega)), h.bel.setCell (Nat.le_refl _) _, o1, o2, by simpa [World.setCell] using o3⟩
  have := blk_set h.r i u
  rw [hr] at this
  exact this
theorem PX.cells (h : PX w d M s k m t mi v n xs x) : x.cell? ⟨d, 0, none⟩ = some (.string s) ∧ x.cell? ⟨d, 1, none⟩ = some (.int .i64 k) ∧ x.frozen? ⟨d, 1, none⟩ = false ∧
    x.cell? ⟨w.heap.size, 0, none⟩ = some (.string m) ∧ x.cell? ⟨w.heap.size, 1, none⟩ = some (.string t) ∧ x.cell? ⟨w.heap.size, 2, none⟩ = some (.int .i64 mi) ∧ x.cell? ⟨w.heap.size, 3, none⟩ = some v ∧
    x.frozen? ⟨w.heap.size, 0, none⟩ = false ∧ x.frozen? ⟨w.heap.size, 1, none⟩ = false ∧ x.frozen? ⟨w.heap.size, 2, none⟩ = false ∧ x.frozen? ⟨w.heap.size, 3, none⟩ = false :=
  ⟨h.rd.c0, h.rd.c1, h.rd.fz 1, (blk_cell h.r 0).trans rfl, (blk_cell h.r 1).trans rfl, (blk_cell h.r 2).trans rfl, (blk_cell h.r 3).trans rfl, blk_fz h.r 0, blk_fz h.r 1, blk_fz h.r 2, blk_fz h.r 3⟩
/-- Behind the append and the store. -/
theorem PX.grow {v' : Value} {n' : Nat} {ys : List Value} {o : Obj} (h : PX w d M s k m t mi v n xs x) (hown : y.ownsRow M 43 2 v' n' ys) (hg : (x.alloc o).grownBy y v.ownBlock) (u : Value) (hu : u = v') : PX w d M s k m t mi v' n' ys (y.setCell ⟨w.heap.size, 3, none⟩ u) := by
  subst hu
  have o1 := h.o1; have o2 := h.o2; have o3 := h.o3
  have e0 : ∀ j, j < x.heap.size → j < M → y.heap[j]? = x.heap[j]? := fun j hj hjM => by
    rw [hg.block j (by simp; omega) (fun e => by have := (h.own.lt _ e.symm).1; omega)]
    exact Below.heap_alloc _ _ _ hj
  have hsz : x.heap.size ≤ y.heap.size := by have := hg.size; simp at this; omega
  have hb : Below w.heap.size x y := ⟨hg.os, hg.tape, hg.output, hsz, fun j hj => e0 j (by omega) (by omega)⟩
  have hne : ∀ j, j ≠ w.heap.size → (y.setCell ⟨w.heap.size, 3, none⟩ u).heap[j]? = y.heap[j]? := fun j hj => Below.heap_setCell _ _ _ _ hj
  refine ⟨?_, (hne _ (by omega)).trans ((e0 _ (by omega) (by omega)).trans h.e), h.rd.at_ ((hne _ (by omega)).trans (e0 _ (by omega) o2)), owns_at hown (fun j hj _ => hne j (by omega)), (h.bel.trans hb).setCell (Nat.le_refl _) _, o1, o2, by simpa [World.setCell] using Nat.le_trans o3 hsz⟩
  have := blk_set ((e0 _ (by omega) (by omega)).trans h.r) 3 u
  simpa using this
/-- The request stored onto itself, and no error. -/
theorem PX.fin (h : PX w d M s k m t mi v n xs x) (W : World) (hW : W = ((((x.setCell ⟨w.heap.size, 0, none⟩ (.string m)).setCell ⟨w.heap.size, 1, none⟩ (.string t)).setCell ⟨w.heap.size, 2, none⟩ (.int .i64 mi)).setCell ⟨w.heap.size, 3, none⟩ v).setCell ⟨w.heap.size + 1, 0, none⟩ .nilIface) :
    (W.cell? ⟨w.heap.size, 0, none⟩ = some (.string m) ∧ W.cell? ⟨w.heap.size, 1, none⟩ = some (.string t) ∧ W.cell? ⟨w.heap.size, 2, none⟩ = some (.int .i64 mi) ∧ W.cell? ⟨w.heap.size, 3, none⟩ = some v ∧ W.cell? ⟨w.heap.size + 1, 0, none⟩ = some .nilIface) ∧ W.ownsRow M 43 2 v n xs ∧ Below w.heap.size w W := by
  subst hW
  have h4 := (((h.put 0 (.string m) rfl).put 1 (.string t) rfl).put 2 (.int .i64 mi) rfl).put (mi' := mi) (m' := m) (t' := t) 3 v rfl
  generalize (((x.setCell ⟨w.heap.size, 0, none⟩ (.string m)).setCell ⟨w.heap.size, 1, none⟩ (.string t)).setCell ⟨w.heap.size, 2, none⟩ (.int .i64 mi)).setCell ⟨w.heap.size, 3, none⟩ v = y at h4 ⊢
  have o1 := h4.o1; have o2 := h4.o2; have o3 := h4.o3
  have hne : ∀ j, j ≠ w.heap.size + 1 → (y.setCell ⟨w.heap.size + 1, 0, none⟩ .nilIface).heap[j]? = y.heap[j]? := fun j hj => Below.heap_setCell _ _ _ _ hj
  have hr := (hne w.heap.size (by omega)).trans h4.r
  have he := blk_set h4.e 0 .nilIface
  exact ⟨⟨(blk_cell hr 0).trans rfl, (blk_cell hr 1).trans rfl, (blk_cell hr 2).trans rfl, (blk_cell hr 3).trans rfl, (blk_cell he 0).trans rfl⟩, owns_at h4.own (fun j hj _ => hne j (by omega)), h4.bel.setCell (by show w.heap.size ≤ w.heap.size + 1; omega) _⟩
theorem PX.same (h : PX w d M s k m t mi v n xs x) (e1 : y.heap = x.heap) (e2 : y.os = x.os) (e3 : y.tape = x.tape) (e4 : y.output = x.output) : PX w d M s k m t mi v n xs y :=
  h.to ⟨e2, e3, e4, by rw [e1]; exact Nat.le_refl _, fun _ _ => by rw [e1]⟩
theorem PX.v_far (h : PX w d M s k m t mi v n xs x) : v.ownBlock ≠ some w.heap.size := fun e => by have := (h.own.lt _ e).1; have := h.o1; have := h.o2; omega
theorem PX.lt (h : PX w d M s k m t mi v n xs x) : w.heap.size < x.heap.size := heap_lt h.r
end

/-- A struct of many cells out of its parts. -/
theorem foldl_cells : ∀ (l : List Value) (st : Nat) (a : Array Value), 2 + st + l.length ≤ a.size →
    ((l.zipIdx st).foldl (fun cs x => cs.setIfInBounds (2 + x.snd) x.fst) a).size = a.size ∧
    ∀ j, ((l.zipIdx st).foldl (fun cs x => cs.setIfInBounds (2 + x.snd) x.fst) a)[j]? = if 2 + st ≤ j ∧ j < 2 + st + l.length then l[j - (2 + st)]? else a[j]?
  | [], st, a, h => ⟨rfl, fun j => by rw [if_neg (by simp only [List.length_nil]; omega)]; rfl⟩
  | v :: l, st, a, h => by
    simp only [List.length_cons] at h
    have ih := foldl_cells l (st + 1) (a.setIfInBounds (2 + st) v) (by simp; omega)
    rw [List.zipIdx_cons, List.foldl_cons]
    refine ⟨by rw [ih.1]; simp, fun j => ?_⟩
    rw [ih.2 j]
    by_cases h1 : j = 2 + st
    · subst h1
      rw [if_neg (by omega), if_pos (by simp only [List.length_cons]; omega), Array.getElem?_setIfInBounds_self_of_lt (by omega)]
      simp
    · rw [Array.getElem?_setIfInBounds_ne (by omega)]
      by_cases h2 : 2 + (st + 1) ≤ j ∧ j < 2 + (st + 1) + l.length
      · rw [if_pos h2, if_pos (by simp only [List.length_cons]; omega)]
        obtain ⟨q, rfl⟩ : ∃ q, j = 2 + (st + 1) + q := ⟨j - (2 + (st + 1)), by omega⟩
        rw [show 2 + (st + 1) + q - (2 + (st + 1)) = q by omega, show 2 + (st + 1) + q - (2 + st) = q + 1 by omega]
        simp
      · rw [if_neg h2, if_neg (by simp only [List.length_cons]; omega)]
theorem zero49_size : Tryz.zeroCells77.size = 258 := by kernel_rfl
theorem zero49_1 : Tryz.zeroCells77[1]? = some (.int .i64 0) := by kernel_rfl
theorem RK_is (s : ByteArray) : (Array.foldl (fun cs x => cs.setIfInBounds (2 + x.snd) x.fst) (Tryz.zeroCells77.setIfInBounds 0 (Value.string s)) KD.zipIdx 0 KD.size).size = 258 ∧ (Array.foldl (fun cs x => cs.setIfInBounds (2 + x.snd) x.fst) (Tryz.zeroCells77.setIfInBounds 0 (Value.string s)) KD.zipIdx 0 KD.size)[0]? = some (.string s) ∧ (Array.foldl (fun cs x => cs.setIfInBounds (2 + x.snd) x.fst) (Tryz.zeroCells77.setIfInBounds 0 (Value.string s)) KD.zipIdx 0 KD.size)[1]? = some (.int .i64 (0 : Nat)) ∧ ∀ c : Nat, c < 256 → (Array.foldl (fun cs x => cs.setIfInBounds (2 + x.snd) x.fst) (Tryz.zeroCells77.setIfInBounds 0 (Value.string s)) KD.zipIdx 0 KD.size)[2 + c]? = some (.int .u8 (kindN c)) := by
  have hz := zero49_size
  have e : (Array.foldl (fun cs x => cs.setIfInBounds (2 + x.snd) x.fst) (Tryz.zeroCells77.setIfInBounds 0 (Value.string s)) KD.zipIdx 0 KD.size) = (KD.toList.zipIdx 0).foldl (fun cs x => cs.setIfInBounds (2 + x.snd) x.fst) (Tryz.zeroCells77.setIfInBounds 0 (.string s)) := by
    rw [show KD.size = KD.zipIdx.size by simp, ← Array.foldl_toList]
    simp
  have hl : KD.toList.length = 256 := by rw [Array.length_toList]; exact KD_size
  have h := foldl_cells KD.toList 0 (Tryz.zeroCells77.setIfInBounds 0 (.string s)) (by rw [hl]; simp [hz])
  rw [← e] at h
  refine ⟨by rw [h.1]; simp [hz], ?_, ?_, fun c hc => ?_⟩
  · rw [h.2 0, if_neg (by omega), Array.getElem?_setIfInBounds_self_of_lt (by omega)]
  · rw [h.2 1, if_neg (by omega), Array.getElem?_setIfInBounds_ne (by omega), zero49_1]; rfl
  · rw [h.2 (2 + c), if_pos (by rw [hl]; omega), show 2 + c - (2 + 0) = c by omega, Array.getElem?_toList]
    exact KD_at c hc
/-- What Parse begins with. -/
theorem PX.new (s : ByteArray) (w w1 : World) (hb : Below ((w.alloc (.cells #[.string ⟨#[]⟩, .string ⟨#[]⟩, .int .i64 0, .slice none 0 0] 39)).alloc (.cells #[.nilIface] 32)).heap.size ((w.alloc (.cells #[.string ⟨#[]⟩, .string ⟨#[]⟩, .int .i64 0, .slice none 0 0] 39)).alloc (.cells #[.nilIface] 32)) w1) :
    PX w w1.heap.size (w1.heap.size + 1) s 0 ⟨#[]⟩ ⟨#[]⟩ 0 (.slice none 0 0) 0 [] (w1.alloc (.cells (Array.foldl (fun cs x => cs.setIfInBounds (2 + x.snd) x.fst) (Tryz.zeroCells77.setIfInBounds 0 (Value.string s)) KD.zipIdx 0 KD.size) 77)) := by
  have s1 : (w.alloc (.cells #[.string ⟨#[]⟩, .string ⟨#[]⟩, .int .i64 0, .slice none 0 0] 39)).heap.size = w.heap.size + 1 := by simp
  have n1 := heap_alloc_new w (.cells #[.string ⟨#[]⟩, .string ⟨#[]⟩, .int .i64 0, .slice none 0 0] 39)
  have b1 := (Below.refl w.heap.size w).alloc (Nat.le_refl _) (.cells #[.string ⟨#[]⟩, .string ⟨#[]⟩, .int .i64 0, .slice none 0 0] 39)
  generalize w.alloc (.cells #[.string ⟨#[]⟩, .string ⟨#[]⟩, .int .i64 0, .slice none 0 0] 39) = x1 at *
  have s2 : (x1.alloc (.cells #[.nilIface] 32)).heap.size = w.heap.size + 2 := by simp [s1]
  have n2 := heap_alloc_new x1 (.cells #[.nilIface] 32)
  have n12 := (Below.heap_alloc x1 (.cells #[.nilIface] 32) _ (by omega)).trans n1
  have b2 := b1.alloc (by omega) (.cells #[.nilIface] 32)
  generalize x1.alloc (.cells #[.nilIface] 32) = x2 at *
  rw [s1] at n2
  have hsz := hb.size
  have hr := below_blk hb n12
  have he := below_blk hb n2
  have hbb := b2.trans (hb.mono (by omega))
  have ha := (Below.refl w1.heap.size w1).alloc (Nat.le_refl _) (.cells (Array.foldl (fun cs x => cs.setIfInBounds (2 + x.snd) x.fst) (Tryz.zeroCells77.setIfInBounds 0 (Value.string s)) KD.zipIdx 0 KD.size) 77)
  obtain ⟨k1, k2, k3, k4⟩ := RK_is s
  exact ⟨below_blk ha hr, below_blk ha he, ⟨_, heap_alloc_new w1 _, k1, k2, k3, k4⟩, ⟨rfl, .inl ⟨rfl, rfl⟩⟩, hbb.trans (ha.mono hbb.size), by omega, by omega, by simp⟩
end Go.Proofs.YtpjjkejppgehaaaGreatDoor
