/- http.Read: what it tells of any bytes. -/
import Derived.Test.YtpjjkejppgehaaaGreatDoorTx
import Derived.Lib.SplitLaws
import Derived.BigGuard
import Derived.BigGuardPart
namespace Go.Proofs.YtpjjkejppgehaaaGreatDoor
set_option linter.unusedSimpArgs false
set_option linter.unusedVariables false
open Go.RowKit Go.Lib

/-- What Text tells of any response. -/
theorem text_any (st : Int) (A : Option Addr) (c : Nat) (l : HL) (b : ByteArray) (w : World) (hI : IsInv w) (hP : Pow10 w) (hA : LiesH w A l) (hx : ∀ j (hj : j < l.length), l[j].1.size ≤ 20000 ∧ l[j].2.size ≤ 20000) (hb : b.size ≤ 20000) :
    Calls Tryz.prog 8 #[.agg #[.int .i64 st, .slice A l.length c, .string b]] w fun e w' => e = .returned (.string (textB st l b)) ∧ Below w.heap.size w w' := by
  unfold textB
  by_cases h : checkP st l b = none
  · rw [if_pos h]; exact text_right st A c l b w hI hP hA hx hb h
  · rw [if_neg h]; exact text_wrong st A c l b w hI hA (fun j hj => by have := hx j hj; omega) (by omega) h
def sepB : ByteArray := ⟨#[13, 10]⟩
def sep2B : ByteArray := ⟨#[13, 10, 13, 10]⟩
def colonB : ByteArray := ⟨#[58, 32]⟩
def verB : ByteArray := ⟨#[72, 84, 84, 80, 47, 49, 46, 49, 32]⟩
/-- The parts ahead of and behind an instance. -/
def cutB (s p : ByteArray) : ByteArray × ByteArray × Bool := (⟨(cut s.data.toList p.data.toList).1.toArray⟩, ⟨(cut s.data.toList p.data.toList).2.1.toArray⟩, (cut s.data.toList p.data.toList).2.2)
def rowsB (s : ByteArray) : List ByteArray := splitB sepB 0 (countB s sepB) s
def trimP (s : ByteArray) : ByteArray := ⟨(trimPrefix s.data.toList verB.data.toList).toArray⟩
def hasP (s : ByteArray) : Bool := hasPrefix s.data.toList verB.data.toList
def linesB : List ByteArray → Option HL
  | [] => some []
  | x :: r => if (cutB x colonB).2.2 then (linesB r).map (((cutB x colonB).1, (cutB x colonB).2.1) :: ·) else none
/-- What Read tells. -/
def readP (s : ByteArray) : Option (Int × HL × ByteArray) :=
  if (cutB s sep2B).2.2 = true ∧ hasP ((rowsB (cutB s sep2B).1).headD ⟨#[]⟩) = true ∧ 2 ≤ (rowsB (cutB s sep2B).1).length ∧ 3 ≤ (trimP ((rowsB (cutB s sep2B).1).headD ⟨#[]⟩)).size then
    match atoi ((trimP ((rowsB (cutB s sep2B).1).headD ⟨#[]⟩)).extract 0 3).data.toList with
    | none => none
    | some n =>
      match linesB ((rowsB (cutB s sep2B).1).drop 1).dropLast with
      | none => none
      | some h => if textB n h (cutB s sep2B).2.1 = s then some (n, h, (cutB s sep2B).2.1) else none
  else none
/-- What the reading wants of the world. -/
structure RInv (w : World) : Prop where
  is : IsInv w
  pow : Pow10 w
  ml : ∃ m, w.cell? ⟨19, 0, none⟩ = some (.int .i64 m)
  sy : ∃ te pe, w.cell? ⟨20, 0, none⟩ = some (.iface te pe)
theorem RInv.below {w w' : World} (h : RInv w) (hb : Below w.heap.size w w') : RInv w' where
  is := h.is.below hb
  pow := h.pow.below hb
  ml := by obtain ⟨m, hm⟩ := h.ml; exact ⟨m, cell_in hb hm⟩
  sy := by obtain ⟨a, b, hm⟩ := h.sy; exact ⟨a, b, cell_in hb hm⟩
/-- What is told of a reading. -/
def ReadIs (w : World) (v : Value) : Option (Int × HL × ByteArray) → Prop
  | none => ∃ f, v = .tuple #[.agg #[.int .i64 0, .slice none 0 0, .string ⟨#[]⟩], f] ∧ FltIs w f (some (0, 5))
  | some (n, l, b) => ∃ A c, v = .tuple #[.agg #[.int .i64 n, .slice A l.length c, .string b], .nilIface] ∧ LiesH w A l
theorem cut_call (s p : ByteArray) (w : World) (hs : s.size ≤ 100000) (hm : ∃ m, w.cell? ⟨19, 0, none⟩ = some (.int .i64 m)) :
    Calls Tryz.prog 29 #[.string s, .string p] w fun e w' => e = .returned (.tuple #[.string (cutB s p).1, .string (cutB s p).2.1, .bool (cutB s p).2.2]) ∧ Below w.heap.size w w' := by
  obtain ⟨m, hm⟩ := hm
  refine (Tryz.strings_Cut s p m w (by omega) hm).mono ?_
  rintro e w' ⟨rfl, n, rfl⟩
  exact ⟨rfl, Below.drewN (Below.refl _ _) n⟩
theorem split_call (s : ByteArray) (w : World) (hs : s.size ≤ 100000) (hm : ∃ m, w.cell? ⟨19, 0, none⟩ = some (.int .i64 m)) :
    Calls Tryz.prog 30 #[.string s, .string sepB] w fun e w' => e = .returned (.slice (some ⟨w.heap.size, 0, none⟩) (rowsB s).length (rowsB s).length) ∧ (∀ j (hj : j < (rowsB s).length), w'.cell? ⟨w.heap.size, j, none⟩ = some (.string (rowsB s)[j])) ∧ w'.heap.size = w.heap.size + 1 ∧ Below w.heap.size w w' := by
  obtain ⟨m, hm⟩ := hm
  have hl : (rowsB s).length = countB s sepB + 1 := splitB_all sepB (by decide) 0 _ s rfl
  refine (Tryz.strings_Split s sepB m w (by omega) hm (by decide)).mono ?_
  rintro e w' ⟨rfl, rfl⟩
  refine ⟨by rw [hl], fun j hj => ?_, by simp, (Below.refl _ _).alloc (Nat.le_refl _) _⟩
  rw [World.cell?_alloc_new]
  show (List.toArray ((rowsB s).map Value.string))[j]? = _
  simp [List.getElem?_eq_getElem hj]
theorem atoi_some (s : ByteArray) (n : Int) (hl : s.size ≤ 18) (h : Lib.atoi s.data.toList = some n) (w : World) :
    Calls Tryz.prog 32 #[.string s] w fun e w' => e = .returned (.tuple #[.int .i64 n, .nilIface]) ∧ Below w.heap.size w w' := by
  refine (Tryz.strconv_Atoi s n hl h w).mono ?_
  rintro e w' ⟨rfl, t, rfl⟩
  exact ⟨rfl, bytes_below _ _⟩
theorem atoi_none (s : ByteArray) (hl : s.size ≤ 18) (h : Lib.atoi s.data.toList = none) (w : World) (hv : ∃ te pe, w.cell? ⟨20, 0, none⟩ = some (.iface te pe)) :
    Calls Tryz.prog 32 #[.string s] w fun e w' => (∃ N, e = .returned (.tuple #[.int .i64 0, .iface 135 (.pointer (some ⟨N, 0, none⟩))])) ∧ Below w.heap.size w w' := by
  obtain ⟨te, pe, hv⟩ := hv
  refine (Tryz.strconv_Atoi_err s hl h _ w hv (Or.inr ⟨te, pe, rfl⟩)).mono ?_
  rintro e w' ⟨N, rfl, -, -, hb⟩
  exact ⟨⟨N, rfl⟩, hb⟩
theorem prefix_call (s : ByteArray) (w : World) : Calls Tryz.prog 31 #[.string s, .string verB] w fun e w' => e = .returned (.tuple #[.string (trimP s), .bool (hasP s)]) ∧ w' = w := Tryz.strings_CutPrefix s verB w
/-- A wrong text's answer. -/
def BadIs (w : World) (e : Ending) (w' : World) : Prop := ∃ f, e = .returned (.tuple #[.agg #[.int .i64 0, .slice none 0 0, .string ⟨#[]⟩], f]) ∧ FltIs w' f (some (0, 5)) ∧ Below w.heap.size w w'
/-- The first part of the walk: what the calls ahead of the first test tell. -/
structure Front (s : ByteArray) (hd bd : ByteArray) (ok : Bool) (n : Nat) (x0 fs : ByteArray) (ok2 : Bool) (L : List ByteArray) : Prop where
  c1 : ∀ x, RInv x → Calls Tryz.prog 29 #[.string s, .string ⟨#[13, 10, 13, 10]⟩] x fun e w' => e = .returned (.tuple #[.string hd, .string bd, .bool ok]) ∧ Below x.heap.size x w'
  c2 : ∀ x, RInv x → Calls Tryz.prog 30 #[.string hd, .string ⟨#[13, 10]⟩] x fun e w' => e = .returned (.slice (some ⟨x.heap.size, 0, none⟩) n n) ∧ (∀ j (hj : j < L.length), w'.cell? ⟨x.heap.size, j, none⟩ = some (.string L[j])) ∧ w'.heap.size = x.heap.size + 1 ∧ Below x.heap.size x w'
  c3 : ∀ x, Calls Tryz.prog 31 #[.string x0, .string ⟨#[72, 84, 84, 80, 47, 49, 46, 49, 32]⟩] x fun e w' => e = .returned (.tuple #[.string fs, .bool ok2]) ∧ w' = x
  hn : n = L.length
  h0 : L[0]? = some x0
theorem FltIs.but {w w' : World} {b g : Nat} {a : Int} {c : Nat} (h : FltIs w (.iface 54 (.pointer (some ⟨g, 0, none⟩))) (some (a, c))) (hb : But b w w') (hg : g ≠ b) (hc : gidx c ≠ b) : FltIs w' (.iface 54 (.pointer (some ⟨g, 0, none⟩))) (some (a, c)) := by
  obtain ⟨h1, h2, g', s, he, h3, h4⟩ := h
  injection he with _ he
  injection he with he
  injection he with he
  injection he with he _ _
  subst he
  exact ⟨h1, h2, g, s, rfl, (hb.block g (heap_lt h3) hg).trans h3, hb.cell (by exact hc) h4⟩
theorem bad_end {w x y : World} (hw : 2 < w.heap.size) (hb1 : Below w.heap.size w x) (hflt : FltIs x (.iface 54 (.pointer (some ⟨w.heap.size + 1, 0, none⟩))) (some (0, 5))) (hb : But w.heap.size x y) :
    FltIs y (.iface 54 (.pointer (some ⟨w.heap.size + 1, 0, none⟩))) (some (0, 5)) ∧ Below w.heap.size w y :=
  ⟨hflt.but hb (by omega) (by show 2 ≠ w.heap.size; omega), hb1.trans (hb.below (Nat.le_refl _) hb1.size)⟩
theorem flt5 (x : World) (h : RInv x) : ∃ er, x.cell? ⟨2, 0, none⟩ = some (.iface 167 (.pointer (some er))) ∧ ∀ y, Below (x.heap.size + 1) (x.alloc (.cells #[.int .i64 0, .iface 167 (.pointer (some er))] 58)) y → FltIs y (.iface 54 (.pointer (some ⟨x.heap.size, 0, none⟩))) (some (0, 5)) := by
  obtain ⟨er, her, -⟩ := h.is.sent 5 (by omega) (by omega)
  refine ⟨er, her, fun y hy => ?_⟩
  have := flt_new x 0 5 (by omega) (by omega) _ _ her
  exact this.below (by simpa using hy)
theorem cut_sizes (s p : ByteArray) : (cutB s p).1.size ≤ s.size ∧ (cutB s p).2.1.size ≤ s.size := by
  have e := szL s
  unfold cutB cut
  dsimp only
  split
  · simp only [szM]; constructor
    · rw [List.length_take]; omega
    · rw [List.length_drop]; omega
  · simp only [szM]; exact ⟨by omega, by simp⟩
theorem first_cell {w : World} {g : Nat} {L : List ByteArray} {x0 : ByteArray} (h : ∀ j (hj : j < L.length), w.cell? ⟨g, j, none⟩ = some (.string L[j])) (h0 : L[0]? = some x0) : w.cell? ⟨g, 0, none⟩ = some (.string x0) := by
  obtain ⟨hl, rfl⟩ := List.getElem?_eq_some_iff.1 h0
  exact h 0 hl
theorem own_below {M : Nat} {v : Value} {n : Nat} {xs : List Value} {w w' : World} (h : w.ownsRow M 43 2 v n xs) (hb : Below w.heap.size w w') : w'.ownsRow M 43 2 v n xs := by
  refine ⟨h.1, ?_⟩
  rcases h.2 with h0 | ⟨g, cap, cur, rfl, hg, hh, hr⟩
  · exact Or.inl h0
  · exact Or.inr ⟨g, cap, cur, rfl, hg, below_blk hb hh, hr⟩
def hcells (l : HL) : List Value := l.flatMap fun x => [.string x.1, .string x.2]
theorem hcells_snoc (l : HL) (x : ByteArray × ByteArray) : hcells (l ++ [x]) = hcells l ++ [.string x.1, .string x.2] := by simp [hcells]
theorem hcells_length : ∀ l : HL, (hcells l).length = l.length * 2
  | [] => rfl
  | x :: r => by have := hcells_length r; simp [hcells] at this ⊢; omega
theorem hcells_at : ∀ (l : HL) (j : Nat) (hj : j < l.length), (hcells l)[j * 2]? = some (.string l[j].1) ∧ (hcells l)[j * 2 + 1]? = some (.string l[j].2)
  | x :: r, 0, _ => ⟨rfl, rfl⟩
  | x :: r, j + 1, hj => by
    have := hcells_at r j (by simpa using hj)
    have e : hcells (x :: r) = .string x.1 :: .string x.2 :: hcells r := rfl
    rw [e, show (j + 1) * 2 = j * 2 + 1 + 1 by omega]
    simpa using this
theorem linesB_cons (x : ByteArray) (r : List ByteArray) (h : HL) (hc : (cutB x colonB).2.2 = true) : (linesB (x :: r)).map (h ++ ·) = (linesB r).map ((h ++ [((cutB x colonB).1, (cutB x colonB).2.1)]) ++ ·) := by
  rw [linesB, if_pos hc]
  cases linesB r with
  | none => rfl
  | some l => simp
def GoIs (s : ByteArray) (n : Int) (bd : ByteArray) (o : Option HL) (w : World) (e : Ending) (w' : World) : Prop :=
  match o with
  | none => BadIs w e w'
  | some h => if textB n h bd = s then ∃ A c, e = .returned (.tuple #[.agg #[.int .i64 n, .slice A h.length c, .string bd], .nilIface]) ∧ LiesH w' A h ∧ Below w.heap.size w w' else BadIs w e w'
set_option maxRecDepth 20000 in
set_option maxHeartbeats 8000000 in
theorem read_bad1 (s hd bd : ByteArray) (ok : Bool) (n : Nat) (x0 fs : ByteArray) (ok2 : Bool) (L : List ByteArray) (w : World) (hI : RInv w) (hF : Front s hd bd ok n x0 fs ok2 L) (hok : ok = false) :
    Calls Tryz.prog 11 #[.string s] w (BadIs w) := by
  have hb0 : Below w.heap.size w (w.alloc (.cells #[.int .i64 0, .slice none 0 0, .string ⟨#[]⟩] 24)) := (Below.refl _ _).alloc (Nat.le_refl _) _
  obtain ⟨er, her, hflt⟩ := flt5 _ (hI.below hb0)
  have hb1 : Below w.heap.size w ((w.alloc (.cells #[.int .i64 0, .slice none 0 0, .string ⟨#[]⟩] 24)).alloc (.cells #[.int .i64 0, .iface 167 (.pointer (some er))] 58)) := hb0.alloc (by simp) _
  have hR := hI.below hb1
  have HI := Lib.hid hI
  have C1 := Lib.hid (hF.c1 _ hR)
  have C2 := Lib.hid hF.c2
  have C3 := Lib.hid hF.c3
  have hn0 : 0 < n := by have h := hF.h0; rw [hF.hn]; rcases Nat.eq_zero_or_pos L.length with e | e; · rw [List.getElem?_eq_none (by omega)] at h; cases h
                         · exact e
  have HNL := Lib.hid hF.hn
  have hnz : (0 : Int) < (n : Int) := by omega
  have hfl := hflt _ (Below.refl _ _)
  rw [World.size_alloc] at hfl
  have HFL := Lib.hid hfl
  have HW := Lib.hid (World.block_lt_of_cell? w ⟨2, 0, none⟩ (hI.is.sent 5 (by omega) (by omega)).choose_spec.1)
  have HB1 := Lib.hid hb1
  have HR := Lib.hid hR
  have H0 := Lib.hid hF.h0
  have hbk : ((w.alloc (.cells #[.int .i64 0, .slice none 0 0, .string ⟨#[]⟩] 24)).alloc (.cells #[.int .i64 0, .iface 167 (.pointer (some er))] 58)).heap[w.heap.size]? = some (.cells #[.int .i64 0, .slice none 0 0, .string ⟨#[]⟩] 24 (0, 0)) := below_blk ((Below.refl _ _).alloc (Nat.le_refl _) _) (heap_alloc_new w _)
  have HBK := Lib.hid hbk
  clear hb0 hb1 hI hF hflt hfl hR hbk
  subst hok
  go_enter Tryz.func11, Tryz.ntmps11
  go_wp2_with (first
    | (go_at_call 25; (with_reducible refine Calls.mono (fault_any _ _ _ _) ?_); rintro e w5 ⟨rfl, rfl⟩)
    | (go_at_call 29; (with_reducible refine Calls.mono C1.out ?_); rintro e w5 ⟨rfl, hb⟩; have HB2 := Lib.hid hb; have HR2 := Lib.hid (HR.out.below hb); clear hb)
    | (go_at_call 30; (with_reducible refine Calls.mono (C2.out _ HR2.out) ?_); rintro e w6 ⟨rfl, hcs, hsz, hb⟩; have HB3 := Lib.hid hb; have hbk := below_blk hb (below_blk HB2.out HBK.out); have r0 := (blk_cell hbk 0).trans rfl; have r1 := (blk_cell hbk 1).trans rfl; have r2 := (blk_cell hbk 2).trans rfl; have rf0 := blk_fz hbk 0; have rf1 := blk_fz hbk 1; have rf2 := blk_fz hbk 2; have HBK3 := Lib.hid hbk; clear hbk; have HR3 := Lib.hid (HR2.out.below hb); have HS3 := Lib.hid hsz; have HCS := Lib.hid hcs; have k0 := first_cell HCS.out H0.out; clear hb hcs hsz)
    | (go_at_call 31; (with_reducible refine Calls.mono (C3.out _) ?_); rintro e w7 ⟨rfl, rfl⟩))
  have hbut := ((((But.of_below (HB2.out.trans (HB3.out.mono HB2.out.size)) (Nat.le_refl _)).setCell 0 (.int .i64 0)).setCell 1 (.slice none 0 0)).setCell 2 (.string ⟨#[]⟩) : But w.heap.size _ _)
  have HE := Lib.hid (bad_end HW.out HB1.out HFL.out hbut)
  have hk := blk_set (blk_set (blk_set HBK3.out 0 (.int .i64 0)) 1 (.slice none 0 0)) 2 (.string ⟨#[]⟩)
  have f0 := (blk_cell hk 0).trans rfl
  have f1 := (blk_cell hk 1).trans rfl
  have f2 := (blk_cell hk 2).trans rfl
  clear hk hbut r0 r1 r2 rf0 rf1 rf2
  generalize ((World.setCell _ ⟨w.heap.size, 0, none⟩ _).setCell ⟨w.heap.size, 1, none⟩ _).setCell ⟨w.heap.size, 2, none⟩ _ = wf at *
  exact bodyPost_ret (v := .tuple #[.agg #[.int .i64 0, .slice none 0 0, .string ⟨#[]⟩], .iface 54 (.pointer (some ⟨w.heap.size + 1, 0, none⟩))]) (by simp [results, Tryz.results11, go_sem, f0, f1, f2]) rfl ⟨_, rfl, HE.out.1, HE.out.2⟩
set_option maxRecDepth 20000 in
set_option maxHeartbeats 8000000 in
theorem read_bad2 (s hd bd : ByteArray) (ok : Bool) (n : Nat) (x0 fs : ByteArray) (ok2 : Bool) (L : List ByteArray) (w : World) (hI : RInv w) (hF : Front s hd bd ok n x0 fs ok2 L) (hok : ok = true) (hok2 : ok2 = false) :
    Calls Tryz.prog 11 #[.string s] w (BadIs w) := by
  have hb0 : Below w.heap.size w (w.alloc (.cells #[.int .i64 0, .slice none 0 0, .string ⟨#[]⟩] 24)) := (Below.refl _ _).alloc (Nat.le_refl _) _
  obtain ⟨er, her, hflt⟩ := flt5 _ (hI.below hb0)
  have hb1 : Below w.heap.size w ((w.alloc (.cells #[.int .i64 0, .slice none 0 0, .string ⟨#[]⟩] 24)).alloc (.cells #[.int .i64 0, .iface 167 (.pointer (some er))] 58)) := hb0.alloc (by simp) _
  have hR := hI.below hb1
  have HI := Lib.hid hI
  have C1 := Lib.hid (hF.c1 _ hR)
  have C2 := Lib.hid hF.c2
  have C3 := Lib.hid hF.c3
  have hn0 : 0 < n := by have h := hF.h0; rw [hF.hn]; rcases Nat.eq_zero_or_pos L.length with e | e; · rw [List.getElem?_eq_none (by omega)] at h; cases h
                         · exact e
  have HNL := Lib.hid hF.hn
  have hnz : (0 : Int) < (n : Int) := by omega
  have hfl := hflt _ (Below.refl _ _)
  rw [World.size_alloc] at hfl
  have HFL := Lib.hid hfl
  have HW := Lib.hid (World.block_lt_of_cell? w ⟨2, 0, none⟩ (hI.is.sent 5 (by omega) (by omega)).choose_spec.1)
  have HB1 := Lib.hid hb1
  have HR := Lib.hid hR
  have H0 := Lib.hid hF.h0
  have hbk : ((w.alloc (.cells #[.int .i64 0, .slice none 0 0, .string ⟨#[]⟩] 24)).alloc (.cells #[.int .i64 0, .iface 167 (.pointer (some er))] 58)).heap[w.heap.size]? = some (.cells #[.int .i64 0, .slice none 0 0, .string ⟨#[]⟩] 24 (0, 0)) := below_blk ((Below.refl _ _).alloc (Nat.le_refl _) _) (heap_alloc_new w _)
  have HBK := Lib.hid hbk
  clear hb0 hb1 hI hF hflt hfl hR hbk
  subst hok hok2
  go_enter Tryz.func11, Tryz.ntmps11
  go_wp2_with (first
    | (go_at_call 25; (with_reducible refine Calls.mono (fault_any _ _ _ _) ?_); rintro e w5 ⟨rfl, rfl⟩)
    | (go_at_call 29; (with_reducible refine Calls.mono C1.out ?_); rintro e w5 ⟨rfl, hb⟩; have HB2 := Lib.hid hb; have HR2 := Lib.hid (HR.out.below hb); clear hb)
    | (go_at_call 30; (with_reducible refine Calls.mono (C2.out _ HR2.out) ?_); rintro e w6 ⟨rfl, hcs, hsz, hb⟩; have HB3 := Lib.hid hb; have hbk := below_blk hb (below_blk HB2.out HBK.out); have r0 := (blk_cell hbk 0).trans rfl; have r1 := (blk_cell hbk 1).trans rfl; have r2 := (blk_cell hbk 2).trans rfl; have rf0 := blk_fz hbk 0; have rf1 := blk_fz hbk 1; have rf2 := blk_fz hbk 2; have HBK3 := Lib.hid hbk; clear hbk; have HR3 := Lib.hid (HR2.out.below hb); have HS3 := Lib.hid hsz; have HCS := Lib.hid hcs; have k0 := first_cell HCS.out H0.out; clear hb hcs hsz)
    | (go_at_call 31; (with_reducible refine Calls.mono (C3.out _) ?_); rintro e w7 ⟨rfl, rfl⟩))
  have hbut := ((((But.of_below (HB2.out.trans (HB3.out.mono HB2.out.size)) (Nat.le_refl _)).setCell 0 (.int .i64 0)).setCell 1 (.slice none 0 0)).setCell 2 (.string ⟨#[]⟩) : But w.heap.size _ _)
  have HE := Lib.hid (bad_end HW.out HB1.out HFL.out hbut)
  have hk := blk_set (blk_set (blk_set HBK3.out 0 (.int .i64 0)) 1 (.slice none 0 0)) 2 (.string ⟨#[]⟩)
  have f0 := (blk_cell hk 0).trans rfl
  have f1 := (blk_cell hk 1).trans rfl
  have f2 := (blk_cell hk 2).trans rfl
  clear hk hbut r0 r1 r2 rf0 rf1 rf2
  generalize ((World.setCell _ ⟨w.heap.size, 0, none⟩ _).setCell ⟨w.heap.size, 1, none⟩ _).setCell ⟨w.heap.size, 2, none⟩ _ = wf at *
  exact bodyPost_ret (v := .tuple #[.agg #[.int .i64 0, .slice none 0 0, .string ⟨#[]⟩], .iface 54 (.pointer (some ⟨w.heap.size + 1, 0, none⟩))]) (by simp [results, Tryz.results11, go_sem, f0, f1, f2]) rfl ⟨_, rfl, HE.out.1, HE.out.2⟩
set_option maxRecDepth 20000 in
set_option maxHeartbeats 8000000 in
theorem read_bad3 (s hd bd : ByteArray) (ok : Bool) (n : Nat) (x0 fs : ByteArray) (ok2 : Bool) (L : List ByteArray) (w : World) (hI : RInv w) (hF : Front s hd bd ok n x0 fs ok2 L) (hok : ok = true) (hok2 : ok2 = true) (h2 : n < 2) :
    Calls Tryz.prog 11 #[.string s] w (BadIs w) := by
  have hb0 : Below w.heap.size w (w.alloc (.cells #[.int .i64 0, .slice none 0 0, .string ⟨#[]⟩] 24)) := (Below.refl _ _).alloc (Nat.le_refl _) _
  obtain ⟨er, her, hflt⟩ := flt5 _ (hI.below hb0)
  have hb1 : Below w.heap.size w ((w.alloc (.cells #[.int .i64 0, .slice none 0 0, .string ⟨#[]⟩] 24)).alloc (.cells #[.int .i64 0, .iface 167 (.pointer (some er))] 58)) := hb0.alloc (by simp) _
  have hR := hI.below hb1
  have HI := Lib.hid hI
  have C1 := Lib.hid (hF.c1 _ hR)
  have C2 := Lib.hid hF.c2
  have C3 := Lib.hid hF.c3
  have hn0 : 0 < n := by have h := hF.h0; rw [hF.hn]; rcases Nat.eq_zero_or_pos L.length with e | e; · rw [List.getElem?_eq_none (by omega)] at h; cases h
                         · exact e
  have HNL := Lib.hid hF.hn
  have hnz : (0 : Int) < (n : Int) := by omega
  have hfl := hflt _ (Below.refl _ _)
  rw [World.size_alloc] at hfl
  have HFL := Lib.hid hfl
  have HW := Lib.hid (World.block_lt_of_cell? w ⟨2, 0, none⟩ (hI.is.sent 5 (by omega) (by omega)).choose_spec.1)
  have HB1 := Lib.hid hb1
  have HR := Lib.hid hR
  have H0 := Lib.hid hF.h0
  have hbk : ((w.alloc (.cells #[.int .i64 0, .slice none 0 0, .string ⟨#[]⟩] 24)).alloc (.cells #[.int .i64 0, .iface 167 (.pointer (some er))] 58)).heap[w.heap.size]? = some (.cells #[.int .i64 0, .slice none 0 0, .string ⟨#[]⟩] 24 (0, 0)) := below_blk ((Below.refl _ _).alloc (Nat.le_refl _) _) (heap_alloc_new w _)
  have HBK := Lib.hid hbk
  clear hb0 hb1 hI hF hflt hfl hR hbk
  subst hok hok2
  have h2' : (n : Int) < 2 := by omega
  clear h2
  go_enter Tryz.func11, Tryz.ntmps11
  go_wp2_with (first
    | (go_at_call 25; (with_reducible refine Calls.mono (fault_any _ _ _ _) ?_); rintro e w5 ⟨rfl, rfl⟩)
    | (go_at_call 29; (with_reducible refine Calls.mono C1.out ?_); rintro e w5 ⟨rfl, hb⟩; have HB2 := Lib.hid hb; have HR2 := Lib.hid (HR.out.below hb); clear hb)
    | (go_at_call 30; (with_reducible refine Calls.mono (C2.out _ HR2.out) ?_); rintro e w6 ⟨rfl, hcs, hsz, hb⟩; have HB3 := Lib.hid hb; have hbk := below_blk hb (below_blk HB2.out HBK.out); have r0 := (blk_cell hbk 0).trans rfl; have r1 := (blk_cell hbk 1).trans rfl; have r2 := (blk_cell hbk 2).trans rfl; have rf0 := blk_fz hbk 0; have rf1 := blk_fz hbk 1; have rf2 := blk_fz hbk 2; have HBK3 := Lib.hid hbk; clear hbk; have HR3 := Lib.hid (HR2.out.below hb); have HS3 := Lib.hid hsz; have HCS := Lib.hid hcs; have k0 := first_cell HCS.out H0.out; clear hb hcs hsz)
    | (go_at_call 31; (with_reducible refine Calls.mono (C3.out _) ?_); rintro e w7 ⟨rfl, rfl⟩))
  have hbut := ((((But.of_below (HB2.out.trans (HB3.out.mono HB2.out.size)) (Nat.le_refl _)).setCell 0 (.int .i64 0)).setCell 1 (.slice none 0 0)).setCell 2 (.string ⟨#[]⟩) : But w.heap.size _ _)
  have HE := Lib.hid (bad_end HW.out HB1.out HFL.out hbut)
  have hk := blk_set (blk_set (blk_set HBK3.out 0 (.int .i64 0)) 1 (.slice none 0 0)) 2 (.string ⟨#[]⟩)
  have f0 := (blk_cell hk 0).trans rfl
  have f1 := (blk_cell hk 1).trans rfl
  have f2 := (blk_cell hk 2).trans rfl
  clear hk hbut r0 r1 r2 rf0 rf1 rf2
  generalize ((World.setCell _ ⟨w.heap.size, 0, none⟩ _).setCell ⟨w.heap.size, 1, none⟩ _).setCell ⟨w.heap.size, 2, none⟩ _ = wf at *
  exact bodyPost_ret (v := .tuple #[.agg #[.int .i64 0, .slice none 0 0, .string ⟨#[]⟩], .iface 54 (.pointer (some ⟨w.heap.size + 1, 0, none⟩))]) (by simp [results, Tryz.results11, go_sem, f0, f1, f2]) rfl ⟨_, rfl, HE.out.1, HE.out.2⟩
set_option maxRecDepth 20000 in
set_option maxHeartbeats 8000000 in
theorem read_bad4 (s hd bd : ByteArray) (ok : Bool) (n : Nat) (x0 fs : ByteArray) (ok2 : Bool) (L : List ByteArray) (w : World) (hI : RInv w) (hF : Front s hd bd ok n x0 fs ok2 L) (hok : ok = true) (hok2 : ok2 = true) (h2 : 2 ≤ n) (h3 : fs.size < 3) :
    Calls Tryz.prog 11 #[.string s] w (BadIs w) := by
  have hb0 : Below w.heap.size w (w.alloc (.cells #[.int .i64 0, .slice none 0 0, .string ⟨#[]⟩] 24)) := (Below.refl _ _).alloc (Nat.le_refl _) _
  obtain ⟨er, her, hflt⟩ := flt5 _ (hI.below hb0)
  have hb1 : Below w.heap.size w ((w.alloc (.cells #[.int .i64 0, .slice none 0 0, .string ⟨#[]⟩] 24)).alloc (.cells #[.int .i64 0, .iface 167 (.pointer (some er))] 58)) := hb0.alloc (by simp) _
  have hR := hI.below hb1
  have HI := Lib.hid hI
  have C1 := Lib.hid (hF.c1 _ hR)
  have C2 := Lib.hid hF.c2
  have C3 := Lib.hid hF.c3
  have hn0 : 0 < n := by have h := hF.h0; rw [hF.hn]; rcases Nat.eq_zero_or_pos L.length with e | e; · rw [List.getElem?_eq_none (by omega)] at h; cases h
                         · exact e
  have HNL := Lib.hid hF.hn
  have hnz : (0 : Int) < (n : Int) := by omega
  have hfl := hflt _ (Below.refl _ _)
  rw [World.size_alloc] at hfl
  have HFL := Lib.hid hfl
  have HW := Lib.hid (World.block_lt_of_cell? w ⟨2, 0, none⟩ (hI.is.sent 5 (by omega) (by omega)).choose_spec.1)
  have HB1 := Lib.hid hb1
  have HR := Lib.hid hR
  have H0 := Lib.hid hF.h0
  have hbk : ((w.alloc (.cells #[.int .i64 0, .slice none 0 0, .string ⟨#[]⟩] 24)).alloc (.cells #[.int .i64 0, .iface 167 (.pointer (some er))] 58)).heap[w.heap.size]? = some (.cells #[.int .i64 0, .slice none 0 0, .string ⟨#[]⟩] 24 (0, 0)) := below_blk ((Below.refl _ _).alloc (Nat.le_refl _) _) (heap_alloc_new w _)
  have HBK := Lib.hid hbk
  clear hb0 hb1 hI hF hflt hfl hR hbk
  subst hok hok2
  have h2' : ¬ (n : Int) < 2 := by omega
  have h3' : (fs.size : Int) < 3 := by omega
  clear h2 h3
  go_enter Tryz.func11, Tryz.ntmps11
  go_wp2_with (first
    | (go_at_call 25; (with_reducible refine Calls.mono (fault_any _ _ _ _) ?_); rintro e w5 ⟨rfl, rfl⟩)
    | (go_at_call 29; (with_reducible refine Calls.mono C1.out ?_); rintro e w5 ⟨rfl, hb⟩; have HB2 := Lib.hid hb; have HR2 := Lib.hid (HR.out.below hb); clear hb)
    | (go_at_call 30; (with_reducible refine Calls.mono (C2.out _ HR2.out) ?_); rintro e w6 ⟨rfl, hcs, hsz, hb⟩; have HB3 := Lib.hid hb; have hbk := below_blk hb (below_blk HB2.out HBK.out); have r0 := (blk_cell hbk 0).trans rfl; have r1 := (blk_cell hbk 1).trans rfl; have r2 := (blk_cell hbk 2).trans rfl; have rf0 := blk_fz hbk 0; have rf1 := blk_fz hbk 1; have rf2 := blk_fz hbk 2; have HBK3 := Lib.hid hbk; clear hbk; have HR3 := Lib.hid (HR2.out.below hb); have HS3 := Lib.hid hsz; have HCS := Lib.hid hcs; have k0 := first_cell HCS.out H0.out; clear hb hcs hsz)
    | (go_at_call 31; (with_reducible refine Calls.mono (C3.out _) ?_); rintro e w7 ⟨rfl, rfl⟩))
  have hbut := ((((But.of_below (HB2.out.trans (HB3.out.mono HB2.out.size)) (Nat.le_refl _)).setCell 0 (.int .i64 0)).setCell 1 (.slice none 0 0)).setCell 2 (.string ⟨#[]⟩) : But w.heap.size _ _)
  have HE := Lib.hid (bad_end HW.out HB1.out HFL.out hbut)
  have hk := blk_set (blk_set (blk_set HBK3.out 0 (.int .i64 0)) 1 (.slice none 0 0)) 2 (.string ⟨#[]⟩)
  have f0 := (blk_cell hk 0).trans rfl
  have f1 := (blk_cell hk 1).trans rfl
  have f2 := (blk_cell hk 2).trans rfl
  clear hk hbut r0 r1 r2 rf0 rf1 rf2
  generalize ((World.setCell _ ⟨w.heap.size, 0, none⟩ _).setCell ⟨w.heap.size, 1, none⟩ _).setCell ⟨w.heap.size, 2, none⟩ _ = wf at *
  exact bodyPost_ret (v := .tuple #[.agg #[.int .i64 0, .slice none 0 0, .string ⟨#[]⟩], .iface 54 (.pointer (some ⟨w.heap.size + 1, 0, none⟩))]) (by simp [results, Tryz.results11, go_sem, f0, f1, f2]) rfl ⟨_, rfl, HE.out.1, HE.out.2⟩
set_option maxRecDepth 20000 in
set_option maxHeartbeats 8000000 in
theorem read_bad5 (s hd bd : ByteArray) (ok : Bool) (n : Nat) (x0 fs : ByteArray) (ok2 : Bool) (L : List ByteArray) (w : World) (hI : RInv w) (hF : Front s hd bd ok n x0 fs ok2 L) (hok : ok = true) (hok2 : ok2 = true) (h2 : 2 ≤ n) (h3 : 3 ≤ fs.size) (h4 : ∀ x, RInv x → Calls Tryz.prog 32 #[.string (fs.extract 0 3)] x fun e w' => (∃ N, e = .returned (.tuple #[.int .i64 0, .iface 135 (.pointer (some ⟨N, 0, none⟩))])) ∧ Below x.heap.size x w') :
    Calls Tryz.prog 11 #[.string s] w (BadIs w) := by
  have hb0 : Below w.heap.size w (w.alloc (.cells #[.int .i64 0, .slice none 0 0, .string ⟨#[]⟩] 24)) := (Below.refl _ _).alloc (Nat.le_refl _) _
  obtain ⟨er, her, hflt⟩ := flt5 _ (hI.below hb0)
  have hb1 : Below w.heap.size w ((w.alloc (.cells #[.int .i64 0, .slice none 0 0, .string ⟨#[]⟩] 24)).alloc (.cells #[.int .i64 0, .iface 167 (.pointer (some er))] 58)) := hb0.alloc (by simp) _
  have hR := hI.below hb1
  have HI := Lib.hid hI
  have C1 := Lib.hid (hF.c1 _ hR)
  have C2 := Lib.hid hF.c2
  have C3 := Lib.hid hF.c3
  have hn0 : 0 < n := by have h := hF.h0; rw [hF.hn]; rcases Nat.eq_zero_or_pos L.length with e | e; · rw [List.getElem?_eq_none (by omega)] at h; cases h
                         · exact e
  have HNL := Lib.hid hF.hn
  have hnz : (0 : Int) < (n : Int) := by omega
  have hfl := hflt _ (Below.refl _ _)
  rw [World.size_alloc] at hfl
  have HFL := Lib.hid hfl
  have HW := Lib.hid (World.block_lt_of_cell? w ⟨2, 0, none⟩ (hI.is.sent 5 (by omega) (by omega)).choose_spec.1)
  have HB1 := Lib.hid hb1
  have HR := Lib.hid hR
  have H0 := Lib.hid hF.h0
  have hbk : ((w.alloc (.cells #[.int .i64 0, .slice none 0 0, .string ⟨#[]⟩] 24)).alloc (.cells #[.int .i64 0, .iface 167 (.pointer (some er))] 58)).heap[w.heap.size]? = some (.cells #[.int .i64 0, .slice none 0 0, .string ⟨#[]⟩] 24 (0, 0)) := below_blk ((Below.refl _ _).alloc (Nat.le_refl _) _) (heap_alloc_new w _)
  have HBK := Lib.hid hbk
  clear hb0 hb1 hI hF hflt hfl hR hbk
  subst hok hok2
  have h2' : ¬ (n : Int) < 2 := by omega
  have h3' : ¬ (fs.size : Int) < 3 := by omega
  have h3'' : (3 : Int) ≤ (fs.size : Int) := by omega
  have h3n : 3 ≤ fs.size := h3
  have C4 := Lib.hid h4
  clear h2 h3 h4
  go_enter Tryz.func11, Tryz.ntmps11
  go_wp2_with (first
    | (go_at_call 25; (with_reducible refine Calls.mono (fault_any _ _ _ _) ?_); rintro e w5 ⟨rfl, rfl⟩)
    | (go_at_call 29; (with_reducible refine Calls.mono C1.out ?_); rintro e w5 ⟨rfl, hb⟩; have HB2 := Lib.hid hb; have HR2 := Lib.hid (HR.out.below hb); clear hb)
    | (go_at_call 30; (with_reducible refine Calls.mono (C2.out _ HR2.out) ?_); rintro e w6 ⟨rfl, hcs, hsz, hb⟩; have HB3 := Lib.hid hb; have hbk := below_blk hb (below_blk HB2.out HBK.out); have r0 := (blk_cell hbk 0).trans rfl; have r1 := (blk_cell hbk 1).trans rfl; have r2 := (blk_cell hbk 2).trans rfl; have rf0 := blk_fz hbk 0; have rf1 := blk_fz hbk 1; have rf2 := blk_fz hbk 2; have HBK3 := Lib.hid hbk; clear hbk; have HR3 := Lib.hid (HR2.out.below hb); have HS3 := Lib.hid hsz; have HCS := Lib.hid hcs; have k0 := first_cell HCS.out H0.out; clear hb hcs hsz)
    | (go_at_call 31; (with_reducible refine Calls.mono (C3.out _) ?_); rintro e w7 ⟨rfl, rfl⟩)
    | (go_at_call 32; (with_reducible refine Calls.mono (C4.out _ HR3.out) ?_); rintro e w8 ⟨⟨N, rfl⟩, hb⟩; replace HB3 := Lib.hid (below_to HB3.out hb); replace HBK3 := Lib.hid (below_blk hb HBK3.out); replace HR3 := Lib.hid (HR3.out.below hb); replace r0 := cell_in hb r0; replace r1 := cell_in hb r1; replace r2 := cell_in hb r2; replace rf0 := blk_fz HBK3.out 0; replace rf1 := blk_fz HBK3.out 1; replace rf2 := blk_fz HBK3.out 2; clear hb))
  have hbut := ((((But.of_below (HB2.out.trans (HB3.out.mono HB2.out.size)) (Nat.le_refl _)).setCell 0 (.int .i64 0)).setCell 1 (.slice none 0 0)).setCell 2 (.string ⟨#[]⟩) : But w.heap.size _ _)
  have HE := Lib.hid (bad_end HW.out HB1.out HFL.out hbut)
  have hk := blk_set (blk_set (blk_set HBK3.out 0 (.int .i64 0)) 1 (.slice none 0 0)) 2 (.string ⟨#[]⟩)
  have f0 := (blk_cell hk 0).trans rfl
  have f1 := (blk_cell hk 1).trans rfl
  have f2 := (blk_cell hk 2).trans rfl
  clear hk hbut r0 r1 r2 rf0 rf1 rf2
  generalize ((World.setCell _ ⟨w.heap.size, 0, none⟩ _).setCell ⟨w.heap.size, 1, none⟩ _).setCell ⟨w.heap.size, 2, none⟩ _ = wf at *
  exact bodyPost_ret (v := .tuple #[.agg #[.int .i64 0, .slice none 0 0, .string ⟨#[]⟩], .iface 54 (.pointer (some ⟨w.heap.size + 1, 0, none⟩))]) (by simp [results, Tryz.results11, go_sem, f0, f1, f2]) rfl ⟨_, rfl, HE.out.1, HE.out.2⟩
end Go.Proofs.YtpjjkejppgehaaaGreatDoor
