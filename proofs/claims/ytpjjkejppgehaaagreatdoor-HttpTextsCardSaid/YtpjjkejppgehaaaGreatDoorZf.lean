/- http.Read: what it tells of any bytes. -/
import Derived.Test.YtpjjkejppgehaaaGreatDoorTx
import Derived.Lib.SplitLaws
import Derived.BigGuard
import Derived.BigGuardPart
import Derived.Lib.SmallJoins
import Derived.Test.YtpjjkejppgehaaaGreatDoorAw
namespace Go.Proofs.YtpjjkejppgehaaaGreatDoor
set_option linter.unusedSimpArgs false
set_option linter.unusedVariables false
open Go.RowKit Go.Lib

/-- What Text tells of any response. -/
theorem text_any (st : Int) (A : Option Addr) (c : Nat) (l : HL) (b : ByteArray) (w : World) (hI : IsInv w) (hP : Pow10 w) (hA : LiesH w A l) (hx : ∀ j (hj : j < l.length), l[j].1.size ≤ 20000 ∧ l[j].2.size ≤ 20000) (hb : b.size ≤ 20000) :
    Calls Tryz.prog 8 #[.agg #[.int .i64 st, .slice A l.length c, .string b]] w fun e w' => e = .returned (.string (textB st l b)) ∧ Below w.heap.size w w' := by
  unfold textB
  by_cases h : checkP st l b = none
  · rw [if_pos h]; exact text_right st A c l b w hI hP hA hx hb h
  · rw [if_neg h]; exact text_wrong st A c l b w hI hA (fun j hj => by have := hx j hj; omega) (by omega) h
def sepB : ByteArray := ⟨#[13, 10]⟩
def sep2B : ByteArray := ⟨#[13, 10, 13, 10]⟩
def colonB : ByteArray := ⟨#[58, 32]⟩
def verB : ByteArray := ⟨#[72, 84, 84, 80, 47, 49, 46, 49, 32]⟩
/-- The parts ahead of and behind an instance. -/
def cutB (s p : ByteArray) : ByteArray × ByteArray × Bool := (⟨(cut s.data.toList p.data.toList).1.toArray⟩, ⟨(cut s.data.toList p.data.toList).2.1.toArray⟩, (cut s.data.toList p.data.toList).2.2)
def rowsB (s : ByteArray) : List ByteArray := splitB sepB 0 (countB s sepB) s
def trimP (s : ByteArray) : ByteArray := ⟨(trimPrefix s.data.toList verB.data.toList).toArray⟩
def hasP (s : ByteArray) : Bool := hasPrefix s.data.toList verB.data.toList
def linesB : List ByteArray → Option HL
  | [] => some []
  | x :: r => if (cutB x colonB).2.2 then (linesB r).map (((cutB x colonB).1, (cutB x colonB).2.1) :: ·) else none
/-- What Read tells. -/
def readP (s : ByteArray) : Option (Int × HL × ByteArray) :=
  if (cutB s sep2B).2.2 = true ∧ hasP ((rowsB (cutB s sep2B).1).headD ⟨#[]⟩) = true ∧ 2 ≤ (rowsB (cutB s sep2B).1).length ∧ 3 ≤ (trimP ((rowsB (cutB s sep2B).1).headD ⟨#[]⟩)).size then
    match atoi ((trimP ((rowsB (cutB s sep2B).1).headD ⟨#[]⟩)).extract 0 3).data.toList with
    | none => none
    | some n =>
      match linesB ((rowsB (cutB s sep2B).1).drop 1).dropLast with
      | none => none
      | some h => if textB n h (cutB s sep2B).2.1 = s then some (n, h, (cutB s sep2B).2.1) else none
  else none
/-- What the reading wants of the world. -/
structure RInv (w : World) : Prop where
  is : IsInv w
  pow : Pow10 w
  ml : ∃ m, w.cell? ⟨19, 0, none⟩ = some (.int .i64 m)
  sy : ∃ te pe, w.cell? ⟨20, 0, none⟩ = some (.iface te pe)
theorem RInv.below {w w' : World} (h : RInv w) (hb : Below w.heap.size w w') : RInv w' where
  is := h.is.below hb
  pow := h.pow.below hb
  ml := by obtain ⟨m, hm⟩ := h.ml; exact ⟨m, cell_in hb hm⟩
  sy := by obtain ⟨a, b, hm⟩ := h.sy; exact ⟨a, b, cell_in hb hm⟩
/-- What is told of a reading. -/
def ReadIs (w : World) (v : Value) : Option (Int × HL × ByteArray) → Prop
  | none => ∃ f, v = .tuple #[.agg #[.int .i64 0, .slice none 0 0, .string ⟨#[]⟩], f] ∧ FltIs w f (some (0, 5))
  | some (n, l, b) => ∃ A c, v = .tuple #[.agg #[.int .i64 n, .slice A l.length c, .string b], .nilIface] ∧ LiesH w A l ∧ l.length ≤ c
theorem cut_call (s p : ByteArray) (w : World) (hs : s.size ≤ 100000) (hm : ∃ m, w.cell? ⟨19, 0, none⟩ = some (.int .i64 m)) :
    Calls Tryz.prog 29 #[.string s, .string p] w fun e w' => e = .returned (.tuple #[.string (cutB s p).1, .string (cutB s p).2.1, .bool (cutB s p).2.2]) ∧ Below w.heap.size w w' := by
  obtain ⟨m, hm⟩ := hm
  refine (Tryz.strings_Cut s p m w (by omega) hm).mono ?_
  rintro e w' ⟨rfl, n, rfl⟩
  exact ⟨rfl, Below.drewN (Below.refl _ _) n⟩
theorem split_call (s : ByteArray) (w : World) (hs : s.size ≤ 100000) (hm : ∃ m, w.cell? ⟨19, 0, none⟩ = some (.int .i64 m)) :
    Calls Tryz.prog 30 #[.string s, .string sepB] w fun e w' => e = .returned (.slice (some ⟨w.heap.size, 0, none⟩) (rowsB s).length (rowsB s).length) ∧ (∀ j (hj : j < (rowsB s).length), w'.cell? ⟨w.heap.size, j, none⟩ = some (.string (rowsB s)[j])) ∧ w'.heap.size = w.heap.size + 1 ∧ Below w.heap.size w w' := by
  obtain ⟨m, hm⟩ := hm
  have hl : (rowsB s).length = countB s sepB + 1 := splitB_all sepB (by decide) 0 _ s rfl
  refine (Tryz.strings_Split s sepB m w (by omega) hm (by decide)).mono ?_
  rintro e w' ⟨rfl, rfl⟩
  refine ⟨by rw [hl], fun j hj => ?_, by simp, (Below.refl _ _).alloc (Nat.le_refl _) _⟩
  rw [World.cell?_alloc_new]
  show (List.toArray ((rowsB s).map Value.string))[j]? = _
  simp [List.getElem?_eq_getElem hj]
theorem atoi_some (s : ByteArray) (n : Int) (hl : s.size ≤ 18) (h : Lib.atoi s.data.toList = some n) (w : World) :
    Calls Tryz.prog 32 #[.string s] w fun e w' => e = .returned (.tuple #[.int .i64 n, .nilIface]) ∧ Below w.heap.size w w' := by
  refine (Tryz.strconv_Atoi s n hl h w).mono ?_
  rintro e w' ⟨rfl, t, rfl⟩
  exact ⟨rfl, bytes_below _ _⟩
theorem atoi_none (s : ByteArray) (hl : s.size ≤ 18) (h : Lib.atoi s.data.toList = none) (w : World) (hv : ∃ te pe, w.cell? ⟨20, 0, none⟩ = some (.iface te pe)) :
    Calls Tryz.prog 32 #[.string s] w fun e w' => (∃ N, e = .returned (.tuple #[.int .i64 0, .iface 135 (.pointer (some ⟨N, 0, none⟩))])) ∧ Below w.heap.size w w' := by
  obtain ⟨te, pe, hv⟩ := hv
  refine (Tryz.strconv_Atoi_err s hl h _ w hv (Or.inr ⟨te, pe, rfl⟩)).mono ?_
  rintro e w' ⟨N, rfl, -, -, hb⟩
  exact ⟨⟨N, rfl⟩, hb⟩
theorem prefix_call (s : ByteArray) (w : World) : Calls Tryz.prog 31 #[.string s, .string verB] w fun e w' => e = .returned (.tuple #[.string (trimP s), .bool (hasP s)]) ∧ w' = w := Tryz.strings_CutPrefix s verB w
/-- A wrong text's answer. -/
def BadIs (w : World) (e : Ending) (w' : World) : Prop := ∃ f, e = .returned (.tuple #[.agg #[.int .i64 0, .slice none 0 0, .string ⟨#[]⟩], f]) ∧ FltIs w' f (some (0, 5)) ∧ Below w.heap.size w w'
/-- The first part of the walk: what the calls ahead of the first test tell. -/
structure Front (s : ByteArray) (hd bd : ByteArray) (ok : Bool) (n : Nat) (x0 fs : ByteArray) (ok2 : Bool) (L : List ByteArray) : Prop where
  c1 : ∀ x, RInv x → Calls Tryz.prog 29 #[.string s, .string ⟨#[13, 10, 13, 10]⟩] x fun e w' => e = .returned (.tuple #[.string hd, .string bd, .bool ok]) ∧ Below x.heap.size x w'
  c2 : ∀ x, RInv x → Calls Tryz.prog 30 #[.string hd, .string ⟨#[13, 10]⟩] x fun e w' => e = .returned (.slice (some ⟨x.heap.size, 0, none⟩) n n) ∧ (∀ j (hj : j < L.length), w'.cell? ⟨x.heap.size, j, none⟩ = some (.string L[j])) ∧ w'.heap.size = x.heap.size + 1 ∧ Below x.heap.size x w'
  c3 : ∀ x, Calls Tryz.prog 31 #[.string x0, .string ⟨#[72, 84, 84, 80, 47, 49, 46, 49, 32]⟩] x fun e w' => e = .returned (.tuple #[.string fs, .bool ok2]) ∧ w' = x
  hn : n = L.length
  h0 : L[0]? = some x0
theorem FltIs.but {w w' : World} {b g : Nat} {a : Int} {c : Nat} (h : FltIs w (.iface 54 (.pointer (some ⟨g, 0, none⟩))) (some (a, c))) (hb : But b w w') (hg : g ≠ b) (hc : gidx c ≠ b) : FltIs w' (.iface 54 (.pointer (some ⟨g, 0, none⟩))) (some (a, c)) := by
  obtain ⟨h1, h2, g', s, he, h3, h4⟩ := h
  injection he with _ he
  injection he with he
  injection he with he
  injection he with he _ _
  subst he
  exact ⟨h1, h2, g, s, rfl, (hb.block g (heap_lt h3) hg).trans h3, hb.cell (by exact hc) h4⟩
theorem bad_end {w x y : World} (hw : 2 < w.heap.size) (hb1 : Below w.heap.size w x) (hflt : FltIs x (.iface 54 (.pointer (some ⟨w.heap.size + 1, 0, none⟩))) (some (0, 5))) (hb : But w.heap.size x y) :
    FltIs y (.iface 54 (.pointer (some ⟨w.heap.size + 1, 0, none⟩))) (some (0, 5)) ∧ Below w.heap.size w y :=
  ⟨hflt.but hb (by omega) (by show 2 ≠ w.heap.size; omega), hb1.trans (hb.below (Nat.le_refl _) hb1.size)⟩
theorem flt5 (x : World) (h : RInv x) : ∃ er, x.cell? ⟨2, 0, none⟩ = some (.iface 167 (.pointer (some er))) ∧ ∀ y, Below (x.heap.size + 1) (x.alloc (.cells #[.int .i64 0, .iface 167 (.pointer (some er))] 58)) y → FltIs y (.iface 54 (.pointer (some ⟨x.heap.size, 0, none⟩))) (some (0, 5)) := by
  obtain ⟨er, her, -⟩ := h.is.sent 5 (by omega) (by omega)
  refine ⟨er, her, fun y hy => ?_⟩
  have := flt_new x 0 5 (by omega) (by omega) _ _ her
  exact this.below (by simpa using hy)
theorem cut_sizes (s p : ByteArray) : (cutB s p).1.size ≤ s.size ∧ (cutB s p).2.1.size ≤ s.size := by
  have e := szL s
  unfold cutB cut
  dsimp only
  split
  · simp only [szM]; constructor
    · rw [List.length_take]; omega
    · rw [List.length_drop]; omega
  · simp only [szM]; exact ⟨by omega, by simp⟩
theorem first_cell {w : World} {g : Nat} {L : List ByteArray} {x0 : ByteArray} (h : ∀ j (hj : j < L.length), w.cell? ⟨g, j, none⟩ = some (.string L[j])) (h0 : L[0]? = some x0) : w.cell? ⟨g, 0, none⟩ = some (.string x0) := by
  obtain ⟨hl, rfl⟩ := List.getElem?_eq_some_iff.1 h0
  exact h 0 hl
theorem own_below {M : Nat} {v : Value} {n : Nat} {xs : List Value} {w w' : World} (h : w.ownsRow M 43 2 v n xs) (hb : Below w.heap.size w w') : w'.ownsRow M 43 2 v n xs := by
  refine ⟨h.1, ?_⟩
  rcases h.2 with h0 | ⟨g, cap, cur, rfl, hg, hh, hr⟩
  · exact Or.inl h0
  · exact Or.inr ⟨g, cap, cur, rfl, hg, below_blk hb hh, hr⟩
def hcells (l : HL) : List Value := l.flatMap fun x => [.string x.1, .string x.2]
theorem hcells_snoc (l : HL) (x : ByteArray × ByteArray) : hcells (l ++ [x]) = hcells l ++ [.string x.1, .string x.2] := by simp [hcells]
theorem hcells_length : ∀ l : HL, (hcells l).length = l.length * 2
  | [] => rfl
  | x :: r => by have := hcells_length r; simp [hcells] at this ⊢; omega
theorem hcells_at : ∀ (l : HL) (j : Nat) (hj : j < l.length), (hcells l)[j * 2]? = some (.string l[j].1) ∧ (hcells l)[j * 2 + 1]? = some (.string l[j].2)
  | x :: r, 0, _ => ⟨rfl, rfl⟩
  | x :: r, j + 1, hj => by
    have := hcells_at r j (by simpa using hj)
    have e : hcells (x :: r) = .string x.1 :: .string x.2 :: hcells r := rfl
    rw [e, show (j + 1) * 2 = j * 2 + 1 + 1 by omega]
    simpa using this
theorem linesB_cons (x : ByteArray) (r : List ByteArray) (h : HL) (hc : (cutB x colonB).2.2 = true) : (linesB (x :: r)).map (h ++ ·) = (linesB r).map ((h ++ [((cutB x colonB).1, (cutB x colonB).2.1)]) ++ ·) := by
  rw [linesB, if_pos hc]
  cases linesB r with
  | none => rfl
  | some l => simp
def GoIs (s : ByteArray) (n : Int) (bd : ByteArray) (o : Option HL) (w : World) (e : Ending) (w' : World) : Prop :=
  match o with
  | none => BadIs w e w'
  | some h => if textB n h bd = s then ∃ A c, e = .returned (.tuple #[.agg #[.int .i64 n, .slice A h.length c, .string bd], .nilIface]) ∧ LiesH w' A h ∧ h.length ≤ c ∧ Below w.heap.size w w' else BadIs w e w'
set_option maxRecDepth 20000 in
set_option maxHeartbeats 8000000 in
theorem read_bad1 (s hd bd : ByteArray) (ok : Bool) (n : Nat) (x0 fs : ByteArray) (ok2 : Bool) (L : List ByteArray) (w : World) (hI : RInv w) (hF : Front s hd bd ok n x0 fs ok2 L) (hok : ok = false) :
    Calls Tryz.prog 11 #[.string s] w (BadIs w) := by
  have hb0 : Below w.heap.size w (w.alloc (.cells #[.int .i64 0, .slice none 0 0, .string ⟨#[]⟩] 24)) := (Below.refl _ _).alloc (Nat.le_refl _) _
  obtain ⟨er, her, hflt⟩ := flt5 _ (hI.below hb0)
  have hb1 : Below w.heap.size w ((w.alloc (.cells #[.int .i64 0, .slice none 0 0, .string ⟨#[]⟩] 24)).alloc (.cells #[.int .i64 0, .iface 167 (.pointer (some er))] 58)) := hb0.alloc (by simp) _
  have hR := hI.below hb1
  have HI := Lib.hid hI
  have C1 := Lib.hid (hF.c1 _ hR)
  have C2 := Lib.hid hF.c2
  have C3 := Lib.hid hF.c3
  have hn0 : 0 < n := by have h := hF.h0; rw [hF.hn]; rcases Nat.eq_zero_or_pos L.length with e | e; · rw [List.getElem?_eq_none (by omega)] at h; cases h
                         · exact e
  have HNL := Lib.hid hF.hn
  have hnz : (0 : Int) < (n : Int) := by omega
  have hfl := hflt _ (Below.refl _ _)
  rw [World.size_alloc] at hfl
  have HFL := Lib.hid hfl
  have HW := Lib.hid (World.block_lt_of_cell? w ⟨2, 0, none⟩ (hI.is.sent 5 (by omega) (by omega)).choose_spec.1)
  have HB1 := Lib.hid hb1
  have HR := Lib.hid hR
  have H0 := Lib.hid hF.h0
  have hbk : ((w.alloc (.cells #[.int .i64 0, .slice none 0 0, .string ⟨#[]⟩] 24)).alloc (.cells #[.int .i64 0, .iface 167 (.pointer (some er))] 58)).heap[w.heap.size]? = some (.cells #[.int .i64 0, .slice none 0 0, .string ⟨#[]⟩] 24 (0, 0)) := below_blk ((Below.refl _ _).alloc (Nat.le_refl _) _) (heap_alloc_new w _)
  have HBK := Lib.hid hbk
  clear hb0 hb1 hI hF hflt hfl hR hbk
  subst hok
  go_enter Tryz.func11, Tryz.ntmps11
  go_wp2_with (first
    | (go_at_call 25; (with_reducible refine Calls.mono (fault_any _ _ _ _) ?_); rintro e w5 ⟨rfl, rfl⟩)
    | (go_at_call 29; (with_reducible refine Calls.mono C1.out ?_); rintro e w5 ⟨rfl, hb⟩; have HB2 := Lib.hid hb; have HR2 := Lib.hid (HR.out.below hb); clear hb)
    | (go_at_call 30; (with_reducible refine Calls.mono (C2.out _ HR2.out) ?_); rintro e w6 ⟨rfl, hcs, hsz, hb⟩; have HB3 := Lib.hid hb; have hbk := below_blk hb (below_blk HB2.out HBK.out); have r0 := (blk_cell hbk 0).trans rfl; have r1 := (blk_cell hbk 1).trans rfl; have r2 := (blk_cell hbk 2).trans rfl; have rf0 := blk_fz hbk 0; have rf1 := blk_fz hbk 1; have rf2 := blk_fz hbk 2; have HBK3 := Lib.hid hbk; clear hbk; have HR3 := Lib.hid (HR2.out.below hb); have HS3 := Lib.hid hsz; have HCS := Lib.hid hcs; have k0 := first_cell HCS.out H0.out; clear hb hcs hsz)
    | (go_at_call 31; (with_reducible refine Calls.mono (C3.out _) ?_); rintro e w7 ⟨rfl, rfl⟩))
  have hbut := ((((But.of_below (HB2.out.trans (HB3.out.mono HB2.out.size)) (Nat.le_refl _)).setCell 0 (.int .i64 0)).setCell 1 (.slice none 0 0)).setCell 2 (.string ⟨#[]⟩) : But w.heap.size _ _)
  have HE := Lib.hid (bad_end HW.out HB1.out HFL.out hbut)
  have hk := blk_set (blk_set (blk_set HBK3.out 0 (.int .i64 0)) 1 (.slice none 0 0)) 2 (.string ⟨#[]⟩)
  have f0 := (blk_cell hk 0).trans rfl
  have f1 := (blk_cell hk 1).trans rfl
  have f2 := (blk_cell hk 2).trans rfl
  clear hk hbut r0 r1 r2 rf0 rf1 rf2
  generalize ((World.setCell _ ⟨w.heap.size, 0, none⟩ _).setCell ⟨w.heap.size, 1, none⟩ _).setCell ⟨w.heap.size, 2, none⟩ _ = wf at *
  exact bodyPost_ret (v := .tuple #[.agg #[.int .i64 0, .slice none 0 0, .string ⟨#[]⟩], .iface 54 (.pointer (some ⟨w.heap.size + 1, 0, none⟩))]) (by simp [results, Tryz.results11, go_sem, f0, f1, f2]) rfl ⟨_, rfl, HE.out.1, HE.out.2⟩
set_option maxRecDepth 20000 in
set_option maxHeartbeats 8000000 in
theorem read_bad2 (s hd bd : ByteArray) (ok : Bool) (n : Nat) (x0 fs : ByteArray) (ok2 : Bool) (L : List ByteArray) (w : World) (hI : RInv w) (hF : Front s hd bd ok n x0 fs ok2 L) (hok : ok = true) (hok2 : ok2 = false) :
    Calls Tryz.prog 11 #[.string s] w (BadIs w) := by
  have hb0 : Below w.heap.size w (w.alloc (.cells #[.int .i64 0, .slice none 0 0, .string ⟨#[]⟩] 24)) := (Below.refl _ _).alloc (Nat.le_refl _) _
  obtain ⟨er, her, hflt⟩ := flt5 _ (hI.below hb0)
  have hb1 : Below w.heap.size w ((w.alloc (.cells #[.int .i64 0, .slice none 0 0, .string ⟨#[]⟩] 24)).alloc (.cells #[.int .i64 0, .iface 167 (.pointer (some er))] 58)) := hb0.alloc (by simp) _
  have hR := hI.below hb1
  have HI := Lib.hid hI
  have C1 := Lib.hid (hF.c1 _ hR)
  have C2 := Lib.hid hF.c2
  have C3 := Lib.hid hF.c3
  have hn0 : 0 < n := by have h := hF.h0; rw [hF.hn]; rcases Nat.eq_zero_or_pos L.length with e | e; · rw [List.getElem?_eq_none (by omega)] at h; cases h
                         · exact e
  have HNL := Lib.hid hF.hn
  have hnz : (0 : Int) < (n : Int) := by omega
  have hfl := hflt _ (Below.refl _ _)
  rw [World.size_alloc] at hfl
  have HFL := Lib.hid hfl
  have HW := Lib.hid (World.block_lt_of_cell? w ⟨2, 0, none⟩ (hI.is.sent 5 (by omega) (by omega)).choose_spec.1)
  have HB1 := Lib.hid hb1
  have HR := Lib.hid hR
  have H0 := Lib.hid hF.h0
  have hbk : ((w.alloc (.cells #[.int .i64 0, .slice none 0 0, .string ⟨#[]⟩] 24)).alloc (.cells #[.int .i64 0, .iface 167 (.pointer (some er))] 58)).heap[w.heap.size]? = some (.cells #[.int .i64 0, .slice none 0 0, .string ⟨#[]⟩] 24 (0, 0)) := below_blk ((Below.refl _ _).alloc (Nat.le_refl _) _) (heap_alloc_new w _)
  have HBK := Lib.hid hbk
  clear hb0 hb1 hI hF hflt hfl hR hbk
  subst hok hok2
  go_enter Tryz.func11, Tryz.ntmps11
  go_wp2_with (first
    | (go_at_call 25; (with_reducible refine Calls.mono (fault_any _ _ _ _) ?_); rintro e w5 ⟨rfl, rfl⟩)
    | (go_at_call 29; (with_reducible refine Calls.mono C1.out ?_); rintro e w5 ⟨rfl, hb⟩; have HB2 := Lib.hid hb; have HR2 := Lib.hid (HR.out.below hb); clear hb)
    | (go_at_call 30; (with_reducible refine Calls.mono (C2.out _ HR2.out) ?_); rintro e w6 ⟨rfl, hcs, hsz, hb⟩; have HB3 := Lib.hid hb; have hbk := below_blk hb (below_blk HB2.out HBK.out); have r0 := (blk_cell hbk 0).trans rfl; have r1 := (blk_cell hbk 1).trans rfl; have r2 := (blk_cell hbk 2).trans rfl; have rf0 := blk_fz hbk 0; have rf1 := blk_fz hbk 1; have rf2 := blk_fz hbk 2; have HBK3 := Lib.hid hbk; clear hbk; have HR3 := Lib.hid (HR2.out.below hb); have HS3 := Lib.hid hsz; have HCS := Lib.hid hcs; have k0 := first_cell HCS.out H0.out; clear hb hcs hsz)
    | (go_at_call 31; (with_reducible refine Calls.mono (C3.out _) ?_); rintro e w7 ⟨rfl, rfl⟩))
  have hbut := ((((But.of_below (HB2.out.trans (HB3.out.mono HB2.out.size)) (Nat.le_refl _)).setCell 0 (.int .i64 0)).setCell 1 (.slice none 0 0)).setCell 2 (.string ⟨#[]⟩) : But w.heap.size _ _)
  have HE := Lib.hid (bad_end HW.out HB1.out HFL.out hbut)
  have hk := blk_set (blk_set (blk_set HBK3.out 0 (.int .i64 0)) 1 (.slice none 0 0)) 2 (.string ⟨#[]⟩)
  have f0 := (blk_cell hk 0).trans rfl
  have f1 := (blk_cell hk 1).trans rfl
  have f2 := (blk_cell hk 2).trans rfl
  clear hk hbut r0 r1 r2 rf0 rf1 rf2
  generalize ((World.setCell _ ⟨w.heap.size, 0, none⟩ _).setCell ⟨w.heap.size, 1, none⟩ _).setCell ⟨w.heap.size, 2, none⟩ _ = wf at *
  exact bodyPost_ret (v := .tuple #[.agg #[.int .i64 0, .slice none 0 0, .string ⟨#[]⟩], .iface 54 (.pointer (some ⟨w.heap.size + 1, 0, none⟩))]) (by simp [results, Tryz.results11, go_sem, f0, f1, f2]) rfl ⟨_, rfl, HE.out.1, HE.out.2⟩
set_option maxRecDepth 20000 in
set_option maxHeartbeats 8000000 in
theorem read_bad3 (s hd bd : ByteArray) (ok : Bool) (n : Nat) (x0 fs : ByteArray) (ok2 : Bool) (L : List ByteArray) (w : World) (hI : RInv w) (hF : Front s hd bd ok n x0 fs ok2 L) (hok : ok = true) (hok2 : ok2 = true) (h2 : n < 2) :
    Calls Tryz.prog 11 #[.string s] w (BadIs w) := by
  have hb0 : Below w.heap.size w (w.alloc (.cells #[.int .i64 0, .slice none 0 0, .string ⟨#[]⟩] 24)) := (Below.refl _ _).alloc (Nat.le_refl _) _
  obtain ⟨er, her, hflt⟩ := flt5 _ (hI.below hb0)
  have hb1 : Below w.heap.size w ((w.alloc (.cells #[.int .i64 0, .slice none 0 0, .string ⟨#[]⟩] 24)).alloc (.cells #[.int .i64 0, .iface 167 (.pointer (some er))] 58)) := hb0.alloc (by simp) _
  have hR := hI.below hb1
  have HI := Lib.hid hI
  have C1 := Lib.hid (hF.c1 _ hR)
  have C2 := Lib.hid hF.c2
  have C3 := Lib.hid hF.c3
  have hn0 : 0 < n := by have h := hF.h0; rw [hF.hn]; rcases Nat.eq_zero_or_pos L.length with e | e; · rw [List.getElem?_eq_none (by omega)] at h; cases h
                         · exact e
  have HNL := Lib.hid hF.hn
  have hnz : (0 : Int) < (n : Int) := by omega
  have hfl := hflt _ (Below.refl _ _)
  rw [World.size_alloc] at hfl
  have HFL := Lib.hid hfl
  have HW := Lib.hid (World.block_lt_of_cell? w ⟨2, 0, none⟩ (hI.is.sent 5 (by omega) (by omega)).choose_spec.1)
  have HB1 := Lib.hid hb1
  have HR := Lib.hid hR
  have H0 := Lib.hid hF.h0
  have hbk : ((w.alloc (.cells #[.int .i64 0, .slice none 0 0, .string ⟨#[]⟩] 24)).alloc (.cells #[.int .i64 0, .iface 167 (.pointer (some er))] 58)).heap[w.heap.size]? = some (.cells #[.int .i64 0, .slice none 0 0, .string ⟨#[]⟩] 24 (0, 0)) := below_blk ((Below.refl _ _).alloc (Nat.le_refl _) _) (heap_alloc_new w _)
  have HBK := Lib.hid hbk
  clear hb0 hb1 hI hF hflt hfl hR hbk
  subst hok hok2
  have h2' : (n : Int) < 2 := by omega
  clear h2
  go_enter Tryz.func11, Tryz.ntmps11
  go_wp2_with (first
    | (go_at_call 25; (with_reducible refine Calls.mono (fault_any _ _ _ _) ?_); rintro e w5 ⟨rfl, rfl⟩)
    | (go_at_call 29; (with_reducible refine Calls.mono C1.out ?_); rintro e w5 ⟨rfl, hb⟩; have HB2 := Lib.hid hb; have HR2 := Lib.hid (HR.out.below hb); clear hb)
    | (go_at_call 30; (with_reducible refine Calls.mono (C2.out _ HR2.out) ?_); rintro e w6 ⟨rfl, hcs, hsz, hb⟩; have HB3 := Lib.hid hb; have hbk := below_blk hb (below_blk HB2.out HBK.out); have r0 := (blk_cell hbk 0).trans rfl; have r1 := (blk_cell hbk 1).trans rfl; have r2 := (blk_cell hbk 2).trans rfl; have rf0 := blk_fz hbk 0; have rf1 := blk_fz hbk 1; have rf2 := blk_fz hbk 2; have HBK3 := Lib.hid hbk; clear hbk; have HR3 := Lib.hid (HR2.out.below hb); have HS3 := Lib.hid hsz; have HCS := Lib.hid hcs; have k0 := first_cell HCS.out H0.out; clear hb hcs hsz)
    | (go_at_call 31; (with_reducible refine Calls.mono (C3.out _) ?_); rintro e w7 ⟨rfl, rfl⟩))
  have hbut := ((((But.of_below (HB2.out.trans (HB3.out.mono HB2.out.size)) (Nat.le_refl _)).setCell 0 (.int .i64 0)).setCell 1 (.slice none 0 0)).setCell 2 (.string ⟨#[]⟩) : But w.heap.size _ _)
  have HE := Lib.hid (bad_end HW.out HB1.out HFL.out hbut)
  have hk := blk_set (blk_set (blk_set HBK3.out 0 (.int .i64 0)) 1 (.slice none 0 0)) 2 (.string ⟨#[]⟩)
  have f0 := (blk_cell hk 0).trans rfl
  have f1 := (blk_cell hk 1).trans rfl
  have f2 := (blk_cell hk 2).trans rfl
  clear hk hbut r0 r1 r2 rf0 rf1 rf2
  generalize ((World.setCell _ ⟨w.heap.size, 0, none⟩ _).setCell ⟨w.heap.size, 1, none⟩ _).setCell ⟨w.heap.size, 2, none⟩ _ = wf at *
  exact bodyPost_ret (v := .tuple #[.agg #[.int .i64 0, .slice none 0 0, .string ⟨#[]⟩], .iface 54 (.pointer (some ⟨w.heap.size + 1, 0, none⟩))]) (by simp [results, Tryz.results11, go_sem, f0, f1, f2]) rfl ⟨_, rfl, HE.out.1, HE.out.2⟩
set_option maxRecDepth 20000 in
set_option maxHeartbeats 8000000 in
theorem read_bad4 (s hd bd : ByteArray) (ok : Bool) (n : Nat) (x0 fs : ByteArray) (ok2 : Bool) (L : List ByteArray) (w : World) (hI : RInv w) (hF : Front s hd bd ok n x0 fs ok2 L) (hok : ok = true) (hok2 : ok2 = true) (h2 : 2 ≤ n) (h3 : fs.size < 3) :
    Calls Tryz.prog 11 #[.string s] w (BadIs w) := by
  have hb0 : Below w.heap.size w (w.alloc (.cells #[.int .i64 0, .slice none 0 0, .string ⟨#[]⟩] 24)) := (Below.refl _ _).alloc (Nat.le_refl _) _
  obtain ⟨er, her, hflt⟩ := flt5 _ (hI.below hb0)
  have hb1 : Below w.heap.size w ((w.alloc (.cells #[.int .i64 0, .slice none 0 0, .string ⟨#[]⟩] 24)).alloc (.cells #[.int .i64 0, .iface 167 (.pointer (some er))] 58)) := hb0.alloc (by simp) _
  have hR := hI.below hb1
  have HI := Lib.hid hI
  have C1 := Lib.hid (hF.c1 _ hR)
  have C2 := Lib.hid hF.c2
  have C3 := Lib.hid hF.c3
  have hn0 : 0 < n := by have h := hF.h0; rw [hF.hn]; rcases Nat.eq_zero_or_pos L.length with e | e; · rw [List.getElem?_eq_none (by omega)] at h; cases h
                         · exact e
  have HNL := Lib.hid hF.hn
  have hnz : (0 : Int) < (n : Int) := by omega
  have hfl := hflt _ (Below.refl _ _)
  rw [World.size_alloc] at hfl
  have HFL := Lib.hid hfl
  have HW := Lib.hid (World.block_lt_of_cell? w ⟨2, 0, none⟩ (hI.is.sent 5 (by omega) (by omega)).choose_spec.1)
  have HB1 := Lib.hid hb1
  have HR := Lib.hid hR
  have H0 := Lib.hid hF.h0
  have hbk : ((w.alloc (.cells #[.int .i64 0, .slice none 0 0, .string ⟨#[]⟩] 24)).alloc (.cells #[.int .i64 0, .iface 167 (.pointer (some er))] 58)).heap[w.heap.size]? = some (.cells #[.int .i64 0, .slice none 0 0, .string ⟨#[]⟩] 24 (0, 0)) := below_blk ((Below.refl _ _).alloc (Nat.le_refl _) _) (heap_alloc_new w _)
  have HBK := Lib.hid hbk
  clear hb0 hb1 hI hF hflt hfl hR hbk
  subst hok hok2
  have h2' : ¬ (n : Int) < 2 := by omega
  have h3' : (fs.size : Int) < 3 := by omega
  clear h2 h3
  go_enter Tryz.func11, Tryz.ntmps11
  go_wp2_with (first
    | (go_at_call 25; (with_reducible refine Calls.mono (fault_any _ _ _ _) ?_); rintro e w5 ⟨rfl, rfl⟩)
    | (go_at_call 29; (with_reducible refine Calls.mono C1.out ?_); rintro e w5 ⟨rfl, hb⟩; have HB2 := Lib.hid hb; have HR2 := Lib.hid (HR.out.below hb); clear hb)
    | (go_at_call 30; (with_reducible refine Calls.mono (C2.out _ HR2.out) ?_); rintro e w6 ⟨rfl, hcs, hsz, hb⟩; have HB3 := Lib.hid hb; have hbk := below_blk hb (below_blk HB2.out HBK.out); have r0 := (blk_cell hbk 0).trans rfl; have r1 := (blk_cell hbk 1).trans rfl; have r2 := (blk_cell hbk 2).trans rfl; have rf0 := blk_fz hbk 0; have rf1 := blk_fz hbk 1; have rf2 := blk_fz hbk 2; have HBK3 := Lib.hid hbk; clear hbk; have HR3 := Lib.hid (HR2.out.below hb); have HS3 := Lib.hid hsz; have HCS := Lib.hid hcs; have k0 := first_cell HCS.out H0.out; clear hb hcs hsz)
    | (go_at_call 31; (with_reducible refine Calls.mono (C3.out _) ?_); rintro e w7 ⟨rfl, rfl⟩))
  have hbut := ((((But.of_below (HB2.out.trans (HB3.out.mono HB2.out.size)) (Nat.le_refl _)).setCell 0 (.int .i64 0)).setCell 1 (.slice none 0 0)).setCell 2 (.string ⟨#[]⟩) : But w.heap.size _ _)
  have HE := Lib.hid (bad_end HW.out HB1.out HFL.out hbut)
  have hk := blk_set (blk_set (blk_set HBK3.out 0 (.int .i64 0)) 1 (.slice none 0 0)) 2 (.string ⟨#[]⟩)
  have f0 := (blk_cell hk 0).trans rfl
  have f1 := (blk_cell hk 1).trans rfl
  have f2 := (blk_cell hk 2).trans rfl
  clear hk hbut r0 r1 r2 rf0 rf1 rf2
  generalize ((World.setCell _ ⟨w.heap.size, 0, none⟩ _).setCell ⟨w.heap.size, 1, none⟩ _).setCell ⟨w.heap.size, 2, none⟩ _ = wf at *
  exact bodyPost_ret (v := .tuple #[.agg #[.int .i64 0, .slice none 0 0, .string ⟨#[]⟩], .iface 54 (.pointer (some ⟨w.heap.size + 1, 0, none⟩))]) (by simp [results, Tryz.results11, go_sem, f0, f1, f2]) rfl ⟨_, rfl, HE.out.1, HE.out.2⟩
set_option maxRecDepth 20000 in
set_option maxHeartbeats 8000000 in
theorem read_bad5 (s hd bd : ByteArray) (ok : Bool) (n : Nat) (x0 fs : ByteArray) (ok2 : Bool) (L : List ByteArray) (w : World) (hI : RInv w) (hF : Front s hd bd ok n x0 fs ok2 L) (hok : ok = true) (hok2 : ok2 = true) (h2 : 2 ≤ n) (h3 : 3 ≤ fs.size) (h4 : ∀ x, RInv x → Calls Tryz.prog 32 #[.string (fs.extract 0 3)] x fun e w' => (∃ N, e = .returned (.tuple #[.int .i64 0, .iface 135 (.pointer (some ⟨N, 0, none⟩))])) ∧ Below x.heap.size x w') :
    Calls Tryz.prog 11 #[.string s] w (BadIs w) := by
  have hb0 : Below w.heap.size w (w.alloc (.cells #[.int .i64 0, .slice none 0 0, .string ⟨#[]⟩] 24)) := (Below.refl _ _).alloc (Nat.le_refl _) _
  obtain ⟨er, her, hflt⟩ := flt5 _ (hI.below hb0)
  have hb1 : Below w.heap.size w ((w.alloc (.cells #[.int .i64 0, .slice none 0 0, .string ⟨#[]⟩] 24)).alloc (.cells #[.int .i64 0, .iface 167 (.pointer (some er))] 58)) := hb0.alloc (by simp) _
  have hR := hI.below hb1
  have HI := Lib.hid hI
  have C1 := Lib.hid (hF.c1 _ hR)
  have C2 := Lib.hid hF.c2
  have C3 := Lib.hid hF.c3
  have hn0 : 0 < n := by have h := hF.h0; rw [hF.hn]; rcases Nat.eq_zero_or_pos L.length with e | e; · rw [List.getElem?_eq_none (by omega)] at h; cases h
                         · exact e
  have HNL := Lib.hid hF.hn
  have hnz : (0 : Int) < (n : Int) := by omega
  have hfl := hflt _ (Below.refl _ _)
  rw [World.size_alloc] at hfl
  have HFL := Lib.hid hfl
  have HW := Lib.hid (World.block_lt_of_cell? w ⟨2, 0, none⟩ (hI.is.sent 5 (by omega) (by omega)).choose_spec.1)
  have HB1 := Lib.hid hb1
  have HR := Lib.hid hR
  have H0 := Lib.hid hF.h0
  have hbk : ((w.alloc (.cells #[.int .i64 0, .slice none 0 0, .string ⟨#[]⟩] 24)).alloc (.cells #[.int .i64 0, .iface 167 (.pointer (some er))] 58)).heap[w.heap.size]? = some (.cells #[.int .i64 0, .slice none 0 0, .string ⟨#[]⟩] 24 (0, 0)) := below_blk ((Below.refl _ _).alloc (Nat.le_refl _) _) (heap_alloc_new w _)
  have HBK := Lib.hid hbk
  clear hb0 hb1 hI hF hflt hfl hR hbk
  subst hok hok2
  have h2' : ¬ (n : Int) < 2 := by omega
  have h3' : ¬ (fs.size : Int) < 3 := by omega
  have h3'' : (3 : Int) ≤ (fs.size : Int) := by omega
  have h3n : 3 ≤ fs.size := h3
  have C4 := Lib.hid h4
  clear h2 h3 h4
  go_enter Tryz.func11, Tryz.ntmps11
  go_wp2_with (first
    | (go_at_call 25; (with_reducible refine Calls.mono (fault_any _ _ _ _) ?_); rintro e w5 ⟨rfl, rfl⟩)
    | (go_at_call 29; (with_reducible refine Calls.mono C1.out ?_); rintro e w5 ⟨rfl, hb⟩; have HB2 := Lib.hid hb; have HR2 := Lib.hid (HR.out.below hb); clear hb)
    | (go_at_call 30; (with_reducible refine Calls.mono (C2.out _ HR2.out) ?_); rintro e w6 ⟨rfl, hcs, hsz, hb⟩; have HB3 := Lib.hid hb; have hbk := below_blk hb (below_blk HB2.out HBK.out); have r0 := (blk_cell hbk 0).trans rfl; have r1 := (blk_cell hbk 1).trans rfl; have r2 := (blk_cell hbk 2).trans rfl; have rf0 := blk_fz hbk 0; have rf1 := blk_fz hbk 1; have rf2 := blk_fz hbk 2; have HBK3 := Lib.hid hbk; clear hbk; have HR3 := Lib.hid (HR2.out.below hb); have HS3 := Lib.hid hsz; have HCS := Lib.hid hcs; have k0 := first_cell HCS.out H0.out; clear hb hcs hsz)
    | (go_at_call 31; (with_reducible refine Calls.mono (C3.out _) ?_); rintro e w7 ⟨rfl, rfl⟩)
    | (go_at_call 32; (with_reducible refine Calls.mono (C4.out _ HR3.out) ?_); rintro e w8 ⟨⟨N, rfl⟩, hb⟩; replace HB3 := Lib.hid (below_to HB3.out hb); replace HBK3 := Lib.hid (below_blk hb HBK3.out); replace HR3 := Lib.hid (HR3.out.below hb); replace r0 := cell_in hb r0; replace r1 := cell_in hb r1; replace r2 := cell_in hb r2; replace rf0 := blk_fz HBK3.out 0; replace rf1 := blk_fz HBK3.out 1; replace rf2 := blk_fz HBK3.out 2; clear hb))
  have hbut := ((((But.of_below (HB2.out.trans (HB3.out.mono HB2.out.size)) (Nat.le_refl _)).setCell 0 (.int .i64 0)).setCell 1 (.slice none 0 0)).setCell 2 (.string ⟨#[]⟩) : But w.heap.size _ _)
  have HE := Lib.hid (bad_end HW.out HB1.out HFL.out hbut)
  have hk := blk_set (blk_set (blk_set HBK3.out 0 (.int .i64 0)) 1 (.slice none 0 0)) 2 (.string ⟨#[]⟩)
  have f0 := (blk_cell hk 0).trans rfl
  have f1 := (blk_cell hk 1).trans rfl
  have f2 := (blk_cell hk 2).trans rfl
  clear hk hbut r0 r1 r2 rf0 rf1 rf2
  generalize ((World.setCell _ ⟨w.heap.size, 0, none⟩ _).setCell ⟨w.heap.size, 1, none⟩ _).setCell ⟨w.heap.size, 2, none⟩ _ = wf at *
  exact bodyPost_ret (v := .tuple #[.agg #[.int .i64 0, .slice none 0 0, .string ⟨#[]⟩], .iface 54 (.pointer (some ⟨w.heap.size + 1, 0, none⟩))]) (by simp [results, Tryz.results11, go_sem, f0, f1, f2]) rfl ⟨_, rfl, HE.out.1, HE.out.2⟩
end Go.Proofs.YtpjjkejppgehaaaGreatDoor

/- http.Read past the first tests: the lines, and the last look. -/
namespace Go.Proofs.YtpjjkejppgehaaaGreatDoor
set_option linter.unusedSimpArgs false
set_option linter.unusedVariables false
open Go.RowKit Go.Lib
theorem infoR43 : (Tryz.prog.info? 43).map (fun i => (i.zero, i.size, i.bytes)) = some (some (.agg #[.string ⟨#[]⟩, .string ⟨#[]⟩]), 2, 32) := by kernel_rfl
/-- What a row holds lies as headers. -/
theorem lies_of_own {w : World} {M k : Nat} {v : Value} {h : HL} (hk : h.length = k) (ho : w.ownsRow M 43 2 v k (hcells h)) : ∃ A c, v = .slice A h.length c ∧ LiesH w A h ∧ h.length ≤ c ∧ ∀ ad, A = some ad → M ≤ ad.block := by
  have hcap : ∀ g cap, v = .slice (some ⟨g, 0, none⟩) k cap → k ≤ cap := fun g cap e => by
    rcases ho.2 with ⟨e2, _⟩ | ⟨g', cap', cur, e2, _, _, h4, _⟩
    · rw [e2] at e; cases e
    · rw [e2] at e; injection e with _ _ e; omega
  rcases Go.Joins.ownsRow_forms ho with ⟨rfl, h0⟩ | ⟨g, cap, rfl⟩
  · exact ⟨none, 0, by rw [hk, h0], fun hp => (by omega), by omega, fun _ e => by cases e⟩
  · refine ⟨some ⟨g, 0, none⟩, cap, by rw [hk], fun _ => ⟨_, rfl, fun j hj => ?_⟩, by rw [hk]; exact hcap g cap rfl, fun ad e => by injection e with e; subst e; exact (ho.lt g rfl).1⟩
    have h1 := ho.cellAt (j * 2) (by omega)
    have h2 := ho.cellAt (j * 2 + 1) (by omega)
    obtain ⟨e1, e2⟩ := hcells_at h j hj
    rw [e1] at h1
    rw [e2] at h2
    exact ⟨by rw [Lib.add_plain, Nat.zero_add]; exact h1, by rw [Lib.add_plain, Nat.zero_add]; exact h2⟩
theorem add_blk (a : Addr) (k : Nat) : (a.add k).block = a.block := by unfold Addr.add; split <;> rfl
theorem lies_but {w w' : World} {A : Option Addr} {p : HL} {b : Nat} (h : LiesH w A p) (hb : But b w w') (hA : ∀ ad, A = some ad → ad.block ≠ b) : LiesH w' A p := fun hp => by
  obtain ⟨ad, h1, h2⟩ := h hp
  exact ⟨ad, h1, fun j hj => ⟨hb.cell (by rw [add_blk]; exact hA ad h1) (h2 j hj).1, hb.cell (by rw [add_blk]; exact hA ad h1) (h2 j hj).2⟩⟩
set_option maxRecDepth 20000 in
set_option maxHeartbeats 8000000 in
theorem read_go (s hd bd : ByteArray) (ok : Bool) (n : Nat) (x0 fs : ByteArray) (ok2 : Bool) (L : List ByteArray) (w : World) (hI : RInv w) (hF : Front s hd bd ok n x0 fs ok2 L) (o : Option HL) (ho : linesB (L.drop 1).dropLast = o) (hok : ok = true) (hok2 : ok2 = true) (h2 : 2 ≤ n) (hnb : n ≤ 100001) (hxs : ∀ x ∈ (L.drop 1).dropLast, x.size ≤ 20000) (hbd : bd.size ≤ 20000) (h3 : 3 ≤ fs.size) (v : Int) (h4 : ∀ x, RInv x → Calls Tryz.prog 32 #[.string (fs.extract 0 3)] x fun e w' => e = .returned (.tuple #[.int .i64 v, .nilIface]) ∧ Below x.heap.size x w') :
    Calls Tryz.prog 11 #[.string s] w (GoIs s v bd o w) := by
  have hb0 : Below w.heap.size w (w.alloc (.cells #[.int .i64 0, .slice none 0 0, .string ⟨#[]⟩] 24)) := (Below.refl _ _).alloc (Nat.le_refl _) _
  obtain ⟨er, her, hflt⟩ := flt5 _ (hI.below hb0)
  have hb1 : Below w.heap.size w ((w.alloc (.cells #[.int .i64 0, .slice none 0 0, .string ⟨#[]⟩] 24)).alloc (.cells #[.int .i64 0, .iface 167 (.pointer (some er))] 58)) := hb0.alloc (by simp) _
  have hR := hI.below hb1
  have HI := Lib.hid hI
  have C1 := Lib.hid (hF.c1 _ hR)
  have C2 := Lib.hid hF.c2
  have C3 := Lib.hid hF.c3
  have hn0 : 0 < n := by have h := hF.h0; rw [hF.hn]; rcases Nat.eq_zero_or_pos L.length with e | e; · rw [List.getElem?_eq_none (by omega)] at h; cases h
                         · exact e
  have HNL := Lib.hid hF.hn
  have hnz : (0 : Int) < (n : Int) := by omega
  have hfl := hflt _ (Below.refl _ _)
  rw [World.size_alloc] at hfl
  have HFL := Lib.hid hfl
  have HW := Lib.hid (World.block_lt_of_cell? w ⟨2, 0, none⟩ (hI.is.sent 5 (by omega) (by omega)).choose_spec.1)
  have HB1 := Lib.hid hb1
  have HR := Lib.hid hR
  have H0 := Lib.hid hF.h0
  have hbk : ((w.alloc (.cells #[.int .i64 0, .slice none 0 0, .string ⟨#[]⟩] 24)).alloc (.cells #[.int .i64 0, .iface 167 (.pointer (some er))] 58)).heap[w.heap.size]? = some (.cells #[.int .i64 0, .slice none 0 0, .string ⟨#[]⟩] 24 (0, 0)) := below_blk ((Below.refl _ _).alloc (Nat.le_refl _) _) (heap_alloc_new w _)
  have HBK := Lib.hid hbk
  clear hb0 hb1 hI hF hflt hfl hR hbk
  subst hok hok2
  have h2' : ¬ (n : Int) < 2 := by omega
  have h3' : ¬ (fs.size : Int) < 3 := by omega
  have h3'' : (3 : Int) ≤ (fs.size : Int) := by omega
  have h3n : 3 ≤ fs.size := h3
  have C4 := Lib.hid h4
  have h2i : (1 : Int) ≤ (n : Int) - 1 := by omega
  have h2j : (n : Int) - 1 ≤ (n : Int) := by omega
  have hn1 : ¬ n = 1 := by omega
  have HXS := Lib.hid hxs
  have HBD := Lib.hid hbd
  clear h3 h4 hxs hbd
  go_enter Tryz.func11, Tryz.ntmps11
  go_wp2_with (first
    | (go_at_call 25; (with_reducible refine Calls.mono (fault_any _ _ _ _) ?_); rintro e w5 ⟨rfl, rfl⟩)
    | (go_at_call 29; (with_reducible refine Calls.mono C1.out ?_); rintro e w5 ⟨rfl, hb⟩; have HB2 := Lib.hid hb; have HR2 := Lib.hid (HR.out.below hb); clear hb)
    | (go_at_call 30; (with_reducible refine Calls.mono (C2.out _ HR2.out) ?_); rintro e w6 ⟨rfl, hcs, hsz, hb⟩; have HB3 := Lib.hid hb; have hbk := below_blk hb (below_blk HB2.out HBK.out); have r0 := (blk_cell hbk 0).trans rfl; have r1 := (blk_cell hbk 1).trans rfl; have r2 := (blk_cell hbk 2).trans rfl; have rf0 := blk_fz hbk 0; have rf1 := blk_fz hbk 1; have rf2 := blk_fz hbk 2; have HBK3 := Lib.hid hbk; clear hbk; have HR3 := Lib.hid (HR2.out.below hb); have HS3 := Lib.hid hsz; have HCS := Lib.hid hcs; have k0 := first_cell HCS.out H0.out; clear hb hcs hsz)
    | (go_at_call 31; (with_reducible refine Calls.mono (C3.out _) ?_); rintro e w7 ⟨rfl, rfl⟩)
    | (go_at_call 32; (with_reducible refine Calls.mono (C4.out _ HR3.out) ?_); rintro e w8 ⟨rfl, hb⟩; replace HB3 := Lib.hid (below_to HB3.out hb); replace HBK3 := Lib.hid (below_blk hb HBK3.out); replace HR3 := Lib.hid (HR3.out.below hb); replace r0 := cell_in hb r0; replace r1 := cell_in hb r1; replace r2 := cell_in hb r2; replace rf0 := blk_fz HBK3.out 0; replace rf1 := blk_fz HBK3.out 1; replace rf2 := blk_fz HBK3.out 2; have HCS8 := Lib.hid (fun j hj => cell_in hb (HCS.out j hj)); have HB47 := Lib.hid hb; clear hb))
  have hW8 : Below w.heap.size w w8 := HB1.out.trans ((HB2.out.trans (HB3.out.mono HB2.out.size)).mono (by have := HB1.out.size; omega))
  have hG0 : w.heap.size < w8.heap.size := heap_lt HBK3.out
  have hS8 : w5.heap.size < w8.heap.size := by have := HS3.out; have h1 := HB47.out.size; omega
  have hlo : w.heap.size ≤ w5.heap.size := Nat.le_trans HB1.out.size HB2.out.size
  have hlt2 : w.heap.size + 2 ≤ w5.heap.size := by have h := HB2.out.size; simp at h; omega
  have hA2 := HB2.out.trans (HB3.out.mono HB2.out.size)
  obtain ⟨M, hM⟩ : ∃ M, M = n - 1 - 1 := ⟨_, rfl⟩
  rw [← hM]
  obtain ⟨mid, hmid⟩ : ∃ mid, mid = (L.drop 1).dropLast := ⟨_, rfl⟩
  have hml : mid.length = M := by rw [hmid, List.length_dropLast, List.length_drop, ← HNL.out, hM]
  have hmat : ∀ k (hk : k < mid.length), w8.cell? ⟨w5.heap.size, 1 + k, none⟩ = some (.string mid[k]) := fun k hk => by
    have hk' : 1 + k < L.length := by rw [← HNL.out]; omega
    have h := HCS8.out (1 + k) hk'
    rw [h]
    simp [hmid, List.getElem_dropLast, Nat.add_comm]
  rw [← hmid] at ho
  have HOO := Lib.hid ho
  have HMAT := Lib.hid hmat
  have HXM : Hid (∀ x ∈ mid, x.size ≤ 20000) := by show ∀ x ∈ mid, _; rw [hmid]; exact HXS.out
  have HML := Lib.hid hml
  have HG0 := Lib.hid hG0
  have HW8 := Lib.hid hW8
  have HA2 := Lib.hid hA2
  have HLO := Lib.hid hlo
  have HL2 := Lib.hid hlt2
  have HS8 := Lib.hid hS8
  have hMb : M ≤ 100001 := by omega
  clear ho hmid hml hM hmat hW8 hG0 h2i h2j hn1 h2 hnb hn0 hnz h2' h3'' h3n hA2 hlo hlt2 hS8 k0 her
  obtain ⟨i0, hi0, hz0, hz1, hz2⟩ := info_parts infoR43
  have hown0 : (w8.alloc (.cells #[.int .i64 v, .slice none 0 0, .string bd] 24)).ownsRow (w8.heap.size + 1) 43 2 (.slice none 0 0) 0 [] := World.ownsRow_nil _ _ _ _
  have hD0 := heap_alloc_new w8 (.cells #[.int .i64 v, .slice none 0 0, .string bd] 24)
  have hsz0 : (w8.alloc (.cells #[.int .i64 v, .slice none 0 0, .string bd] 24)).heap.size = w8.heap.size + 1 := by simp
  have hb00 : Below w8.heap.size w8 (w8.alloc (.cells #[.int .i64 v, .slice none 0 0, .string bd] 24)) := (Below.refl _ _).alloc (Nat.le_refl _) _
  have HO := Lib.hid hown0
  have HD := Lib.hid hD0
  have HSZ := Lib.hid hsz0
  have HB0 := Lib.hid hb00
  clear hown0 hD0 hsz0 hb00 r0 r1 r2 rf0 rf1 rf2
  generalize w8.alloc (.cells #[.int .i64 v, .slice none 0 0, .string bd] 24) = W0 at *
  go_loopw [73] (fun i wr => ∃ (k : Nat) (h : HL) (hv : Value), k ≤ M ∧ h.length = k ∧ i = .int .i64 k ∧ o = (linesB (mid.drop k)).map (h ++ ·) ∧ But w8.heap.size W0 wr ∧ wr.heap[w8.heap.size]? = some (.cells #[.int .i64 v, hv, .string bd] 24 (0, 0)) ∧ wr.ownsRow (w8.heap.size + 1) 43 2 hv k (hcells h) ∧ (∀ j (hj : j < h.length), h[j].1.size ≤ 20000 ∧ h[j].2.size ≤ 20000)) (fun i _ => M - (RowKit.intOf i).toNat)
  case atStart => exact ⟨0, [], _, by omega, rfl, rfl, by rw [List.drop_zero, HOO.out]; cases o <;> rfl, But.refl _ _, HD.out, HO.out, fun j hj => by cases hj⟩
  case round =>
    obtain ⟨k, h, hv, hk, hhl, rfl, hL, hBut, hDk, hown, hsz⟩ := hrel
    have hBw : Below w8.heap.size w8 wr := HB0.out.trans (hBut.below (Nat.le_refl _) (by have := HSZ.out; omega))
    have hBww : Below w.heap.size w wr := HW8.out.trans (hBw.mono (by have := HG0.out; omega))
    have hRI := HI.out.below hBww
    have hbr := below_blk hBw HBK3.out
    have hwl : w8.heap.size + 1 ≤ wr.heap.size := by have := hBut.size; have := HSZ.out; omega
    by_cases hkl : k < M
    · have hkl' : (k : Int) < (M : Int) := by omega
      have hkm : k < mid.length := by rw [HML.out]; exact hkl
      have hx0 := (hBw.cell (p := ⟨w5.heap.size, 1 + k, none⟩) HS8.out).trans (HMAT.out k hkm)
      have hdr : mid.drop k = mid[k] :: mid.drop (k + 1) := List.drop_eq_getElem_cons hkm
      have hxs := HXM.out mid[k] (List.getElem_mem hkm)
      generalize mid[k] = x at hx0 hdr hxs
      obtain ⟨ca, cb, cok, hcut⟩ : ∃ ca cb cok, cutB x colonB = (ca, cb, cok) := ⟨_, _, _, rfl⟩
      have C5 := cut_call x colonB wr (by omega) hRI.ml
      obtain ⟨z1, z2⟩ := cut_sizes x colonB
      rw [hcut] at C5 z1 z2
      dsimp only at z1 z2
      rw [hdr] at hL
      have HC5 : Hid (Calls Tryz.prog 29 #[.string x, .string ⟨#[58, 32]⟩] wr fun e w' => e = .returned (.tuple #[.string ca, .string cb, .bool cok]) ∧ Below wr.heap.size wr w') := C5
      have HBut := Lib.hid hBut
      have HOwn := Lib.hid hown
      have HSz := Lib.hid hsz
      have HHL := Lib.hid hhl
      have HBW := Lib.hid hBw
      have HDk := Lib.hid hDk
      have HBR := Lib.hid hbr
      cases cok with
      | false =>
        rw [linesB, if_neg (by rw [hcut]; simp), Option.map_none] at hL
        subst hL
        clear hBut hown hsz hhl hBw hRI hBww C5 hDk hdr hcut hxs z1 z2 hbr
        go_wp2_with (go_at_call 29; (with_reducible refine Calls.mono HC5.out ?_); rintro e w9 ⟨rfl, hb⟩; have hbr := below_blk hb HBR.out; have r0 := (blk_cell hbr 0).trans rfl; have r1 := (blk_cell hbr 1).trans rfl; have r2 := (blk_cell hbr 2).trans rfl; have rf0 := blk_fz hbr 0; have rf1 := blk_fz hbr 1; have rf2 := blk_fz hbr 2; have HBX := Lib.hid hbr; have HB9 := Lib.hid hb; clear hb hbr)
        have hbut := ((((But.of_below (HA2.out.trans ((below_to' HBW.out HB9.out HBW.out.size).mono (by have := HS8.out; have := HL2.out; simp; omega))) (by simp)).setCell 0 (.int .i64 0)).setCell 1 (.slice none 0 0)).setCell 2 (.string ⟨#[]⟩) : But w.heap.size _ _)
        have HE := Lib.hid (bad_end HW.out HB1.out HFL.out hbut)
        have hk := blk_set (blk_set (blk_set HBX.out 0 (.int .i64 0)) 1 (.slice none 0 0)) 2 (.string ⟨#[]⟩)
        have f0 := (blk_cell hk 0).trans rfl
        have f1 := (blk_cell hk 1).trans rfl
        have f2 := (blk_cell hk 2).trans rfl
        clear hk hbut r0 r1 r2 rf0 rf1 rf2
        generalize ((World.setCell _ ⟨w.heap.size, 0, none⟩ _).setCell ⟨w.heap.size, 1, none⟩ _).setCell ⟨w.heap.size, 2, none⟩ _ = wf at *
        exact bodyPost_ret (v := .tuple #[.agg #[.int .i64 0, .slice none 0 0, .string ⟨#[]⟩], .iface 54 (.pointer (some ⟨w.heap.size + 1, 0, none⟩))]) (by simp [results, Tryz.results11, go_sem, f0, f1, f2]) rfl ⟨_, rfl, HE.out.1, HE.out.2⟩
      | true =>
        rw [linesB_cons x _ h (by rw [hcut]), hcut] at hL
        have hL' := Lib.hid hL
        have HZA : Hid (ca.size ≤ 20000 ∧ cb.size ≤ 20000) := ⟨by omega, by omega⟩
        have HWL := Lib.hid hwl
        clear hL hBut hown hsz hhl hBw hRI hBww C5 hDk hdr hcut hxs hbr z1 z2 hwl
        go_wp2_with (first
          | (go_at_call 29; (with_reducible refine Calls.mono HC5.out ?_); rintro e w9 ⟨rfl, hb⟩; have HB9 := Lib.hid hb; have hd9 := below_blk hb HDk.out; have HD9 := Lib.hid hd9; have HO9 := Lib.hid (own_below HOwn.out hb); have c1 := (blk_cell hd9 1).trans rfl; have f1 := blk_fz hd9 1; clear hb hd9)
          | (at_builtin; refine wpList_append_own _ rfl _ _ 22 rfl (w8.heap.size + 1) 43 i0 _ 2 32 Tryz.underlying22 hi0 hz0 hz1 hz2 rfl (by decide) hv k (hcells h) rfl (HO9.out.alloc _) ⟨w9.heap.size, 0, none⟩ 1 1 [.string ca, .string cb] rfl rfl ?c1 ?c2 ?c3 ?c4 ?c5 ?_))
        case c1 => exact World.news_of_block (cs := #[.string ca, .string cb]) (t := 43) (fr := (0, 0)) (heap_alloc_new w9 _)
        case c2 => simp [Value.oneCell']
        case c3 => unfold maxLen; omega
        case c4 => omega
        case c5 => have h1 := HB9.out.size; have h2 := HWL.out; simp; omega
        intro v' w10 hown' hgrow _
        have hDlt : w8.heap.size < w9.heap.size := heap_lt HD9.out
        have hrow : ∀ g, hv.ownBlock = some g → w8.heap.size + 1 ≤ g := fun g hg => (HO9.out.lt g hg).1
        have hd10 : w10.heap[w8.heap.size]? = some (.cells #[.int .i64 v, hv, .string bd] 24 (0, 0)) :=
          (hgrow.block _ (by simp; omega) (fun e => by have := hrow _ e.symm; omega)).trans (below_blk ((Below.refl _ _).alloc (Nat.le_refl _) _) HD9.out)
        obtain ⟨ao, n', cap, rfl⟩ : ∃ ao n' cap, v' = .slice ao n' cap := by
          rcases hown'.2 with ⟨e, _⟩ | ⟨g, cap, cur, e, _⟩
          · exact ⟨_, _, _, e⟩
          · exact ⟨_, _, _, e⟩
        have hbut10 : But w8.heap.size W0 w10 := by
          have h1 := (HBut.out.trans (But.of_below HB9.out (Nat.le_refl _))).alloc (.cells #[.string ca, .string cb] 43)
          refine ⟨hgrow.os.trans h1.os, hgrow.tape.trans h1.tape, hgrow.output.trans h1.output, Nat.le_trans h1.size hgrow.size, fun j hj hjD => ?_⟩
          exact (hgrow.block j (Nat.lt_of_lt_of_le hj h1.size) (fun e => by have := hrow _ e.symm; have := HSZ.out; omega)).trans (h1.block j hj hjD)
        have d1 := (blk_cell hd10 1).trans rfl
        have g1 := blk_fz hd10 1
        have HD10 := Lib.hid (blk_set hd10 1 (.slice ao n' cap))
        have HO10 := Lib.hid (ownsRow_setCell_below hown' (a := ⟨w8.heap.size, 1, none⟩) (by show w8.heap.size < _; omega) (.slice ao n' cap))
        have HBU := Lib.hid (hbut10.setCell 1 (.slice ao n' cap))
        clear hrow hDlt hd10 hbut10 hgrow hown' c1 f1
        go_wp2
        go_roundw
        case rel =>
          refine ⟨k + 1, h ++ [(ca, cb)], .slice ao n' cap, by omega, by rw [List.length_append, HHL.out]; rfl, by go_num, hL'.out, HBU.out, HD10.out, by rw [hcells_snoc]; exact HO10.out, fun j hj => ?_⟩
          rw [List.length_append, List.length_singleton] at hj
          by_cases hjl : j < h.length
          · rw [List.getElem_append_left hjl]; exact HSz.out j hjl
          · rw [List.getElem_append_right (by omega)]; simp; exact HZA.out
        case measure => simp [RowKit.intOf]; omega
    · have hkl' : ¬ (k : Int) < (M : Int) := by omega
      have hkM : k = M := by omega
      have hnil : mid.drop k = [] := List.drop_eq_nil_of_le (by rw [HML.out]; omega)
      rw [hnil, linesB, Option.map_some, List.append_nil] at hL
      subst hL
      obtain ⟨A, c, rfl, hlies, hcap, hfar⟩ := lies_of_own hhl hown
      have HCAP := Lib.hid hcap
      have HFAR := Lib.hid hfar
      have hC8 := text_any v A c h bd wr hRI.is hRI.pow hlies hsz HBD.out
      generalize hT : textB v h bd = T at hC8
      have HC8 := Lib.hid hC8
      have HDk := Lib.hid hDk
      have HBR := Lib.hid hbr
      have HLI := Lib.hid hlies
      have HBWW := Lib.hid hBww
      have HT := Lib.hid hT
      have HBW := Lib.hid hBw
      have HHL := Lib.hid hhl
      have c0 := (blk_cell hDk 0).trans rfl
      have c1 := (blk_cell hDk 1).trans rfl
      have c2 := (blk_cell hDk 2).trans rfl
      have HMG := Lib.hid hwl
      clear hBut hown hsz hBw hRI hBww hDk hbr hlies hC8 hT hnil hkM hwl hk hfar hcap
      obtain rfl := hhl
      by_cases hTs : T = s
      · subst hTs
        have hne : (T.toList != T.toList) = false := by simp
        go_wp2_with (go_at_call 8; (with_reducible refine Calls.mono HC8.out ?_); rintro e w9 ⟨rfl, hb⟩; have hd9 := below_blk hb HDk.out; have d0 := (blk_cell hd9 0).trans rfl; have d1 := (blk_cell hd9 1).trans rfl; have d2 := (blk_cell hd9 2).trans rfl; have hbr := below_blk hb HBR.out; have r0 := (blk_cell hbr 0).trans rfl; have r1 := (blk_cell hbr 1).trans rfl; have r2 := (blk_cell hbr 2).trans rfl; have rf0 := blk_fz hbr 0; have rf1 := blk_fz hbr 1; have rf2 := blk_fz hbr 2; have HBX := Lib.hid hbr; have HB9 := Lib.hid hb; clear hb hbr hd9)
        have HLI9 := Lib.hid (HLI.out.below HB9.out)
        have hbut := ((((But.refl w.heap.size _).setCell 0 (.int .i64 v)).setCell 1 (.slice A h.length c)).setCell 2 (.string bd) : But w.heap.size w9 _)
        have hk := blk_set (blk_set (blk_set HBX.out 0 (.int .i64 v)) 1 (.slice A h.length c)) 2 (.string bd)
        have f0 := (blk_cell hk 0).trans rfl
        have f1 := (blk_cell hk 1).trans rfl
        have f2 := (blk_cell hk 2).trans rfl
        clear hk r0 r1 r2 rf0 rf1 rf2 c0 c1 c2 d0 d1 d2
        generalize ((World.setCell w9 ⟨w.heap.size, 0, none⟩ _).setCell ⟨w.heap.size, 1, none⟩ _).setCell ⟨w.heap.size, 2, none⟩ _ = wf at *
        have hG : GoIs T v bd (some h) w (.returned (.tuple #[.agg #[.int .i64 v, .slice A h.length c, .string bd], .nilIface])) wf := by
          rw [GoIs, if_pos HT.out]
          refine ⟨A, c, rfl, lies_but HLI9.out hbut (fun ad e => ?_), HCAP.out, ?_⟩
          · have h1 := HFAR.out ad e
            have h2 := HG0.out
            omega
          · have h1 := HBWW.out.trans (HB9.out.mono HBWW.out.size)
            exact h1.trans (hbut.below (Nat.le_refl _) h1.size)
        exact bodyPost_ret (v := .tuple #[.agg #[.int .i64 v, .slice A h.length c, .string bd], .nilIface]) (by simp [results, Tryz.results11, go_sem, f0, f1, f2]) rfl hG
      · have hne : (T.toList != s.toList) = true := by
          rw [bne_iff_ne]
          intro e
          apply hTs
          have e2 := e
          rw [ByteArray.toList_eq, ByteArray.toList_eq] at e2
          exact ByteArray.ext (Array.ext' e2)
        have hne2 : (T.toList == s.toList) = false := by
          rw [beq_eq_false_iff_ne]
          exact bne_iff_ne.1 hne
        go_wp2_with (go_at_call 8; (with_reducible refine Calls.mono HC8.out ?_); rintro e w9 ⟨rfl, hb⟩; have hd9 := below_blk hb HDk.out; have d0 := (blk_cell hd9 0).trans rfl; have d1 := (blk_cell hd9 1).trans rfl; have d2 := (blk_cell hd9 2).trans rfl; have hbr := below_blk hb HBR.out; have r0 := (blk_cell hbr 0).trans rfl; have r1 := (blk_cell hbr 1).trans rfl; have r2 := (blk_cell hbr 2).trans rfl; have rf0 := blk_fz hbr 0; have rf1 := blk_fz hbr 1; have rf2 := blk_fz hbr 2; have HBX := Lib.hid hbr; have HB9 := Lib.hid hb; clear hb hbr hd9)
        have hbut := ((((But.of_below (HA2.out.trans ((below_to' HBW.out HB9.out HBW.out.size).mono (by have := HS8.out; have := HL2.out; simp; omega))) (by simp)).setCell 0 (.int .i64 0)).setCell 1 (.slice none 0 0)).setCell 2 (.string ⟨#[]⟩) : But w.heap.size _ _)
        have HE := Lib.hid (bad_end HW.out HB1.out HFL.out hbut)
        have hk := blk_set (blk_set (blk_set HBX.out 0 (.int .i64 0)) 1 (.slice none 0 0)) 2 (.string ⟨#[]⟩)
        have f0 := (blk_cell hk 0).trans rfl
        have f1 := (blk_cell hk 1).trans rfl
        have f2 := (blk_cell hk 2).trans rfl
        clear hk hbut r0 r1 r2 rf0 rf1 rf2 c0 c1 c2 d0 d1 d2
        generalize ((World.setCell _ ⟨w.heap.size, 0, none⟩ _).setCell ⟨w.heap.size, 1, none⟩ _).setCell ⟨w.heap.size, 2, none⟩ _ = wf at *
        have hG : GoIs s v bd (some h) w (.returned (.tuple #[.agg #[.int .i64 0, .slice none 0 0, .string ⟨#[]⟩], .iface 54 (.pointer (some ⟨w.heap.size + 1, 0, none⟩))])) wf := by
          rw [GoIs, if_neg (by rw [HT.out]; exact hTs)]
          exact ⟨_, rfl, HE.out.1, HE.out.2⟩
        exact bodyPost_ret (v := .tuple #[.agg #[.int .i64 0, .slice none 0 0, .string ⟨#[]⟩], .iface 54 (.pointer (some ⟨w.heap.size + 1, 0, none⟩))]) (by simp [results, Tryz.results11, go_sem, f0, f1, f2]) rfl hG
end Go.Proofs.YtpjjkejppgehaaaGreatDoor

/- http.Read of any bytes; and HttpReads. -/
namespace Go.Proofs.YtpjjkejppgehaaaGreatDoor
set_option linter.unusedSimpArgs false
set_option linter.unusedVariables false
open Go.RowKit Go.Lib

theorem extz (s : ByteArray) (a b : Nat) : (s.extract a b).size ≤ s.size := by
  rw [ByteArray.size_extract]; omega
theorem splitB_sizes (sep : ByteArray) : ∀ (k : Nat) (s : ByteArray), ∀ x ∈ splitB sep 0 k s, x.size ≤ s.size
  | 0, s, x, h => by
    rw [splitB_zero] at h
    obtain rfl := List.mem_singleton.1 h
    exact Nat.le_refl _
  | k + 1, s, x, h => by
    rw [splitB] at h
    split at h
    · obtain rfl := List.mem_singleton.1 h
      exact Nat.le_refl _
    · rcases List.mem_cons.1 h with rfl | h
      · exact extz _ _ _
      · exact Nat.le_trans (splitB_sizes sep k _ x h) (extz _ _ _)
theorem rows_sizes (s x : ByteArray) (h : x ∈ rowsB s) : x.size ≤ s.size := splitB_sizes sepB _ s x h
theorem rows_len (s : ByteArray) : (rowsB s).length = countB s sepB + 1 ∧ (rowsB s).length ≤ s.size + 1 := by
  have h := splitB_all sepB (by decide) 0 _ s rfl
  have h2 := countB_le sepB (by decide) s.size s (Nat.le_refl _)
  exact ⟨h, by show (splitB _ _ _ _).length ≤ _; omega⟩
theorem linesB_sizes : ∀ (L : List ByteArray) (m : Nat) (h : HL), linesB L = some h → (∀ x ∈ L, x.size ≤ m) → ∀ j (hj : j < h.length), h[j].1.size ≤ m ∧ h[j].2.size ≤ m
  | [], m, h, e, _, j, hj => by
    rw [linesB] at e
    injection e with e
    subst e
    cases hj
  | x :: r, m, h, e, hm, j, hj => by
    rw [linesB] at e
    split at e
    · obtain ⟨h', e1, rfl⟩ := Option.map_eq_some_iff.1 e
      cases j with
      | zero =>
        have := cut_sizes x colonB
        have := hm x List.mem_cons_self
        exact ⟨by show (cutB x colonB).1.size ≤ m; omega, by show (cutB x colonB).2.1.size ≤ m; omega⟩
      | succ j => exact linesB_sizes r m h' e1 (fun y hy => hm y (List.mem_cons_of_mem _ hy)) j (by simpa using hj)
    · cases e
/-- What is read is a right response whose bytes these are. -/
theorem read_right (s : ByteArray) (n : Int) (l : HL) (b : ByteArray) (h : readP s = some (n, l, b)) : textB n l b = s ∧ checkP n l b = none ∧ b.size ≤ s.size ∧ ∀ j (hj : j < l.length), l[j].1.size ≤ s.size ∧ l[j].2.size ≤ s.size := by
  unfold readP at h
  split at h
  · rename_i hc
    obtain ⟨c1, c2, c3, c4⟩ := hc
    split at h
    · cases h
    · split at h
      · cases h
      · rename_i l' hl
        split at h
        · rename_i ht
          injection h with h
          injection h with h1 h2
          injection h2 with h2 h3
          subst h1 h2 h3
          have hb := (cut_sizes s sep2B).2
          have hd := (cut_sizes s sep2B).1
          refine ⟨ht, ?_, hb, linesB_sizes _ _ _ hl fun x hx => Nat.le_trans (rows_sizes _ x (List.mem_of_mem_drop ((List.dropLast_sublist _).subset hx))) hd⟩
          refine Classical.byContradiction fun hne => ?_
          rw [textB, if_neg hne] at ht
          rw [← ht] at c1
          revert c1
          decide
        · cases h
  · cases h
theorem front_of (s : ByteArray) (hs : s.size ≤ 20000) : Front s (cutB s sep2B).1 (cutB s sep2B).2.1 (cutB s sep2B).2.2 (rowsB (cutB s sep2B).1).length ((rowsB (cutB s sep2B).1).headD ⟨#[]⟩) (trimP ((rowsB (cutB s sep2B).1).headD ⟨#[]⟩)) (hasP ((rowsB (cutB s sep2B).1).headD ⟨#[]⟩)) (rowsB (cutB s sep2B).1) := by
  have hd := (cut_sizes s sep2B).1
  refine ⟨fun x hx => cut_call s sep2B x (by omega) hx.ml, fun x hx => split_call _ x (by omega) hx.ml, fun x => prefix_call _ x, rfl, ?_⟩
  have hl := (rows_len (cutB s sep2B).1).1
  cases hr : rowsB (cutB s sep2B).1 with
  | nil => rw [hr] at hl; simp at hl
  | cons a r => rfl
theorem read_any (s : ByteArray) (hs : s.size ≤ 20000) (w : World) (hI : RInv w) :
    Calls Tryz.prog 11 #[.string s] w fun e w' => ∃ v, e = .returned v ∧ ReadIs w' v (readP s) ∧ Below w.heap.size w w' := by
  have hF := front_of s hs
  have hd := (cut_sizes s sep2B).1
  have hb := (cut_sizes s sep2B).2
  obtain ⟨hn, hn1⟩ := rows_len (cutB s sep2B).1
  have hbad : readP s = none → ∀ e w', BadIs w e w' → ∃ v, e = .returned v ∧ ReadIs w' v (readP s) ∧ Below w.heap.size w w' := by
    rintro h e w' ⟨f, rfl, h1, h2⟩
    exact ⟨_, rfl, by rw [h]; exact ⟨f, rfl, h1⟩, h2⟩
  by_cases c1 : (cutB s sep2B).2.2 = true
  · by_cases c2 : hasP ((rowsB (cutB s sep2B).1).headD ⟨#[]⟩) = true
    · by_cases c3 : 2 ≤ (rowsB (cutB s sep2B).1).length
      · by_cases c4 : 3 ≤ (trimP ((rowsB (cutB s sep2B).1).headD ⟨#[]⟩)).size
        · have hsz : ((trimP ((rowsB (cutB s sep2B).1).headD ⟨#[]⟩)).extract 0 3).size ≤ 18 := by rw [ByteArray.size_extract]; omega
          cases ha : atoi ((trimP ((rowsB (cutB s sep2B).1).headD ⟨#[]⟩)).extract 0 3).data.toList with
          | none =>
            exact (read_bad5 s _ _ _ _ _ _ _ _ w hI hF c1 c2 c3 c4 fun x hx => atoi_none _ hsz ha x hx.sy).mono (hbad (by unfold readP; rw [if_pos ⟨c1, c2, c3, c4⟩, ha]))
          | some n =>
            refine (read_go s _ _ _ _ _ _ _ _ w hI hF _ rfl c1 c2 c3 (by omega) (fun x hx => Nat.le_trans (rows_sizes _ x (List.mem_of_mem_drop ((List.dropLast_sublist _).subset hx))) (by omega)) (by omega) c4 n fun x hx => atoi_some _ n hsz ha x).mono fun e w' h => ?_
            cases hl : linesB ((rowsB (cutB s sep2B).1).drop 1).dropLast with
            | none =>
              rw [hl] at h
              exact hbad (by unfold readP; rw [if_pos ⟨c1, c2, c3, c4⟩, ha]; dsimp only; rw [hl]) e w' h
            | some l =>
              rw [hl] at h
              dsimp only [GoIs] at h
              by_cases ht : textB n l (cutB s sep2B).2.1 = s
              · rw [if_pos ht] at h
                obtain ⟨A, c, rfl, h1, hcp, h2⟩ := h
                refine ⟨_, rfl, ?_, h2⟩
                have hr : readP s = some (n, l, (cutB s sep2B).2.1) := by unfold readP; rw [if_pos ⟨c1, c2, c3, c4⟩, ha]; dsimp only; rw [hl]; dsimp only; rw [if_pos ht]
                rw [hr]
                exact ⟨A, c, rfl, h1, hcp⟩
              · rw [if_neg ht] at h
                exact hbad (by unfold readP; rw [if_pos ⟨c1, c2, c3, c4⟩, ha]; dsimp only; rw [hl]; dsimp only; rw [if_neg ht]) e w' h
        · exact (read_bad4 s _ _ _ _ _ _ _ _ w hI hF c1 c2 c3 (by omega)).mono (hbad (by unfold readP; rw [if_neg (fun h => c4 h.2.2.2)]))
      · exact (read_bad3 s _ _ _ _ _ _ _ _ w hI hF c1 c2 (by omega)).mono (hbad (by unfold readP; rw [if_neg (fun h => c3 h.2.2.1)]))
    · exact (read_bad2 s _ _ _ _ _ _ _ _ w hI hF c1 (by simpa using c2)).mono (hbad (by unfold readP; rw [if_neg (fun h => c2 h.2.1)]))
  · exact (read_bad1 s _ _ _ _ _ _ _ _ w hI hF (by simpa using c1)).mono (hbad (by unfold readP; rw [if_neg (fun h => c1 h.1)]))
set_option maxRecDepth 20000 in
set_option maxHeartbeats 4000000 in
/-- HttpReads answers true. -/
theorem reads_any (s : ByteArray) (w : World) (hs : s.size ≤ 9223372036854775807) (hI : RInv w) :
    Calls Tryz.prog 4 #[.string s] w fun e w' => e = .returned (.bool true) ∧ Below w.heap.size w w' := by
  have HW := Lib.hid (awake_any w)
  have HI := Lib.hid hI
  clear hI
  by_cases hbig : s.size > 400
  · have hbig' : (s.size : Int) > 400 := by omega
    go_enter Tryz.func4, Tryz.ntmps4
    go_wp2_with (go_at_call 5; (with_reducible refine Calls.mono HW.out ?_); rintro e w1 ⟨rfl, hb⟩; have HB1 := Lib.hid hb; clear hb)
    go_ret
    exact ⟨rfl, HB1.out⟩
  · have hbig' : ¬ (s.size : Int) > 400 := by omega
    have C := Lib.hid (fun x (hx : RInv x) => read_any s (by omega) x hx)
    cases hr : readP s with
    | none =>
      rw [hr] at C
      clear hbig hr
      go_enter Tryz.func4, Tryz.ntmps4
      go_wp2_with (first
        | (go_at_call 5; (with_reducible refine Calls.mono HW.out ?_); rintro e w1 ⟨rfl, hb⟩; have HB1 := Lib.hid hb; have HR1 := Lib.hid (HI.out.below hb); clear hb)
        | (go_at_call 11; (with_reducible refine Calls.mono (C.out _ HR1.out) ?_); rintro e w2 ⟨v, rfl, ⟨f, rfl, hf⟩, hb⟩; have hf2 := hf; obtain ⟨-, -, g, sx, rfl, -, -⟩ := hf2; have HB2 := Lib.hid (below_to HB1.out hb); have HR2 := Lib.hid (HR1.out.below hb); have HF := Lib.hid hf; clear hb hf)
        | (go_at_call 9; (with_reducible refine Calls.mono (is_any _ _ 0 5 (by decide) (by decide) _ (HF.out.below ((Below.refl _ _).alloc (Nat.le_refl _) _)) (HR2.out.below ((Below.refl _ _).alloc (Nat.le_refl _) _)).is) ?_); rintro e w3 ⟨rfl, hb⟩; have hn2 := below_blk hb (heap_alloc_new w2 _); have y0 := (blk_cell hn2 0).trans rfl; have y1 := (blk_cell hn2 1).trans rfl; have y2 := (blk_cell hn2 2).trans rfl; have HB3 := Lib.hid (below_to (HB2.out.alloc HB2.out.size _) hb); clear hb hn2; rw [show isB (some (0, 5)) 0 5 = true from rfl]))
      go_ret
      exact ⟨rfl, HB3.out⟩
    | some x =>
      obtain ⟨n, l, b⟩ := x
      obtain ⟨g1, g2, g3, g4⟩ := read_right s n l b hr
      have CT := Lib.hid (fun (A : Option Addr) (c : Nat) x (hx : RInv x) (hl : LiesH x A l) => text_any n A c l b x hx.is hx.pow hl (fun j hj => by have := g4 j hj; omega) (by omega))
      have CC := Lib.hid (fun (A : Option Addr) (c : Nat) x (hx : RInv x) (hl : LiesH x A l) => check_all n A c l b x hx.is hl (fun j hj => by have := g4 j hj; omega) (by omega))
      rw [g1] at CT
      rw [g2] at CC
      rw [hr] at C
      clear hbig hr g1 g2 g3 g4
      go_enter Tryz.func4, Tryz.ntmps4
      go_wp2_with (first
        | (go_at_call 5; (with_reducible refine Calls.mono HW.out ?_); rintro e w1 ⟨rfl, hb⟩; have HB1 := Lib.hid hb; have HR1 := Lib.hid (HI.out.below hb); clear hb)
        | (go_at_call 11; (with_reducible refine Calls.mono (C.out _ HR1.out) ?_); rintro e w2 ⟨v, rfl, ⟨A, c, rfl, hl, -⟩, hb⟩; have HB2 := Lib.hid (below_to HB1.out hb); have HR2 := Lib.hid (HR1.out.below hb); have HL := Lib.hid hl; clear hb hl)
        | (go_at_call 10; (with_reducible refine Calls.mono (CC.out _ _ _ (HR2.out.below ((Below.refl _ _).alloc (Nat.le_refl _) _)) (HL.out.below ((Below.refl _ _).alloc (Nat.le_refl _) _))) ?_); rintro e w3 ⟨v, rfl, hv, hb⟩; obtain rfl : v = .nilIface := hv; have hn2 := below_blk hb (heap_alloc_new w2 _); have y0 := (blk_cell hn2 0).trans rfl; have y1 := (blk_cell hn2 1).trans rfl; have y2 := (blk_cell hn2 2).trans rfl; have HB3 := Lib.hid (below_to (HB2.out.alloc HB2.out.size _) hb); have HR3 := Lib.hid ((HR2.out.below ((Below.refl _ _).alloc (Nat.le_refl _) _)).below hb); have HL3 := Lib.hid ((HL.out.below ((Below.refl _ _).alloc (Nat.le_refl _) _)).below hb); clear hb hn2)
        | (go_at_call 8; (with_reducible refine Calls.mono (CT.out _ _ _ HR3.out HL3.out) ?_); rintro e w4 ⟨rfl, hb⟩; have HB4 := Lib.hid (below_to HB3.out hb); clear hb))
      go_ret
      exact ⟨by simp, HB4.out⟩
end Go.Proofs.YtpjjkejppgehaaaGreatDoor
