/- http.Text: the empty text of a wrong response, a right one's bytes. -/
import Derived.Test.YtpjjkejppgehaaaGreatDoorZe
import Derived.Test.YtpjjkejppgehaaaGreatDoorZc
import Derived.Test.YtpjjkejppgehaaaGreatDoorRp
import Derived.Shelf.Strconv.Itoa3
import Derived.Shelf.SlSorted.Search
import Derived.Lib.ItoaMem
import Derived.Laws.Concat
namespace Go.Proofs.YtpjjkejppgehaaaGreatDoor
set_option linter.unusedSimpArgs false
set_option linter.unusedVariables false
open Go.RowKit Go.Lib

/-- The table of the powers of ten. -/
def Pow10 (w : World) : Prop := Lib.TabIs Tryz.prog w "internal/strconv.uint64pow10" .u64 Lib.pow10Tab
theorem Pow10.below {w w' : World} (h : Pow10 w) (hb : Below w.heap.size w w') : Pow10 w' := by
  unfold Pow10 Lib.TabIs World.var? at *
  cases hg : Tryz.prog.globalNamed "internal/strconv.uint64pow10" with
  | none => simp [hg] at h
  | some g =>
    simp only [hg, Option.bind_some] at h ⊢
    have hlt : g < w.heap.size := by
      refine Classical.byContradiction fun hn => ?_
      rw [Array.getElem?_eq_none (by omega)] at h
      simp at h
    rw [hb.block g hlt]
    exact h
theorem itoa_any (n : Int) (h0 : -9223372036854775808 ≤ n) (h1 : n ≤ 9223372036854775807) (w : World) (hp : Pow10 w) :
    Calls Tryz.prog 19 #[.int .i64 n] w fun e w' => e = .returned (.string ⟨(Lib.itoa n).toArray⟩) ∧ Below w.heap.size w w' := by
  refine (Tryz.strconv_Itoa n h0 h1 w hp).mono ?_
  rintro e w' ⟨rfl, k, os, rfl⟩
  exact ⟨rfl, Go.Proofs.below_grown_sl w.heap.size w k os (Nat.le_refl _)⟩
theorem itoa_len (n : Int) (h0 : 0 ≤ n) (h1 : n < 10000000000) : (Lib.itoa n).length ≤ 20 := by
  rw [Lib.itoa, if_neg (by omega), Lib.decDigits_length]
  by_cases h : 1 ≤ n.toNat
  · have := Lib.numDigits_eq n.toNat h (by omega); split at this <;> omega
  · obtain h : n.toNat = 0 := by omega
    rw [← Lib.decDigits_length, h, Lib.decDigits_one (by omega)]
    simp
theorem builder_at_below {B b : Nat} {p : Value} {bs : List Value} {w w' : World} (h : Lib.BuilderAt 49 5 B b p bs w) (hb : Below w.heap.size w w') : Lib.BuilderAt 49 5 B b p bs w' := by
  obtain ⟨hB, v, hbk, hown, hne⟩ := h
  refine ⟨hB, v, below_blk hb hbk, ⟨hown.1, ?_⟩, hne⟩
  rcases hown.2 with h0 | ⟨g, cap, cur, rfl, hg, hh, hr⟩
  · exact Or.inl h0
  · exact Or.inr ⟨g, cap, cur, rfl, hg, below_blk hb hh, hr⟩
theorem builder_below {B b : Nat} {bs : List Value} {w w' : World} (h : Lib.IsBuilder 49 5 B b bs w) (hb : Below w.heap.size w w') : Lib.IsBuilder 49 5 B b bs w' :=
  h.imp (fun h => builder_at_below h hb) (fun h => builder_at_below h hb)
theorem below_to' {B : Nat} {w x y : World} (h : Below B w x) (k : Below x.heap.size x y) (hB : B ≤ x.heap.size) : Below B w y := h.trans (k.mono hB)
theorem szL (a : ByteArray) : a.data.toList.length = a.size := by rw [Array.length_toList]; rfl
theorem szM (l : List UInt8) : (⟨l.toArray⟩ : ByteArray).size = l.length := by show l.toArray.size = _; rw [List.size_toArray]
/-- A sum of two texts, under a letter. -/
theorem add_any (a b : ByteArray) (ha : a.size ≤ 8388608) (hb : b.size ≤ 8388608) : ∃ X : ByteArray, Hid (X.data.toList = a.data.toList ++ b.data.toList) ∧ X.size = a.size + b.size ∧ ∀ W, (Op.stringOp .add a b).run Tryz.prog W = .ok (.string X) W :=
  ⟨⟨(a.data.toList ++ b.data.toList).toArray⟩, rfl, by rw [szM, List.length_append, szL, szL], fun W => run_string_add_lists W a.data.toList b.data.toList (by rw [szL]; omega) (by rw [szL]; omega)⟩
/-- http.Check, of any headers. -/
theorem check_all (st : Int) (A : Option Addr) (c : Nat) (l : HL) (b : ByteArray) (w : World) (hI : IsInv w) (hA : LiesH w A l) (hx : ∀ j (hj : j < l.length), l[j].1.size ≤ 1000000 ∧ l[j].2.size ≤ 1000000) (hb : b.size ≤ 9223372036854775807) :
    Calls Tryz.prog 10 #[.agg #[.int .i64 st, .slice A l.length c, .string b]] w fun e w' => ∃ v, e = .returned v ∧ FltIs w' v (checkP st l b) ∧ Below w.heap.size w w' := by
  by_cases h1 : st < 100 ∨ 999 < st
  · exact check_range st A c l b w hI h1
  by_cases h2 : 64 ≤ l.length
  · exact check_full st A c l b w hI (by omega) (by omega) h2
  by_cases h3 : l = []
  · subst h3
    exact check_nil st A c b w hI (by omega) (by omega) hb
  · have h4 : 0 < l.length := List.length_pos_iff.2 h3
    obtain ⟨ad, rfl, hc⟩ := hA h4
    exact check_any st ad c l b w hI hc (by omega) hx (by omega) (by omega) (by omega) hb
def plainH (l : HL) : PL := l.map fun x => (x.1.data.toList, x.2.data.toList)
/-- What Text tells. -/
def textB (st : Int) (l : HL) (b : ByteArray) : ByteArray := if checkP st l b = none then ⟨(textL st (wordB st).data.toList (plainH l) b.data.toList).toArray⟩ else ⟨#[]⟩
theorem headsL_snoc (x : List UInt8 × List UInt8) : ∀ l : PL, headsL (l ++ [x]) = headsL l ++ (x.1 ++ colonL ++ x.2 ++ sepL)
  | [] => by simp [headsL]
  | (n, v) :: r => by
    rw [List.cons_append, headsL, headsL_snoc x r, headsL]
    simp [List.append_assoc]
theorem headsL_len (m : Nat) : ∀ l : PL, (∀ x ∈ l, x.1.length ≤ m ∧ x.2.length ≤ m) → (headsL l).length ≤ l.length * (2 * m + 4)
  | [], _ => by simp [headsL]
  | (n, v) :: r, h => by
    have ih := headsL_len m r fun x hx => h x (List.mem_cons_of_mem _ hx)
    have := h (n, v) (List.mem_cons_self)
    simp [headsL, colonL, sepL] at this ⊢
    rw [Nat.add_mul]
    omega
def firstL (st : Int) : List UInt8 := verL ++ Lib.itoa st ++ [32] ++ (wordB st).data.toList ++ sepL
def preL (st : Int) (l : HL) (k : Nat) : List UInt8 := firstL st ++ headsL ((plainH l).take k)
theorem preL_snoc (st : Int) (l : HL) (k : Nat) (hk : k < l.length) : preL st l (k + 1) = preL st l k ++ (l[k].1.data.toList ++ colonL ++ l[k].2.data.toList ++ sepL) := by
  have hk' : k < (plainH l).length := by rw [plainH, List.length_map]; exact hk
  unfold preL
  rw [List.take_succ_eq_append_getElem hk', headsL_snoc]
  simp [plainH, List.append_assoc]
theorem wordB_len (n : Int) : (wordB n).size ≤ 15 := by
  unfold wordB
  repeat' split
  all_goals decide
theorem preL_len (st : Int) (l : HL) (k : Nat) (h1 : 100 ≤ st) (h2 : st ≤ 999) (hl : l.length < 64) (hx : ∀ j (hj : j < l.length), l[j].1.size ≤ 20000 ∧ l[j].2.size ≤ 20000) : (preL st l k).length ≤ 3000000 := by
  have h3 := itoa_len st (by omega) (by omega)
  have h4 := wordB_len st
  have h5 : (headsL ((plainH l).take k)).length ≤ ((plainH l).take k).length * (2 * 20000 + 4) := by
    apply headsL_len
    intro x hx'
    have hm := List.mem_of_mem_take hx'
    rw [plainH, List.mem_map] at hm
    obtain ⟨y, hy, rfl⟩ := hm
    obtain ⟨j, hj, rfl⟩ := List.getElem_of_mem hy
    have := hx j hj
    simp only [szL]
    exact this
  have h6 : ((plainH l).take k).length ≤ l.length := by rw [List.length_take, plainH, List.length_map]; omega
  have h7 : ((plainH l).take k).length * (2 * 20000 + 4) ≤ 63 * 40004 := Nat.mul_le_mul (by omega) (by omega)
  have h8 : verL.length = 9 := rfl
  have h9 : sepL.length = 2 := rfl
  have h10 : (wordB st).data.toList.length = (wordB st).size := szL _
  unfold preL firstL
  simp only [List.length_append, h8, h9, h10, List.length_singleton]
  omega
theorem textL_eq (st : Int) (l : HL) (b : ByteArray) : textL st (wordB st).data.toList (plainH l) b.data.toList = preL st l l.length ++ (clenL ++ Lib.itoa (b.size : Int) ++ sepL ++ sepL ++ b.data.toList) := by
  have e : (plainH l).take l.length = plainH l := List.take_of_length_le (by rw [plainH, List.length_map]; exact Nat.le_refl _)
  have e2 : b.data.toList.length = b.size := szL _
  unfold textL preL firstL
  rw [e, e2]
  simp [List.append_assoc, sep2, sepL]
set_option maxRecDepth 20000 in
set_option maxHeartbeats 4000000 in
theorem text_wrong (st : Int) (A : Option Addr) (c : Nat) (l : HL) (b : ByteArray) (w : World) (hI : IsInv w) (hA : LiesH w A l) (hx : ∀ j (hj : j < l.length), l[j].1.size ≤ 1000000 ∧ l[j].2.size ≤ 1000000) (hb : b.size ≤ 9223372036854775807) (hn : checkP st l b ≠ none) :
    Calls Tryz.prog 8 #[.agg #[.int .i64 st, .slice A l.length c, .string b]] w fun e w' => e = .returned (.string ⟨#[]⟩) ∧ Below w.heap.size w w' := by
  have hb0 : Below w.heap.size w (w.alloc (.cells #[.int .i64 st, .slice A l.length c, .string b] 24)) := (Below.refl _ _).alloc (Nat.le_refl _) _
  have C := Lib.hid (check_all st A c l b _ (hI.below hb0) (hA.below hb0) hx hb)
  have HB := Lib.hid hb0
  obtain ⟨⟨a, m⟩, hm⟩ := Option.ne_none_iff_exists'.1 hn
  rw [hm] at C
  clear hm hn hI hA hx hb0
  go_enter Tryz.func8, Tryz.ntmps8
  go_wp2_with (go_at_call 10; (with_reducible refine Calls.mono C.out ?_); rintro e w1 ⟨v, rfl, ⟨-, -, g, s, rfl, -, -⟩, hb1⟩; have HB1 := Lib.hid hb1; clear hb1)
  go_ret
  exact ⟨rfl, below_to HB.out HB1.out⟩
set_option maxRecDepth 20000 in
set_option maxHeartbeats 16000000 in
theorem text_right (st : Int) (A : Option Addr) (c : Nat) (l : HL) (bd : ByteArray) (w : World) (hI : IsInv w) (hP : Pow10 w) (hA : LiesH w A l) (hx : ∀ j (hj : j < l.length), l[j].1.size ≤ 20000 ∧ l[j].2.size ≤ 20000) (hb : bd.size ≤ 20000) (hn : checkP st l bd = none) :
    Calls Tryz.prog 8 #[.agg #[.int .i64 st, .slice A l.length c, .string bd]] w fun e w' => e = .returned (.string ⟨(textL st (wordB st).data.toList (plainH l) bd.data.toList).toArray⟩) ∧ Below w.heap.size w w' := by
  have hb0 : Below w.heap.size w (w.alloc (.cells #[.int .i64 st, .slice A l.length c, .string bd] 24)) := (Below.refl _ _).alloc (Nat.le_refl _) _
  have C := Lib.hid (check_all st A c l bd _ (hI.below hb0) (hA.below hb0) (fun j hj => by have := hx j hj; omega) (by omega))
  rw [hn] at C
  have hst : 100 ≤ st ∧ st ≤ 999 ∧ l.length < 64 := by
    unfold checkP at hn
    split at hn
    · cases hn
    · split at hn
      · cases hn
      · omega
  obtain ⟨s1, s2, s3⟩ := hst
  have hn0 := heap_alloc_new w (.cells #[.int .i64 st, .slice A l.length c, .string bd] 24)
  have HP0 := Lib.hid (hP.below hb0)
  have HA0 := Lib.hid (hA.below hb0)
  have HN0 := Lib.hid hn0
  have HB := Lib.hid hb0
  have HX := Lib.hid hx
  have hsz : w.heap.size < (w.alloc (.cells #[.int .i64 st, .slice A l.length c, .string bd] 24)).heap.size := by simp
  have HS := Lib.hid hsz
  clear hn hI hA hx hb0 hP hn0 hsz
  obtain ⟨I, hI⟩ : ∃ I : ByteArray, I = ⟨(Lib.itoa st).toArray⟩ := ⟨_, rfl⟩
  obtain ⟨Wd, hWd⟩ : ∃ Wd : ByteArray, wordB st = Wd := ⟨_, rfl⟩
  have zI : I.size ≤ 20 := by rw [hI, szM]; exact itoa_len st (by omega) (by omega)
  have zW : Wd.size ≤ 15 := by rw [← hWd]; exact wordB_len st
  have q9 : (⟨#[72, 84, 84, 80, 47, 49, 46, 49, 32]⟩ : ByteArray).size = 9 := rfl
  have q1 : (⟨#[32]⟩ : ByteArray).size = 1 := rfl
  have q2 : (⟨#[13, 10]⟩ : ByteArray).size = 2 := rfl
  obtain ⟨X1, hX1, z1, add1⟩ := add_any ⟨#[72, 84, 84, 80, 47, 49, 46, 49, 32]⟩ I (by decide) (by omega)
  obtain ⟨X2, hX2, z2, add2⟩ := add_any X1 ⟨#[32]⟩ (by rw [z1]; omega) (by decide)
  obtain ⟨X3, hX3, z3, add3⟩ := add_any X2 Wd (by rw [z2, z1]; omega) (by omega)
  obtain ⟨X4, hX4, z4, add4⟩ := add_any X3 ⟨#[13, 10]⟩ (by rw [z3, z2, z1]; omega) (by decide)
  have zX : X4.size ≤ 100 := by rw [z4, z3, z2, z1]; omega
  have HF : Hid (X4.data.toList = firstL st) := by
    show _ = _
    rw [hX4.out, hX3.out, hX2.out, hX1.out, hI, ← hWd]
    rfl
  clear z1 z2 z3 z4 hX1 hX2 hX3 hX4 q9 q1 q2
  have HIT : Hid (∀ x, Pow10 x → Calls Tryz.prog 19 #[.int .i64 st] x fun e w' => e = .returned (.string I) ∧ Below x.heap.size x w') := fun x hp => by rw [hI]; exact itoa_any st (by omega) (by omega) x hp
  have HWD : Hid (∀ x, Calls Tryz.prog 20 #[.int .i64 st] x fun e w' => e = .returned (.string Wd) ∧ w' = x) := fun x => by rw [← hWd]; exact word_any st x
  clear hI hWd
  go_enter Tryz.func8, Tryz.ntmps8
  go_wp2_with (go_at_call 10; (with_reducible refine Calls.mono C.out ?_); rintro e w1 ⟨v, rfl, hv, hb1⟩; obtain rfl : v = .nilIface := hv; have HB1 := Lib.hid hb1; clear hb1)
  have hn : w.heap.size < w1.heap.size := Nat.lt_of_lt_of_le HS.out HB1.out.size
  have hN1 := below_blk HB1.out HN0.out
  have C0 : w1.cell? ⟨w.heap.size, 0, none⟩ = some (.int .i64 st) := (blk_cell hN1 0).trans rfl
  have C1 : w1.cell? ⟨w.heap.size, 1, none⟩ = some (.slice A l.length c) := (blk_cell hN1 1).trans rfl
  have C2 : w1.cell? ⟨w.heap.size, 2, none⟩ = some (.string bd) := (blk_cell hN1 2).trans rfl
  have HP1 := HP0.out.below HB1.out
  have HA1 := Lib.hid (HA0.out.below HB1.out)
  have HP : Hid (∀ x, Below w1.heap.size w1 x → Pow10 x) := fun x hx => HP1.below hx
  have HBW := Lib.hid (below_to HB.out HB1.out)
  clear hN1 HP1 HN0 HP0 HA0 HB HB1 HS
  have kB : Below w1.heap.size w1 (w1.alloc (.cells #[.pointer none, .slice none 0 0] 49)) := (Below.refl _ _).alloc (Nat.le_refl _) _
  have kU : Lib.IsBuilder 49 5 w1.heap.size w1.heap.size [] (w1.alloc (.cells #[.pointer none, .slice none 0 0] 49)) := Lib.fresh_isBuilder 49 5 w1
  have HC0 := Lib.hid C0
  have HC1 := Lib.hid C1
  have HC2 := Lib.hid C2
  have k0 := (kB.cell (p := ⟨w.heap.size, 0, none⟩) hn).trans C0
  clear C0 C1 C2
  generalize w1.alloc (.cells #[.pointer none, .slice none 0 0] 49) = x0 at kB kU k0 ⊢
  obtain ⟨n, hnn⟩ : ∃ n, n = w.heap.size := ⟨_, rfl⟩
  have HNN := Lib.hid hnn
  rw [← hnn] at hn k0 HC0 HC1 HC2 ⊢
  clear hnn
  apply Code.wp_mono (Q := (fun (F : Act) (e : Exit) (a : Act) (x : World) => e = Exit.normal ∧ a = F ∧ Below w1.heap.size w1 x ∧ Lib.BuilderAt 49 5 w1.heap.size w1.heap.size (.pointer (some ⟨w1.heap.size, 0, none⟩)) ([] ++ strCells X4) x) _)
  case h =>
    refine wp_region_any (by kernel_rfl) ?_
    try (change wpAny _ _ _ _ _ _ _ (World.drew _))
    replace kB := kB.drew
    replace kU : Lib.IsBuilder 49 5 w1.heap.size w1.heap.size [] x0.drew := kU
    replace k0 : x0.drew.cell? ⟨n, 0, none⟩ = _ := k0
    generalize x0.drew = x1 at kB kU k0 ⊢
    refine wpAny_take (i := 0) (v := .pointer (some ⟨n, 0, none⟩)) rfl (by kernel_rfl) (by kernel_rfl) (by kernel_rfl) (fun _ _ _ h => by cases h.1) (Or.inl ⟨by rfl, fun w => by go_simp <;> with_reducible rfl⟩) ?_
    (try simp only [Act.put, List.setIfInBounds_toArray, List.set_cons_zero, List.set_cons_succ])
    refine wpAny_take (i := 5) (v := .pointer (some ⟨n, 0, none⟩)) rfl (by kernel_rfl) (by kernel_rfl) (by kernel_rfl) (fun _ _ _ h => by cases h.1) (Or.inl ⟨by rfl, fun w => by go_simp <;> with_reducible rfl⟩) ?_
    (try simp only [Act.put, List.setIfInBounds_toArray, List.set_cons_zero, List.set_cons_succ])
    refine wpAny_ready (rs := [1, 6]) (by kernel_rfl) (by simp) ?_
    refine AllReady.cons rfl (fun K hK => ?_) (AllReady.cons rfl (fun K hK => ?_) (AllReady.nil))
    · skip
      go_simp
      refine hK _ _ ?_
      clear hK K
      refine wpAny_ready (rs := [2, 6]) (by kernel_rfl) (by simp) ?_
      refine AllReady.cons rfl (fun K hK => ?_) (AllReady.cons rfl (fun K hK => ?_) (AllReady.nil))
      · skip
        go_simp
        have C := HIT.out _ (HP.out _ kB)
        refine Calls.mono C ?_
        rintro e w' ⟨rfl, hb⟩
        replace k0 := (hb.cell (p := ⟨n, 0, none⟩) (Nat.lt_of_lt_of_le hn kB.size)).trans k0
        replace kU := builder_below kU hb; replace kB := below_to' kB hb kB.size; clear hb
        refine hK _ _ ?_
        clear hK K
        refine wpAny_take (i := 3) (v := .string X1) rfl (by kernel_rfl) (by kernel_rfl) (by kernel_rfl) (fun _ _ _ h => by cases h.1) (Or.inl ⟨by rfl, fun w => by go_simp <;> with_reducible rfl⟩) ?_
        (try simp only [Act.put, List.setIfInBounds_toArray, List.set_cons_zero, List.set_cons_succ])
        refine wpAny_take (i := 4) (v := .string X2) rfl (by kernel_rfl) (by kernel_rfl) (by kernel_rfl) (fun _ _ _ h => by cases h.1) (Or.inl ⟨by rfl, fun w => by go_simp <;> with_reducible rfl⟩) ?_
        (try simp only [Act.put, List.setIfInBounds_toArray, List.set_cons_zero, List.set_cons_succ])
        refine wpAny_ready (rs := [6]) (by kernel_rfl) (by simp) ?_
        refine AllReady.cons rfl (fun K hK => ?_) (AllReady.nil)
        go_simp
        refine hK _ _ ?_
        clear hK K
        refine wpAny_ready (rs := [7]) (by kernel_rfl) (by simp) ?_
        refine AllReady.cons rfl (fun K hK => ?_) (AllReady.nil)
        go_simp
        refine Calls.mono (HWD.out _) ?_
        rintro e w' ⟨rfl, rfl⟩
        refine hK _ _ ?_
        clear hK K
        refine wpAny_take (i := 8) (v := .string X3) rfl (by kernel_rfl) (by kernel_rfl) (by kernel_rfl) (fun _ _ _ h => by cases h.1) (Or.inl ⟨by rfl, fun w => by go_simp <;> with_reducible rfl⟩) ?_
        (try simp only [Act.put, List.setIfInBounds_toArray, List.set_cons_zero, List.set_cons_succ])
        refine wpAny_take (i := 9) (v := .string X4) rfl (by kernel_rfl) (by kernel_rfl) (by kernel_rfl) (fun _ _ _ h => by cases h.1) (Or.inl ⟨by rfl, fun w => by go_simp <;> with_reducible rfl⟩) ?_
        (try simp only [Act.put, List.setIfInBounds_toArray, List.set_cons_zero, List.set_cons_succ])
        refine wpAny_ready (rs := [10]) (by kernel_rfl) (by simp) ?_
        refine AllReady.cons rfl (fun K hK => ?_) (AllReady.nil)
        go_simp
        have C := write_any w1.heap.size w1.heap.size [] X4 _ kU (by simp; omega) kB.size
        refine Calls.mono C ?_
        rintro e w' ⟨rfl, kV, hb⟩
        replace kB := kB.trans hb; clear hb kU
        refine hK _ _ ?_
        clear hK K
        refine wpAny_done (by kernel_rfl) ?_ _
        exact ⟨rfl, rfl, kB, kV⟩
      · skip
        go_simp
        refine hK _ _ ?_
        clear hK K
        refine wpAny_ready (rs := [2]) (by kernel_rfl) (by simp) ?_
        refine AllReady.cons rfl (fun K hK => ?_) (AllReady.nil)
        go_simp
        have C := HIT.out _ (HP.out _ kB)
        refine Calls.mono C ?_
        rintro e w' ⟨rfl, hb⟩
        replace k0 := (hb.cell (p := ⟨n, 0, none⟩) (Nat.lt_of_lt_of_le hn kB.size)).trans k0
        replace kU := builder_below kU hb; replace kB := below_to' kB hb kB.size; clear hb
        refine hK _ _ ?_
        clear hK K
        refine wpAny_take (i := 3) (v := .string X1) rfl (by kernel_rfl) (by kernel_rfl) (by kernel_rfl) (fun _ _ _ h => by cases h.1) (Or.inl ⟨by rfl, fun w => by go_simp <;> with_reducible rfl⟩) ?_
        (try simp only [Act.put, List.setIfInBounds_toArray, List.set_cons_zero, List.set_cons_succ])
        refine wpAny_take (i := 4) (v := .string X2) rfl (by kernel_rfl) (by kernel_rfl) (by kernel_rfl) (fun _ _ _ h => by cases h.1) (Or.inl ⟨by rfl, fun w => by go_simp <;> with_reducible rfl⟩) ?_
        (try simp only [Act.put, List.setIfInBounds_toArray, List.set_cons_zero, List.set_cons_succ])
        refine wpAny_ready (rs := [7]) (by kernel_rfl) (by simp) ?_
        refine AllReady.cons rfl (fun K hK => ?_) (AllReady.nil)
        go_simp
        refine Calls.mono (HWD.out _) ?_
        rintro e w' ⟨rfl, rfl⟩
        refine hK _ _ ?_
        clear hK K
        refine wpAny_take (i := 8) (v := .string X3) rfl (by kernel_rfl) (by kernel_rfl) (by kernel_rfl) (fun _ _ _ h => by cases h.1) (Or.inl ⟨by rfl, fun w => by go_simp <;> with_reducible rfl⟩) ?_
        (try simp only [Act.put, List.setIfInBounds_toArray, List.set_cons_zero, List.set_cons_succ])
        refine wpAny_take (i := 9) (v := .string X4) rfl (by kernel_rfl) (by kernel_rfl) (by kernel_rfl) (fun _ _ _ h => by cases h.1) (Or.inl ⟨by rfl, fun w => by go_simp <;> with_reducible rfl⟩) ?_
        (try simp only [Act.put, List.setIfInBounds_toArray, List.set_cons_zero, List.set_cons_succ])
        refine wpAny_ready (rs := [10]) (by kernel_rfl) (by simp) ?_
        refine AllReady.cons rfl (fun K hK => ?_) (AllReady.nil)
        go_simp
        have C := write_any w1.heap.size w1.heap.size [] X4 _ kU (by simp; omega) kB.size
        refine Calls.mono C ?_
        rintro e w' ⟨rfl, kV, hb⟩
        replace kB := kB.trans hb; clear hb kU
        refine hK _ _ ?_
        clear hK K
        refine wpAny_done (by kernel_rfl) ?_ _
        exact ⟨rfl, rfl, kB, kV⟩
    · skip
      go_simp
      refine hK _ _ ?_
      clear hK K
      refine wpAny_ready (rs := [1]) (by kernel_rfl) (by simp) ?_
      refine AllReady.cons rfl (fun K hK => ?_) (AllReady.nil)
      go_simp
      refine hK _ _ ?_
      clear hK K
      refine wpAny_ready (rs := [2]) (by kernel_rfl) (by simp) ?_
      refine AllReady.cons rfl (fun K hK => ?_) (AllReady.nil)
      go_simp
      have C := HIT.out _ (HP.out _ kB)
      refine Calls.mono C ?_
      rintro e w' ⟨rfl, hb⟩
      replace k0 := (hb.cell (p := ⟨n, 0, none⟩) (Nat.lt_of_lt_of_le hn kB.size)).trans k0
      replace kU := builder_below kU hb; replace kB := below_to' kB hb kB.size; clear hb
      refine hK _ _ ?_
      clear hK K
      refine wpAny_take (i := 3) (v := .string X1) rfl (by kernel_rfl) (by kernel_rfl) (by kernel_rfl) (fun _ _ _ h => by cases h.1) (Or.inl ⟨by rfl, fun w => by go_simp <;> with_reducible rfl⟩) ?_
      (try simp only [Act.put, List.setIfInBounds_toArray, List.set_cons_zero, List.set_cons_succ])
      refine wpAny_take (i := 4) (v := .string X2) rfl (by kernel_rfl) (by kernel_rfl) (by kernel_rfl) (fun _ _ _ h => by cases h.1) (Or.inl ⟨by rfl, fun w => by go_simp <;> with_reducible rfl⟩) ?_
      (try simp only [Act.put, List.setIfInBounds_toArray, List.set_cons_zero, List.set_cons_succ])
      refine wpAny_ready (rs := [7]) (by kernel_rfl) (by simp) ?_
      refine AllReady.cons rfl (fun K hK => ?_) (AllReady.nil)
      go_simp
      refine Calls.mono (HWD.out _) ?_
      rintro e w' ⟨rfl, rfl⟩
      refine hK _ _ ?_
      clear hK K
      refine wpAny_take (i := 8) (v := .string X3) rfl (by kernel_rfl) (by kernel_rfl) (by kernel_rfl) (fun _ _ _ h => by cases h.1) (Or.inl ⟨by rfl, fun w => by go_simp <;> with_reducible rfl⟩) ?_
      (try simp only [Act.put, List.setIfInBounds_toArray, List.set_cons_zero, List.set_cons_succ])
      refine wpAny_take (i := 9) (v := .string X4) rfl (by kernel_rfl) (by kernel_rfl) (by kernel_rfl) (fun _ _ _ h => by cases h.1) (Or.inl ⟨by rfl, fun w => by go_simp <;> with_reducible rfl⟩) ?_
      (try simp only [Act.put, List.setIfInBounds_toArray, List.set_cons_zero, List.set_cons_succ])
      refine wpAny_ready (rs := [10]) (by kernel_rfl) (by simp) ?_
      refine AllReady.cons rfl (fun K hK => ?_) (AllReady.nil)
      go_simp
      have C := write_any w1.heap.size w1.heap.size [] X4 _ kU (by simp; omega) kB.size
      refine Calls.mono C ?_
      rintro e w' ⟨rfl, kV, hb⟩
      replace kB := kB.trans hb; clear hb kU
      refine hK _ _ ?_
      clear hK K
      refine wpAny_done (by kernel_rfl) ?_ _
      exact ⟨rfl, rfl, kB, kV⟩
  case hq =>
    clear kB kU k0 add1 add2 add3 add4 x0
    intro e a x h
    obtain ⟨rfl, rfl, kB, kU⟩ := h
    have HU : Hid (Lib.BuilderAt 49 5 w1.heap.size w1.heap.size (.pointer (some ⟨w1.heap.size, 0, none⟩)) (byteCells (preL st l 0)) x) := by
      have e1 : byteCells (preL st l 0) = [] ++ strCells X4 := by
        rw [List.nil_append, strCells_eq, HF.out, preL, List.take_zero]; simp [headsL]
      rw [e1]; exact kU
    have c1 := (kB.cell (p := ⟨n, 1, none⟩) hn).trans HC1.out
    have HB := Lib.hid kB
    clear kU kB
    go_wp2
    clear c1
    have HPL : Hid (∀ k, (preL st l k).length ≤ 3000000) := fun k => preL_len st l k s1 s2 s3 HX.out
    go_loopw [23] (fun i wr => ∃ k : Nat, k ≤ l.length ∧ i = .int .i64 k ∧ Below w1.heap.size w1 wr ∧ Lib.BuilderAt 49 5 w1.heap.size w1.heap.size (.pointer (some ⟨w1.heap.size, 0, none⟩)) (byteCells (preL st l k)) wr) (fun i _ => l.length - (RowKit.intOf i).toNat)
    case atStart => exact ⟨0, by omega, rfl, HB.out, HU.out⟩
    case round =>
      obtain ⟨k, hk, rfl, hBk, hUk⟩ := hrel
      have HBk := Lib.hid hBk
      have HUk := Lib.hid hUk
      clear hBk hUk HB HU
      by_cases hkl : k < l.length
      · have hkl' : (k : Int) < (l.length : Int) := by omega
        obtain ⟨ad, rfl, hcs⟩ := HA1.out (by omega)
        obtain ⟨a1, a2⟩ := hcs k hkl
        obtain ⟨b1, b2⟩ := HX.out k hkl
        have hsn := preL_snoc st l k hkl
        generalize l[k] = y at a1 a2 b1 b2 hsn
        obtain ⟨hn', hv'⟩ := y
        dsimp only at a1 a2 b1 b2 hsn
        have q1 : (⟨#[58, 32]⟩ : ByteArray).size = 2 := rfl
        have q2 : (⟨#[13, 10]⟩ : ByteArray).size = 2 := rfl
        obtain ⟨Y1, hY1, z1, add1⟩ := add_any hn' ⟨#[58, 32]⟩ (by omega) (by decide)
        obtain ⟨Y2, hY2, z2, add2⟩ := add_any Y1 hv' (by rw [z1]; omega) (by omega)
        obtain ⟨Y3, hY3, z3, add3⟩ := add_any Y2 ⟨#[13, 10]⟩ (by rw [z2, z1]; omega) (by decide)
        have zY : Y3.size ≤ 50000 := by rw [z3, z2, z1]; omega
        have HS : Hid (byteCells (preL st l k) ++ strCells Y3 = byteCells (preL st l (k + 1))) := by
          show _ = _
          rw [strCells_eq, hY3.out, hY2.out, hY1.out, ← byteCells_append, hsn]
          rfl
        clear hsn z1 z2 z3 hY1 hY2 hY3 hcs q1 q2
        have hc0 : wr.cell? (ad.add (k * 2)) = some (.string hn') := (HBk.out.cell (World.block_lt_of_cell? w1 _ a1)).trans a1
        have hc1 : wr.cell? (ad.add (k * 2 + 1)) = some (.string hv') := (HBk.out.cell (World.block_lt_of_cell? w1 _ a2)).trans a2
        have hc1' : wr.cell? ((ad.add (k * 2)).add 1) = some (.string hv') := by rw [Addr.add_add]; exact hc1
        have hc1'' : wr.cell? { block := (ad.add (k * 2)).block, off := (ad.add (k * 2)).off + 1 } = some (.string hv') := hc1'
        have HLEN : Hid ((byteCells (preL st l k)).length + Y3.size ≤ 140737488355328) := by
          show _ ≤ _
          have := HPL.out k
          rw [byteCells_length]; omega
        have HWR : Hid (∀ x, Below wr.heap.size wr x → Calls Tryz.prog 18 #[.pointer (some ⟨w1.heap.size, 0, none⟩), .string Y3] x fun e w' => e = .returned (.tuple #[.int .i64 Y3.size, .nilIface]) ∧ Lib.BuilderAt 49 5 w1.heap.size w1.heap.size (.pointer (some ⟨w1.heap.size, 0, none⟩)) (byteCells (preL st l (k + 1))) w' ∧ Below w1.heap.size w1 w') := by
          intro x hx
          have hB1 : Below w1.heap.size w1 x := HBk.out.trans (hx.mono HBk.out.size)
          refine (write_any w1.heap.size w1.heap.size (byteCells (preL st l k)) Y3 x (Or.inr (builder_at_below HUk.out hx)) HLEN.out hB1.size).mono ?_
          rintro e w' ⟨rfl, h1, h2⟩
          exact ⟨rfl, by rw [← HS.out]; exact h1, hB1.trans h2⟩
        clear a1 a2 b1 b2 zY HS HLEN
        have hwb : Below wr.heap.size wr wr := Below.refl _ _
        go_wp2_with (go_at_call 18; (with_reducible refine Calls.mono (HWR.out _ (by first | exact hwb | exact hwb.alloc (Nat.le_refl _) _ | exact (hwb.alloc (Nat.le_refl _) _).drew)) ?_); rintro e w' ⟨rfl, kV, hb⟩; have KV := Lib.hid kV; have HBB := Lib.hid hb; clear kV hb)
        go_roundw
        case rel => exact ⟨k + 1, by omega, by go_num, HBB.out, KV.out⟩
        case measure => simp [RowKit.intOf]; omega
      · have hkl' : ¬ (k : Int) < (l.length : Int) := by omega
        obtain rfl : k = l.length := by omega
        have kB := HBk.out
        have kU := HUk.out
        clear hk
        obtain ⟨I, hI⟩ : ∃ I : ByteArray, I = ⟨(Lib.itoa (bd.size : Int)).toArray⟩ := ⟨_, rfl⟩
        have zI : I.size ≤ 20 := by rw [hI, szM]; exact itoa_len _ (by omega) (by omega)
        have q16 : (⟨#[99, 111, 110, 116, 101, 110, 116, 45, 108, 101, 110, 103, 116, 104, 58, 32]⟩ : ByteArray).size = 16 := rfl
        have q2 : (⟨#[13, 10]⟩ : ByteArray).size = 2 := rfl
        obtain ⟨X1, hX1, z1, add1⟩ := add_any ⟨#[99, 111, 110, 116, 101, 110, 116, 45, 108, 101, 110, 103, 116, 104, 58, 32]⟩ I (by decide) (by omega)
        obtain ⟨X2, hX2, z2, add2⟩ := add_any X1 ⟨#[13, 10]⟩ (by rw [z1]; omega) (by decide)
        obtain ⟨X3, hX3, z3, add3⟩ := add_any X2 ⟨#[13, 10]⟩ (by rw [z2, z1]; omega) (by decide)
        obtain ⟨X4, hX4, z4, add4⟩ := add_any X3 bd (by rw [z3, z2, z1]; omega) (by omega)
        have zX : X4.size ≤ 30000 := by rw [z4, z3, z2, z1]; omega
        have HE : Hid (byteCells (preL st l l.length) ++ strCells X4 = byteCells (textL st (wordB st).data.toList (plainH l) bd.data.toList)) := by
          show _ = _
          rw [strCells_eq, hX4.out, hX3.out, hX2.out, hX1.out, hI, textL_eq, ← byteCells_append]
          rfl
        have HIT : Hid (∀ x, Pow10 x → Calls Tryz.prog 19 #[.int .i64 (bd.size : Int)] x fun e w' => e = .returned (.string I) ∧ Below x.heap.size x w') := fun x hp => by rw [hI]; exact itoa_any _ (by omega) (by omega) x hp
        have hlen := HPL.out l.length
        have hwr : ∀ x, Below w1.heap.size w1 x → Lib.BuilderAt 49 5 w1.heap.size w1.heap.size (.pointer (some ⟨w1.heap.size, 0, none⟩)) (byteCells (preL st l l.length)) x → Calls Tryz.prog 18 #[.pointer (some ⟨w1.heap.size, 0, none⟩), .string X4] x fun e w' => e = .returned (.tuple #[.int .i64 X4.size, .nilIface]) ∧ Lib.BuilderAt 49 5 w1.heap.size w1.heap.size (.pointer (some ⟨w1.heap.size, 0, none⟩)) (byteCells (preL st l l.length) ++ strCells X4) w' ∧ Below w1.heap.size x w' :=
          fun x hx hu => write_any w1.heap.size w1.heap.size (byteCells (preL st l l.length)) X4 x (Or.inr hu) (by rw [byteCells_length]; omega) hx.size
        have HWR := Lib.hid hwr
        have HZX := Lib.hid zX
        clear hI z1 z2 z3 z4 hX1 hX2 hX3 hX4 q16 q2 hlen zX zI hwr
        have k2 := (kB.cell (p := ⟨n, 2, none⟩) hn).trans HC2.out
        have hkl'' : ((l.length : Int) < (l.length : Int)) = False := eq_false (by omega)
        clear hkl hkl'
        go_wp2
        apply Code.wp_mono (Q := (fun (F : Act) (e : Exit) (a : Act) (x : World) => e = Exit.normal ∧ a = F ∧ Below w1.heap.size w1 x ∧ Lib.BuilderAt 49 5 w1.heap.size w1.heap.size (.pointer (some ⟨w1.heap.size, 0, none⟩)) (byteCells (preL st l l.length) ++ strCells X4) x) _)
        case h =>
          refine wp_region_any (by kernel_rfl) ?_
          try (change wpAny _ _ _ _ _ _ _ (World.drew _))
          replace kB := kB.drew
          replace kU : Lib.BuilderAt 49 5 w1.heap.size w1.heap.size _ _ wr.drew := kU
          replace k2 : wr.drew.cell? ⟨n, 2, none⟩ = _ := k2
          generalize wr.drew = x1 at kB kU k2 ⊢
          refine wpAny_take (i := 0) (v := .pointer (some ⟨n, 2, none⟩)) rfl (by kernel_rfl) (by kernel_rfl) (by kernel_rfl) (fun _ _ _ h => by cases h.1) (Or.inl ⟨by rfl, fun w => by go_simp <;> with_reducible rfl⟩) ?_
          (try simp only [Act.put, List.setIfInBounds_toArray, List.set_cons_zero, List.set_cons_succ])
          refine wpAny_take (i := 7) (v := .pointer (some ⟨n, 2, none⟩)) rfl (by kernel_rfl) (by kernel_rfl) (by kernel_rfl) (fun _ _ _ h => by cases h.1) (Or.inl ⟨by rfl, fun w => by go_simp <;> with_reducible rfl⟩) ?_
          (try simp only [Act.put, List.setIfInBounds_toArray, List.set_cons_zero, List.set_cons_succ])
          refine wpAny_ready (rs := [1, 8]) (by kernel_rfl) (by simp) ?_
          refine AllReady.cons rfl (fun K hK => ?_) (AllReady.cons rfl (fun K hK => ?_) (AllReady.nil))
          · skip
            go_simp
            refine hK _ _ ?_
            clear hK K
            refine wpAny_ready (rs := [2, 8]) (by kernel_rfl) (by simp) ?_
            refine AllReady.cons rfl (fun K hK => ?_) (AllReady.cons rfl (fun K hK => ?_) (AllReady.nil))
            · skip
              go_simp
              refine hK _ _ ?_
              clear hK K
              refine wpAny_ready (rs := [3, 8]) (by kernel_rfl) (by simp) ?_
              refine AllReady.cons rfl (fun K hK => ?_) (AllReady.cons rfl (fun K hK => ?_) (AllReady.nil))
              · skip
                go_simp
                have C := HIT.out _ (HP.out _ kB)
                refine Calls.mono C ?_
                rintro e w' ⟨rfl, hb⟩
                replace k2 := (hb.cell (p := ⟨n, 2, none⟩) (Nat.lt_of_lt_of_le hn kB.size)).trans k2
                replace kU := builder_at_below kU hb; replace kB := below_to' kB hb kB.size; clear hb
                refine hK _ _ ?_
                clear hK K
                refine wpAny_take (i := 4) (v := .string X1) rfl (by kernel_rfl) (by kernel_rfl) (by kernel_rfl) (fun _ _ _ h => by cases h.1) (Or.inl ⟨by rfl, fun w => by go_simp <;> with_reducible rfl⟩) ?_
                (try simp only [Act.put, List.setIfInBounds_toArray, List.set_cons_zero, List.set_cons_succ])
                refine wpAny_take (i := 5) (v := .string X2) rfl (by kernel_rfl) (by kernel_rfl) (by kernel_rfl) (fun _ _ _ h => by cases h.1) (Or.inl ⟨by rfl, fun w => by go_simp <;> with_reducible rfl⟩) ?_
                (try simp only [Act.put, List.setIfInBounds_toArray, List.set_cons_zero, List.set_cons_succ])
                refine wpAny_take (i := 6) (v := .string X3) rfl (by kernel_rfl) (by kernel_rfl) (by kernel_rfl) (fun _ _ _ h => by cases h.1) (Or.inl ⟨by rfl, fun w => by go_simp <;> with_reducible rfl⟩) ?_
                (try simp only [Act.put, List.setIfInBounds_toArray, List.set_cons_zero, List.set_cons_succ])
                refine wpAny_ready (rs := [8]) (by kernel_rfl) (by simp) ?_
                refine AllReady.cons rfl (fun K hK => ?_) (AllReady.nil)
                go_simp
                refine hK _ _ ?_
                clear hK K
                refine wpAny_take (i := 9) (v := .string X4) rfl (by kernel_rfl) (by kernel_rfl) (by kernel_rfl) (fun _ _ _ h => by cases h.1) (Or.inl ⟨by rfl, fun w => by go_simp <;> with_reducible rfl⟩) ?_
                (try simp only [Act.put, List.setIfInBounds_toArray, List.set_cons_zero, List.set_cons_succ])
                refine wpAny_ready (rs := [10]) (by kernel_rfl) (by simp) ?_
                refine AllReady.cons rfl (fun K hK => ?_) (AllReady.nil)
                go_simp
                have C := HWR.out _ kB kU
                refine Calls.mono C ?_
                rintro e w' ⟨rfl, kV, hb⟩
                replace kB := kB.trans hb; clear hb kU
                refine hK _ _ ?_
                clear hK K
                refine wpAny_done (by kernel_rfl) ?_ _
                exact ⟨rfl, rfl, kB, kV⟩
              · skip
                go_simp
                refine hK _ _ ?_
                clear hK K
                refine wpAny_ready (rs := [3]) (by kernel_rfl) (by simp) ?_
                refine AllReady.cons rfl (fun K hK => ?_) (AllReady.nil)
                go_simp
                have C := HIT.out _ (HP.out _ kB)
                refine Calls.mono C ?_
                rintro e w' ⟨rfl, hb⟩
                replace k2 := (hb.cell (p := ⟨n, 2, none⟩) (Nat.lt_of_lt_of_le hn kB.size)).trans k2
                replace kU := builder_at_below kU hb; replace kB := below_to' kB hb kB.size; clear hb
                refine hK _ _ ?_
                clear hK K
                refine wpAny_take (i := 4) (v := .string X1) rfl (by kernel_rfl) (by kernel_rfl) (by kernel_rfl) (fun _ _ _ h => by cases h.1) (Or.inl ⟨by rfl, fun w => by go_simp <;> with_reducible rfl⟩) ?_
                (try simp only [Act.put, List.setIfInBounds_toArray, List.set_cons_zero, List.set_cons_succ])
                refine wpAny_take (i := 5) (v := .string X2) rfl (by kernel_rfl) (by kernel_rfl) (by kernel_rfl) (fun _ _ _ h => by cases h.1) (Or.inl ⟨by rfl, fun w => by go_simp <;> with_reducible rfl⟩) ?_
                (try simp only [Act.put, List.setIfInBounds_toArray, List.set_cons_zero, List.set_cons_succ])
                refine wpAny_take (i := 6) (v := .string X3) rfl (by kernel_rfl) (by kernel_rfl) (by kernel_rfl) (fun _ _ _ h => by cases h.1) (Or.inl ⟨by rfl, fun w => by go_simp <;> with_reducible rfl⟩) ?_
                (try simp only [Act.put, List.setIfInBounds_toArray, List.set_cons_zero, List.set_cons_succ])
                refine wpAny_take (i := 9) (v := .string X4) rfl (by kernel_rfl) (by kernel_rfl) (by kernel_rfl) (fun _ _ _ h => by cases h.1) (Or.inl ⟨by rfl, fun w => by go_simp <;> with_reducible rfl⟩) ?_
                (try simp only [Act.put, List.setIfInBounds_toArray, List.set_cons_zero, List.set_cons_succ])
                refine wpAny_ready (rs := [10]) (by kernel_rfl) (by simp) ?_
                refine AllReady.cons rfl (fun K hK => ?_) (AllReady.nil)
                go_simp
                have C := HWR.out _ kB kU
                refine Calls.mono C ?_
                rintro e w' ⟨rfl, kV, hb⟩
                replace kB := kB.trans hb; clear hb kU
                refine hK _ _ ?_
                clear hK K
                refine wpAny_done (by kernel_rfl) ?_ _
                exact ⟨rfl, rfl, kB, kV⟩
            · skip
              go_simp
              refine hK _ _ ?_
              clear hK K
              refine wpAny_ready (rs := [2]) (by kernel_rfl) (by simp) ?_
              refine AllReady.cons rfl (fun K hK => ?_) (AllReady.nil)
              go_simp
              refine hK _ _ ?_
              clear hK K
              refine wpAny_ready (rs := [3]) (by kernel_rfl) (by simp) ?_
              refine AllReady.cons rfl (fun K hK => ?_) (AllReady.nil)
              go_simp
              have C := HIT.out _ (HP.out _ kB)
              refine Calls.mono C ?_
              rintro e w' ⟨rfl, hb⟩
              replace k2 := (hb.cell (p := ⟨n, 2, none⟩) (Nat.lt_of_lt_of_le hn kB.size)).trans k2
              replace kU := builder_at_below kU hb; replace kB := below_to' kB hb kB.size; clear hb
              refine hK _ _ ?_
              clear hK K
              refine wpAny_take (i := 4) (v := .string X1) rfl (by kernel_rfl) (by kernel_rfl) (by kernel_rfl) (fun _ _ _ h => by cases h.1) (Or.inl ⟨by rfl, fun w => by go_simp <;> with_reducible rfl⟩) ?_
              (try simp only [Act.put, List.setIfInBounds_toArray, List.set_cons_zero, List.set_cons_succ])
              refine wpAny_take (i := 5) (v := .string X2) rfl (by kernel_rfl) (by kernel_rfl) (by kernel_rfl) (fun _ _ _ h => by cases h.1) (Or.inl ⟨by rfl, fun w => by go_simp <;> with_reducible rfl⟩) ?_
              (try simp only [Act.put, List.setIfInBounds_toArray, List.set_cons_zero, List.set_cons_succ])
              refine wpAny_take (i := 6) (v := .string X3) rfl (by kernel_rfl) (by kernel_rfl) (by kernel_rfl) (fun _ _ _ h => by cases h.1) (Or.inl ⟨by rfl, fun w => by go_simp <;> with_reducible rfl⟩) ?_
              (try simp only [Act.put, List.setIfInBounds_toArray, List.set_cons_zero, List.set_cons_succ])
              refine wpAny_take (i := 9) (v := .string X4) rfl (by kernel_rfl) (by kernel_rfl) (by kernel_rfl) (fun _ _ _ h => by cases h.1) (Or.inl ⟨by rfl, fun w => by go_simp <;> with_reducible rfl⟩) ?_
              (try simp only [Act.put, List.setIfInBounds_toArray, List.set_cons_zero, List.set_cons_succ])
              refine wpAny_ready (rs := [10]) (by kernel_rfl) (by simp) ?_
              refine AllReady.cons rfl (fun K hK => ?_) (AllReady.nil)
              go_simp
              have C := HWR.out _ kB kU
              refine Calls.mono C ?_
              rintro e w' ⟨rfl, kV, hb⟩
              replace kB := kB.trans hb; clear hb kU
              refine hK _ _ ?_
              clear hK K
              refine wpAny_done (by kernel_rfl) ?_ _
              exact ⟨rfl, rfl, kB, kV⟩
          · skip
            go_simp
            refine hK _ _ ?_
            clear hK K
            refine wpAny_ready (rs := [1]) (by kernel_rfl) (by simp) ?_
            refine AllReady.cons rfl (fun K hK => ?_) (AllReady.nil)
            go_simp
            refine hK _ _ ?_
            clear hK K
            refine wpAny_ready (rs := [2]) (by kernel_rfl) (by simp) ?_
            refine AllReady.cons rfl (fun K hK => ?_) (AllReady.nil)
            go_simp
            refine hK _ _ ?_
            clear hK K
            refine wpAny_ready (rs := [3]) (by kernel_rfl) (by simp) ?_
            refine AllReady.cons rfl (fun K hK => ?_) (AllReady.nil)
            go_simp
            have C := HIT.out _ (HP.out _ kB)
            refine Calls.mono C ?_
            rintro e w' ⟨rfl, hb⟩
            replace k2 := (hb.cell (p := ⟨n, 2, none⟩) (Nat.lt_of_lt_of_le hn kB.size)).trans k2
            replace kU := builder_at_below kU hb; replace kB := below_to' kB hb kB.size; clear hb
            refine hK _ _ ?_
            clear hK K
            refine wpAny_take (i := 4) (v := .string X1) rfl (by kernel_rfl) (by kernel_rfl) (by kernel_rfl) (fun _ _ _ h => by cases h.1) (Or.inl ⟨by rfl, fun w => by go_simp <;> with_reducible rfl⟩) ?_
            (try simp only [Act.put, List.setIfInBounds_toArray, List.set_cons_zero, List.set_cons_succ])
            refine wpAny_take (i := 5) (v := .string X2) rfl (by kernel_rfl) (by kernel_rfl) (by kernel_rfl) (fun _ _ _ h => by cases h.1) (Or.inl ⟨by rfl, fun w => by go_simp <;> with_reducible rfl⟩) ?_
            (try simp only [Act.put, List.setIfInBounds_toArray, List.set_cons_zero, List.set_cons_succ])
            refine wpAny_take (i := 6) (v := .string X3) rfl (by kernel_rfl) (by kernel_rfl) (by kernel_rfl) (fun _ _ _ h => by cases h.1) (Or.inl ⟨by rfl, fun w => by go_simp <;> with_reducible rfl⟩) ?_
            (try simp only [Act.put, List.setIfInBounds_toArray, List.set_cons_zero, List.set_cons_succ])
            refine wpAny_take (i := 9) (v := .string X4) rfl (by kernel_rfl) (by kernel_rfl) (by kernel_rfl) (fun _ _ _ h => by cases h.1) (Or.inl ⟨by rfl, fun w => by go_simp <;> with_reducible rfl⟩) ?_
            (try simp only [Act.put, List.setIfInBounds_toArray, List.set_cons_zero, List.set_cons_succ])
            refine wpAny_ready (rs := [10]) (by kernel_rfl) (by simp) ?_
            refine AllReady.cons rfl (fun K hK => ?_) (AllReady.nil)
            go_simp
            have C := HWR.out _ kB kU
            refine Calls.mono C ?_
            rintro e w' ⟨rfl, kV, hb⟩
            replace kB := kB.trans hb; clear hb kU
            refine hK _ _ ?_
            clear hK K
            refine wpAny_done (by kernel_rfl) ?_ _
            exact ⟨rfl, rfl, kB, kV⟩
        case hq =>
          intro e a x h
          obtain ⟨rfl, rfl, hB, hU⟩ := h
          have C := Lib.hid (Tryz.Builder_String_any w1.heap.size w1.heap.size _ x (Or.inr (by have := hU; rw [HE.out] at this; exact this)) hB.size)
          have HB2 := Lib.hid hB
          clear hB hU kB kU k2
          go_wp2_with (go_at_call 21; (with_reducible refine Calls.mono C.out ?_); rintro e w' ⟨rfl, hb⟩; have HB3 := Lib.hid (HBW.out.trans ((HB2.out.trans hb).mono HBW.out.size)); clear hb)
          go_ret
          exact ⟨rfl, HB3.out⟩
end Go.Proofs.YtpjjkejppgehaaaGreatDoor
