/- ranges.Text. -/
import Derived.Test.YthggpjiabklekaaGreatDoorBw
import Derived.Test.YthggpjiabklekaaGreatDoorPl
import Derived.Test.YthggpjiabklekaaGreatDoorFd
namespace Go.Proofs.YthggpjiabklekaaGreatDoor
set_option linter.unusedSimpArgs false
set_option linter.unusedVariables false
open Go.RowKit Go.Lib

def lineR (x : Rg) : List UInt8 := lineL x.1.toNat x.2.1.toNat x.2.2
/-- A table's text. -/
def textS : List Rg → List UInt8
  | [] => []
  | x :: r => (lineR x ++ [10]) ++ textS r
theorem textS_snoc : ∀ (l : List Rg) (x : Rg), textS (l ++ [x]) = textS l ++ (lineR x ++ [10])
  | [], x => by simp [textS]
  | y :: r, x => by simp [textS, textS_snoc r x]
theorem textS_take (l : List Rg) (k : Nat) (hk : k < l.length) : textS (l.take (k + 1)) = textS (l.take k) ++ (lineR l[k] ++ [10]) := by
  rw [List.take_succ_eq_append_getElem hk, textS_snoc]
/-- A row of a table. -/
def InT (x : Rg) : Prop := 0 ≤ x.1 ∧ x.1 ≤ 1114111 ∧ 0 ≤ x.2.1 ∧ x.2.1 ≤ 1114111 ∧ 0 ≤ x.2.2 ∧ x.2.2 ≤ 999999
theorem inT_of : ∀ (p : List Rg) (la : Int), Tab la p → ∀ x ∈ p, InT x
  | [], _, _, x, hx => by cases hx
  | y :: r, la, h, x, hx => by
    obtain ⟨h1, h2, h3⟩ := h
    rcases List.mem_cons.1 hx with rfl | hx
    · have h : 0 ≤ x.1 ∧ x.1 ≤ x.2.1 ∧ x.2.1 ≤ 1114111 ∧ 0 ≤ x.2.2 ∧ x.2.2 ≤ 999999 := of_decide_eq_true h1
      exact ⟨h.1, by omega, by omega, h.2.2.1, h.2.2.2⟩
    · exact inT_of r _ h3 x hx
theorem lineR_len (x : Rg) (h : InT x) : (lineR x).length ≤ 40 := by
  obtain ⟨h1, h2, h3, h4, h5, h6⟩ := h
  have a := runeL_len x.1.toNat (by omega)
  have b := runeL_len x.2.1.toNat (by omega)
  have c := itoa_len x.2.2 (by omega) (by omega)
  unfold lineR lineL
  split <;> simp only [List.length_append, List.length_cons, List.length_nil] <;> omega
theorem textS_len (m : Nat) : ∀ (l : List Rg), (∀ x ∈ l, InT x) → (textS l).length ≤ 41 * l.length
  | [], _ => by simp [textS]
  | x :: r, h => by
    have a := lineR_len x (h x List.mem_cons_self)
    have b := textS_len m r fun y hy => h y (List.mem_cons_of_mem _ hy)
    simp only [textS, List.length_append, List.length_cons, List.length_nil]
    omega
theorem lineR_any (x : Rg) (h : InT x) (w : World) (ht : Tz w) (hp : Pow10 w) : Calls Tryz.prog 30 #[.agg #[.int .i32 x.1, .int .i32 x.2.1, .int .i64 x.2.2]] w fun e w' => e = .returned (.string (bs (lineR x))) ∧ Below w.heap.size w w' := by
  obtain ⟨h1, h2, h3, h4, h5, h6⟩ := h
  have C := line_any x.1.toNat x.2.1.toNat x.2.2 (by omega) (by omega) (by omega) (by omega) w ht hp
  rw [show ((x.1.toNat : Nat) : Int) = x.1 by omega, show ((x.2.1.toNat : Nat) : Int) = x.2.1 by omega] at C
  exact C
theorem builder_at_below {B b : Nat} {p : Value} {bs : List Value} {w w' : World} (h : Lib.BuilderAt 59 5 B b p bs w) (hb : Below w.heap.size w w') : Lib.BuilderAt 59 5 B b p bs w' := by
  obtain ⟨hB, v, hbk, hown, hne⟩ := h
  exact ⟨hB, v, below_blk hb hbk, own_below hown hb, hne⟩
theorem builder_below {B b : Nat} {bs : List Value} {w w' : World} (h : Lib.IsBuilder 59 5 B b bs w) (hb : Below w.heap.size w w') : Lib.IsBuilder 59 5 B b bs w' :=
  h.imp (fun h => builder_at_below h hb) (fun h => builder_at_below h hb)
theorem below_to' {B : Nat} {w x y : World} (h : Below B w x) (k : Below x.heap.size x y) (hB : B ≤ x.heap.size) : Below B w y := h.trans (k.mono hB)
set_option maxRecDepth 100000 in
set_option maxHeartbeats 8000000 in
theorem text_bad (A : Option Addr) (c : Nat) (p : List Rg) (w : World) (hI : RInv w) (hA : Lies w A p) (hl : p.length ≤ 2000) (hn : checkS p ≠ none) :
    Calls Tryz.prog 15 #[.slice A p.length c] w fun e w' => e = .returned (.string ⟨#[]⟩) ∧ Below w.heap.size w w' := by
  have C := check_small A c p w hI.is hA hl
  obtain ⟨⟨a, m⟩, hm⟩ := Option.ne_none_iff_exists'.1 hn
  rw [hm] at C
  have C := Lib.hid C
  clear hm hn hI hA
  go_enter Tryz.func15, Tryz.ntmps15
  go_wp2_with (go_at_call 26; (with_reducible refine Calls.mono C.out ?_); rintro e w1 ⟨v, rfl, ⟨-, -, g, s, rfl, -, -⟩, hb1⟩; have HB1 := Lib.hid hb1; clear hb1)
  go_ret
  exact ⟨rfl, HB1.out⟩
set_option maxRecDepth 100000 in
set_option maxHeartbeats 8000000 in
theorem text_good (A : Option Addr) (c : Nat) (p : List Rg) (w : World) (hI : RInv w) (hA : Lies w A p) (hl : p.length ≤ 2000) (hn : checkS p = none) (hX : ∀ x ∈ p, InT x) :
    Calls Tryz.prog 15 #[.slice A p.length c] w fun e w' => e = .returned (.string ⟨(textS p).toArray⟩) ∧ Below w.heap.size w w' := by
  have C := check_small A c p w hI.is hA hl
  rw [hn] at C
  have C := Lib.hid C
  have HI := Lib.hid hI
  have HA := Lib.hid hA
  have HX := Lib.hid hX
  clear hn hI hA hX
  go_enter Tryz.func15, Tryz.ntmps15
  go_wp2_with (go_at_call 26; (with_reducible refine Calls.mono C.out ?_); rintro e w1 ⟨v, rfl, hv, hb1⟩; obtain rfl : v = .nilIface := hv; have HB1 := Lib.hid hb1; clear hb1)
  have HI1 := Lib.hid (HI.out.below HB1.out)
  have HA1 := Lib.hid (HA.out.below HB1.out)
  have kB : Below w1.heap.size w1 (w1.alloc (.cells #[.pointer none, .slice none 0 0] 59)) := (Below.refl _ _).alloc (Nat.le_refl _) _
  have kU : Lib.IsBuilder 59 5 w1.heap.size w1.heap.size (Lib.byteCells []) (w1.alloc (.cells #[.pointer none, .slice none 0 0] 59)) := Lib.fresh_isBuilder 59 5 w1
  have KB := Lib.hid kB
  have KU := Lib.hid kU
  clear kB kU
  generalize w1.alloc (.cells #[.pointer none, .slice none 0 0] 59) = x0 at KB KU ⊢
  obtain ⟨n, hnn⟩ : ∃ n, n = w1.heap.size := ⟨_, rfl⟩
  have HNN := Lib.hid hnn
  rw [← hnn] at KB KU ⊢
  clear hnn
  go_loopw [11] (fun i wr => ∃ k : Nat, k ≤ p.length ∧ i = .int .i64 k ∧ Below n w1 wr ∧ Lib.IsBuilder 59 5 n n (Lib.byteCells (textS (p.take k))) wr) (fun i _ => p.length - (RowKit.intOf i).toNat)
  case atStart => exact ⟨0, Nat.zero_le _, rfl, KB.out, KU.out⟩
  case round =>
    obtain ⟨k, hk, rfl, hB, hU⟩ := hrel
    have HB := Lib.hid hB
    have HU := Lib.hid hU
    have hwn : w1.heap.size ≤ wr.heap.size := hB.size
    have HRI := Lib.hid (HI1.out.below (by rw [← HNN.out]; exact hB))
    by_cases hkl : k < p.length
    · have hkl' : (k : Int) < (p.length : Int) := by omega
      obtain ⟨ad, rfl, hcells⟩ := HA1.out (by omega)
      obtain ⟨c0, c1, c2⟩ := hcells k hkl
      have hbw : Below w1.heap.size w1 wr := by rw [← HNN.out]; exact hB
      replace c0 := cell_in hbw c0
      replace c1 := cell_in hbw c1
      replace c2 := cell_in hbw c2
      replace c1 : wr.cell? { block := (ad.add (k * 3)).block, off := (ad.add (k * 3)).off + 1 } = some (.int .i32 p[k].2.1) := by
        rw [← Addr.add_add] at c1; exact c1
      replace c2 : wr.cell? { block := (ad.add (k * 3)).block, off := (ad.add (k * 3)).off + 2 } = some (.int .i64 p[k].2.2) := by
        rw [← Addr.add_add] at c2; exact c2
      have hin := HX.out _ (List.getElem_mem hkl)
      have CL := Lib.hid (fun W ht hp => lineR_any p[k] hin W ht hp)
      have hll := lineR_len _ hin
      have HT := Lib.hid (textS_take p k hkl)
      have hlen := textS_len 0 (p.take k) (fun y hy => HX.out y (List.mem_of_mem_take hy))
      have hlen2 : (textS (p.take k)).length ≤ 100000 := by have h := List.length_take_le k p; have h2 : (p.take k).length ≤ k := h; omega
      have HLen := Lib.hid hlen2
      generalize p[k] = x at c0 c1 c2 CL hll HT
      generalize lineR x = ln at CL hll HT
      have zl : (bs ln).size ≤ 40 := by rw [bs_size]; exact hll
      obtain ⟨X, hX, z1, add1⟩ := add_any (bs ln) ⟨#[10]⟩ (by omega) (by decide)
      have hXl : X.data.toList = ln ++ [10] := by rw [hX.out, bs_dl]
      have HXL := Lib.hid hXl
      have zX : X.size ≤ 41 := by rw [z1]; show _ + 1 ≤ 41; omega
      clear z1 hX hXl hlen hlen2 hin hll hbw hcells hB hU
      go_wp2_with (first
        | (go_at_call 30; have S1 := (Below.refl wr.heap.size wr).alloc (Nat.le_refl _) (.cells #[.int .i32 x.1, .int .i32 x.2.1, .int .i64 x.2.2] 28); refine (CL.out _ (HRI.out.below S1).tz (HRI.out.below S1).p10).mono ?_; rintro e w2 ⟨rfl, hb⟩; have hbb := below_to S1 hb; have HU2 := Lib.hid (builder_below HU.out hbb); have HB2 := Lib.hid (below_to' HB.out hbb (by have := HNN.out; omega)); have hn2 : n ≤ w2.heap.size := (by have := HNN.out; have := hbb.size; omega); clear S1 hb hbb)
        | (go_at_call 29; refine (write_any n n _ X _ HU2.out (by have := HLen.out; rw [Lib.byteCells, List.length_map]; omega) hn2).mono ?_; rintro e w3 ⟨rfl, hu, hb⟩; have HU3 := Lib.hid hu; have HB3 := Lib.hid (HB2.out.trans hb); clear hu hb))
      go_roundw
      case rel =>
        refine ⟨k + 1, by omega, by go_num, HB3.out, Or.inr ?_⟩
        rw [HT.out, Lib.byteCells_append, ← HXL.out]
        exact HU3.out
      case measure => simp [RowKit.intOf]; omega
    · have hkl' : ¬ (k : Int) < (p.length : Int) := by omega
      have hkk : k = p.length := by omega
      rw [hkk, List.take_length] at hU
      have CS := Tryz.Builder_String_any n n _ wr hU (by have := HNN.out; omega)
      have CS' := Lib.hid CS
      clear hB hU HU CS
      go_wp2_with (go_at_call 31; (with_reducible refine Calls.mono CS'.out ?_); rintro e w' ⟨rfl, hb⟩; have HB3 := Lib.hid (HB1.out.trans ((HB.out.trans hb).mono (by have := HNN.out; have := HB1.out.size; omega))); clear hb)
      go_ret
      exact ⟨rfl, HB3.out⟩
end Go.Proofs.YthggpjiabklekaaGreatDoor
