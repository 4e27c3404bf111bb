/- ranges.hex, ranges.line. -/
import Derived.Test.YthggpjiabklekaaGreatDoorHx
import Derived.Test.YthggpjiabklekaaGreatDoorKr
import Derived.Shelf.Strconv.Itoa3
import Derived.Lib.ItoaMem
import Derived.Laws.Concat
import Derived.Lib.AppendIntMem
namespace Go.Proofs.YthggpjiabklekaaGreatDoor
set_option linter.unusedSimpArgs false
set_option linter.unusedVariables false
open Go.RowKit Go.Lib

theorem szL (a : ByteArray) : a.data.toList.length = a.size := by rw [Array.length_toList]; rfl
theorem szM (l : List UInt8) : (⟨l.toArray⟩ : ByteArray).size = l.length := by show l.toArray.size = _; rw [List.size_toArray]
def bs (l : List UInt8) : ByteArray := ⟨l.toArray⟩
theorem bs_size (l : List UInt8) : (bs l).size = l.length := szM l
theorem bs_append (a b : List UInt8) : bs a ++ bs b = bs (a ++ b) := by
  apply ByteArray.ext
  simp [bs]
theorem bs_app (x : List UInt8) (b : ByteArray) : bs x ++ b = bs (x ++ b.data.toList) := by
  apply ByteArray.ext
  simp [bs]
theorem bs_dl (l : List UInt8) : (bs l).data.toList = l := by simp [bs]
theorem bs_data (s : ByteArray) : s = bs s.data.toList := by
  apply ByteArray.ext
  simp [bs]
theorem add_any (a b : ByteArray) (ha : a.size ≤ 8388608) (hb : b.size ≤ 8388608) : ∃ X : ByteArray, Hid (X.data.toList = a.data.toList ++ b.data.toList) ∧ X.size = a.size + b.size ∧ ∀ W, (Op.stringOp .add a b).run Tryz.prog W = .ok (.string X) W :=
  ⟨⟨(a.data.toList ++ b.data.toList).toArray⟩, rfl, by rw [szM, List.length_append, szL, szL], fun W => run_string_add_lists W a.data.toList b.data.toList (by rw [szL]; omega) (by rw [szL]; omega)⟩
/-- A digit in capitals. -/
def hxU (d : Nat) : Nat := if d < 10 then 48 + d else 55 + d
/-- A number's digits at base 16, in capitals. -/
def hexU (u : Nat) : List UInt8 := if h : u < 16 then [UInt8.ofNat (hxU u)] else hexU (u / 16) ++ [UInt8.ofNat (hxU (u % 16))]
theorem hexU_lt (u : Nat) (h : u < 16) : hexU u = [UInt8.ofNat (hxU u)] := by rw [hexU, dif_pos h]
theorem hexU_ge (u : Nat) (h : ¬ u < 16) : hexU u = hexU (u / 16) ++ [UInt8.ofNat (hxU (u % 16))] := by rw [hexU, dif_neg h]
theorem up_dig : ∀ d : Fin 16, Lib.toUpperA [UInt8.ofNat (hxN d.val)] = [UInt8.ofNat (hxU d.val)] := by decide
theorem toUpperA_append (a b : List UInt8) : Lib.toUpperA (a ++ b) = Lib.toUpperA a ++ Lib.toUpperA b := by simp [Lib.toUpperA]
theorem up_hex (u : Nat) : Lib.toUpperA ((hexL u).map fun d => UInt8.ofNat d) = hexU u := by
  induction u using Nat.strongRecOn with
  | _ u ih =>
    by_cases h : u < 16
    · rw [hexL_lt u h, hexU_lt u h]
      exact up_dig ⟨u, h⟩
    · rw [hexL_ge u h, hexU_ge u h, List.map_append, toUpperA_append, ih (u / 16) (by omega)]
      exact congrArg _ (up_dig ⟨u % 16, Nat.mod_lt _ (by omega)⟩)
theorem hexU_length (u : Nat) : (hexU u).length = (hexL u).length := by rw [← up_hex]; simp [Lib.toUpperA]
/-- A rune's digits: four at least. -/
def runeL (u : Nat) : List UInt8 := List.replicate (4 - (hexU u).length) 48 ++ hexU u
theorem runeL_len (u : Nat) (hu : u < 4294967296) : (runeL u).length ≤ 8 := by
  have := hexL_le 7 u (by omega)
  unfold runeL
  rw [List.length_append, List.length_replicate, hexU_length]
  omega
theorem hexL_ascii (u : Nat) : ∀ d ∈ hexL u, d < 128 := by
  induction u using Nat.strongRecOn with
  | _ u ih =>
    have hh : ∀ d, d < 16 → hxN d < 128 := fun d h => by unfold hxN; split <;> omega
    intro d hd
    by_cases h : u < 16
    · rw [hexL_lt u h] at hd
      obtain rfl := List.mem_singleton.1 hd
      exact hh u h
    · rw [hexL_ge u h, List.mem_append] at hd
      rcases hd with hd | hd
      · exact ih (u / 16) (by omega) d hd
      · obtain rfl := List.mem_singleton.1 hd
        exact hh _ (Nat.mod_lt _ (by omega))
theorem upper_any (u : Nat) (hu : u < 4294967296) (w : World) : Calls Tryz.prog 72 #[.string (hexB u)] w fun e w' => e = .returned (.string (bs (hexU u))) ∧ Below w.heap.size w w' := by
  have hl := hexL_le 7 u (by omega)
  have h := Tryz.strings_ToUpper_ascii (hexB u) w (by rw [hexB, szM, List.length_map]; omega) (fun j b hb => by
    simp only [hexB] at hb
    rw [List.getElem?_map] at hb
    obtain ⟨d, hd, rfl⟩ := Option.map_eq_some_iff.1 hb
    have := hexL_ascii u d (List.mem_of_getElem? hd)
    rw [UInt8.toNat_ofNat_of_lt' (show d < 256 by omega)]
    exact this)
  refine h.mono ?_
  rintro e w' ⟨rfl, hb⟩
  refine ⟨?_, hb⟩
  have e2 : Lib.toUpperA (hexB u).data.toList = hexU u := by rw [← up_hex]; rfl
  rw [e2]
  rfl
/-- What hex wants of the world: the table of the trailing noughts. -/
def Tz (w : World) : Prop := w.cell? ⟨27, 15, none⟩ = some (.int .u8 4)
theorem Tz.below {w w' : World} (h : Tz w) (hb : Below w.heap.size w w') : Tz w' := cell_in hb h
set_option maxRecDepth 20000 in
set_option maxHeartbeats 4000000 in
theorem hex_any (u : Nat) (hu : u < 2147483648) (w : World) (ht : Tz w) : Calls Tryz.prog 52 #[.int .i32 u] w fun e w' => e = .returned (.string (bs (runeL u))) ∧ Below w.heap.size w w' := by
  have C := Lib.hid (fun x (hx : Tz x) => formatInt16 u (by omega) x hx)
  have C2 := Lib.hid (fun x => upper_any u (by omega) x)
  have HT := Lib.hid ht
  have hl := hexL_le 7 u (by omega)
  rw [← hexU_length] at hl
  obtain ⟨R, hR⟩ : ∃ R, runeL u = R := ⟨_, rfl⟩
  rw [hR]
  unfold runeL at hR
  generalize hexU u = h at C2 hl hR
  have HR := Lib.hid hR
  clear hR ht
  go_enter Tryz.func52, Tryz.ntmps52
  go_wp2_with (first
    | (go_at_call 73; refine (C.out _ HT.out).mono ?_; rintro e w1 ⟨rfl, hb⟩; have HB1 := Lib.hid hb; clear hb)
    | (go_at_call 72; refine (C2.out _).mono ?_; rintro e w2 ⟨rfl, hb⟩; have HB2 := Lib.hid (below_to HB1.out hb); clear hb))
  go_loop [3] (fun s => ∃ k : Nat, k ≤ 4 - h.length ∧ s = .string (bs (List.replicate k 48 ++ h))) (fun s => match s with | .string b => 100 - b.size | _ => 0)
  case atStart => exact ⟨0, by omega, by simp⟩
  case round =>
    obtain ⟨k, hk, rfl⟩ := hrel
    have hsz : (bs (List.replicate k 48 ++ h)).size = k + h.length := by rw [bs_size, List.length_append, List.length_replicate]
    obtain ⟨X, hX⟩ : ∃ X, bs (List.replicate k 48 ++ h) = X := ⟨_, rfl⟩
    rw [hX] at hsz ⊢
    have HX := Lib.hid hX
    have hs1 : X.size ≤ k + h.length := by omega
    have hs2 : k + h.length ≤ X.size := by omega
    clear hX hsz
    by_cases hlt : k + h.length < 4
    · have hlt' : (X.size : Int) < 4 := by omega
      obtain ⟨Y, hY, z1, add1⟩ := add_any ⟨#[48]⟩ X (by decide) (by omega)
      have HY := Lib.hid hY
      clear hY
      have q1 : (⟨#[48]⟩ : ByteArray).size = 1 := rfl
      go_wp2
      go_round
      case rel =>
        refine ⟨k + 1, by omega, ?_⟩
        have e : Y = bs (List.replicate (k + 1) 48 ++ h) := by
          rw [bs_data Y, HY.out, ← HX.out, bs_dl, List.replicate_succ]
          rfl
        rw [e]
      case measure => simp only [z1]; omega
    · have hlt' : ¬ (X.size : Int) < 4 := by omega
      go_wp2
      go_ret
      exact ⟨by rw [← HX.out, ← HR.out, show 4 - h.length = k by omega]; rfl, HB2.out⟩
/-- The table of the powers of ten. -/
def Pow10 (w : World) : Prop := Lib.TabIs Tryz.prog w "internal/strconv.uint64pow10" .u64 Lib.pow10Tab
theorem Pow10.below {w w' : World} (h : Pow10 w) (hb : Below w.heap.size w w') : Pow10 w' := by
  unfold Pow10 Lib.TabIs World.var? at *
  cases hg : Tryz.prog.globalNamed "internal/strconv.uint64pow10" with
  | none => simp [hg] at h
  | some g =>
    simp only [hg, Option.bind_some] at h ⊢
    have hlt : g < w.heap.size := by
      refine Classical.byContradiction fun hn => ?_
      rw [Array.getElem?_eq_none (by omega)] at h
      simp at h
    rw [hb.block g hlt]
    exact h
theorem itoa_any (n : Int) (h0 : -9223372036854775808 ≤ n) (h1 : n ≤ 9223372036854775807) (w : World) (hp : Pow10 w) :
    Calls Tryz.prog 53 #[.int .i64 n] w fun e w' => e = .returned (.string ⟨(Lib.itoa n).toArray⟩) ∧ Below w.heap.size w w' := by
  refine (Tryz.strconv_Itoa n h0 h1 w hp).mono ?_
  rintro e w' ⟨rfl, k, os, rfl⟩
  exact ⟨rfl, Lib.below_grow _ w (Nat.le_refl _) k os⟩
theorem itoa_len (n : Int) (h0 : -9223372036854775808 ≤ n) (h1 : n ≤ 9223372036854775807) : (Lib.itoa n).length ≤ 21 := by
  have key : ∀ m : Nat, m < 18446744073709551616 → (Lib.decDigits m).length ≤ 20 := by
    intro m hm
    rw [Lib.decDigits_length]
    by_cases h : 1 ≤ m
    · have := Lib.numDigits_eq m h (by omega); split at this <;> omega
    · obtain h : m = 0 := by omega
      rw [← Lib.decDigits_length, h, Lib.decDigits_one (by omega)]
      simp
  rw [Lib.itoa]
  split
  · have := key n.natAbs (by omega); simp; omega
  · have := key n.toNat (by omega); omega
/-- A range's line. -/
def lineL (a b : Nat) (v : Int) : List UInt8 := runeL a ++ (if b = a then [] else [46, 46] ++ runeL b) ++ [32] ++ Lib.itoa v
set_option maxRecDepth 20000 in
set_option maxHeartbeats 4000000 in
theorem line_any (a b : Nat) (v : Int) (ha : a < 2147483648) (hb : b < 2147483648) (h0 : -9223372036854775808 ≤ v) (h1 : v ≤ 9223372036854775807) (w : World) (ht : Tz w) (hp : Pow10 w) :
    Calls Tryz.prog 30 #[.agg #[.int .i32 a, .int .i32 b, .int .i64 v]] w fun e w' => e = .returned (.string (bs (lineL a b v))) ∧ Below w.heap.size w w' := by
  have CA := Lib.hid (fun x (hx : Tz x) => hex_any a ha x hx)
  have CB := Lib.hid (fun x (hx : Tz x) => hex_any b hb x hx)
  have CI := Lib.hid (fun x (hx : Pow10 x) => itoa_any v h0 h1 x hx)
  have la := runeL_len a (by omega)
  have lb := runeL_len b (by omega)
  have lv := itoa_len v h0 h1
  obtain ⟨R, hR⟩ : ∃ R, lineL a b v = R := ⟨_, rfl⟩
  rw [hR]
  unfold lineL at hR
  rw [show (⟨(Lib.itoa v).toArray⟩ : ByteArray) = bs (Lib.itoa v) from rfl] at CI
  generalize runeL a = ra at *
  generalize runeL b = rb at *
  generalize Lib.itoa v = iv at *
  have HR := Lib.hid hR
  have hb0 : Below w.heap.size w (w.alloc (.cells #[.int .i32 a, .int .i32 b, .int .i64 v] 28)) := (Below.refl _ _).alloc (Nat.le_refl _) _
  have HB0 := Lib.hid hb0
  have HN := Lib.hid (blk_new w (.cells #[.int .i32 a, .int .i32 b, .int .i64 v] 28))
  have HT := Lib.hid (ht.below hb0)
  have HP := Lib.hid (hp.below hb0)
  have qsp : (⟨#[32]⟩ : ByteArray).size = 1 := rfl
  have qdd : (⟨#[46, 46]⟩ : ByteArray).size = 2 := rfl
  have za : (bs ra).size ≤ 8 := by rw [bs_size]; exact la
  have zb : (bs rb).size ≤ 8 := by rw [bs_size]; exact lb
  have zv : (bs iv).size ≤ 21 := by rw [bs_size]; exact lv
  clear hR hb0 ht hp
  by_cases hab : b = a
  · subst hab
    rw [if_pos rfl] at HR
    obtain ⟨X1, hX1, z1, add1⟩ := add_any (bs ra) ⟨#[32]⟩ (by omega) (by decide)
    obtain ⟨X2, hX2, z2, add2⟩ := add_any X1 (bs iv) (by omega) (by omega)
    have HE : Hid (X2 = bs R) := by
      show _ = _
      rw [bs_data X2, hX2.out, hX1.out, ← HR.out, bs_dl, bs_dl, List.append_nil]
    have hne : ((b : Int) != (b : Int)) = false := by simp
    clear z1 z2 qsp qdd hX1 hX2
    go_enter Tryz.func30, Tryz.ntmps30
    go_wp2_with (first
      | (go_at_call 52; refine (CA.out _ HT.out).mono ?_; rintro e w1 ⟨rfl, hb⟩; have hn := below_blk hb HN.out; have q0 := (blk_cell hn 0).trans rfl; have q1 := (blk_cell hn 1).trans rfl; have q2 := (blk_cell hn 2).trans rfl; have HB1 := Lib.hid (below_to HB0.out hb); have HP1 := Lib.hid (HP.out.below hb); clear hb hn)
      | (go_at_call 53; refine (CI.out _ HP1.out).mono ?_; rintro e w2 ⟨rfl, hb⟩; have HB2 := Lib.hid (below_to HB1.out hb); clear hb))
    go_ret
    exact ⟨by rw [← HE.out]; rfl, HB2.out⟩
  · rw [if_neg hab] at HR
    obtain ⟨X0, hX0, z0, add0⟩ := add_any ⟨#[46, 46]⟩ (bs rb) (by decide) (by omega)
    obtain ⟨X3, hX3, z3, add3⟩ := add_any (bs ra) X0 (by omega) (by omega)
    obtain ⟨X1, hX1, z1, add1⟩ := add_any X3 ⟨#[32]⟩ (by omega) (by decide)
    obtain ⟨X2, hX2, z2, add2⟩ := add_any X1 (bs iv) (by omega) (by omega)
    have HE : Hid (X2 = bs R) := by
      show _ = _
      rw [bs_data X2, hX2.out, hX1.out, hX3.out, hX0.out, ← HR.out, bs_dl, bs_dl, bs_dl]
    have hne : ((b : Int) != (a : Int)) = true := by rw [bne_iff_ne]; omega
    have hne2 : ((b : Int) == (a : Int)) = false := by rw [beq_eq_false_iff_ne]; omega
    clear z0 z1 z2 z3 qsp qdd hX0 hX1 hX2 hX3 hab
    go_enter Tryz.func30, Tryz.ntmps30
    go_wp2_with (first
      | (go_at_call 52; refine (CA.out _ HT.out).mono ?_; rintro e w1 ⟨rfl, hb⟩; have hn := below_blk hb HN.out; have HN1 := Lib.hid hn; have q0 := (blk_cell hn 0).trans rfl; have q1 := (blk_cell hn 1).trans rfl; have q2 := (blk_cell hn 2).trans rfl; have HB1 := Lib.hid (below_to HB0.out hb); have HP1 := Lib.hid (HP.out.below hb); have HT1 := Lib.hid (HT.out.below hb); clear hb hn CA)
      | (go_at_call 52; refine (CB.out _ HT1.out).mono ?_; rintro e w3 ⟨rfl, hb⟩; have hn := below_blk hb HN1.out; have q0 := (blk_cell hn 0).trans rfl; have q1 := (blk_cell hn 1).trans rfl; have q2 := (blk_cell hn 2).trans rfl; have HB3 := Lib.hid (below_to HB1.out hb); have HP3 := Lib.hid (HP1.out.below hb); clear hb hn)
      | (go_at_call 53; refine (CI.out _ HP3.out).mono ?_; rintro e w2 ⟨rfl, hb⟩; have HB2 := Lib.hid (below_to HB3.out hb); clear hb))
    go_ret
    exact ⟨by rw [← HE.out]; rfl, HB2.out⟩
end Go.Proofs.YthggpjiabklekaaGreatDoor
