/- http's reader: a header, on the good way. -/
import Derived.Test.YtpjjkejppgehaaaGreatDoorZb
import Derived.Shelf.Strings.SlTrimAscii
import Derived.Deep.LoopGhost
import Derived.Deep.CutRange
namespace Go.Proofs.YtpjjkejppgehaaaGreatDoor
set_option linter.unusedSimpArgs false
set_option linter.unusedVariables false
open Go.RowKit

/-- A value without what is blank at its end. -/
def trimV (s : ByteArray) : ByteArray := ⟨(Lib.trimRightS s.data.toList [32, 9]).toArray⟩
theorem trim_any (s : ByteArray) (hs : s.size ≤ 9223372036854775807) (w : World) : Calls Tryz.prog 62 #[.string s, .string ⟨#[32, 9]⟩] w fun e w' => e = .returned (.string (trimV s)) ∧ Below w.heap.size w w' :=
  Any.strings_TrimRight_laid Tryz.lays162 (by kernel_rfl) s ⟨#[32, 9]⟩ w hs (by decide) (ascii_of_all (by decide))
theorem blank_not (b : Nat) (h : b = 32 ∨ b = 9) : True := trivial
theorem colon_not : isSort 1 58 = false := by decide
theorem cr_not : isSort 2 13 = false := by decide
/-- What stands of a header from k on: its name up to n1, its value from n2 to n3, the line's end. -/
structure HdrAt (s : ByteArray) (k n1 n2 n3 : Nat) : Prop where
  h1 : k < n1
  h2 : n1 + 1 ≤ n2
  h3 : n2 ≤ n3
  h4 : n3 + 2 ≤ s.size
  name : ∀ i, k ≤ i → i < n1 → ∀ h : i < s.size, isSort 1 s[i] = true
  colon : ∀ h : n1 < s.size, s[n1] = 58
  gap : ∀ i, n1 + 1 ≤ i → i < n2 → ∀ h : i < s.size, s[i] = 32 ∨ s[i] = 9
  nogap : ∀ h : n2 < s.size, s[n2].toNat ≠ 32 ∧ s[n2].toNat ≠ 9
  value : ∀ i, n2 ≤ i → i < n3 → ∀ h : i < s.size, isSort 2 s[i] = true
  cr : ∀ h : n3 < s.size, s[n3] = 13
  lf : ∀ h : n3 + 1 < s.size, s[n3 + 1] = 10
/-- The header's block, and the reader. -/
def Hx (b : Nat) (s : ByteArray) (w : World) (k : Nat) (x : World) : Prop := At b s (w.alloc (.cells #[.string ⟨#[]⟩, .string ⟨#[]⟩] 43)) k x
theorem Hx.new {b : Nat} {s : ByteArray} {w : World} {k : Nat} (h : Rd w b s k) : Hx b s w k (w.alloc (.cells #[.string ⟨#[]⟩, .string ⟨#[]⟩] 43)) := ⟨But.refl _ _, h.but ((Below.refl _ _).alloc (Nat.le_refl _) _)⟩
theorem Hx.blk {b : Nat} {s : ByteArray} {w x : World} {k : Nat} (h : Hx b s w k x) (hb : b < w.heap.size) : x.heap[w.heap.size]? = some (.cells #[.string ⟨#[]⟩, .string ⟨#[]⟩] 43 (0, 0)) := by
  refine (h.1.block w.heap.size (by simp) (by omega)).trans ?_
  show (w.heap.push _)[w.heap.size]? = _
  simp
theorem Hx.at_ {b : Nat} {s : ByteArray} {w x : World} {k : Nat} (h : Hx b s w k x) : But b w x := (But.of_below ((Below.refl w.heap.size w).alloc (Nat.le_refl _) _) (Nat.le_refl _)).trans h.1
theorem set2_cell {w : World} {n : Nat} {a b : Value} {t : TypeId} (h : w.heap[n]? = some (.cells #[a, b] t (0, 0))) (x y : Value) : ((w.setCell ⟨n, 0, none⟩ x).setCell ⟨n, 1, none⟩ y).heap[n]? = some (.cells #[x, y] t (0, 0)) := by
  have := blk_set (blk_set h 0 x) 1 y
  simpa using this
/-- The header that is read. -/
def hdrV (s : ByteArray) (k n1 n2 n3 : Nat) : Value := .agg #[.string (smallB (s.extract k n1)), .string (trimV (s.extract n2 n3))]
abbrev SC (b : Nat) (s : ByteArray) (w : World) (k : Nat) (x : World) : Prop := At b s w k x ∧ x.cell? ⟨b, 0, none⟩ = some (.string s) ∧ x.cell? ⟨b, 1, none⟩ = some (.int .i64 k) ∧ x.frozen? ⟨b, 1, none⟩ = false
theorem SC.of {b : Nat} {s : ByteArray} {w x : World} {k : Nat} (h : At b s w k x) : SC b s w k x := ⟨h, h.2.c0, h.2.c1, h.2.fz 1⟩
theorem SC.drew {b : Nat} {s : ByteArray} {w x : World} {k : Nat} (h : SC b s w k x) : SC b s w k x.drew := ⟨h.1.drew, h.2⟩
theorem ext_size (s : ByteArray) (i j : Nat) (h : j ≤ s.size) : (s.extract i j).size = j - i := by rw [ByteArray.size_extract]; omega

set_option maxRecDepth 20000 in
set_option maxHeartbeats 8000000 in
theorem header_at (b : Nat) (s : ByteArray) (k n1 n2 n3 : Nat) (hs : s.size ≤ 70000) (H : HdrAt s k n1 n2 n3) (w : World) (h : Rd w b s k) :
    Calls Tryz.prog 40 #[.pointer (some ⟨b, 0, none⟩)] w fun e w' => e = .returned (hdrV s k n1 n2 n3) ∧ But b w w' ∧ Rd w' b s (n3 + 2) := by
  have hbl := h.lt
  have h1 := H.h1; have h2 := H.h2; have h3 := H.h3; have h4 := H.h4
  obtain ⟨w0, hw0⟩ : ∃ w0, w0 = w.alloc (.cells #[.string ⟨#[]⟩, .string ⟨#[]⟩] 43) := ⟨_, rfl⟩
  have nA : At b s w0 k w0 := by subst hw0; exact Hx.new h
  have HB := Lib.hid (fun (q : Nat) (x : World) (g : At b s w0 q x) => (show x.heap[w.heap.size]? = some (.cells #[.string ⟨#[]⟩, .string ⟨#[]⟩] 43 (0, 0)) ∧ But b w x from by subst hw0; exact ⟨Hx.blk g hbl, Hx.at_ g⟩))
  have HS1 := Lib.hid (fun x => some_at b s w0 k n1 s.size 1 (Or.inl rfl) hs hs h1 (by omega) (by omega) H.name (Or.inr ⟨by omega, fun h => by rw [H.colon h]; exact colon_not⟩) x)
  have HC := Lib.hid (fun x => want_at b s ⟨#[58]⟩ w0 n1 hs (by decide) (by show n1 + 1 ≤ s.size; omega) (fun i hi g1 g2 => by
    have hi0 : i = 0 := by have : i < 1 := hi
                           omega
    subst hi0; exact H.colon (by omega)) x)
  have HW := Lib.hid (fun x => want_at b s ⟨#[13, 10]⟩ w0 n3 hs (by decide) (by show n3 + 2 ≤ s.size; omega) (fun i hi g1 g2 => by
    have hi2 : i < 2 := hi
    rcases (by omega : i = 0 ∨ i = 1) with rfl | rfl
    · exact H.cr (by omega)
    · exact H.lf (by omega)) x)
  have HT := Lib.hid (fun x => trim_any (s.extract n2 n3) (by rw [ext_size _ _ _ (by omega)]; omega) x)
  have HSm := Lib.hid (fun x => small_any (s.extract k n1) (by rw [ext_size _ _ _ (by omega)]; omega) x)
  have HP := Lib.hid (fun (q : Nat) (hq : q < s.size) x => peek_at b s w0 q hq (s[q].toNat : Int) rfl x)
  have HH := Lib.hid H
  have hlt2 : n2 < s.size := by omega
  clear H h
  obtain ⟨nA, c0, c1, z1⟩ := nA.facts
  go_enter Tryz.func40, Tryz.ntmps40
  go_upto_region 1 with (fail)
  rw [← hw0]
  clear hw0
  go_wp2_with (first
    | (go_at_call 39; (with_reducible refine Calls.mono (HP.out (n1 + 1) (by omega) _ (by assumption)) ?_); rintro e w3 ⟨rfl, nA⟩; obtain ⟨nA, c0, c1, z1⟩ := nA.facts)
    | (go_at_call 38; (with_reducible refine Calls.mono (HC.out _ (by assumption)) ?_); rintro e w2 ⟨rfl, nA⟩; have nA : At b s w0 (n1 + 1) _ := nA; obtain ⟨nA, c0, c1, z1⟩ := nA.facts)
    | (go_at_call 37; (with_reducible refine Calls.mono (HS1.out _ (by assumption)) ?_); rintro e w1 ⟨rfl, nA⟩; obtain ⟨nA, c0, c1, z1⟩ := nA.facts))
  go_loopg [4] (n2 - (n1 + 1)) (fun g v wr => ∃ q : Nat, ∃ hq : q < s.size, n1 + 1 ≤ q ∧ q ≤ n2 ∧ g ≤ n2 - q ∧ n2 - q ≤ g ∧ v = .int .u8 (s[q].toNat : Int) ∧ At b s w0 q wr)
  case atStart => exact ⟨n1 + 1, by omega, by omega, by omega, by omega, by omega, rfl, nA⟩
  case round =>
    clear nA c0 c1 z1
    obtain ⟨q, hq, hq1, hq2, hg1, hg2, rfl, hA⟩ := hrel
    obtain ⟨nA, c0, c1, z1⟩ := hA.facts
    clear hA
    by_cases hqn : q < n2
    · have e1 : IntKind.i64.wrap ((q : Int) + 1) = (q : Int) + 1 := IntWalk.i64_in _ (by omega)
      have hg := HH.out.gap q hq1 hqn hq
      have hc : (s[q].toNat : Int) = 32 ∨ (s[q].toNat : Int) = 9 := by
        rcases hg with h | h <;> rw [h] <;> decide
      clear hg
      have nB := nA.step ((q : Int) + 1) (q + 1) (by omega)
      rcases hc with hc | hc
      all_goals
        go_wp2_with (go_at_call 39; (with_reducible refine Calls.mono (HP.out (q + 1) (by omega) _ nB) ?_); rintro e w4 ⟨rfl, nA4⟩)
        go_roundg (n2 - (q + 1))
        case measure => omega
        case rel => exact ⟨q + 1, by omega, by omega, by omega, by omega, by omega, rfl, nA4⟩
    · obtain rfl : q = n2 := by omega
      have hgap := HH.out.nogap hq
      have m32 : ((s[q].toNat : Int) == 32) = false := by rw [beq_eq_false_iff_ne]; omega
      have m9 : ((s[q].toNat : Int) == 9) = false := by rw [beq_eq_false_iff_ne]; omega
      clear hgap
      go_wp2
      go_loopg [] (n3 - q) (fun g wz => ∃ p : Nat, q ≤ p ∧ p ≤ n3 ∧ g ≤ n3 - p ∧ n3 - p ≤ g ∧ At b s w0 p wz)
      case atStart => exact ⟨q, by omega, by omega, by omega, by omega, nA⟩
      case round =>
        clear nA c0 c1 z1
        obtain ⟨p, hp1, hp2, hg1, hg2, hA⟩ := hrel
        obtain ⟨nA, c0, c1, z1⟩ := hA.facts
        clear hA
        have hps : p < s.size := by omega
        obtain ⟨c, hc⟩ : ∃ c, s[p].toNat = c := ⟨_, rfl⟩
        have hc256 : c < 256 := by have := s[p].toNat_lt; omega
        have HPX := Lib.hid (peek_sx b s w0 p c hc256 hps hc)
        have hc1 : (c : Int) < 256 := by omega
        have e1 : IntKind.i64.wrap ((p : Int) + 1) = (p : Int) + 1 := IntWalk.i64_in _ (by omega)
        by_cases hpn : p < n3
        · have hS := HH.out.value p hp1 hpn hps
          unfold isSort at hS
          rw [hc] at hS
          have hb : (bits BinOp.and IntKind.u8 (kindN c : Int) 2 != 0) = true := by rw [show (2 : Int) = ((2 : Nat) : Int) from rfl, (bits_kind c 2 (by omega)).2]; exact hS
          have nX := SX.of hc256 nA
          clear hS nA c0 c1 z1
          go_wp2
          go_region_held3 (SX b s w0 p c) (first | assumption | exact SX.drew (by assumption)) (first
            | (go_at_call 39; have kA := ‹SX b s w0 p c _›; (with_reducible refine Calls.mono (HPX.out _ kA) ?_); rintro e w' ⟨rfl, nX⟩; clear kA))
          all_goals
            clear nX
            obtain ⟨nA, c0, c1, c2, z1⟩ := ‹SX b s w0 p c _›
            go_wp2
            go_roundg (n3 - (p + 1))
            case measure => omega
            case rel => exact ⟨p + 1, by omega, by omega, by omega, by omega, nA.step _ _ (by omega)⟩
        · obtain rfl : p = n3 := by omega
          have hS : isSort 2 s[p] = false := by rw [HH.out.cr hps]; exact cr_not
          unfold isSort at hS
          rw [hc] at hS
          have hb : (bits BinOp.and IntKind.u8 (kindN c : Int) 2 != 0) = false := by rw [show (2 : Int) = ((2 : Nat) : Int) from rfl, (bits_kind c 2 (by omega)).2]; exact hS
          have w1' : (0 : Int) ≤ (q : Int) := by omega
          have w2' : (q : Int) ≤ (p : Int) := by omega
          have w3' : (p : Int) ≤ (s.size : Int) := by omega
          have nX := SX.of hc256 nA
          clear hS nA c0 c1 z1
          go_wp2
          go_region_held3 (SX b s w0 p c) (first | assumption | exact SX.drew (by assumption)) (first
            | (go_at_call 39; have kA := ‹SX b s w0 p c _›; (with_reducible refine Calls.mono (HPX.out _ kA) ?_); rintro e w' ⟨rfl, nX⟩; clear kA))
          all_goals
            clear nX
            obtain ⟨nA, c0, c1, c2, z1⟩ := ‹SX b s w0 p c _›
            have nC := SC.of nA
            clear nA c0 c1 c2 z1
            go_wp2
            go_region_held3 (SC b s w0 p) (first | assumption | exact SC.drew (by assumption)) (first
              | (go_at_call 62; have kC := ‹SC b s w0 p _›; (with_reducible refine Calls.mono (HT.out _) ?_); rintro e w' ⟨rfl, hb⟩; have nC := SC.of (At.to kC.1 hb); clear kC hb))
            all_goals
              clear nC
              obtain ⟨nA, c0, c1, z1⟩ := ‹SC b s w0 p _›
              clear c0 c1 z1
              go_wp2_with (first
                | (go_at_call 28; (with_reducible refine Calls.mono (HSm.out _) ?_); rintro e w5 ⟨rfl, hb⟩; have nA5 := At.to nA4 hb; have hB5 := HB.out _ _ nA5; have b0 := blk_cell hB5.1 0; have b1 := blk_cell hB5.1 1; have z0 := blk_fz hB5.1 0; have z1 := blk_fz hB5.1 1; have hN5 := Lib.hid nA5; have hD5 := Lib.hid hB5; simp at b0 b1; clear hb nA5 hB5 nA4)
                | (go_at_call 38; (with_reducible refine Calls.mono (HW.out _ nA) ?_); rintro e w4 ⟨rfl, nA4⟩; have nA4 : At b s w0 (p + 2) _ := nA4))
              have hset := Lib.hid (set2_cell hD5.out.1 (.string (smallB (s.extract k n1))) (.string (trimV (s.extract q p))))
              have f0 := (blk_cell hset.out 0).trans rfl
              have f1 := (blk_cell hset.out 1).trans rfl
              refine bodyPost_ret (v := hdrV s k n1 q p) (by simp [results, Tryz.results40, go_sem, f0, f1, hdrV]) rfl ⟨rfl, ?_, ?_⟩
              · exact (hD5.out.2.setNew (Nat.le_refl _) _ _).setNew (Nat.le_refl _) _ _
              · exact (hN5.out.2.at_ (Below.heap_setCell _ _ _ _ (by show b ≠ w.heap.size; omega))).at_ (Below.heap_setCell _ _ _ _ (by show b ≠ w.heap.size; omega))
end Go.Proofs.YtpjjkejppgehaaaGreatDoor
