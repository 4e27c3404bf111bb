/- http.Check. -/
import Derived.Test.YtpjjkejppgehaaaGreatDoorAl
import Derived.Test.YtpjjkejppgehaaaGreatDoorHh
namespace Go.Proofs.YtpjjkejppgehaaaGreatDoor
set_option linter.unusedSimpArgs false
set_option linter.unusedVariables false
open Go.RowKit

abbrev HL := List (ByteArray × ByteArray)
/-- Headers lie in the slice at A (nil for none). -/
def LiesH (w : World) (A : Option Addr) (p : HL) : Prop := 0 < p.length → ∃ ad, A = some ad ∧ ∀ j (hj : j < p.length), w.cell? (ad.add (j * 2)) = some (.string p[j].1) ∧ w.cell? (ad.add (j * 2 + 1)) = some (.string p[j].2)
theorem LiesH.below {w w' : World} {A : Option Addr} {p : HL} (h : LiesH w A p) (hb : Below w.heap.size w w') : LiesH w' A p := fun hp => by
  obtain ⟨ad, h1, h2⟩ := h hp
  exact ⟨ad, h1, fun j hj => ⟨cell_in hb (h2 j hj).1, cell_in hb (h2 j hj).2⟩⟩
def trimB (s : ByteArray) : ByteArray := ⟨(Lib.trimS s.data.toList [32, 9]).toArray⟩
def clB : ByteArray := ⟨#[99, 111, 110, 116, 101, 110, 116, 45, 108, 101, 110, 103, 116, 104]⟩
/-- A header that is not right. -/
def badH (n v : ByteArray) : Bool := n.toList == [] || !allS 1 n || !allS 2 v || (trimB v).toList != v.toList || (smallB n).toList == clB.toList
def firstBad : HL → Nat → Option Nat
  | [], _ => none
  | (n, v) :: r, i => if badH n v then some i else firstBad r (i + 1)
/-- What Check tells. -/
def checkP (st : Int) (l : HL) (b : ByteArray) : Option (Int × Nat) :=
  if st < 100 ∨ 999 < st then some (0, 4) else if 64 ≤ l.length then some (0, 18) else
  match firstBad l 0 with
  | some i => some ((i : Int), 5)
  | none => if 4194304 < b.size then some (0, 3) else none
theorem trim_all (s : ByteArray) (hs : s.size ≤ 9223372036854775807) (w : World) : Calls Tryz.prog 27 #[.string s, .string ⟨#[32, 9]⟩] w fun e w' => e = .returned (.string (trimB s)) ∧ Below w.heap.size w w' :=
  Any.strings_Trim_laid Tryz.lays160 (by kernel_rfl) s ⟨#[32, 9]⟩ w hs (by decide) (ascii_of_all (by decide))
/-- A fault in a world: what it is. -/
theorem flt_new (x : World) (a : Int) (c : Nat) (h1 : 1 ≤ c) (h2 : c ≤ 18) (t : TypeId) (v : Value) (hs : x.cell? ⟨gidx c, 0, none⟩ = some (.iface t v)) :
    FltIs (x.alloc (.cells #[.int .i64 a, .iface t v] 58)) (.iface 54 (.pointer (some ⟨x.heap.size, 0, none⟩))) (some (a, c)) :=
  ⟨h1, h2, x.heap.size, _, rfl, heap_alloc_new x _, cell_in ((Below.refl x.heap.size x).alloc (Nat.le_refl _) _) hs⟩
set_option maxRecDepth 20000 in
set_option maxHeartbeats 32000000 in
theorem check_any (st : Int) (ad : Addr) (c : Nat) (l : HL) (b : ByteArray) (w : World) (hI : IsInv w) (hA : ∀ j (hj : j < l.length), w.cell? (ad.add (j * 2)) = some (.string l[j].1) ∧ w.cell? (ad.add (j * 2 + 1)) = some (.string l[j].2)) (hl : l.length ≤ 100000) (hx : ∀ j (hj : j < l.length), l[j].1.size ≤ 1000000 ∧ l[j].2.size ≤ 1000000) (h1 : 100 ≤ st) (h2 : st ≤ 999) (h3 : l.length < 64) (hb : b.size ≤ 9223372036854775807) :
    Calls Tryz.prog 10 #[.agg #[.int .i64 st, .slice (some ad) l.length c, .string b]] w fun e w' => ∃ v, e = .returned v ∧ FltIs w' v (checkP st l b) ∧ Below w.heap.size w w' := by
  have n1 : ¬ st < 100 := by omega
  have n2 : ¬ 999 < st := by omega
  have n3 : ¬ 64 ≤ l.length := by omega
  have n3' : ¬ (64 : Int) ≤ (l.length : Int) := by omega
  have n4 : ¬ st > 999 := by omega
  have n5 : ¬ (l.length : Int) ≥ 64 := by omega
  rw [checkP, if_neg (by omega), if_neg n3]
  obtain ⟨P, hP⟩ : ∃ P, firstBad l 0 = P := ⟨_, rfl⟩
  rw [hP]
  have HP := Lib.hid hP
  have HA := Lib.hid hA
  have HX := Lib.hid hx
  have HI := Lib.hid hI
  clear hP hA hx hI
  go_enter Tryz.func10, Tryz.ntmps10
  go_wp2
  have hb0 : Below w.heap.size w (w.alloc (.cells #[.int .i64 st, .slice (some ad) l.length c, .string b] 24)) := (Below.refl _ _).alloc (Nat.le_refl _) _
  have hn0 := heap_alloc_new w (.cells #[.int .i64 st, .slice (some ad) l.length c, .string b] 24)
  have q2 : (w.alloc (.cells #[.int .i64 st, .slice (some ad) l.length c, .string b] 24)).cell? ⟨w.heap.size, 2, none⟩ = some (.string b) := (blk_cell hn0 2).trans rfl
  have hI1 := HI.out.below hb0
  have hA1 : ∀ j (hj : j < l.length), (w.alloc (.cells #[.int .i64 st, .slice (some ad) l.length c, .string b] 24)).cell? (ad.add (j * 2)) = some (.string l[j].1) ∧ (w.alloc (.cells #[.int .i64 st, .slice (some ad) l.length c, .string b] 24)).cell? (ad.add (j * 2 + 1)) = some (.string l[j].2) := fun j hj => ⟨cell_in hb0 (HA.out j hj).1, cell_in hb0 (HA.out j hj).2⟩
  clear HI HA hn0
  have HB0 := Lib.hid hb0
  have Q2 := Lib.hid q2
  have HI := Lib.hid hI1
  have HA := Lib.hid hA1
  clear hb0 q2 hI1 hA1
  generalize w.alloc (.cells #[.int .i64 st, .slice (some ad) l.length c, .string b] 24) = W1 at *
  go_loopw [24] (fun i wr => ∃ k : Nat, k ≤ l.length ∧ i = .int .i64 k ∧ firstBad (l.drop k) k = P ∧ Below W1.heap.size W1 wr) (fun i _ => l.length - (RowKit.intOf i).toNat)
  case atStart => exact ⟨0, by omega, rfl, by rw [List.drop_zero]; exact HP.out, Below.refl _ _⟩
  case round =>
    obtain ⟨k, hk, rfl, hF, hB⟩ := hrel
    have HB := Lib.hid hB
    have HF := Lib.hid hF
    clear hB hF HP
    by_cases hkl : k < l.length
    · have hkl' : (k : Int) < (l.length : Int) := by omega
      obtain ⟨a1, a2⟩ := HA.out k hkl
      obtain ⟨b1, b2⟩ := HX.out k hkl
      obtain ⟨x, hxe⟩ : ∃ x, x = l[k] := ⟨_, rfl⟩
      rw [← hxe] at a1 a2 b1 b2
      have hdrop : l.drop k = x :: l.drop (k + 1) := by rw [List.drop_eq_getElem_cons hkl, ← hxe]
      obtain ⟨n, v⟩ := x
      have hc0 : wr.cell? (ad.add (k * 2)) = some (.string n) := cell_in HB.out a1
      have hc1 : wr.cell? (ad.add (k * 2 + 1)) = some (.string v) := cell_in HB.out a2
      have hc1' : wr.cell? ((ad.add (k * 2)).add 1) = some (.string v) := by rw [Addr.add_add]; exact hc1
      have hc1'' : wr.cell? { block := (ad.add (k * 2)).block, off := (ad.add (k * 2)).off + 1 } = some (.string v) := hc1'
      have HF2 : Hid (firstBad ((n, v) :: l.drop (k + 1)) k = P) := by show _ = _; rw [← hdrop]; exact HF.out
      clear a1 a2 hxe hdrop HF
      go_wp2
      have hn2 := heap_alloc_new wr (.cells #[.string n, .string v] 43)
      have k0 : (wr.alloc (.cells #[.string n, .string v] 43)).cell? ⟨wr.heap.size, 0, none⟩ = some (.string n) := (blk_cell hn2 0).trans rfl
      have k1 : (wr.alloc (.cells #[.string n, .string v] 43)).cell? ⟨wr.heap.size, 1, none⟩ = some (.string v) := (blk_cell hn2 1).trans rfl
      have kB : Below W1.heap.size W1 (wr.alloc (.cells #[.string n, .string v] 43)) := HB.out.alloc HB.out.size _
      clear hn2 HB hc0 hc1 hc1' hc1''
      generalize wr.alloc (.cells #[.string n, .string v] 43) = W2 at k0 k1 kB ⊢
      generalize wr.heap.size = g at k0 k1 ⊢
      have HC1 : Hid (∀ x, Calls Tryz.prog 26 #[.string n, .int .u8 1] x fun e w' => e = .returned (.bool (allS 1 n)) ∧ Below x.heap.size x w') := fun x => all_any n 1 (Or.inl rfl) b1 x
      have HC2 : Hid (∀ x, Calls Tryz.prog 26 #[.string v, .int .u8 2] x fun e w' => e = .returned (.bool (allS 2 v)) ∧ Below x.heap.size x w') := fun x => all_any v 2 (Or.inr rfl) b2 x
      have HC3 : Hid (∀ x, Calls Tryz.prog 27 #[.string v, .string ⟨#[32, 9]⟩] x fun e w' => e = .returned (.string (trimB v)) ∧ Below x.heap.size x w') := fun x => trim_all v (by omega) x
      have HC4 : Hid (∀ x, Calls Tryz.prog 28 #[.string n] x fun e w' => e = .returned (.string (smallB n)) ∧ Below x.heap.size x w') := fun x => small_any n (by omega) x
      cases e1 : (n.toList == []) with
      | true =>
        have hPv : some k = P := by have := HF2.out; rw [firstBad, if_pos (by simp [badH, e1])] at this; exact this
        subst hPv
        refine wp_region_any (by kernel_rfl) ?_
        try (change wpAny _ _ _ _ _ _ _ (World.drew _))
        refine wpAny_ready (rs := [0]) (by kernel_rfl) (by simp) ?_
        refine AllReady.cons rfl (fun K hK => ?_) AllReady.nil
        go_simp
        refine hK _ _ ?_
        clear hK K
        refine wpAny_ready (rs := [1]) (by kernel_rfl) (by simp) ?_
        refine AllReady.cons rfl (fun K hK => ?_) AllReady.nil
        go_simp
        refine hK _ _ ?_
        clear hK K
        refine wpAny_ready (rs := [2]) (by kernel_rfl) (by simp) ?_
        refine AllReady.cons rfl (fun K hK => ?_) AllReady.nil
        go_simp
        refine hK _ _ ?_
        clear hK K
        refine wpAny_ready (rs := [3]) (by kernel_rfl) (by simp) ?_
        refine AllReady.cons rfl (fun K hK => ?_) AllReady.nil
        go_simp
        refine hK _ _ ?_
        clear hK K
        refine wpAny_take (i := 4) (v := undef) rfl (by kernel_rfl) (by kernel_rfl) (by kernel_rfl) (fun _ _ _ h => h) (Or.inr ⟨by rfl, rfl⟩) ?_
        (try simp only [Act.put, List.setIfInBounds_toArray, List.set_cons_zero, List.set_cons_succ])
        refine wpAny_take (i := 5) (v := undef) rfl (by kernel_rfl) (by kernel_rfl) (by kernel_rfl) (fun _ _ _ h => h) (Or.inr ⟨by rfl, rfl⟩) ?_
        (try simp only [Act.put, List.setIfInBounds_toArray, List.set_cons_zero, List.set_cons_succ])
        refine wpAny_take (i := 6) (v := undef) rfl (by kernel_rfl) (by kernel_rfl) (by kernel_rfl) (fun _ _ _ h => h) (Or.inr ⟨by rfl, rfl⟩) ?_
        (try simp only [Act.put, List.setIfInBounds_toArray, List.set_cons_zero, List.set_cons_succ])
        refine wpAny_take (i := 7) (v := undef) rfl (by kernel_rfl) (by kernel_rfl) (by kernel_rfl) (fun _ _ _ h => h) (Or.inr ⟨by rfl, rfl⟩) ?_
        (try simp only [Act.put, List.setIfInBounds_toArray, List.set_cons_zero, List.set_cons_succ])
        refine wpAny_ready (rs := [8]) (by kernel_rfl) (by simp) ?_
        refine AllReady.cons rfl (fun K hK => ?_) AllReady.nil
        go_simp
        refine hK _ _ ?_
        clear hK K
        refine wpAny_ready (rs := [9]) (by kernel_rfl) (by simp) ?_
        refine AllReady.cons rfl (fun K hK => ?_) AllReady.nil
        go_simp
        refine hK _ _ ?_
        clear hK K
        refine wpAny_take (i := 10) (v := undef) rfl (by kernel_rfl) (by kernel_rfl) (by kernel_rfl) (fun _ _ _ h => h) (Or.inr ⟨by rfl, rfl⟩) ?_
        (try simp only [Act.put, List.setIfInBounds_toArray, List.set_cons_zero, List.set_cons_succ])
        refine wpAny_take (i := 11) (v := undef) rfl (by kernel_rfl) (by kernel_rfl) (by kernel_rfl) (fun _ _ _ h => h) (Or.inr ⟨by rfl, rfl⟩) ?_
        (try simp only [Act.put, List.setIfInBounds_toArray, List.set_cons_zero, List.set_cons_succ])
        refine wpAny_take (i := 12) (v := undef) rfl (by kernel_rfl) (by kernel_rfl) (by kernel_rfl) (fun _ _ _ h => h) (Or.inr ⟨by rfl, rfl⟩) ?_
        (try simp only [Act.put, List.setIfInBounds_toArray, List.set_cons_zero, List.set_cons_succ])
        refine wpAny_take (i := 13) (v := undef) rfl (by kernel_rfl) (by kernel_rfl) (by kernel_rfl) (fun _ _ _ h => h) (Or.inr ⟨by rfl, rfl⟩) ?_
        (try simp only [Act.put, List.setIfInBounds_toArray, List.set_cons_zero, List.set_cons_succ])
        refine wpAny_ready (rs := [14]) (by kernel_rfl) (by simp) ?_
        refine AllReady.cons rfl (fun K hK => ?_) AllReady.nil
        go_simp
        refine hK _ _ ?_
        clear hK K
        refine wpAny_ready (rs := [15]) (by kernel_rfl) (by simp) ?_
        refine AllReady.cons rfl (fun K hK => ?_) AllReady.nil
        go_simp
        refine hK _ _ ?_
        clear hK K
        refine wpAny_take (i := 16) (v := undef) rfl (by kernel_rfl) (by kernel_rfl) (by kernel_rfl) (fun _ _ _ h => h) (Or.inr ⟨by rfl, rfl⟩) ?_
        (try simp only [Act.put, List.setIfInBounds_toArray, List.set_cons_zero, List.set_cons_succ])
        refine wpAny_take (i := 17) (v := undef) rfl (by kernel_rfl) (by kernel_rfl) (by kernel_rfl) (fun _ _ _ h => h) (Or.inr ⟨by rfl, rfl⟩) ?_
        (try simp only [Act.put, List.setIfInBounds_toArray, List.set_cons_zero, List.set_cons_succ])
        refine wpAny_take (i := 18) (v := undef) rfl (by kernel_rfl) (by kernel_rfl) (by kernel_rfl) (fun _ _ _ h => h) (Or.inr ⟨by rfl, rfl⟩) ?_
        (try simp only [Act.put, List.setIfInBounds_toArray, List.set_cons_zero, List.set_cons_succ])
        refine wpAny_take (i := 19) (v := undef) rfl (by kernel_rfl) (by kernel_rfl) (by kernel_rfl) (fun _ _ _ h => h) (Or.inr ⟨by rfl, rfl⟩) ?_
        (try simp only [Act.put, List.setIfInBounds_toArray, List.set_cons_zero, List.set_cons_succ])
        refine wpAny_take (i := 20) (v := undef) rfl (by kernel_rfl) (by kernel_rfl) (by kernel_rfl) (fun _ _ _ h => h) (Or.inr ⟨by rfl, rfl⟩) ?_
        (try simp only [Act.put, List.setIfInBounds_toArray, List.set_cons_zero, List.set_cons_succ])
        refine wpAny_take (i := 21) (v := undef) rfl (by kernel_rfl) (by kernel_rfl) (by kernel_rfl) (fun _ _ _ h => h) (Or.inr ⟨by rfl, rfl⟩) ?_
        (try simp only [Act.put, List.setIfInBounds_toArray, List.set_cons_zero, List.set_cons_succ])
        refine wpAny_ready (rs := [22]) (by kernel_rfl) (by simp) ?_
        refine AllReady.cons rfl (fun K hK => ?_) AllReady.nil
        go_simp
        refine hK _ _ ?_
        clear hK K
        refine wpAny_ready (rs := [23]) (by kernel_rfl) (by simp) ?_
        refine AllReady.cons rfl (fun K hK => ?_) AllReady.nil
        go_simp
        refine hK _ _ ?_
        clear hK K
        refine wpAny_take (i := 24) (v := undef) rfl (by kernel_rfl) (by kernel_rfl) (by kernel_rfl) (fun _ _ _ h => h) (Or.inr ⟨by rfl, rfl⟩) ?_
        (try simp only [Act.put, List.setIfInBounds_toArray, List.set_cons_zero, List.set_cons_succ])
        refine wpAny_take (i := 25) (v := undef) rfl (by kernel_rfl) (by kernel_rfl) (by kernel_rfl) (fun _ _ _ h => h) (Or.inr ⟨by rfl, rfl⟩) ?_
        (try simp only [Act.put, List.setIfInBounds_toArray, List.set_cons_zero, List.set_cons_succ])
        refine wpAny_take (i := 26) (v := undef) rfl (by kernel_rfl) (by kernel_rfl) (by kernel_rfl) (fun _ _ _ h => h) (Or.inr ⟨by rfl, rfl⟩) ?_
        (try simp only [Act.put, List.setIfInBounds_toArray, List.set_cons_zero, List.set_cons_succ])
        refine wpAny_take (i := 27) (v := undef) rfl (by kernel_rfl) (by kernel_rfl) (by kernel_rfl) (fun _ _ _ h => h) (Or.inr ⟨by rfl, rfl⟩) ?_
        (try simp only [Act.put, List.setIfInBounds_toArray, List.set_cons_zero, List.set_cons_succ])
        refine wpAny_ready (rs := [28]) (by kernel_rfl) (by simp) ?_
        refine AllReady.cons rfl (fun K hK => ?_) AllReady.nil
        go_simp
        refine hK _ _ ?_
        clear hK K
        refine wpAny_done (by kernel_rfl) ?_ _
        obtain ⟨er, her, -⟩ := (HI.out.below kB).sent 5 (by omega) (by omega)
        have her' := (show World.cell? _ ⟨2, 0, none⟩ = some (.iface 167 (.pointer (some er))) from her)
        have HER := Lib.hid her
        have hz := HB0.out.trans (kB.mono HB0.out.size)
        have HZ := Lib.hid hz
        clear her hz k0 k1
        go_wp2_with (go_at_call 25; (with_reducible refine Calls.mono (fault_any _ _ _ _) ?_); rintro e w5 ⟨rfl, rfl⟩)
        go_ret
        exact ⟨_, rfl, flt_new _ _ 5 (by omega) (by omega) _ _ HER.out, by first | exact HZ.out.alloc HZ.out.size _ | exact (HZ.out.alloc HZ.out.size _).drew⟩
      | false =>
        cases e2 : allS 1 n with
        | false =>
          rw [e2] at HC1
          have hPv : some k = P := by have := HF2.out; rw [firstBad, if_pos (by simp [badH, e2])] at this; exact this
          subst hPv
          refine wp_region_any (by kernel_rfl) ?_
          try (change wpAny _ _ _ _ _ _ _ (World.drew _))
          refine wpAny_ready (rs := [0]) (by kernel_rfl) (by simp) ?_
          refine AllReady.cons rfl (fun K hK => ?_) AllReady.nil
          go_simp
          refine hK _ _ ?_
          clear hK K
          refine wpAny_ready (rs := [1]) (by kernel_rfl) (by simp) ?_
          refine AllReady.cons rfl (fun K hK => ?_) AllReady.nil
          go_simp
          refine hK _ _ ?_
          clear hK K
          refine wpAny_ready (rs := [2]) (by kernel_rfl) (by simp) ?_
          refine AllReady.cons rfl (fun K hK => ?_) AllReady.nil
          go_simp
          refine hK _ _ ?_
          clear hK K
          refine wpAny_ready (rs := [3]) (by kernel_rfl) (by simp) ?_
          refine AllReady.cons rfl (fun K hK => ?_) AllReady.nil
          go_simp
          refine hK _ _ ?_
          clear hK K
          refine wpAny_ready (rs := [4]) (by kernel_rfl) (by simp) ?_
          refine AllReady.cons rfl (fun K hK => ?_) AllReady.nil
          go_simp
          refine hK _ _ ?_
          clear hK K
          refine wpAny_ready (rs := [5]) (by kernel_rfl) (by simp) ?_
          refine AllReady.cons rfl (fun K hK => ?_) AllReady.nil
          go_simp
          refine hK _ _ ?_
          clear hK K
          refine wpAny_ready (rs := [6]) (by kernel_rfl) (by simp) ?_
          refine AllReady.cons rfl (fun K hK => ?_) AllReady.nil
          go_simp
          refine (HC1.out _).mono ?_
          rintro e w' ⟨rfl, hb⟩
          replace k0 := cell_in hb k0; replace k1 := cell_in hb k1; replace kB := below_to kB.drew hb; clear hb
          refine hK _ _ ?_
          clear hK K
          refine wpAny_ready (rs := [7]) (by kernel_rfl) (by simp) ?_
          refine AllReady.cons rfl (fun K hK => ?_) AllReady.nil
          go_simp
          refine hK _ _ ?_
          clear hK K
          refine wpAny_ready (rs := [8]) (by kernel_rfl) (by simp) ?_
          refine AllReady.cons rfl (fun K hK => ?_) AllReady.nil
          go_simp
          refine hK _ _ ?_
          clear hK K
          refine wpAny_ready (rs := [9]) (by kernel_rfl) (by simp) ?_
          refine AllReady.cons rfl (fun K hK => ?_) AllReady.nil
          go_simp
          refine hK _ _ ?_
          clear hK K
          refine wpAny_take (i := 10) (v := undef) rfl (by kernel_rfl) (by kernel_rfl) (by kernel_rfl) (fun _ _ _ h => h) (Or.inr ⟨by rfl, rfl⟩) ?_
          (try simp only [Act.put, List.setIfInBounds_toArray, List.set_cons_zero, List.set_cons_succ])
          refine wpAny_take (i := 11) (v := undef) rfl (by kernel_rfl) (by kernel_rfl) (by kernel_rfl) (fun _ _ _ h => h) (Or.inr ⟨by rfl, rfl⟩) ?_
          (try simp only [Act.put, List.setIfInBounds_toArray, List.set_cons_zero, List.set_cons_succ])
          refine wpAny_take (i := 12) (v := undef) rfl (by kernel_rfl) (by kernel_rfl) (by kernel_rfl) (fun _ _ _ h => h) (Or.inr ⟨by rfl, rfl⟩) ?_
          (try simp only [Act.put, List.setIfInBounds_toArray, List.set_cons_zero, List.set_cons_succ])
          refine wpAny_take (i := 13) (v := undef) rfl (by kernel_rfl) (by kernel_rfl) (by kernel_rfl) (fun _ _ _ h => h) (Or.inr ⟨by rfl, rfl⟩) ?_
          (try simp only [Act.put, List.setIfInBounds_toArray, List.set_cons_zero, List.set_cons_succ])
          refine wpAny_ready (rs := [14]) (by kernel_rfl) (by simp) ?_
          refine AllReady.cons rfl (fun K hK => ?_) AllReady.nil
          go_simp
          refine hK _ _ ?_
          clear hK K
          refine wpAny_ready (rs := [15]) (by kernel_rfl) (by simp) ?_
          refine AllReady.cons rfl (fun K hK => ?_) AllReady.nil
          go_simp
          refine hK _ _ ?_
          clear hK K
          refine wpAny_take (i := 16) (v := undef) rfl (by kernel_rfl) (by kernel_rfl) (by kernel_rfl) (fun _ _ _ h => h) (Or.inr ⟨by rfl, rfl⟩) ?_
          (try simp only [Act.put, List.setIfInBounds_toArray, List.set_cons_zero, List.set_cons_succ])
          refine wpAny_take (i := 17) (v := undef) rfl (by kernel_rfl) (by kernel_rfl) (by kernel_rfl) (fun _ _ _ h => h) (Or.inr ⟨by rfl, rfl⟩) ?_
          (try simp only [Act.put, List.setIfInBounds_toArray, List.set_cons_zero, List.set_cons_succ])
          refine wpAny_take (i := 18) (v := undef) rfl (by kernel_rfl) (by kernel_rfl) (by kernel_rfl) (fun _ _ _ h => h) (Or.inr ⟨by rfl, rfl⟩) ?_
          (try simp only [Act.put, List.setIfInBounds_toArray, List.set_cons_zero, List.set_cons_succ])
          refine wpAny_take (i := 19) (v := undef) rfl (by kernel_rfl) (by kernel_rfl) (by kernel_rfl) (fun _ _ _ h => h) (Or.inr ⟨by rfl, rfl⟩) ?_
          (try simp only [Act.put, List.setIfInBounds_toArray, List.set_cons_zero, List.set_cons_succ])
          refine wpAny_take (i := 20) (v := undef) rfl (by kernel_rfl) (by kernel_rfl) (by kernel_rfl) (fun _ _ _ h => h) (Or.inr ⟨by rfl, rfl⟩) ?_
          (try simp only [Act.put, List.setIfInBounds_toArray, List.set_cons_zero, List.set_cons_succ])
          refine wpAny_take (i := 21) (v := undef) rfl (by kernel_rfl) (by kernel_rfl) (by kernel_rfl) (fun _ _ _ h => h) (Or.inr ⟨by rfl, rfl⟩) ?_
          (try simp only [Act.put, List.setIfInBounds_toArray, List.set_cons_zero, List.set_cons_succ])
          refine wpAny_ready (rs := [22]) (by kernel_rfl) (by simp) ?_
          refine AllReady.cons rfl (fun K hK => ?_) AllReady.nil
          go_simp
          refine hK _ _ ?_
          clear hK K
          refine wpAny_ready (rs := [23]) (by kernel_rfl) (by simp) ?_
          refine AllReady.cons rfl (fun K hK => ?_) AllReady.nil
          go_simp
          refine hK _ _ ?_
          clear hK K
          refine wpAny_take (i := 24) (v := undef) rfl (by kernel_rfl) (by kernel_rfl) (by kernel_rfl) (fun _ _ _ h => h) (Or.inr ⟨by rfl, rfl⟩) ?_
          (try simp only [Act.put, List.setIfInBounds_toArray, List.set_cons_zero, List.set_cons_succ])
          refine wpAny_take (i := 25) (v := undef) rfl (by kernel_rfl) (by kernel_rfl) (by kernel_rfl) (fun _ _ _ h => h) (Or.inr ⟨by rfl, rfl⟩) ?_
          (try simp only [Act.put, List.setIfInBounds_toArray, List.set_cons_zero, List.set_cons_succ])
          refine wpAny_take (i := 26) (v := undef) rfl (by kernel_rfl) (by kernel_rfl) (by kernel_rfl) (fun _ _ _ h => h) (Or.inr ⟨by rfl, rfl⟩) ?_
          (try simp only [Act.put, List.setIfInBounds_toArray, List.set_cons_zero, List.set_cons_succ])
          refine wpAny_take (i := 27) (v := undef) rfl (by kernel_rfl) (by kernel_rfl) (by kernel_rfl) (fun _ _ _ h => h) (Or.inr ⟨by rfl, rfl⟩) ?_
          (try simp only [Act.put, List.setIfInBounds_toArray, List.set_cons_zero, List.set_cons_succ])
          refine wpAny_ready (rs := [28]) (by kernel_rfl) (by simp) ?_
          refine AllReady.cons rfl (fun K hK => ?_) AllReady.nil
          go_simp
          refine hK _ _ ?_
          clear hK K
          refine wpAny_done (by kernel_rfl) ?_ _
          obtain ⟨er, her, -⟩ := (HI.out.below kB).sent 5 (by omega) (by omega)
          have her' := (show World.cell? _ ⟨2, 0, none⟩ = some (.iface 167 (.pointer (some er))) from her)
          have HER := Lib.hid her
          have hz := HB0.out.trans (kB.mono HB0.out.size)
          have HZ := Lib.hid hz
          clear her hz k0 k1
          go_wp2_with (go_at_call 25; (with_reducible refine Calls.mono (fault_any _ _ _ _) ?_); rintro e w5 ⟨rfl, rfl⟩)
          go_ret
          exact ⟨_, rfl, flt_new _ _ 5 (by omega) (by omega) _ _ HER.out, by first | exact HZ.out.alloc HZ.out.size _ | exact (HZ.out.alloc HZ.out.size _).drew⟩
        | true =>
          rw [e2] at HC1
          cases e3 : allS 2 v with
          | false =>
            rw [e3] at HC2
            have hPv : some k = P := by have := HF2.out; rw [firstBad, if_pos (by simp [badH, e3])] at this; exact this
            subst hPv
            refine wp_region_any (by kernel_rfl) ?_
            try (change wpAny _ _ _ _ _ _ _ (World.drew _))
            refine wpAny_ready (rs := [0]) (by kernel_rfl) (by simp) ?_
            refine AllReady.cons rfl (fun K hK => ?_) AllReady.nil
            go_simp
            refine hK _ _ ?_
            clear hK K
            refine wpAny_ready (rs := [1]) (by kernel_rfl) (by simp) ?_
            refine AllReady.cons rfl (fun K hK => ?_) AllReady.nil
            go_simp
            refine hK _ _ ?_
            clear hK K
            refine wpAny_ready (rs := [2]) (by kernel_rfl) (by simp) ?_
            refine AllReady.cons rfl (fun K hK => ?_) AllReady.nil
            go_simp
            refine hK _ _ ?_
            clear hK K
            refine wpAny_ready (rs := [3]) (by kernel_rfl) (by simp) ?_
            refine AllReady.cons rfl (fun K hK => ?_) AllReady.nil
            go_simp
            refine hK _ _ ?_
            clear hK K
            refine wpAny_ready (rs := [4]) (by kernel_rfl) (by simp) ?_
            refine AllReady.cons rfl (fun K hK => ?_) AllReady.nil
            go_simp
            refine hK _ _ ?_
            clear hK K
            refine wpAny_ready (rs := [5]) (by kernel_rfl) (by simp) ?_
            refine AllReady.cons rfl (fun K hK => ?_) AllReady.nil
            go_simp
            refine hK _ _ ?_
            clear hK K
            refine wpAny_ready (rs := [6]) (by kernel_rfl) (by simp) ?_
            refine AllReady.cons rfl (fun K hK => ?_) AllReady.nil
            go_simp
            refine (HC1.out _).mono ?_
            rintro e w' ⟨rfl, hb⟩
            replace k0 := cell_in hb k0; replace k1 := cell_in hb k1; replace kB := below_to kB.drew hb; clear hb
            refine hK _ _ ?_
            clear hK K
            refine wpAny_ready (rs := [7]) (by kernel_rfl) (by simp) ?_
            refine AllReady.cons rfl (fun K hK => ?_) AllReady.nil
            go_simp
            refine hK _ _ ?_
            clear hK K
            refine wpAny_ready (rs := [8]) (by kernel_rfl) (by simp) ?_
            refine AllReady.cons rfl (fun K hK => ?_) AllReady.nil
            go_simp
            refine hK _ _ ?_
            clear hK K
            refine wpAny_ready (rs := [9]) (by kernel_rfl) (by simp) ?_
            refine AllReady.cons rfl (fun K hK => ?_) AllReady.nil
            go_simp
            refine hK _ _ ?_
            clear hK K
            refine wpAny_ready (rs := [10]) (by kernel_rfl) (by simp) ?_
            refine AllReady.cons rfl (fun K hK => ?_) AllReady.nil
            go_simp
            refine hK _ _ ?_
            clear hK K
            refine wpAny_ready (rs := [11]) (by kernel_rfl) (by simp) ?_
            refine AllReady.cons rfl (fun K hK => ?_) AllReady.nil
            go_simp
            refine hK _ _ ?_
            clear hK K
            refine wpAny_ready (rs := [12]) (by kernel_rfl) (by simp) ?_
            refine AllReady.cons rfl (fun K hK => ?_) AllReady.nil
            go_simp
            refine (HC2.out _).mono ?_
            rintro e w' ⟨rfl, hb⟩
            replace k0 := cell_in hb k0; replace k1 := cell_in hb k1; replace kB := below_to kB hb; clear hb
            refine hK _ _ ?_
            clear hK K
            refine wpAny_ready (rs := [13]) (by kernel_rfl) (by simp) ?_
            refine AllReady.cons rfl (fun K hK => ?_) AllReady.nil
            go_simp
            refine hK _ _ ?_
            clear hK K
            refine wpAny_ready (rs := [14]) (by kernel_rfl) (by simp) ?_
            refine AllReady.cons rfl (fun K hK => ?_) AllReady.nil
            go_simp
            refine hK _ _ ?_
            clear hK K
            refine wpAny_ready (rs := [15]) (by kernel_rfl) (by simp) ?_
            refine AllReady.cons rfl (fun K hK => ?_) AllReady.nil
            go_simp
            refine hK _ _ ?_
            clear hK K
            refine wpAny_take (i := 16) (v := undef) rfl (by kernel_rfl) (by kernel_rfl) (by kernel_rfl) (fun _ _ _ h => h) (Or.inr ⟨by rfl, rfl⟩) ?_
            (try simp only [Act.put, List.setIfInBounds_toArray, List.set_cons_zero, List.set_cons_succ])
            refine wpAny_take (i := 17) (v := undef) rfl (by kernel_rfl) (by kernel_rfl) (by kernel_rfl) (fun _ _ _ h => h) (Or.inr ⟨by rfl, rfl⟩) ?_
            (try simp only [Act.put, List.setIfInBounds_toArray, List.set_cons_zero, List.set_cons_succ])
            refine wpAny_take (i := 18) (v := undef) rfl (by kernel_rfl) (by kernel_rfl) (by kernel_rfl) (fun _ _ _ h => h) (Or.inr ⟨by rfl, rfl⟩) ?_
            (try simp only [Act.put, List.setIfInBounds_toArray, List.set_cons_zero, List.set_cons_succ])
            refine wpAny_take (i := 19) (v := undef) rfl (by kernel_rfl) (by kernel_rfl) (by kernel_rfl) (fun _ _ _ h => h) (Or.inr ⟨by rfl, rfl⟩) ?_
            (try simp only [Act.put, List.setIfInBounds_toArray, List.set_cons_zero, List.set_cons_succ])
            refine wpAny_take (i := 20) (v := undef) rfl (by kernel_rfl) (by kernel_rfl) (by kernel_rfl) (fun _ _ _ h => h) (Or.inr ⟨by rfl, rfl⟩) ?_
            (try simp only [Act.put, List.setIfInBounds_toArray, List.set_cons_zero, List.set_cons_succ])
            refine wpAny_take (i := 21) (v := undef) rfl (by kernel_rfl) (by kernel_rfl) (by kernel_rfl) (fun _ _ _ h => h) (Or.inr ⟨by rfl, rfl⟩) ?_
            (try simp only [Act.put, List.setIfInBounds_toArray, List.set_cons_zero, List.set_cons_succ])
            refine wpAny_ready (rs := [22]) (by kernel_rfl) (by simp) ?_
            refine AllReady.cons rfl (fun K hK => ?_) AllReady.nil
            go_simp
            refine hK _ _ ?_
            clear hK K
            refine wpAny_ready (rs := [23]) (by kernel_rfl) (by simp) ?_
            refine AllReady.cons rfl (fun K hK => ?_) AllReady.nil
            go_simp
            refine hK _ _ ?_
            clear hK K
            refine wpAny_take (i := 24) (v := undef) rfl (by kernel_rfl) (by kernel_rfl) (by kernel_rfl) (fun _ _ _ h => h) (Or.inr ⟨by rfl, rfl⟩) ?_
            (try simp only [Act.put, List.setIfInBounds_toArray, List.set_cons_zero, List.set_cons_succ])
            refine wpAny_take (i := 25) (v := undef) rfl (by kernel_rfl) (by kernel_rfl) (by kernel_rfl) (fun _ _ _ h => h) (Or.inr ⟨by rfl, rfl⟩) ?_
            (try simp only [Act.put, List.setIfInBounds_toArray, List.set_cons_zero, List.set_cons_succ])
            refine wpAny_take (i := 26) (v := undef) rfl (by kernel_rfl) (by kernel_rfl) (by kernel_rfl) (fun _ _ _ h => h) (Or.inr ⟨by rfl, rfl⟩) ?_
            (try simp only [Act.put, List.setIfInBounds_toArray, List.set_cons_zero, List.set_cons_succ])
            refine wpAny_take (i := 27) (v := undef) rfl (by kernel_rfl) (by kernel_rfl) (by kernel_rfl) (fun _ _ _ h => h) (Or.inr ⟨by rfl, rfl⟩) ?_
            (try simp only [Act.put, List.setIfInBounds_toArray, List.set_cons_zero, List.set_cons_succ])
            refine wpAny_ready (rs := [28]) (by kernel_rfl) (by simp) ?_
            refine AllReady.cons rfl (fun K hK => ?_) AllReady.nil
            go_simp
            refine hK _ _ ?_
            clear hK K
            refine wpAny_done (by kernel_rfl) ?_ _
            obtain ⟨er, her, -⟩ := (HI.out.below kB).sent 5 (by omega) (by omega)
            have her' := (show World.cell? _ ⟨2, 0, none⟩ = some (.iface 167 (.pointer (some er))) from her)
            have HER := Lib.hid her
            have hz := HB0.out.trans (kB.mono HB0.out.size)
            have HZ := Lib.hid hz
            clear her hz k0 k1
            go_wp2_with (go_at_call 25; (with_reducible refine Calls.mono (fault_any _ _ _ _) ?_); rintro e w5 ⟨rfl, rfl⟩)
            go_ret
            exact ⟨_, rfl, flt_new _ _ 5 (by omega) (by omega) _ _ HER.out, by first | exact HZ.out.alloc HZ.out.size _ | exact (HZ.out.alloc HZ.out.size _).drew⟩
          | true =>
            rw [e3] at HC2
            cases e6 : ((trimB v).toList == v.toList) with
            | false =>
              have e4 : ((trimB v).toList != v.toList) = true := by rw [bne, e6]; rfl
              have hPv : some k = P := by have := HF2.out; rw [firstBad, if_pos (by simp only [badH, e4]; simp)] at this; exact this
              subst hPv
              generalize trimB v = tv at *
              refine wp_region_any (by kernel_rfl) ?_
              try (change wpAny _ _ _ _ _ _ _ (World.drew _))
              refine wpAny_ready (rs := [0]) (by kernel_rfl) (by simp) ?_
              refine AllReady.cons rfl (fun K hK => ?_) AllReady.nil
              go_simp
              refine hK _ _ ?_
              clear hK K
              refine wpAny_ready (rs := [1]) (by kernel_rfl) (by simp) ?_
              refine AllReady.cons rfl (fun K hK => ?_) AllReady.nil
              go_simp
              refine hK _ _ ?_
              clear hK K
              refine wpAny_ready (rs := [2]) (by kernel_rfl) (by simp) ?_
              refine AllReady.cons rfl (fun K hK => ?_) AllReady.nil
              go_simp
              refine hK _ _ ?_
              clear hK K
              refine wpAny_ready (rs := [3]) (by kernel_rfl) (by simp) ?_
              refine AllReady.cons rfl (fun K hK => ?_) AllReady.nil
              go_simp
              refine hK _ _ ?_
              clear hK K
              refine wpAny_ready (rs := [4]) (by kernel_rfl) (by simp) ?_
              refine AllReady.cons rfl (fun K hK => ?_) AllReady.nil
              go_simp
              refine hK _ _ ?_
              clear hK K
              refine wpAny_ready (rs := [5]) (by kernel_rfl) (by simp) ?_
              refine AllReady.cons rfl (fun K hK => ?_) AllReady.nil
              go_simp
              refine hK _ _ ?_
              clear hK K
              refine wpAny_ready (rs := [6]) (by kernel_rfl) (by simp) ?_
              refine AllReady.cons rfl (fun K hK => ?_) AllReady.nil
              go_simp
              refine (HC1.out _).mono ?_
              rintro e w' ⟨rfl, hb⟩
              replace k0 := cell_in hb k0; replace k1 := cell_in hb k1; replace kB := below_to kB.drew hb; clear hb
              refine hK _ _ ?_
              clear hK K
              refine wpAny_ready (rs := [7]) (by kernel_rfl) (by simp) ?_
              refine AllReady.cons rfl (fun K hK => ?_) AllReady.nil
              go_simp
              refine hK _ _ ?_
              clear hK K
              refine wpAny_ready (rs := [8]) (by kernel_rfl) (by simp) ?_
              refine AllReady.cons rfl (fun K hK => ?_) AllReady.nil
              go_simp
              refine hK _ _ ?_
              clear hK K
              refine wpAny_ready (rs := [9]) (by kernel_rfl) (by simp) ?_
              refine AllReady.cons rfl (fun K hK => ?_) AllReady.nil
              go_simp
              refine hK _ _ ?_
              clear hK K
              refine wpAny_ready (rs := [10]) (by kernel_rfl) (by simp) ?_
              refine AllReady.cons rfl (fun K hK => ?_) AllReady.nil
              go_simp
              refine hK _ _ ?_
              clear hK K
              refine wpAny_ready (rs := [11]) (by kernel_rfl) (by simp) ?_
              refine AllReady.cons rfl (fun K hK => ?_) AllReady.nil
              go_simp
              refine hK _ _ ?_
              clear hK K
              refine wpAny_ready (rs := [12]) (by kernel_rfl) (by simp) ?_
              refine AllReady.cons rfl (fun K hK => ?_) AllReady.nil
              go_simp
              refine (HC2.out _).mono ?_
              rintro e w' ⟨rfl, hb⟩
              replace k0 := cell_in hb k0; replace k1 := cell_in hb k1; replace kB := below_to kB hb; clear hb
              refine hK _ _ ?_
              clear hK K
              refine wpAny_ready (rs := [13]) (by kernel_rfl) (by simp) ?_
              refine AllReady.cons rfl (fun K hK => ?_) AllReady.nil
              go_simp
              refine hK _ _ ?_
              clear hK K
              refine wpAny_ready (rs := [14]) (by kernel_rfl) (by simp) ?_
              refine AllReady.cons rfl (fun K hK => ?_) AllReady.nil
              go_simp
              refine hK _ _ ?_
              clear hK K
              refine wpAny_ready (rs := [15]) (by kernel_rfl) (by simp) ?_
              refine AllReady.cons rfl (fun K hK => ?_) AllReady.nil
              go_simp
              refine hK _ _ ?_
              clear hK K
              refine wpAny_take (i := 16) (v := .pointer (some ⟨g, 1, none⟩)) rfl (by kernel_rfl) (by kernel_rfl) (by kernel_rfl) (fun _ _ _ h => h) (Or.inl ⟨by rfl, fun w => by go_simp <;> with_reducible rfl⟩) ?_
              (try simp only [Act.put, List.setIfInBounds_toArray, List.set_cons_zero, List.set_cons_succ])
              refine wpAny_take (i := 19) (v := .pointer (some ⟨g, 1, none⟩)) rfl (by kernel_rfl) (by kernel_rfl) (by kernel_rfl) (fun _ _ _ h => h) (Or.inl ⟨by rfl, fun w => by go_simp <;> with_reducible rfl⟩) ?_
              (try simp only [Act.put, List.setIfInBounds_toArray, List.set_cons_zero, List.set_cons_succ])
              refine wpAny_ready (rs := [17, 20]) (by kernel_rfl) (by simp) ?_
              refine AllReady.cons rfl (fun K hK => ?_) (AllReady.cons rfl (fun K hK => ?_) AllReady.nil)
              · skip
                go_simp
                refine hK _ _ ?_
                clear hK K
                refine wpAny_ready (rs := [18, 20]) (by kernel_rfl) (by simp) ?_
                refine AllReady.cons rfl (fun K hK => ?_) (AllReady.cons rfl (fun K hK => ?_) AllReady.nil)
                · skip
                  go_simp
                  refine (HC3.out _).mono ?_
                  rintro e w' ⟨rfl, hb⟩
                  replace k0 := cell_in hb k0; replace k1 := cell_in hb k1; replace kB := below_to kB hb; clear hb
                  refine hK _ _ ?_
                  clear hK K
                  refine wpAny_ready (rs := [20]) (by kernel_rfl) (by simp) ?_
                  refine AllReady.cons rfl (fun K hK => ?_) AllReady.nil
                  go_simp
                  refine hK _ _ ?_
                  clear hK K
                  refine wpAny_ready (rs := [21]) (by kernel_rfl) (by simp) ?_
                  refine AllReady.cons rfl (fun K hK => ?_) AllReady.nil
                  go_simp
                  refine hK _ _ ?_
                  clear hK K
                  refine wpAny_ready (rs := [22]) (by kernel_rfl) (by simp) ?_
                  refine AllReady.cons rfl (fun K hK => ?_) AllReady.nil
                  go_simp
                  refine hK _ _ ?_
                  clear hK K
                  refine wpAny_ready (rs := [23]) (by kernel_rfl) (by simp) ?_
                  refine AllReady.cons rfl (fun K hK => ?_) AllReady.nil
                  go_simp
                  refine hK _ _ ?_
                  clear hK K
                  refine wpAny_take (i := 24) (v := undef) rfl (by kernel_rfl) (by kernel_rfl) (by kernel_rfl) (fun _ _ _ h => h) (Or.inr ⟨by rfl, rfl⟩) ?_
                  (try simp only [Act.put, List.setIfInBounds_toArray, List.set_cons_zero, List.set_cons_succ])
                  refine wpAny_take (i := 25) (v := undef) rfl (by kernel_rfl) (by kernel_rfl) (by kernel_rfl) (fun _ _ _ h => h) (Or.inr ⟨by rfl, rfl⟩) ?_
                  (try simp only [Act.put, List.setIfInBounds_toArray, List.set_cons_zero, List.set_cons_succ])
                  refine wpAny_take (i := 26) (v := undef) rfl (by kernel_rfl) (by kernel_rfl) (by kernel_rfl) (fun _ _ _ h => h) (Or.inr ⟨by rfl, rfl⟩) ?_
                  (try simp only [Act.put, List.setIfInBounds_toArray, List.set_cons_zero, List.set_cons_succ])
                  refine wpAny_take (i := 27) (v := undef) rfl (by kernel_rfl) (by kernel_rfl) (by kernel_rfl) (fun _ _ _ h => h) (Or.inr ⟨by rfl, rfl⟩) ?_
                  (try simp only [Act.put, List.setIfInBounds_toArray, List.set_cons_zero, List.set_cons_succ])
                  refine wpAny_ready (rs := [28]) (by kernel_rfl) (by simp) ?_
                  refine AllReady.cons rfl (fun K hK => ?_) AllReady.nil
                  go_simp
                  refine hK _ _ ?_
                  clear hK K
                  refine wpAny_done (by kernel_rfl) ?_ _
                  obtain ⟨er, her, -⟩ := (HI.out.below kB).sent 5 (by omega) (by omega)
                  have her' := (show World.cell? _ ⟨2, 0, none⟩ = some (.iface 167 (.pointer (some er))) from her)
                  have HER := Lib.hid her
                  have hz := HB0.out.trans (kB.mono HB0.out.size)
                  have HZ := Lib.hid hz
                  clear her hz k0 k1
                  go_wp2_with (go_at_call 25; (with_reducible refine Calls.mono (fault_any _ _ _ _) ?_); rintro e w5 ⟨rfl, rfl⟩)
                  go_ret
                  exact ⟨_, rfl, flt_new _ _ 5 (by omega) (by omega) _ _ HER.out, by first | exact HZ.out.alloc HZ.out.size _ | exact (HZ.out.alloc HZ.out.size _).drew⟩
                · skip
                  go_simp
                  refine hK _ _ ?_
                  clear hK K
                  refine wpAny_ready (rs := [18]) (by kernel_rfl) (by simp) ?_
                  refine AllReady.cons rfl (fun K hK => ?_) AllReady.nil
                  go_simp
                  refine (HC3.out _).mono ?_
                  rintro e w' ⟨rfl, hb⟩
                  replace k0 := cell_in hb k0; replace k1 := cell_in hb k1; replace kB := below_to kB hb; clear hb
                  refine hK _ _ ?_
                  clear hK K
                  refine wpAny_ready (rs := [21]) (by kernel_rfl) (by simp) ?_
                  refine AllReady.cons rfl (fun K hK => ?_) AllReady.nil
                  go_simp
                  refine hK _ _ ?_
                  clear hK K
                  refine wpAny_ready (rs := [22]) (by kernel_rfl) (by simp) ?_
                  refine AllReady.cons rfl (fun K hK => ?_) AllReady.nil
                  go_simp
                  refine hK _ _ ?_
                  clear hK K
                  refine wpAny_ready (rs := [23]) (by kernel_rfl) (by simp) ?_
                  refine AllReady.cons rfl (fun K hK => ?_) AllReady.nil
                  go_simp
                  refine hK _ _ ?_
                  clear hK K
                  refine wpAny_take (i := 24) (v := undef) rfl (by kernel_rfl) (by kernel_rfl) (by kernel_rfl) (fun _ _ _ h => h) (Or.inr ⟨by rfl, rfl⟩) ?_
                  (try simp only [Act.put, List.setIfInBounds_toArray, List.set_cons_zero, List.set_cons_succ])
                  refine wpAny_take (i := 25) (v := undef) rfl (by kernel_rfl) (by kernel_rfl) (by kernel_rfl) (fun _ _ _ h => h) (Or.inr ⟨by rfl, rfl⟩) ?_
                  (try simp only [Act.put, List.setIfInBounds_toArray, List.set_cons_zero, List.set_cons_succ])
                  refine wpAny_take (i := 26) (v := undef) rfl (by kernel_rfl) (by kernel_rfl) (by kernel_rfl) (fun _ _ _ h => h) (Or.inr ⟨by rfl, rfl⟩) ?_
                  (try simp only [Act.put, List.setIfInBounds_toArray, List.set_cons_zero, List.set_cons_succ])
                  refine wpAny_take (i := 27) (v := undef) rfl (by kernel_rfl) (by kernel_rfl) (by kernel_rfl) (fun _ _ _ h => h) (Or.inr ⟨by rfl, rfl⟩) ?_
                  (try simp only [Act.put, List.setIfInBounds_toArray, List.set_cons_zero, List.set_cons_succ])
                  refine wpAny_ready (rs := [28]) (by kernel_rfl) (by simp) ?_
                  refine AllReady.cons rfl (fun K hK => ?_) AllReady.nil
                  go_simp
                  refine hK _ _ ?_
                  clear hK K
                  refine wpAny_done (by kernel_rfl) ?_ _
                  obtain ⟨er, her, -⟩ := (HI.out.below kB).sent 5 (by omega) (by omega)
                  have her' := (show World.cell? _ ⟨2, 0, none⟩ = some (.iface 167 (.pointer (some er))) from her)
                  have HER := Lib.hid her
                  have hz := HB0.out.trans (kB.mono HB0.out.size)
                  have HZ := Lib.hid hz
                  clear her hz k0 k1
                  go_wp2_with (go_at_call 25; (with_reducible refine Calls.mono (fault_any _ _ _ _) ?_); rintro e w5 ⟨rfl, rfl⟩)
                  go_ret
                  exact ⟨_, rfl, flt_new _ _ 5 (by omega) (by omega) _ _ HER.out, by first | exact HZ.out.alloc HZ.out.size _ | exact (HZ.out.alloc HZ.out.size _).drew⟩
              · skip
                go_simp
                refine hK _ _ ?_
                clear hK K
                refine wpAny_ready (rs := [17]) (by kernel_rfl) (by simp) ?_
                refine AllReady.cons rfl (fun K hK => ?_) AllReady.nil
                go_simp
                refine hK _ _ ?_
                clear hK K
                refine wpAny_ready (rs := [18]) (by kernel_rfl) (by simp) ?_
                refine AllReady.cons rfl (fun K hK => ?_) AllReady.nil
                go_simp
                refine (HC3.out _).mono ?_
                rintro e w' ⟨rfl, hb⟩
                replace k0 := cell_in hb k0; replace k1 := cell_in hb k1; replace kB := below_to kB hb; clear hb
                refine hK _ _ ?_
                clear hK K
                refine wpAny_ready (rs := [21]) (by kernel_rfl) (by simp) ?_
                refine AllReady.cons rfl (fun K hK => ?_) AllReady.nil
                go_simp
                refine hK _ _ ?_
                clear hK K
                refine wpAny_ready (rs := [22]) (by kernel_rfl) (by simp) ?_
                refine AllReady.cons rfl (fun K hK => ?_) AllReady.nil
                go_simp
                refine hK _ _ ?_
                clear hK K
                refine wpAny_ready (rs := [23]) (by kernel_rfl) (by simp) ?_
                refine AllReady.cons rfl (fun K hK => ?_) AllReady.nil
                go_simp
                refine hK _ _ ?_
                clear hK K
                refine wpAny_take (i := 24) (v := undef) rfl (by kernel_rfl) (by kernel_rfl) (by kernel_rfl) (fun _ _ _ h => h) (Or.inr ⟨by rfl, rfl⟩) ?_
                (try simp only [Act.put, List.setIfInBounds_toArray, List.set_cons_zero, List.set_cons_succ])
                refine wpAny_take (i := 25) (v := undef) rfl (by kernel_rfl) (by kernel_rfl) (by kernel_rfl) (fun _ _ _ h => h) (Or.inr ⟨by rfl, rfl⟩) ?_
                (try simp only [Act.put, List.setIfInBounds_toArray, List.set_cons_zero, List.set_cons_succ])
                refine wpAny_take (i := 26) (v := undef) rfl (by kernel_rfl) (by kernel_rfl) (by kernel_rfl) (fun _ _ _ h => h) (Or.inr ⟨by rfl, rfl⟩) ?_
                (try simp only [Act.put, List.setIfInBounds_toArray, List.set_cons_zero, List.set_cons_succ])
                refine wpAny_take (i := 27) (v := undef) rfl (by kernel_rfl) (by kernel_rfl) (by kernel_rfl) (fun _ _ _ h => h) (Or.inr ⟨by rfl, rfl⟩) ?_
                (try simp only [Act.put, List.setIfInBounds_toArray, List.set_cons_zero, List.set_cons_succ])
                refine wpAny_ready (rs := [28]) (by kernel_rfl) (by simp) ?_
                refine AllReady.cons rfl (fun K hK => ?_) AllReady.nil
                go_simp
                refine hK _ _ ?_
                clear hK K
                refine wpAny_done (by kernel_rfl) ?_ _
                obtain ⟨er, her, -⟩ := (HI.out.below kB).sent 5 (by omega) (by omega)
                have her' := (show World.cell? _ ⟨2, 0, none⟩ = some (.iface 167 (.pointer (some er))) from her)
                have HER := Lib.hid her
                have hz := HB0.out.trans (kB.mono HB0.out.size)
                have HZ := Lib.hid hz
                clear her hz k0 k1
                go_wp2_with (go_at_call 25; (with_reducible refine Calls.mono (fault_any _ _ _ _) ?_); rintro e w5 ⟨rfl, rfl⟩)
                go_ret
                exact ⟨_, rfl, flt_new _ _ 5 (by omega) (by omega) _ _ HER.out, by first | exact HZ.out.alloc HZ.out.size _ | exact (HZ.out.alloc HZ.out.size _).drew⟩
            | true =>
              have e4 : ((trimB v).toList != v.toList) = false := by rw [bne, e6]; rfl
              cases e5 : ((smallB n).toList == clB.toList) with
              | true =>
                have hPv : some k = P := by have := HF2.out; rw [firstBad, if_pos (by simp only [badH, e5]; simp)] at this; exact this
                subst hPv
                have e5' : ((smallB n).toList == [99, 111, 110, 116, 101, 110, 116, 45, 108, 101, 110, 103, 116, 104]) = true := by rw [← e5, show clB.toList = [99, 111, 110, 116, 101, 110, 116, 45, 108, 101, 110, 103, 116, 104] from by kernel_rfl]
                generalize trimB v = tv at *; generalize smallB n = sm at *
                refine wp_region_any (by kernel_rfl) ?_
                try (change wpAny _ _ _ _ _ _ _ (World.drew _))
                refine wpAny_ready (rs := [0]) (by kernel_rfl) (by simp) ?_
                refine AllReady.cons rfl (fun K hK => ?_) AllReady.nil
                go_simp
                refine hK _ _ ?_
                clear hK K
                refine wpAny_ready (rs := [1]) (by kernel_rfl) (by simp) ?_
                refine AllReady.cons rfl (fun K hK => ?_) AllReady.nil
                go_simp
                refine hK _ _ ?_
                clear hK K
                refine wpAny_ready (rs := [2]) (by kernel_rfl) (by simp) ?_
                refine AllReady.cons rfl (fun K hK => ?_) AllReady.nil
                go_simp
                refine hK _ _ ?_
                clear hK K
                refine wpAny_ready (rs := [3]) (by kernel_rfl) (by simp) ?_
                refine AllReady.cons rfl (fun K hK => ?_) AllReady.nil
                go_simp
                refine hK _ _ ?_
                clear hK K
                refine wpAny_ready (rs := [4]) (by kernel_rfl) (by simp) ?_
                refine AllReady.cons rfl (fun K hK => ?_) AllReady.nil
                go_simp
                refine hK _ _ ?_
                clear hK K
                refine wpAny_ready (rs := [5]) (by kernel_rfl) (by simp) ?_
                refine AllReady.cons rfl (fun K hK => ?_) AllReady.nil
                go_simp
                refine hK _ _ ?_
                clear hK K
                refine wpAny_ready (rs := [6]) (by kernel_rfl) (by simp) ?_
                refine AllReady.cons rfl (fun K hK => ?_) AllReady.nil
                go_simp
                refine (HC1.out _).mono ?_
                rintro e w' ⟨rfl, hb⟩
                replace k0 := cell_in hb k0; replace k1 := cell_in hb k1; replace kB := below_to kB.drew hb; clear hb
                refine hK _ _ ?_
                clear hK K
                refine wpAny_ready (rs := [7]) (by kernel_rfl) (by simp) ?_
                refine AllReady.cons rfl (fun K hK => ?_) AllReady.nil
                go_simp
                refine hK _ _ ?_
                clear hK K
                refine wpAny_ready (rs := [8]) (by kernel_rfl) (by simp) ?_
                refine AllReady.cons rfl (fun K hK => ?_) AllReady.nil
                go_simp
                refine hK _ _ ?_
                clear hK K
                refine wpAny_ready (rs := [9]) (by kernel_rfl) (by simp) ?_
                refine AllReady.cons rfl (fun K hK => ?_) AllReady.nil
                go_simp
                refine hK _ _ ?_
                clear hK K
                refine wpAny_ready (rs := [10]) (by kernel_rfl) (by simp) ?_
                refine AllReady.cons rfl (fun K hK => ?_) AllReady.nil
                go_simp
                refine hK _ _ ?_
                clear hK K
                refine wpAny_ready (rs := [11]) (by kernel_rfl) (by simp) ?_
                refine AllReady.cons rfl (fun K hK => ?_) AllReady.nil
                go_simp
                refine hK _ _ ?_
                clear hK K
                refine wpAny_ready (rs := [12]) (by kernel_rfl) (by simp) ?_
                refine AllReady.cons rfl (fun K hK => ?_) AllReady.nil
                go_simp
                refine (HC2.out _).mono ?_
                rintro e w' ⟨rfl, hb⟩
                replace k0 := cell_in hb k0; replace k1 := cell_in hb k1; replace kB := below_to kB hb; clear hb
                refine hK _ _ ?_
                clear hK K
                refine wpAny_ready (rs := [13]) (by kernel_rfl) (by simp) ?_
                refine AllReady.cons rfl (fun K hK => ?_) AllReady.nil
                go_simp
                refine hK _ _ ?_
                clear hK K
                refine wpAny_ready (rs := [14]) (by kernel_rfl) (by simp) ?_
                refine AllReady.cons rfl (fun K hK => ?_) AllReady.nil
                go_simp
                refine hK _ _ ?_
                clear hK K
                refine wpAny_ready (rs := [15]) (by kernel_rfl) (by simp) ?_
                refine AllReady.cons rfl (fun K hK => ?_) AllReady.nil
                go_simp
                refine hK _ _ ?_
                clear hK K
                refine wpAny_take (i := 16) (v := .pointer (some ⟨g, 1, none⟩)) rfl (by kernel_rfl) (by kernel_rfl) (by kernel_rfl) (fun _ _ _ h => h) (Or.inl ⟨by rfl, fun w => by go_simp <;> with_reducible rfl⟩) ?_
                (try simp only [Act.put, List.setIfInBounds_toArray, List.set_cons_zero, List.set_cons_succ])
                refine wpAny_take (i := 19) (v := .pointer (some ⟨g, 1, none⟩)) rfl (by kernel_rfl) (by kernel_rfl) (by kernel_rfl) (fun _ _ _ h => h) (Or.inl ⟨by rfl, fun w => by go_simp <;> with_reducible rfl⟩) ?_
                (try simp only [Act.put, List.setIfInBounds_toArray, List.set_cons_zero, List.set_cons_succ])
                refine wpAny_ready (rs := [17, 20]) (by kernel_rfl) (by simp) ?_
                refine AllReady.cons rfl (fun K hK => ?_) (AllReady.cons rfl (fun K hK => ?_) AllReady.nil)
                · skip
                  go_simp
                  refine hK _ _ ?_
                  clear hK K
                  refine wpAny_ready (rs := [18, 20]) (by kernel_rfl) (by simp) ?_
                  refine AllReady.cons rfl (fun K hK => ?_) (AllReady.cons rfl (fun K hK => ?_) AllReady.nil)
                  · skip
                    go_simp
                    refine (HC3.out _).mono ?_
                    rintro e w' ⟨rfl, hb⟩
                    replace k0 := cell_in hb k0; replace k1 := cell_in hb k1; replace kB := below_to kB hb; clear hb
                    refine hK _ _ ?_
                    clear hK K
                    refine wpAny_ready (rs := [20]) (by kernel_rfl) (by simp) ?_
                    refine AllReady.cons rfl (fun K hK => ?_) AllReady.nil
                    go_simp
                    refine hK _ _ ?_
                    clear hK K
                    refine wpAny_ready (rs := [21]) (by kernel_rfl) (by simp) ?_
                    refine AllReady.cons rfl (fun K hK => ?_) AllReady.nil
                    go_simp
                    refine hK _ _ ?_
                    clear hK K
                    refine wpAny_ready (rs := [22]) (by kernel_rfl) (by simp) ?_
                    refine AllReady.cons rfl (fun K hK => ?_) AllReady.nil
                    go_simp
                    refine hK _ _ ?_
                    clear hK K
                    refine wpAny_ready (rs := [23]) (by kernel_rfl) (by simp) ?_
                    refine AllReady.cons rfl (fun K hK => ?_) AllReady.nil
                    go_simp
                    refine hK _ _ ?_
                    clear hK K
                    refine wpAny_ready (rs := [24]) (by kernel_rfl) (by simp) ?_
                    refine AllReady.cons rfl (fun K hK => ?_) AllReady.nil
                    go_simp
                    refine hK _ _ ?_
                    clear hK K
                    refine wpAny_ready (rs := [25]) (by kernel_rfl) (by simp) ?_
                    refine AllReady.cons rfl (fun K hK => ?_) AllReady.nil
                    go_simp
                    refine hK _ _ ?_
                    clear hK K
                    refine wpAny_ready (rs := [26]) (by kernel_rfl) (by simp) ?_
                    refine AllReady.cons rfl (fun K hK => ?_) AllReady.nil
                    go_simp
                    refine (HC4.out _).mono ?_
                    rintro e w' ⟨rfl, hb⟩
                    replace k0 := cell_in hb k0; replace k1 := cell_in hb k1; replace kB := below_to kB hb; clear hb
                    refine hK _ _ ?_
                    clear hK K
                    refine wpAny_ready (rs := [27]) (by kernel_rfl) (by simp) ?_
                    refine AllReady.cons rfl (fun K hK => ?_) AllReady.nil
                    go_simp
                    refine hK _ _ ?_
                    clear hK K
                    refine wpAny_ready (rs := [28]) (by kernel_rfl) (by simp) ?_
                    refine AllReady.cons rfl (fun K hK => ?_) AllReady.nil
                    go_simp
                    refine hK _ _ ?_
                    clear hK K
                    refine wpAny_done (by kernel_rfl) ?_ _
                    obtain ⟨er, her, -⟩ := (HI.out.below kB).sent 5 (by omega) (by omega)
                    have her' := (show World.cell? _ ⟨2, 0, none⟩ = some (.iface 167 (.pointer (some er))) from her)
                    have HER := Lib.hid her
                    have hz := HB0.out.trans (kB.mono HB0.out.size)
                    have HZ := Lib.hid hz
                    clear her hz k0 k1
                    go_wp2_with (go_at_call 25; (with_reducible refine Calls.mono (fault_any _ _ _ _) ?_); rintro e w5 ⟨rfl, rfl⟩)
                    go_ret
                    exact ⟨_, rfl, flt_new _ _ 5 (by omega) (by omega) _ _ HER.out, by first | exact HZ.out.alloc HZ.out.size _ | exact (HZ.out.alloc HZ.out.size _).drew⟩
                  · skip
                    go_simp
                    refine hK _ _ ?_
                    clear hK K
                    refine wpAny_ready (rs := [18]) (by kernel_rfl) (by simp) ?_
                    refine AllReady.cons rfl (fun K hK => ?_) AllReady.nil
                    go_simp
                    refine (HC3.out _).mono ?_
                    rintro e w' ⟨rfl, hb⟩
                    replace k0 := cell_in hb k0; replace k1 := cell_in hb k1; replace kB := below_to kB hb; clear hb
                    refine hK _ _ ?_
                    clear hK K
                    refine wpAny_ready (rs := [21]) (by kernel_rfl) (by simp) ?_
                    refine AllReady.cons rfl (fun K hK => ?_) AllReady.nil
                    go_simp
                    refine hK _ _ ?_
                    clear hK K
                    refine wpAny_ready (rs := [22]) (by kernel_rfl) (by simp) ?_
                    refine AllReady.cons rfl (fun K hK => ?_) AllReady.nil
                    go_simp
                    refine hK _ _ ?_
                    clear hK K
                    refine wpAny_ready (rs := [23]) (by kernel_rfl) (by simp) ?_
                    refine AllReady.cons rfl (fun K hK => ?_) AllReady.nil
                    go_simp
                    refine hK _ _ ?_
                    clear hK K
                    refine wpAny_ready (rs := [24]) (by kernel_rfl) (by simp) ?_
                    refine AllReady.cons rfl (fun K hK => ?_) AllReady.nil
                    go_simp
                    refine hK _ _ ?_
                    clear hK K
                    refine wpAny_ready (rs := [25]) (by kernel_rfl) (by simp) ?_
                    refine AllReady.cons rfl (fun K hK => ?_) AllReady.nil
                    go_simp
                    refine hK _ _ ?_
                    clear hK K
                    refine wpAny_ready (rs := [26]) (by kernel_rfl) (by simp) ?_
                    refine AllReady.cons rfl (fun K hK => ?_) AllReady.nil
                    go_simp
                    refine (HC4.out _).mono ?_
                    rintro e w' ⟨rfl, hb⟩
                    replace k0 := cell_in hb k0; replace k1 := cell_in hb k1; replace kB := below_to kB hb; clear hb
                    refine hK _ _ ?_
                    clear hK K
                    refine wpAny_ready (rs := [27]) (by kernel_rfl) (by simp) ?_
                    refine AllReady.cons rfl (fun K hK => ?_) AllReady.nil
                    go_simp
                    refine hK _ _ ?_
                    clear hK K
                    refine wpAny_ready (rs := [28]) (by kernel_rfl) (by simp) ?_
                    refine AllReady.cons rfl (fun K hK => ?_) AllReady.nil
                    go_simp
                    refine hK _ _ ?_
                    clear hK K
                    refine wpAny_done (by kernel_rfl) ?_ _
                    obtain ⟨er, her, -⟩ := (HI.out.below kB).sent 5 (by omega) (by omega)
                    have her' := (show World.cell? _ ⟨2, 0, none⟩ = some (.iface 167 (.pointer (some er))) from her)
                    have HER := Lib.hid her
                    have hz := HB0.out.trans (kB.mono HB0.out.size)
                    have HZ := Lib.hid hz
                    clear her hz k0 k1
                    go_wp2_with (go_at_call 25; (with_reducible refine Calls.mono (fault_any _ _ _ _) ?_); rintro e w5 ⟨rfl, rfl⟩)
                    go_ret
                    exact ⟨_, rfl, flt_new _ _ 5 (by omega) (by omega) _ _ HER.out, by first | exact HZ.out.alloc HZ.out.size _ | exact (HZ.out.alloc HZ.out.size _).drew⟩
                · skip
                  go_simp
                  refine hK _ _ ?_
                  clear hK K
                  refine wpAny_ready (rs := [17]) (by kernel_rfl) (by simp) ?_
                  refine AllReady.cons rfl (fun K hK => ?_) AllReady.nil
                  go_simp
                  refine hK _ _ ?_
                  clear hK K
                  refine wpAny_ready (rs := [18]) (by kernel_rfl) (by simp) ?_
                  refine AllReady.cons rfl (fun K hK => ?_) AllReady.nil
                  go_simp
                  refine (HC3.out _).mono ?_
                  rintro e w' ⟨rfl, hb⟩
                  replace k0 := cell_in hb k0; replace k1 := cell_in hb k1; replace kB := below_to kB hb; clear hb
                  refine hK _ _ ?_
                  clear hK K
                  refine wpAny_ready (rs := [21]) (by kernel_rfl) (by simp) ?_
                  refine AllReady.cons rfl (fun K hK => ?_) AllReady.nil
                  go_simp
                  refine hK _ _ ?_
                  clear hK K
                  refine wpAny_ready (rs := [22]) (by kernel_rfl) (by simp) ?_
                  refine AllReady.cons rfl (fun K hK => ?_) AllReady.nil
                  go_simp
                  refine hK _ _ ?_
                  clear hK K
                  refine wpAny_ready (rs := [23]) (by kernel_rfl) (by simp) ?_
                  refine AllReady.cons rfl (fun K hK => ?_) AllReady.nil
                  go_simp
                  refine hK _ _ ?_
                  clear hK K
                  refine wpAny_ready (rs := [24]) (by kernel_rfl) (by simp) ?_
                  refine AllReady.cons rfl (fun K hK => ?_) AllReady.nil
                  go_simp
                  refine hK _ _ ?_
                  clear hK K
                  refine wpAny_ready (rs := [25]) (by kernel_rfl) (by simp) ?_
                  refine AllReady.cons rfl (fun K hK => ?_) AllReady.nil
                  go_simp
                  refine hK _ _ ?_
                  clear hK K
                  refine wpAny_ready (rs := [26]) (by kernel_rfl) (by simp) ?_
                  refine AllReady.cons rfl (fun K hK => ?_) AllReady.nil
                  go_simp
                  refine (HC4.out _).mono ?_
                  rintro e w' ⟨rfl, hb⟩
                  replace k0 := cell_in hb k0; replace k1 := cell_in hb k1; replace kB := below_to kB hb; clear hb
                  refine hK _ _ ?_
                  clear hK K
                  refine wpAny_ready (rs := [27]) (by kernel_rfl) (by simp) ?_
                  refine AllReady.cons rfl (fun K hK => ?_) AllReady.nil
                  go_simp
                  refine hK _ _ ?_
                  clear hK K
                  refine wpAny_ready (rs := [28]) (by kernel_rfl) (by simp) ?_
                  refine AllReady.cons rfl (fun K hK => ?_) AllReady.nil
                  go_simp
                  refine hK _ _ ?_
                  clear hK K
                  refine wpAny_done (by kernel_rfl) ?_ _
                  obtain ⟨er, her, -⟩ := (HI.out.below kB).sent 5 (by omega) (by omega)
                  have her' := (show World.cell? _ ⟨2, 0, none⟩ = some (.iface 167 (.pointer (some er))) from her)
                  have HER := Lib.hid her
                  have hz := HB0.out.trans (kB.mono HB0.out.size)
                  have HZ := Lib.hid hz
                  clear her hz k0 k1
                  go_wp2_with (go_at_call 25; (with_reducible refine Calls.mono (fault_any _ _ _ _) ?_); rintro e w5 ⟨rfl, rfl⟩)
                  go_ret
                  exact ⟨_, rfl, flt_new _ _ 5 (by omega) (by omega) _ _ HER.out, by first | exact HZ.out.alloc HZ.out.size _ | exact (HZ.out.alloc HZ.out.size _).drew⟩
              | false =>
                have HF3 : Hid (firstBad (l.drop (k + 1)) (k + 1) = P) := by have := HF2.out; rw [firstBad, if_neg (by simp only [badH, e1, e2, e3, e4, e5]; simp)] at this; exact this
                have e5' : ((smallB n).toList == [99, 111, 110, 116, 101, 110, 116, 45, 108, 101, 110, 103, 116, 104]) = false := by rw [← e5, show clB.toList = [99, 111, 110, 116, 101, 110, 116, 45, 108, 101, 110, 103, 116, 104] from by kernel_rfl]
                generalize trimB v = tv at *; generalize smallB n = sm at *
                refine wp_region_any (by kernel_rfl) ?_
                try (change wpAny _ _ _ _ _ _ _ (World.drew _))
                refine wpAny_ready (rs := [0]) (by kernel_rfl) (by simp) ?_
                refine AllReady.cons rfl (fun K hK => ?_) AllReady.nil
                go_simp
                refine hK _ _ ?_
                clear hK K
                refine wpAny_ready (rs := [1]) (by kernel_rfl) (by simp) ?_
                refine AllReady.cons rfl (fun K hK => ?_) AllReady.nil
                go_simp
                refine hK _ _ ?_
                clear hK K
                refine wpAny_ready (rs := [2]) (by kernel_rfl) (by simp) ?_
                refine AllReady.cons rfl (fun K hK => ?_) AllReady.nil
                go_simp
                refine hK _ _ ?_
                clear hK K
                refine wpAny_ready (rs := [3]) (by kernel_rfl) (by simp) ?_
                refine AllReady.cons rfl (fun K hK => ?_) AllReady.nil
                go_simp
                refine hK _ _ ?_
                clear hK K
                refine wpAny_ready (rs := [4]) (by kernel_rfl) (by simp) ?_
                refine AllReady.cons rfl (fun K hK => ?_) AllReady.nil
                go_simp
                refine hK _ _ ?_
                clear hK K
                refine wpAny_ready (rs := [5]) (by kernel_rfl) (by simp) ?_
                refine AllReady.cons rfl (fun K hK => ?_) AllReady.nil
                go_simp
                refine hK _ _ ?_
                clear hK K
                refine wpAny_ready (rs := [6]) (by kernel_rfl) (by simp) ?_
                refine AllReady.cons rfl (fun K hK => ?_) AllReady.nil
                go_simp
                refine (HC1.out _).mono ?_
                rintro e w' ⟨rfl, hb⟩
                replace k0 := cell_in hb k0; replace k1 := cell_in hb k1; replace kB := below_to kB.drew hb; clear hb
                refine hK _ _ ?_
                clear hK K
                refine wpAny_ready (rs := [7]) (by kernel_rfl) (by simp) ?_
                refine AllReady.cons rfl (fun K hK => ?_) AllReady.nil
                go_simp
                refine hK _ _ ?_
                clear hK K
                refine wpAny_ready (rs := [8]) (by kernel_rfl) (by simp) ?_
                refine AllReady.cons rfl (fun K hK => ?_) AllReady.nil
                go_simp
                refine hK _ _ ?_
                clear hK K
                refine wpAny_ready (rs := [9]) (by kernel_rfl) (by simp) ?_
                refine AllReady.cons rfl (fun K hK => ?_) AllReady.nil
                go_simp
                refine hK _ _ ?_
                clear hK K
                refine wpAny_ready (rs := [10]) (by kernel_rfl) (by simp) ?_
                refine AllReady.cons rfl (fun K hK => ?_) AllReady.nil
                go_simp
                refine hK _ _ ?_
                clear hK K
                refine wpAny_ready (rs := [11]) (by kernel_rfl) (by simp) ?_
                refine AllReady.cons rfl (fun K hK => ?_) AllReady.nil
                go_simp
                refine hK _ _ ?_
                clear hK K
                refine wpAny_ready (rs := [12]) (by kernel_rfl) (by simp) ?_
                refine AllReady.cons rfl (fun K hK => ?_) AllReady.nil
                go_simp
                refine (HC2.out _).mono ?_
                rintro e w' ⟨rfl, hb⟩
                replace k0 := cell_in hb k0; replace k1 := cell_in hb k1; replace kB := below_to kB hb; clear hb
                refine hK _ _ ?_
                clear hK K
                refine wpAny_ready (rs := [13]) (by kernel_rfl) (by simp) ?_
                refine AllReady.cons rfl (fun K hK => ?_) AllReady.nil
                go_simp
                refine hK _ _ ?_
                clear hK K
                refine wpAny_ready (rs := [14]) (by kernel_rfl) (by simp) ?_
                refine AllReady.cons rfl (fun K hK => ?_) AllReady.nil
                go_simp
                refine hK _ _ ?_
                clear hK K
                refine wpAny_ready (rs := [15]) (by kernel_rfl) (by simp) ?_
                refine AllReady.cons rfl (fun K hK => ?_) AllReady.nil
                go_simp
                refine hK _ _ ?_
                clear hK K
                refine wpAny_take (i := 16) (v := .pointer (some ⟨g, 1, none⟩)) rfl (by kernel_rfl) (by kernel_rfl) (by kernel_rfl) (fun _ _ _ h => h) (Or.inl ⟨by rfl, fun w => by go_simp <;> with_reducible rfl⟩) ?_
                (try simp only [Act.put, List.setIfInBounds_toArray, List.set_cons_zero, List.set_cons_succ])
                refine wpAny_take (i := 19) (v := .pointer (some ⟨g, 1, none⟩)) rfl (by kernel_rfl) (by kernel_rfl) (by kernel_rfl) (fun _ _ _ h => h) (Or.inl ⟨by rfl, fun w => by go_simp <;> with_reducible rfl⟩) ?_
                (try simp only [Act.put, List.setIfInBounds_toArray, List.set_cons_zero, List.set_cons_succ])
                refine wpAny_ready (rs := [17, 20]) (by kernel_rfl) (by simp) ?_
                refine AllReady.cons rfl (fun K hK => ?_) (AllReady.cons rfl (fun K hK => ?_) AllReady.nil)
                · skip
                  go_simp
                  refine hK _ _ ?_
                  clear hK K
                  refine wpAny_ready (rs := [18, 20]) (by kernel_rfl) (by simp) ?_
                  refine AllReady.cons rfl (fun K hK => ?_) (AllReady.cons rfl (fun K hK => ?_) AllReady.nil)
                  · skip
                    go_simp
                    refine (HC3.out _).mono ?_
                    rintro e w' ⟨rfl, hb⟩
                    replace k0 := cell_in hb k0; replace k1 := cell_in hb k1; replace kB := below_to kB hb; clear hb
                    refine hK _ _ ?_
                    clear hK K
                    refine wpAny_ready (rs := [20]) (by kernel_rfl) (by simp) ?_
                    refine AllReady.cons rfl (fun K hK => ?_) AllReady.nil
                    go_simp
                    refine hK _ _ ?_
                    clear hK K
                    refine wpAny_ready (rs := [21]) (by kernel_rfl) (by simp) ?_
                    refine AllReady.cons rfl (fun K hK => ?_) AllReady.nil
                    go_simp
                    refine hK _ _ ?_
                    clear hK K
                    refine wpAny_ready (rs := [22]) (by kernel_rfl) (by simp) ?_
                    refine AllReady.cons rfl (fun K hK => ?_) AllReady.nil
                    go_simp
                    refine hK _ _ ?_
                    clear hK K
                    refine wpAny_ready (rs := [23]) (by kernel_rfl) (by simp) ?_
                    refine AllReady.cons rfl (fun K hK => ?_) AllReady.nil
                    go_simp
                    refine hK _ _ ?_
                    clear hK K
                    refine wpAny_ready (rs := [24]) (by kernel_rfl) (by simp) ?_
                    refine AllReady.cons rfl (fun K hK => ?_) AllReady.nil
                    go_simp
                    refine hK _ _ ?_
                    clear hK K
                    refine wpAny_ready (rs := [25]) (by kernel_rfl) (by simp) ?_
                    refine AllReady.cons rfl (fun K hK => ?_) AllReady.nil
                    go_simp
                    refine hK _ _ ?_
                    clear hK K
                    refine wpAny_ready (rs := [26]) (by kernel_rfl) (by simp) ?_
                    refine AllReady.cons rfl (fun K hK => ?_) AllReady.nil
                    go_simp
                    refine (HC4.out _).mono ?_
                    rintro e w' ⟨rfl, hb⟩
                    replace k0 := cell_in hb k0; replace k1 := cell_in hb k1; replace kB := below_to kB hb; clear hb
                    refine hK _ _ ?_
                    clear hK K
                    refine wpAny_ready (rs := [27]) (by kernel_rfl) (by simp) ?_
                    refine AllReady.cons rfl (fun K hK => ?_) AllReady.nil
                    go_simp
                    refine hK _ _ ?_
                    clear hK K
                    refine wpAny_ready (rs := [28]) (by kernel_rfl) (by simp) ?_
                    refine AllReady.cons rfl (fun K hK => ?_) AllReady.nil
                    go_simp
                    refine hK _ _ ?_
                    clear hK K
                    refine wpAny_done (by kernel_rfl) ?_ _
                    have KB := Lib.hid kB
                    clear kB k0 k1
                    go_wp2
                    go_roundw
                    case rel => exact ⟨k + 1, by omega, by go_num, HF3.out, KB.out⟩
                    case measure => simp [RowKit.intOf]; omega
                  · skip
                    go_simp
                    refine hK _ _ ?_
                    clear hK K
                    refine wpAny_ready (rs := [18]) (by kernel_rfl) (by simp) ?_
                    refine AllReady.cons rfl (fun K hK => ?_) AllReady.nil
                    go_simp
                    refine (HC3.out _).mono ?_
                    rintro e w' ⟨rfl, hb⟩
                    replace k0 := cell_in hb k0; replace k1 := cell_in hb k1; replace kB := below_to kB hb; clear hb
                    refine hK _ _ ?_
                    clear hK K
                    refine wpAny_ready (rs := [21]) (by kernel_rfl) (by simp) ?_
                    refine AllReady.cons rfl (fun K hK => ?_) AllReady.nil
                    go_simp
                    refine hK _ _ ?_
                    clear hK K
                    refine wpAny_ready (rs := [22]) (by kernel_rfl) (by simp) ?_
                    refine AllReady.cons rfl (fun K hK => ?_) AllReady.nil
                    go_simp
                    refine hK _ _ ?_
                    clear hK K
                    refine wpAny_ready (rs := [23]) (by kernel_rfl) (by simp) ?_
                    refine AllReady.cons rfl (fun K hK => ?_) AllReady.nil
                    go_simp
                    refine hK _ _ ?_
                    clear hK K
                    refine wpAny_ready (rs := [24]) (by kernel_rfl) (by simp) ?_
                    refine AllReady.cons rfl (fun K hK => ?_) AllReady.nil
                    go_simp
                    refine hK _ _ ?_
                    clear hK K
                    refine wpAny_ready (rs := [25]) (by kernel_rfl) (by simp) ?_
                    refine AllReady.cons rfl (fun K hK => ?_) AllReady.nil
                    go_simp
                    refine hK _ _ ?_
                    clear hK K
                    refine wpAny_ready (rs := [26]) (by kernel_rfl) (by simp) ?_
                    refine AllReady.cons rfl (fun K hK => ?_) AllReady.nil
                    go_simp
                    refine (HC4.out _).mono ?_
                    rintro e w' ⟨rfl, hb⟩
                    replace k0 := cell_in hb k0; replace k1 := cell_in hb k1; replace kB := below_to kB hb; clear hb
                    refine hK _ _ ?_
                    clear hK K
                    refine wpAny_ready (rs := [27]) (by kernel_rfl) (by simp) ?_
                    refine AllReady.cons rfl (fun K hK => ?_) AllReady.nil
                    go_simp
                    refine hK _ _ ?_
                    clear hK K
                    refine wpAny_ready (rs := [28]) (by kernel_rfl) (by simp) ?_
                    refine AllReady.cons rfl (fun K hK => ?_) AllReady.nil
                    go_simp
                    refine hK _ _ ?_
                    clear hK K
                    refine wpAny_done (by kernel_rfl) ?_ _
                    have KB := Lib.hid kB
                    clear kB k0 k1
                    go_wp2
                    go_roundw
                    case rel => exact ⟨k + 1, by omega, by go_num, HF3.out, KB.out⟩
                    case measure => simp [RowKit.intOf]; omega
                · skip
                  go_simp
                  refine hK _ _ ?_
                  clear hK K
                  refine wpAny_ready (rs := [17]) (by kernel_rfl) (by simp) ?_
                  refine AllReady.cons rfl (fun K hK => ?_) AllReady.nil
                  go_simp
                  refine hK _ _ ?_
                  clear hK K
                  refine wpAny_ready (rs := [18]) (by kernel_rfl) (by simp) ?_
                  refine AllReady.cons rfl (fun K hK => ?_) AllReady.nil
                  go_simp
                  refine (HC3.out _).mono ?_
                  rintro e w' ⟨rfl, hb⟩
                  replace k0 := cell_in hb k0; replace k1 := cell_in hb k1; replace kB := below_to kB hb; clear hb
                  refine hK _ _ ?_
                  clear hK K
                  refine wpAny_ready (rs := [21]) (by kernel_rfl) (by simp) ?_
                  refine AllReady.cons rfl (fun K hK => ?_) AllReady.nil
                  go_simp
                  refine hK _ _ ?_
                  clear hK K
                  refine wpAny_ready (rs := [22]) (by kernel_rfl) (by simp) ?_
                  refine AllReady.cons rfl (fun K hK => ?_) AllReady.nil
                  go_simp
                  refine hK _ _ ?_
                  clear hK K
                  refine wpAny_ready (rs := [23]) (by kernel_rfl) (by simp) ?_
                  refine AllReady.cons rfl (fun K hK => ?_) AllReady.nil
                  go_simp
                  refine hK _ _ ?_
                  clear hK K
                  refine wpAny_ready (rs := [24]) (by kernel_rfl) (by simp) ?_
                  refine AllReady.cons rfl (fun K hK => ?_) AllReady.nil
                  go_simp
                  refine hK _ _ ?_
                  clear hK K
                  refine wpAny_ready (rs := [25]) (by kernel_rfl) (by simp) ?_
                  refine AllReady.cons rfl (fun K hK => ?_) AllReady.nil
                  go_simp
                  refine hK _ _ ?_
                  clear hK K
                  refine wpAny_ready (rs := [26]) (by kernel_rfl) (by simp) ?_
                  refine AllReady.cons rfl (fun K hK => ?_) AllReady.nil
                  go_simp
                  refine (HC4.out _).mono ?_
                  rintro e w' ⟨rfl, hb⟩
                  replace k0 := cell_in hb k0; replace k1 := cell_in hb k1; replace kB := below_to kB hb; clear hb
                  refine hK _ _ ?_
                  clear hK K
                  refine wpAny_ready (rs := [27]) (by kernel_rfl) (by simp) ?_
                  refine AllReady.cons rfl (fun K hK => ?_) AllReady.nil
                  go_simp
                  refine hK _ _ ?_
                  clear hK K
                  refine wpAny_ready (rs := [28]) (by kernel_rfl) (by simp) ?_
                  refine AllReady.cons rfl (fun K hK => ?_) AllReady.nil
                  go_simp
                  refine hK _ _ ?_
                  clear hK K
                  refine wpAny_done (by kernel_rfl) ?_ _
                  have KB := Lib.hid kB
                  clear kB k0 k1
                  go_wp2
                  go_roundw
                  case rel => exact ⟨k + 1, by omega, by go_num, HF3.out, KB.out⟩
                  case measure => simp [RowKit.intOf]; omega
    · have hkl' : ¬ (k : Int) < (l.length : Int) := by omega
      have hPn : none = P := by
        have := HF.out
        rw [List.drop_eq_nil_of_le (by omega)] at this
        exact this
      subst hPn
      have q3 := cell_in HB.out Q2.out
      by_cases hbig : 4194304 < b.size
      · have hbig' : (b.size : Int) > 4194304 := by omega
        obtain ⟨er, her, -⟩ := (HI.out.below HB.out).sent 3 (by omega) (by omega)
        have her' : wr.cell? ⟨3, 0, none⟩ = some (.iface 167 (.pointer (some er))) := her
        have HER := Lib.hid her
        clear her
        go_wp2_with (go_at_call 25; (with_reducible refine Calls.mono (fault_any _ _ _ _) ?_); rintro e w5 ⟨rfl, rfl⟩)
        go_ret
        exact ⟨_, rfl, by simp only [if_pos hbig]; exact flt_new _ _ 3 (by omega) (by omega) _ _ HER.out, (HB0.out.trans (HB.out.mono HB0.out.size)).alloc (by have := HB0.out.size; have := HB.out.size; omega) _⟩
      · have hbig' : ¬ (b.size : Int) > 4194304 := by omega
        go_wp2
        go_ret
        exact ⟨_, rfl, by simp only [if_neg hbig]; rfl, HB0.out.trans (HB.out.mono HB0.out.size)⟩
end Go.Proofs.YtpjjkejppgehaaaGreatDoor

/- http.Check at a status out of its bounds, and at too many headers. -/
namespace Go.Proofs.YtpjjkejppgehaaaGreatDoor
set_option linter.unusedSimpArgs false
set_option linter.unusedVariables false
open Go.RowKit
set_option maxRecDepth 20000 in
set_option maxHeartbeats 4000000 in
/-- Of a status out of its bounds. -/
theorem check_range (st : Int) (A : Option Addr) (c : Nat) (l : HL) (b : ByteArray) (w : World) (hI : IsInv w) (h : st < 100 ∨ 999 < st) :
    Calls Tryz.prog 10 #[.agg #[.int .i64 st, .slice A l.length c, .string b]] w fun e w' => ∃ v, e = .returned v ∧ FltIs w' v (checkP st l b) ∧ Below w.heap.size w w' := by
  rw [checkP, if_pos h]
  obtain ⟨er, her, -⟩ := (hI.below ((Below.refl w.heap.size w).alloc (Nat.le_refl _) (.cells #[.int .i64 st, .slice A l.length c, .string b] 24))).sent 4 (by omega) (by omega)
  have her' : (w.alloc (.cells #[.int .i64 st, .slice A l.length c, .string b] 24)).cell? ⟨0, 0, none⟩ = some (.iface 167 (.pointer (some er))) := her
  have HER := Lib.hid her
  have HI := Lib.hid hI
  clear her hI
  rcases (by omega : st < 100 ∨ (¬ st < 100 ∧ st > 999)) with h1 | ⟨h1, h2⟩
  · clear h
    go_enter Tryz.func10, Tryz.ntmps10
    go_wp2_with (go_at_call 25; (with_reducible refine Calls.mono (fault_any _ _ _ _) ?_); rintro e w5 ⟨rfl, rfl⟩)
    go_ret
    exact ⟨_, rfl, by have F := flt_new _ 0 4 (by omega) (by omega) _ _ HER.out; rw [World.size_alloc] at F; exact F, ((Below.refl w.heap.size w).alloc (Nat.le_refl _) _).alloc (by simp) _⟩
  · clear h
    go_enter Tryz.func10, Tryz.ntmps10
    go_wp2_with (go_at_call 25; (with_reducible refine Calls.mono (fault_any _ _ _ _) ?_); rintro e w5 ⟨rfl, rfl⟩)
    go_ret
    exact ⟨_, rfl, by have F := flt_new _ 0 4 (by omega) (by omega) _ _ HER.out; rw [World.size_alloc] at F; exact F, ((Below.refl w.heap.size w).alloc (Nat.le_refl _) _).alloc (by simp) _⟩
set_option maxRecDepth 20000 in
set_option maxHeartbeats 4000000 in
/-- Of too many headers. -/
theorem check_full (st : Int) (A : Option Addr) (c : Nat) (l : HL) (b : ByteArray) (w : World) (hI : IsInv w) (h1 : 100 ≤ st) (h2 : st ≤ 999) (h3 : 64 ≤ l.length) :
    Calls Tryz.prog 10 #[.agg #[.int .i64 st, .slice A l.length c, .string b]] w fun e w' => ∃ v, e = .returned v ∧ FltIs w' v (checkP st l b) ∧ Below w.heap.size w w' := by
  rw [checkP, if_neg (by omega), if_pos h3]
  obtain ⟨er, her, -⟩ := (hI.below ((Below.refl w.heap.size w).alloc (Nat.le_refl _) (.cells #[.int .i64 st, .slice A l.length c, .string b] 24))).sent 18 (by omega) (by omega)
  have her' : (w.alloc (.cells #[.int .i64 st, .slice A l.length c, .string b] 24)).cell? ⟨1, 0, none⟩ = some (.iface 167 (.pointer (some er))) := her
  have HER := Lib.hid her
  have HI := Lib.hid hI
  clear her hI
  have n1 : ¬ st < 100 := by omega
  have n2 : ¬ st > 999 := by omega
  have n3 : (l.length : Int) ≥ 64 := by omega
  clear h1 h2 h3
  go_enter Tryz.func10, Tryz.ntmps10
  go_wp2_with (go_at_call 25; (with_reducible refine Calls.mono (fault_any _ _ _ _) ?_); rintro e w5 ⟨rfl, rfl⟩)
  go_ret
  exact ⟨_, rfl, by have F := flt_new _ 0 18 (by omega) (by omega) _ _ HER.out; rw [World.size_alloc] at F; exact F, ((Below.refl w.heap.size w).alloc (Nat.le_refl _) _).alloc (by simp) _⟩
set_option maxRecDepth 20000 in
set_option maxHeartbeats 4000000 in
/-- Of no headers. -/
theorem check_nil (st : Int) (A : Option Addr) (c : Nat) (b : ByteArray) (w : World) (hI : IsInv w) (h1 : 100 ≤ st) (h2 : st ≤ 999) (hb : b.size ≤ 9223372036854775807) :
    Calls Tryz.prog 10 #[.agg #[.int .i64 st, .slice A 0 c, .string b]] w fun e w' => ∃ v, e = .returned v ∧ FltIs w' v (checkP st [] b) ∧ Below w.heap.size w w' := by
  rw [checkP, if_neg (by omega), if_neg (by simp)]
  have hb0 : Below w.heap.size w (w.alloc (.cells #[.int .i64 st, .slice A 0 c, .string b] 24)) := (Below.refl _ _).alloc (Nat.le_refl _) _
  obtain ⟨er, her, -⟩ := (hI.below hb0).sent 3 (by omega) (by omega)
  have her' : (w.alloc (.cells #[.int .i64 st, .slice A 0 c, .string b] 24)).cell? ⟨3, 0, none⟩ = some (.iface 167 (.pointer (some er))) := her
  have HER := Lib.hid her
  have HI := Lib.hid hI
  have HB := Lib.hid hb0
  clear her hI hb0
  have n1 : ¬ st < 100 := by omega
  have n2 : ¬ st > 999 := by omega
  clear h1 h2
  go_enter Tryz.func10, Tryz.ntmps10
  go_wp2
  go_loopw [24] (fun i wr => i = .int .i64 0 ∧ wr = w.alloc (.cells #[.int .i64 st, .slice A 0 c, .string b] 24)) (fun _ _ => 0)
  case atStart => exact ⟨rfl, rfl⟩
  case round =>
    obtain ⟨rfl, rfl⟩ := hrel
    by_cases hbig : 4194304 < b.size
    · have hbig' : (b.size : Int) > 4194304 := by omega
      go_wp2_with (go_at_call 25; (with_reducible refine Calls.mono (fault_any _ _ _ _) ?_); rintro e w5 ⟨rfl, rfl⟩)
      go_ret
      exact ⟨_, rfl, by simp only [firstBad, if_pos hbig]; have F := flt_new _ 0 3 (by omega) (by omega) _ _ HER.out; rw [World.size_alloc] at F; exact F, HB.out.alloc (by simp) _⟩
    · have hbig' : ¬ (b.size : Int) > 4194304 := by omega
      go_wp2
      go_ret
      exact ⟨_, rfl, by simp only [firstBad, if_neg hbig]; rfl, HB.out⟩
end Go.Proofs.YtpjjkejppgehaaaGreatDoor
