import Derived.Test.YthdmaajmgbhbmaaDoorHp
import Derived.RegionDies
namespace Go.Proofs.YthdmaajmgbhbmaaDoor
set_option linter.unusedSimpArgs false
set_option linter.unusedVariables false
open Go.RowKit
theorem fault_any (a : Int) (t : TypeId) (x : Value) (w : World) :
    Calls Tryd.prog 13 #[.int .i64 a, .iface t x] w fun e w' => e = .returned (.iface 42 (.pointer (some ⟨w.heap.size, 0, none⟩))) ∧ w' = w.alloc (.cells #[.int .i64 a, .iface t x] 57) := by
  go_enter Tryd.func13, Tryd.ntmps13
  go_wp2
  go_ret
  exact ⟨rfl, rfl⟩
theorem cell_at1 {w x : World} {v : Value} (hb : Below w.heap.size w x) (h : w.cell? ⟨1, 0, none⟩ = some v) : x.cell? ⟨1, 0, none⟩ = some v := cell_in hb h
/-- The fault is caught: the request is naught, the error is the fault. -/
theorem PX.caught {w : World} {d M : Nat} {s : ByteArray} {k : Nat} {m t : ByteArray} {mi : Int} {v : Value} {n : Nat} {xs : List Value} {x : World} (h : PX w d M s k m t mi v n xs x) (a : Int) (ti : TypeId) (vi : Value) (hg : w.cell? ⟨1, 0, none⟩ = some (.iface ti vi)) (q : Nat) (W : World)
    (hW : W = ((((((x.drewN q).alloc (.cells #[.int .i64 a, .iface ti vi] 57)).setCell ⟨w.heap.size, 0, none⟩ (.string ⟨#[]⟩)).setCell ⟨w.heap.size, 1, none⟩ (.string ⟨#[]⟩)).setCell ⟨w.heap.size, 2, none⟩ (.int .i64 0)).setCell ⟨w.heap.size, 3, none⟩ (.slice none 0 0)).setCell ⟨w.heap.size + 1, 0, none⟩ (.iface 42 (.pointer (some ⟨x.heap.size, 0, none⟩)))) :
    (W.cell? ⟨w.heap.size, 0, none⟩ = some (.string ⟨#[]⟩) ∧ W.cell? ⟨w.heap.size, 1, none⟩ = some (.string ⟨#[]⟩) ∧ W.cell? ⟨w.heap.size, 2, none⟩ = some (.int .i64 0) ∧ W.cell? ⟨w.heap.size, 3, none⟩ = some (.slice none 0 0) ∧ W.cell? ⟨w.heap.size + 1, 0, none⟩ = some (.iface 42 (.pointer (some ⟨x.heap.size, 0, none⟩)))) ∧
      FltIs W (.iface 42 (.pointer (some ⟨x.heap.size, 0, none⟩))) (some (a, 18)) ∧ Below w.heap.size w W := by
  subst hW
  have o1 := h.o1; have o2 := h.o2; have o3 := h.o3
  have hl1 : 1 < w.heap.size := World.block_lt_of_cell? w _ hg
  have hb0 : Below x.heap.size x ((x.drewN q).alloc (.cells #[.int .i64 a, .iface ti vi] 57)) := (Below.drewN (Below.refl _ _) q).alloc (Nat.le_refl _) _
  have h0 := h.to hb0
  have hF : ((x.drewN q).alloc (.cells #[.int .i64 a, .iface ti vi] 57)).heap[x.heap.size]? = some (.cells #[.int .i64 a, .iface ti vi] 57 (0, 0)) := heap_alloc_new (x.drewN q) _
  generalize (x.drewN q).alloc (.cells #[.int .i64 a, .iface ti vi] 57) = y at *
  have e0 := blk_set (blk_set (blk_set (blk_set h0.r 0 (.string ⟨#[]⟩)) 1 (.string ⟨#[]⟩)) 2 (.int .i64 0)) 3 (.slice none 0 0)
  have hne : ∀ j, j ≠ w.heap.size → ((((y.setCell ⟨w.heap.size, 0, none⟩ (.string ⟨#[]⟩)).setCell ⟨w.heap.size, 1, none⟩ (.string ⟨#[]⟩)).setCell ⟨w.heap.size, 2, none⟩ (.int .i64 0)).setCell ⟨w.heap.size, 3, none⟩ (.slice none 0 0)).heap[j]? = y.heap[j]? := fun j hj =>
    (Below.heap_setCell _ _ _ _ hj).trans ((Below.heap_setCell _ _ _ _ hj).trans ((Below.heap_setCell _ _ _ _ hj).trans (Below.heap_setCell _ _ _ _ hj)))
  have hB : Below w.heap.size w ((((y.setCell ⟨w.heap.size, 0, none⟩ (.string ⟨#[]⟩)).setCell ⟨w.heap.size, 1, none⟩ (.string ⟨#[]⟩)).setCell ⟨w.heap.size, 2, none⟩ (.int .i64 0)).setCell ⟨w.heap.size, 3, none⟩ (.slice none 0 0)) :=
    (((h0.bel.setCell (Nat.le_refl _) _).setCell (Nat.le_refl _) _).setCell (Nat.le_refl _) _).setCell (Nat.le_refl _) _
  have e1 := (hne (w.heap.size + 1) (by omega)).trans h0.e
  have eF := (hne x.heap.size (by omega)).trans hF
  generalize (((y.setCell ⟨w.heap.size, 0, none⟩ (.string ⟨#[]⟩)).setCell ⟨w.heap.size, 1, none⟩ (.string ⟨#[]⟩)).setCell ⟨w.heap.size, 2, none⟩ (.int .i64 0)).setCell ⟨w.heap.size, 3, none⟩ (.slice none 0 0) = z at *
  have hne2 : ∀ (u : Value) j, j ≠ w.heap.size + 1 → (z.setCell ⟨w.heap.size + 1, 0, none⟩ u).heap[j]? = z.heap[j]? := fun u j hj => Below.heap_setCell _ _ _ _ hj
  have f0 := (hne2 (.iface 42 (.pointer (some ⟨x.heap.size, 0, none⟩))) w.heap.size (by omega)).trans e0
  have f1 := blk_set e1 0 (.iface 42 (.pointer (some ⟨x.heap.size, 0, none⟩)))
  have fB := hB.setCell (p := ⟨w.heap.size + 1, 0, none⟩) (show w.heap.size ≤ w.heap.size + 1 by omega) (.iface 42 (.pointer (some ⟨x.heap.size, 0, none⟩)))
  exact ⟨⟨(blk_cell f0 0).trans rfl, (blk_cell f0 1).trans rfl, (blk_cell f0 2).trans rfl, (blk_cell f0 3).trans rfl, (blk_cell f1 0).trans rfl⟩, ⟨by omega, by omega, x.heap.size, _, rfl, (hne2 _ x.heap.size (by omega)).trans eF, cell_in fB hg⟩, fB⟩
set_option maxRecDepth 20000 in
set_option maxHeartbeats 16000000 in
theorem parse_full (s : ByteArray) (m t : Nat) (mi : Int) (l : List (Nat × Nat × Nat)) (ke : Nat) (hs : s.size ≤ 65536) (H : ReqAt s m t mi) (hl : l.length = 64) (HD : Hdrs s (t + 11) l ke) (he1 : ∀ h : ke < s.size, ((s[ke].toNat : Int) != 13) = true) (he3 : ke < s.size) (w : World) (ti : TypeId) (vi : Value) (hg : w.cell? ⟨1, 0, none⟩ = some (.iface ti vi)) :
    Calls Tryd.prog 11 #[.string s] w fun e w' => ∃ v, e = .returned (.tuple #[.agg #[.string ⟨#[]⟩, .string ⟨#[]⟩, .int .i64 0, .slice none 0 0], v]) ∧ FltIs w' v (some ((ke : Int), 18)) ∧ Below w.heap.size w w' := by
  have hl : l.length ≤ 64 := by omega
  have hl2 : 64 ≤ l.length := by omega
  have HGG := Lib.hid hg
  clear hg
  have hmf : ∀ (fn : Fn) (first cap : Array Value) (w : World), (Instr.makeFunc fn first cap).run Tryd.prog w = .ok (.func fn first cap) w := fun _ _ _ _ => rfl
  have hx : ¬ (65536 : Int) < (s.size : Int) := by omega
  have HS : Hid (∀ x, Calls Tryd.prog 15 #[] x fun e w' => e = .returned (.agg KD) ∧ Below x.heap.size x w') := fun x => sorts_any x
  have HN : Hid (∀ w1, Below (World.alloc (World.alloc w (.cells #[.string ⟨#[]⟩, .string ⟨#[]⟩, .int .i64 0, .slice none 0 0] 32)) (.cells #[.nilIface] 34)).heap.size (World.alloc (World.alloc w (.cells #[.string ⟨#[]⟩, .string ⟨#[]⟩, .int .i64 0, .slice none 0 0] 32)) (.cells #[.nilIface] 34)) w1 → PX w w1.heap.size (w1.heap.size + 1) s 0 ⟨#[]⟩ ⟨#[]⟩ 0 (.slice none 0 0) 0 [] (w1.alloc (.cells (Array.foldl (fun cs x => cs.setIfInBounds (2 + x.snd) x.fst) (Tryd.zeroCells49.setIfInBounds 0 (Value.string s)) KD.zipIdx 0 256) 49))) := fun w1 h => by
    have := PX.new s w w1 h
    rwa [KD_size] at this
  have hks := KD_size
  have h1 := H.h1; have h2 := H.h2; have h3 := H.h3; have h4 := H.h4
  obtain ⟨i0, hi0, hz0, hz1, hz2⟩ := info_parts info25
  generalize KD = K at *
  have HH := Lib.hid H
  have HHD := Lib.hid HD
  have HE1 := Lib.hid he1
  have HE3 := Lib.hid he3
  clear H HD he1 he3
  go_enter_defers Tryd.func11, Tryd.ntmps11
  go_upto_region 5 with (go_at_call 15; (with_reducible refine Calls.mono (HS.out _) ?_); rintro e w1 ⟨rfl, hb⟩; have nP := HN.out w1 hb; clear hb)
  clear HS HN hks
  generalize World.alloc w1 _ = x0 at nP ⊢
  generalize w1.heap.size = d at nP ⊢
  generalize d + 1 = M at nP
  obtain ⟨c0, c1, z1, r0, r1, r2, r3, y0, y1, y2, y3⟩ := nP.cells
  have HSa : Hid (∀ x, PX w d M s 0 ⟨#[]⟩ ⟨#[]⟩ 0 (.slice none 0 0) 0 [] x → Calls Tryd.prog 16 #[.pointer (some ⟨d, 0, none⟩), .int .u8 8, .int .i64 16] x fun e w' => e = .returned (.string (s.extract 0 m)) ∧ PX w d M s m ⟨#[]⟩ ⟨#[]⟩ 0 (.slice none 0 0) 0 [] w') := fun x h =>
    Calls.mono (some_at d s x 0 m 16 8 (by omega) (by omega) (by omega) h1 (by omega) (by omega) HH.out.meth (Or.inr ⟨by omega, fun g => by rw [HH.out.sp g]; decide⟩) x ⟨But.refl _ _, h.rd⟩) fun e w' ⟨g1, g2, g3⟩ => ⟨g1, h.at_ g2 g3⟩
  have HWa : Hid (∀ x (M' : ByteArray), PX w d M s m M' ⟨#[]⟩ 0 (.slice none 0 0) 0 [] x → Calls Tryd.prog 17 #[.pointer (some ⟨d, 0, none⟩), .string ⟨#[32]⟩] x fun e w' => e = .returned (.tuple #[]) ∧ PX w d M s (m + 1) M' ⟨#[]⟩ 0 (.slice none 0 0) 0 [] w') := fun x M' h =>
    Calls.mono (want_at d s ⟨#[32]⟩ x m (by omega) (by decide) (by show m + 1 ≤ s.size; omega) (fun i hi g1 g2 => by
      have hi0 : i = 0 := by have : i < 1 := hi
                             omega
      subst hi0; exact HH.out.sp (by omega)) x ⟨But.refl _ _, h.rd⟩) fun e w' ⟨g1, g2, g3⟩ => ⟨g1, h.at_ g2 g3⟩
  have HSb : Hid (∀ x (M' : ByteArray), PX w d M s (m + 1) M' ⟨#[]⟩ 0 (.slice none 0 0) 0 [] x → Calls Tryd.prog 16 #[.pointer (some ⟨d, 0, none⟩), .int .u8 4, .int .i64 s.size] x fun e w' => e = .returned (.string (s.extract (m + 1) t)) ∧ PX w d M s t M' ⟨#[]⟩ 0 (.slice none 0 0) 0 [] w') := fun x M' h =>
    Calls.mono (some_at d s x (m + 1) t s.size 4 (by omega) (by omega) (by omega) h3 (by omega) (by omega) HH.out.targ (Or.inr ⟨by omega, fun g => by
      have h0 := HH.out.vers 0 (by decide) (by omega) (by decide)
      have e : s[t + 0] = s[t] := rfl
      rw [← e, h0]; decide⟩) x ⟨But.refl _ _, h.rd⟩) fun e w' ⟨g1, g2, g3⟩ => ⟨g1, h.at_ g2 g3⟩
  have HWb : Hid (∀ x (M' T' : ByteArray), PX w d M s t M' T' 0 (.slice none 0 0) 0 [] x → Calls Tryd.prog 17 #[.pointer (some ⟨d, 0, none⟩), .string ⟨#[32, 72, 84, 84, 80, 47, 49, 46]⟩] x fun e w' => e = .returned (.tuple #[]) ∧ PX w d M s (t + 8) M' T' 0 (.slice none 0 0) 0 [] w') := fun x M' T' h =>
    Calls.mono (want_at d s httpB x t (by omega) (by decide) (by show t + 8 ≤ s.size; omega) HH.out.vers x ⟨But.refl _ _, h.rd⟩) fun e w' ⟨g1, g2, g3⟩ => ⟨g1, h.at_ g2 g3⟩
  have HPk : Hid (∀ (k : Nat) (hk : k < s.size) (c : Int) (hc : (s[k].toNat : Int) = c) x (M' T' : ByteArray) (mi' : Int) (v : Value) (n : Nat) (xs : List Value), PX w d M s k M' T' mi' v n xs x → Calls Tryd.prog 18 #[.pointer (some ⟨d, 0, none⟩)] x fun e w' => e = .returned (.int .u8 c) ∧ PX w d M s k M' T' mi' v n xs w') := fun k hk c hc x M' T' mi' v n xs h =>
    Calls.mono (peek_at d s x k hk c hc x ⟨But.refl _ _, h.rd⟩) fun e w' ⟨g1, g2, g3⟩ => ⟨g1, h.at_ g2 g3⟩
  have HWc : Hid (∀ h8 : t + 8 < s.size, s[t + 8].toNat = 48 → ∀ x (M' T' : ByteArray), PX w d M s (t + 8) M' T' 0 (.slice none 0 0) 0 [] x → Calls Tryd.prog 17 #[.pointer (some ⟨d, 0, none⟩), .string ⟨#[48]⟩] x fun e w' => e = .returned (.tuple #[]) ∧ PX w d M s (t + 9) M' T' 0 (.slice none 0 0) 0 [] w') := fun h8 h48 x M' T' h =>
    Calls.mono (want_at d s ⟨#[48]⟩ x (t + 8) (by omega) (by decide) (by show t + 8 + 1 ≤ s.size; omega) (fun i hi g1 g2 => by
      have hi0 : i = 0 := by have : i < 1 := hi
                             omega
      subst hi0; exact UInt8.toNat_inj.1 h48) x ⟨But.refl _ _, h.rd⟩) fun e w' ⟨g1, g2, g3⟩ => ⟨g1, h.at_ g2 g3⟩
  have HWd : Hid (∀ x (M' T' : ByteArray) (mi' : Int), PX w d M s (t + 9) M' T' mi' (.slice none 0 0) 0 [] x → Calls Tryd.prog 17 #[.pointer (some ⟨d, 0, none⟩), .string ⟨#[13, 10]⟩] x fun e w' => e = .returned (.tuple #[]) ∧ PX w d M s (t + 11) M' T' mi' (.slice none 0 0) 0 [] w') := fun x M' T' mi' h =>
    Calls.mono (want_at d s ⟨#[13, 10]⟩ x (t + 9) (by omega) (by decide) (by show t + 9 + 2 ≤ s.size; omega) (fun i hi g1 g2 => by
      have hi2 : i < 2 := hi
      rcases (by omega : i = 0 ∨ i = 1) with rfl | rfl
      · exact HH.out.cr (by omega)
      · exact HH.out.lf (by omega)) x ⟨But.refl _ _, h.rd⟩) fun e w' ⟨g1, g2, g3⟩ => ⟨g1, h.at_ g2 g3⟩
  have e8 : IntKind.i64.wrap (((t + 8 : Nat) : Int) + 1) = ((t + 9 : Nat) : Int) := by rw [IntWalk.i64_in _ (by omega)]; omega
  have hmin := HH.out.minor (by omega)
  rcases hmin with ⟨hc8, hmi⟩ | ⟨hc8, hmi⟩
  · subst hmi
    go_wp2_with (first
      | (go_at_call 17; (with_reducible refine Calls.mono (HWd.out _ _ _ _ (by assumption)) ?_); rintro e w' ⟨rfl, nP⟩; obtain ⟨c0, c1, z1, r0, r1, r2, r3, y0, y1, y2, y3⟩ := nP.cells)
      | (go_at_call 18; (with_reducible refine Calls.mono (HPk.out (t + 8) (by omega) _ hc8 _ _ _ _ _ _ _ (by assumption)) ?_); rintro e w' ⟨rfl, nP⟩; have nQ := nP.put (mi' := 1) 2 (.int .i64 1) rfl; obtain ⟨c0, c1, z1, r0, r1, r2, r3, y0, y1, y2, y3⟩ := nP.cells; obtain ⟨q0, q1, qz, _, _, _, _, _, _, _, _⟩ := nQ.cells; have nR := nQ.step ((t : Int) + 8 + 1) (t + 9) (by omega))
      | (go_at_call 17; (with_reducible refine Calls.mono (HWb.out _ _ _ (by assumption)) ?_); rintro e w' ⟨rfl, nP⟩; obtain ⟨c0, c1, z1, r0, r1, r2, r3, y0, y1, y2, y3⟩ := nP.cells)
      | (go_at_call 16; (with_reducible refine Calls.mono (HSb.out _ _ (by assumption)) ?_); rintro e w' ⟨rfl, nP⟩; have nQ := nP.put (t' := s.extract (m + 1) t) 1 (.string (s.extract (m + 1) t)) rfl; obtain ⟨c0, c1, z1, r0, r1, r2, r3, y0, y1, y2, y3⟩ := nP.cells)
      | (go_at_call 17; (with_reducible refine Calls.mono (HWa.out _ _ (by assumption)) ?_); rintro e w' ⟨rfl, nP⟩; obtain ⟨c0, c1, z1, r0, r1, r2, r3, y0, y1, y2, y3⟩ := nP.cells)
      | (go_at_call 16; (with_reducible refine Calls.mono (HSa.out _ (by assumption)) ?_); rintro e w' ⟨rfl, nP⟩; have nQ := nP.put (m' := s.extract 0 m) 0 (.string (s.extract 0 m)) rfl; obtain ⟨c0, c1, z1, r0, r1, r2, r3, y0, y1, y2, y3⟩ := nP.cells))
    generalize hM : s.extract 0 m = MM at *
    generalize hT : s.extract (m + 1) t = TT at *
    go_loopg [] l.length (fun g wr => ∃ (r : List (Nat × Nat × Nat)) (k n : Nat) (v : Value) (xs : List Value), g = r.length ∧ Hdrs s k r ke ∧ n + r.length = l.length ∧ xs ++ hv s k r = hv s (t + 11) l ∧ PX w d M s k MM TT 1 v n xs wr)
    case atStart => exact ⟨l, t + 11, 0, _, [], rfl, HHD.out, by omega, rfl, nP⟩
    case round =>
      clear nP c0 c1 z1 r0 r1 r2 r3 y0 y1 y2 y3
      obtain ⟨r, k, n, v, xs, hg, hD, hn, hxs, nP⟩ := hrel
      cases r with
      | nil =>
        obtain rfl : k = ke := hD
        have hks : k < s.size := HE3.out
        have h13 := HE1.out hks
        have hn2 : n + 0 = l.length := hn
        have hn64 : ((n : Int) == 64) = true := by rw [beq_iff_eq]; omega
        have hpos : 0 < n := by omega
        obtain ⟨gv, cap, rfl, -, -⟩ := nP.own.form hpos
        clear hn hn2 hxs
        go_wp2_with (go_at_call 18; (with_reducible refine Calls.mono (HPk.out k hks _ rfl _ _ _ _ _ _ _ (by assumption)) ?_); rintro e w' ⟨rfl, nP⟩; have nPP := Lib.hid nP; have hge := cell_at1 nP.bel HGG.out; obtain ⟨c0, c1, z1, r0, r1, r2, r3, y0, y1, y2, y3⟩ := nP.cells; clear nP)
        try clear HSa
        try clear HWa
        try clear HSb
        try clear HWb
        try clear HWc
        try clear HWd
        try clear HPk
        try clear nQ
        try clear nR
        try clear q0
        try clear q1
        try clear qz
        try clear nP
        try clear hc8
        try clear e8
        try clear hks
        try clear h13
        try clear hn64
        try clear hpos
        try clear hx
        try clear hl
        try clear hl2
        try clear h1
        try clear h2
        try clear h3
        try clear h4
        try clear hmf
        refine wp_region_any (by kernel_rfl) ?_
        try (change wpAny _ _ _ _ _ _ _ (World.drew _))
        refine wpAny_ready (rs := [0, 4]) (by kernel_rfl) (by simp) ?_
        refine AllReady.cons rfl (fun K hK => ?_) (AllReady.cons rfl (fun K hK => ?_) AllReady.nil)
        · go_simp
          refine hK _ _ ?_
          clear hK K
          refine wpAny_ready (rs := [1, 4]) (by kernel_rfl) (by simp) ?_
          refine AllReady.cons rfl (fun K hK => ?_) (AllReady.cons rfl (fun K hK => ?_) AllReady.nil)
          · go_simp
            refine hK _ _ ?_
            clear hK K
            refine wpAny_ready (rs := [2, 4]) (by kernel_rfl) (by simp) ?_
            refine AllReady.cons rfl (fun K hK => ?_) (AllReady.cons rfl (fun K hK => ?_) AllReady.nil)
            · go_simp
              refine hK _ _ ?_
              clear hK K
              refine wpAny_ready (rs := [3, 4]) (by kernel_rfl) (by simp) ?_
              refine AllReady.cons rfl (fun K hK => ?_) (AllReady.cons rfl (fun K hK => ?_) AllReady.nil)
              · go_simp
                refine hK _ _ ?_
                clear hK K
                refine wpAny_ready (rs := [4]) (by kernel_rfl) (by simp) ?_
                refine AllReady.cons rfl (fun K hK => ?_) AllReady.nil
                go_simp
                refine hK _ _ ?_
                clear hK K
                refine wpAny_ready (rs := [5]) (by kernel_rfl) (by simp) ?_
                refine AllReady.cons rfl (fun K hK => ?_) AllReady.nil
                go_simp
                refine (fault_any _ _ _ _).mono ?_
                rintro e w2 ⟨rfl, rfl⟩
                refine hK _ _ ?_
                clear hK K
                refine wpAny_ready (rs := [6]) (by kernel_rfl) (by simp) ?_
                refine AllReady.cons rfl (fun K hK => ?_) AllReady.nil
                go_simp
                clear hK K
                have hP0 := nPP.out.to ((Below.drewN (Below.refl w'.heap.size w') 1).alloc (Nat.le_refl _) (.cells #[.int .i64 k, .iface ti vi] 57))
                have o1 := hP0.o1
                refine leaves_cons (f := 14) (args := #[.pointer (some ⟨w.heap.size, 0, none⟩), .pointer (some ⟨w.heap.size + 1, 0, none⟩)]) (by simp) (by simp [go_sem]) ?_
                refine (catch_fault w.heap.size (w.heap.size + 1) _ _ _ _ _ _ [] _ hP0.r hP0.e (by omega)).mono ?_
                rintro e u' w'' ⟨rfl, rfl, hw⟩
                obtain ⟨⟨f0, f1, f2, f3, f4⟩, hF, hB⟩ := nPP.out.caught k ti vi HGG.out 1 w'' hw
                clear hw
                have HF := Lib.hid hF
                have HB := Lib.hid hB
                clear hF hB
                simp [Leaves, settle, results, Tryd.results11, go_sem, f0, f1, f2, f3, f4]
                exact ⟨HF.out, HB.out⟩
              · go_simp
                refine hK _ _ ?_
                clear hK K
                refine wpAny_ready (rs := [3]) (by kernel_rfl) (by simp) ?_
                refine AllReady.cons rfl (fun K hK => ?_) AllReady.nil
                go_simp
                refine hK _ _ ?_
                clear hK K
                refine wpAny_ready (rs := [5]) (by kernel_rfl) (by simp) ?_
                refine AllReady.cons rfl (fun K hK => ?_) AllReady.nil
                go_simp
                refine (fault_any _ _ _ _).mono ?_
                rintro e w2 ⟨rfl, rfl⟩
                refine hK _ _ ?_
                clear hK K
                refine wpAny_ready (rs := [6]) (by kernel_rfl) (by simp) ?_
                refine AllReady.cons rfl (fun K hK => ?_) AllReady.nil
                go_simp
                clear hK K
                have hP0 := nPP.out.to ((Below.drewN (Below.refl w'.heap.size w') 1).alloc (Nat.le_refl _) (.cells #[.int .i64 k, .iface ti vi] 57))
                have o1 := hP0.o1
                refine leaves_cons (f := 14) (args := #[.pointer (some ⟨w.heap.size, 0, none⟩), .pointer (some ⟨w.heap.size + 1, 0, none⟩)]) (by simp) (by simp [go_sem]) ?_
                refine (catch_fault w.heap.size (w.heap.size + 1) _ _ _ _ _ _ [] _ hP0.r hP0.e (by omega)).mono ?_
                rintro e u' w'' ⟨rfl, rfl, hw⟩
                obtain ⟨⟨f0, f1, f2, f3, f4⟩, hF, hB⟩ := nPP.out.caught k ti vi HGG.out 1 w'' hw
                clear hw
                have HF := Lib.hid hF
                have HB := Lib.hid hB
                clear hF hB
                simp [Leaves, settle, results, Tryd.results11, go_sem, f0, f1, f2, f3, f4]
                exact ⟨HF.out, HB.out⟩
            · go_simp
              refine hK _ _ ?_
              clear hK K
              refine wpAny_ready (rs := [2]) (by kernel_rfl) (by simp) ?_
              refine AllReady.cons rfl (fun K hK => ?_) AllReady.nil
              go_simp
              refine hK _ _ ?_
              clear hK K
              refine wpAny_ready (rs := [3]) (by kernel_rfl) (by simp) ?_
              refine AllReady.cons rfl (fun K hK => ?_) AllReady.nil
              go_simp
              refine hK _ _ ?_
              clear hK K
              refine wpAny_ready (rs := [5]) (by kernel_rfl) (by simp) ?_
              refine AllReady.cons rfl (fun K hK => ?_) AllReady.nil
              go_simp
              refine (fault_any _ _ _ _).mono ?_
              rintro e w2 ⟨rfl, rfl⟩
              refine hK _ _ ?_
              clear hK K
              refine wpAny_ready (rs := [6]) (by kernel_rfl) (by simp) ?_
              refine AllReady.cons rfl (fun K hK => ?_) AllReady.nil
              go_simp
              clear hK K
              have hP0 := nPP.out.to ((Below.drewN (Below.refl w'.heap.size w') 1).alloc (Nat.le_refl _) (.cells #[.int .i64 k, .iface ti vi] 57))
              have o1 := hP0.o1
              refine leaves_cons (f := 14) (args := #[.pointer (some ⟨w.heap.size, 0, none⟩), .pointer (some ⟨w.heap.size + 1, 0, none⟩)]) (by simp) (by simp [go_sem]) ?_
              refine (catch_fault w.heap.size (w.heap.size + 1) _ _ _ _ _ _ [] _ hP0.r hP0.e (by omega)).mono ?_
              rintro e u' w'' ⟨rfl, rfl, hw⟩
              obtain ⟨⟨f0, f1, f2, f3, f4⟩, hF, hB⟩ := nPP.out.caught k ti vi HGG.out 1 w'' hw
              clear hw
              have HF := Lib.hid hF
              have HB := Lib.hid hB
              clear hF hB
              simp [Leaves, settle, results, Tryd.results11, go_sem, f0, f1, f2, f3, f4]
              exact ⟨HF.out, HB.out⟩
          · go_simp
            refine hK _ _ ?_
            clear hK K
            refine wpAny_ready (rs := [1]) (by kernel_rfl) (by simp) ?_
            refine AllReady.cons rfl (fun K hK => ?_) AllReady.nil
            go_simp
            refine hK _ _ ?_
            clear hK K
            refine wpAny_ready (rs := [2]) (by kernel_rfl) (by simp) ?_
            refine AllReady.cons rfl (fun K hK => ?_) AllReady.nil
            go_simp
            refine hK _ _ ?_
            clear hK K
            refine wpAny_ready (rs := [3]) (by kernel_rfl) (by simp) ?_
            refine AllReady.cons rfl (fun K hK => ?_) AllReady.nil
            go_simp
            refine hK _ _ ?_
            clear hK K
            refine wpAny_ready (rs := [5]) (by kernel_rfl) (by simp) ?_
            refine AllReady.cons rfl (fun K hK => ?_) AllReady.nil
            go_simp
            refine (fault_any _ _ _ _).mono ?_
            rintro e w2 ⟨rfl, rfl⟩
            refine hK _ _ ?_
            clear hK K
            refine wpAny_ready (rs := [6]) (by kernel_rfl) (by simp) ?_
            refine AllReady.cons rfl (fun K hK => ?_) AllReady.nil
            go_simp
            clear hK K
            have hP0 := nPP.out.to ((Below.drewN (Below.refl w'.heap.size w') 1).alloc (Nat.le_refl _) (.cells #[.int .i64 k, .iface ti vi] 57))
            have o1 := hP0.o1
            refine leaves_cons (f := 14) (args := #[.pointer (some ⟨w.heap.size, 0, none⟩), .pointer (some ⟨w.heap.size + 1, 0, none⟩)]) (by simp) (by simp [go_sem]) ?_
            refine (catch_fault w.heap.size (w.heap.size + 1) _ _ _ _ _ _ [] _ hP0.r hP0.e (by omega)).mono ?_
            rintro e u' w'' ⟨rfl, rfl, hw⟩
            obtain ⟨⟨f0, f1, f2, f3, f4⟩, hF, hB⟩ := nPP.out.caught k ti vi HGG.out 1 w'' hw
            clear hw
            have HF := Lib.hid hF
            have HB := Lib.hid hB
            clear hF hB
            simp [Leaves, settle, results, Tryd.results11, go_sem, f0, f1, f2, f3, f4]
            exact ⟨HF.out, HB.out⟩
        · go_simp
          refine hK _ _ ?_
          clear hK K
          refine wpAny_ready (rs := [0]) (by kernel_rfl) (by simp) ?_
          refine AllReady.cons rfl (fun K hK => ?_) AllReady.nil
          go_simp
          refine hK _ _ ?_
          clear hK K
          refine wpAny_ready (rs := [1]) (by kernel_rfl) (by simp) ?_
          refine AllReady.cons rfl (fun K hK => ?_) AllReady.nil
          go_simp
          refine hK _ _ ?_
          clear hK K
          refine wpAny_ready (rs := [2]) (by kernel_rfl) (by simp) ?_
          refine AllReady.cons rfl (fun K hK => ?_) AllReady.nil
          go_simp
          refine hK _ _ ?_
          clear hK K
          refine wpAny_ready (rs := [3]) (by kernel_rfl) (by simp) ?_
          refine AllReady.cons rfl (fun K hK => ?_) AllReady.nil
          go_simp
          refine hK _ _ ?_
          clear hK K
          refine wpAny_ready (rs := [5]) (by kernel_rfl) (by simp) ?_
          refine AllReady.cons rfl (fun K hK => ?_) AllReady.nil
          go_simp
          refine (fault_any _ _ _ _).mono ?_
          rintro e w2 ⟨rfl, rfl⟩
          refine hK _ _ ?_
          clear hK K
          refine wpAny_ready (rs := [6]) (by kernel_rfl) (by simp) ?_
          refine AllReady.cons rfl (fun K hK => ?_) AllReady.nil
          go_simp
          clear hK K
          have hP0 := nPP.out.to ((Below.drewN (Below.refl w'.heap.size w') 1).alloc (Nat.le_refl _) (.cells #[.int .i64 k, .iface ti vi] 57))
          have o1 := hP0.o1
          refine leaves_cons (f := 14) (args := #[.pointer (some ⟨w.heap.size, 0, none⟩), .pointer (some ⟨w.heap.size + 1, 0, none⟩)]) (by simp) (by simp [go_sem]) ?_
          refine (catch_fault w.heap.size (w.heap.size + 1) _ _ _ _ _ _ [] _ hP0.r hP0.e (by omega)).mono ?_
          rintro e u' w'' ⟨rfl, rfl, hw⟩
          obtain ⟨⟨f0, f1, f2, f3, f4⟩, hF, hB⟩ := nPP.out.caught k ti vi HGG.out 1 w'' hw
          clear hw
          have HF := Lib.hid hF
          have HB := Lib.hid hB
          clear hF hB
          simp [Leaves, settle, results, Tryd.results11, go_sem, f0, f1, f2, f3, f4]
          exact ⟨HF.out, HB.out⟩
      | cons q r =>
        obtain ⟨n1, n2, n3⟩ := q
        obtain ⟨hh, hD⟩ := hD
        simp only [List.length_cons] at hn hg
        have hks : k < s.size := by have a1 := hh.h1; have a2 := hh.h2; have a3 := hh.h3; have a4 := hh.h4; omega
        have h13 := hdr_not13 hh hks
        have hn64 : n < 64 := by omega
        have hn64' : ((n : Int) == 64) = false := by rw [beq_eq_false_iff_ne]; omega
        have HX := Lib.hid hxs
        have HDD := Lib.hid hD
        have HHH := Lib.hid hh
        clear hxs hD hh
        have hform : (v = .slice none 0 0 ∧ n = 0) ∨ ∃ g cap, v = .slice (some ⟨g, 0, none⟩) n cap := by
          rcases nP.own.2 with h0 | ⟨g, cap, _, hv, _⟩
          · exact Or.inl h0
          · exact Or.inr ⟨g, cap, hv⟩
        rcases hform with ⟨rfl, hn0⟩ | ⟨gv, cap, rfl⟩
        · have HN0 := Lib.hid hn0
          have hn0' : n ≤ 0 := by omega
          have hz : (0 : Int) = (n : Int) := by omega
          clear hn0
          go_wp2_with (go_at_call 18; (with_reducible refine Calls.mono (HPk.out k hks _ rfl _ _ _ _ _ _ _ (by assumption)) ?_); rintro e w' ⟨rfl, nP⟩; have nPP := Lib.hid nP; obtain ⟨c0, c1, z1, r0, r1, r2, r3, y0, y1, y2, y3⟩ := nP.cells)
          have H : Hid (∀ w1 : World, w1.heap = w'.heap → w1.os = w'.os → w1.tape = w'.tape → w1.output = w'.output → Calls Tryd.prog 19 #[.pointer (some ⟨d, 0, none⟩)] w1 (fun e w2 => e = .returned (.agg #[.string (smallB (s.extract k n1)), .string (trimV (s.extract n2 n3))]) ∧ w2.cell? ⟨w.heap.size, 3, none⟩ = some (.slice none 0 0) ∧ PX w d M s (n3 + 2) MM TT 1 (.slice none 0 0) n xs w2)) := by
            intro w1 g1 g2 g3 g4
            have hp1 := nPP.out.same g1 g2 g3 g4
            refine Calls.mono (header_at d s k n1 n2 n3 (by omega) HHH.out w1 hp1.rd) ?_
            rintro e w2 ⟨q1, q2, q3⟩
            have hp2 := hp1.at_ q2 q3
            exact ⟨q1, (blk_cell hp2.r 3).trans rfl, hp2⟩
          clear nP HPk
          refine wp_region_noPanic ?_
          go_region_law
            (first
              | (go_simp; refine Calls.mono (H.out _ rfl rfl rfl rfl) ?_; rintro e w2 ⟨rfl, hl2, hT2⟩; have hlU := fun o => (World.cell?_alloc_some w2 ⟨w.heap.size, 3, none⟩ o (by rw [hl2]; rfl)).trans hl2; have hzT := blk_fz hT2.r 3; have hzU := fun o => (frozen_alloc hT2.lt 3 o).trans hzT; dsimp only)
              | (refine step_append_lies _ (by rfl) _ _ _ (by rfl) M 25 i0 _ 2 32 Tryd.underlying22 hi0 hz0 hz1 hz2 rfl (by omega) (.slice none 0 0) n xs (by rfl) (hT2.own.alloc _)
                  ⟨w2.heap.size, 0, none⟩ 1 1 [.string (smallB (s.extract k n1)), .string (trimV (s.extract n2 n3))] (by rfl) (by rfl) (World.news_of_block (cs := #[.string (smallB (s.extract k n1)), .string (trimV (s.extract n2 n3))]) (t := 25) (fr := (0, 0)) (heap_alloc_new w2 _)) (by simp [Value.oneCell'])
                  (by omega) (by unfold maxLen; omega) (by omega) (by have := hT2.o3; simp; omega) (w2.heap.size + 1) (by simp) ?_; intro gg cap3 w3 hown3 hgrow hat hlt
                 have hL3 : w3.cell? ⟨w.heap.size, 3, none⟩ = some (.slice none 0 0) := by rw [hgrow.cell_far _ (by have := hT2.lt; simp; omega) (by simpa using Ne.symm hT2.v_far)]; exact hlU _
                 have hZ3 : w3.frozen? ⟨w.heap.size, 3, none⟩ = false := by rw [hgrow.frozen_far _ (by have := hT2.lt; simp; omega) (by simpa using Ne.symm hT2.v_far)]; exact hzU _))
          all_goals
            rename_i hK
            have hG := hT2.grow hown3 hgrow _ rfl
            refine hK _ _ ?_
            (try refine NoPanic.normal ?_)
            clear hK hgrow hown3 hL3 hZ3 hzU hlU
            generalize w3.setCell _ _ = w4 at hG ⊢
            have HG := Lib.hid hG
            clear hG
            go_wp2
            go_roundg r.length
            case measure => omega
            case rel => exact ⟨r, n3 + 2, n + 1, _, _, rfl, HDD.out, by omega, by rw [← HX.out]; simp [hv], HG.out⟩
        · skip
          go_wp2_with (go_at_call 18; (with_reducible refine Calls.mono (HPk.out k hks _ rfl _ _ _ _ _ _ _ (by assumption)) ?_); rintro e w' ⟨rfl, nP⟩; have nPP := Lib.hid nP; obtain ⟨c0, c1, z1, r0, r1, r2, r3, y0, y1, y2, y3⟩ := nP.cells)
          have H : Hid (∀ w1 : World, w1.heap = w'.heap → w1.os = w'.os → w1.tape = w'.tape → w1.output = w'.output → Calls Tryd.prog 19 #[.pointer (some ⟨d, 0, none⟩)] w1 (fun e w2 => e = .returned (.agg #[.string (smallB (s.extract k n1)), .string (trimV (s.extract n2 n3))]) ∧ w2.cell? ⟨w.heap.size, 3, none⟩ = some (.slice (some ⟨gv, 0, none⟩) n cap) ∧ PX w d M s (n3 + 2) MM TT 1 (.slice (some ⟨gv, 0, none⟩) n cap) n xs w2)) := by
            intro w1 g1 g2 g3 g4
            have hp1 := nPP.out.same g1 g2 g3 g4
            refine Calls.mono (header_at d s k n1 n2 n3 (by omega) HHH.out w1 hp1.rd) ?_
            rintro e w2 ⟨q1, q2, q3⟩
            have hp2 := hp1.at_ q2 q3
            exact ⟨q1, (blk_cell hp2.r 3).trans rfl, hp2⟩
          clear nP HPk
          refine wp_region_noPanic ?_
          go_region_law
            (first
              | (go_simp; refine Calls.mono (H.out _ rfl rfl rfl rfl) ?_; rintro e w2 ⟨rfl, hl2, hT2⟩; have hlU := fun o => (World.cell?_alloc_some w2 ⟨w.heap.size, 3, none⟩ o (by rw [hl2]; rfl)).trans hl2; have hzT := blk_fz hT2.r 3; have hzU := fun o => (frozen_alloc hT2.lt 3 o).trans hzT; dsimp only)
              | (refine step_append_lies _ (by rfl) _ _ _ (by rfl) M 25 i0 _ 2 32 Tryd.underlying22 hi0 hz0 hz1 hz2 rfl (by omega) (.slice (some ⟨gv, 0, none⟩) n cap) n xs (by rfl) (hT2.own.alloc _)
                  ⟨w2.heap.size, 0, none⟩ 1 1 [.string (smallB (s.extract k n1)), .string (trimV (s.extract n2 n3))] (by rfl) (by rfl) (World.news_of_block (cs := #[.string (smallB (s.extract k n1)), .string (trimV (s.extract n2 n3))]) (t := 25) (fr := (0, 0)) (heap_alloc_new w2 _)) (by simp [Value.oneCell'])
                  (by omega) (by unfold maxLen; omega) (by omega) (by have := hT2.o3; simp; omega) (w2.heap.size + 1) (by simp) ?_; intro gg cap3 w3 hown3 hgrow hat hlt
                 have hL3 : w3.cell? ⟨w.heap.size, 3, none⟩ = some (.slice (some ⟨gv, 0, none⟩) n cap) := by rw [hgrow.cell_far _ (by have := hT2.lt; simp; omega) (by simpa using Ne.symm hT2.v_far)]; exact hlU _
                 have hZ3 : w3.frozen? ⟨w.heap.size, 3, none⟩ = false := by rw [hgrow.frozen_far _ (by have := hT2.lt; simp; omega) (by simpa using Ne.symm hT2.v_far)]; exact hzU _))
          all_goals
            rename_i hK
            have hG := hT2.grow hown3 hgrow _ rfl
            refine hK _ _ ?_
            (try refine NoPanic.normal ?_)
            clear hK hgrow hown3 hL3 hZ3 hzU hlU
            generalize w3.setCell _ _ = w4 at hG ⊢
            have HG := Lib.hid hG
            clear hG
            go_wp2
            go_roundg r.length
            case measure => omega
            case rel => exact ⟨r, n3 + 2, n + 1, _, _, rfl, HDD.out, by omega, by rw [← HX.out]; simp [hv], HG.out⟩
  · subst hmi
    have h48 : (s[t + 8]'(by omega)).toNat = 48 := by omega
    go_wp2_with (first
      | (go_at_call 17; (with_reducible refine Calls.mono (HWd.out _ _ _ _ (by assumption)) ?_); rintro e w' ⟨rfl, nP⟩; obtain ⟨c0, c1, z1, r0, r1, r2, r3, y0, y1, y2, y3⟩ := nP.cells)
      | (go_at_call 17; (with_reducible refine Calls.mono (HWc.out (by omega) h48 _ _ _ (by assumption)) ?_); rintro e w' ⟨rfl, nP⟩; obtain ⟨c0, c1, z1, r0, r1, r2, r3, y0, y1, y2, y3⟩ := nP.cells)
      | (go_at_call 18; (with_reducible refine Calls.mono (HPk.out (t + 8) (by omega) _ hc8 _ _ _ _ _ _ _ (by assumption)) ?_); rintro e w' ⟨rfl, nP⟩; have nQ := nP.put (mi' := 1) 2 (.int .i64 1) rfl; obtain ⟨c0, c1, z1, r0, r1, r2, r3, y0, y1, y2, y3⟩ := nP.cells; obtain ⟨q0, q1, qz, _, _, _, _, _, _, _, _⟩ := nQ.cells; have nR := nQ.step ((t : Int) + 8 + 1) (t + 9) (by omega))
      | (go_at_call 17; (with_reducible refine Calls.mono (HWb.out _ _ _ (by assumption)) ?_); rintro e w' ⟨rfl, nP⟩; obtain ⟨c0, c1, z1, r0, r1, r2, r3, y0, y1, y2, y3⟩ := nP.cells)
      | (go_at_call 16; (with_reducible refine Calls.mono (HSb.out _ _ (by assumption)) ?_); rintro e w' ⟨rfl, nP⟩; have nQ := nP.put (t' := s.extract (m + 1) t) 1 (.string (s.extract (m + 1) t)) rfl; obtain ⟨c0, c1, z1, r0, r1, r2, r3, y0, y1, y2, y3⟩ := nP.cells)
      | (go_at_call 17; (with_reducible refine Calls.mono (HWa.out _ _ (by assumption)) ?_); rintro e w' ⟨rfl, nP⟩; obtain ⟨c0, c1, z1, r0, r1, r2, r3, y0, y1, y2, y3⟩ := nP.cells)
      | (go_at_call 16; (with_reducible refine Calls.mono (HSa.out _ (by assumption)) ?_); rintro e w' ⟨rfl, nP⟩; have nQ := nP.put (m' := s.extract 0 m) 0 (.string (s.extract 0 m)) rfl; obtain ⟨c0, c1, z1, r0, r1, r2, r3, y0, y1, y2, y3⟩ := nP.cells))
    generalize hM : s.extract 0 m = MM at *
    generalize hT : s.extract (m + 1) t = TT at *
    go_loopg [] l.length (fun g wr => ∃ (r : List (Nat × Nat × Nat)) (k n : Nat) (v : Value) (xs : List Value), g = r.length ∧ Hdrs s k r ke ∧ n + r.length = l.length ∧ xs ++ hv s k r = hv s (t + 11) l ∧ PX w d M s k MM TT 0 v n xs wr)
    case atStart => exact ⟨l, t + 11, 0, _, [], rfl, HHD.out, by omega, rfl, nP⟩
    case round =>
      clear nP c0 c1 z1 r0 r1 r2 r3 y0 y1 y2 y3
      obtain ⟨r, k, n, v, xs, hg, hD, hn, hxs, nP⟩ := hrel
      cases r with
      | nil =>
        obtain rfl : k = ke := hD
        have hks : k < s.size := HE3.out
        have h13 := HE1.out hks
        have hn2 : n + 0 = l.length := hn
        have hn64 : ((n : Int) == 64) = true := by rw [beq_iff_eq]; omega
        have hpos : 0 < n := by omega
        obtain ⟨gv, cap, rfl, -, -⟩ := nP.own.form hpos
        clear hn hn2 hxs
        go_wp2_with (go_at_call 18; (with_reducible refine Calls.mono (HPk.out k hks _ rfl _ _ _ _ _ _ _ (by assumption)) ?_); rintro e w' ⟨rfl, nP⟩; have nPP := Lib.hid nP; have hge := cell_at1 nP.bel HGG.out; obtain ⟨c0, c1, z1, r0, r1, r2, r3, y0, y1, y2, y3⟩ := nP.cells; clear nP)
        try clear HSa
        try clear HWa
        try clear HSb
        try clear HWb
        try clear HWc
        try clear HWd
        try clear HPk
        try clear nQ
        try clear nR
        try clear q0
        try clear q1
        try clear qz
        try clear nP
        try clear hc8
        try clear e8
        try clear hks
        try clear h13
        try clear hn64
        try clear hpos
        try clear hx
        try clear hl
        try clear hl2
        try clear h1
        try clear h2
        try clear h3
        try clear h4
        try clear hmf
        refine wp_region_any (by kernel_rfl) ?_
        try (change wpAny _ _ _ _ _ _ _ (World.drew _))
        refine wpAny_ready (rs := [0, 4]) (by kernel_rfl) (by simp) ?_
        refine AllReady.cons rfl (fun K hK => ?_) (AllReady.cons rfl (fun K hK => ?_) AllReady.nil)
        · go_simp
          refine hK _ _ ?_
          clear hK K
          refine wpAny_ready (rs := [1, 4]) (by kernel_rfl) (by simp) ?_
          refine AllReady.cons rfl (fun K hK => ?_) (AllReady.cons rfl (fun K hK => ?_) AllReady.nil)
          · go_simp
            refine hK _ _ ?_
            clear hK K
            refine wpAny_ready (rs := [2, 4]) (by kernel_rfl) (by simp) ?_
            refine AllReady.cons rfl (fun K hK => ?_) (AllReady.cons rfl (fun K hK => ?_) AllReady.nil)
            · go_simp
              refine hK _ _ ?_
              clear hK K
              refine wpAny_ready (rs := [3, 4]) (by kernel_rfl) (by simp) ?_
              refine AllReady.cons rfl (fun K hK => ?_) (AllReady.cons rfl (fun K hK => ?_) AllReady.nil)
              · go_simp
                refine hK _ _ ?_
                clear hK K
                refine wpAny_ready (rs := [4]) (by kernel_rfl) (by simp) ?_
                refine AllReady.cons rfl (fun K hK => ?_) AllReady.nil
                go_simp
                refine hK _ _ ?_
                clear hK K
                refine wpAny_ready (rs := [5]) (by kernel_rfl) (by simp) ?_
                refine AllReady.cons rfl (fun K hK => ?_) AllReady.nil
                go_simp
                refine (fault_any _ _ _ _).mono ?_
                rintro e w2 ⟨rfl, rfl⟩
                refine hK _ _ ?_
                clear hK K
                refine wpAny_ready (rs := [6]) (by kernel_rfl) (by simp) ?_
                refine AllReady.cons rfl (fun K hK => ?_) AllReady.nil
                go_simp
                clear hK K
                have hP0 := nPP.out.to ((Below.drewN (Below.refl w'.heap.size w') 1).alloc (Nat.le_refl _) (.cells #[.int .i64 k, .iface ti vi] 57))
                have o1 := hP0.o1
                refine leaves_cons (f := 14) (args := #[.pointer (some ⟨w.heap.size, 0, none⟩), .pointer (some ⟨w.heap.size + 1, 0, none⟩)]) (by simp) (by simp [go_sem]) ?_
                refine (catch_fault w.heap.size (w.heap.size + 1) _ _ _ _ _ _ [] _ hP0.r hP0.e (by omega)).mono ?_
                rintro e u' w'' ⟨rfl, rfl, hw⟩
                obtain ⟨⟨f0, f1, f2, f3, f4⟩, hF, hB⟩ := nPP.out.caught k ti vi HGG.out 1 w'' hw
                clear hw
                have HF := Lib.hid hF
                have HB := Lib.hid hB
                clear hF hB
                simp [Leaves, settle, results, Tryd.results11, go_sem, f0, f1, f2, f3, f4]
                exact ⟨HF.out, HB.out⟩
              · go_simp
                refine hK _ _ ?_
                clear hK K
                refine wpAny_ready (rs := [3]) (by kernel_rfl) (by simp) ?_
                refine AllReady.cons rfl (fun K hK => ?_) AllReady.nil
                go_simp
                refine hK _ _ ?_
                clear hK K
                refine wpAny_ready (rs := [5]) (by kernel_rfl) (by simp) ?_
                refine AllReady.cons rfl (fun K hK => ?_) AllReady.nil
                go_simp
                refine (fault_any _ _ _ _).mono ?_
                rintro e w2 ⟨rfl, rfl⟩
                refine hK _ _ ?_
                clear hK K
                refine wpAny_ready (rs := [6]) (by kernel_rfl) (by simp) ?_
                refine AllReady.cons rfl (fun K hK => ?_) AllReady.nil
                go_simp
                clear hK K
                have hP0 := nPP.out.to ((Below.drewN (Below.refl w'.heap.size w') 1).alloc (Nat.le_refl _) (.cells #[.int .i64 k, .iface ti vi] 57))
                have o1 := hP0.o1
                refine leaves_cons (f := 14) (args := #[.pointer (some ⟨w.heap.size, 0, none⟩), .pointer (some ⟨w.heap.size + 1, 0, none⟩)]) (by simp) (by simp [go_sem]) ?_
                refine (catch_fault w.heap.size (w.heap.size + 1) _ _ _ _ _ _ [] _ hP0.r hP0.e (by omega)).mono ?_
                rintro e u' w'' ⟨rfl, rfl, hw⟩
                obtain ⟨⟨f0, f1, f2, f3, f4⟩, hF, hB⟩ := nPP.out.caught k ti vi HGG.out 1 w'' hw
                clear hw
                have HF := Lib.hid hF
                have HB := Lib.hid hB
                clear hF hB
                simp [Leaves, settle, results, Tryd.results11, go_sem, f0, f1, f2, f3, f4]
                exact ⟨HF.out, HB.out⟩
            · go_simp
              refine hK _ _ ?_
              clear hK K
              refine wpAny_ready (rs := [2]) (by kernel_rfl) (by simp) ?_
              refine AllReady.cons rfl (fun K hK => ?_) AllReady.nil
              go_simp
              refine hK _ _ ?_
              clear hK K
              refine wpAny_ready (rs := [3]) (by kernel_rfl) (by simp) ?_
              refine AllReady.cons rfl (fun K hK => ?_) AllReady.nil
              go_simp
              refine hK _ _ ?_
              clear hK K
              refine wpAny_ready (rs := [5]) (by kernel_rfl) (by simp) ?_
              refine AllReady.cons rfl (fun K hK => ?_) AllReady.nil
              go_simp
              refine (fault_any _ _ _ _).mono ?_
              rintro e w2 ⟨rfl, rfl⟩
              refine hK _ _ ?_
              clear hK K
              refine wpAny_ready (rs := [6]) (by kernel_rfl) (by simp) ?_
              refine AllReady.cons rfl (fun K hK => ?_) AllReady.nil
              go_simp
              clear hK K
              have hP0 := nPP.out.to ((Below.drewN (Below.refl w'.heap.size w') 1).alloc (Nat.le_refl _) (.cells #[.int .i64 k, .iface ti vi] 57))
              have o1 := hP0.o1
              refine leaves_cons (f := 14) (args := #[.pointer (some ⟨w.heap.size, 0, none⟩), .pointer (some ⟨w.heap.size + 1, 0, none⟩)]) (by simp) (by simp [go_sem]) ?_
              refine (catch_fault w.heap.size (w.heap.size + 1) _ _ _ _ _ _ [] _ hP0.r hP0.e (by omega)).mono ?_
              rintro e u' w'' ⟨rfl, rfl, hw⟩
              obtain ⟨⟨f0, f1, f2, f3, f4⟩, hF, hB⟩ := nPP.out.caught k ti vi HGG.out 1 w'' hw
              clear hw
              have HF := Lib.hid hF
              have HB := Lib.hid hB
              clear hF hB
              simp [Leaves, settle, results, Tryd.results11, go_sem, f0, f1, f2, f3, f4]
              exact ⟨HF.out, HB.out⟩
          · go_simp
            refine hK _ _ ?_
            clear hK K
            refine wpAny_ready (rs := [1]) (by kernel_rfl) (by simp) ?_
            refine AllReady.cons rfl (fun K hK => ?_) AllReady.nil
            go_simp
            refine hK _ _ ?_
            clear hK K
            refine wpAny_ready (rs := [2]) (by kernel_rfl) (by simp) ?_
            refine AllReady.cons rfl (fun K hK => ?_) AllReady.nil
            go_simp
            refine hK _ _ ?_
            clear hK K
            refine wpAny_ready (rs := [3]) (by kernel_rfl) (by simp) ?_
            refine AllReady.cons rfl (fun K hK => ?_) AllReady.nil
            go_simp
            refine hK _ _ ?_
            clear hK K
            refine wpAny_ready (rs := [5]) (by kernel_rfl) (by simp) ?_
            refine AllReady.cons rfl (fun K hK => ?_) AllReady.nil
            go_simp
            refine (fault_any _ _ _ _).mono ?_
            rintro e w2 ⟨rfl, rfl⟩
            refine hK _ _ ?_
            clear hK K
            refine wpAny_ready (rs := [6]) (by kernel_rfl) (by simp) ?_
            refine AllReady.cons rfl (fun K hK => ?_) AllReady.nil
            go_simp
            clear hK K
            have hP0 := nPP.out.to ((Below.drewN (Below.refl w'.heap.size w') 1).alloc (Nat.le_refl _) (.cells #[.int .i64 k, .iface ti vi] 57))
            have o1 := hP0.o1
            refine leaves_cons (f := 14) (args := #[.pointer (some ⟨w.heap.size, 0, none⟩), .pointer (some ⟨w.heap.size + 1, 0, none⟩)]) (by simp) (by simp [go_sem]) ?_
            refine (catch_fault w.heap.size (w.heap.size + 1) _ _ _ _ _ _ [] _ hP0.r hP0.e (by omega)).mono ?_
            rintro e u' w'' ⟨rfl, rfl, hw⟩
            obtain ⟨⟨f0, f1, f2, f3, f4⟩, hF, hB⟩ := nPP.out.caught k ti vi HGG.out 1 w'' hw
            clear hw
            have HF := Lib.hid hF
            have HB := Lib.hid hB
            clear hF hB
            simp [Leaves, settle, results, Tryd.results11, go_sem, f0, f1, f2, f3, f4]
            exact ⟨HF.out, HB.out⟩
        · go_simp
          refine hK _ _ ?_
          clear hK K
          refine wpAny_ready (rs := [0]) (by kernel_rfl) (by simp) ?_
          refine AllReady.cons rfl (fun K hK => ?_) AllReady.nil
          go_simp
          refine hK _ _ ?_
          clear hK K
          refine wpAny_ready (rs := [1]) (by kernel_rfl) (by simp) ?_
          refine AllReady.cons rfl (fun K hK => ?_) AllReady.nil
          go_simp
          refine hK _ _ ?_
          clear hK K
          refine wpAny_ready (rs := [2]) (by kernel_rfl) (by simp) ?_
          refine AllReady.cons rfl (fun K hK => ?_) AllReady.nil
          go_simp
          refine hK _ _ ?_
          clear hK K
          refine wpAny_ready (rs := [3]) (by kernel_rfl) (by simp) ?_
          refine AllReady.cons rfl (fun K hK => ?_) AllReady.nil
          go_simp
          refine hK _ _ ?_
          clear hK K
          refine wpAny_ready (rs := [5]) (by kernel_rfl) (by simp) ?_
          refine AllReady.cons rfl (fun K hK => ?_) AllReady.nil
          go_simp
          refine (fault_any _ _ _ _).mono ?_
          rintro e w2 ⟨rfl, rfl⟩
          refine hK _ _ ?_
          clear hK K
          refine wpAny_ready (rs := [6]) (by kernel_rfl) (by simp) ?_
          refine AllReady.cons rfl (fun K hK => ?_) AllReady.nil
          go_simp
          clear hK K
          have hP0 := nPP.out.to ((Below.drewN (Below.refl w'.heap.size w') 1).alloc (Nat.le_refl _) (.cells #[.int .i64 k, .iface ti vi] 57))
          have o1 := hP0.o1
          refine leaves_cons (f := 14) (args := #[.pointer (some ⟨w.heap.size, 0, none⟩), .pointer (some ⟨w.heap.size + 1, 0, none⟩)]) (by simp) (by simp [go_sem]) ?_
          refine (catch_fault w.heap.size (w.heap.size + 1) _ _ _ _ _ _ [] _ hP0.r hP0.e (by omega)).mono ?_
          rintro e u' w'' ⟨rfl, rfl, hw⟩
          obtain ⟨⟨f0, f1, f2, f3, f4⟩, hF, hB⟩ := nPP.out.caught k ti vi HGG.out 1 w'' hw
          clear hw
          have HF := Lib.hid hF
          have HB := Lib.hid hB
          clear hF hB
          simp [Leaves, settle, results, Tryd.results11, go_sem, f0, f1, f2, f3, f4]
          exact ⟨HF.out, HB.out⟩
      | cons q r =>
        obtain ⟨n1, n2, n3⟩ := q
        obtain ⟨hh, hD⟩ := hD
        simp only [List.length_cons] at hn hg
        have hks : k < s.size := by have a1 := hh.h1; have a2 := hh.h2; have a3 := hh.h3; have a4 := hh.h4; omega
        have h13 := hdr_not13 hh hks
        have hn64 : n < 64 := by omega
        have hn64' : ((n : Int) == 64) = false := by rw [beq_eq_false_iff_ne]; omega
        have HX := Lib.hid hxs
        have HDD := Lib.hid hD
        have HHH := Lib.hid hh
        clear hxs hD hh
        have hform : (v = .slice none 0 0 ∧ n = 0) ∨ ∃ g cap, v = .slice (some ⟨g, 0, none⟩) n cap := by
          rcases nP.own.2 with h0 | ⟨g, cap, _, hv, _⟩
          · exact Or.inl h0
          · exact Or.inr ⟨g, cap, hv⟩
        rcases hform with ⟨rfl, hn0⟩ | ⟨gv, cap, rfl⟩
        · have HN0 := Lib.hid hn0
          have hn0' : n ≤ 0 := by omega
          have hz : (0 : Int) = (n : Int) := by omega
          clear hn0
          go_wp2_with (go_at_call 18; (with_reducible refine Calls.mono (HPk.out k hks _ rfl _ _ _ _ _ _ _ (by assumption)) ?_); rintro e w' ⟨rfl, nP⟩; have nPP := Lib.hid nP; obtain ⟨c0, c1, z1, r0, r1, r2, r3, y0, y1, y2, y3⟩ := nP.cells)
          have H : Hid (∀ w1 : World, w1.heap = w'.heap → w1.os = w'.os → w1.tape = w'.tape → w1.output = w'.output → Calls Tryd.prog 19 #[.pointer (some ⟨d, 0, none⟩)] w1 (fun e w2 => e = .returned (.agg #[.string (smallB (s.extract k n1)), .string (trimV (s.extract n2 n3))]) ∧ w2.cell? ⟨w.heap.size, 3, none⟩ = some (.slice none 0 0) ∧ PX w d M s (n3 + 2) MM TT 0 (.slice none 0 0) n xs w2)) := by
            intro w1 g1 g2 g3 g4
            have hp1 := nPP.out.same g1 g2 g3 g4
            refine Calls.mono (header_at d s k n1 n2 n3 (by omega) HHH.out w1 hp1.rd) ?_
            rintro e w2 ⟨q1, q2, q3⟩
            have hp2 := hp1.at_ q2 q3
            exact ⟨q1, (blk_cell hp2.r 3).trans rfl, hp2⟩
          clear nP HPk
          refine wp_region_noPanic ?_
          go_region_law
            (first
              | (go_simp; refine Calls.mono (H.out _ rfl rfl rfl rfl) ?_; rintro e w2 ⟨rfl, hl2, hT2⟩; have hlU := fun o => (World.cell?_alloc_some w2 ⟨w.heap.size, 3, none⟩ o (by rw [hl2]; rfl)).trans hl2; have hzT := blk_fz hT2.r 3; have hzU := fun o => (frozen_alloc hT2.lt 3 o).trans hzT; dsimp only)
              | (refine step_append_lies _ (by rfl) _ _ _ (by rfl) M 25 i0 _ 2 32 Tryd.underlying22 hi0 hz0 hz1 hz2 rfl (by omega) (.slice none 0 0) n xs (by rfl) (hT2.own.alloc _)
                  ⟨w2.heap.size, 0, none⟩ 1 1 [.string (smallB (s.extract k n1)), .string (trimV (s.extract n2 n3))] (by rfl) (by rfl) (World.news_of_block (cs := #[.string (smallB (s.extract k n1)), .string (trimV (s.extract n2 n3))]) (t := 25) (fr := (0, 0)) (heap_alloc_new w2 _)) (by simp [Value.oneCell'])
                  (by omega) (by unfold maxLen; omega) (by omega) (by have := hT2.o3; simp; omega) (w2.heap.size + 1) (by simp) ?_; intro gg cap3 w3 hown3 hgrow hat hlt
                 have hL3 : w3.cell? ⟨w.heap.size, 3, none⟩ = some (.slice none 0 0) := by rw [hgrow.cell_far _ (by have := hT2.lt; simp; omega) (by simpa using Ne.symm hT2.v_far)]; exact hlU _
                 have hZ3 : w3.frozen? ⟨w.heap.size, 3, none⟩ = false := by rw [hgrow.frozen_far _ (by have := hT2.lt; simp; omega) (by simpa using Ne.symm hT2.v_far)]; exact hzU _))
          all_goals
            rename_i hK
            have hG := hT2.grow hown3 hgrow _ rfl
            refine hK _ _ ?_
            (try refine NoPanic.normal ?_)
            clear hK hgrow hown3 hL3 hZ3 hzU hlU
            generalize w3.setCell _ _ = w4 at hG ⊢
            have HG := Lib.hid hG
            clear hG
            go_wp2
            go_roundg r.length
            case measure => omega
            case rel => exact ⟨r, n3 + 2, n + 1, _, _, rfl, HDD.out, by omega, by rw [← HX.out]; simp [hv], HG.out⟩
        · skip
          go_wp2_with (go_at_call 18; (with_reducible refine Calls.mono (HPk.out k hks _ rfl _ _ _ _ _ _ _ (by assumption)) ?_); rintro e w' ⟨rfl, nP⟩; have nPP := Lib.hid nP; obtain ⟨c0, c1, z1, r0, r1, r2, r3, y0, y1, y2, y3⟩ := nP.cells)
          have H : Hid (∀ w1 : World, w1.heap = w'.heap → w1.os = w'.os → w1.tape = w'.tape → w1.output = w'.output → Calls Tryd.prog 19 #[.pointer (some ⟨d, 0, none⟩)] w1 (fun e w2 => e = .returned (.agg #[.string (smallB (s.extract k n1)), .string (trimV (s.extract n2 n3))]) ∧ w2.cell? ⟨w.heap.size, 3, none⟩ = some (.slice (some ⟨gv, 0, none⟩) n cap) ∧ PX w d M s (n3 + 2) MM TT 0 (.slice (some ⟨gv, 0, none⟩) n cap) n xs w2)) := by
            intro w1 g1 g2 g3 g4
            have hp1 := nPP.out.same g1 g2 g3 g4
            refine Calls.mono (header_at d s k n1 n2 n3 (by omega) HHH.out w1 hp1.rd) ?_
            rintro e w2 ⟨q1, q2, q3⟩
            have hp2 := hp1.at_ q2 q3
            exact ⟨q1, (blk_cell hp2.r 3).trans rfl, hp2⟩
          clear nP HPk
          refine wp_region_noPanic ?_
          go_region_law
            (first
              | (go_simp; refine Calls.mono (H.out _ rfl rfl rfl rfl) ?_; rintro e w2 ⟨rfl, hl2, hT2⟩; have hlU := fun o => (World.cell?_alloc_some w2 ⟨w.heap.size, 3, none⟩ o (by rw [hl2]; rfl)).trans hl2; have hzT := blk_fz hT2.r 3; have hzU := fun o => (frozen_alloc hT2.lt 3 o).trans hzT; dsimp only)
              | (refine step_append_lies _ (by rfl) _ _ _ (by rfl) M 25 i0 _ 2 32 Tryd.underlying22 hi0 hz0 hz1 hz2 rfl (by omega) (.slice (some ⟨gv, 0, none⟩) n cap) n xs (by rfl) (hT2.own.alloc _)
                  ⟨w2.heap.size, 0, none⟩ 1 1 [.string (smallB (s.extract k n1)), .string (trimV (s.extract n2 n3))] (by rfl) (by rfl) (World.news_of_block (cs := #[.string (smallB (s.extract k n1)), .string (trimV (s.extract n2 n3))]) (t := 25) (fr := (0, 0)) (heap_alloc_new w2 _)) (by simp [Value.oneCell'])
                  (by omega) (by unfold maxLen; omega) (by omega) (by have := hT2.o3; simp; omega) (w2.heap.size + 1) (by simp) ?_; intro gg cap3 w3 hown3 hgrow hat hlt
                 have hL3 : w3.cell? ⟨w.heap.size, 3, none⟩ = some (.slice (some ⟨gv, 0, none⟩) n cap) := by rw [hgrow.cell_far _ (by have := hT2.lt; simp; omega) (by simpa using Ne.symm hT2.v_far)]; exact hlU _
                 have hZ3 : w3.frozen? ⟨w.heap.size, 3, none⟩ = false := by rw [hgrow.frozen_far _ (by have := hT2.lt; simp; omega) (by simpa using Ne.symm hT2.v_far)]; exact hzU _))
          all_goals
            rename_i hK
            have hG := hT2.grow hown3 hgrow _ rfl
            refine hK _ _ ?_
            (try refine NoPanic.normal ?_)
            clear hK hgrow hown3 hL3 hZ3 hzU hlU
            generalize w3.setCell _ _ = w4 at hG ⊢
            have HG := Lib.hid hG
            clear hG
            go_wp2
            go_roundg r.length
            case measure => omega
            case rel => exact ⟨r, n3 + 2, n + 1, _, _, rfl, HDD.out, by omega, by rw [← HX.out]; simp [hv], HG.out⟩

end Go.Proofs.YthdmaajmgbhbmaaDoor
