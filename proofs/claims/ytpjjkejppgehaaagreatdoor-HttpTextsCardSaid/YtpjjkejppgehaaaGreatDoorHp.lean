/- http.Parse on the good way, and with a header too many. -/
import Derived.Test.YtpjjkejppgehaaaGreatDoorHc
import Derived.Deep.CutRange
namespace Go.Proofs.YtpjjkejppgehaaaGreatDoor
set_option linter.unusedSimpArgs false
set_option linter.unusedVariables false
open Go.RowKit
theorem info43 : (Tryz.prog.info? 43).map (fun i => (i.zero, i.size, i.bytes)) = some (some (.agg #[.string ⟨#[]⟩, .string ⟨#[]⟩]), 2, 32) := by kernel_rfl
def httpB : ByteArray := ⟨#[32, 72, 84, 84, 80, 47, 49, 46]⟩
/-- What stands of a request's line: the method up to m, the target up to t, the minor number. -/
structure ReqAt (s : ByteArray) (m t : Nat) (mi : Int) : Prop where
  h1 : 0 < m
  h2 : m ≤ 16
  h3 : m + 1 < t
  h4 : t + 11 ≤ s.size
  meth : ∀ i, 0 ≤ i → i < m → ∀ h : i < s.size, isSort 8 s[i] = true
  sp : ∀ h : m < s.size, s[m] = 32
  targ : ∀ i, m + 1 ≤ i → i < t → ∀ h : i < s.size, isSort 4 s[i] = true
  vers : ∀ i, i < httpB.size → ∀ (h1 : t + i < s.size) (h2 : i < httpB.size), s[t + i] = httpB[i]
  minor : ∀ h : t + 8 < s.size, ((s[t + 8].toNat : Int) = 49 ∧ mi = 1) ∨ ((s[t + 8].toNat : Int) = 48 ∧ mi = 0)
  cr : ∀ h : t + 9 < s.size, s[t + 9] = 13
  lf : ∀ h : t + 10 < s.size, s[t + 10] = 10
/-- The headers from k on, up to k'. -/
def Hdrs (s : ByteArray) : Nat → List (Nat × Nat × Nat) → Nat → Prop
  | k, [], k' => k = k'
  | k, (n1, n2, n3) :: r, k' => HdrAt s k n1 n2 n3 ∧ Hdrs s (n3 + 2) r k'
/-- Their cells. -/
def hv (s : ByteArray) : Nat → List (Nat × Nat × Nat) → List Value
  | _, [] => []
  | k, (n1, n2, n3) :: r => .string (smallB (s.extract k n1)) :: .string (trimV (s.extract n2 n3)) :: hv s (n3 + 2) r
theorem hdr_not13 {s : ByteArray} {k n1 n2 n3 : Nat} (h : HdrAt s k n1 n2 n3) (hk : k < s.size) : ((s[k].toNat : Int) != 13) = true := by
  have := h.name k (Nat.le_refl _) h.h1 hk
  rw [bne_iff_ne]
  intro e
  have e2 : s[k] = 13 := UInt8.toNat_inj.1 (by show s[k].toNat = 13; omega)
  rw [e2] at this
  revert this
  decide

set_option maxRecDepth 20000 in
set_option maxHeartbeats 16000000 in
theorem parse_good (s : ByteArray) (m t : Nat) (mi : Int) (l : List (Nat × Nat × Nat)) (ke : Nat) (hs : s.size ≤ 65536) (H : ReqAt s m t mi) (hl : l.length ≤ 64) (HD : Hdrs s (t + 11) l ke) (he1 : ∀ h : ke < s.size, s[ke] = 13) (he2 : ∀ h : ke + 1 < s.size, s[ke + 1] = 10) (he3 : ke + 2 = s.size) (w : World) :
    Calls Tryz.prog 14 #[.string s] w fun e w' => ∃ (v : Value) (M : Nat), e = .returned (.tuple #[.agg #[.string (s.extract 0 m), .string (s.extract (m + 1) t), .int .i64 mi, v], .nilIface]) ∧ w'.ownsRow M 43 2 v l.length (hv s (t + 11) l) ∧ w.heap.size ≤ M ∧ Below w.heap.size w w' := by
  have hmf : ∀ (fn : Fn) (first cap : Array Value) (w : World), (Instr.makeFunc fn first cap).run Tryz.prog w = .ok (.func fn first cap) w := fun _ _ _ _ => rfl
  have hx : ¬ (65536 : Int) < (s.size : Int) := by omega
  have HS : Hid (∀ x, Calls Tryz.prog 36 #[] x fun e w' => e = .returned (.agg KD) ∧ Below x.heap.size x w') := fun x => sorts_any x
  have HN : Hid (∀ w1, Below (World.alloc (World.alloc w (.cells #[.string ⟨#[]⟩, .string ⟨#[]⟩, .int .i64 0, .slice none 0 0] 39)) (.cells #[.nilIface] 32)).heap.size (World.alloc (World.alloc w (.cells #[.string ⟨#[]⟩, .string ⟨#[]⟩, .int .i64 0, .slice none 0 0] 39)) (.cells #[.nilIface] 32)) w1 → PX w w1.heap.size (w1.heap.size + 1) s 0 ⟨#[]⟩ ⟨#[]⟩ 0 (.slice none 0 0) 0 [] (w1.alloc (.cells (Array.foldl (fun cs x => cs.setIfInBounds (2 + x.snd) x.fst) (Tryz.zeroCells77.setIfInBounds 0 (Value.string s)) KD.zipIdx 0 256) 77))) := fun w1 h => by
    have := PX.new s w w1 h
    rwa [KD_size] at this
  have hks := KD_size
  have h1 := H.h1; have h2 := H.h2; have h3 := H.h3; have h4 := H.h4
  obtain ⟨i0, hi0, hz0, hz1, hz2⟩ := info_parts info43
  generalize KD = K at *
  have HH := Lib.hid H
  have HHD := Lib.hid HD
  have HE1 := Lib.hid he1
  have HE3 := Lib.hid he3
  clear H HD he1 he3
  go_enter_defers Tryz.func14, Tryz.ntmps14
  go_upto_region 5 with (go_at_call 36; (with_reducible refine Calls.mono (HS.out _) ?_); rintro e w1 ⟨rfl, hb⟩; have nP := HN.out w1 hb; clear hb)
  clear HS HN hks
  generalize World.alloc w1 _ = x0 at nP ⊢
  generalize w1.heap.size = d at nP ⊢
  generalize d + 1 = M at nP
  obtain ⟨c0, c1, z1, r0, r1, r2, r3, y0, y1, y2, y3⟩ := nP.cells
  have HSa : Hid (∀ x, PX w d M s 0 ⟨#[]⟩ ⟨#[]⟩ 0 (.slice none 0 0) 0 [] x → Calls Tryz.prog 37 #[.pointer (some ⟨d, 0, none⟩), .int .u8 8, .int .i64 16] x fun e w' => e = .returned (.string (s.extract 0 m)) ∧ PX w d M s m ⟨#[]⟩ ⟨#[]⟩ 0 (.slice none 0 0) 0 [] w') := fun x h =>
    Calls.mono (some_at d s x 0 m 16 8 (by omega) (by omega) (by omega) h1 (by omega) (by omega) HH.out.meth (Or.inr ⟨by omega, fun g => by rw [HH.out.sp g]; decide⟩) x ⟨But.refl _ _, h.rd⟩) fun e w' ⟨g1, g2, g3⟩ => ⟨g1, h.at_ g2 g3⟩
  have HWa : Hid (∀ x (M' : ByteArray), PX w d M s m M' ⟨#[]⟩ 0 (.slice none 0 0) 0 [] x → Calls Tryz.prog 38 #[.pointer (some ⟨d, 0, none⟩), .string ⟨#[32]⟩] x fun e w' => e = .returned (.tuple #[]) ∧ PX w d M s (m + 1) M' ⟨#[]⟩ 0 (.slice none 0 0) 0 [] w') := fun x M' h =>
    Calls.mono (want_at d s ⟨#[32]⟩ x m (by omega) (by decide) (by show m + 1 ≤ s.size; omega) (fun i hi g1 g2 => by
      have hi0 : i = 0 := by have : i < 1 := hi
                             omega
      subst hi0; exact HH.out.sp (by omega)) x ⟨But.refl _ _, h.rd⟩) fun e w' ⟨g1, g2, g3⟩ => ⟨g1, h.at_ g2 g3⟩
  have HSb : Hid (∀ x (M' : ByteArray), PX w d M s (m + 1) M' ⟨#[]⟩ 0 (.slice none 0 0) 0 [] x → Calls Tryz.prog 37 #[.pointer (some ⟨d, 0, none⟩), .int .u8 4, .int .i64 s.size] x fun e w' => e = .returned (.string (s.extract (m + 1) t)) ∧ PX w d M s t M' ⟨#[]⟩ 0 (.slice none 0 0) 0 [] w') := fun x M' h =>
    Calls.mono (some_at d s x (m + 1) t s.size 4 (by omega) (by omega) (by omega) h3 (by omega) (by omega) HH.out.targ (Or.inr ⟨by omega, fun g => by
      have h0 := HH.out.vers 0 (by decide) (by omega) (by decide)
      have e : s[t + 0] = s[t] := rfl
      rw [← e, h0]; decide⟩) x ⟨But.refl _ _, h.rd⟩) fun e w' ⟨g1, g2, g3⟩ => ⟨g1, h.at_ g2 g3⟩
  have HWb : Hid (∀ x (M' T' : ByteArray), PX w d M s t M' T' 0 (.slice none 0 0) 0 [] x → Calls Tryz.prog 38 #[.pointer (some ⟨d, 0, none⟩), .string ⟨#[32, 72, 84, 84, 80, 47, 49, 46]⟩] x fun e w' => e = .returned (.tuple #[]) ∧ PX w d M s (t + 8) M' T' 0 (.slice none 0 0) 0 [] w') := fun x M' T' h =>
    Calls.mono (want_at d s httpB x t (by omega) (by decide) (by show t + 8 ≤ s.size; omega) HH.out.vers x ⟨But.refl _ _, h.rd⟩) fun e w' ⟨g1, g2, g3⟩ => ⟨g1, h.at_ g2 g3⟩
  have HPk : Hid (∀ (k : Nat) (hk : k < s.size) (c : Int) (hc : (s[k].toNat : Int) = c) x (M' T' : ByteArray) (mi' : Int) (v : Value) (n : Nat) (xs : List Value), PX w d M s k M' T' mi' v n xs x → Calls Tryz.prog 39 #[.pointer (some ⟨d, 0, none⟩)] x fun e w' => e = .returned (.int .u8 c) ∧ PX w d M s k M' T' mi' v n xs w') := fun k hk c hc x M' T' mi' v n xs h =>
    Calls.mono (peek_at d s x k hk c hc x ⟨But.refl _ _, h.rd⟩) fun e w' ⟨g1, g2, g3⟩ => ⟨g1, h.at_ g2 g3⟩
  have HWc : Hid (∀ h8 : t + 8 < s.size, s[t + 8].toNat = 48 → ∀ x (M' T' : ByteArray), PX w d M s (t + 8) M' T' 0 (.slice none 0 0) 0 [] x → Calls Tryz.prog 38 #[.pointer (some ⟨d, 0, none⟩), .string ⟨#[48]⟩] x fun e w' => e = .returned (.tuple #[]) ∧ PX w d M s (t + 9) M' T' 0 (.slice none 0 0) 0 [] w') := fun h8 h48 x M' T' h =>
    Calls.mono (want_at d s ⟨#[48]⟩ x (t + 8) (by omega) (by decide) (by show t + 8 + 1 ≤ s.size; omega) (fun i hi g1 g2 => by
      have hi0 : i = 0 := by have : i < 1 := hi
                             omega
      subst hi0; exact UInt8.toNat_inj.1 h48) x ⟨But.refl _ _, h.rd⟩) fun e w' ⟨g1, g2, g3⟩ => ⟨g1, h.at_ g2 g3⟩
  have HWd : Hid (∀ x (M' T' : ByteArray) (mi' : Int), PX w d M s (t + 9) M' T' mi' (.slice none 0 0) 0 [] x → Calls Tryz.prog 38 #[.pointer (some ⟨d, 0, none⟩), .string ⟨#[13, 10]⟩] x fun e w' => e = .returned (.tuple #[]) ∧ PX w d M s (t + 11) M' T' mi' (.slice none 0 0) 0 [] w') := fun x M' T' mi' h =>
    Calls.mono (want_at d s ⟨#[13, 10]⟩ x (t + 9) (by omega) (by decide) (by show t + 9 + 2 ≤ s.size; omega) (fun i hi g1 g2 => by
      have hi2 : i < 2 := hi
      rcases (by omega : i = 0 ∨ i = 1) with rfl | rfl
      · exact HH.out.cr (by omega)
      · exact HH.out.lf (by omega)) x ⟨But.refl _ _, h.rd⟩) fun e w' ⟨g1, g2, g3⟩ => ⟨g1, h.at_ g2 g3⟩
  have e8 : IntKind.i64.wrap (((t + 8 : Nat) : Int) + 1) = ((t + 9 : Nat) : Int) := by rw [IntWalk.i64_in _ (by omega)]; omega
  have hmin := HH.out.minor (by omega)
  rcases hmin with ⟨hc8, hmi⟩ | ⟨hc8, hmi⟩
  · subst hmi
    go_wp2_with (first
      | (go_at_call 38; (with_reducible refine Calls.mono (HWd.out _ _ _ _ (by assumption)) ?_); rintro e w' ⟨rfl, nP⟩; obtain ⟨c0, c1, z1, r0, r1, r2, r3, y0, y1, y2, y3⟩ := nP.cells)
      | (go_at_call 39; (with_reducible refine Calls.mono (HPk.out (t + 8) (by omega) _ hc8 _ _ _ _ _ _ _ (by assumption)) ?_); rintro e w' ⟨rfl, nP⟩; have nQ := nP.put (mi' := 1) 2 (.int .i64 1) rfl; obtain ⟨c0, c1, z1, r0, r1, r2, r3, y0, y1, y2, y3⟩ := nP.cells; obtain ⟨q0, q1, qz, _, _, _, _, _, _, _, _⟩ := nQ.cells; have nR := nQ.step ((t : Int) + 8 + 1) (t + 9) (by omega))
      | (go_at_call 38; (with_reducible refine Calls.mono (HWb.out _ _ _ (by assumption)) ?_); rintro e w' ⟨rfl, nP⟩; obtain ⟨c0, c1, z1, r0, r1, r2, r3, y0, y1, y2, y3⟩ := nP.cells)
      | (go_at_call 37; (with_reducible refine Calls.mono (HSb.out _ _ (by assumption)) ?_); rintro e w' ⟨rfl, nP⟩; have nQ := nP.put (t' := s.extract (m + 1) t) 1 (.string (s.extract (m + 1) t)) rfl; obtain ⟨c0, c1, z1, r0, r1, r2, r3, y0, y1, y2, y3⟩ := nP.cells)
      | (go_at_call 38; (with_reducible refine Calls.mono (HWa.out _ _ (by assumption)) ?_); rintro e w' ⟨rfl, nP⟩; obtain ⟨c0, c1, z1, r0, r1, r2, r3, y0, y1, y2, y3⟩ := nP.cells)
      | (go_at_call 37; (with_reducible refine Calls.mono (HSa.out _ (by assumption)) ?_); rintro e w' ⟨rfl, nP⟩; have nQ := nP.put (m' := s.extract 0 m) 0 (.string (s.extract 0 m)) rfl; obtain ⟨c0, c1, z1, r0, r1, r2, r3, y0, y1, y2, y3⟩ := nP.cells))
    generalize hM : s.extract 0 m = MM at *
    generalize hT : s.extract (m + 1) t = TT at *
    go_loopg [] l.length (fun g wr => ∃ (r : List (Nat × Nat × Nat)) (k n : Nat) (v : Value) (xs : List Value), g = r.length ∧ Hdrs s k r ke ∧ n + r.length = l.length ∧ xs ++ hv s k r = hv s (t + 11) l ∧ PX w d M s k MM TT 1 v n xs wr)
    case atStart => exact ⟨l, t + 11, 0, _, [], rfl, HHD.out, by omega, rfl, nP⟩
    case round =>
      clear nP c0 c1 z1 r0 r1 r2 r3 y0 y1 y2 y3
      obtain ⟨r, k, n, v, xs, hg, hD, hn, hxs, nP⟩ := hrel
      cases r with
      | nil =>
        obtain rfl : k = ke := hD
        have he3 := HE3.out
        have hks : k < s.size := by omega
        have hc : (s[k].toNat : Int) = 13 := by rw [HE1.out hks]; decide
        have HWe : Hid (∀ x, PX w d M s k MM TT 1 v n xs x → Calls Tryz.prog 38 #[.pointer (some ⟨d, 0, none⟩), .string ⟨#[13, 10]⟩] x fun e w' => e = .returned (.tuple #[]) ∧ PX w d M s (k + 2) MM TT 1 v n xs w') := fun x h =>
          Calls.mono (want_at d s ⟨#[13, 10]⟩ x k (by omega) (by decide) (by show k + 2 ≤ s.size; omega) (fun i hi g1 g2 => by
            have hi2 : i < 2 := hi
            rcases (by omega : i = 0 ∨ i = 1) with rfl | rfl
            · exact HE1.out (by omega)
            · exact he2 (by omega)) x ⟨But.refl _ _, h.rd⟩) fun e w' ⟨g1, g2, g3⟩ => ⟨g1, h.at_ g2 g3⟩
        have hend : ¬ ((k + 2 : Nat) : Int) < (s.size : Int) := by omega
        have hend2 : ¬ (k : Int) + 2 < (s.size : Int) := by omega
        have HX := Lib.hid hxs
        have HNN := Lib.hid hn
        clear hxs hn he2 he3
        have hform : (v = .slice none 0 0 ∧ n = 0) ∨ ∃ g cap, v = .slice (some ⟨g, 0, none⟩) n cap := by
          rcases nP.own.2 with h0 | ⟨g, cap, _, hv, _⟩
          · exact Or.inl h0
          · exact Or.inr ⟨g, cap, hv⟩
        rcases hform with ⟨rfl, hn0⟩ | ⟨gv, cap, rfl⟩
        · clear hn0
          go_wp2_with (first
            | (go_at_call 38; (with_reducible refine Calls.mono (HWe.out _ (by assumption)) ?_); rintro e w' ⟨rfl, nP⟩; have HPP := Lib.hid nP; have ee := (blk_cell nP.e 0).trans rfl; have ez := blk_fz nP.e 0; obtain ⟨c0, c1, z1, r0, r1, r2, r3, y0, y1, y2, y3⟩ := nP.cells; clear nP)
            | (go_at_call 39; (with_reducible refine Calls.mono (HPk.out k hks 13 hc _ _ _ _ _ _ _ (by assumption)) ?_); rintro e w' ⟨rfl, nP⟩))
          refine leaves_cons (f := 35) (args := #[.pointer (some ⟨w.heap.size, 0, none⟩), .pointer (some ⟨w.heap.size + 1, 0, none⟩)]) (by simp) (by simp [go_sem]) ?_
          refine (catch_idle ⟨w.heap.size, 0, none⟩ ⟨w.heap.size + 1, 0, none⟩ _).mono ?_
          rintro e u' w'' ⟨rfl, rfl, hw⟩
          obtain ⟨⟨f0, f1, f2, f3, f4⟩, fo, fb⟩ := HPP.out.fin w'' hw
          have FO := Lib.hid fo
          have FB := Lib.hid fb
          have FM := Lib.hid (show w.heap.size ≤ M by have a1 := HPP.out.o1; have a2 := HPP.out.o2; omega)
          clear hw fo fb c0 c1 z1 r0 r1 r2 r3 y0 y1 y2 y3 ee ez HPP
          simp [Leaves, settle, results, Tryz.results14, go_sem, f0, f1, f2, f3, f4]
          have q1 := HNN.out
          have q2 := HX.out
          simp [hv] at q1 q2
          exact ⟨_, ⟨hM.symm, hT.symm, rfl⟩, M, by rw [← q1, ← q2]; exact FO.out, FM.out, FB.out⟩
        · skip
          go_wp2_with (first
            | (go_at_call 38; (with_reducible refine Calls.mono (HWe.out _ (by assumption)) ?_); rintro e w' ⟨rfl, nP⟩; have HPP := Lib.hid nP; have ee := (blk_cell nP.e 0).trans rfl; have ez := blk_fz nP.e 0; obtain ⟨c0, c1, z1, r0, r1, r2, r3, y0, y1, y2, y3⟩ := nP.cells; clear nP)
            | (go_at_call 39; (with_reducible refine Calls.mono (HPk.out k hks 13 hc _ _ _ _ _ _ _ (by assumption)) ?_); rintro e w' ⟨rfl, nP⟩))
          refine leaves_cons (f := 35) (args := #[.pointer (some ⟨w.heap.size, 0, none⟩), .pointer (some ⟨w.heap.size + 1, 0, none⟩)]) (by simp) (by simp [go_sem]) ?_
          refine (catch_idle ⟨w.heap.size, 0, none⟩ ⟨w.heap.size + 1, 0, none⟩ _).mono ?_
          rintro e u' w'' ⟨rfl, rfl, hw⟩
          obtain ⟨⟨f0, f1, f2, f3, f4⟩, fo, fb⟩ := HPP.out.fin w'' hw
          have FO := Lib.hid fo
          have FB := Lib.hid fb
          have FM := Lib.hid (show w.heap.size ≤ M by have a1 := HPP.out.o1; have a2 := HPP.out.o2; omega)
          clear hw fo fb c0 c1 z1 r0 r1 r2 r3 y0 y1 y2 y3 ee ez HPP
          simp [Leaves, settle, results, Tryz.results14, go_sem, f0, f1, f2, f3, f4]
          have q1 := HNN.out
          have q2 := HX.out
          simp [hv] at q1 q2
          exact ⟨_, ⟨hM.symm, hT.symm, rfl⟩, M, by rw [← q1, ← q2]; exact FO.out, FM.out, FB.out⟩
      | cons q r =>
        obtain ⟨n1, n2, n3⟩ := q
        obtain ⟨hh, hD⟩ := hD
        simp only [List.length_cons] at hn hg
        have hks : k < s.size := by have a1 := hh.h1; have a2 := hh.h2; have a3 := hh.h3; have a4 := hh.h4; omega
        have h13 := hdr_not13 hh hks
        have hn64 : n < 64 := by omega
        have hn64' : ((n : Int) == 64) = false := by rw [beq_eq_false_iff_ne]; omega
        have HX := Lib.hid hxs
        have HDD := Lib.hid hD
        have HHH := Lib.hid hh
        clear hxs hD hh
        have hform : (v = .slice none 0 0 ∧ n = 0) ∨ ∃ g cap, v = .slice (some ⟨g, 0, none⟩) n cap := by
          rcases nP.own.2 with h0 | ⟨g, cap, _, hv, _⟩
          · exact Or.inl h0
          · exact Or.inr ⟨g, cap, hv⟩
        rcases hform with ⟨rfl, hn0⟩ | ⟨gv, cap, rfl⟩
        · have HN0 := Lib.hid hn0
          have hn0' : n ≤ 0 := by omega
          have hz : (0 : Int) = (n : Int) := by omega
          clear hn0
          go_wp2_with (go_at_call 39; (with_reducible refine Calls.mono (HPk.out k hks _ rfl _ _ _ _ _ _ _ (by assumption)) ?_); rintro e w' ⟨rfl, nP⟩; have nPP := Lib.hid nP; obtain ⟨c0, c1, z1, r0, r1, r2, r3, y0, y1, y2, y3⟩ := nP.cells)
          have H : Hid (∀ w1 : World, w1.heap = w'.heap → w1.os = w'.os → w1.tape = w'.tape → w1.output = w'.output → Calls Tryz.prog 40 #[.pointer (some ⟨d, 0, none⟩)] w1 (fun e w2 => e = .returned (.agg #[.string (smallB (s.extract k n1)), .string (trimV (s.extract n2 n3))]) ∧ w2.cell? ⟨w.heap.size, 3, none⟩ = some (.slice none 0 0) ∧ PX w d M s (n3 + 2) MM TT 1 (.slice none 0 0) n xs w2)) := by
            intro w1 g1 g2 g3 g4
            have hp1 := nPP.out.same g1 g2 g3 g4
            refine Calls.mono (header_at d s k n1 n2 n3 (by omega) HHH.out w1 hp1.rd) ?_
            rintro e w2 ⟨q1, q2, q3⟩
            have hp2 := hp1.at_ q2 q3
            exact ⟨q1, (blk_cell hp2.r 3).trans rfl, hp2⟩
          clear nP HPk
          refine wp_region_noPanic ?_
          go_region_law
            (first
              | (go_simp; refine Calls.mono (H.out _ rfl rfl rfl rfl) ?_; rintro e w2 ⟨rfl, hl2, hT2⟩; have hlU := fun o => (World.cell?_alloc_some w2 ⟨w.heap.size, 3, none⟩ o (by rw [hl2]; rfl)).trans hl2; have hzT := blk_fz hT2.r 3; have hzU := fun o => (frozen_alloc hT2.lt 3 o).trans hzT; dsimp only)
              | (refine step_append_lies _ (by rfl) _ _ _ (by rfl) M 43 i0 _ 2 32 Tryz.underlying22 hi0 hz0 hz1 hz2 rfl (by omega) (.slice none 0 0) n xs (by rfl) (hT2.own.alloc _)
                  ⟨w2.heap.size, 0, none⟩ 1 1 [.string (smallB (s.extract k n1)), .string (trimV (s.extract n2 n3))] (by rfl) (by rfl) (World.news_of_block (cs := #[.string (smallB (s.extract k n1)), .string (trimV (s.extract n2 n3))]) (t := 43) (fr := (0, 0)) (heap_alloc_new w2 _)) (by simp [Value.oneCell'])
                  (by omega) (by unfold maxLen; omega) (by omega) (by have := hT2.o3; simp; omega) (w2.heap.size + 1) (by simp) ?_; intro gg cap3 w3 hown3 hgrow hat hlt
                 have hL3 : w3.cell? ⟨w.heap.size, 3, none⟩ = some (.slice none 0 0) := by rw [hgrow.cell_far _ (by have := hT2.lt; simp; omega) (by simpa using Ne.symm hT2.v_far)]; exact hlU _
                 have hZ3 : w3.frozen? ⟨w.heap.size, 3, none⟩ = false := by rw [hgrow.frozen_far _ (by have := hT2.lt; simp; omega) (by simpa using Ne.symm hT2.v_far)]; exact hzU _))
          all_goals
            rename_i hK
            have hG := hT2.grow hown3 hgrow _ rfl
            refine hK _ _ ?_
            (try refine NoPanic.normal ?_)
            clear hK hgrow hown3 hL3 hZ3 hzU hlU
            generalize w3.setCell _ _ = w4 at hG ⊢
            have HG := Lib.hid hG
            clear hG
            go_wp2
            go_roundg r.length
            case measure => omega
            case rel => exact ⟨r, n3 + 2, n + 1, _, _, rfl, HDD.out, by omega, by rw [← HX.out]; simp [hv], HG.out⟩
        · skip
          go_wp2_with (go_at_call 39; (with_reducible refine Calls.mono (HPk.out k hks _ rfl _ _ _ _ _ _ _ (by assumption)) ?_); rintro e w' ⟨rfl, nP⟩; have nPP := Lib.hid nP; obtain ⟨c0, c1, z1, r0, r1, r2, r3, y0, y1, y2, y3⟩ := nP.cells)
          have H : Hid (∀ w1 : World, w1.heap = w'.heap → w1.os = w'.os → w1.tape = w'.tape → w1.output = w'.output → Calls Tryz.prog 40 #[.pointer (some ⟨d, 0, none⟩)] w1 (fun e w2 => e = .returned (.agg #[.string (smallB (s.extract k n1)), .string (trimV (s.extract n2 n3))]) ∧ w2.cell? ⟨w.heap.size, 3, none⟩ = some (.slice (some ⟨gv, 0, none⟩) n cap) ∧ PX w d M s (n3 + 2) MM TT 1 (.slice (some ⟨gv, 0, none⟩) n cap) n xs w2)) := by
            intro w1 g1 g2 g3 g4
            have hp1 := nPP.out.same g1 g2 g3 g4
            refine Calls.mono (header_at d s k n1 n2 n3 (by omega) HHH.out w1 hp1.rd) ?_
            rintro e w2 ⟨q1, q2, q3⟩
            have hp2 := hp1.at_ q2 q3
            exact ⟨q1, (blk_cell hp2.r 3).trans rfl, hp2⟩
          clear nP HPk
          refine wp_region_noPanic ?_
          go_region_law
            (first
              | (go_simp; refine Calls.mono (H.out _ rfl rfl rfl rfl) ?_; rintro e w2 ⟨rfl, hl2, hT2⟩; have hlU := fun o => (World.cell?_alloc_some w2 ⟨w.heap.size, 3, none⟩ o (by rw [hl2]; rfl)).trans hl2; have hzT := blk_fz hT2.r 3; have hzU := fun o => (frozen_alloc hT2.lt 3 o).trans hzT; dsimp only)
              | (refine step_append_lies _ (by rfl) _ _ _ (by rfl) M 43 i0 _ 2 32 Tryz.underlying22 hi0 hz0 hz1 hz2 rfl (by omega) (.slice (some ⟨gv, 0, none⟩) n cap) n xs (by rfl) (hT2.own.alloc _)
                  ⟨w2.heap.size, 0, none⟩ 1 1 [.string (smallB (s.extract k n1)), .string (trimV (s.extract n2 n3))] (by rfl) (by rfl) (World.news_of_block (cs := #[.string (smallB (s.extract k n1)), .string (trimV (s.extract n2 n3))]) (t := 43) (fr := (0, 0)) (heap_alloc_new w2 _)) (by simp [Value.oneCell'])
                  (by omega) (by unfold maxLen; omega) (by omega) (by have := hT2.o3; simp; omega) (w2.heap.size + 1) (by simp) ?_; intro gg cap3 w3 hown3 hgrow hat hlt
                 have hL3 : w3.cell? ⟨w.heap.size, 3, none⟩ = some (.slice (some ⟨gv, 0, none⟩) n cap) := by rw [hgrow.cell_far _ (by have := hT2.lt; simp; omega) (by simpa using Ne.symm hT2.v_far)]; exact hlU _
                 have hZ3 : w3.frozen? ⟨w.heap.size, 3, none⟩ = false := by rw [hgrow.frozen_far _ (by have := hT2.lt; simp; omega) (by simpa using Ne.symm hT2.v_far)]; exact hzU _))
          all_goals
            rename_i hK
            have hG := hT2.grow hown3 hgrow _ rfl
            refine hK _ _ ?_
            (try refine NoPanic.normal ?_)
            clear hK hgrow hown3 hL3 hZ3 hzU hlU
            generalize w3.setCell _ _ = w4 at hG ⊢
            have HG := Lib.hid hG
            clear hG
            go_wp2
            go_roundg r.length
            case measure => omega
            case rel => exact ⟨r, n3 + 2, n + 1, _, _, rfl, HDD.out, by omega, by rw [← HX.out]; simp [hv], HG.out⟩
  · subst hmi
    have h48 : (s[t + 8]'(by omega)).toNat = 48 := by omega
    go_wp2_with (first
      | (go_at_call 38; (with_reducible refine Calls.mono (HWd.out _ _ _ _ (by assumption)) ?_); rintro e w' ⟨rfl, nP⟩; obtain ⟨c0, c1, z1, r0, r1, r2, r3, y0, y1, y2, y3⟩ := nP.cells)
      | (go_at_call 38; (with_reducible refine Calls.mono (HWc.out (by omega) h48 _ _ _ (by assumption)) ?_); rintro e w' ⟨rfl, nP⟩; obtain ⟨c0, c1, z1, r0, r1, r2, r3, y0, y1, y2, y3⟩ := nP.cells)
      | (go_at_call 39; (with_reducible refine Calls.mono (HPk.out (t + 8) (by omega) _ hc8 _ _ _ _ _ _ _ (by assumption)) ?_); rintro e w' ⟨rfl, nP⟩; have nQ := nP.put (mi' := 1) 2 (.int .i64 1) rfl; obtain ⟨c0, c1, z1, r0, r1, r2, r3, y0, y1, y2, y3⟩ := nP.cells; obtain ⟨q0, q1, qz, _, _, _, _, _, _, _, _⟩ := nQ.cells; have nR := nQ.step ((t : Int) + 8 + 1) (t + 9) (by omega))
      | (go_at_call 38; (with_reducible refine Calls.mono (HWb.out _ _ _ (by assumption)) ?_); rintro e w' ⟨rfl, nP⟩; obtain ⟨c0, c1, z1, r0, r1, r2, r3, y0, y1, y2, y3⟩ := nP.cells)
      | (go_at_call 37; (with_reducible refine Calls.mono (HSb.out _ _ (by assumption)) ?_); rintro e w' ⟨rfl, nP⟩; have nQ := nP.put (t' := s.extract (m + 1) t) 1 (.string (s.extract (m + 1) t)) rfl; obtain ⟨c0, c1, z1, r0, r1, r2, r3, y0, y1, y2, y3⟩ := nP.cells)
      | (go_at_call 38; (with_reducible refine Calls.mono (HWa.out _ _ (by assumption)) ?_); rintro e w' ⟨rfl, nP⟩; obtain ⟨c0, c1, z1, r0, r1, r2, r3, y0, y1, y2, y3⟩ := nP.cells)
      | (go_at_call 37; (with_reducible refine Calls.mono (HSa.out _ (by assumption)) ?_); rintro e w' ⟨rfl, nP⟩; have nQ := nP.put (m' := s.extract 0 m) 0 (.string (s.extract 0 m)) rfl; obtain ⟨c0, c1, z1, r0, r1, r2, r3, y0, y1, y2, y3⟩ := nP.cells))
    generalize hM : s.extract 0 m = MM at *
    generalize hT : s.extract (m + 1) t = TT at *
    go_loopg [] l.length (fun g wr => ∃ (r : List (Nat × Nat × Nat)) (k n : Nat) (v : Value) (xs : List Value), g = r.length ∧ Hdrs s k r ke ∧ n + r.length = l.length ∧ xs ++ hv s k r = hv s (t + 11) l ∧ PX w d M s k MM TT 0 v n xs wr)
    case atStart => exact ⟨l, t + 11, 0, _, [], rfl, HHD.out, by omega, rfl, nP⟩
    case round =>
      clear nP c0 c1 z1 r0 r1 r2 r3 y0 y1 y2 y3
      obtain ⟨r, k, n, v, xs, hg, hD, hn, hxs, nP⟩ := hrel
      cases r with
      | nil =>
        obtain rfl : k = ke := hD
        have he3 := HE3.out
        have hks : k < s.size := by omega
        have hc : (s[k].toNat : Int) = 13 := by rw [HE1.out hks]; decide
        have HWe : Hid (∀ x, PX w d M s k MM TT 0 v n xs x → Calls Tryz.prog 38 #[.pointer (some ⟨d, 0, none⟩), .string ⟨#[13, 10]⟩] x fun e w' => e = .returned (.tuple #[]) ∧ PX w d M s (k + 2) MM TT 0 v n xs w') := fun x h =>
          Calls.mono (want_at d s ⟨#[13, 10]⟩ x k (by omega) (by decide) (by show k + 2 ≤ s.size; omega) (fun i hi g1 g2 => by
            have hi2 : i < 2 := hi
            rcases (by omega : i = 0 ∨ i = 1) with rfl | rfl
            · exact HE1.out (by omega)
            · exact he2 (by omega)) x ⟨But.refl _ _, h.rd⟩) fun e w' ⟨g1, g2, g3⟩ => ⟨g1, h.at_ g2 g3⟩
        have hend : ¬ ((k + 2 : Nat) : Int) < (s.size : Int) := by omega
        have hend2 : ¬ (k : Int) + 2 < (s.size : Int) := by omega
        have HX := Lib.hid hxs
        have HNN := Lib.hid hn
        clear hxs hn he2 he3
        have hform : (v = .slice none 0 0 ∧ n = 0) ∨ ∃ g cap, v = .slice (some ⟨g, 0, none⟩) n cap := by
          rcases nP.own.2 with h0 | ⟨g, cap, _, hv, _⟩
          · exact Or.inl h0
          · exact Or.inr ⟨g, cap, hv⟩
        rcases hform with ⟨rfl, hn0⟩ | ⟨gv, cap, rfl⟩
        · clear hn0
          go_wp2_with (first
            | (go_at_call 38; (with_reducible refine Calls.mono (HWe.out _ (by assumption)) ?_); rintro e w' ⟨rfl, nP⟩; have HPP := Lib.hid nP; have ee := (blk_cell nP.e 0).trans rfl; have ez := blk_fz nP.e 0; obtain ⟨c0, c1, z1, r0, r1, r2, r3, y0, y1, y2, y3⟩ := nP.cells; clear nP)
            | (go_at_call 39; (with_reducible refine Calls.mono (HPk.out k hks 13 hc _ _ _ _ _ _ _ (by assumption)) ?_); rintro e w' ⟨rfl, nP⟩))
          refine leaves_cons (f := 35) (args := #[.pointer (some ⟨w.heap.size, 0, none⟩), .pointer (some ⟨w.heap.size + 1, 0, none⟩)]) (by simp) (by simp [go_sem]) ?_
          refine (catch_idle ⟨w.heap.size, 0, none⟩ ⟨w.heap.size + 1, 0, none⟩ _).mono ?_
          rintro e u' w'' ⟨rfl, rfl, hw⟩
          obtain ⟨⟨f0, f1, f2, f3, f4⟩, fo, fb⟩ := HPP.out.fin w'' hw
          have FO := Lib.hid fo
          have FB := Lib.hid fb
          have FM := Lib.hid (show w.heap.size ≤ M by have a1 := HPP.out.o1; have a2 := HPP.out.o2; omega)
          clear hw fo fb c0 c1 z1 r0 r1 r2 r3 y0 y1 y2 y3 ee ez HPP
          simp [Leaves, settle, results, Tryz.results14, go_sem, f0, f1, f2, f3, f4]
          have q1 := HNN.out
          have q2 := HX.out
          simp [hv] at q1 q2
          exact ⟨_, ⟨hM.symm, hT.symm, rfl⟩, M, by rw [← q1, ← q2]; exact FO.out, FM.out, FB.out⟩
        · skip
          go_wp2_with (first
            | (go_at_call 38; (with_reducible refine Calls.mono (HWe.out _ (by assumption)) ?_); rintro e w' ⟨rfl, nP⟩; have HPP := Lib.hid nP; have ee := (blk_cell nP.e 0).trans rfl; have ez := blk_fz nP.e 0; obtain ⟨c0, c1, z1, r0, r1, r2, r3, y0, y1, y2, y3⟩ := nP.cells; clear nP)
            | (go_at_call 39; (with_reducible refine Calls.mono (HPk.out k hks 13 hc _ _ _ _ _ _ _ (by assumption)) ?_); rintro e w' ⟨rfl, nP⟩))
          refine leaves_cons (f := 35) (args := #[.pointer (some ⟨w.heap.size, 0, none⟩), .pointer (some ⟨w.heap.size + 1, 0, none⟩)]) (by simp) (by simp [go_sem]) ?_
          refine (catch_idle ⟨w.heap.size, 0, none⟩ ⟨w.heap.size + 1, 0, none⟩ _).mono ?_
          rintro e u' w'' ⟨rfl, rfl, hw⟩
          obtain ⟨⟨f0, f1, f2, f3, f4⟩, fo, fb⟩ := HPP.out.fin w'' hw
          have FO := Lib.hid fo
          have FB := Lib.hid fb
          have FM := Lib.hid (show w.heap.size ≤ M by have a1 := HPP.out.o1; have a2 := HPP.out.o2; omega)
          clear hw fo fb c0 c1 z1 r0 r1 r2 r3 y0 y1 y2 y3 ee ez HPP
          simp [Leaves, settle, results, Tryz.results14, go_sem, f0, f1, f2, f3, f4]
          have q1 := HNN.out
          have q2 := HX.out
          simp [hv] at q1 q2
          exact ⟨_, ⟨hM.symm, hT.symm, rfl⟩, M, by rw [← q1, ← q2]; exact FO.out, FM.out, FB.out⟩
      | cons q r =>
        obtain ⟨n1, n2, n3⟩ := q
        obtain ⟨hh, hD⟩ := hD
        simp only [List.length_cons] at hn hg
        have hks : k < s.size := by have a1 := hh.h1; have a2 := hh.h2; have a3 := hh.h3; have a4 := hh.h4; omega
        have h13 := hdr_not13 hh hks
        have hn64 : n < 64 := by omega
        have hn64' : ((n : Int) == 64) = false := by rw [beq_eq_false_iff_ne]; omega
        have HX := Lib.hid hxs
        have HDD := Lib.hid hD
        have HHH := Lib.hid hh
        clear hxs hD hh
        have hform : (v = .slice none 0 0 ∧ n = 0) ∨ ∃ g cap, v = .slice (some ⟨g, 0, none⟩) n cap := by
          rcases nP.own.2 with h0 | ⟨g, cap, _, hv, _⟩
          · exact Or.inl h0
          · exact Or.inr ⟨g, cap, hv⟩
        rcases hform with ⟨rfl, hn0⟩ | ⟨gv, cap, rfl⟩
        · have HN0 := Lib.hid hn0
          have hn0' : n ≤ 0 := by omega
          have hz : (0 : Int) = (n : Int) := by omega
          clear hn0
          go_wp2_with (go_at_call 39; (with_reducible refine Calls.mono (HPk.out k hks _ rfl _ _ _ _ _ _ _ (by assumption)) ?_); rintro e w' ⟨rfl, nP⟩; have nPP := Lib.hid nP; obtain ⟨c0, c1, z1, r0, r1, r2, r3, y0, y1, y2, y3⟩ := nP.cells)
          have H : Hid (∀ w1 : World, w1.heap = w'.heap → w1.os = w'.os → w1.tape = w'.tape → w1.output = w'.output → Calls Tryz.prog 40 #[.pointer (some ⟨d, 0, none⟩)] w1 (fun e w2 => e = .returned (.agg #[.string (smallB (s.extract k n1)), .string (trimV (s.extract n2 n3))]) ∧ w2.cell? ⟨w.heap.size, 3, none⟩ = some (.slice none 0 0) ∧ PX w d M s (n3 + 2) MM TT 0 (.slice none 0 0) n xs w2)) := by
            intro w1 g1 g2 g3 g4
            have hp1 := nPP.out.same g1 g2 g3 g4
            refine Calls.mono (header_at d s k n1 n2 n3 (by omega) HHH.out w1 hp1.rd) ?_
            rintro e w2 ⟨q1, q2, q3⟩
            have hp2 := hp1.at_ q2 q3
            exact ⟨q1, (blk_cell hp2.r 3).trans rfl, hp2⟩
          clear nP HPk
          refine wp_region_noPanic ?_
          go_region_law
            (first
              | (go_simp; refine Calls.mono (H.out _ rfl rfl rfl rfl) ?_; rintro e w2 ⟨rfl, hl2, hT2⟩; have hlU := fun o => (World.cell?_alloc_some w2 ⟨w.heap.size, 3, none⟩ o (by rw [hl2]; rfl)).trans hl2; have hzT := blk_fz hT2.r 3; have hzU := fun o => (frozen_alloc hT2.lt 3 o).trans hzT; dsimp only)
              | (refine step_append_lies _ (by rfl) _ _ _ (by rfl) M 43 i0 _ 2 32 Tryz.underlying22 hi0 hz0 hz1 hz2 rfl (by omega) (.slice none 0 0) n xs (by rfl) (hT2.own.alloc _)
                  ⟨w2.heap.size, 0, none⟩ 1 1 [.string (smallB (s.extract k n1)), .string (trimV (s.extract n2 n3))] (by rfl) (by rfl) (World.news_of_block (cs := #[.string (smallB (s.extract k n1)), .string (trimV (s.extract n2 n3))]) (t := 43) (fr := (0, 0)) (heap_alloc_new w2 _)) (by simp [Value.oneCell'])
                  (by omega) (by unfold maxLen; omega) (by omega) (by have := hT2.o3; simp; omega) (w2.heap.size + 1) (by simp) ?_; intro gg cap3 w3 hown3 hgrow hat hlt
                 have hL3 : w3.cell? ⟨w.heap.size, 3, none⟩ = some (.slice none 0 0) := by rw [hgrow.cell_far _ (by have := hT2.lt; simp; omega) (by simpa using Ne.symm hT2.v_far)]; exact hlU _
                 have hZ3 : w3.frozen? ⟨w.heap.size, 3, none⟩ = false := by rw [hgrow.frozen_far _ (by have := hT2.lt; simp; omega) (by simpa using Ne.symm hT2.v_far)]; exact hzU _))
          all_goals
            rename_i hK
            have hG := hT2.grow hown3 hgrow _ rfl
            refine hK _ _ ?_
            (try refine NoPanic.normal ?_)
            clear hK hgrow hown3 hL3 hZ3 hzU hlU
            generalize w3.setCell _ _ = w4 at hG ⊢
            have HG := Lib.hid hG
            clear hG
            go_wp2
            go_roundg r.length
            case measure => omega
            case rel => exact ⟨r, n3 + 2, n + 1, _, _, rfl, HDD.out, by omega, by rw [← HX.out]; simp [hv], HG.out⟩
        · skip
          go_wp2_with (go_at_call 39; (with_reducible refine Calls.mono (HPk.out k hks _ rfl _ _ _ _ _ _ _ (by assumption)) ?_); rintro e w' ⟨rfl, nP⟩; have nPP := Lib.hid nP; obtain ⟨c0, c1, z1, r0, r1, r2, r3, y0, y1, y2, y3⟩ := nP.cells)
          have H : Hid (∀ w1 : World, w1.heap = w'.heap → w1.os = w'.os → w1.tape = w'.tape → w1.output = w'.output → Calls Tryz.prog 40 #[.pointer (some ⟨d, 0, none⟩)] w1 (fun e w2 => e = .returned (.agg #[.string (smallB (s.extract k n1)), .string (trimV (s.extract n2 n3))]) ∧ w2.cell? ⟨w.heap.size, 3, none⟩ = some (.slice (some ⟨gv, 0, none⟩) n cap) ∧ PX w d M s (n3 + 2) MM TT 0 (.slice (some ⟨gv, 0, none⟩) n cap) n xs w2)) := by
            intro w1 g1 g2 g3 g4
            have hp1 := nPP.out.same g1 g2 g3 g4
            refine Calls.mono (header_at d s k n1 n2 n3 (by omega) HHH.out w1 hp1.rd) ?_
            rintro e w2 ⟨q1, q2, q3⟩
            have hp2 := hp1.at_ q2 q3
            exact ⟨q1, (blk_cell hp2.r 3).trans rfl, hp2⟩
          clear nP HPk
          refine wp_region_noPanic ?_
          go_region_law
            (first
              | (go_simp; refine Calls.mono (H.out _ rfl rfl rfl rfl) ?_; rintro e w2 ⟨rfl, hl2, hT2⟩; have hlU := fun o => (World.cell?_alloc_some w2 ⟨w.heap.size, 3, none⟩ o (by rw [hl2]; rfl)).trans hl2; have hzT := blk_fz hT2.r 3; have hzU := fun o => (frozen_alloc hT2.lt 3 o).trans hzT; dsimp only)
              | (refine step_append_lies _ (by rfl) _ _ _ (by rfl) M 43 i0 _ 2 32 Tryz.underlying22 hi0 hz0 hz1 hz2 rfl (by omega) (.slice (some ⟨gv, 0, none⟩) n cap) n xs (by rfl) (hT2.own.alloc _)
                  ⟨w2.heap.size, 0, none⟩ 1 1 [.string (smallB (s.extract k n1)), .string (trimV (s.extract n2 n3))] (by rfl) (by rfl) (World.news_of_block (cs := #[.string (smallB (s.extract k n1)), .string (trimV (s.extract n2 n3))]) (t := 43) (fr := (0, 0)) (heap_alloc_new w2 _)) (by simp [Value.oneCell'])
                  (by omega) (by unfold maxLen; omega) (by omega) (by have := hT2.o3; simp; omega) (w2.heap.size + 1) (by simp) ?_; intro gg cap3 w3 hown3 hgrow hat hlt
                 have hL3 : w3.cell? ⟨w.heap.size, 3, none⟩ = some (.slice (some ⟨gv, 0, none⟩) n cap) := by rw [hgrow.cell_far _ (by have := hT2.lt; simp; omega) (by simpa using Ne.symm hT2.v_far)]; exact hlU _
                 have hZ3 : w3.frozen? ⟨w.heap.size, 3, none⟩ = false := by rw [hgrow.frozen_far _ (by have := hT2.lt; simp; omega) (by simpa using Ne.symm hT2.v_far)]; exact hzU _))
          all_goals
            rename_i hK
            have hG := hT2.grow hown3 hgrow _ rfl
            refine hK _ _ ?_
            (try refine NoPanic.normal ?_)
            clear hK hgrow hown3 hL3 hZ3 hzU hlU
            generalize w3.setCell _ _ = w4 at hG ⊢
            have HG := Lib.hid hG
            clear hG
            go_wp2
            go_roundg r.length
            case measure => omega
            case rel => exact ⟨r, n3 + 2, n + 1, _, _, rfl, HDD.out, by omega, by rw [← HX.out]; simp [hv], HG.out⟩

end Go.Proofs.YtpjjkejppgehaaaGreatDoor
