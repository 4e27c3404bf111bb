/- ranges.Parse of good lines. -/
import Derived.Test.YthggpjiabklekaaGreatDoorPk
import Derived.Test.YthggpjiabklekaaGreatDoorKt
import Derived.WalkMore
import Derived.Laws.OwnMore
import Derived.Deep.AppendLies
namespace Go.Proofs.YthggpjiabklekaaGreatDoor
set_option linter.unusedSimpArgs false
set_option linter.unusedVariables false
open Go.RowKit Go.Lib
attribute [local go_sem] Exit.noGoto_ret

def rgV (x : Rg) : Value := .agg #[.int .i32 x.1, .int .i32 x.2.1, .int .i64 x.2.2]
def cells3 : List Rg → List Value
  | [] => []
  | x :: r => .int .i32 x.1 :: .int .i32 x.2.1 :: .int .i64 x.2.2 :: cells3 r
theorem cells3_length : ∀ l : List Rg, (cells3 l).length = l.length * 3
  | [] => rfl
  | x :: r => by simp [cells3, cells3_length r]; omega
theorem cells3_snoc : ∀ (l : List Rg) (x : Rg), cells3 (l ++ [x]) = cells3 l ++ [.int .i32 x.1, .int .i32 x.2.1, .int .i64 x.2.2]
  | [], x => rfl
  | y :: r, x => by simp [cells3, cells3_snoc r x]
theorem cells3_at : ∀ (l : List Rg) (j : Nat) (h : j < l.length), (cells3 l)[j * 3]? = some (.int .i32 l[j].1) ∧ (cells3 l)[j * 3 + 1]? = some (.int .i32 l[j].2.1) ∧ (cells3 l)[j * 3 + 2]? = some (.int .i64 l[j].2.2)
  | x :: r, 0, _ => ⟨rfl, rfl, rfl⟩
  | x :: r, j + 1, h => by
    have ih := cells3_at r j (by simpa using h)
    simpa [cells3, Nat.add_mul] using ih
/-- What the walk wants of the world. -/
structure RInv (w : World) : Prop where
  is : IsInv w
  tz : Tz w
  p10 : Pow10 w
  mx : ∃ m : Int, w.cell? ⟨19, 0, none⟩ = some (.int .i64 m)
theorem RInv.below {w w' : World} (h : RInv w) (hb : Below w.heap.size w w') : RInv w' where
  is := h.is.below hb
  tz := h.tz.below hb
  p10 := h.p10.below hb
  mx := by obtain ⟨m, hm⟩ := h.mx; exact ⟨m, cell_in hb hm⟩
/-- Good lines, and what they say. -/
def LinesG : ByteArray → List Rg → Prop
  | s, [] => s.size = 0
  | s, x :: r => 0 < s.size ∧ ∃ ln rest : ByteArray, rest.size < s.size ∧
      (∀ W, RInv W → Calls Tryz.prog 34 #[.string s, .string ⟨#[10]⟩] W fun e w' => e = .returned (.tuple #[.string ln, .string rest, .bool true]) ∧ Below W.heap.size W w') ∧
      (∀ W, RInv W → Calls Tryz.prog 35 #[.string ln] W fun e w' => e = .returned (.tuple #[rgV x, .bool true]) ∧ Below W.heap.size W w') ∧ LinesG rest r
theorem infoR28 : (Tryz.prog.info? 28).map (fun i => (i.zero, i.size, i.bytes)) = some (some (.agg #[(.int .i32 0), (.int .i32 0), (.int .i64 0)]), 3, 16) := by kernel_rfl
theorem own_below {w w' : World} {base n : Nat} {e : TypeId} {size : Nat} {v : Value} {xs : List Value} (h : w.ownsRow base e size v n xs) (hb : Below w.heap.size w w') : w'.ownsRow base e size v n xs := by
  refine ⟨h.1, ?_⟩
  rcases h.2 with h' | ⟨g, cap, cur, e1, e2, e3, e4⟩
  · exact .inl h'
  · exact .inr ⟨g, cap, cur, e1, e2, below_blk hb e3, e4⟩
theorem addr0 (g k : Nat) : (⟨g, 0, none⟩ : Addr).add k = ⟨g, k, none⟩ := by
  unfold Addr.add
  split
  · subst_vars; rfl
  · simp
set_option maxRecDepth 100000 in
set_option maxHeartbeats 8000000 in
theorem parse_lines (s : ByteArray) (L : List Rg) (hs : s.size ≤ 1000000) (hL : LinesG s L) (hn : L.length ≤ 2000) (hC : checkS L = none) (w : World) (hI : RInv w) :
    Calls Tryz.prog 17 #[.string s] w fun e w' => ∃ v, e = .returned (.tuple #[v, .nilIface]) ∧ w'.ownsRow w.heap.size 28 3 v L.length (cells3 L) ∧ Below w.heap.size w w' := by
  have HI := Lib.hid hI
  have HL := Lib.hid hL
  have HC := Lib.hid hC
  obtain ⟨i0, hi0, hz0, hz1, hz2⟩ := info_parts infoR28
  clear hI hL hC
  go_enter Tryz.func17, Tryz.ntmps17
  go_wp2
  go_step3
  go_wp2
  go_step3
  go_wp2
  go_loopw [0, 4, 5] (fun s0 s4 s5 wr => ∃ (t : ByteArray) (D R : List Rg), s0 = .string t ∧ t.size ≤ 1000000 ∧ D ++ R = L ∧ LinesG t R ∧ s5 = .int .i64 D.length ∧ wr.ownsRow w.heap.size 28 3 s4 D.length (cells3 D) ∧ Below w.heap.size w wr) (fun s0 _ _ _ => match s0 with | .string t => t.size | _ => 0)
  case atStart => exact ⟨s, [], L, rfl, hs, rfl, HL.out, rfl, World.ownsRow_nil _ _ _ _, Below.refl _ _⟩
  case round =>
    obtain ⟨t, D, R, rfl, ht, hDR, hR, rfl, hown, hB⟩ := hrel
    have HDR := Lib.hid hDR
    have hDl : D.length + R.length ≤ 2000 := by rw [← List.length_append, hDR]; exact hn
    have HOwn := Lib.hid hown
    have HB := Lib.hid hB
    have HRI := Lib.hid (HI.out.below hB)
    cases R with
    | nil =>
      have hz : t.size = 0 := hR
      have hz' : ¬ (t.size : Int) > 0 := by omega
      obtain rfl : D = L := by rw [← hDR, List.append_nil]
      obtain ⟨A, c, rfl, hA⟩ : ∃ A c, u4 = .slice A D.length c ∧ Lies wr A D := by
        rcases hown.2 with ⟨e, h0⟩ | ⟨g, cap, cur, e, h1, h2, h3, h4, h5, h6⟩
        · exact ⟨none, 0, by rw [e, h0], fun h => by omega⟩
        · refine ⟨some ⟨g, 0, none⟩, cap, e, fun _ => ⟨_, rfl, fun j hj => ?_⟩⟩
          subst e
          obtain ⟨c1, c2, c3⟩ := cells3_at D j hj
          refine ⟨?_, ?_, ?_⟩
          · have h := hown.cellAt (j * 3) (by omega); rw [c1] at h; rw [addr0]; exact h
          · have h := hown.cellAt (j * 3 + 1) (by omega); rw [c2] at h; rw [addr0]; exact h
          · have h := hown.cellAt (j * 3 + 2) (by omega); rw [c3] at h; rw [addr0]; exact h
      have CK := check_small A c D wr HRI.out.is hA hn
      rw [HC.out] at CK
      have CK' := Lib.hid CK
      clear hR hz hDR hown hB hA CK
      go_wp2_with ((go_at_call 26; refine CK'.out.mono ?_; rintro e w3 ⟨v3, rfl, hf, hb⟩; obtain rfl : v3 = .nilIface := hf; have n0_ := Lib.hid (below_to HB.out hb); clear HB; have HB := n0_; clear n0_; have n0_ := Lib.hid (own_below HOwn.out hb); clear HOwn; have HOwn := n0_; clear n0_ hb))
      simp only [Exit.then, Exit.inBlock, Exit.noGoto_ret]
      go_ret2
      exact ⟨_, rfl, HOwn.out, HB.out⟩
    | cons x r =>
      obtain ⟨h0, ln, rest, hlt, hcut, hread, hrest⟩ := hR
      have h0' : (t.size : Int) > 0 := by omega
      have CUT := Lib.hid hcut
      have RD := Lib.hid hread
      have HRest := Lib.hid hrest
      clear hcut hread hrest hDR hown hB
      unfold rgV at RD
      go_wp2_with (first
        | (go_at_call 34; refine (CUT.out _ HRI.out).mono ?_; rintro e w1 ⟨rfl, hb⟩; have n0_ := Lib.hid (HRI.out.below hb); clear HRI; have HRI := n0_; clear n0_; have n0_ := Lib.hid (below_to HB.out hb); clear HB; have HB := n0_; clear n0_; have n0_ := Lib.hid (own_below HOwn.out hb); clear HOwn; have HOwn := n0_; clear n0_ hb)
        | (go_at_call 35; refine (RD.out _ HRI.out).mono ?_; rintro e w2 ⟨rfl, hb⟩; have n0_ := Lib.hid (HRI.out.below hb); clear HRI; have HRI := n0_; clear n0_; have n0_ := Lib.hid (below_to HB.out hb); clear HB; have HB := n0_; clear n0_; have n0_ := Lib.hid (own_below HOwn.out hb); clear HOwn; have HOwn := n0_; clear n0_ hb)
        | (at_builtin; refine wpList_append_own _ rfl _ _ 22 rfl w.heap.size 28 i0 _ 3 16 Tryz.underlying22 hi0 hz0 hz1 hz2 rfl (by decide) u4 D.length (cells3 D) rfl ((HOwn.out.alloc _).alloc _) ⟨w2.heap.size + 1, 0, none⟩ 1 1 [.int .i32 x.1, .int .i32 x.2.1, .int .i64 x.2.2] rfl rfl ?c1 ?c2 ?c3 ?c4 ?c5 ?_))
      case c1 =>
        have h := blk_new (w2.alloc (.cells #[.int .i32 x.1, .int .i32 x.2.1, .int .i64 x.2.2] 28)) (.cells #[.int .i32 x.1, .int .i32 x.2.1, .int .i64 x.2.2] 28)
        rw [World.size_alloc] at h
        exact World.news_of_block (cs := #[.int .i32 x.1, .int .i32 x.2.1, .int .i64 x.2.2]) (t := 28) (fr := (0, 0)) h
      case c2 => simp [Value.oneCell']
      case c3 => unfold maxLen; simp at hDl; omega
      case c4 => simp at hDl; omega
      case c5 => have h1 := HB.out.size; simp; omega
      intro v' w10 hown' hgrow _
      have hrow : ∀ g, u4.ownBlock = some g → w.heap.size ≤ g := fun g hg => (HOwn.out.lt g hg).1
      have hB10 : Below w.heap.size w w10 := Below.grown ((HB.out.alloc HB.out.size _).alloc (by simp; have := HB.out.size; omega) _) hgrow (by simp; have := HB.out.size; omega) hrow
      have HB10 := Lib.hid hB10
      have HO10 := Lib.hid hown'
      clear hrow hB10 hgrow hown'
      go_wp2
      go_roundw
      case rel =>
        refine ⟨rest, D ++ [x], r, rfl, by omega, by rw [List.append_assoc]; exact HDR.out, HRest.out, ?_, ?_, HB10.out⟩
        · simp
        · rw [cells3_snoc, List.length_append]; exact HO10.out
      case measure => simp; omega
end Go.Proofs.YthggpjiabklekaaGreatDoor
