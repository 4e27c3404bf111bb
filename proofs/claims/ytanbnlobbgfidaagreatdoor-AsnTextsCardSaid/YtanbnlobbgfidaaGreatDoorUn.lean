/- asn.Union. -/
import Derived.Test.YtanbnlobbgfidaaGreatDoorSo
import Derived.LoopTactic
import Derived.Deep.LoopGhost
import Derived.Deep.AppendLies
import Derived.Outline
namespace Go.Proofs.YtanbnlobbgfidaaGreatDoor
set_option linter.unusedSimpArgs false
set_option linter.unusedVariables false
open Go.RowKit Go.Lib Go.Sort

/-- One span more. -/
def joinS (out : List (Int × Int)) (x : Int × Int) : List (Int × Int) :=
  if x.1 > x.2 then out
  else match out.getLast? with
    | none => [x]
    | some y => if x.1 ≤ y.2 + 1 then out.dropLast ++ [(y.1, max y.2 x.2)] else out ++ [x]
/-- asn.Union. -/
def unionS (l : List (Int × Int)) : List (Int × Int) := (l.mergeSort spanLe).foldl joinS []
/-- Spans of 32 bits. -/
def U32s (l : List (Int × Int)) : Prop := ∀ x ∈ l, 0 ≤ x.1 ∧ x.1 < 4294967296 ∧ 0 ≤ x.2 ∧ x.2 < 4294967296

theorem flat_fst (l : List (Int × Int)) (k : Nat) (h : k < l.length) : (flat l)[k * 2]? = some (.int .u32 l[k].1) := by
  rw [flat_get, if_pos (by omega), show k * 2 / 2 = k by omega, show k * 2 % 2 = 0 by omega, List.getD_eq_getElem?_getD, List.getElem?_eq_getElem h]
  rfl
theorem flat_snd (l : List (Int × Int)) (k : Nat) (h : k < l.length) : (flat l)[k * 2 + 1]? = some (.int .u32 l[k].2) := by
  rw [flat_get, if_pos (by omega), show (k * 2 + 1) / 2 = k by omega, show (k * 2 + 1) % 2 = 1 by omega, List.getD_eq_getElem?_getD, List.getElem?_eq_getElem h]
  rfl
theorem fold_succ (ls : List (Int × Int)) (k : Nat) (h : k < ls.length) : (ls.take (k + 1)).foldl joinS [] = joinS ((ls.take k).foldl joinS []) ls[k] := by
  rw [List.take_succ_eq_append_getElem h, List.foldl_append]
  rfl
theorem U32s.join {out : List (Int × Int)} {x : Int × Int} (h : U32s out) (hx : 0 ≤ x.1 ∧ x.1 < 4294967296 ∧ 0 ≤ x.2 ∧ x.2 < 4294967296) : U32s (joinS out x) := by
  unfold joinS
  split
  · exact h
  · split
    · intro z hz
      rw [List.mem_singleton.1 hz]
      exact hx
    · rename_i y hy
      have hym := h y (List.mem_of_getLast? hy)
      split
      · intro z hz
        rcases List.mem_append.1 hz with hz | hz
        · exact h z ((List.dropLast_sublist out).subset hz)
        · rw [List.mem_singleton.1 hz]
          simp only
          omega
      · intro z hz
        rcases List.mem_append.1 hz with hz | hz
        · exact h z hz
        · rw [List.mem_singleton.1 hz]
          exact hx
theorem U32s.fold {ls : List (Int × Int)} (h : U32s ls) : ∀ out, U32s out → U32s (ls.foldl joinS out) := by
  induction ls with
  | nil => intro out ho; exact ho
  | cons x r ih =>
    intro out ho
    rw [List.foldl_cons]
    exact ih (fun z hz => h z (List.mem_cons_of_mem _ hz)) _ (ho.join (h x (List.mem_cons_self ..)))
theorem flat_set_last (ini : List (Int × Int)) (a b m : Int) : (flat (ini ++ [(a, b)])).set (ini.length * 2 + 1) (.int .u32 m) = flat (ini ++ [(a, m)]) := by
  rw [flat_append, flat_append, List.set_append_right _ _ (by rw [flat_length]; omega), flat_length]
  have e : ini.length * 2 + 1 - ini.length * 2 = 1 := by omega
  rw [e]
  rfl
theorem join_len (out : List (Int × Int)) (x : Int × Int) : (joinS out x).length ≤ out.length + 1 := by
  unfold joinS
  split
  · omega
  · split
    · simp
    · split <;> simp <;> omega
theorem fold_len (ls : List (Int × Int)) : ∀ out, (ls.foldl joinS out).length ≤ out.length + ls.length := by
  induction ls with
  | nil => intro out; simp
  | cons x r ih =>
    intro out
    rw [List.foldl_cons]
    have := ih (joinS out x)
    have := join_len out x
    simp
    omega
theorem join_nil (x1 x2 : Int) (h : ¬ x1 > x2) : joinS [] (x1, x2) = [(x1, x2)] := by
  unfold joinS
  rw [if_neg (show ¬ (x1, x2).1 > (x1, x2).2 from h)]
  rfl
theorem join_last (ini : List (Int × Int)) (y1 y2 x1 x2 : Int) (h : ¬ x1 > x2) (hj : x1 ≤ y2 + 1) : joinS (ini ++ [(y1, y2)]) (x1, x2) = ini ++ [(y1, max y2 x2)] := by
  unfold joinS
  rw [if_neg (show ¬ (x1, x2).1 > (x1, x2).2 from h), List.getLast?_concat]
  simp only
  rw [if_pos hj, List.dropLast_concat]
theorem join_more (ini : List (Int × Int)) (y1 y2 x1 x2 : Int) (h : ¬ x1 > x2) (hj : ¬ x1 ≤ y2 + 1) : joinS (ini ++ [(y1, y2)]) (x1, x2) = ini ++ [(y1, y2)] ++ [(x1, x2)] := by
  unfold joinS
  rw [if_neg (show ¬ (x1, x2).1 > (x1, x2).2 from h), List.getLast?_concat]
  simp only
  rw [if_neg hj]
theorem own_low {w : World} {b b' : Nat} {e : TypeId} {size n : Nat} {v : Value} {xs : List Value} (h : w.ownsRow b e size v n xs) (hb : b' ≤ b) : w.ownsRow b' e size v n xs := by
  refine ⟨h.1, ?_⟩
  rcases h.2 with h2 | ⟨g, cap, cur, h1, h2, h3⟩
  · exact .inl h2
  · exact .inr ⟨g, cap, cur, h1, Nat.le_trans hb h2, h3⟩
/-- A row that is owned, as a slice. -/
theorem own_slice {w : World} {base : Nat} {e : TypeId} {v : Value} {n : Nat} {xs : List Value} (h : w.ownsRow base e 2 v n xs) :
    ∃ A c, v = .slice A n c ∧ (0 < n → ∃ g, A = some ⟨g, 0, none⟩ ∧ base ≤ g ∧ g < w.heap.size ∧ (∀ j, j < n * 2 → w.cell? ⟨g, j, none⟩ = xs[j]? ∧ w.frozen? ⟨g, j, none⟩ = false)) := by
  rcases h.2 with ⟨rfl, rfl⟩ | ⟨g, cap, cur, rfl, hb, hg, h1, h2, h3, h4⟩
  · exact ⟨none, 0, rfl, fun h => by omega⟩
  · exact ⟨_, _, rfl, fun _ => ⟨g, rfl, hb, (Array.getElem?_eq_some_iff.1 hg).1, fun j hj => ⟨h.cellAt j hj, h.frozenAt j⟩⟩⟩
set_option maxRecDepth 20000 in
set_option maxHeartbeats 2000000 in
theorem union_any (v : Value) (l : List (Int × Int)) (w : World) (hl : l.length ≤ 1000000) (hu : U32s l) (h : Reads w v l) :
    Calls Tryz.prog 8 #[v] w fun e w' => ∃ v', e = .returned v' ∧ w'.ownsRow w.heap.size 28 2 v' (unionS l).length (flat (unionS l)) ∧ Below w.heap.size w w' := by
  obtain ⟨i0, hi, hz0, hz1, hz2⟩ := info_parts infoSpan
  have H := Lib.hid h
  have HU := Lib.hid hu
  clear h hu
  go_enter Tryz.func8, Tryz.ntmps8
  go_wp2
  go_step3
  go_wp2_with (first
    | (go_at_call 22; refine (sortRow_any w.heap.size vs l w1 hl HO1.out).mono ?_; rintro e w2 ⟨rfl, ho, hg⟩; have HO2 := Lib.hid ho; have HB2 := Lib.hid (HB1.out.grown hg HB1.out.size (fun k hk => (HO1.out.lt k hk).1)); clear ho hg)
    | (go_at_call 21; refine (clone_any v l w hl H.out).mono ?_; rintro e w1 ⟨vs, rfl, ho, hb⟩; have HO1 := Lib.hid ho; have HB1 := Lib.hid hb; clear ho hb))
  go_step3
  obtain ⟨A, c, rfl, hA⟩ := own_slice HO2.out
  have HA := Lib.hid hA
  clear hA
  go_wp2
  have hls : (l.mergeSort spanLe).length = l.length := List.length_mergeSort ..
  generalize hL : l.mergeSort spanLe = ls at HO2 HA hls
  have HL := Lib.hid hL
  have HLL := Lib.hid hls
  clear hL hls
  go_loopw [4, 14] (fun o i wr => ∃ k : Nat, k ≤ l.length ∧ i = .int .i64 k ∧ wr.ownsRow w2.heap.size 28 2 o ((ls.take k).foldl joinS []).length (flat ((ls.take k).foldl joinS [])) ∧ Below w2.heap.size w2 wr) (fun _ i _ => l.length - (RowKit.intOf i).toNat)
  case atStart => exact ⟨0, Nat.zero_le _, rfl, World.ownsRow_nil _ _ _ _, Below.refl _ _⟩
  case round =>
    obtain ⟨k, hk, rfl, ho, hb⟩ := hrel
    by_cases hk2 : k < l.length
    · obtain ⟨g, rfl, hg1, hg2, hg3⟩ := HA.out (by omega)
      have hx : k < ls.length := by rw [HLL.out]; exact hk2
      obtain ⟨x, hxx⟩ : ∃ x, ls[k] = x := ⟨_, rfl⟩
      have hc0 : wr.cell? ⟨g, k * 2, none⟩ = some (.int .u32 x.1) := by
        rw [hb.cell (p := ⟨g, k * 2, none⟩) hg2, (hg3 (k * 2) (by omega)).1, flat_fst ls k hx, hxx]
      have hc1 : wr.cell? ⟨g, k * 2 + 1, none⟩ = some (.int .u32 x.2) := by
        rw [hb.cell (p := ⟨g, k * 2 + 1, none⟩) hg2, (hg3 (k * 2 + 1) (by omega)).1, flat_snd ls k hx, hxx]
      have hxm : x ∈ l := by
        have : x ∈ l.mergeSort spanLe := by rw [HL.out, ← hxx]; exact List.getElem_mem hx
        exact List.mem_mergeSort.1 this
      have hxb := HU.out x hxm
      have hU : U32s ((ls.take k).foldl joinS []) := U32s.fold (fun z hz => HU.out z (List.mem_mergeSort.1 (by rw [HL.out]; exact List.mem_of_mem_take hz))) [] (fun z hz => by cases hz)
      have hS := fold_succ ls k hx
      rw [hxx] at hS
      have HS := Lib.hid hS
      clear hS hxm hxx hg3
      have HLen : Hid (((ls.take k).foldl joinS []).length ≤ k) := (by have h1 := fold_len (ls.take k) []; simp at h1; exact Nat.le_trans h1 (Nat.min_le_left _ _))
      generalize (ls.take k).foldl joinS [] = out at ho hU HS HLen
      obtain ⟨x1, x2⟩ := x
      simp only at hc0 hc1 hxb
      have HOut := Lib.hid ho
      have HBr := Lib.hid hb
      have HUo := Lib.hid hU
      clear ho hb hU
      have hsz := HBr.out.size
      by_cases hbad : x1 > x2
      · go_wp2
        go_roundw
        case rel =>
          exact ⟨k + 1, by omega, by go_num, by rw [HS.out, show joinS out (x1, x2) = out by unfold joinS; rw [if_pos hbad]]; exact HOut.out.alloc _, HBr.out.alloc HBr.out.size _⟩
        case measure => simp [RowKit.intOf]; omega
      · have HBad := Lib.hid hbad
        obtain ⟨A', c', rfl, hA'⟩ := own_slice HOut.out
        rcases List.eq_nil_or_concat out with rfl | ⟨ini, y, hcat⟩
        · clear hA'
          have HJ := Lib.hid (join_nil x1 x2 HBad.out)
          simp only [List.length_nil] at HOut ⊢
          go_wp2
          go_quiet (fail)
          have HOq : Hid (((wr.alloc (.cells #[.int .u32 x1, .int .u32 x2] 28)).drewN nq).ownsRow w2.heap.size 28 2 (.slice A' 0 c') 0 (flat [])) := HOut.out.alloc _
          have HBq : Hid (RowKit.Below w2.heap.size w2 ((wr.alloc (.cells #[.int .u32 x1, .int .u32 x2] 28)).drewN nq)) := below_drewN (HBr.out.alloc HBr.out.size _) nq
          have HXq : Hid (((wr.alloc (.cells #[.int .u32 x1, .int .u32 x2] 28)).drewN nq).heap[wr.heap.size]? = some (.cells #[.int .u32 x1, .int .u32 x2] 28 (0, 0))) := blk_new wr _
          have hszq : ((wr.alloc (.cells #[.int .u32 x1, .int .u32 x2] 28)).drewN nq).heap.size ≥ wr.heap.size + 1 := by simp
          generalize (wr.alloc (.cells #[.int .u32 x1, .int .u32 x2] 28)).drewN nq = wq at HOq HBq HXq hszq ⊢
          have bx0 : wq.cell? ⟨wr.heap.size, 0, none⟩ = some (.int .u32 x1) := (blk_cell HXq.out 0).trans rfl
          have bx1 : wq.cell? ⟨wr.heap.size, 1, none⟩ = some (.int .u32 x2) := (blk_cell HXq.out 1).trans rfl
          go_wp2_with ((at_builtin; refine wpList_append_own _ rfl _ _ 22 rfl w2.heap.size 28 i0 (.agg #[.int .u32 0, .int .u32 0]) 2 8 Tryz.underlying22 hi hz0 hz1 hz2 rfl (by decide) _ (0) (flat []) rfl (HOq.out.alloc _) ⟨wq.heap.size, 0, none⟩ 1 1 [.int .u32 x1, .int .u32 x2] rfl rfl (World.news_of_block (cs := #[.int .u32 x1, .int .u32 x2]) (t := 28) (fr := (0, 0)) (blk_new wq _)) (by simp [Value.oneCell']) (by simp only [maxLen]; omega) (by omega) (by simp; omega) ?_; intro v' w3 hown hg _; have HO3 := Lib.hid hown; have HB3 := Lib.hid ((HBq.out.alloc HBq.out.size (.cells #[.int .u32 x1, .int .u32 x2] 28)).grown hg (Nat.le_trans HBq.out.size (by simp)) (fun j hj => (HOq.out.lt j hj).1)); clear hown hg))
          go_roundw
          case rel =>
            exact ⟨k + 1, by omega, by go_num, by rw [HS.out, HJ.out]; simpa [flat, encSpan] using HO3.out, HB3.out⟩
          case measure => simp [RowKit.intOf]; omega
        · rw [List.concat_eq_append] at hcat
          subst hcat
          have hlen : (ini ++ [y]).length = ini.length + 1 := by simp
          obtain ⟨go, rfl, hgo1, hgo2, hgo3⟩ := hA' (by omega)
          have hy := (hgo3 (ini.length * 2 + 1) (by omega))
          rw [flat_snd (ini ++ [y]) ini.length (by omega)] at hy
          simp only [List.getElem_concat_length] at hy
          have hyb := HUo.out y (by simp)
          obtain ⟨y1, y2⟩ := y
          have hd0 := hy.1
          simp only at hd0 hyb
          rw [hlen] at HOut ⊢
          clear hgo3 hA' hy hlen
          have HG2 := Lib.hid hgo2
          have hil : ini.length ≤ 1000000 := by have := HLen.out; simp at this; omega
          have es : IntKind.i64.wrap (((ini.length + 1 : Nat) : Int) - 1) = (ini.length : Int) := by rw [IntWalk.i64_in _ (by omega)]; omega
          by_cases hj : x1 ≤ y2 + 1
          · have HJ := Lib.hid (join_last ini y1 y2 x1 x2 HBad.out hj)
            go_wp2
            go_quiet (fail)
            have HOq : Hid (((wr.alloc (.cells #[.int .u32 x1, .int .u32 x2] 28)).drewN nq).ownsRow w2.heap.size 28 2 (.slice (some ⟨go, 0, none⟩) (ini.length + 1) c') (ini.length + 1) (flat (ini ++ [(y1, y2)]))) := HOut.out.alloc _
            have HBq : Hid (RowKit.Below w2.heap.size w2 ((wr.alloc (.cells #[.int .u32 x1, .int .u32 x2] 28)).drewN nq)) := below_drewN (HBr.out.alloc HBr.out.size _) nq
            have HXq : Hid (((wr.alloc (.cells #[.int .u32 x1, .int .u32 x2] 28)).drewN nq).heap[wr.heap.size]? = some (.cells #[.int .u32 x1, .int .u32 x2] 28 (0, 0))) := blk_new wr _
            have hszq : ((wr.alloc (.cells #[.int .u32 x1, .int .u32 x2] 28)).drewN nq).heap.size ≥ wr.heap.size + 1 := by simp
            have hd2 : ((wr.alloc (.cells #[.int .u32 x1, .int .u32 x2] 28)).drewN nq).cell? ⟨go, ini.length * 2 + 1, none⟩ = some (.int .u32 y2) := by
              show (wr.alloc (.cells #[.int .u32 x1, .int .u32 x2] 28)).cell? _ = _
              rw [World.cell?_alloc_lt _ _ _ hgo2]
              exact hd0
            have hd3 : ((wr.alloc (.cells #[.int .u32 x1, .int .u32 x2] 28)).drewN nq).frozen? ⟨go, ini.length * 2 + 1, none⟩ = false := HOq.out.frozenAt _
            generalize (wr.alloc (.cells #[.int .u32 x1, .int .u32 x2] 28)).drewN nq = wq at HOq HBq HXq hszq hd2 hd3 ⊢
            have bx0 : wq.cell? ⟨wr.heap.size, 0, none⟩ = some (.int .u32 x1) := (blk_cell HXq.out 0).trans rfl
            have bx1 : wq.cell? ⟨wr.heap.size, 1, none⟩ = some (.int .u32 x2) := (blk_cell HXq.out 1).trans rfl
            go_wp2
            go_region
            all_goals
              go_wp2
              go_roundw
              case rel =>
                have hs := (HOq.out.stored (ini.length * 2 + 1) (.int .u32 (max y2 x2))).1
                rw [flat_set_last] at hs
                exact ⟨k + 1, by omega, by go_num, by rw [HS.out, HJ.out, List.length_append]; exact hs, (HBq.out.setCell hgo1 _).drew⟩
              case measure => simp [RowKit.intOf]; omega
          · have HJ := Lib.hid (join_more ini y1 y2 x1 x2 HBad.out hj)
            go_wp2
            go_quiet (fail)
            have HOq : Hid (((wr.alloc (.cells #[.int .u32 x1, .int .u32 x2] 28)).drewN nq).ownsRow w2.heap.size 28 2 (.slice (some ⟨go, 0, none⟩) (ini.length + 1) c') (ini.length + 1) (flat (ini ++ [(y1, y2)]))) := HOut.out.alloc _
            have HBq : Hid (RowKit.Below w2.heap.size w2 ((wr.alloc (.cells #[.int .u32 x1, .int .u32 x2] 28)).drewN nq)) := below_drewN (HBr.out.alloc HBr.out.size _) nq
            have HXq : Hid (((wr.alloc (.cells #[.int .u32 x1, .int .u32 x2] 28)).drewN nq).heap[wr.heap.size]? = some (.cells #[.int .u32 x1, .int .u32 x2] 28 (0, 0))) := blk_new wr _
            have hszq : ((wr.alloc (.cells #[.int .u32 x1, .int .u32 x2] 28)).drewN nq).heap.size ≥ wr.heap.size + 1 := by simp
            have hd2 : ((wr.alloc (.cells #[.int .u32 x1, .int .u32 x2] 28)).drewN nq).cell? ⟨go, ini.length * 2 + 1, none⟩ = some (.int .u32 y2) := by
              show (wr.alloc (.cells #[.int .u32 x1, .int .u32 x2] 28)).cell? _ = _
              rw [World.cell?_alloc_lt _ _ _ hgo2]
              exact hd0
            have hd3 : ((wr.alloc (.cells #[.int .u32 x1, .int .u32 x2] 28)).drewN nq).frozen? ⟨go, ini.length * 2 + 1, none⟩ = false := HOq.out.frozenAt _
            generalize (wr.alloc (.cells #[.int .u32 x1, .int .u32 x2] 28)).drewN nq = wq at HOq HBq HXq hszq hd2 hd3 ⊢
            have bx0 : wq.cell? ⟨wr.heap.size, 0, none⟩ = some (.int .u32 x1) := (blk_cell HXq.out 0).trans rfl
            have bx1 : wq.cell? ⟨wr.heap.size, 1, none⟩ = some (.int .u32 x2) := (blk_cell HXq.out 1).trans rfl
            go_wp2_with ((at_builtin; refine wpList_append_own _ rfl _ _ 22 rfl w2.heap.size 28 i0 (.agg #[.int .u32 0, .int .u32 0]) 2 8 Tryz.underlying22 hi hz0 hz1 hz2 rfl (by decide) _ (ini.length + 1) (flat (ini ++ [(y1, y2)])) rfl (HOq.out.alloc _) ⟨wq.heap.size, 0, none⟩ 1 1 [.int .u32 x1, .int .u32 x2] rfl rfl (World.news_of_block (cs := #[.int .u32 x1, .int .u32 x2]) (t := 28) (fr := (0, 0)) (blk_new wq _)) (by simp [Value.oneCell']) (by simp only [maxLen]; omega) (by omega) (by simp; omega) ?_; intro v' w3 hown hg _; have HO3 := Lib.hid hown; have HB3 := Lib.hid ((HBq.out.alloc HBq.out.size (.cells #[.int .u32 x1, .int .u32 x2] 28)).grown hg (Nat.le_trans HBq.out.size (by simp)) (fun j hj => (HOq.out.lt j hj).1)); clear hown hg))
            go_roundw
            case rel =>
              exact ⟨k + 1, by omega, by go_num, by rw [HS.out, HJ.out, flat_append]; simpa [flat, encSpan] using HO3.out, HB3.out⟩
            case measure => simp [RowKit.intOf]; omega
    · obtain rfl : k = l.length := by omega
      go_wp2
      (try rw [Exit.noGoto_ret])
      go_ret
      refine ⟨_, rfl, ?_, HB2.out.trans (hb.mono HB2.out.size)⟩
      have e : unionS l = (ls.take l.length).foldl joinS [] := by
        unfold unionS
        rw [HL.out, List.take_of_length_le (by rw [HLL.out]; exact Nat.le_refl _)]
      rw [e]
      exact own_low ho HB2.out.size
end Go.Proofs.YtanbnlobbgfidaaGreatDoor
