/- http.Read past the first tests: the lines, and the last look. -/
import Derived.Test.YtpjjkejppgehaaaGreatDoorRd
import Derived.Lib.SmallJoins
namespace Go.Proofs.YtpjjkejppgehaaaGreatDoor
set_option linter.unusedSimpArgs false
set_option linter.unusedVariables false
open Go.RowKit Go.Lib
theorem infoR43 : (Tryz.prog.info? 43).map (fun i => (i.zero, i.size, i.bytes)) = some (some (.agg #[.string ⟨#[]⟩, .string ⟨#[]⟩]), 2, 32) := by kernel_rfl
/-- What a row holds lies as headers. -/
theorem lies_of_own {w : World} {M k : Nat} {v : Value} {h : HL} (hk : h.length = k) (ho : w.ownsRow M 43 2 v k (hcells h)) : ∃ A c, v = .slice A h.length c ∧ LiesH w A h ∧ ∀ ad, A = some ad → M ≤ ad.block := by
  rcases Go.Joins.ownsRow_forms ho with ⟨rfl, h0⟩ | ⟨g, cap, rfl⟩
  · exact ⟨none, 0, by rw [hk, h0], fun hp => (by omega), fun _ e => by cases e⟩
  · refine ⟨some ⟨g, 0, none⟩, cap, by rw [hk], fun _ => ⟨_, rfl, fun j hj => ?_⟩, fun ad e => by injection e with e; subst e; exact (ho.lt g rfl).1⟩
    have h1 := ho.cellAt (j * 2) (by omega)
    have h2 := ho.cellAt (j * 2 + 1) (by omega)
    obtain ⟨e1, e2⟩ := hcells_at h j hj
    rw [e1] at h1
    rw [e2] at h2
    exact ⟨by rw [Lib.add_plain, Nat.zero_add]; exact h1, by rw [Lib.add_plain, Nat.zero_add]; exact h2⟩
theorem add_blk (a : Addr) (k : Nat) : (a.add k).block = a.block := by unfold Addr.add; split <;> rfl
theorem lies_but {w w' : World} {A : Option Addr} {p : HL} {b : Nat} (h : LiesH w A p) (hb : But b w w') (hA : ∀ ad, A = some ad → ad.block ≠ b) : LiesH w' A p := fun hp => by
  obtain ⟨ad, h1, h2⟩ := h hp
  exact ⟨ad, h1, fun j hj => ⟨hb.cell (by rw [add_blk]; exact hA ad h1) (h2 j hj).1, hb.cell (by rw [add_blk]; exact hA ad h1) (h2 j hj).2⟩⟩
set_option maxRecDepth 20000 in
set_option maxHeartbeats 8000000 in
theorem read_go (s hd bd : ByteArray) (ok : Bool) (n : Nat) (x0 fs : ByteArray) (ok2 : Bool) (L : List ByteArray) (w : World) (hI : RInv w) (hF : Front s hd bd ok n x0 fs ok2 L) (o : Option HL) (ho : linesB (L.drop 1).dropLast = o) (hok : ok = true) (hok2 : ok2 = true) (h2 : 2 ≤ n) (hnb : n ≤ 100001) (hxs : ∀ x ∈ (L.drop 1).dropLast, x.size ≤ 20000) (hbd : bd.size ≤ 20000) (h3 : 3 ≤ fs.size) (v : Int) (h4 : ∀ x, RInv x → Calls Tryz.prog 32 #[.string (fs.extract 0 3)] x fun e w' => e = .returned (.tuple #[.int .i64 v, .nilIface]) ∧ Below x.heap.size x w') :
    Calls Tryz.prog 11 #[.string s] w (GoIs s v bd o w) := by
  have hb0 : Below w.heap.size w (w.alloc (.cells #[.int .i64 0, .slice none 0 0, .string ⟨#[]⟩] 24)) := (Below.refl _ _).alloc (Nat.le_refl _) _
  obtain ⟨er, her, hflt⟩ := flt5 _ (hI.below hb0)
  have hb1 : Below w.heap.size w ((w.alloc (.cells #[.int .i64 0, .slice none 0 0, .string ⟨#[]⟩] 24)).alloc (.cells #[.int .i64 0, .iface 167 (.pointer (some er))] 58)) := hb0.alloc (by simp) _
  have hR := hI.below hb1
  have HI := Lib.hid hI
  have C1 := Lib.hid (hF.c1 _ hR)
  have C2 := Lib.hid hF.c2
  have C3 := Lib.hid hF.c3
  have hn0 : 0 < n := by have h := hF.h0; rw [hF.hn]; rcases Nat.eq_zero_or_pos L.length with e | e; · rw [List.getElem?_eq_none (by omega)] at h; cases h
                         · exact e
  have HNL := Lib.hid hF.hn
  have hnz : (0 : Int) < (n : Int) := by omega
  have hfl := hflt _ (Below.refl _ _)
  rw [World.size_alloc] at hfl
  have HFL := Lib.hid hfl
  have HW := Lib.hid (World.block_lt_of_cell? w ⟨2, 0, none⟩ (hI.is.sent 5 (by omega) (by omega)).choose_spec.1)
  have HB1 := Lib.hid hb1
  have HR := Lib.hid hR
  have H0 := Lib.hid hF.h0
  have hbk : ((w.alloc (.cells #[.int .i64 0, .slice none 0 0, .string ⟨#[]⟩] 24)).alloc (.cells #[.int .i64 0, .iface 167 (.pointer (some er))] 58)).heap[w.heap.size]? = some (.cells #[.int .i64 0, .slice none 0 0, .string ⟨#[]⟩] 24 (0, 0)) := below_blk ((Below.refl _ _).alloc (Nat.le_refl _) _) (heap_alloc_new w _)
  have HBK := Lib.hid hbk
  clear hb0 hb1 hI hF hflt hfl hR hbk
  subst hok hok2
  have h2' : ¬ (n : Int) < 2 := by omega
  have h3' : ¬ (fs.size : Int) < 3 := by omega
  have h3'' : (3 : Int) ≤ (fs.size : Int) := by omega
  have h3n : 3 ≤ fs.size := h3
  have C4 := Lib.hid h4
  have h2i : (1 : Int) ≤ (n : Int) - 1 := by omega
  have h2j : (n : Int) - 1 ≤ (n : Int) := by omega
  have hn1 : ¬ n = 1 := by omega
  have HXS := Lib.hid hxs
  have HBD := Lib.hid hbd
  clear h3 h4 hxs hbd
  go_enter Tryz.func11, Tryz.ntmps11
  go_wp2_with (first
    | (go_at_call 25; (with_reducible refine Calls.mono (fault_any _ _ _ _) ?_); rintro e w5 ⟨rfl, rfl⟩)
    | (go_at_call 29; (with_reducible refine Calls.mono C1.out ?_); rintro e w5 ⟨rfl, hb⟩; have HB2 := Lib.hid hb; have HR2 := Lib.hid (HR.out.below hb); clear hb)
    | (go_at_call 30; (with_reducible refine Calls.mono (C2.out _ HR2.out) ?_); rintro e w6 ⟨rfl, hcs, hsz, hb⟩; have HB3 := Lib.hid hb; have hbk := below_blk hb (below_blk HB2.out HBK.out); have r0 := (blk_cell hbk 0).trans rfl; have r1 := (blk_cell hbk 1).trans rfl; have r2 := (blk_cell hbk 2).trans rfl; have rf0 := blk_fz hbk 0; have rf1 := blk_fz hbk 1; have rf2 := blk_fz hbk 2; have HBK3 := Lib.hid hbk; clear hbk; have HR3 := Lib.hid (HR2.out.below hb); have HS3 := Lib.hid hsz; have HCS := Lib.hid hcs; have k0 := first_cell HCS.out H0.out; clear hb hcs hsz)
    | (go_at_call 31; (with_reducible refine Calls.mono (C3.out _) ?_); rintro e w7 ⟨rfl, rfl⟩)
    | (go_at_call 32; (with_reducible refine Calls.mono (C4.out _ HR3.out) ?_); rintro e w8 ⟨rfl, hb⟩; replace HB3 := Lib.hid (below_to HB3.out hb); replace HBK3 := Lib.hid (below_blk hb HBK3.out); replace HR3 := Lib.hid (HR3.out.below hb); replace r0 := cell_in hb r0; replace r1 := cell_in hb r1; replace r2 := cell_in hb r2; replace rf0 := blk_fz HBK3.out 0; replace rf1 := blk_fz HBK3.out 1; replace rf2 := blk_fz HBK3.out 2; have HCS8 := Lib.hid (fun j hj => cell_in hb (HCS.out j hj)); have HB47 := Lib.hid hb; clear hb))
  have hW8 : Below w.heap.size w w8 := HB1.out.trans ((HB2.out.trans (HB3.out.mono HB2.out.size)).mono (by have := HB1.out.size; omega))
  have hG0 : w.heap.size < w8.heap.size := heap_lt HBK3.out
  have hS8 : w5.heap.size < w8.heap.size := by have := HS3.out; have h1 := HB47.out.size; omega
  have hlo : w.heap.size ≤ w5.heap.size := Nat.le_trans HB1.out.size HB2.out.size
  have hlt2 : w.heap.size + 2 ≤ w5.heap.size := by have h := HB2.out.size; simp at h; omega
  have hA2 := HB2.out.trans (HB3.out.mono HB2.out.size)
  obtain ⟨M, hM⟩ : ∃ M, M = n - 1 - 1 := ⟨_, rfl⟩
  rw [← hM]
  obtain ⟨mid, hmid⟩ : ∃ mid, mid = (L.drop 1).dropLast := ⟨_, rfl⟩
  have hml : mid.length = M := by rw [hmid, List.length_dropLast, List.length_drop, ← HNL.out, hM]
  have hmat : ∀ k (hk : k < mid.length), w8.cell? ⟨w5.heap.size, 1 + k, none⟩ = some (.string mid[k]) := fun k hk => by
    have hk' : 1 + k < L.length := by rw [← HNL.out]; omega
    have h := HCS8.out (1 + k) hk'
    rw [h]
    simp [hmid, List.getElem_dropLast, Nat.add_comm]
  rw [← hmid] at ho
  have HOO := Lib.hid ho
  have HMAT := Lib.hid hmat
  have HXM : Hid (∀ x ∈ mid, x.size ≤ 20000) := by show ∀ x ∈ mid, _; rw [hmid]; exact HXS.out
  have HML := Lib.hid hml
  have HG0 := Lib.hid hG0
  have HW8 := Lib.hid hW8
  have HA2 := Lib.hid hA2
  have HLO := Lib.hid hlo
  have HL2 := Lib.hid hlt2
  have HS8 := Lib.hid hS8
  have hMb : M ≤ 100001 := by omega
  clear ho hmid hml hM hmat hW8 hG0 h2i h2j hn1 h2 hnb hn0 hnz h2' h3'' h3n hA2 hlo hlt2 hS8 k0 her
  obtain ⟨i0, hi0, hz0, hz1, hz2⟩ := info_parts infoR43
  have hown0 : (w8.alloc (.cells #[.int .i64 v, .slice none 0 0, .string bd] 24)).ownsRow (w8.heap.size + 1) 43 2 (.slice none 0 0) 0 [] := World.ownsRow_nil _ _ _ _
  have hD0 := heap_alloc_new w8 (.cells #[.int .i64 v, .slice none 0 0, .string bd] 24)
  have hsz0 : (w8.alloc (.cells #[.int .i64 v, .slice none 0 0, .string bd] 24)).heap.size = w8.heap.size + 1 := by simp
  have hb00 : Below w8.heap.size w8 (w8.alloc (.cells #[.int .i64 v, .slice none 0 0, .string bd] 24)) := (Below.refl _ _).alloc (Nat.le_refl _) _
  have HO := Lib.hid hown0
  have HD := Lib.hid hD0
  have HSZ := Lib.hid hsz0
  have HB0 := Lib.hid hb00
  clear hown0 hD0 hsz0 hb00 r0 r1 r2 rf0 rf1 rf2
  generalize w8.alloc (.cells #[.int .i64 v, .slice none 0 0, .string bd] 24) = W0 at *
  go_loopw [73] (fun i wr => ∃ (k : Nat) (h : HL) (hv : Value), k ≤ M ∧ h.length = k ∧ i = .int .i64 k ∧ o = (linesB (mid.drop k)).map (h ++ ·) ∧ But w8.heap.size W0 wr ∧ wr.heap[w8.heap.size]? = some (.cells #[.int .i64 v, hv, .string bd] 24 (0, 0)) ∧ wr.ownsRow (w8.heap.size + 1) 43 2 hv k (hcells h) ∧ (∀ j (hj : j < h.length), h[j].1.size ≤ 20000 ∧ h[j].2.size ≤ 20000)) (fun i _ => M - (RowKit.intOf i).toNat)
  case atStart => exact ⟨0, [], _, by omega, rfl, rfl, by rw [List.drop_zero, HOO.out]; cases o <;> rfl, But.refl _ _, HD.out, HO.out, fun j hj => by cases hj⟩
  case round =>
    obtain ⟨k, h, hv, hk, hhl, rfl, hL, hBut, hDk, hown, hsz⟩ := hrel
    have hBw : Below w8.heap.size w8 wr := HB0.out.trans (hBut.below (Nat.le_refl _) (by have := HSZ.out; omega))
    have hBww : Below w.heap.size w wr := HW8.out.trans (hBw.mono (by have := HG0.out; omega))
    have hRI := HI.out.below hBww
    have hbr := below_blk hBw HBK3.out
    have hwl : w8.heap.size + 1 ≤ wr.heap.size := by have := hBut.size; have := HSZ.out; omega
    by_cases hkl : k < M
    · have hkl' : (k : Int) < (M : Int) := by omega
      have hkm : k < mid.length := by rw [HML.out]; exact hkl
      have hx0 := (hBw.cell (p := ⟨w5.heap.size, 1 + k, none⟩) HS8.out).trans (HMAT.out k hkm)
      have hdr : mid.drop k = mid[k] :: mid.drop (k + 1) := List.drop_eq_getElem_cons hkm
      have hxs := HXM.out mid[k] (List.getElem_mem hkm)
      generalize mid[k] = x at hx0 hdr hxs
      obtain ⟨ca, cb, cok, hcut⟩ : ∃ ca cb cok, cutB x colonB = (ca, cb, cok) := ⟨_, _, _, rfl⟩
      have C5 := cut_call x colonB wr (by omega) hRI.ml
      obtain ⟨z1, z2⟩ := cut_sizes x colonB
      rw [hcut] at C5 z1 z2
      dsimp only at z1 z2
      rw [hdr] at hL
      have HC5 : Hid (Calls Tryz.prog 29 #[.string x, .string ⟨#[58, 32]⟩] wr fun e w' => e = .returned (.tuple #[.string ca, .string cb, .bool cok]) ∧ Below wr.heap.size wr w') := C5
      have HBut := Lib.hid hBut
      have HOwn := Lib.hid hown
      have HSz := Lib.hid hsz
      have HHL := Lib.hid hhl
      have HBW := Lib.hid hBw
      have HDk := Lib.hid hDk
      have HBR := Lib.hid hbr
      cases cok with
      | false =>
        rw [linesB, if_neg (by rw [hcut]; simp), Option.map_none] at hL
        subst hL
        clear hBut hown hsz hhl hBw hRI hBww C5 hDk hdr hcut hxs z1 z2 hbr
        go_wp2_with (go_at_call 29; (with_reducible refine Calls.mono HC5.out ?_); rintro e w9 ⟨rfl, hb⟩; have hbr := below_blk hb HBR.out; have r0 := (blk_cell hbr 0).trans rfl; have r1 := (blk_cell hbr 1).trans rfl; have r2 := (blk_cell hbr 2).trans rfl; have rf0 := blk_fz hbr 0; have rf1 := blk_fz hbr 1; have rf2 := blk_fz hbr 2; have HBX := Lib.hid hbr; have HB9 := Lib.hid hb; clear hb hbr)
        have hbut := ((((But.of_below (HA2.out.trans ((below_to' HBW.out HB9.out HBW.out.size).mono (by have := HS8.out; have := HL2.out; simp; omega))) (by simp)).setCell 0 (.int .i64 0)).setCell 1 (.slice none 0 0)).setCell 2 (.string ⟨#[]⟩) : But w.heap.size _ _)
        have HE := Lib.hid (bad_end HW.out HB1.out HFL.out hbut)
        have hk := blk_set (blk_set (blk_set HBX.out 0 (.int .i64 0)) 1 (.slice none 0 0)) 2 (.string ⟨#[]⟩)
        have f0 := (blk_cell hk 0).trans rfl
        have f1 := (blk_cell hk 1).trans rfl
        have f2 := (blk_cell hk 2).trans rfl
        clear hk hbut r0 r1 r2 rf0 rf1 rf2
        generalize ((World.setCell _ ⟨w.heap.size, 0, none⟩ _).setCell ⟨w.heap.size, 1, none⟩ _).setCell ⟨w.heap.size, 2, none⟩ _ = wf at *
        exact bodyPost_ret (v := .tuple #[.agg #[.int .i64 0, .slice none 0 0, .string ⟨#[]⟩], .iface 54 (.pointer (some ⟨w.heap.size + 1, 0, none⟩))]) (by simp [results, Tryz.results11, go_sem, f0, f1, f2]) rfl ⟨_, rfl, HE.out.1, HE.out.2⟩
      | true =>
        rw [linesB_cons x _ h (by rw [hcut]), hcut] at hL
        have hL' := Lib.hid hL
        have HZA : Hid (ca.size ≤ 20000 ∧ cb.size ≤ 20000) := ⟨by omega, by omega⟩
        have HWL := Lib.hid hwl
        clear hL hBut hown hsz hhl hBw hRI hBww C5 hDk hdr hcut hxs hbr z1 z2 hwl
        go_wp2_with (first
          | (go_at_call 29; (with_reducible refine Calls.mono HC5.out ?_); rintro e w9 ⟨rfl, hb⟩; have HB9 := Lib.hid hb; have hd9 := below_blk hb HDk.out; have HD9 := Lib.hid hd9; have HO9 := Lib.hid (own_below HOwn.out hb); have c1 := (blk_cell hd9 1).trans rfl; have f1 := blk_fz hd9 1; clear hb hd9)
          | (at_builtin; refine wpList_append_own _ rfl _ _ 22 rfl (w8.heap.size + 1) 43 i0 _ 2 32 Tryz.underlying22 hi0 hz0 hz1 hz2 rfl (by decide) hv k (hcells h) rfl (HO9.out.alloc _) ⟨w9.heap.size, 0, none⟩ 1 1 [.string ca, .string cb] rfl rfl ?c1 ?c2 ?c3 ?c4 ?c5 ?_))
        case c1 => exact World.news_of_block (cs := #[.string ca, .string cb]) (t := 43) (fr := (0, 0)) (heap_alloc_new w9 _)
        case c2 => simp [Value.oneCell']
        case c3 => unfold maxLen; omega
        case c4 => omega
        case c5 => have h1 := HB9.out.size; have h2 := HWL.out; simp; omega
        intro v' w10 hown' hgrow _
        have hDlt : w8.heap.size < w9.heap.size := heap_lt HD9.out
        have hrow : ∀ g, hv.ownBlock = some g → w8.heap.size + 1 ≤ g := fun g hg => (HO9.out.lt g hg).1
        have hd10 : w10.heap[w8.heap.size]? = some (.cells #[.int .i64 v, hv, .string bd] 24 (0, 0)) :=
          (hgrow.block _ (by simp; omega) (fun e => by have := hrow _ e.symm; omega)).trans (below_blk ((Below.refl _ _).alloc (Nat.le_refl _) _) HD9.out)
        obtain ⟨ao, n', cap, rfl⟩ : ∃ ao n' cap, v' = .slice ao n' cap := by
          rcases hown'.2 with ⟨e, _⟩ | ⟨g, cap, cur, e, _⟩
          · exact ⟨_, _, _, e⟩
          · exact ⟨_, _, _, e⟩
        have hbut10 : But w8.heap.size W0 w10 := by
          have h1 := (HBut.out.trans (But.of_below HB9.out (Nat.le_refl _))).alloc (.cells #[.string ca, .string cb] 43)
          refine ⟨hgrow.os.trans h1.os, hgrow.tape.trans h1.tape, hgrow.output.trans h1.output, Nat.le_trans h1.size hgrow.size, fun j hj hjD => ?_⟩
          exact (hgrow.block j (Nat.lt_of_lt_of_le hj h1.size) (fun e => by have := hrow _ e.symm; have := HSZ.out; omega)).trans (h1.block j hj hjD)
        have d1 := (blk_cell hd10 1).trans rfl
        have g1 := blk_fz hd10 1
        have HD10 := Lib.hid (blk_set hd10 1 (.slice ao n' cap))
        have HO10 := Lib.hid (ownsRow_setCell_below hown' (a := ⟨w8.heap.size, 1, none⟩) (by show w8.heap.size < _; omega) (.slice ao n' cap))
        have HBU := Lib.hid (hbut10.setCell 1 (.slice ao n' cap))
        clear hrow hDlt hd10 hbut10 hgrow hown' c1 f1
        go_wp2
        go_roundw
        case rel =>
          refine ⟨k + 1, h ++ [(ca, cb)], .slice ao n' cap, by omega, by rw [List.length_append, HHL.out]; rfl, by go_num, hL'.out, HBU.out, HD10.out, by rw [hcells_snoc]; exact HO10.out, fun j hj => ?_⟩
          rw [List.length_append, List.length_singleton] at hj
          by_cases hjl : j < h.length
          · rw [List.getElem_append_left hjl]; exact HSz.out j hjl
          · rw [List.getElem_append_right (by omega)]; simp; exact HZA.out
        case measure => simp [RowKit.intOf]; omega
    · have hkl' : ¬ (k : Int) < (M : Int) := by omega
      have hkM : k = M := by omega
      have hnil : mid.drop k = [] := List.drop_eq_nil_of_le (by rw [HML.out]; omega)
      rw [hnil, linesB, Option.map_some, List.append_nil] at hL
      subst hL
      obtain ⟨A, c, rfl, hlies, hfar⟩ := lies_of_own hhl hown
      have HFAR := Lib.hid hfar
      have hC8 := text_any v A c h bd wr hRI.is hRI.pow hlies hsz HBD.out
      generalize hT : textB v h bd = T at hC8
      have HC8 := Lib.hid hC8
      have HDk := Lib.hid hDk
      have HBR := Lib.hid hbr
      have HLI := Lib.hid hlies
      have HBWW := Lib.hid hBww
      have HT := Lib.hid hT
      have HBW := Lib.hid hBw
      have HHL := Lib.hid hhl
      have c0 := (blk_cell hDk 0).trans rfl
      have c1 := (blk_cell hDk 1).trans rfl
      have c2 := (blk_cell hDk 2).trans rfl
      have HMG := Lib.hid hwl
      clear hBut hown hsz hBw hRI hBww hDk hbr hlies hC8 hT hnil hkM hwl hk hfar
      obtain rfl := hhl
      by_cases hTs : T = s
      · subst hTs
        have hne : (T.toList != T.toList) = false := by simp
        go_wp2_with (go_at_call 8; (with_reducible refine Calls.mono HC8.out ?_); rintro e w9 ⟨rfl, hb⟩; have hd9 := below_blk hb HDk.out; have d0 := (blk_cell hd9 0).trans rfl; have d1 := (blk_cell hd9 1).trans rfl; have d2 := (blk_cell hd9 2).trans rfl; have hbr := below_blk hb HBR.out; have r0 := (blk_cell hbr 0).trans rfl; have r1 := (blk_cell hbr 1).trans rfl; have r2 := (blk_cell hbr 2).trans rfl; have rf0 := blk_fz hbr 0; have rf1 := blk_fz hbr 1; have rf2 := blk_fz hbr 2; have HBX := Lib.hid hbr; have HB9 := Lib.hid hb; clear hb hbr hd9)
        have HLI9 := Lib.hid (HLI.out.below HB9.out)
        have hbut := ((((But.refl w.heap.size _).setCell 0 (.int .i64 v)).setCell 1 (.slice A h.length c)).setCell 2 (.string bd) : But w.heap.size w9 _)
        have hk := blk_set (blk_set (blk_set HBX.out 0 (.int .i64 v)) 1 (.slice A h.length c)) 2 (.string bd)
        have f0 := (blk_cell hk 0).trans rfl
        have f1 := (blk_cell hk 1).trans rfl
        have f2 := (blk_cell hk 2).trans rfl
        clear hk r0 r1 r2 rf0 rf1 rf2 c0 c1 c2 d0 d1 d2
        generalize ((World.setCell w9 ⟨w.heap.size, 0, none⟩ _).setCell ⟨w.heap.size, 1, none⟩ _).setCell ⟨w.heap.size, 2, none⟩ _ = wf at *
        have hG : GoIs T v bd (some h) w (.returned (.tuple #[.agg #[.int .i64 v, .slice A h.length c, .string bd], .nilIface])) wf := by
          rw [GoIs, if_pos HT.out]
          refine ⟨A, c, rfl, lies_but HLI9.out hbut (fun ad e => ?_), ?_⟩
          · have h1 := HFAR.out ad e
            have h2 := HG0.out
            omega
          · have h1 := HBWW.out.trans (HB9.out.mono HBWW.out.size)
            exact h1.trans (hbut.below (Nat.le_refl _) h1.size)
        exact bodyPost_ret (v := .tuple #[.agg #[.int .i64 v, .slice A h.length c, .string bd], .nilIface]) (by simp [results, Tryz.results11, go_sem, f0, f1, f2]) rfl hG
      · have hne : (T.toList != s.toList) = true := by
          rw [bne_iff_ne]
          intro e
          apply hTs
          have e2 := e
          rw [ByteArray.toList_eq, ByteArray.toList_eq] at e2
          exact ByteArray.ext (Array.ext' e2)
        have hne2 : (T.toList == s.toList) = false := by
          rw [beq_eq_false_iff_ne]
          exact bne_iff_ne.1 hne
        go_wp2_with (go_at_call 8; (with_reducible refine Calls.mono HC8.out ?_); rintro e w9 ⟨rfl, hb⟩; have hd9 := below_blk hb HDk.out; have d0 := (blk_cell hd9 0).trans rfl; have d1 := (blk_cell hd9 1).trans rfl; have d2 := (blk_cell hd9 2).trans rfl; have hbr := below_blk hb HBR.out; have r0 := (blk_cell hbr 0).trans rfl; have r1 := (blk_cell hbr 1).trans rfl; have r2 := (blk_cell hbr 2).trans rfl; have rf0 := blk_fz hbr 0; have rf1 := blk_fz hbr 1; have rf2 := blk_fz hbr 2; have HBX := Lib.hid hbr; have HB9 := Lib.hid hb; clear hb hbr hd9)
        have hbut := ((((But.of_below (HA2.out.trans ((below_to' HBW.out HB9.out HBW.out.size).mono (by have := HS8.out; have := HL2.out; simp; omega))) (by simp)).setCell 0 (.int .i64 0)).setCell 1 (.slice none 0 0)).setCell 2 (.string ⟨#[]⟩) : But w.heap.size _ _)
        have HE := Lib.hid (bad_end HW.out HB1.out HFL.out hbut)
        have hk := blk_set (blk_set (blk_set HBX.out 0 (.int .i64 0)) 1 (.slice none 0 0)) 2 (.string ⟨#[]⟩)
        have f0 := (blk_cell hk 0).trans rfl
        have f1 := (blk_cell hk 1).trans rfl
        have f2 := (blk_cell hk 2).trans rfl
        clear hk hbut r0 r1 r2 rf0 rf1 rf2 c0 c1 c2 d0 d1 d2
        generalize ((World.setCell _ ⟨w.heap.size, 0, none⟩ _).setCell ⟨w.heap.size, 1, none⟩ _).setCell ⟨w.heap.size, 2, none⟩ _ = wf at *
        have hG : GoIs s v bd (some h) w (.returned (.tuple #[.agg #[.int .i64 0, .slice none 0 0, .string ⟨#[]⟩], .iface 54 (.pointer (some ⟨w.heap.size + 1, 0, none⟩))])) wf := by
          rw [GoIs, if_neg (by rw [HT.out]; exact hTs)]
          exact ⟨_, rfl, HE.out.1, HE.out.2⟩
        exact bodyPost_ret (v := .tuple #[.agg #[.int .i64 0, .slice none 0 0, .string ⟨#[]⟩], .iface 54 (.pointer (some ⟨w.heap.size + 1, 0, none⟩))]) (by simp [results, Tryz.results11, go_sem, f0, f1, f2]) rfl hG
end Go.Proofs.YtpjjkejppgehaaaGreatDoor
