/-
  The text of a list of ranges.
-/
import Derived.Test.YtndkpdiacabjgaaGreatDoorGi
import Derived.Test.YtndkpdiacabjgaaGreatDoorGe
import Derived.Test.YtndkpdiacabjgaaGreatDoorH5
namespace Go.Proofs.YtndkpdiacabjgaaGreatDoor
open Go.RowKit

theorem Tryz.info_strg : (Tryz.prog.info? 9).map (fun i => (i.zero, i.size, i.bytes)) = some (some (.string ⟨#[]⟩), 1, 16) := by kernel_rfl
/-- The texts of ranges, in a row. -/
def fmtL (l : List (Int × Int)) : List Value := l.map fun r => Value.string (str (fmtG r))
theorem fmtL_snoc (l : List (Int × Int)) (r : Int × Int) : fmtL (l ++ [r]) = fmtL l ++ [Value.string (str (fmtG r))] := by simp [fmtL]
theorem str_app (a b : List UInt8) : str a ++ str b = str (a ++ b) := by
  apply ByteArray.ext
  simp [str]

theorem own_runG {w w' : World} {base T S n : Nat} {v : Value} {xs : List Value} (h : w.ownsRow base T S v n xs) (hb : Below w.heap.size w w') : w'.ownsRow base T S v n xs := by
  refine ⟨h.1, ?_⟩
  rcases h.2 with h' | ⟨g, cap, cur, e, hg, hb', hr⟩
  · exact .inl h'
  · exact .inr ⟨g, cap, cur, e, hg, (hb.block g (lt_of_block hb')).trans hb', hr⟩

theorem itoa_is (x : Nat) (w : World) (hx : x ≤ 999) (hp : Pow w) (t : ByteArray) (ht : Hid (str (Lib.decDigits x) = t)) :
    Calls Tryz.prog 33 #[.int .i64 (x : Int)] w fun e w' => e = .returned (.string t) ∧ Below w.heap.size w w' := by
  have := itoa_any x w (by omega) hp
  rw [ht.out] at this
  exact this

set_option maxHeartbeats 4000000 in
set_option maxRecDepth 100000 in
theorem gformat_any (l : List (Int × Int)) (v : Value) (w : World) (h : RngsAt w v l) (hl : Canon l) (hn : l.length ≤ 999) (hp : Pow w) :
    Calls Tryz.prog 13 #[v] w fun e w' => e = .returned (.tuple #[.string (str (textG l)), .int .i64 0]) ∧ Below w.heap.size w w' := by
  obtain ⟨i0, hi, hz0, hz1, hz2⟩ := info_parts Tryz.info_strg
  have CC := gcheck_any l v w h
  rw [(chkG_none l).2 hl] at CC
  have HCC := Lib.hid CC
  have H := Lib.hid h
  have HP := Lib.hid hp
  have HL := Lib.hid hl
  have hn2 : (l.length : Int) ≤ 999 := by omega
  obtain ⟨va, vc, e⟩ := seq_shape h
  subst e
  clear CC h hp hl
  go_enter Tryz.func13, Tryz.ntmps13
  go_wp2_with fail
  refine HCC.out.mono ?_
  rintro e w1 ⟨rfl, hb1⟩
  have HB1 := Lib.hid hb1
  have H1 := Lib.hid (H.out.run hb1)
  clear hb1
  go_wp2
  go_loopw [5, 7, 8, 16] (fun pv _ _ i wr => ∃ k : Nat, k ≤ l.length ∧ i = .int .i64 k ∧ wr.ownsRow w1.heap.size 9 1 pv k (fmtL (l.take k)) ∧ Below w1.heap.size w1 wr) (fun _ _ _ i _ => l.length - (intOf i).toNat)
  case atStart => exact ⟨0, Nat.zero_le _, rfl, World.ownsRow_nil _ _ _ _, Below.refl _ _⟩
  case round =>
    rename World => wr
    obtain ⟨k, hk, rfl, hown, hb0⟩ := hrel
    by_cases hlt2 : k < l.length
    · have hlt3 : (k : Int) < (l.length : Int) := by omega
      have hk0 : (0 : Int) ≤ (k : Int) := by omega
      have hw1 : ∃ b off cap, Value.slice va l.length vc = .slice (some ⟨b, off, none⟩) l.length cap ∧ ∀ i, i < l.length * 2 → wr.cell? ⟨b, off + i, none⟩ = rngsC l i := by
        rcases (SeqAt.below H1.out hb0 : RngsAt wr _ l) with ⟨h0, _⟩ | ⟨h0, h1, b, off, cap, hv, hbl, hcel⟩
        · omega
        · exact ⟨b, off, cap, hv, hcel⟩
      obtain ⟨b, off, cap, hve, hcel⟩ := hw1
      cases hve
      obtain ⟨e1, e2⟩ := rng_cells hcel k hlt2
      have hri := rightG_iff.1 (HL.out.1 _ (List.getElem_mem hlt2))
      have HT : Hid (l.take (k + 1) = l.take k ++ [l[k]]) := Lib.hid (List.take_succ_eq_append_getElem hlt2)
      obtain ⟨x, hx⟩ : ∃ x : Nat, l[k].1 = x := ⟨l[k].1.toNat, by omega⟩
      obtain ⟨y, hy⟩ : ∃ y : Nat, l[k].2 = y := ⟨l[k].2.toNat, by omega⟩
      have hXY : l[k] = ((x : Int), (y : Int)) := by rw [← hx, ← hy]
      rw [hXY] at HT
      rw [hx] at e1
      rw [hy] at e2
      have hsz := hb0.size
      obtain ⟨tx, htx⟩ : ∃ t, str (Lib.decDigits x) = t := ⟨_, rfl⟩
      obtain ⟨ty, hty⟩ : ∃ t, str (Lib.decDigits y) = t := ⟨_, rfl⟩
      have hx9 : x ≤ 999 := by omega
      have hy9 : y ≤ 999 := by omega
      have C1 := Lib.hid (fun W (hW : Below w.heap.size w W) => itoa_is x W hx9 (HP.out.run hW) tx (Lib.hid htx))
      have C2 := Lib.hid (fun W (hW : Below w.heap.size w W) => itoa_is y W hy9 (HP.out.run hW) ty (Lib.hid hty))
      have HBr := Lib.hid (below_run HB1.out hb0)
      by_cases hxy : x < y
      · have hxy' : (x : Int) < (y : Int) := by omega
        have HF : Hid (str (fmtG ((x : Int), (y : Int))) = tx ++ (⟨#[32, 116, 104, 114, 117, 32]⟩ ++ ty)) := Lib.hid (by
          rw [fmtG_lt hxy, ← htx, ← hty, show (⟨#[32, 116, 104, 114, 117, 32]⟩ : ByteArray) = str [32, 116, 104, 114, 117, 32] from rfl, str_app, str_app]; rfl)
        have sx : tx.size ≤ 3 := by rw [← htx]; exact dec_len hx9
        have sy : ty.size ≤ 3 := by rw [← hty]; exact dec_len hy9
        have sx1 : (tx.size : Int) ≤ 3 := by omega
        have sy1 : (ty.size : Int) ≤ 3 := by omega
        have sz1 : ¬ (9223372036854775807 : Int) < 6 + (ty.size : Int) := by omega
        have sz2 : ¬ (9223372036854775807 : Int) < (tx.size : Int) + (6 + (ty.size : Int)) := by omega
        have sz3 : (((⟨#[32, 116, 104, 114, 117, 32]⟩ : ByteArray) ++ ty).size : Int) = 6 + (ty.size : Int) := by rw [ByteArray.size_append]; rfl
        clear hcel hri hx hy hXY htx hty
        go_wp2_with fail
        refine (C1.out _ (HBr.out.alloc (HBr.out.size) _)).mono ?_
        rintro e w2 ⟨rfl, hb2⟩
        have hrow : RowAt w2 wr.heap.size 42 #[.int .i64 x, .int .i64 y] := (RowAt.new _ _ _).run hb2
        have hown2 := own_runG (hown.alloc (.cells #[.int .i64 x, .int .i64 y] 42)) hb2
        have hbw2 := below_run (HBr.out.alloc (HBr.out.size) (.cells #[.int .i64 x, .int .i64 y] 42)) hb2
        have hb02 := below_run (hb0.alloc hb0.size (.cells #[.int .i64 x, .int .i64 y] 42)) hb2
        obtain ⟨x1, x2, x3, x4, x5, x6⟩ := row_facts hrow
        have c0 := x1 0
        have c1 := x1 1
        simp only [List.getElem?_toArray, List.getElem?_cons_zero, List.getElem?_cons_succ] at c0 c1
        clear x1 x2 hb2 e1 e2 hown hb0 HBr
        go_wp2_with fail
        refine (C2.out _ hbw2).mono ?_
        rintro e w3 ⟨rfl, hb3⟩
        have hown3 := own_runG hown2 hb3
        have hb03 := below_run hb02 hb3
        have hsz3 := hb03.size
        clear hbw2 hb02 hb3 hown2
        obtain ⟨tt, htt⟩ : ∃ t, tx ++ ((⟨#[32, 116, 104, 114, 117, 32]⟩ : ByteArray) ++ ty) = t := ⟨_, rfl⟩
        rw [htt] at HF
        go_wp2_with (at_builtin; refine wpList_append_own _ rfl _ _ 25 rfl w1.heap.size 9 i0 _ 1 16 Tryz.underlying25 hi hz0 hz1 hz2 rfl (by decide) _ _ _ rfl (hown3.alloc _) ⟨w3.heap.size, 0, none⟩ 1 1 [.string tt] rfl rfl ?c1 ?c2 ?c3 ?c4 ?c5 ?_)
        case c1 =>
          intro j u hj
          match j, hj with
          | 0, hj =>
            simp at hj
            subst hj
            have hr0 : RowAt (w3.alloc (.cells #[.string tt] 9)) w3.heap.size 9 #[.string tt] := RowAt.new _ _ _
            exact (row_facts hr0).1 0
        case c2 => intro u hu; simp at hu; subst hu; rfl
        case c3 => unfold maxLen; omega
        case c4 => omega
        case c5 => simp; omega
        · intro v' w4 hown' hgrow _
          have hb4 := below_grown (hb03.alloc (by omega) _) (hown3.alloc _) (Nat.le_refl _) hgrow (by simp; omega)
          have hownN : w4.ownsRow w1.heap.size 9 1 v' (k + 1) (fmtL (l.take (k + 1))) := by rw [HT.out, fmtL_snoc, HF.out]; exact hown'
          clear hgrow hown' hown3
          go_wp2
          go_roundw
          case rel => exact ⟨k + 1, by omega, by go_num, hownN, hb4⟩
          case measure => simp [intOf]; omega
      · have hxe : x = y := by omega
        subst hxe
        have hxy' : ¬ (x : Int) < (x : Int) := by omega
        have HF : Hid (str (fmtG ((x : Int), (x : Int))) = tx) := Lib.hid (by rw [fmtG_eq, ← htx])
        clear hcel hri hx hy hXY htx hty C2
        go_wp2_with fail
        refine (C1.out _ (HBr.out.alloc (HBr.out.size) _)).mono ?_
        rintro e w3 ⟨rfl, hb2⟩
        have hrow : RowAt w3 wr.heap.size 42 #[.int .i64 x, .int .i64 x] := (RowAt.new _ _ _).run hb2
        have hown3 := own_runG (hown.alloc (.cells #[.int .i64 x, .int .i64 x] 42)) hb2
        have hb03 := below_run (hb0.alloc hb0.size (.cells #[.int .i64 x, .int .i64 x] 42)) hb2
        have hsz3 := hb03.size
        obtain ⟨x1, x2, x3, x4, x5, x6⟩ := row_facts hrow
        have c0 := x1 0
        have c1 := x1 1
        simp only [List.getElem?_toArray, List.getElem?_cons_zero, List.getElem?_cons_succ] at c0 c1
        clear x1 x2 hb2 e1 e2 hown hb0 HBr
        go_wp2_with (at_builtin; refine wpList_append_own _ rfl _ _ 25 rfl w1.heap.size 9 i0 _ 1 16 Tryz.underlying25 hi hz0 hz1 hz2 rfl (by decide) _ _ _ rfl (hown3.alloc _) ⟨w3.heap.size, 0, none⟩ 1 1 [.string tx] rfl rfl ?c1 ?c2 ?c3 ?c4 ?c5 ?_)
        case c1 =>
          intro j u hj
          match j, hj with
          | 0, hj =>
            simp at hj
            subst hj
            have hr0 : RowAt (w3.alloc (.cells #[.string tx] 9)) w3.heap.size 9 #[.string tx] := RowAt.new _ _ _
            exact (row_facts hr0).1 0
        case c2 => intro u hu; simp at hu; subst hu; rfl
        case c3 => unfold maxLen; omega
        case c4 => omega
        case c5 => simp; omega
        · intro v' w4 hown' hgrow _
          have hb4 := below_grown (hb03.alloc (by omega) _) (hown3.alloc _) (Nat.le_refl _) hgrow (by simp; omega)
          have hownN : w4.ownsRow w1.heap.size 9 1 v' (k + 1) (fmtL (l.take (k + 1))) := by rw [HT.out, fmtL_snoc, HF.out]; exact hown'
          clear hgrow hown' hown3
          go_wp2
          go_roundw
          case rel => exact ⟨k + 1, by omega, by go_num, hownN, hb4⟩
          case measure => simp [intOf]; omega
    · obtain rfl : k = l.length := by omega
      rw [List.take_length] at hown
      have HBe := Lib.hid (below_run HB1.out hb0)
      have HJ : Hid (∀ pv, wr.ownsRow w1.heap.size 9 1 pv l.length (fmtL l) → Calls Tryz.prog 34 #[pv, .string ⟨#[32, 43, 32]⟩] wr fun e w' => e = .returned (.string (str (textG l))) ∧ Below wr.heap.size wr w') := Lib.hid (by
        intro pv ho
        rcases ho.2 with ⟨rfl, h0⟩ | ⟨g, cap, cur, rfl, hg1, hg2, hg3, hg4, hg5, hg6⟩
        · have hl0 : l = [] := List.eq_nil_of_length_eq_zero h0
          subst hl0
          refine (Tryz.strings_Join_none none 0 _ wr).mono ?_
          rintro e w' ⟨rfl, rfl⟩
          exact ⟨rfl, Below.refl _ _⟩
        · have hxl : (l.map fun r => str (fmtG r)).length = l.length := by simp
          have hjl : ((l.map fun r => str (fmtG r)).map fun t => t.data.toList) = l.map fmtG := by simp [str, Function.comp_def]
          have hlen : (Lib.join (l.map fmtG) [32, 43, 32]).length ≤ 140737488355328 := by
            show (textG l).length ≤ _
            cases l with
            | nil => simp [textG, Lib.join_nil]
            | cons r l' =>
              rw [textG_cons, List.length_append]
              have a1 := fmtG_len (HL.out.1 r (by simp))
              have a2 := moreG_len (termsG true l') (fun t ht => by
                obtain ⟨r', hr', rfl⟩ := List.mem_map.1 ht
                exact HL.out.1 r' (by simp [hr']))
              have a3 : (termsG true l').length = l'.length := by simp [termsG]
              simp at hn
              omega
          have := Tryz.strings_Join g 0 cap (l.map fun r => str (fmtG r)) ⟨#[32, 43, 32]⟩ wr (fun j x hx => by
            rw [Nat.zero_add, cell_of_row wr g j _ _ _ hg2]
            have e1 : (fmtL l)[j]? = some (.string x) := by
              rw [fmtL, List.getElem?_map]
              rw [List.getElem?_map] at hx
              cases hlj : l[j]? with
              | none => rw [hlj] at hx; cases hx
              | some r => rw [hlj] at hx; simp at hx; simp [hx]
            have hj : j < l.length := by
              have := (List.getElem?_eq_some_iff.1 hx).1
              simpa using this
            rw [← hg6, List.getElem?_take, if_pos (by omega)] at e1
            simpa using e1) (lt_of_block hg2) (by rw [hxl]; omega) (by rw [hxl]; omega) (by rw [hjl]; exact hlen)
          rw [hxl, hjl] at this
          exact this)
      obtain ⟨pa, pc, hpv⟩ : ∃ a c, u5 = .slice a l.length c := by
        rcases hown.2 with ⟨h1, h0⟩ | ⟨g, cap, cur, h1, _⟩
        · exact ⟨none, 0, by rw [h1, h0]⟩
        · exact ⟨_, _, h1⟩
      subst hpv
      have HJ2 := Lib.hid (HJ.out _ hown)
      clear hown hb0
      go_wp2_with fail
      refine HJ2.out.mono ?_
      rintro e w2 ⟨rfl, hb2⟩
      go_wp2
      go_ret2
      exact ⟨rfl, below_run HBe.out hb2⟩
end Go.Proofs.YtndkpdiacabjgaaGreatDoor
