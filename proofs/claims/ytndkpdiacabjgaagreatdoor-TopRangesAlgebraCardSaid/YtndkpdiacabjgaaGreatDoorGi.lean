/-
  The reader of ranges: a term.
-/
import Derived.Test.YtndkpdiacabjgaaGreatDoorGh
namespace Go.Proofs.YtndkpdiacabjgaaGreatDoor
open Go.RowKit

/-- What lies behind a term: nothing, or a sign behind a blank. -/
def BehindG (rest : List UInt8) : Prop := rest = [] ∨ ∃ c l, rest = 32 :: c :: l ∧ (c = 43 ∨ c = 45)
theorem behind_dig {rest : List UInt8} (h : BehindG rest) : ∀ d l, rest = d :: l → isDig d = false := by
  rintro d l rfl
  rcases h with h | ⟨c, l', h, _⟩
  · cases h
  · cases h; rfl
theorem behind_drop {rest : List UInt8} (h : BehindG rest) : Lib.hasPrefix (rest.drop (blanksG rest)) [116, 104, 114, 117] = false ∧ (rest = [] ∧ blanksG rest = 0 ∨ ∃ c l, rest = 32 :: c :: l ∧ (c = 43 ∨ c = 45) ∧ blanksG rest = 1) := by
  rcases h with rfl | ⟨c, l, rfl, hc⟩
  · exact ⟨rfl, .inl ⟨rfl, rfl⟩⟩
  · have hb : blanksG (32 :: c :: l) = 1 := by
      rw [blanksG_cons, blanksG_other]
      rcases hc with rfl | rfl <;> decide
    refine ⟨?_, .inr ⟨c, l, rfl, hc, hb⟩⟩
    rw [hb]
    rcases hc with rfl | rfl <;> simp [Lib.hasPrefix, List.isPrefixOf]

theorem fmtG_eq (x : Nat) : fmtG ((x : Int), (x : Int)) = Lib.decDigits x := by simp [fmtG]
theorem fmtG_lt {x y : Nat} (h : x < y) : fmtG ((x : Int), (y : Int)) = Lib.decDigits x ++ 32 :: 116 :: 104 :: 114 :: 117 :: 32 :: Lib.decDigits y := by
  have : (x : Int) < (y : Int) := by omega
  simp [fmtG, this]

set_option maxHeartbeats 4000000 in
set_option maxRecDepth 100000 in
theorem gterm_any (b : Nat) (s : ByteArray) (n x y : Nat) (rest : List UInt8) (w : World) (h : RdAt w b s n) (hs : s.size ≤ 4096) (h1 : 1 ≤ x) (h2 : x ≤ y) (h3 : y ≤ 999)
    (hd : s.data.toList.drop n = fmtG ((x : Int), (y : Int)) ++ rest) (hr : BehindG rest) :
    Calls Tryz.prog 38 #[.pointer (some ⟨b, 0, none⟩)] w fun e w' => e = .returned (.agg #[.int .i64 x, .int .i64 y]) ∧ RdAt w' b s (n + (fmtG ((x : Int), (y : Int))).length + blanksG rest) ∧ Upd b w w' := by
  have H := Lib.hid h
  have hbl : b < w.heap.size := lt_of_block h
  have hne : ¬ w.heap.size = b := by omega
  have hdig := behind_dig hr
  obtain ⟨hpre, hcase⟩ := behind_drop hr
  have hlen := drop_len hd (by obtain ⟨d, l, e, _⟩ := fmtG_head ((x : Int), (y : Int)); rw [e]; simp)
  rcases Nat.lt_or_eq_of_le h2 with hlt | heq
  · have hd1 : s.data.toList.drop n = Lib.decDigits x ++ (32 :: 116 :: 104 :: 114 :: 117 :: 32 :: (Lib.decDigits y ++ rest)) := by rw [hd, fmtG_lt hlt]; simp
    have C1 := Lib.hid (fun W (hW : RdAt W b s n) => gchannel_any b s n x _ W hW hs h1 (by omega) hd1 (fun d l e => by cases e; rfl))
    have e1 : blanksG (32 :: 116 :: 104 :: 114 :: 117 :: 32 :: (Lib.decDigits y ++ rest)) = 1 := by rw [blanksG_cons, blanksG_other]; decide
    rw [e1] at C1
    obtain ⟨m, hm⟩ : ∃ m, n + (Lib.decDigits x).length + 1 = m := ⟨_, rfl⟩
    rw [hm] at C1
    have hd2 : s.data.toList.drop m = 116 :: 104 :: 114 :: 117 :: 32 :: (Lib.decDigits y ++ rest) := by
      have := drop_more (p := Lib.decDigits x ++ [32]) (q := 116 :: 104 :: 114 :: 117 :: 32 :: (Lib.decDigits y ++ rest)) (k := n) (s := s) (by rw [hd1]; simp)
      rw [List.length_append] at this
      rw [← hm]
      exact this
    have C2 := Lib.hid (fun W (hW : RdAt W b s m) => gthru_yes b s m _ W hW hs hd2)
    obtain ⟨d, l, hdy, hdd⟩ := dec_head (n := y)
    have e2 : blanksG (Lib.decDigits y ++ rest) = 0 := by rw [hdy, List.cons_append, blanksG_other _ (isDig_ne hdd)]
    rw [e2] at C2
    have hd3 : s.data.toList.drop (m + 5 + 0) = Lib.decDigits y ++ rest := by
      have := drop_more (p := [116, 104, 114, 117, 32]) (q := Lib.decDigits y ++ rest) (k := m) (s := s) (by rw [hd2]; rfl)
      exact this
    have C3 := Lib.hid (fun W (hW : RdAt W b s (m + 5 + 0)) => gchannel_any b s (m + 5 + 0) y rest W hW hs (by omega) h3 hd3 hdig)
    have HL : Hid (m + 5 + 0 + (Lib.decDigits y).length + blanksG rest = n + (fmtG ((x : Int), (y : Int))).length + blanksG rest) := Lib.hid (by
      rw [← hm, fmtG_lt hlt, List.length_append]
      simp only [List.length_cons]
      omega)
    have hmin : min (x : Int) (y : Int) = (x : Int) := by omega
    have hmax : max (x : Int) (y : Int) = (y : Int) := by omega
    clear h hr hdig hpre hcase hlen hd hd1 hd2 hd3 hdy e1 e2 hm h1 h2 h3 hlt hdd
    go_enter Tryz.func38, Tryz.ntmps38
    go_wp2_with fail
    refine (C1.out _ (RowAt.alloc H.out _)).mono ?_
    rintro e w1 ⟨rfl, hr1, hu1⟩
    go_wp2_with fail
    refine (C2.out _ hr1).mono ?_
    rintro e w2 ⟨rfl, hr2, hu2⟩
    go_wp2_with fail
    refine (C3.out _ hr2).mono ?_
    rintro e w3 ⟨rfl, hr3, hu3⟩
    have hx : RowAt w3 w.heap.size 42 #[.int .i64 0, .int .i64 0] := (((RowAt.new _ _ _).upd hu1 hne).upd hu2 hne).upd hu3 hne
    have HX := Lib.hid hx
    obtain ⟨x1, x2, x3, x4, x5, x6⟩ := row_facts hx
    have hub : Upd b w w3 := upd_upd (upd_upd (upd_upd (upd_alloc (upd_refl b w) _) hu1) hu2) hu3
    have HUB := Lib.hid hub
    have HR3 := Lib.hid hr3
    clear hr1 hr2 hr3 hu1 hu2 hu3 hub hx
    go_wp2
    have hy : RowAt ((w3.setCell ⟨w.heap.size, 0, none⟩ (.int .i64 x)).setCell ⟨w.heap.size, 1, none⟩ (.int .i64 y)) w.heap.size 42 #[.int .i64 x, .int .i64 y] := RowAt.set (RowAt.set HX.out rfl) rfl
    obtain ⟨y1, y2, y3, y4, y5, y6⟩ := row_facts hy
    have y10 := y1 0
    have y11 := y1 1
    simp only [List.getElem?_toArray, List.getElem?_cons_zero, List.getElem?_cons_succ] at y10 y11
    refine bodyPost_ret (v := .agg #[.int .i64 x, .int .i64 y]) (by simp [results, Tryz.results38, go_sem, *]) rfl ⟨rfl, ?_, ?_⟩
    · have := (RowAt.far1 (RowAt.far1 HR3.out (by omega)) (by omega) : RowAt ((w3.setCell ⟨w.heap.size, 0, none⟩ (.int .i64 x)).setCell ⟨w.heap.size, 1, none⟩ (.int .i64 y)) b _ _)
      rw [HL.out] at this
      exact this
    · exact upd_far (upd_far HUB.out (Nat.le_refl _) _) (Nat.le_refl _) _
  · subst heq
    have hd1 : s.data.toList.drop n = Lib.decDigits x ++ rest := by rw [hd, fmtG_eq]
    have C1 := Lib.hid (fun W (hW : RdAt W b s n) => gchannel_any b s n x _ W hW hs h1 (by omega) hd1 hdig)
    obtain ⟨m, hm⟩ : ∃ m, n + (Lib.decDigits x).length + blanksG rest = m := ⟨_, rfl⟩
    rw [hm] at C1
    have hd2 : s.data.toList.drop m = rest.drop (blanksG rest) := by
      rw [← hm, ← List.drop_drop]
      rw [drop_more hd1]
    have hms : m ≤ s.size := by
      rw [fmtG_eq] at hlen
      rcases hcase with ⟨_, hb0⟩ | ⟨c, l, hrl, _, hb1⟩
      · omega
      · have hq := drop_more hd1
        rw [hrl] at hq
        obtain ⟨hk, _, _⟩ := at_byte hq
        omega
    have C2 := Lib.hid (fun W (hW : RdAt W b s m) => gthru_no b s m W hW hms (by rw [hd2]; exact hpre))
    have HL : Hid (m = n + (fmtG ((x : Int), (x : Int))).length + blanksG rest) := Lib.hid (by rw [← hm, fmtG_eq])
    clear h hr hdig hpre hcase hlen hd hd1 hd2 hm h1 h2 h3 hms
    go_enter Tryz.func38, Tryz.ntmps38
    go_wp2_with fail
    refine (C1.out _ (RowAt.alloc H.out _)).mono ?_
    rintro e w1 ⟨rfl, hr1, hu1⟩
    go_wp2_with fail
    refine (C2.out _ hr1).mono ?_
    rintro e w3 ⟨rfl, hb2⟩
    have hx : RowAt w3 w.heap.size 42 #[.int .i64 0, .int .i64 0] := ((RowAt.new _ _ _).upd hu1 hne).run hb2
    have HX := Lib.hid hx
    obtain ⟨x1, x2, x3, x4, x5, x6⟩ := row_facts hx
    have hub : Upd b w w3 := upd_below (upd_upd (upd_alloc (upd_refl b w) _) hu1) hb2
    have HUB := Lib.hid hub
    have HR3 := Lib.hid (RdAt.run hr1 hb2)
    clear hr1 hb2 hu1 hub hx
    go_wp2
    have hy : RowAt ((w3.setCell ⟨w.heap.size, 0, none⟩ (.int .i64 x)).setCell ⟨w.heap.size, 1, none⟩ (.int .i64 x)) w.heap.size 42 #[.int .i64 x, .int .i64 x] := RowAt.set (RowAt.set HX.out rfl) rfl
    obtain ⟨y1, y2, y3, y4, y5, y6⟩ := row_facts hy
    have y10 := y1 0
    have y11 := y1 1
    simp only [List.getElem?_toArray, List.getElem?_cons_zero, List.getElem?_cons_succ] at y10 y11
    refine bodyPost_ret (v := .agg #[.int .i64 x, .int .i64 x]) (by simp [results, Tryz.results38, go_sem, *]) rfl ⟨rfl, ?_, ?_⟩
    · have := (RowAt.far1 (RowAt.far1 HR3.out (by omega)) (by omega) : RowAt ((w3.setCell ⟨w.heap.size, 0, none⟩ (.int .i64 x)).setCell ⟨w.heap.size, 1, none⟩ (.int .i64 x)) b _ _)
      rw [HL.out] at this
      exact this
    · exact upd_far (upd_far HUB.out (Nat.le_refl _) _) (Nat.le_refl _) _
end Go.Proofs.YtndkpdiacabjgaaGreatDoor
