/-
  Parsing texts of ranges that were written by Format.
-/
import Derived.Test.YtndkpdiacabjgaaGreatDoorGi
import Derived.Test.YtndkpdiacabjgaaGreatDoorGe
import Derived.Deep.WholeRow
namespace Go.Proofs.YtndkpdiacabjgaaGreatDoor
open Go.RowKit

set_option maxRecDepth 100000 in
theorem Tryz.info_mem : (Tryz.prog.info? 71).map (fun i => (i.zero, i.size)) = some (some (.agg (cellsM fun _ => false)), 1001) := by kernel_rfl
theorem zero_mem : Hid (∃ C, C = cellsM (fun _ => false) ∧ ∀ w, (zeroValue 71).run Tryz.prog w = .ok (.agg C) w) := Lib.hid ⟨_, rfl, (zero_of_info Tryz.info_mem).1⟩

theorem more_behind (ts : List (Bool × Int × Int)) : BehindG (moreG ts) := by
  cases ts with
  | nil => exact .inl rfl
  | cons t ts =>
    obtain ⟨q, r⟩ := t
    refine .inr ⟨_, _, rfl, ?_⟩
    cases q <;> simp
theorem runG_zero : ∀ (ts : List (Bool × Int × Int)) (M : Nat → Bool), (∀ t ∈ ts, rightG t.2 = true) → M 0 = false → runG ts M 0 = false
  | [], _, _, h => h
  | (q, r) :: ts, M, hr, h => by
    have hri := rightG_iff.1 (hr (q, r) (by simp))
    refine runG_zero ts _ (fun t ht => hr t (by simp [ht])) ?_
    unfold putG
    rw [if_neg (fun e => by have := hasG_iff.1 e; dsimp only at hri; omega)]
    exact h
theorem rngs_one {w : World} {b T : Nat} {r : Int × Int} (h : RowAt w b T (rngA r)) : RngsAt w (.slice (some ⟨b, 0, none⟩) 1 1) [r] := by
  refine .inr ⟨Nat.one_pos, by simp, b, 0, 1, rfl, lt_of_block h, fun j hj => ?_⟩
  rw [Nat.zero_add, (row_facts h).1 j]
  have hj2 : j = 0 ∨ j = 1 := by simp at hj; omega
  rcases hj2 with rfl | rfl <;> rfl

/-- What Parse returns for a text of terms. -/
def ParsePost (M : Nat → Bool) (w : World) (e : Ending) (w' : World) : Prop :=
  ∃ (a : Option Addr) (c : Nat) (l : List (Int × Int)), e = .returned (.tuple #[.slice a l.length c, .int .i64 0, .int .i64 0]) ∧ RngsAt w' (.slice a l.length c) l ∧ SetOf M l ∧ l.length ≤ 999 ∧ Below w.heap.size w w'

set_option maxHeartbeats 8000000 in
set_option maxRecDepth 100000 in
theorem gparse_any (s : ByteArray) (r : Int × Int) (ts : List (Bool × Int × Int)) (w : World) (hs : s.size ≤ 4096) (hd : s.data.toList = fmtG r ++ moreG ts) (hr : rightG r = true) (hts : ∀ t ∈ ts, rightG t.2 = true) :
    Calls Tryz.prog 15 #[.string s] w (ParsePost (runG ((true, r) :: ts) fun _ => false) w) := by
  obtain ⟨C, hC, hz⟩ := zero_mem.out
  obtain ⟨MF, hMF⟩ : ∃ MF, runG ((true, r) :: ts) (fun _ => false) = MF := ⟨_, rfl⟩
  have H0 : Hid (MF 0 = false) := Lib.hid (by
    rw [← hMF]
    exact runG_zero _ _ (fun t ht => by
      rcases List.mem_cons.1 ht with rfl | ht
      · exact hr
      · exact hts t ht) rfl)
  have hsz : (s.size : Int) ≤ 4096 := by omega
  have HD0 : Hid (s.data.toList.drop 0 = fmtG r ++ moreG ts) := Lib.hid (by rw [List.drop_zero]; exact hd)
  obtain ⟨d0, l0, hf0, hdg0⟩ := fmtG_head r
  have hne0 : ¬ (0 : Int) = (s.size : Int) := by
    have : s.data.toList.length = s.size := by simp
    rw [hd, hf0] at this
    simp at this
    omega
  have hne1 : ((0 : Int) == (s.size : Int)) = false := by simpa using hne0
  have hb00 : blanksG (s.data.toList.drop 0) = 0 := by rw [HD0.out, hf0, List.cons_append, blanksG_other _ (isDig_ne hdg0)]
  have CB := Lib.hid (fun W b (hW : RdAt W b s 0) => gblanks_any b s 0 W hW hs (by omega))
  rw [hb00] at CB
  have HALL : Hid (∀ t ∈ (true, r) :: ts, rightG t.2 = true) := Lib.hid (fun t ht => by
      rcases List.mem_cons.1 ht with rfl | ht
      · exact hr
      · exact hts t ht)
  have HMF := Lib.hid hMF
  have HC := Lib.hid hC
  rw [hMF]
  clear hd hr hts hMF hC hf0 hdg0 hb00
  go_enter Tryz.func15, Tryz.ntmps15
  go_wp2_with fail
  refine (CB.out _ _ (RowAt.alloc (RowAt.new _ _ _) _)).mono ?_
  rintro e w1 ⟨rfl, hr1, hu1⟩
  rw [Nat.zero_add] at hr1
  have hs1 : SetAt w1 (w.heap.size + 1) (fun _ => false) := by
    have h2 : RowAt ((w.alloc (.cells #[.string s, .int .i64 0, .int .i64 0] 69)).alloc (.cells C 71)) (w.heap.size + 1) 71 C := RowAt.mk (by simp) rfl
    have h3 := h2.upd hu1 (by omega)
    rw [HC.out] at h3
    exact h3
  have hb1 : Below w.heap.size w w1 := below_of_upd ((Below.alloc (Below.refl _ _) (Nat.le_refl _) _).alloc (by simp) _) hu1 (Nat.le_refl _)
  clear hu1 HC CB hz
  obtain ⟨kb, hkb⟩ : ∃ kb, w.heap.size = kb := ⟨_, rfl⟩
  obtain ⟨km, hkm⟩ : ∃ km, w.heap.size + 1 = km := ⟨_, rfl⟩
  have hkk : ¬ kb = km := by omega
  have hkk2 : ¬ km = kb := by omega
  have hwb : w.heap.size ≤ kb := by omega
  have hwm : w.heap.size ≤ km := by omega
  rw [hkm] at hs1
  rw [hkb] at hr1
  have HR1 := Lib.hid hr1
  have HS1 := Lib.hid hs1
  have HB1 := Lib.hid hb1
  obtain ⟨x1, x2, x3, x4, x5, x6⟩ := row_facts hr1
  have c1 := x1 1
  simp only [List.getElem?_toArray, List.getElem?_cons_zero, List.getElem?_cons_succ] at c1
  clear x1 x2 hr1 hs1 hb1
  rw [hkm, hkb]
  go_wp2
  go_loopw [7, 8] (fun qv _ wr => ∃ (q : Bool) (rr : Int × Int) (tt : List (Bool × Int × Int)) (n : Nat) (M : Nat → Bool), qv = .bool q ∧ Hid (RdAt wr kb s n) ∧ Hid (s.data.toList.drop n = fmtG rr ++ moreG tt) ∧ Hid (SetAt wr km M) ∧ Hid (runG ((q, rr) :: tt) M = MF) ∧ Hid (∀ t ∈ (q, rr) :: tt, rightG t.2 = true) ∧ Hid (Below w.heap.size w wr)) (fun _ _ wr => s.size + 1 - placeOf wr kb)
  case atStart => exact ⟨true, r, ts, 0, _, rfl, HR1, HD0, HS1, HMF, HALL, HB1⟩
  case round =>
    rename World => wr
    obtain ⟨q, rr, tt, n, M, rfl, HRD, HD, HS, HRUN, HA, HB⟩ := hrel
    clear HR1 HS1 HB1 HD0 HMF HALL
    obtain ⟨x, hx⟩ : ∃ x : Nat, rr.1 = x := ⟨rr.1.toNat, by have := rightG_iff.1 (HA.out (q, rr) (by simp)); dsimp only at this; omega⟩
    obtain ⟨y, hy⟩ : ∃ y : Nat, rr.2 = y := ⟨rr.2.toNat, by have := rightG_iff.1 (HA.out (q, rr) (by simp)); dsimp only at this; omega⟩
    have hrr : rr = ((x : Int), (y : Int)) := by rw [← hx, ← hy]
    subst hrr
    have hri := rightG_iff.1 (HA.out (q, ((x : Int), (y : Int))) (by simp))
    dsimp only at hri
    have HRR : Hid (rightG ((x : Int), (y : Int)) = true) := Lib.hid (HA.out (q, ((x : Int), (y : Int))) (by simp))
    have CT := Lib.hid (gterm_any kb s n x y (moreG tt) wr HRD.out hs (by omega) (by omega) (by omega) HD.out (more_behind tt))
    obtain ⟨m, hm⟩ : ∃ m, n + (fmtG ((x : Int), (y : Int))).length + blanksG (moreG tt) = m := ⟨_, rfl⟩
    rw [hm] at CT
    have hdm : s.data.toList.drop m = (moreG tt).drop (blanksG (moreG tt)) := by
      rw [← hm, ← List.drop_drop, drop_more HD.out]
    have HPL := Lib.hid HRD.out.place
    have hnm : n + (fmtG ((x : Int), (y : Int))).length ≤ m := by omega
    have hfl : 0 < (fmtG ((x : Int), (y : Int))).length := by obtain ⟨d, l, e, _⟩ := fmtG_head ((x : Int), (y : Int)); rw [e]; simp
    have hln := drop_len HD.out (List.length_pos_iff.1 hfl)
    have HM := Lib.hid hm
    clear hx hy hri hm
    go_wp2_with fail
    refine CT.out.mono ?_
    rintro e w1 ⟨rfl, hr1, hu1⟩
    have hs1 : SetAt w1 km M := RowAt.upd HS.out hu1 hkk2
    have hb1 : Below w.heap.size w w1 := below_of_upd HB.out hu1 hwb
    have HU1 := Lib.hid hu1
    have HR1 := Lib.hid hr1
    have HS1 := Lib.hid hs1
    have HB1 := Lib.hid hb1
    obtain ⟨x1, x2, x3, x4, x5, x6⟩ := row_facts hr1
    have c0 := x1 0
    have c1 := x1 1
    have c2 := x1 2
    simp only [List.getElem?_toArray, List.getElem?_cons_zero, List.getElem?_cons_succ] at c0 c1 c2
    clear x1 x2 hr1 hs1 hb1 CT HRD HS hu1
    go_wp2_with fail
    have hrow : RowAt ((w1.alloc (.cells #[.int .i64 x, .int .i64 y] 42)).alloc (.cells #[.int .i64 x, .int .i64 y] 42)) (w1.heap.size + 1) 42 (rngA ((x : Int), (y : Int))) := RowAt.mk (by simp) rfl
    refine (gput_any km q M [((x : Int), (y : Int))] _ _ ((RowAt.alloc (RowAt.alloc HS1.out _) _) : SetAt _ km M) (rngs_one hrow) (fun r hr => by rw [List.mem_singleton] at hr; subst hr; exact HRR.out)).mono ?_
    rintro e w2 ⟨rfl, hs2, hu2⟩
    have hr2 : RdAt w2 kb s m := RowAt.upd (RowAt.alloc (RowAt.alloc HR1.out _) _) hu2 hkk
    have hb2 : Below w.heap.size w w2 := below_of_upd ((HB1.out.alloc HB1.out.size _).alloc (Nat.le_trans HB1.out.size (by simp)) _) hu2 hwm
    have hM0 : runG tt (putG q M ((x : Int), (y : Int))) = MF := HRUN.out
    have HS2 : Hid (SetAt w2 km (putG q M ((x : Int), (y : Int)))) := Lib.hid hs2
    have HR2 := Lib.hid hr2
    have HB2 := Lib.hid hb2
    obtain ⟨x1, x2, x3, x4, x5, x6⟩ := row_facts hr2
    have c0 := x1 0
    have c1 := x1 1
    have c2 := x1 2
    have f1 := x2 1
    simp only [List.getElem?_toArray, List.getElem?_cons_zero, List.getElem?_cons_succ] at c0 c1 c2
    have hlen : s.data.toList.length = s.size := by simp
    clear x1 x2 hr2 hs2 hb2 hu2 hrow HRUN
    match tt, hdm, hM0, HM, HA with
    | [], hdm, hM0, HM, HA =>
      have hms : m = s.size := by
        have h1 := HM.out
        have h2 := at_end hdm
        rw [show moreG [] = [] from rfl, blanksG_nil] at h1
        omega
      have hm1 : (m : Int) = (s.size : Int) := by omega
      have CR := Lib.hid (granges_any km _ w2 HS2.out (by have := H0.out; rw [← hM0] at this; exact this))
      have HMF := Lib.hid hM0
      clear hdm hM0 hms
      go_wp2_with fail
      refine CR.out.mono ?_
      rintro e w3 ⟨a, cc, l, rfl, hl, hset, hl9, hb3⟩
      go_wp2
      go_ret3
      exact ⟨a, cc, l, rfl, hl, by rw [← HMF.out]; exact hset, hl9, below_run HB2.out hb3⟩
    | (q', r') :: tt', hdm, hM0, HM, HA =>
      obtain ⟨c, hc⟩ : ∃ c : UInt8, (if q' then 43 else 45) = c := ⟨_, rfl⟩
      have hmg : moreG ((q', r') :: tt') = 32 :: c :: 32 :: (fmtG r' ++ moreG tt') := by rw [moreG, hc]
      have hc32 : c ≠ 32 := by rw [← hc]; cases q' <;> decide
      have hbl1 : blanksG (moreG ((q', r') :: tt')) = 1 := by rw [hmg, blanksG_cons, blanksG_other _ hc32]
      rw [hbl1, hmg] at hdm
      have hdm2 : s.data.toList.drop m = c :: 32 :: (fmtG r' ++ moreG tt') := hdm
      obtain ⟨hms, hby, hdm3⟩ := at_byte hdm2
      obtain ⟨hms2, hby2, hdm4⟩ := at_byte hdm3
      obtain ⟨d, l, hfd, hdd⟩ := fmtG_head r'
      have hbl2 : blanksG (s.data.toList.drop (m + 1)) = 1 := by rw [hdm3, blanksG_cons, hfd, List.cons_append, blanksG_other _ (isDig_ne hdd)]
      have CB := Lib.hid (fun W (hW : RdAt W kb s (m + 1)) => gblanks_any kb s (m + 1) W hW hs (by omega))
      rw [hbl2] at CB
      have hg3 : (m : Int) < (s.size : Int) := by omega
      have hg4 : ¬ (m : Int) = (s.size : Int) := by omega
      have hm0 : (0 : Int) ≤ (m : Int) := by omega
      have HN : Hid (Hid (s.data.toList.drop (m + 1 + 1) = fmtG r' ++ moreG tt') ∧ Hid (runG ((q', r') :: tt') (putG q M ((x : Int), (y : Int))) = MF) ∧ Hid (∀ t ∈ (q', r') :: tt', rightG t.2 = true) ∧ n < m + 2 ∧ m + 2 ≤ s.size) :=
        Lib.hid ⟨Lib.hid hdm4, Lib.hid hM0, Lib.hid (fun t ht => HA.out t (List.mem_cons_of_mem _ ht)), by omega, by omega⟩
      have HPN : Hid (placeOf wr kb = n) := HPL
      clear hdm hdm2 hdm3 hdm4 hM0 hbl1 hbl2 hmg hfd hdd hc32 hnm hfl hln HPL HM hby2
      cases q' with
      | true =>
        have hcc : c = 43 := hc.symm
        have hbi : (s[m].toNat : Int) = 43 := by rw [hby, hcc]; rfl
        have hbu : s[m] = 43 := by rw [hby, hcc]
        clear hby hc hcc
        go_wp2_with fail
        refine (CB.out _ (HR2.out.set (m + 1))).mono ?_
        rintro e w3 ⟨rfl, hr3, hu3⟩
        go_wp2
        go_roundw
        case rel => exact ⟨true, r', tt', m + 1 + 1, _, rfl, Lib.hid hr3, HN.out.1, Lib.hid (RowAt.upd (RowAt.far HS2.out hkk2) hu3 hkk2), HN.out.2.1, HN.out.2.2.1, Lib.hid (below_of_upd (HB2.out.setCell hwb _) hu3 hwb)⟩
        case measure =>
          have h1 := hr3.place
          have h2 := HPN.out
          obtain ⟨_, _, _, h3, h4⟩ := HN.out
          rw [h1, h2]
          omega
      | false =>
        have hcc : c = 45 := hc.symm
        have hbi : (s[m].toNat : Int) = 45 := by rw [hby, hcc]; rfl
        have hbu : s[m] = 45 := by rw [hby, hcc]
        clear hby hc hcc
        go_wp2_with fail
        refine (CB.out _ (HR2.out.set (m + 1))).mono ?_
        rintro e w3 ⟨rfl, hr3, hu3⟩
        go_wp2
        go_roundw
        case rel => exact ⟨false, r', tt', m + 1 + 1, _, rfl, Lib.hid hr3, HN.out.1, Lib.hid (RowAt.upd (RowAt.far HS2.out hkk2) hu3 hkk2), HN.out.2.1, HN.out.2.2.1, Lib.hid (below_of_upd (HB2.out.setCell hwb _) hu3 hwb)⟩
        case measure =>
          have h1 := hr3.place
          have h2 := HPN.out
          obtain ⟨_, _, _, h3, h4⟩ := HN.out
          rw [h1, h2]
          omega
end Go.Proofs.YtndkpdiacabjgaaGreatDoor
