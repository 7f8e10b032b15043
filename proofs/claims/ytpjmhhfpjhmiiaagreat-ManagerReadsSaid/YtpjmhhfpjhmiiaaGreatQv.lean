/-
  The walk of the law ManagerReads.
-/
import Derived.Test.YtpjmhhfpjhmiiaaGreatQt
import Derived.Test.YtpjmhhfpjhmiiaaGreatTopW
namespace Go.Proofs.YtpjmhhfpjhmiiaaGreat
open Go.RowKit Go.Shelf

set_option maxHeartbeats 2000000 in
set_option maxRecDepth 100000 in
theorem thisdev_one (k : Nat) (id : Int) (a : Dev) (q : Bool) (hq : (a.id == id) = q) (w : World) (hr : RowAt w k 22 #[.int .u64 id]) :
    Calls Tryz.prog 32 #[.agg #[.int .u64 a.id, .int .i64 a.ft, .int .i64 a.ad, .string a.lb, .int .i64 a.hr, .bool a.mu, .bool a.idf], .pointer (some ⟨k, 0, none⟩)] w
      fun e w' => e = .returned (.bool q) ∧ Below w.heap.size w w' := by
  have c0 := cell_fact hr 0
  have hlt := lt_of_block hr
  have HQ := Lib.hid hq
  have hb : Below w.heap.size w (w.alloc (.cells (devA a) 68)) := (Below.refl _ _).alloc (Nat.le_refl _) _
  have c00 : w.cell? ⟨k, 0, none⟩ = some (.int .u64 id) := c0
  clear hr c0 hq
  go_enter Tryz.func32, Tryz.ntmps32
  go_wp2
  go_ret
  exact ⟨ret_bool (by rw [← HQ.out]), hb⟩

theorem wrap_small {n : Int} (h0 : 0 ≤ n) (h1 : n ≤ 1000000) : IntKind.i64.wrap n = n := by
  simp only [IntKind.wrap, IntKind.bits, IntKind.signed, Bool.true_and, decide_eq_true_eq, show (64 : Nat) - 1 = 63 from rfl, show (2 : Int) ^ 64 = 18446744073709551616 from by decide, show (2 : Int) ^ 63 = 9223372036854775808 from by decide]
  split <;> omega
/-- Where the device of an identity is. -/
def FoundAt (l : List Dev) (id n : Int) : Prop := (n = -1 ∧ ∀ d ∈ l, d.id ≠ id) ∨ ∃ (j : Nat) (d : Dev), n = j ∧ l[j]? = some d ∧ d.id = id
set_option maxHeartbeats 4000000 in
set_option maxRecDepth 100000 in
theorem find_dev (k : Nat) (id : Int) (v : Value) (l : List Dev) (w : World) (hv : DevsAt w v l) (hr : RowAt w k 22 #[.int .u64 id]) :
    Calls Tryz.prog 31 #[v, .func (.func 32) #[] #[.pointer (some ⟨k, 0, none⟩)]] w
      fun e w' => ∃ n : Int, e = .returned (.int .i64 n) ∧ FoundAt l id n ∧ Below w.heap.size w w' := by
  rcases hv with ⟨h0, a, cap, rfl⟩ | ⟨h0, h1, b, off, cap, rfl, hlt, hc⟩
  · have hl : l = [] := List.eq_nil_of_length_eq_zero h0
    subst hl
    go_enter Tryz.func31, Tryz.ntmps31
    go_wp2
    refine wp_loop_rounds 1 ?_
    rw [rounds_succ]
    go_wp2
    go_ret
    exact ⟨_, rfl, .inl ⟨rfl, fun d hd => by cases hd⟩, by (repeat' (first | (with_reducible exact Below.refl _ _) | (with_reducible assumption) | (with_reducible refine below_drewN ?_ _) | (with_reducible refine Below.drew ?_) | (with_reducible refine Below.setCell ?_ ?_ _) | (with_reducible refine Below.alloc ?_ ?_ _) | (with_reducible refine below_after ?_ ?_ (by assumption)) | (show _ ≤ _; first | omega | (simp; done) | (simp; omega))))⟩
  · have h4 : (0 : Int) < (l.length : Int) := by omega
    have hklt : k < w.heap.size := lt_of_block hr
    go_enter Tryz.func31, Tryz.ntmps31
    go_wp2
    go_loopw [5, 8] (fun _ i wr => ∃ k : Nat, k ≤ l.length ∧ i = .int .i64 k ∧ (∀ d ∈ l.take k, d.id ≠ id) ∧ Below w.heap.size w wr) (fun _ i _ => l.length - (intOf i).toNat)
    case atStart => exact ⟨0, Nat.zero_le _, rfl, (fun d hd => by simp at hd), by (repeat' (first | (with_reducible exact Below.refl _ _) | (with_reducible assumption) | (with_reducible refine below_drewN ?_ _) | (with_reducible refine Below.drew ?_) | (with_reducible refine Below.setCell ?_ ?_ _) | (with_reducible refine Below.alloc ?_ ?_ _) | (with_reducible refine below_after ?_ ?_ (by assumption)) | (show _ ≤ _; first | omega | (simp; done) | (simp; omega))))⟩
    case round =>
      obtain ⟨j, hj, rfl, hany, hb0⟩ := hrel
      by_cases hlt2 : j < l.length
      · have hlt3 : (j : Int) < (l.length : Int) := by omega
        have hc' : ∀ i, i < l.length * 7 → wr.cell? ⟨b, off + i, none⟩ = devsC l i := fun i hi => (hb0.cell (p := ⟨b, off + i, none⟩) hlt).trans (hc i hi)
        obtain ⟨a, ha, e0, e1, e2, e3, e4, e5, e6⟩ := dev_cells hc' j hlt2
        have hrr := hr.run hb0
        have HA := Lib.hid hany
        have HS := Lib.hid ha
        have HT := Lib.hid (take_succ_some ha)
        obtain ⟨q, hq⟩ : ∃ q, (a.id == id) = q := ⟨_, rfl⟩
        have C := Lib.hid (thisdev_one k id a q hq wr hrr)
        have HQ := Lib.hid hq
        have HR := Lib.hid hr
        clear hc hc' ha hany hrr hq hr
        cases q with
        | true =>
          go_wp2_with fail
          refine C.out.mono ?_
          rintro e w' ⟨rfl, hb⟩
          go_wp2
          go_ret
          exact ⟨_, rfl, .inr ⟨j, a, rfl, HS.out, eq_of_beq HQ.out⟩, below_run hb0 hb⟩
        | false =>
          go_wp2_with fail
          refine C.out.mono ?_
          rintro e w' ⟨rfl, hb⟩
          have hb2 := below_run hb0 hb
          clear hb hb0
          go_wp2
          go_roundw
          case rel =>
            refine ⟨j + 1, by omega, by go_num, fun d hd => ?_, hb2⟩
            rw [HT.out] at hd
            rcases List.mem_append.1 hd with h | h
            · exact HA.out d h
            · obtain rfl := List.mem_singleton.1 h
              exact ne_of_beq_false HQ.out
          case measure => simp [intOf]; omega
      · have hlt3 : ¬ (j : Int) < (l.length : Int) := by omega
        obtain rfl : j = l.length := by omega
        rw [List.take_length] at hany
        have HA := Lib.hid hany
        clear hany
        go_wp2
        go_ret
        exact ⟨_, rfl, .inl ⟨rfl, HA.out⟩, hb0⟩

set_option maxHeartbeats 8000000 in
set_option maxRecDepth 100000 in
theorem law_reads (x : Mgr) (da fa la : Option Addr) (dn dc fn fc ln lc : Nat) (y : Wre) (id par : Int) (w : World) (h : WireAt w (.slice da dn dc) (.slice fa fn fc) (.slice la ln lc) y) (hr : y.devs.length * 56 ≤ 140737488351232) (hpar : 0 ≤ par ∧ par ≤ 65535) :
    Calls Tryz.prog 7 #[.agg #[.int .u64 x.id, .int .i64 x.seq, .int .i64 x.tries, .slice da dn dc, .slice fa fn fc, .slice la ln lc], .int .u64 id, .int .u16 par] w fun e w' => e = .returned (.bool true) ∧ Below w.heap.size w w' := by
  obtain ⟨xi, xs, xt⟩ := x
  obtain ⟨l, f, t⟩ := y
  dsimp only at hr
  obtain rfl : dn = l.length := by
    obtain ⟨a, c, e⟩ := shape_of h.devs
    cases e
    rfl
  show Calls Tryz.prog 7 #[.agg #[.int .u64 xi, .int .i64 xs, .int .i64 xt, .slice da l.length dc, .slice fa fn fc, .slice la ln lc], _, _] w _
  obtain ⟨W, hW⟩ : ∃ W, (w.alloc (.cells #[.int .u64 xi, .int .i64 xs, .int .i64 xt, .slice da l.length dc, .slice fa fn fc, .slice la ln lc] 31)).alloc (.cells #[.int .u64 id] 22) = W := ⟨_, rfl⟩
  have hbW : Below w.heap.size w W := by rw [← hW]; (repeat' (first | (with_reducible exact Below.refl _ _) | (with_reducible assumption) | (with_reducible refine below_run ?_ (by assumption)) | (with_reducible refine below_of_upd ?_ (by assumption) ?_) | (with_reducible refine below_drewN ?_ _) | (with_reducible refine Below.drew ?_) | (with_reducible refine below_seven ?_ ?_) | (with_reducible refine below_six ?_ ?_) | (with_reducible refine below_one ?_ ?_) | (with_reducible refine Below.alloc ?_ ?_ _) | (with_reducible refine below_after ?_ ?_ (by assumption)) | (show _ ≤ _; first | omega | (simp; done) | (simp; omega))))
  have hWz : W.heap.size = w.heap.size + 2 := by rw [← hW]; simp
  have r0 : RowAt W w.heap.size 31 #[.int .u64 xi, .int .i64 xs, .int .i64 xt, .slice da l.length dc, .slice fa fn fc, .slice la ln lc] := by rw [← hW]; exact (RowAt.new _ _ _).alloc _
  have r1 : RowAt W (w.heap.size + 1) 22 #[.int .u64 id] := by rw [← hW]; exact RowAt.mk (by simp) rfl
  obtain ⟨x1, x2, x3, x4, x5, x6⟩ := row_facts r0
  have g4 := cell_fact r0 4
  have g5 := cell_fact r0 5
  simp only [List.getElem?_toArray] at g4 g5
  have q0 : RowAt ((W.setCell ⟨w.heap.size, 4, none⟩ (.slice none 0 0)).setCell ⟨w.heap.size, 5, none⟩ (.slice none 0 0)) w.heap.size 31 #[.int .u64 xi, .int .i64 xs, .int .i64 xt, .slice da l.length dc, .slice none 0 0, .slice none 0 0] := RowAt.set (RowAt.set r0 rfl) rfl
  have q1 := (r1.far1 (u := .slice none 0 0) (i := 4) (g := w.heap.size) (by omega)).far1 (u := .slice none 0 0) (i := 5) (g := w.heap.size) (by omega)
  have hbQ : Below w.heap.size w ((W.setCell ⟨w.heap.size, 4, none⟩ (.slice none 0 0)).setCell ⟨w.heap.size, 5, none⟩ (.slice none 0 0)) := below_one (below_one hbW (Nat.le_refl _)) (Nat.le_refl _)
  obtain ⟨Q, hQ⟩ : ∃ Q, (W.setCell ⟨w.heap.size, 4, none⟩ (.slice none 0 0)).setCell ⟨w.heap.size, 5, none⟩ (.slice none 0 0) = Q := ⟨_, rfl⟩
  rw [hQ] at q0 q1 hbQ
  have hwq := h.run hbQ
  have HWQ := Lib.hid (show WireAt Q (.slice da l.length dc) (.slice none 0 0) (.slice none 0 0) ⟨l, [], []⟩ from ⟨hwq.devs, hwq.room, .inl ⟨rfl, _, _, rfl⟩, .inl ⟨rfl, _, _, rfl⟩⟩)
  have R0 := Lib.hid q0
  have R1 := Lib.hid q1
  have HB := Lib.hid hbQ
  obtain ⟨y1, y2, y3, y4, y5, y6⟩ := row_facts q0
  obtain ⟨z1, z2, z3, z4, z5, z6⟩ := row_facts q1
  obtain ⟨q, hq⟩ : ∃ q, rightW ⟨xi, xs, xt⟩ ⟨l, [], []⟩ = q := ⟨_, rfl⟩
  have CR := Lib.hid (wright_any q xi xs xt da none none l.length dc 0 0 0 0 ⟨l, [], []⟩ Q HWQ.out hr hq)
  have HQ := Lib.hid hq
  have HRZ := Lib.hid hr
  obtain ⟨qi, hqi⟩ : ∃ q, isId id = q := ⟨_, rfl⟩
  have CI := Lib.hid (fun W => Is_any id W)
  rw [hqi] at CI
  have HQI := Lib.hid hqi
  clear h r0 r1 hbW q0 q1 hbQ hwq hq hr hqi
  go_enter Tryz.func7, Tryz.ntmps7
  go_upto_region 2 with fail
  go_wp2_with fail
  refine (CR.out).mono ?_
  rintro e w1 ⟨rfl, hb1⟩
  have HB1 := Lib.hid (below_run HB.out hb1)
  have H1 := Lib.hid (HWQ.out.run hb1)
  have r0 := R0.out.run hb1
  have r1 := R1.out.run hb1
  have R01 := Lib.hid r0
  have R11 := Lib.hid r1
  clear hb1 x1 x2 x3 x4 x5 x6 y1 y2 y3 y4 y5 y6 z1 z2 z3 z4 z5 z6 g4 g5 R0 R1 HB HWQ CR hQ hW hWz
  obtain ⟨x1, x2, x3, x4, x5, x6⟩ := row_facts r0
  obtain ⟨y1, y2, y3, y4, y5, y6⟩ := row_facts r1
  clear r0 r1
  cases q with
  | false =>
    go_wp2_with fail
    refine (awake49_any _).mono ?_
    rintro e w2 ⟨rfl, hb2⟩
    go_wp2
    go_ret
    exact ⟨rfl, below_run HB1.out hb2⟩
  | true =>
  cases qi with
  | false =>
    go_wp2_with fail
    refine (CI.out _).mono ?_
    rintro e w2 ⟨rfl, rfl⟩
    go_wp2_with fail
    refine (awake49_any _).mono ?_
    rintro e w3 ⟨rfl, hb2⟩
    go_wp2
    go_ret
    exact ⟨rfl, below_run HB1.out hb2⟩
  | true =>
    go_wp2_with fail
    refine (CI.out _).mono ?_
    rintro e w2 ⟨rfl, rfl⟩
    have hqq := HQ.out
    unfold rightW at hqq
    simp only [Bool.and_eq_true, decide_eq_true_eq] at hqq
    obtain ⟨-, hy0, hx0⟩ := hqq
    have hmp := mgr_parts hx0
    have hdv := devs_chk (wire_parts hy0).1
    dsimp only at hmp hdv
    obtain ⟨hE, hwr, hsq, hno, hyes⟩ := reads_law hx0 hy0 HQI.out hpar.1 hpar.2
    obtain ⟨p, hp⟩ : ∃ p, askM ⟨xi, xs, xt⟩ ⟨l, [], []⟩ ⟨id, 4, par, ⟨#[]⟩⟩ = p := ⟨_, rfl⟩
    have CA := Lib.hid (fun (V : World) hv => ask_lift (V := V) (W := V) (da := da) (fa := none) (la := none) (dn := l.length) (dc := dc) (fn := 0) (fc := 0) (ln := 0) (lc := 0) ((askU_of hE).trans hp) hE hv (Below.refl _ _))
    rw [hp] at hwr hsq hno hyes
    obtain ⟨⟨oi, os, ot⟩, y', ⟨ak, ad, ar, at'⟩⟩ := p
    dsimp only at hwr hsq hno hyes
    subst hwr
    have hat : at' = xt ∨ at' = 1 := by
      by_cases he : ∃ d ∈ l, d.id = id
      · obtain ⟨d, hd, hxd⟩ := he
        have := hyes d hd hxd
        split at this
        · cases this
          exact .inr rfl
        · cases this
          exact .inr rfl
      · have := hno fun d hd hx => he ⟨d, hd, hx⟩
        cases this
        exact .inl rfl
    have hmod : (IntKind.i64.wrap (xs + at')).tmod 256 = os := by rw [wrap_small (by omega) (by omega), Int.tmod_eq_emod_of_nonneg (by omega), hsq]
    have hs0 : 0 ≤ xs := hmp.2.1
    have hs1 : xs ≤ 255 := hmp.2.2.1
    have ht0 : 1 ≤ at' := by omega
    have ht1 : at' ≤ 16 := by omega
    have hp0 := hpar.1
    have hp1 := hpar.2
    have HNO := Lib.hid hno
    have HYES := Lib.hid hyes
    have HDV := Lib.hid hdv
    clear hE hp hsq hno hyes hat hmp hdv hy0 hx0 hpar HQ HQI CI
    go_wp2_with fail
    refine (CA.out _ H1.out).mono ?_
    rintro e w3 ⟨⟨d1, f1, l1, j1, j2, j3, rfl, hw3⟩, hb3⟩
    go_upto_region 5 with fail
    rw [show w3.heap.size + 1 + 1 = w3.heap.size + 2 from rfl]
    have hbT : Below w3.heap.size w3 (((w3.alloc (.cells #[.int .u64 oi, .int .i64 os, .int .i64 ot] 24)).alloc (.cells #[.slice d1 l.length j1, .slice f1 0 j2, .slice l1 0 j3] 29)).alloc (.cells #[.int .i64 ak, .string ad, .int .i64 ar, .int .i64 at'] 53)) := by (repeat' (first | (with_reducible exact Below.refl _ _) | (with_reducible assumption) | (with_reducible refine below_run ?_ (by assumption)) | (with_reducible refine below_of_upd ?_ (by assumption) ?_) | (with_reducible refine below_drewN ?_ _) | (with_reducible refine Below.drew ?_) | (with_reducible refine below_seven ?_ ?_) | (with_reducible refine below_six ?_ ?_) | (with_reducible refine below_one ?_ ?_) | (with_reducible refine Below.alloc ?_ ?_ _) | (with_reducible refine below_after ?_ ?_ (by assumption)) | (show _ ≤ _; first | omega | (simp; done) | (simp; omega))))
    have t0 := (R01.out.run hb3).run hbT
    have t1 := (R11.out.run hb3).run hbT
    have t7 : RowAt (((w3.alloc (.cells #[.int .u64 oi, .int .i64 os, .int .i64 ot] 24)).alloc (.cells #[.slice d1 l.length j1, .slice f1 0 j2, .slice l1 0 j3] 29)).alloc (.cells #[.int .i64 ak, .string ad, .int .i64 ar, .int .i64 at'] 53)) w3.heap.size 24 #[.int .u64 oi, .int .i64 os, .int .i64 ot] := ((RowAt.new _ _ _).alloc _).alloc _
    have t8 : RowAt (((w3.alloc (.cells #[.int .u64 oi, .int .i64 os, .int .i64 ot] 24)).alloc (.cells #[.slice d1 l.length j1, .slice f1 0 j2, .slice l1 0 j3] 29)).alloc (.cells #[.int .i64 ak, .string ad, .int .i64 ar, .int .i64 at'] 53)) (w3.heap.size + 1) 29 #[.slice d1 l.length j1, .slice f1 0 j2, .slice l1 0 j3] := (RowAt.mk (by simp) rfl).alloc _
    have t9 : RowAt (((w3.alloc (.cells #[.int .u64 oi, .int .i64 os, .int .i64 ot] 24)).alloc (.cells #[.slice d1 l.length j1, .slice f1 0 j2, .slice l1 0 j3] 29)).alloc (.cells #[.int .i64 ak, .string ad, .int .i64 ar, .int .i64 at'] 53)) (w3.heap.size + 2) 53 #[.int .i64 ak, .string ad, .int .i64 ar, .int .i64 at'] := RowAt.mk (by simp) rfl
    have twr := (hw3.run hbT).at
    have swr := (H1.out.run hb3).run hbT
    have hbw := below_run (below_run HB1.out hb3) hbT
    generalize ((w3.alloc (.cells #[.int .u64 oi, .int .i64 os, .int .i64 ot] 24)).alloc (.cells #[.slice d1 l.length j1, .slice f1 0 j2, .slice l1 0 j3] 29)).alloc (.cells #[.int .i64 ak, .string ad, .int .i64 ar, .int .i64 at'] 53) = Z at t0 t1 t7 t8 t9 twr swr hbT hbw ⊢
    generalize w3.heap.size = k at t7 t8 t9 ⊢
    have hkeep : ∀ W', Below Z.heap.size Z W' → (W'.cell? ⟨w.heap.size, 0, none⟩ = some (.int .u64 xi) ∧ W'.cell? ⟨w.heap.size, 1, none⟩ = some (.int .i64 xs) ∧ W'.cell? ⟨w.heap.size, 2, none⟩ = some (.int .i64 xt) ∧ W'.cell? ⟨w.heap.size, 3, none⟩ = some (.slice da l.length dc) ∧ W'.cell? ⟨w.heap.size, 4, none⟩ = some (.slice none 0 0) ∧ W'.cell? ⟨w.heap.size, 5, none⟩ = some (.slice none 0 0) ∧ W'.cell? ⟨k, 0, none⟩ = some (.int .u64 oi) ∧ W'.cell? ⟨k, 1, none⟩ = some (.int .i64 os) ∧ W'.cell? ⟨k, 2, none⟩ = some (.int .i64 ot) ∧ W'.cell? ⟨k + 1, 0, none⟩ = some (.slice d1 l.length j1) ∧ W'.cell? ⟨k + 1, 1, none⟩ = some (.slice f1 0 j2) ∧ W'.cell? ⟨k + 1, 2, none⟩ = some (.slice l1 0 j3) ∧ W'.cell? ⟨k + 2, 0, none⟩ = some (.int .i64 ak) ∧ W'.cell? ⟨k + 2, 1, none⟩ = some (.string ad) ∧ W'.cell? ⟨k + 2, 2, none⟩ = some (.int .i64 ar) ∧ W'.cell? ⟨k + 2, 3, none⟩ = some (.int .i64 at')) := by
      intro W' hb
      have a0 := t0.run hb
      have a1 := t7.run hb
      have a2 := t8.run hb
      have a3 := t9.run hb
      exact ⟨cell_fact a0 0, cell_fact a0 1, cell_fact a0 2, cell_fact a0 3, cell_fact a0 4, cell_fact a0 5, cell_fact a1 0, cell_fact a1 1, cell_fact a1 2, cell_fact a2 0, cell_fact a2 1, cell_fact a2 2, cell_fact a3 0, cell_fact a3 1, cell_fact a3 2, cell_fact a3 3⟩
    have HK := Lib.hid hkeep
    have hbd : Below Z.heap.size Z Z.drew := Below.drew (Below.refl _ _)
    obtain ⟨m0, m1, m2, m3, m4, m5, m6, m7, m8, m9, m10, m11, m12, m13, m14, m15⟩ := hkeep Z (Below.refl _ _)
    have HTW := Lib.hid twr
    have HSW := Lib.hid swr
    have HBZ := Lib.hid hbw
    have T0 := Lib.hid t0
    have T1 := Lib.hid t1
    have T9 := Lib.hid t9
    have CO1 := Lib.hid (fun W' (hb : Below Z.heap.size Z W') => wof_any d1 f1 l1 l.length j1 0 j2 0 j3 ⟨l, [], []⟩ W' (HTW.out.run hb) HRZ.out)
    have CO2 := Lib.hid (fun W' (hb : Below Z.heap.size Z W') => wof_any da none none l.length dc 0 0 0 0 ⟨l, [], []⟩ W' (HSW.out.run hb) HRZ.out)
    have zz : (os != os) = false := by simp
    clear hkeep t0 t1 t7 t8 t9 twr swr hbT hbw x1 x2 x3 x4 x5 x6 y1 y2 y3 y4 y5 y6 hb3 hw3 R01 R11 H1 HB1 CA
    go_region_held3 (fun W' => W'.cell? ⟨w.heap.size, 0, none⟩ = some (.int .u64 xi) ∧ W'.cell? ⟨w.heap.size, 1, none⟩ = some (.int .i64 xs) ∧ W'.cell? ⟨w.heap.size, 2, none⟩ = some (.int .i64 xt) ∧ W'.cell? ⟨w.heap.size, 3, none⟩ = some (.slice da l.length dc) ∧ W'.cell? ⟨w.heap.size, 4, none⟩ = some (.slice none 0 0) ∧ W'.cell? ⟨w.heap.size, 5, none⟩ = some (.slice none 0 0) ∧ W'.cell? ⟨k, 0, none⟩ = some (.int .u64 oi) ∧ W'.cell? ⟨k, 1, none⟩ = some (.int .i64 os) ∧ W'.cell? ⟨k, 2, none⟩ = some (.int .i64 ot) ∧ W'.cell? ⟨k + 1, 0, none⟩ = some (.slice d1 l.length j1) ∧ W'.cell? ⟨k + 1, 1, none⟩ = some (.slice f1 0 j2) ∧ W'.cell? ⟨k + 1, 2, none⟩ = some (.slice l1 0 j3) ∧ W'.cell? ⟨k + 2, 0, none⟩ = some (.int .i64 ak) ∧ W'.cell? ⟨k + 2, 1, none⟩ = some (.string ad) ∧ W'.cell? ⟨k + 2, 2, none⟩ = some (.int .i64 ar) ∧ W'.cell? ⟨k + 2, 3, none⟩ = some (.int .i64 at'))
      (first | go_keep | exact HK.out _ (by assumption))
      (first
        | (go_at_call 14; with_reducible refine (CO1.out _ (by assumption)).mono ?_; rintro e u1 ⟨a1, c1, rfl, hwa, hb1⟩; have hc1 : Below Z.heap.size Z u1 := below_run (by assumption) hb1; clear hb1)
        | (go_at_call 14; with_reducible refine (CO2.out _ (by assumption)).mono ?_; rintro e u2 ⟨a2, c2, rfl, hwb, hb2⟩; have hwa2 := hwa.run hb2; have hc2 : Below Z.heap.size Z u2 := below_run (by assumption) hb2; clear hb2)
        | (go_at_call 25; refine (rsame_any _ _ _ _ _ _ _ _ _ _ _ _ _ _ _ _ _ _ ⟨l, [], []⟩ _ hwa2.r hwb.r).mono ?_; rintro e u3 ⟨rfl, hb3⟩; have hc3 : Below Z.heap.size Z u3 := below_run (by assumption) hb3; clear hb3))
    have hz0 := T0.out.run hc3
    have hz1 := T1.out.run hc3
    have hz9 := T9.out.run hc3
    have HB3 := Lib.hid (below_run HBZ.out hc3)
    have HD3 := Lib.hid (HSW.out.run hc3)
    have Z0 := Lib.hid hz0
    have Z1 := Lib.hid hz1
    have Z9 := Lib.hid hz9
    obtain ⟨x1, x2, x3, x4, x5, x6⟩ := row_facts hz0
    clear hz0 hz1 hz9 hc1 hc2 hc3 hwa hwb hwa2 m0 m1 m2 m3 m4 m5 m6 m7 m8 m9 m10 m11 m12 m13 m14 m15 T0 T1 T9 HBZ HSW HTW HK CO1 CO2 hbd
    go_wp2_with fail
    refine (find_dev (w.heap.size + 1) id _ l _ HD3.out.devs Z1.out).mono ?_
    rintro e w4 ⟨n, rfl, hfound, hb4⟩
    have hz0 := Z0.out.run hb4
    have hz9 := Z9.out.run hb4
    have HB4 := Lib.hid (below_run HB3.out hb4)
    have HD4 := Lib.hid (HD3.out.run hb4)
    have Z04 := Lib.hid hz0
    have Z94 := Lib.hid hz9
    clear x1 x2 x3 x4 x5 x6 hb4 Z0 Z1 Z9 HB3 HD3
    obtain ⟨x1, x2, x3, x4, x5, x6⟩ := row_facts hz0
    obtain ⟨y1, y2, y3, y4, y5, y6⟩ := row_facts hz9
    clear hz0 hz9
    rcases hfound with ⟨rfl, hnone⟩ | ⟨j, d, rfl, hd, hdi⟩
    · have hres := HNO.out hnone
      cases hres
      clear hnone
      go_wp2_with fail
      refine (awake49_any _).mono ?_
      rintro e w9 ⟨rfl, hb9⟩
      go_wp2
      go_ret
      exact ⟨rfl, below_run HB4.out hb9⟩
    · have hyes := HYES.out d (List.mem_of_getElem? hd) hdi
      have hjl : j < l.length := (List.getElem?_eq_some_iff.1 hd).1
      have hj0 : ¬ (j : Int) < 0 := by omega
      have hj1 : (0 : Int) ≤ (j : Int) := by omega
      have hj2 : (j : Int) < (l.length : Int) := by omega
      have hl2 : (l.length : Int) ≤ 140737488351232 := by have := HRZ.out; omega
      have hw1 : ∃ b off cap, Value.slice da l.length dc = .slice (some ⟨b, off, none⟩) l.length cap ∧ ∀ i, i < l.length * 7 → w4.cell? ⟨b, off + i, none⟩ = devsC l i := by
        have hdv4 : DevsAt w4 (.slice da l.length dc) l := HD4.out.devs
        rcases hdv4 with ⟨h0, _⟩ | ⟨h0, h1, b, off, cap, hv, hbl, hcel⟩
        · omega
        · exact ⟨b, off, cap, hv, hcel⟩
      obtain ⟨b, off, cap, hve, hcel⟩ := hw1
      cases hve
      obtain ⟨d', hd', e10, e11, e12, e13, e14, e15, e16⟩ := dev_cells hcel j hjl
      rw [hd] at hd'
      simp only [Option.some.injEq] at hd'
      subst hd'
      have hrd : readD ⟨d.id, d.ft, d.ad, d.lb, d.hr, d.mu, d.idf⟩ par = ((shownD d par).1, (shownD d par).2, 0) := by
        have h0 : chkD d = 0 := HDV.out d (List.mem_of_getElem? hd)
        unfold readD
        rw [if_neg (not_not_intro h0)]
      have CRD := read_top d.id d.ft d.ad d.hr par d.lb d.mu d.idf
      have hrs := shown_reason d par
      rw [hrd] at CRD
      obtain ⟨⟨sd, sn⟩, hsh⟩ : ∃ p, shownD d par = p := ⟨_, rfl⟩
      rw [hsh] at CRD hyes hrs
      dsimp only at CRD hyes hrs
      have CR2 := Lib.hid CRD
      clear hcel hd hdi hrd CRD hsh
      go_wp2_with fail
      refine (CR2.out _).mono ?_
      rintro e w5 ⟨rfl, hb5⟩
      have hz9 := Z94.out.run hb5
      have HB5 := Lib.hid (below_run HB4.out hb5)
      clear x1 x2 x3 x4 x5 x6 y1 y2 y3 y4 y5 y6 e10 e11 e12 e13 e14 e15 e16 hb5 Z04 Z94 CR2 HD4
      obtain ⟨y1, y2, y3, y4, y5, y6⟩ := row_facts hz9
      clear hz9
      by_cases hn : 0 ≤ sn
      · rw [if_pos hn] at hyes
        cases hyes
        clear hrs
        go_wp2_with fail
        refine (awake49_any _).mono ?_
        rintro e w9 ⟨rfl, hb9⟩
        go_wp2
        go_ret
        exact ⟨rfl, below_run HB5.out hb9⟩
      · rw [if_neg hn] at hyes
        cases hyes
        obtain rfl : sn = -1 := by omega
        clear hrs
        go_wp2_with fail
        refine (awake49_any _).mono ?_
        rintro e w9 ⟨rfl, hb9⟩
        go_wp2
        go_ret
        exact ⟨rfl, below_run HB5.out hb9⟩
end Go.Proofs.YtpjmhhfpjhmiiaaGreat
