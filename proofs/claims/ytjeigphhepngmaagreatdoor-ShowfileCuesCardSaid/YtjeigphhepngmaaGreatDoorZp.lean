/-
  Records: the next one.
  Records: all of a text.
-/
import Derived.Test.YtjeigphhepngmaaGreatDoorZn
namespace Go.Proofs.YtjeigphhepngmaaGreatDoor
open Go.RowKit

/-- The record at an offset and where the next one begins, or the error. -/
def nextR (s : ByteArray) (a : Nat) : Except Int (Ent × Nat) :=
  if h : s.size < a + 5 then .error 20
  else
    let n := (s[a + 1]'(by omega)).toNat * 256 + (s[a + 2]'(by omega)).toNat
    if s.size < a + 5 + n then .error 20
    else if (s.extract (a + 3 + n) (a + 3 + n + 2) != str (wordB (sumN (s.extract a (a + 3) ++ s.extract (a + 3) (a + 3 + n)).data.toList))) = true then .error 17
    else .ok ((s[a]'(by omega), s.extract (a + 3) (a + 3 + n)), a + 5 + n)
def nextV (r : Except Int (Ent × Nat)) : Value := match r with
  | .ok (x, nx) => .tuple #[.agg #[.int .i64 (x.1.toNat : Int), .string x.2], .int .i64 (nx : Int), .int .i64 0]
  | .error c => .tuple #[.agg #[.int .i64 0, .string ⟨#[]⟩], .int .i64 0, .int .i64 c]
theorem extract_three {s : ByteArray} {a : Nat} (h : a + 3 ≤ s.size) : s.extract a (a + 3) = str [s[a], s[a + 1], s[a + 2]] := by
  have h1 : a < s.data.size := (show a < s.size by omega)
  have h2 : a + 1 < s.data.size := (show a + 1 < s.size by omega)
  have h3 : a + 2 < s.data.size := (show a + 2 < s.size by omega)
  apply ByteArray.ext
  apply Array.ext
  · simp [str]
    have : (s.extract a (a + 3)).data.size = (s.extract a (a + 3)).size := rfl
    simp at *
    omega
  · intro i hi1 hi2
    have : i = 0 ∨ i = 1 ∨ i = 2 := by simp [str] at hi2; omega
    rcases this with rfl | rfl | rfl <;> simp [str, ByteArray.data_extract, ByteArray.getElem_eq_getElem_data]

theorem next_or (a b : UInt8) (n : Nat) (hn : n = a.toNat * 256 + b.toNat) : bits BinOp.or .i64 (wrap64 (wrap64 (a.toNat : Int) * 256)) (wrap64 (b.toNat : Int)) = (n : Int) := by
  have ha := a.toNat_lt
  have hb := b.toNat_lt
  rw [IntWalk.wrap64_in (a.toNat : Int) (by omega), IntWalk.wrap64_in (b.toNat : Int) (by omega), IntWalk.wrap64_in _ (by omega),
    bits_join .i64 32 (by decide) (fun n h0 h1 => IntWalk.i64_in n (by omega)) 8 _ _ (by omega) (by omega) (by omega) (by omega) (by omega) (by omega)]
  omega
theorem row_set2 {w : World} {k T : Nat} {a b v0 v1 : Value} (h : RowAt w k T #[a, b]) : RowAt ((w.setCell ⟨k, 0, none⟩ v0).setCell ⟨k, 1, none⟩ v1) k T #[v0, v1] := by
  have h0 : RowAt (w.setCell ⟨k, 0, none⟩ v0) k T #[v0, b] := RowAt.set (i := 0) (u := v0) h rfl
  exact RowAt.set (i := 1) (u := v1) h0 rfl
theorem below_set2 {B : Nat} {a w : World} {k : Nat} {v0 v1 : Value} (h : Below B a w) (hk : B ≤ k) : Below B a ((w.setCell ⟨k, 0, none⟩ v0).setCell ⟨k, 1, none⟩ v1) := below_one (below_one h hk) hk

set_option maxHeartbeats 1000000 in
set_option maxRecDepth 100000 in
theorem next_any (s : ByteArray) (a : Nat) (w : World) (ha : a ≤ s.size) (hs : s.size ≤ 100000) :
    Calls Tryz.prog 150 #[.string s, .int .i64 (a : Int)] w fun e w' => e = .returned (nextV (nextR s a)) ∧ Below w.heap.size w w' := by
  obtain ⟨W0, hW0⟩ : ∃ W, (w.alloc (.cells #[.int .i64 0, .string ⟨#[]⟩] 77)).alloc (.cells #[.string s, .int .i64 (a : Int)] 317) = W := ⟨_, rfl⟩
  have r0 : RowAt W0 w.heap.size 77 #[.int .i64 0, .string ⟨#[]⟩] := by rw [← hW0]; exact RowAt.alloc (RowAt.new _ _ _) _
  have e0 : ERd W0 (w.heap.size + 1) s a := by rw [← hW0]; exact RowAt.mk (by simp) rfl
  have B0 : Below w.heap.size w W0 := by rw [← hW0]; (repeat' (first | (with_reducible exact Below.refl _ _) | (with_reducible assumption) | (with_reducible refine below_run ?_ (by assumption)) | (with_reducible refine below_of_upd ?_ (by assumption) ?_) | (with_reducible refine below_drewN ?_ _) | (with_reducible refine Below.drew ?_) | (with_reducible refine below_seven ?_ ?_) | (with_reducible refine below_six ?_ ?_) | (with_reducible refine below_one ?_ ?_) | (with_reducible refine Below.alloc ?_ ?_ _) | (with_reducible refine below_after ?_ ?_ (by assumption)) | (show _ ≤ _; first | omega | (simp; done) | (simp; omega))))
  have C1 := Lib.hid (echeck_any (w.heap.size + 1) s a W0 e0 ha)
  have C2 := Lib.hid (fun W (h : ERd W (w.heap.size + 1) s a) => ehas_any (w.heap.size + 1) s a 5 W h ha (by omega) (by omega))
  have H0 := Lib.hid (And.intro r0 (And.intro e0 B0))
  clear r0 e0 B0
  by_cases h5 : s.size < a + 5
  · have hd : decide ((5 : Int) ≤ (s.size : Int) - (a : Int)) = false := by simp; omega
    have HX := Lib.hid (show nextR s a = .error 20 from by rw [nextR, dif_pos h5])
    rw [hd] at C2
    clear h5 hd ha hs
    go_enter Tryz.func150, Tryz.ntmps150
    go_wp2_with fail
    clear hW0
    refine C1.out.mono ?_
    rintro e w1 ⟨rfl, hb1⟩
    have r1 := RowAt.run H0.out.1 hb1
    have e1 : ERd w1 (w.heap.size + 1) s a := RowAt.run H0.out.2.1 hb1
    have B1 := H0.out.2.2.trans (hb1.mono H0.out.2.2.size)
    have H1 := Lib.hid (And.intro r1 (And.intro e1 B1))
    clear hb1 r1 e1 B1
    go_wp2_with fail
    refine (C2.out _ H1.out.2.1).mono ?_
    rintro e w2 ⟨rfl, hb2⟩
    have r2 := RowAt.run H1.out.1 hb2
    have HB2 := Lib.hid (H1.out.2.2.trans (hb2.mono H1.out.2.2.size))
    have HR2 := Lib.hid r2
    obtain ⟨x1, x2, x3, x4, x5, x6⟩ := row_facts r2
    clear hb2 r2
    go_wp2
    have hF : RowAt ((w2.setCell ⟨w.heap.size, 0, none⟩ (.int .i64 0)).setCell ⟨w.heap.size, 1, none⟩ (.string ⟨#[]⟩)) w.heap.size 77 #[.int .i64 0, .string ⟨#[]⟩] := row_set2 HR2.out
    have f0 := cell_h hF 0
    have f1 := cell_h hF 1
    simp only [List.getElem?_toArray] at f0 f1
    refine bodyPost_ret (v := .tuple #[.agg #[.int .i64 0, .string ⟨#[]⟩], .int .i64 0, .int .i64 20]) ?_ rfl ⟨by rw [HX.out]; rfl, below_set2 HB2.out (Nat.le_refl _)⟩
    simp [results, Tryz.results150, go_sem, f0, f1]
  · have hd : decide ((5 : Int) ≤ (s.size : Int) - (a : Int)) = true := by simp; omega
    rw [hd] at C2
    have C3 := Lib.hid (fun W (h : ERd W (w.heap.size + 1) s a) => etake_any (w.heap.size + 1) s a 3 W h (by omega) (by omega))
    have C3 := C3.out
    rw [extract_three (by omega)] at C3
    have C3 := Lib.hid C3
    obtain ⟨c0, q0⟩ : ∃ c, s[a]'(by omega) = c := ⟨_, rfl⟩
    obtain ⟨c1, q1⟩ : ∃ c, s[a + 1]'(by omega) = c := ⟨_, rfl⟩
    obtain ⟨c2, q2⟩ : ∃ c, s[a + 2]'(by omega) = c := ⟨_, rfl⟩
    rw [q0, q1, q2] at C3
    go_enter Tryz.func150, Tryz.ntmps150
    go_wp2_with fail
    clear hW0
    refine C1.out.mono ?_
    rintro e w1 ⟨rfl, hb1⟩
    have r1 := RowAt.run H0.out.1 hb1
    have e1 : ERd w1 (w.heap.size + 1) s a := RowAt.run H0.out.2.1 hb1
    have B1 := H0.out.2.2.trans (hb1.mono H0.out.2.2.size)
    have H1 := Lib.hid (And.intro r1 (And.intro e1 B1))
    clear hb1 r1 e1 B1
    go_wp2_with fail
    refine (C2.out _ H1.out.2.1).mono ?_
    rintro e w2 ⟨rfl, hb2⟩
    have H2 := Lib.hid (And.intro (RowAt.run H1.out.1 hb2) (And.intro (show ERd w2 (w.heap.size + 1) s a from RowAt.run H1.out.2.1 hb2) (H1.out.2.2.trans (hb2.mono H1.out.2.2.size))))
    clear hb2
    go_wp2_with fail
    refine (C3.out _ H2.out.2.1).mono ?_
    rintro e w3 ⟨rfl, he3, hu3⟩
    have H3 := Lib.hid (And.intro (RowAt.upd H2.out.1 hu3 (by omega)) (And.intro he3 (below_of_upd H2.out.2.2 hu3 (by omega))))
    clear he3 hu3
    have hl : (str [c0, c1, c2]).size = 3 := by rw [str_length]; rfl
    go_wp2
    go_quiet (fail)
    go_wp2_with fail
    have g1 : (str [c0, c1, c2])[1] = c1 := rfl
    have g2 : (str [c0, c1, c2])[2] = c2 := rfl
    obtain ⟨n, hn⟩ : ∃ n, c1.toNat * 256 + c2.toNat = n := ⟨_, rfl⟩
    have hn6 : n < 65536 := by have := c1.toNat_lt; have := c2.toNat_lt; omega
    have ho := next_or c1 c2 n hn.symm
    have hw2 : wrap64 ((n : Int) + 2) = ((n + 2 : Nat) : Int) := by unfold wrap64; omega
    simp only [g1, g2, ho, hw2]
    have HE : nextR s a = if s.size < a + 5 + n then .error 20 else if (s.extract (a + 3 + n) (a + 3 + n + 2) != str (wordB (sumN (str [c0, c1, c2] ++ s.extract (a + 3) (a + 3 + n)).data.toList))) = true then .error 17 else .ok ((c0, s.extract (a + 3) (a + 3 + n)), a + 5 + n) := by
      rw [nextR, dif_neg h5]
      simp only [q0, q1, q2, hn, extract_three (show a + 3 ≤ s.size by omega)]
    have C4 := ehas_any (w.heap.size + 1) s (a + 3) ((n + 2 : Nat) : Int) (w3.drewN nq) (RowAt.drewN H3.out.2.1 nq) (by omega) (by omega) (by omega)
    have H4 := Lib.hid (And.intro (RowAt.drewN H3.out.1 nq) (And.intro (show ERd (w3.drewN nq) (w.heap.size + 1) s (a + 3) from RowAt.drewN H3.out.2.1 nq) (show Below w.heap.size w (w3.drewN nq) from by have := H3.out.2.2; (repeat' (first | (with_reducible exact Below.refl _ _) | (with_reducible assumption) | (with_reducible refine below_run ?_ (by assumption)) | (with_reducible refine below_of_upd ?_ (by assumption) ?_) | (with_reducible refine below_drewN ?_ _) | (with_reducible refine Below.drew ?_) | (with_reducible refine below_seven ?_ ?_) | (with_reducible refine below_six ?_ ?_) | (with_reducible refine below_one ?_ ?_) | (with_reducible refine Below.alloc ?_ ?_ _) | (with_reducible refine below_after ?_ ?_ (by assumption)) | (show _ ≤ _; first | omega | (simp; done) | (simp; omega)))))))
    generalize w3.drewN nq = w4 at C4 H4 ⊢
    clear g1 g2 ho hw2 q0 q1 q2 hd hl
    by_cases h6 : s.size < a + 5 + n
    · have hd : decide (((n + 2 : Nat) : Int) ≤ (s.size : Int) - ((a + 3 : Nat) : Int)) = false := by simp; omega
      rw [hd] at C4
      have HX := Lib.hid (show nextR s a = .error 20 from by rw [HE, if_pos h6])
      refine C4.mono ?_
      rintro e w5 ⟨rfl, hb5⟩
      have r5 := RowAt.run H4.out.1 hb5
      have HR2 := Lib.hid r5
      have HB2 := Lib.hid (H4.out.2.2.trans (hb5.mono H4.out.2.2.size))
      obtain ⟨x1, x2, x3, x4, x5, x6⟩ := row_facts r5
      clear hb5 r5 HE h6 hd
      go_wp2
      have hF : RowAt ((w5.setCell ⟨w.heap.size, 0, none⟩ (.int .i64 0)).setCell ⟨w.heap.size, 1, none⟩ (.string ⟨#[]⟩)) w.heap.size 77 #[.int .i64 0, .string ⟨#[]⟩] := row_set2 HR2.out
      have f0 := cell_h hF 0
      have f1 := cell_h hF 1
      simp only [List.getElem?_toArray] at f0 f1
      refine bodyPost_ret (v := .tuple #[.agg #[.int .i64 0, .string ⟨#[]⟩], .int .i64 0, .int .i64 20]) ?_ rfl ⟨by rw [HX.out]; rfl, below_set2 HB2.out (Nat.le_refl _)⟩
      simp [results, Tryz.results150, go_sem, f0, f1]
    · have hd : decide (((n + 2 : Nat) : Int) ≤ (s.size : Int) - ((a + 3 : Nat) : Int)) = true := by simp; omega
      rw [hd] at C4
      rw [if_neg h6] at HE
      have C5 := Lib.hid (fun W (h : ERd W (w.heap.size + 1) s (a + 3)) => etake_any (w.heap.size + 1) s (a + 3) n W h (by omega) (by omega))
      have C6 := Lib.hid (fun W (h : ERd W (w.heap.size + 1) s (a + 3 + n)) => etake_any (w.heap.size + 1) s (a + 3 + n) 2 W h (by omega) (by omega))
      refine C4.mono ?_
      rintro e w5 ⟨rfl, hb5⟩
      have H5 := Lib.hid (And.intro (RowAt.run H4.out.1 hb5) (And.intro (show ERd w5 (w.heap.size + 1) s (a + 3) from RowAt.run H4.out.2.1 hb5) (H4.out.2.2.trans (hb5.mono H4.out.2.2.size))))
      clear hb5 hd
      go_wp2_with fail
      refine (C5.out _ H5.out.2.1).mono ?_
      rintro e w6 ⟨rfl, he6, hu6⟩
      have H6 := Lib.hid (And.intro (RowAt.upd H5.out.1 hu6 (by omega)) (And.intro he6 (below_of_upd H5.out.2.2 hu6 (by omega))))
      clear he6 hu6
      go_wp2_with fail
      refine (C6.out _ H6.out.2.1).mono ?_
      rintro e w7 ⟨rfl, he7, hu7⟩
      have H7 := Lib.hid (And.intro (RowAt.upd H6.out.1 hu7 (by omega)) (And.intro he7 (below_of_upd H6.out.2.2 hu7 (by omega))))
      clear he7 hu7
      have hdl : (s.extract (a + 3) (a + 3 + n)).size = n := by rw [ByteArray.size_extract]; omega
      obtain ⟨D, hD⟩ : ∃ D, s.extract (a + 3) (a + 3 + n) = D := ⟨_, rfl⟩
      obtain ⟨P, hP⟩ : ∃ P, s.extract (a + 3 + n) (a + 3 + n + 2) = P := ⟨_, rfl⟩
      rw [hD] at hdl
      rw [hD, hP] at HE
      simp only [hD, hP]
      have hl : (str [c0, c1, c2]).size = 3 := by rw [str_length]; rfl
      have hs1 : ¬ 9223372036854775807 < (str [c0, c1, c2]).size + D.size := by omega
      have C7 := Lib.hid (sum_any (str [c0, c1, c2] ++ D) w7 (by rw [ByteArray.size_append]; omega))
      have C8 := Lib.hid (word_any (sumN (str [c0, c1, c2] ++ D).data.toList) w7 (sumN_lt _))
      go_wp2_with fail
      refine C7.out.mono ?_
      rintro e w8 ⟨rfl, rfl⟩
      go_wp2_with fail
      refine C8.out.mono ?_
      rintro e w9 ⟨rfl, hb9⟩
      have H9 := Lib.hid (And.intro (RowAt.run H7.out.1 hb9) (And.intro (show ERd w9 (w.heap.size + 1) s (a + 3 + n + 2) from RowAt.run H7.out.2.1 hb9) (H7.out.2.2.trans (hb9.mono H7.out.2.2.size))))
      obtain ⟨x1, x2, x3, x4, x5, x6⟩ := row_facts H9.out.1
      obtain ⟨y1, y2, y3, y4, y5, y6⟩ := row_facts H9.out.2.1
      generalize str (wordB (sumN (str [c0, c1, c2] ++ D).data.toList)) = Q at HE ⊢
      obtain ⟨t, ht⟩ : ∃ t, (P != Q) = t := ⟨_, rfl⟩
      rw [ht] at HE
      have ht2 : (!P.toList == Q.toList) = t := by rw [← beq_toListBytes]; exact ht
      clear ht
      clear hb9 hD hP hs1 hdl
      cases t with
      | true =>
        have HX := Lib.hid (show nextR s a = .error 17 from HE)
        clear HE
        go_wp2
        have hF : RowAt ((w9.setCell ⟨w.heap.size, 0, none⟩ (.int .i64 0)).setCell ⟨w.heap.size, 1, none⟩ (.string ⟨#[]⟩)) w.heap.size 77 #[.int .i64 0, .string ⟨#[]⟩] := row_set2 H9.out.1
        have f0 := cell_h hF 0
        have f1 := cell_h hF 1
        simp only [List.getElem?_toArray] at f0 f1
        refine bodyPost_ret (v := .tuple #[.agg #[.int .i64 0, .string ⟨#[]⟩], .int .i64 0, .int .i64 17]) ?_ rfl ⟨by rw [HX.out]; rfl, below_set2 H9.out.2.2 (Nat.le_refl _)⟩
        simp [results, Tryz.results150, go_sem, f0, f1]
      | false =>
        have HX := Lib.hid (show nextR s a = .ok ((c0, D), a + 5 + n) from HE)
        clear HE
        have g0 : (str [c0, c1, c2])[0] = c0 := rfl
        have h0 : IntKind.i64.wrap ((c0.toNat : Nat) : Int) = (c0.toNat : Int) := IntWalk.i64_in _ (by have := c0.toNat_lt; omega)
        have z1 := y1 1
        simp at z1
        go_wp2
        go_region_held3 (fun w' => w'.cell? ⟨w.heap.size + 1, 1, none⟩ = some (.int .i64 ((a : Int) + 3 + (n : Int) + 2))) (first | go_keep | assumption) (fail)
        all_goals
          go_wp2
          have hF : RowAt ((w9.setCell ⟨w.heap.size, 0, none⟩ (.int .i64 (c0.toNat : Int))).setCell ⟨w.heap.size, 1, none⟩ (.string D)).drew w.heap.size 77 #[.int .i64 (c0.toNat : Int), .string D] := RowAt.drew (row_set2 H9.out.1)
          have f0 := cell_h hF 0
          have f1 := cell_h hF 1
          simp only [List.getElem?_toArray] at f0 f1
          refine bodyPost_ret (v := .tuple #[.agg #[.int .i64 (c0.toNat : Int), .string D], .int .i64 ((a : Int) + 3 + (n : Int) + 2), .int .i64 0]) ?_ rfl ⟨by rw [HX.out, nextV, show (((a + 5 + n : Nat)) : Int) = (a : Int) + 3 + (n : Int) + 2 from by omega], (below_set2 H9.out.2.2 (Nat.le_refl _)).drew⟩
          simp [results, Tryz.results150, go_sem, f0, f1]

end Go.Proofs.YtjeigphhepngmaaGreatDoor

namespace Go.Proofs.YtjeigphhepngmaaGreatDoor
open Go.RowKit

theorem Tryz.info_ent : (Tryz.prog.info? 77).map (fun i => (i.zero, i.size, i.bytes)) = some (some (.agg #[.int .i64 0, .string ⟨#[]⟩]), 2, 24) := by kernel_rfl
theorem entA_ones (x : Ent) : ∀ u ∈ (entA x).toList, u.oneCell' = true := by
  intro u hu
  simp [entA] at hu
  rcases hu with rfl | rfl <;> rfl
theorem entA_size (x : Ent) : (entA x).size = 2 := rfl
/-- The records from an offset on, where they end, and the error there. -/
def allF (s : ByteArray) : Nat → Nat → List Ent × Nat × Int
  | 0, a => ([], a, 0)
  | f + 1, a => if a < s.size then match nextR s a with
    | .error e => ([], a, e)
    | .ok (x, nx) => (x :: (allF s f nx).1, (allF s f nx).2)
    else ([], a, 0)
def allR (s : ByteArray) : List Ent × Nat × Int := allF s (s.size + 1) 0
theorem nextR_ok {s : ByteArray} {a nx : Nat} {x : Ent} (h : nextR s a = .ok (x, nx)) : a + 5 ≤ nx ∧ nx ≤ s.size := by
  unfold nextR at h
  split at h
  · cases h
  · simp only at h
    split at h
    · cases h
    · split at h
      · cases h
      · simp only [Except.ok.injEq, Prod.mk.injEq] at h
        omega
theorem nextR_err {s : ByteArray} {a : Nat} {c : Int} (h : nextR s a = .error c) : c = 20 ∨ c = 17 := by
  unfold nextR at h
  split at h
  · cases h; exact .inl rfl
  · simp only at h
    split at h
    · cases h; exact .inl rfl
    · split at h
      · cases h; exact .inr rfl
      · cases h
/-- How far the records have been read. -/
def LoopA (s : ByteArray) (l : List Ent) (c : Nat) : Prop :=
  allR s = (l ++ (allF s (s.size + 1 - l.length) c).1, (allF s (s.size + 1 - l.length) c).2) ∧ 5 * l.length ≤ c ∧ c ≤ s.size
theorem LoopA.start (s : ByteArray) : LoopA s [] 0 := ⟨rfl, by simp, Nat.zero_le _⟩
theorem LoopA.step {s : ByteArray} {l : List Ent} {c nx : Nat} {x : Ent} (h : LoopA s l c) (hc : c < s.size) (hx : nextR s c = .ok (x, nx)) : LoopA s (l ++ [x]) nx := by
  obtain ⟨h1, h2, h3⟩ := h
  have := nextR_ok hx
  obtain ⟨f, hf⟩ : ∃ f, s.size + 1 - l.length = f + 1 := ⟨s.size - l.length, by omega⟩
  refine ⟨?_, by simp; omega, by omega⟩
  rw [h1, hf, allF, if_pos hc, hx, List.length_append, show s.size + 1 - (l.length + [x].length) = f from by simp; omega]
  simp
theorem LoopA.fail {s : ByteArray} {l : List Ent} {c : Nat} {e : Int} (h : LoopA s l c) (hc : c < s.size) (hx : nextR s c = .error e) : allR s = (l, c, e) := by
  obtain ⟨h1, h2, h3⟩ := h
  obtain ⟨f, hf⟩ : ∃ f, s.size + 1 - l.length = f + 1 := ⟨s.size - l.length, by omega⟩
  rw [h1, hf, allF, if_pos hc, hx]
  simp
theorem LoopA.stop {s : ByteArray} {l : List Ent} {c : Nat} (h : LoopA s l c) (hc : ¬ c < s.size) : allR s = (l, c, 0) := by
  obtain ⟨h1, h2, h3⟩ := h
  obtain ⟨f, hf⟩ : ∃ f, s.size + 1 - l.length = f + 1 := ⟨s.size - l.length, by omega⟩
  rw [h1, hf, allF, if_neg hc]
  simp
/-- What All says. -/
def AllPost (s : ByteArray) (w : World) (e : Ending) (w' : World) : Prop :=
  ∃ v, e = .returned (.tuple #[v, .int .i64 ((allR s).2.1 : Int), .int .i64 (allR s).2.2]) ∧ w'.ownsRow w.heap.size 77 2 v (allR s).1.length (genL entA (allR s).1) ∧ Below w.heap.size w w' ∧ (allR s).1.length ≤ s.size

set_option maxHeartbeats 1000000 in
set_option maxRecDepth 100000 in
theorem all_any (s : ByteArray) (w : World) (hs : s.size ≤ 100000) :
    Calls Tryz.prog 65 #[.string s] w fun e w' => AllPost s w e w' := by
  obtain ⟨i0, hi, hz0, hz1, hz2⟩ := info_parts Tryz.info_ent
  have hs3 : (s.size : Int) ≤ 100000 := by omega
  go_enter Tryz.func65, Tryz.ntmps65
  go_wp2
  go_loopw [5, 6, 7, 8, 9] (fun v i _ _ _ wr => ∃ (l : List Ent) (c : Nat), i = .int .i64 (c : Int) ∧ Hid (LoopA s l c ∧ wr.ownsRow w.heap.size 77 2 v l.length (genL entA l) ∧ Below w.heap.size w wr)) (fun _ i _ _ _ _ => s.size - (intOf i).toNat)
  case atStart => exact ⟨[], 0, rfl, Lib.hid ⟨LoopA.start s, World.ownsRow_nil _ _ _ _, Below.refl _ _⟩⟩
  case round =>
    obtain ⟨l, c, rfl, hh⟩ := hrel
    obtain ⟨hl, hown, hb0⟩ := hh.out
    by_cases hlt : c < s.size
    · have hlt3 : (c : Int) < (s.size : Int) := by omega
      have hbs := hb0.size
      have hfew : 5 * l.length ≤ 100000 := by have := hl.2.1; omega
      have C := Lib.hid (fun W => next_any s c W (by omega) hs)
      cases hx : nextR s c with
      | error e =>
        have he := nextR_err hx
        have he0 : (e != 0) = true := by rw [bne_iff_ne]; omega
        have HX := Lib.hid (hl.fail hlt hx)
        have C' := C.out
        rw [hx] at C'
        simp only [nextV] at C'
        have HC := Lib.hid C'
        have HH := Lib.hid (And.intro hown (And.intro hb0 hl.2))
        clear hx C C' hl hown hb0 hh he
        go_wp2_with fail
        refine (HC.out _).mono ?_
        rintro e2 w1 ⟨rfl, hb1⟩
        have HB1 := Lib.hid (And.intro (own_run HH.out.1 hb1) (HH.out.2.1.trans (hb1.mono hbs)))
        clear hb1
        go_wp2
        go_ret3
        refine ⟨u5, by rw [HX.out]; rfl, ?_, ?_, ?_⟩
        · rw [HX.out]
          exact HB1.out.1.alloc _
        · have := HB1.out.2
          have := HB1.out.2.size
          (repeat' (first | (with_reducible exact Below.refl _ _) | (with_reducible assumption) | (with_reducible refine below_run ?_ (by assumption)) | (with_reducible refine below_of_upd ?_ (by assumption) ?_) | (with_reducible refine below_drewN ?_ _) | (with_reducible refine Below.drew ?_) | (with_reducible refine below_seven ?_ ?_) | (with_reducible refine below_six ?_ ?_) | (with_reducible refine below_one ?_ ?_) | (with_reducible refine Below.alloc ?_ ?_ _) | (with_reducible refine below_after ?_ ?_ (by assumption)) | (show _ ≤ _; first | omega | (simp; done) | (simp; omega))))
        · rw [HX.out]
          have := HH.out.2.2
          show l.length ≤ s.size
          omega
      | ok y =>
        obtain ⟨⟨kd, d⟩, nx⟩ := y
        have hno := nextR_ok hx
        have HST := Lib.hid (hl.step hlt hx)
        have C' := C.out
        rw [hx] at C'
        simp only [nextV] at C'
        have HC := Lib.hid C'
        have HH := Lib.hid (And.intro hown hb0)
        clear hx C C' hl hown hb0 hh
        go_wp2_with fail
        refine (HC.out _).mono ?_
        rintro e2 w1 ⟨rfl, hb1⟩
        have hown1 := own_run HH.out.1 hb1
        have HB1 := Lib.hid (HH.out.2.trans (hb1.mono hbs))
        have hb1s := hb1.size
        clear hb1
        go_wp2_with (at_builtin; refine wpList_append_own _ rfl _ _ 34 rfl w.heap.size 77 i0 _ 2 24 Tryz.underlying34 hi hz0 hz1 hz2 rfl (by decide) _ _ _ rfl ((hown1.alloc _).alloc _) ⟨w1.heap.size + 1, 0, none⟩ 1 1 [.int .i64 (kd.toNat : Int), .string d] rfl rfl ?c1 (entA_ones (kd, d)) ?c3 ?c4 ?c5 ?_)
        case c1 => exact World.news_of_block (cs := #[.int .i64 (kd.toNat : Int), .string d]) (t := 77) (fr := (0, 0)) (by simpa using heap_alloc_new (w1.alloc (.cells #[.int .i64 (kd.toNat : Int), .string d] 77)) (.cells #[.int .i64 (kd.toNat : Int), .string d] 77))
        case c3 => unfold maxLen; omega
        case c4 => omega
        case c5 => simp; omega
        · intro v' w2 hown' hgrow _
          have hb2 := below_grown (((HB1.out.alloc (by omega) _).alloc (by simp; omega) _)) ((hown1.alloc _).alloc _) (Nat.le_refl _) hgrow (by simp; omega)
          have HN := Lib.hid (And.intro hown' hb2)
          clear hown' hgrow hown1 hb2
          go_wp2
          go_roundw
          case rel => exact ⟨l ++ [(kd, d)], nx, rfl, Lib.hid ⟨HST.out, by rw [List.length_append, genL_snoc]; exact HN.out.1, HN.out.2⟩⟩
          case measure => simp [intOf]; omega
    · have HX := Lib.hid (hl.stop hlt)
      have hlt3 : ¬ (c : Int) < (s.size : Int) := by omega
      have HH := Lib.hid (And.intro hown (And.intro hb0 hl.2))
      clear hl hown hb0 hh
      go_wp2
      go_ret3
      refine ⟨u5, by rw [HX.out]; rfl, by rw [HX.out]; exact HH.out.1, HH.out.2.1, ?_⟩
      rw [HX.out]
      have := HH.out.2.2
      show l.length ≤ s.size
      omega

end Go.Proofs.YtjeigphhepngmaaGreatDoor
