/-
  Copies of lists of numbers and of texts; the manager's requests, their errors, its copy of a wire.
  What faults do to answers.
  The library's slices.Grow and slices.Concat on texts.
-/
import Derived.Test.YtpkhcehddfmhpaaGreatMd
import Derived.Test.YtpkhcehddfmhpaaGreatHr
import Derived.Deep.RegionWith
import Derived.Laws.IdiomStrings
import Derived.Lib.AppendZeros
import Derived.Laws.AppendOwnNone
namespace Go.Proofs.YtpkhcehddfmhpaaGreat
open Go.RowKit

theorem i64L_ones (l : List Int) : ∀ u ∈ i64L l, u.oneCell' = true := by
  intro u hu
  obtain ⟨x, _, rfl⟩ := List.mem_map.1 hu
  rfl
theorem strsV_ones (l : List ByteArray) : ∀ u ∈ strsV l, u.oneCell' = true := by
  intro u hu
  obtain ⟨x, _, rfl⟩ := List.mem_map.1 hu
  rfl
theorem strsV_length (l : List ByteArray) : (strsV l).length = l.length := by simp [strsV]

set_option maxHeartbeats 2000000 in
set_option maxRecDepth 100000 in
theorem clone_ints (v : Value) (l : List Int) (w : World) (hv : IntsAt w v l) (hl : l.length ≤ 100000) :
    Calls Tryz.prog 65 #[v] w fun e w' => ∃ v', e = .returned v' ∧ w'.ownsRow w.heap.size 3 1 v' l.length (i64L l) ∧ Below w.heap.size w w' := by
  obtain ⟨i0, hi, hz0, hz1, hz2⟩ := info_parts Tryz.info_i64
  have q22 : ∀ (w : World) (a : Option Addr) (n c n' c' : Nat), (binOp .eql 26 (.slice a n c) (.slice none n' c')).run Tryz.prog w = .ok (.bool a.isNone) w := fun w a n c n' c' => Lib.run_eql_slice_nil w _ _ a n c n' c' Tryz.underlying26
  have own0 := World.ownsRow_made (e := 3) (size := 1) w #[] 0 (Nat.le_refl _) (Nat.zero_le _) rfl
  rcases hv with ⟨h0, a, cap, rfl⟩ | ⟨h0, h1, b, off, cap, rfl, hlt, hc⟩
  · have hl : l = [] := List.eq_nil_of_length_eq_zero h0
    subst hl
    cases a with
    | none =>
      go_enter Tryz.func65, Tryz.ntmps65
      go_wp2
      go_ret
      exact ⟨_, rfl, World.ownsRow_nil _ _ _ _, Below.refl _ _⟩
    | some a =>
      go_enter Tryz.func65, Tryz.ntmps65
      go_wp2_with (at_builtin; refine wpList_append_own _ rfl _ _ 26 rfl w.heap.size 3 i0 _ 1 8 Tryz.underlying26 hi hz0 hz1 hz2 rfl (by decide) _ _ _ rfl own0 a 0 cap [] rfl ?c0 ?c1 ?c2 ?c3 ?c4 ?c5 ?_)
      case c0 => rfl
      case c1 => intro j u hj; cases hj
      case c2 => intro u hu; cases hu
      case c3 => unfold maxLen; omega
      case c4 => omega
      case c5 => simp
      · intro v' w1 hown hgrow _
        go_wp2
        go_ret
        exact ⟨_, rfl, by simpa [i64L] using hown, ((Below.refl _ w).alloc (Nat.le_refl _) _).grown hgrow (by simp) (by intro k hk; simp [Value.ownBlock] at hk; omega)⟩
  · have A := Lib.hid hc
    clear hc
    go_enter Tryz.func65, Tryz.ntmps65
    go_wp2_with (at_builtin; refine wpList_append_own _ rfl _ _ 26 rfl w.heap.size 3 i0 _ 1 8 Tryz.underlying26 hi hz0 hz1 hz2 rfl (by decide) _ _ _ rfl own0 ⟨b, off, none⟩ l.length cap (i64L l) rfl ?c0 ?c1 ?c2 ?c3 ?c4 ?c5 ?_)
    case c0 => rw [i64L_length, Nat.mul_one]
    case c1 =>
      intro j u hj
      have hjn : j < l.length * 1 := by
        have := (List.getElem?_eq_some_iff.1 hj).1
        rw [i64L_length] at this
        omega
      rw [Addr.add_lit]
      refine Lib.cell?_alloc_some _ ?_
      rw [A.out j hjn, ← i64L_get]
      exact hj
    case c2 => exact i64L_ones l
    case c3 => unfold maxLen; omega
    case c4 => omega
    case c5 => simp
    · intro v' w1 hown hgrow _
      go_wp2
      go_ret
      exact ⟨_, rfl, by simpa using hown, ((Below.refl _ w).alloc (Nat.le_refl _) _).grown hgrow (by simp) (by intro k hk; simp [Value.ownBlock] at hk; omega)⟩


set_option maxHeartbeats 2000000 in
set_option maxRecDepth 100000 in
theorem clone_strs (v : Value) (l : List ByteArray) (w : World) (hv : StrsAt w v l) (hl : l.length ≤ 100000) :
    Calls Tryz.prog 66 #[v] w fun e w' => ∃ v', e = .returned v' ∧ w'.ownsRow w.heap.size 9 1 v' l.length (strsV l) ∧ Below w.heap.size w w' := by
  obtain ⟨i0, hi, hz0, hz1, hz2⟩ := info_parts Tryz.info_strH
  have q22 : ∀ (w : World) (a : Option Addr) (n c n' c' : Nat), (binOp .eql 27 (.slice a n c) (.slice none n' c')).run Tryz.prog w = .ok (.bool a.isNone) w := fun w a n c n' c' => Lib.run_eql_slice_nil w _ _ a n c n' c' Tryz.underlying27
  have own0 := World.ownsRow_made (e := 9) (size := 1) w #[] 0 (Nat.le_refl _) (Nat.zero_le _) rfl
  rcases hv with ⟨h0, a, cap, rfl⟩ | ⟨h0, h1, b, off, cap, rfl, hlt, hc⟩
  · have hl : l = [] := List.eq_nil_of_length_eq_zero h0
    subst hl
    cases a with
    | none =>
      go_enter Tryz.func66, Tryz.ntmps66
      go_wp2
      go_ret
      exact ⟨_, rfl, World.ownsRow_nil _ _ _ _, Below.refl _ _⟩
    | some a =>
      go_enter Tryz.func66, Tryz.ntmps66
      go_wp2_with (at_builtin; refine wpList_append_own _ rfl _ _ 27 rfl w.heap.size 9 i0 _ 1 16 Tryz.underlying27 hi hz0 hz1 hz2 rfl (by decide) _ _ _ rfl own0 a 0 cap [] rfl ?c0 ?c1 ?c2 ?c3 ?c4 ?c5 ?_)
      case c0 => rfl
      case c1 => intro j u hj; cases hj
      case c2 => intro u hu; cases hu
      case c3 => unfold maxLen; omega
      case c4 => omega
      case c5 => simp
      · intro v' w1 hown hgrow _
        go_wp2
        go_ret
        exact ⟨_, rfl, by simpa [strsV] using hown, ((Below.refl _ w).alloc (Nat.le_refl _) _).grown hgrow (by simp) (by intro k hk; simp [Value.ownBlock] at hk; omega)⟩
  · have A := Lib.hid hc
    clear hc
    go_enter Tryz.func66, Tryz.ntmps66
    go_wp2_with (at_builtin; refine wpList_append_own _ rfl _ _ 27 rfl w.heap.size 9 i0 _ 1 16 Tryz.underlying27 hi hz0 hz1 hz2 rfl (by decide) _ _ _ rfl own0 ⟨b, off, none⟩ l.length cap (strsV l) rfl ?c0 ?c1 ?c2 ?c3 ?c4 ?c5 ?_)
    case c0 => rw [strsV_length, Nat.mul_one]
    case c1 =>
      intro j u hj
      have hjn : j < l.length * 1 := by
        have := (List.getElem?_eq_some_iff.1 hj).1
        rw [strsV_length] at this
        omega
      rw [Addr.add_lit]
      refine Lib.cell?_alloc_some _ ?_
      rw [A.out j hjn, ← strsV_get]
      exact hj
    case c2 => exact strsV_ones l
    case c3 => unfold maxLen; omega
    case c4 => omega
    case c5 => simp
    · intro v' w1 hown hgrow _
      go_wp2
      go_ret
      exact ⟨_, rfl, by simpa using hown, ((Below.refl _ w).alloc (Nat.le_refl _) _).grown hgrow (by simp) (by intro k hk; simp [Value.ownBlock] at hk; omega)⟩


set_option maxHeartbeats 4000000 in
set_option maxRecDepth 100000 in
theorem mgiven_any (q : Int) (id seq tries : Int) (da fa la : Option Addr) (dn dc fn fc ln lc : Nat) (x : Wre) (dst kind par : Int) (dat : ByteArray) (w : World) (h : WireAt w (.slice da dn dc) (.slice fa fn fc) (.slice la ln lc) x)
    (hq : givenE ⟨id, seq, tries⟩ x ⟨dst, kind, par, dat⟩ = q) :
    Calls Tryz.prog 63 #[.agg #[.int .u64 id, .int .i64 seq, .int .i64 tries], .agg #[.slice da dn dc, .slice fa fn fc, .slice la ln lc], .agg #[.int .u64 dst, .int .i64 kind, .int .i64 par, .string dat]] w
      fun e w' => e = .returned (.int .i64 q) ∧ Below w.heap.size w w' := by
  obtain ⟨W, hW⟩ : ∃ W, ((w.alloc (.cells #[.int .u64 id, .int .i64 seq, .int .i64 tries] 24)).alloc (.cells #[.slice da dn dc, .slice fa fn fc, .slice la ln lc] 29)).alloc (.cells #[.int .u64 dst, .int .i64 kind, .int .i64 par, .string dat] 33) = W := ⟨_, rfl⟩
  have hbW : Below w.heap.size w W := by rw [← hW]; (repeat' (first | (with_reducible exact Below.refl _ _) | (with_reducible assumption) | (with_reducible refine below_run ?_ (by assumption)) | (with_reducible refine below_of_upd ?_ (by assumption) ?_) | (with_reducible refine below_drewN ?_ _) | (with_reducible refine Below.drew ?_) | (with_reducible refine below_seven ?_ ?_) | (with_reducible refine below_six ?_ ?_) | (with_reducible refine below_one ?_ ?_) | (with_reducible refine Below.alloc ?_ ?_ _) | (with_reducible refine below_after ?_ ?_ (by assumption)) | (show _ ≤ _; first | omega | (simp; done) | (simp; omega))))
  have r0 : RowAt W w.heap.size 24 #[.int .u64 id, .int .i64 seq, .int .i64 tries] := by rw [← hW]; exact ((RowAt.new _ _ _).alloc _).alloc _
  have r1 : RowAt W (w.heap.size + 1) 29 #[.slice da dn dc, .slice fa fn fc, .slice la ln lc] := by rw [← hW]; exact (RowAt.mk (by simp) rfl).alloc _
  have r2 : RowAt W (w.heap.size + 1 + 1) 33 #[.int .u64 dst, .int .i64 kind, .int .i64 par, .string dat] := by rw [← hW]; exact RowAt.mk (by simp) rfl
  obtain ⟨m1, hm1⟩ : ∃ m, mgrE ⟨id, seq, tries⟩ = m := ⟨_, rfl⟩
  obtain ⟨m2, hm2⟩ : ∃ m, wireE x = m := ⟨_, rfl⟩
  obtain ⟨m3, hm3⟩ : ∃ m, chk ⟨dst, id, seq, kind, par, dat⟩ = m := ⟨_, rfl⟩
  have HX := Lib.hid (show q = if m1 ≠ 0 then m1 else if m2 ≠ 0 then m2 else if m3 ≠ 0 then m3 else if kind = 6 ∨ kind = 7 then 16 else 0 by
    rw [← hq, givenE, hm1, hm2]
    show (if m1 ≠ 0 then m1 else if m2 ≠ 0 then m2 else if chk ⟨dst, id, seq, kind, par, dat⟩ ≠ 0 then chk ⟨dst, id, seq, kind, par, dat⟩ else _) = _
    rw [hm3])
  have C1 := Lib.hid (fun W => mright_any id seq tries m1 hm1 W)
  have C2 := Lib.hid (fun W hw => mcheck_any m2 da fa la dn dc fn fc ln lc x W hw hm2)
  have C3 := Lib.hid (fun W => mof_any id seq tries dst kind par dat W)
  have C4 := Lib.hid (fun W => chk_is m3 dst id seq kind par dat W hm3)
  have H := Lib.hid (h.run hbW)
  have HBW := Lib.hid hbW
  have R0 := Lib.hid r0
  have R1 := Lib.hid r1
  have R2 := Lib.hid r2
  obtain ⟨x1, x2, x3, x4, x5, x6⟩ := row_facts r0
  clear hq h hm1 hm2 hm3 r0 r1 r2 hbW
  go_enter Tryz.func63, Tryz.ntmps63
  go_upto_region 1 with fail
  clear hW
  go_wp2_with fail
  refine (C1.out _).mono ?_
  rintro e w1 ⟨rfl, hb1⟩
  have HB1 := Lib.hid (below_run HBW.out hb1)
  have H1 := Lib.hid (H.out.run hb1)
  have R11 := Lib.hid (R1.out.run hb1)
  have R01 := Lib.hid (R0.out.run hb1)
  have R21 := Lib.hid (R2.out.run hb1)
  obtain ⟨y1, y2, y3, y4, y5, y6⟩ := row_facts R11.out
  clear hb1 x1 x2 x3 x4 x5 x6 R0 R1 R2 H HBW
  by_cases hz1 : m1 = 0
  · subst hz1
    have HX1 := Lib.hid (show q = if m2 ≠ 0 then m2 else if m3 ≠ 0 then m3 else if kind = 6 ∨ kind = 7 then 16 else 0 by rw [HX.out, if_neg (by decide)])
    go_wp2_with fail
    refine (C2.out _ H1.out).mono ?_
    rintro e w2 ⟨rfl, hb2⟩
    have HB2 := Lib.hid (below_run HB1.out hb2)
    have R02 := Lib.hid (R01.out.run hb2)
    have R22 := Lib.hid (R21.out.run hb2)
    obtain ⟨x1, x2, x3, x4, x5, x6⟩ := row_facts R02.out
    obtain ⟨z1, z2, z3, z4, z5, z6⟩ := row_facts R22.out
    clear hb2 y1 y2 y3 y4 y5 y6
    by_cases hz2 : m2 = 0
    · subst hz2
      have HX2 := Lib.hid (show q = if m3 ≠ 0 then m3 else if kind = 6 ∨ kind = 7 then 16 else 0 by rw [HX1.out, if_neg (by decide)])
      go_wp2_with fail
      refine (C3.out _).mono ?_
      rintro e w3 ⟨rfl, hb3⟩
      have HB3 := Lib.hid (below_run HB2.out hb3)
      have R23 := Lib.hid (R22.out.run hb3)
      clear hb3 x1 x2 x3 x4 x5 x6 z1 z2 z3 z4 z5 z6
      go_wp2_with fail
      refine (C4.out _).mono ?_
      rintro e w4 ⟨rfl, hb4⟩
      have HB4 := Lib.hid (below_run HB3.out hb4)
      have R24 := Lib.hid (R23.out.run hb4)
      obtain ⟨z1, z2, z3, z4, z5, z6⟩ := row_facts R24.out
      clear hb4
      by_cases hz3 : m3 = 0
      · subst hz3
        have HX3 := Lib.hid (show q = if kind = 6 ∨ kind = 7 then 16 else 0 by rw [HX2.out, if_neg (by decide)])
        by_cases k6 : kind = 6
        · subst k6
          go_wp2
          go_ret
          exact ⟨ret_int (by rw [HX3.out]; rfl), HB4.out⟩
        · by_cases k7 : kind = 7
          · subst k7
            go_wp2
            go_ret
            exact ⟨ret_int (by rw [HX3.out]; rfl), HB4.out⟩
          · have e6 : (kind == 6) = false := by simpa using k6
            have e7 : (kind == 7) = false := by simpa using k7
            have HE := Lib.hid (show q = 0 by rw [HX3.out, if_neg (by omega)])
            clear k6 k7
            go_wp2
            go_ret
            exact ⟨ret_int (by rw [HE.out]), HB4.out⟩
      · have e9 : (m3 != 0) = true := by simpa using hz3
        have HE := Lib.hid (show q = m3 by rw [HX2.out, if_pos hz3])
        clear hz3
        go_wp2
        go_ret
        exact ⟨ret_int (by rw [HE.out]), HB4.out⟩
    · have e9 : (m2 != 0) = true := by simpa using hz2
      have HE := Lib.hid (show q = m2 by rw [HX1.out, if_pos hz2])
      clear hz2
      go_wp2
      go_ret
      exact ⟨ret_int (by rw [HE.out]), HB2.out⟩
  · have e9 : (m1 != 0) = true := by simpa using hz1
    have HE := Lib.hid (show q = m1 by rw [HX.out, if_pos hz1])
    clear hz1
    go_wp2
    go_ret
    exact ⟨ret_int (by rw [HE.out]), HB1.out⟩

set_option maxHeartbeats 4000000 in
set_option maxRecDepth 100000 in
theorem maskable_any (q : Int) (id seq tries : Int) (da fa la : Option Addr) (dn dc fn fc ln lc : Nat) (x : Wre) (dst kind par : Int) (dat : ByteArray) (w : World) (h : WireAt w (.slice da dn dc) (.slice fa fn fc) (.slice la ln lc) x)
    (hq : askE ⟨id, seq, tries⟩ x ⟨dst, kind, par, dat⟩ = q) :
    Calls Tryz.prog 23 #[.agg #[.int .u64 id, .int .i64 seq, .int .i64 tries], .agg #[.slice da dn dc, .slice fa fn fc, .slice la ln lc], .agg #[.int .u64 dst, .int .i64 kind, .int .i64 par, .string dat]] w
      fun e w' => e = .returned (.int .i64 q) ∧ Below w.heap.size w w' := by
  obtain ⟨W, hW⟩ : ∃ W, ((w.alloc (.cells #[.int .u64 id, .int .i64 seq, .int .i64 tries] 24)).alloc (.cells #[.slice da dn dc, .slice fa fn fc, .slice la ln lc] 29)).alloc (.cells #[.int .u64 dst, .int .i64 kind, .int .i64 par, .string dat] 33) = W := ⟨_, rfl⟩
  have hbW : Below w.heap.size w W := by rw [← hW]; (repeat' (first | (with_reducible exact Below.refl _ _) | (with_reducible assumption) | (with_reducible refine below_run ?_ (by assumption)) | (with_reducible refine below_of_upd ?_ (by assumption) ?_) | (with_reducible refine below_drewN ?_ _) | (with_reducible refine Below.drew ?_) | (with_reducible refine below_seven ?_ ?_) | (with_reducible refine below_six ?_ ?_) | (with_reducible refine below_one ?_ ?_) | (with_reducible refine Below.alloc ?_ ?_ _) | (with_reducible refine below_after ?_ ?_ (by assumption)) | (show _ ≤ _; first | omega | (simp; done) | (simp; omega))))
  have r0 : RowAt W w.heap.size 24 #[.int .u64 id, .int .i64 seq, .int .i64 tries] := by rw [← hW]; exact ((RowAt.new _ _ _).alloc _).alloc _
  have r1 : RowAt W (w.heap.size + 1) 29 #[.slice da dn dc, .slice fa fn fc, .slice la ln lc] := by rw [← hW]; exact (RowAt.mk (by simp) rfl).alloc _
  have r2 : RowAt W (w.heap.size + 1 + 1) 33 #[.int .u64 dst, .int .i64 kind, .int .i64 par, .string dat] := by rw [← hW]; exact RowAt.mk (by simp) rfl
  obtain ⟨m1, hm1⟩ : ∃ m, givenE ⟨id, seq, tries⟩ x ⟨dst, kind, par, dat⟩ = m := ⟨_, rfl⟩
  have HX := Lib.hid (show q = if m1 ≠ 0 then m1 else if dst = 281474976710655 then 11 else 0 by rw [← hq, askE, hm1])
  have C1 := Lib.hid (mgiven_any m1 id seq tries da fa la dn dc fn fc ln lc x dst kind par dat W (h.run hbW) hm1)
  have HBW := Lib.hid hbW
  have R2 := Lib.hid r2
  obtain ⟨x1, x2, x3, x4, x5, x6⟩ := row_facts r0
  obtain ⟨y1, y2, y3, y4, y5, y6⟩ := row_facts r1
  obtain ⟨z1, z2, z3, z4, z5, z6⟩ := row_facts r2
  clear hq h hm1 r0 r1 r2 hbW
  go_enter Tryz.func23, Tryz.ntmps23
  go_upto_region 1 with fail
  clear hW
  go_wp2_with fail
  refine C1.out.mono ?_
  rintro e w1 ⟨rfl, hb1⟩
  have HB1 := Lib.hid (below_run HBW.out hb1)
  have R21 := Lib.hid (R2.out.run hb1)
  clear hb1 x1 x2 x3 x4 x5 x6 y1 y2 y3 y4 y5 y6 z1 z2 z3 z4 z5 z6
  obtain ⟨z1, z2, z3, z4, z5, z6⟩ := row_facts R21.out
  by_cases hz1 : m1 = 0
  · subst hz1
    have HX1 := Lib.hid (show q = if dst = 281474976710655 then 11 else 0 by rw [HX.out, if_neg (by decide)])
    by_cases k6 : dst = 281474976710655
    · have e6 : (dst == 281474976710655) = true := by simpa using k6
      have HE := Lib.hid (show q = 11 by rw [HX1.out, if_pos k6])
      clear k6
      go_wp2
      go_ret
      exact ⟨ret_int (by rw [HE.out]), HB1.out⟩
    · have e6 : (dst == 281474976710655) = false := by simpa using k6
      have HE := Lib.hid (show q = 0 by rw [HX1.out, if_neg k6])
      clear k6
      go_wp2
      go_ret
      exact ⟨ret_int (by rw [HE.out]), HB1.out⟩
  · have e9 : (m1 != 0) = true := by simpa using hz1
    have HE := Lib.hid (show q = m1 by rw [HX.out, if_pos hz1])
    clear hz1
    go_wp2
    go_ret
    exact ⟨ret_int (by rw [HE.out]), HB1.out⟩
end Go.Proofs.YtpkhcehddfmhpaaGreat

namespace Go.Proofs.YtpkhcehddfmhpaaGreat
open Go.RowKit

/-- The bytes of a text, in a row of their own. -/
theorem conv_bytes (s : ByteArray) (w : World) : ∃ W1 cap, (convert 9 73 (.string s)).run Tryz.prog w = .ok (.slice (some ⟨w.heap.size, 0, none⟩) s.size cap) W1 ∧
    (∀ i, i < s.size → W1.cell? ⟨w.heap.size, i, none⟩ = some (.int .u8 ((s.data.toList.getD i 0).toNat : Int)) ∧ W1.frozen? ⟨w.heap.size, i, none⟩ = false) ∧ Below w.heap.size w W1 ∧ w.heap.size < W1.heap.size := by
  refine ⟨_, _, run_bytes_of_string w 9 73 5 s Tryz.underlying9 Tryz.underlying73 Tryz.underlying5, fun i hi => ?_, ((Below.refl w.heap.size w).drew).alloc (Nat.le_refl _) _, by simp⟩
  have hg : (w.drew.alloc (.cells (bytesRow s (grownCap w s.size 0 5)) 5 ((bytesRow s (grownCap w s.size 0 5)).size, (bytesRow s (grownCap w s.size 0 5)).size + 1))).heap[w.heap.size]? = some (.cells (bytesRow s (grownCap w s.size 0 5)) 5 ((bytesRow s (grownCap w s.size 0 5)).size, (bytesRow s (grownCap w s.size 0 5)).size + 1)) := heap_alloc_new w.drew _
  have hsz : s.size ≤ (bytesRow s (grownCap w s.size 0 5)).size := by
    unfold bytesRow
    simp
  have hd : i < s.data.size := hi
  refine ⟨?_, ?_⟩
  · rw [cell_of_row _ w.heap.size i _ _ _ hg]
    unfold bytesRow
    rw [Array.getElem?_append_left (by simpa using hd)]
    simp [List.getD_eq_getElem?_getD, Array.getElem?_eq_getElem hd]
  · unfold World.frozen?
    rw [hg]
    simp
    omega

theorem spoil_eq (s : ByteArray) (m : Nat) (hm : s.size = m + 1) : spoil s = str (s.data.toList.set m (s.data.toList.getD m 0 + 1)) := by
  unfold spoil
  rw [hm]
  rfl
theorem u8_more (x : UInt8) : IntKind.u8.wrap ((x.toNat : Int) + 1) = (((x + 1).toNat : Nat) : Int) := by
  have := x.toNat_lt
  simp [IntKind.wrap, IntKind.bits, IntKind.signed, UInt8.toNat_add]

set_option maxHeartbeats 2000000 in
set_option maxRecDepth 100000 in
theorem spoilt_any (s : ByteArray) (w : World) (h0 : 0 < s.size) (h1 : s.size ≤ 100000) :
    Calls Tryz.prog 125 #[.string s] w fun e w' => e = .returned (.string (spoil s)) ∧ Below w.heap.size w w' := by
  obtain ⟨m, hm⟩ : ∃ m, s.size = m + 1 := ⟨s.size - 1, by omega⟩
  obtain ⟨W1, cap, hc1, hcel, hb, hlt⟩ := conv_bytes s w
  obtain ⟨c0, f0⟩ := hcel m (by omega)
  obtain ⟨x, hx⟩ : ∃ x, s.data.toList.getD m 0 = x := ⟨_, rfl⟩
  rw [hx] at c0
  have hu := u8_more x
  obtain ⟨v, hv⟩ : ∃ v : Int, (((x + 1).toNat : Nat) : Int) = v := ⟨_, rfl⟩
  rw [hv] at hu
  have hml : (m : Int) < (s.size : Int) := by omega
  have hm0 : (0 : Int) ≤ (m : Int) := by omega
  have he : (s.size : Int) - 1 = (m : Int) := by omega
  have hz : (s.size : Int) ≤ 100000 := by omega
  have hz0 : (1 : Int) ≤ (s.size : Int) := by omega
  have hc2 : (convert 73 9 (.slice (some ⟨w.heap.size, 0, none⟩) s.size cap)).run Tryz.prog (W1.setCell ⟨w.heap.size, m, none⟩ (.int .u8 v)) = .ok (.string (spoil s)) (W1.setCell ⟨w.heap.size, m, none⟩ (.int .u8 v)) := by
    have hsp : spoil s = strOfNums ((s.data.toList.set m (x + 1)).map fun b => (b.toNat : Int)) := by
      rw [strOfNums_bytes, spoil_eq s m hm, hx]
    rw [hsp]
    refine run_convert_bytes_arg _ 73 5 Tryz.underlying73 Tryz.underlying5 w.heap.size 0 s.size cap _ (by simp) (fun i hi => ?_) 9 Tryz.underlying9
    rw [Nat.zero_add]
    by_cases hi2 : i = m
    · subst hi2
      rw [World.cell?_setCell_same' _ _ _ (by rw [c0]; rfl)]
      have hil : i < s.data.toList.length := by simpa using hi
      simp only [List.getD_eq_getElem?_getD, List.getElem?_map, List.getElem?_set_self hil, Option.map_some, Option.getD_some]
      rw [hv]
    · rw [World.cell?_setCell_other _ _ _ _ (by intro e; injection e with _ e2 _; exact hi2 e2.symm), (hcel i hi).1]
      simp [List.getD_eq_getElem?_getD, List.getElem?_set_ne (fun e : m = i => hi2 e.symm)]
      have hil : i < s.data.size := hi
      simp [Array.getElem?_eq_getElem hil]
  have HB := Lib.hid hb
  clear hcel hb hm hx hv h0 h1
  go_enter Tryz.func125, Tryz.ntmps125
  go_wp2
  go_ret
  exact ⟨rfl, below_one HB.out (Nat.le_refl _)⟩

/-! ### The five faults -/
set_option maxRecDepth 100000 in
theorem fault1_any (v : Value) (w : World) : Calls Tryz.prog 121 #[v] w fun e w' => e = .returned (.tuple #[v, .slice none 0 0]) ∧ w = w' := by
  go_enter Tryz.func121, Tryz.ntmps121
  go_wp2
  go_ret2
  exact ⟨rfl, rfl⟩
set_option maxRecDepth 100000 in
theorem fault2_any (v : Value) (w : World) : Calls Tryz.prog 122 #[v] w fun e w' => e = .returned (.tuple #[.slice none 0 0, .slice none 0 0]) ∧ w = w' := by
  go_enter Tryz.func122, Tryz.ntmps122
  go_wp2
  go_ret2
  exact ⟨rfl, rfl⟩
set_option maxRecDepth 100000 in
theorem fault3_any (v : Value) (w : World) : Calls Tryz.prog 123 #[v] w fun e w' => e = .returned (.tuple #[.slice none 0 0, .slice none 0 0]) ∧ w = w' := by
  go_enter Tryz.func123, Tryz.ntmps123
  go_wp2
  go_ret2
  exact ⟨rfl, rfl⟩
set_option maxRecDepth 100000 in
theorem fault5_any (v : Value) (w : World) : Calls Tryz.prog 126 #[v] w fun e w' => e = .returned (.tuple #[.slice none 0 0, v]) ∧ w = w' := by
  go_enter Tryz.func126, Tryz.ntmps126
  go_wp2
  go_ret2
  exact ⟨rfl, rfl⟩

/-- A row in memory whose first cells are the texts of a list. -/
def StrRow (w : World) (b T c : Nat) (l : List ByteArray) : Prop := ∃ cur, RowAt w b T cur ∧ cur.toList.take l.length = strsV l ∧ l.length ≤ cur.size ∧ cur.size = c
theorem strrow_lt {w : World} {b T c : Nat} {l : List ByteArray} (h : StrRow w b T c l) : b < w.heap.size := by
  obtain ⟨cur, hr, -⟩ := h
  exact lt_of_block hr
theorem strrow_cell {w : World} {b T c : Nat} {l : List ByteArray} (h : StrRow w b T c l) {k : Nat} {s : ByteArray} (hs : l[k]? = some s) : w.cell? ⟨b, k, none⟩ = some (.string s) ∧ w.frozen? ⟨b, k, none⟩ = false := by
  obtain ⟨cur, hr, ht, hz, -⟩ := h
  have hk : k < l.length := (List.getElem?_eq_some_iff.1 hs).1
  refine ⟨?_, (row_facts hr).2.1 k⟩
  rw [(row_facts hr).1]
  have h1 : (cur.toList.take l.length)[k]? = cur.toList[k]? := List.getElem?_take_of_lt hk
  rw [ht, strsV_get, strsC, hs] at h1
  simp only [Array.getElem?_toList] at h1
  rw [← h1]
  rfl
theorem strrow_set {w : World} {b T c : Nat} {l : List ByteArray} (h : StrRow w b T c l) (k : Nat) (s : ByteArray) : StrRow (w.setCell ⟨b, k, none⟩ (.string s)) b T c (l.set k s) := by
  obtain ⟨cur, hr, ht, hs, hc⟩ := h
  refine ⟨_, RowAt.set hr rfl, ?_, by simpa using hs, by simpa using hc⟩
  rw [List.length_set, Array.toList_setIfInBounds, List.take_set, ht]
  simp [strsV]
theorem strrow_run {w w' : World} {b T c : Nat} {l : List ByteArray} (h : StrRow w b T c l) (hb : Below w.heap.size w w') : StrRow w' b T c l := by
  obtain ⟨cur, hr, rest⟩ := h
  exact ⟨cur, hr.run hb, rest⟩
theorem own_strrow {w : World} {B T n cap : Nat} {a : Addr} {l : List ByteArray} (h : w.ownsRow B T 1 (.slice (some a) n cap) n (strsV l)) : n = l.length ∧ a = ⟨a.block, 0, none⟩ ∧ B ≤ a.block ∧ StrRow w a.block T cap l ∧ n ≤ cap ∧ cap ≤ maxLen := by
  have hn : n = l.length := by have := h.1; rw [strsV_length] at this; omega
  rcases h.2 with ⟨hv, _⟩ | ⟨g, cap', cur, hv, hb, hg, hnc, hcm, hcs, ht⟩
  · cases hv
  · cases hv
    refine ⟨hn, rfl, hb, ⟨cur, hg, ?_, by omega, by omega⟩, hnc, hcm⟩
    rw [Nat.mul_one] at ht
    rw [← hn]
    exact ht
theorem strrow_own {w : World} {B T g cap : Nat} {l : List ByteArray} (h : StrRow w g T cap l) (hb : B ≤ g) (hc : l.length ≤ cap) (hm : cap ≤ maxLen) : w.ownsRow B T 1 (.slice (some ⟨g, 0, none⟩) l.length cap) l.length (strsV l) := by
  obtain ⟨cur, hr, ht, hs, hz⟩ := h
  exact ⟨by rw [strsV_length, Nat.mul_one], .inr ⟨g, cap, cur, rfl, hb, hr, hc, hm, by omega, by rw [Nat.mul_one]; exact ht⟩⟩
/-- The first ones of a list are spoilt. -/
def spoilTo (l : List ByteArray) (k : Nat) : List ByteArray := (l.take k).map spoil ++ l.drop k
theorem spoilTo_length (l : List ByteArray) (k : Nat) : (spoilTo l k).length = l.length := by simp [spoilTo]; omega
theorem spoilTo_at {l : List ByteArray} {k : Nat} {s : ByteArray} (h : l[k]? = some s) : (spoilTo l k)[k]? = some s := by
  have hk : k < l.length := (List.getElem?_eq_some_iff.1 h).1
  unfold spoilTo
  rw [List.getElem?_append_right (by simp; omega), List.getElem?_drop]
  simp [Nat.min_eq_left (Nat.le_of_lt hk), h]
theorem spoilTo_succ {l : List ByteArray} {k : Nat} {s : ByteArray} (h : l[k]? = some s) : (spoilTo l k).set k (spoil s) = spoilTo l (k + 1) := by
  have hk : k < l.length := (List.getElem?_eq_some_iff.1 h).1
  have hl : ((l.take k).map spoil).length = k := by simp; omega
  have hd : l.drop k = s :: l.drop (k + 1) := by
    rw [List.drop_eq_getElem_cons hk, (List.getElem?_eq_some_iff.1 h).2]
  unfold spoilTo
  rw [hd, List.set_append_right _ _ (by omega), hl, Nat.sub_self, List.set_cons_zero, take_succ_some h, List.map_append]
  simp
theorem spoilTo_all (l : List ByteArray) : spoilTo l l.length = l.map spoil := by simp [spoilTo]

/-- What spoiling a row leaves. -/
def SpoilPost (b T c : Nat) (v : Value) (l : List ByteArray) (w : World) (e : Ending) (w' : World) : Prop :=
  e = .returned (.tuple #[v, .slice none 0 0]) ∧ StrRow w' b T c (l.map spoil) ∧ w.heap.size ≤ w'.heap.size ∧ (∀ k, k < w.heap.size → k ≠ b → w'.heap[k]? = w.heap[k]?) ∧ Below b w w'
set_option maxHeartbeats 2000000 in
set_option maxRecDepth 100000 in
theorem fault4_some (b T c cap : Nat) (l : List ByteArray) (w : World) (h : StrRow w b T c l) (hl : l.length ≤ 1000) (hs : ∀ s ∈ l, 0 < s.size ∧ s.size ≤ 100000) :
    Calls Tryz.prog 124 #[.slice (some ⟨b, 0, none⟩) l.length cap] w (SpoilPost b T c (.slice (some ⟨b, 0, none⟩) l.length cap) l w) := by
  have H := Lib.hid h
  have HS := Lib.hid hs
  have hlc : (l.length : Int) ≤ 1000 := by omega
  have hblt := strrow_lt h
  clear h hs
  go_enter Tryz.func124, Tryz.ntmps124
  go_wp2_with fail
  go_loopw [4, 7] (fun _ i wr => ∃ j : Nat, j ≤ l.length ∧ i = .int .i64 j ∧ StrRow wr b T c (spoilTo l j) ∧ w.heap.size ≤ wr.heap.size ∧ (∀ k, k < w.heap.size → k ≠ b → wr.heap[k]? = w.heap[k]?) ∧ Below b w wr) (fun _ i _ => l.length - (intOf i).toNat)
  case atStart => exact ⟨0, Nat.zero_le _, rfl, H.out, Nat.le_refl _, fun _ _ _ => rfl, Below.refl _ _⟩
  case round =>
    obtain ⟨j, hj, rfl, hrow, hz, hfar, hbb⟩ := hrel
    by_cases hlt2 : j < l.length
    · have hlt3 : (j : Int) < (l.length : Int) := by omega
      have hj0 : (0 : Int) ≤ (j : Int) := by omega
      obtain ⟨s, hs⟩ : ∃ s, l[j]? = some s := ⟨_, List.getElem?_eq_getElem hlt2⟩
      obtain ⟨e0, f0⟩ := strrow_cell hrow (spoilTo_at hs)
      have hss := HS.out s (List.mem_of_getElem? hs)
      have C := Lib.hid (fun W => spoilt_any s W hss.1 hss.2)
      have HROW := Lib.hid hrow
      have HSS := Lib.hid hs
      have HFAR := Lib.hid hfar
      have HBB := Lib.hid hbb
      have hbr := strrow_lt hrow
      clear hrow hs hss hfar hbb
      go_wp2_with fail
      refine (C.out _).mono ?_
      rintro e w1 ⟨rfl, hb1⟩
      have hrow1 := strrow_run HROW.out hb1
      obtain ⟨e1, f1⟩ := strrow_cell hrow1 (spoilTo_at HSS.out)
      have hrow2 := strrow_set hrow1 j (spoil s)
      rw [spoilTo_succ HSS.out] at hrow2
      have hz1 := hb1.size
      have hfar1 : ∀ k, k < w.heap.size → k ≠ b → (w1.setCell ⟨b, j, none⟩ (.string (spoil s))).heap[k]? = w.heap[k]? := fun k hk hne =>
        (heap_setCell_other w1 ⟨b, j, none⟩ k _ hne).trans ((hb1.block k (by omega)).trans (HFAR.out k hk hne))
      have hbb1 : Below b w (w1.setCell ⟨b, j, none⟩ (.string (spoil s))) := below_one (HBB.out.trans (hb1.mono (Nat.le_of_lt hbr))) (Nat.le_refl _)
      have HR2 := Lib.hid hrow2
      have HF1 := Lib.hid hfar1
      have HB1 := Lib.hid hbb1
      clear hrow1 hrow2 hfar1 hbb1 hb1 C e0 f0
      go_wp2_with fail
      go_roundw
      case rel => exact ⟨j + 1, by omega, by go_num, HR2.out, by simp; omega, HF1.out, HB1.out⟩
      case measure => simp [intOf]; omega
    · obtain rfl : j = l.length := by omega
      rw [spoilTo_all] at hrow
      go_wp2
      go_ret2
      exact ⟨rfl, hrow, hz, hfar, hbb⟩
set_option maxHeartbeats 2000000 in
set_option maxRecDepth 100000 in
theorem fault4_none (w : World) : Calls Tryz.prog 124 #[.slice none 0 0] w fun e w' => e = .returned (.tuple #[.slice none 0 0, .slice none 0 0]) ∧ w = w' := by
  go_enter Tryz.func124, Tryz.ntmps124
  go_wp2_with fail
  refine wp_loop_rounds 1 ?_
  rw [rounds_succ]
  go_wp2
  go_ret2
  exact ⟨rfl, rfl⟩
end Go.Proofs.YtpkhcehddfmhpaaGreat

namespace Go.Proofs.YtpkhcehddfmhpaaGreat
open Go.RowKit

/-- A nil slice is written in one way. -/
def NilOne (v : Value) : Prop := ∀ n c, v = .slice none n c → v = .slice none 0 0
theorem nilone_own {w : World} {base T S n : Nat} {v : Value} {xs : List Value} (h : w.ownsRow base T S v n xs) : NilOne v := by
  rcases h.2 with ⟨rfl, _⟩ | ⟨g, cap, cur, rfl, _⟩
  · exact fun _ _ _ => rfl
  · exact fun _ _ e => by cases e
theorem nilone_nil : NilOne (.slice none 0 0) := fun _ _ _ => rfl

theorem wpList_append_strs {w : World} {ops : Array Oper} {rest : List Oper} {o : Oper} {a : Act} {Q : Exit → Act → World → Prop} (hgd : o.guard = none) (s x : Operand)
    (ho : o.op = .call { callee := .builtin .append, args := #[s, x], argTypes := #[27, 27] }) (base : Nat) (v : Value) (n : Nat) (xs : List Value) (hs : a.eval s = v) (hown : w.ownsRow base 9 1 v n xs)
    (y : Value) (l : List ByteArray) (hx : a.eval x = y) (hy : StrsAt w y l) (hz : NilOne y) (h63 : n + l.length ≤ 100000) (hbase : base ≤ w.heap.size)
    (h : ∀ v' w', w'.ownsRow base 9 1 v' (n + l.length) (xs ++ strsV l) → w.grownBy w' v.ownBlock → wpList Tryz.prog ops Q rest (a.put o.dst v') w') : wpList Tryz.prog ops Q (o :: rest) a w := by
  obtain ⟨i0, hi, hz0, hz1, hz2⟩ := info_parts Tryz.info_strH
  rcases hy with ⟨h0, ad, cap, rfl⟩ | ⟨h0, h1, b, off, cap, rfl, hlt, hc⟩
  · have hl : l = [] := List.eq_nil_of_length_eq_zero h0
    subst hl
    cases ad with
    | none =>
      rw [hz _ _ rfl] at hx
      exact wpList_append_own_none hgd s x _ ho base 9 i0 1 Tryz.underlying27 hi v n xs hs hown hx (h v w (by simpa [strsV] using hown) ⟨rfl, rfl, rfl, Nat.le_refl _, fun _ _ _ => rfl⟩)
    | some ad =>
      exact wpList_append_own w hgd s x _ ho base 9 i0 _ 1 16 Tryz.underlying27 hi hz0 hz1 hz2 rfl (by decide) v n xs hs hown ad 0 cap [] hx rfl (fun j u hj => by cases hj) (fun u hu => by cases hu) (by unfold maxLen; simp at h63; omega) (by simp at h63; omega) hbase (fun v' w' h1 h2 _ => h v' w' h1 h2)
  · exact wpList_append_own w hgd s x _ ho base 9 i0 _ 1 16 Tryz.underlying27 hi hz0 hz1 hz2 rfl (by decide) v n xs hs hown ⟨b, off, none⟩ l.length cap (strsV l) hx (by rw [strsV_length, Nat.mul_one]) (fun j u hj => by
      have hjn : j < l.length * 1 := by
        have := (List.getElem?_eq_some_iff.1 hj).1
        rw [strsV_length] at this
        omega
      rw [Addr.add_lit, hc j hjn, ← strsV_get]
      exact hj) (strsV_ones l) (by unfold maxLen; omega) (by omega) hbase (fun v' w' h1 h2 _ => h v' w' h1 h2)

theorem wpList_append_run2 {P : Program} {ops : Array Oper} {rest : List Oper} {o : Oper} {a : Act} {Q : Exit → Act → World → Prop} (hgd : o.guard = none) (s x : Operand) (t tn : TypeId)
    (ho : o.op = .call { callee := .builtin .append, args := #[s, x], argTypes := #[t, tn] }) (w : World) (v xv v' : Value) (w' : World) (hs : a.eval s = v) (hx : a.eval x = xv)
    (hr : (Builtin.append_ #[t, tn] o.type #[v, xv]).run P w = .ok v' w') (h : wpList P ops Q rest (a.put o.dst v') w') : wpList P ops Q (o :: rest) a w := by
  refine wpList_plain hgd fun K hK => ?_
  unfold Oper.wp execOp
  simp only [ho, resolve, invoke, builtin, Sem.run_bind, Sem.run_pure, Result.andThen_ok, List.map_toArray, List.map_cons, List.map_nil, hs, hx, hr]
  exact hK _ _ h

/-- Room for some texts. -/
def GrowPost (w : World) (e : Ending) (w' : World) : Prop := ∃ v, e = .returned v ∧ w'.ownsRow w.heap.size 9 1 v 0 [] ∧ Below w.heap.size w w'
set_option maxHeartbeats 2000000 in
set_option maxRecDepth 100000 in
theorem grow_none (n : Nat) (w : World) (hn : n ≤ 100000) : Calls Tryz.prog 127 #[.slice none 0 0, .int .i64 n] w (GrowPost w) := by
  obtain ⟨i0, hi, hz0, hz1, hz2⟩ := info_parts Tryz.info_strH
  have hn1 : (n : Int) ≤ 100000 := by omega
  have hn0 : (0 : Int) ≤ (n : Int) := by omega
  by_cases h0 : n = 0
  · subst h0
    go_enter Tryz.func127, Tryz.ntmps127
    go_wp2
    go_ret
    exact ⟨_, rfl, World.ownsRow_nil _ _ _ _, Below.refl _ _⟩
  · have h0' : (0 : Int) < (n : Int) := by omega
    have hr := Lib.run_append_nil_zeros (P := Tryz.prog) w 27 3 27 9 i0 _ .i64 .i64 Tryz.underlying27 Tryz.underlying3 hi hz0 n (by omega) (by omega) (by omega) (by rw [hz2]; omega)
    obtain ⟨cap, hcap⟩ : ∃ cap, grownCap w n 0 9 = cap := ⟨_, rfl⟩
    have hge : n ≤ cap := by rw [← hcap]; exact grownCap_ge w n 0 9
    have hmx : cap ≤ maxLen := by rw [← hcap]; exact grownCap_le_maxLen w n 0 9 (by unfold maxLen; omega)
    rw [hcap] at hr
    have hcz : (0 : Int) ≤ (cap : Int) := by omega
    obtain ⟨cs, hcs⟩ : ∃ cs, Builtin.zeroCells (Value.string ⟨#[]⟩).cells n ++ Builtin.zeroCells (Value.string ⟨#[]⟩).cells (cap - n) = cs := ⟨_, rfl⟩
    have hsz : cs.size = cap := by rw [← hcs]; simp [size_zeroCells, Value.cells]; omega
    rw [hcs] at hr
    have own0 : (w.drew.alloc (.cells cs 9)).ownsRow w.heap.size 9 1 (.slice (some ⟨w.heap.size, 0, none⟩) 0 cap) 0 [] := World.ownsRow_made w.drew cs cap (Nat.le_refl _) hmx (by omega)
    have hb0 : Below w.heap.size w (w.drew.alloc (.cells cs 9)) := ((Below.refl w.heap.size w).drew).alloc (Nat.le_refl _) _
    have HR := Lib.hid hr
    have HO := Lib.hid own0
    have HB := Lib.hid hb0
    clear hr own0 hb0 hcs hcap hsz hge
    go_enter Tryz.func127, Tryz.ntmps127
    go_wp2_with (at_builtin; refine wpList_append_run2 rfl (.tmp 20) (.tmp 21) 27 3 rfl _ _ _ _ _ rfl rfl HR.out ?_)
    go_ret
    exact ⟨_, rfl, (HO.out : ((w.alloc (.cells cs 9)).drew).ownsRow w.heap.size 9 1 (.slice (some ⟨w.heap.size, 0, none⟩) 0 cap) 0 []), (HB.out : Below w.heap.size w ((w.alloc (.cells cs 9)).drew))⟩

/-- Two lists of texts, one behind the other. -/
def ConcatPost (l1 l2 : List ByteArray) (w : World) (e : Ending) (w' : World) : Prop := ∃ v, e = .returned v ∧ w'.ownsRow w.heap.size 9 1 v (l1.length + l2.length) (strsV (l1 ++ l2)) ∧ Below w.heap.size w w'
set_option maxHeartbeats 4000000 in
set_option maxRecDepth 100000 in
theorem concat_two (g : Nat) (aa ba : Option Addr) (an ac bn bc : Nat) (l1 l2 : List ByteArray) (w : World) (hr : RowAt w g 27 #[.slice aa an ac, .slice ba bn bc]) (h1 : StrsAt w (.slice aa an ac) l1) (h2 : StrsAt w (.slice ba bn bc) l2)
    (n1 : NilOne (.slice aa an ac)) (n2 : NilOne (.slice ba bn bc)) (hl1 : l1.length ≤ 10000) (hl2 : l2.length ≤ 10000) :
    Calls Tryz.prog 90 #[.slice (some ⟨g, 0, none⟩) 2 2] w (ConcatPost l1 l2 w) := by
  have e1 : an = l1.length := by rcases h1 with ⟨h0, _, _, e⟩ | ⟨_, _, _, _, _, e, _⟩ <;> cases e <;> omega
  have e2 : bn = l2.length := by rcases h2 with ⟨h0, _, _, e⟩ | ⟨_, _, _, _, _, e, _⟩ <;> cases e <;> omega
  subst e1 e2
  have g1 : (l1.length : Int) ≤ 10000 := by omega
  have g2 : (l2.length : Int) ≤ 10000 := by omega
  have g3 : (0 : Int) ≤ (l1.length : Int) := by omega
  have g4 : (0 : Int) ≤ (l2.length : Int) := by omega
  have CG0 := fun W => grow_none (l1.length + l2.length) W (by omega)
  rw [show ((l1.length + l2.length : Nat) : Int) = (l1.length : Int) + (l2.length : Int) from by omega] at CG0
  have CG := Lib.hid CG0
  have R := Lib.hid hr
  have H1 := Lib.hid h1
  have H2 := Lib.hid h2
  have hlt := lt_of_block hr
  obtain ⟨x1, x2, x3, x4, x5, y6⟩ := row_facts hr
  have c0 : w.cell? ⟨g, 0, none⟩ = some (.slice aa l1.length ac) := cell_fact hr 0
  have c1 : w.cell? ⟨g, 1, none⟩ = some (.slice ba l2.length bc) := cell_fact hr 1
  have X6 := Lib.hid c1
  clear hr h1 h2 x1 CG0
  go_enter Tryz.func90, Tryz.ntmps90
  go_wp2_with fail
  refine wp_loop_rounds 3 ?_
  rw [rounds_succ]
  go_wp2_with fail
  rw [rounds_succ]
  go_wp2_with fail
  rw [rounds_succ]
  go_wp2_with fail
  refine (CG.out _).mono ?_
  rintro e w1 ⟨v1, rfl, ho1, hb1⟩
  have d0 := (hb1.cell (p := ⟨g, 0, none⟩) hlt).trans c0
  have d1 := (hb1.cell (p := ⟨g, 1, none⟩) hlt).trans c1
  have HB1 := Lib.hid hb1
  have HO1 := Lib.hid ho1
  have hz1 := hb1.size
  clear c0 c1 x2 x3 x4 x5 y6 hb1 ho1
  go_wp2_with fail
  refine wp_loop_rounds 3 ?_
  rw [rounds_succ]
  go_wp2_with (at_builtin; refine wpList_append_strs rfl (.tmp 31) (.tmp 32) rfl w.heap.size _ 0 [] rfl HO1.out _ l1 rfl (H1.out.runM HB1.out) n1 (by omega) hz1 ?_)
  intro v2 w2 ho2 hgr2
  have hb2 : Below w.heap.size w1 w2 := below_grown (Below.refl _ _) HO1.out (Nat.le_refl _) hgr2 hz1
  have HO2 := Lib.hid ho2
  have HB2 := Lib.hid ((HB1.out.trans hb2 : Below w.heap.size w w2))
  have hz2 := HB2.out.size
  have f1 := (HB2.out.cell (p := ⟨g, 1, none⟩) hlt).trans X6.out
  clear ho2 hgr2 hb2 d0 d1
  go_wp2_with fail
  rw [rounds_succ]
  go_wp2_with (at_builtin; refine wpList_append_strs rfl (.tmp 31) (.tmp 32) rfl w.heap.size _ _ _ rfl HO2.out _ l2 rfl (H2.out.runM HB2.out) n2 (by omega) hz2 ?_)
  intro v3 w3 ho3 hgr3
  have hb3 : Below w.heap.size w w3 := below_grown HB2.out HO2.out (Nat.le_refl _) hgr3 hz2
  have HO3 := Lib.hid ho3
  have HB3 := Lib.hid hb3
  clear ho3 hgr3 hb3
  go_wp2_with fail
  rw [rounds_succ]
  go_wp2_with fail
  go_ret
  refine ⟨v3, rfl, ?_, HB3.out⟩
  rw [show strsV (l1 ++ l2) = strsV l1 ++ strsV l2 from by simp [strsV]]
  exact HO3.out
end Go.Proofs.YtpkhcehddfmhpaaGreat
