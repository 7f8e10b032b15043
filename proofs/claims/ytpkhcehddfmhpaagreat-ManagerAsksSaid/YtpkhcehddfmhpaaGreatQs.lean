/-
  The reference's spoilt.
  The reference's errors of managers, wires and requests.
  The reference: a request is sent once.
-/
import Derived.Test.YtpkhcehddfmhpaaGreatMg
import Derived.Deep.RegionWith
import Derived.Test.YtpkhcehddfmhpaaGreatQi
import Derived.Test.YtpkhcehddfmhpaaGreatQa
import Derived.Test.YtpkhcehddfmhpaaGreatRreqM
import Derived.Test.YtpkhcehddfmhpaaGreatMade
import Derived.Test.YtpkhcehddfmhpaaGreatMi
import Derived.Test.YtpkhcehddfmhpaaGreatRenc
import Derived.Test.YtpkhcehddfmhpaaGreatQx
namespace Go.Proofs.YtpkhcehddfmhpaaGreat
open Go.RowKit

theorem spoil_cut (s : ByteArray) (m : Nat) (hm : s.size = m + 1) : (s.extract 0 m ++ str [s[m]'(by omega) + 1] : ByteArray) = spoil s := by
  have h : ∀ a b : ByteArray, a.data.toList = b.data.toList → a = b := by
    intro a b h
    cases a
    cases b
    simpa using h
  apply h
  rw [ByteArray.data_append, Array.toList_append, take_extract, spoil_eq s m hm]
  have hl : m < s.data.toList.length := by
    have : s.data.toList.length = s.size := by simp
    omega
  have hg : s.data.toList.getD m 0 = s[m]'(by omega) := by
    rw [List.getD_eq_getElem?_getD, List.getElem?_eq_getElem hl]
    rfl
  rw [hg]
  simp only [str]
  have hl2 : s.data.toList.length = s.size := by simp
  rw [List.set_eq_take_append_cons_drop, if_pos hl, List.drop_eq_nil_of_le (by omega)]

set_option maxHeartbeats 2000000 in
set_option maxRecDepth 100000 in
theorem rmspoilt_any (s : ByteArray) (w : World) (h0 : 0 < s.size) (h1 : s.size ≤ 100000) :
    Calls Tryz.prog 98 #[.string s] w fun e w' => e = .returned (.string (spoil s)) ∧ Below w.heap.size w w' := by
  obtain ⟨m, hm⟩ : ∃ m, s.size = m + 1 := ⟨s.size - 1, by omega⟩
  have hml : m < s.size := by omega
  have he : (s.size : Int) - 1 = (m : Int) := by omega
  have hz : (s.size : Int) ≤ 100000 := by omega
  have hz0 : (1 : Int) ≤ (s.size : Int) := by omega
  have hm0 : (0 : Int) ≤ (m : Int) := by omega
  have hm1 : (m : Int) ≤ (s.size : Int) := by omega
  have hm2 : (m : Int) < (s.size : Int) := by omega
  have hu := u8_more (s[m]'hml)
  have HS := Lib.hid (spoil_cut s m hm)
  obtain ⟨x, hx⟩ : ∃ x, (s[m]'hml) + 1 = x := ⟨_, rfl⟩
  obtain ⟨v, hv⟩ : ∃ v : Int, ((x.toNat : Nat) : Int) = v := ⟨_, rfl⟩
  rw [hx] at hu HS
  rw [hv] at hu
  have hc2 : ∀ W', W'.cell? ⟨w.heap.size, 0, none⟩ = some (.int .u8 v) → (convert 73 9 (.slice (some ⟨w.heap.size, 0, none⟩) 1 1)).run Tryz.prog W' = .ok (.string (str [x])) W' := by
    intro W' h
    have hsp : str [x] = strOfNums ([x].map fun b => (b.toNat : Int)) := (strOfNums_bytes [x]).symm
    rw [hsp]
    refine run_convert_bytes_arg W' 73 5 Tryz.underlying73 Tryz.underlying5 w.heap.size 0 1 1 _ (by simp) (fun i hi => ?_) 9 Tryz.underlying9
    obtain rfl : i = 0 := by omega
    rw [Nat.zero_add, h, ← hv]
    rfl
  have hc3 := hc2 ((w.alloc (.cells #[.int .u8 v] 5)).drew) (cell_fact (RowAt.drew (RowAt.new w 5 #[.int .u8 v])) 0)
  have hxz : (str [x]).size = 1 := by simp [str_size]
  have hez : (s.extract 0 m).size = m := by simp; omega
  clear hc2 hm hx hv h0 h1
  go_enter Tryz.func98, Tryz.ntmps98
  go_wp2
  go_region_with (fail)
  all_goals (try go_simp)
  all_goals go_wp2
  all_goals go_ret
  all_goals exact ⟨ret_str HS.out, Below.drew ((Below.refl _ _).alloc (Nat.le_refl _) _)⟩
end Go.Proofs.YtpkhcehddfmhpaaGreat

namespace Go.Proofs.YtpkhcehddfmhpaaGreat
open Go.RowKit

set_option maxHeartbeats 4000000 in
set_option maxRecDepth 100000 in
theorem rgiven_any (q : Int) (id seq tries : Int) (da fa la : Option Addr) (dn dc fn fc ln lc : Nat) (x : Wre) (dst kind par : Int) (dat : ByteArray) (w : World) (h : WireR w (.slice da dn dc) (.slice fa fn fc) (.slice la ln lc) x)
    (hlb : ∀ d ∈ x.devs, d.lb.size ≤ 9223372036854775807) (hq : givenE ⟨id, seq, tries⟩ x ⟨dst, kind, par, dat⟩ = q) :
    Calls Tryz.prog 70 #[.agg #[.int .u64 id, .int .i64 seq, .int .i64 tries], .agg #[.slice da dn dc, .slice fa fn fc, .slice la ln lc], .agg #[.int .u64 dst, .int .i64 kind, .int .i64 par, .string dat]] w
      fun e w' => e = .returned (.int .i64 q) ∧ Below w.heap.size w w' := by
  obtain ⟨W, hW⟩ : ∃ W, ((w.alloc (.cells #[.int .u64 id, .int .i64 seq, .int .i64 tries] 41)).alloc (.cells #[.slice da dn dc, .slice fa fn fc, .slice la ln lc] 44)).alloc (.cells #[.int .u64 dst, .int .i64 kind, .int .i64 par, .string dat] 49) = W := ⟨_, rfl⟩
  have hbW : Below w.heap.size w W := by rw [← hW]; (repeat' (first | (with_reducible exact Below.refl _ _) | (with_reducible assumption) | (with_reducible refine below_run ?_ (by assumption)) | (with_reducible refine below_of_upd ?_ (by assumption) ?_) | (with_reducible refine below_drewN ?_ _) | (with_reducible refine Below.drew ?_) | (with_reducible refine below_seven ?_ ?_) | (with_reducible refine below_six ?_ ?_) | (with_reducible refine below_one ?_ ?_) | (with_reducible refine Below.alloc ?_ ?_ _) | (with_reducible refine below_after ?_ ?_ (by assumption)) | (show _ ≤ _; first | omega | (simp; done) | (simp; omega))))
  have r0 : RowAt W w.heap.size 41 #[.int .u64 id, .int .i64 seq, .int .i64 tries] := by rw [← hW]; exact ((RowAt.new _ _ _).alloc _).alloc _
  have r1 : RowAt W (w.heap.size + 1) 44 #[.slice da dn dc, .slice fa fn fc, .slice la ln lc] := by rw [← hW]; exact (RowAt.mk (by simp) rfl).alloc _
  have r2 : RowAt W (w.heap.size + 1 + 1) 49 #[.int .u64 dst, .int .i64 kind, .int .i64 par, .string dat] := by rw [← hW]; exact RowAt.mk (by simp) rfl
  obtain ⟨m1, hm1⟩ : ∃ m, mgrE ⟨id, seq, tries⟩ = m := ⟨_, rfl⟩
  obtain ⟨m2, hm2⟩ : ∃ m, wireE x = m := ⟨_, rfl⟩
  obtain ⟨m3, hm3⟩ : ∃ m, chk ⟨dst, id, seq, kind, par, dat⟩ = m := ⟨_, rfl⟩
  have HX := Lib.hid (show q = if m1 ≠ 0 then m1 else if m2 ≠ 0 then m2 else if m3 ≠ 0 then m3 else if kind = 6 ∨ kind = 7 then 16 else 0 by
    rw [← hq, givenE, hm1, hm2]
    show (if m1 ≠ 0 then m1 else if m2 ≠ 0 then m2 else if chk ⟨dst, id, seq, kind, par, dat⟩ ≠ 0 then chk ⟨dst, id, seq, kind, par, dat⟩ else _) = _
    rw [hm3])
  have C1 := Lib.hid (fun W => rmright_any id seq tries m1 hm1 W)
  have C2 := Lib.hid (fun W hw => rcheck_any m2 da fa la dn dc fn fc ln lc x W hw hm2 hlb)
  have C3 := Lib.hid (fun W => rmof_any id seq tries dst kind par dat W)
  have C4 := Lib.hid (fun W => refchk_is m3 dst id seq kind par dat W hm3)
  have H := Lib.hid (h.run hbW)
  have HBW := Lib.hid hbW
  have R0 := Lib.hid r0
  have R1 := Lib.hid r1
  have R2 := Lib.hid r2
  obtain ⟨x1, x2, x3, x4, x5, x6⟩ := row_facts r0
  clear hq h hm1 hm2 hm3 r0 r1 r2 hbW
  go_enter Tryz.func70, Tryz.ntmps70
  go_upto_region 1 with fail
  clear hW
  go_wp2_with fail
  refine (C1.out _).mono ?_
  rintro e w1 ⟨rfl, hb1⟩
  have HB1 := Lib.hid (below_run HBW.out hb1)
  have H1 := Lib.hid (H.out.run hb1)
  have R11 := Lib.hid (R1.out.run hb1)
  have R01 := Lib.hid (R0.out.run hb1)
  have R21 := Lib.hid (R2.out.run hb1)
  obtain ⟨y1, y2, y3, y4, y5, y6⟩ := row_facts R11.out
  clear hb1 x1 x2 x3 x4 x5 x6 R0 R1 R2 H HBW
  by_cases hz1 : m1 = 0
  · subst hz1
    have HX1 := Lib.hid (show q = if m2 ≠ 0 then m2 else if m3 ≠ 0 then m3 else if kind = 6 ∨ kind = 7 then 16 else 0 by rw [HX.out, if_neg (by decide)])
    go_wp2_with fail
    refine (C2.out _ H1.out).mono ?_
    rintro e w2 ⟨rfl, hb2⟩
    have HB2 := Lib.hid (below_run HB1.out hb2)
    have R02 := Lib.hid (R01.out.run hb2)
    have R22 := Lib.hid (R21.out.run hb2)
    obtain ⟨x1, x2, x3, x4, x5, x6⟩ := row_facts R02.out
    obtain ⟨z1, z2, z3, z4, z5, z6⟩ := row_facts R22.out
    clear hb2 y1 y2 y3 y4 y5 y6
    by_cases hz2 : m2 = 0
    · subst hz2
      have HX2 := Lib.hid (show q = if m3 ≠ 0 then m3 else if kind = 6 ∨ kind = 7 then 16 else 0 by rw [HX1.out, if_neg (by decide)])
      go_wp2_with fail
      refine (C3.out _).mono ?_
      rintro e w3 ⟨rfl, hb3⟩
      have HB3 := Lib.hid (below_run HB2.out hb3)
      have R23 := Lib.hid (R22.out.run hb3)
      clear hb3 x1 x2 x3 x4 x5 x6 z1 z2 z3 z4 z5 z6
      go_wp2_with fail
      refine (C4.out _).mono ?_
      rintro e w4 ⟨rfl, hb4⟩
      have HB4 := Lib.hid (below_run HB3.out hb4)
      have R24 := Lib.hid (R23.out.run hb4)
      obtain ⟨z1, z2, z3, z4, z5, z6⟩ := row_facts R24.out
      clear hb4
      by_cases hz3 : m3 = 0
      · subst hz3
        have HX3 := Lib.hid (show q = if kind = 6 ∨ kind = 7 then 16 else 0 by rw [HX2.out, if_neg (by decide)])
        by_cases k6 : kind = 6
        · subst k6
          go_wp2
          go_ret
          exact ⟨ret_int (by rw [HX3.out]; rfl), HB4.out⟩
        · by_cases k7 : kind = 7
          · subst k7
            go_wp2
            go_ret
            exact ⟨ret_int (by rw [HX3.out]; rfl), HB4.out⟩
          · have e6 : (kind == 6) = false := by simpa using k6
            have e7 : (kind == 7) = false := by simpa using k7
            have HE := Lib.hid (show q = 0 by rw [HX3.out, if_neg (by omega)])
            clear k6 k7
            go_wp2
            go_ret
            exact ⟨ret_int (by rw [HE.out]), HB4.out⟩
      · have e9 : (m3 != 0) = true := by simpa using hz3
        have HE := Lib.hid (show q = m3 by rw [HX2.out, if_pos hz3])
        clear hz3
        go_wp2
        go_ret
        exact ⟨ret_int (by rw [HE.out]), HB4.out⟩
    · have e9 : (m2 != 0) = true := by simpa using hz2
      have HE := Lib.hid (show q = m2 by rw [HX1.out, if_pos hz2])
      clear hz2
      go_wp2
      go_ret
      exact ⟨ret_int (by rw [HE.out]), HB2.out⟩
  · have e9 : (m1 != 0) = true := by simpa using hz1
    have HE := Lib.hid (show q = m1 by rw [HX.out, if_pos hz1])
    clear hz1
    go_wp2
    go_ret
    exact ⟨ret_int (by rw [HE.out]), HB1.out⟩

set_option maxHeartbeats 4000000 in
set_option maxRecDepth 100000 in
theorem raskable_any (q : Int) (id seq tries : Int) (da fa la : Option Addr) (dn dc fn fc ln lc : Nat) (x : Wre) (dst kind par : Int) (dat : ByteArray) (w : World) (h : WireR w (.slice da dn dc) (.slice fa fn fc) (.slice la ln lc) x)
    (hlb : ∀ d ∈ x.devs, d.lb.size ≤ 9223372036854775807) (hq : askE ⟨id, seq, tries⟩ x ⟨dst, kind, par, dat⟩ = q) :
    Calls Tryz.prog 26 #[.agg #[.int .u64 id, .int .i64 seq, .int .i64 tries], .agg #[.slice da dn dc, .slice fa fn fc, .slice la ln lc], .agg #[.int .u64 dst, .int .i64 kind, .int .i64 par, .string dat]] w
      fun e w' => e = .returned (.int .i64 q) ∧ Below w.heap.size w w' := by
  obtain ⟨W, hW⟩ : ∃ W, ((w.alloc (.cells #[.int .u64 id, .int .i64 seq, .int .i64 tries] 41)).alloc (.cells #[.slice da dn dc, .slice fa fn fc, .slice la ln lc] 44)).alloc (.cells #[.int .u64 dst, .int .i64 kind, .int .i64 par, .string dat] 49) = W := ⟨_, rfl⟩
  have hbW : Below w.heap.size w W := by rw [← hW]; (repeat' (first | (with_reducible exact Below.refl _ _) | (with_reducible assumption) | (with_reducible refine below_run ?_ (by assumption)) | (with_reducible refine below_of_upd ?_ (by assumption) ?_) | (with_reducible refine below_drewN ?_ _) | (with_reducible refine Below.drew ?_) | (with_reducible refine below_seven ?_ ?_) | (with_reducible refine below_six ?_ ?_) | (with_reducible refine below_one ?_ ?_) | (with_reducible refine Below.alloc ?_ ?_ _) | (with_reducible refine below_after ?_ ?_ (by assumption)) | (show _ ≤ _; first | omega | (simp; done) | (simp; omega))))
  have r0 : RowAt W w.heap.size 41 #[.int .u64 id, .int .i64 seq, .int .i64 tries] := by rw [← hW]; exact ((RowAt.new _ _ _).alloc _).alloc _
  have r1 : RowAt W (w.heap.size + 1) 44 #[.slice da dn dc, .slice fa fn fc, .slice la ln lc] := by rw [← hW]; exact (RowAt.mk (by simp) rfl).alloc _
  have r2 : RowAt W (w.heap.size + 1 + 1) 49 #[.int .u64 dst, .int .i64 kind, .int .i64 par, .string dat] := by rw [← hW]; exact RowAt.mk (by simp) rfl
  obtain ⟨m1, hm1⟩ : ∃ m, givenE ⟨id, seq, tries⟩ x ⟨dst, kind, par, dat⟩ = m := ⟨_, rfl⟩
  have HX := Lib.hid (show q = if m1 ≠ 0 then m1 else if dst = 281474976710655 then 11 else 0 by rw [← hq, askE, hm1])
  have C1 := Lib.hid (rgiven_any m1 id seq tries da fa la dn dc fn fc ln lc x dst kind par dat W (h.run hbW) hlb hm1)
  have HBW := Lib.hid hbW
  have R2 := Lib.hid r2
  obtain ⟨x1, x2, x3, x4, x5, x6⟩ := row_facts r0
  obtain ⟨y1, y2, y3, y4, y5, y6⟩ := row_facts r1
  obtain ⟨z1, z2, z3, z4, z5, z6⟩ := row_facts r2
  clear hq h hm1 r0 r1 r2 hbW
  go_enter Tryz.func26, Tryz.ntmps26
  go_upto_region 1 with fail
  clear hW
  go_wp2_with fail
  refine C1.out.mono ?_
  rintro e w1 ⟨rfl, hb1⟩
  have HB1 := Lib.hid (below_run HBW.out hb1)
  have R21 := Lib.hid (R2.out.run hb1)
  clear hb1 x1 x2 x3 x4 x5 x6 y1 y2 y3 y4 y5 y6 z1 z2 z3 z4 z5 z6
  obtain ⟨z1, z2, z3, z4, z5, z6⟩ := row_facts R21.out
  by_cases hz1 : m1 = 0
  · subst hz1
    have HX1 := Lib.hid (show q = if dst = 281474976710655 then 11 else 0 by rw [HX.out, if_neg (by decide)])
    by_cases k6 : dst = 281474976710655
    · have e6 : (dst == 281474976710655) = true := by simpa using k6
      have HE := Lib.hid (show q = 11 by rw [HX1.out, if_pos k6])
      clear k6
      go_wp2
      go_ret
      exact ⟨ret_int (by rw [HE.out]), HB1.out⟩
    · have e6 : (dst == 281474976710655) = false := by simpa using k6
      have HE := Lib.hid (show q = 0 by rw [HX1.out, if_neg k6])
      clear k6
      go_wp2
      go_ret
      exact ⟨ret_int (by rw [HE.out]), HB1.out⟩
  · have e9 : (m1 != 0) = true := by simpa using hz1
    have HE := Lib.hid (show q = m1 by rw [HX.out, if_pos hz1])
    clear hz1
    go_wp2
    go_ret
    exact ⟨ret_int (by rw [HE.out]), HB1.out⟩
end Go.Proofs.YtpkhcehddfmhpaaGreat

namespace Go.Proofs.YtpkhcehddfmhpaaGreat
open Go.RowKit Go.Shelf

/-- A wire's parts in memory, where it is sent on. -/
structure WireS (w : World) (dv fv lv : Value) (y : Wre) : Prop where
  r : WireR w dv fv lv y
  nil : NilOne lv
  room : RoomOk fv
theorem WireS.run {w w' : World} {dv fv lv : Value} {y : Wre} (h : WireS w dv fv lv y) (hb : Below w.heap.size w w') : WireS w' dv fv lv y := ⟨h.r.run hb, h.nil, h.room⟩
theorem WireS.drew {w : World} {dv fv lv : Value} {y : Wre} (h : WireS w dv fv lv y) : WireS w.drew dv fv lv y := ⟨h.r.drew, h.nil, h.room⟩
/-- Ints that are a part of others, in whatever memory. -/
def SubInts (v : Value) (l : List Int) (v' : Value) (l' : List Int) : Prop := ∀ V, IntsAt V v l → IntsAt V v' l'
/-- In no old block. -/
def Fresh (w : World) (v : Value) : Prop := ∀ g, v.ownBlock = some g → w.heap.size ≤ g
/-- What sending leaves. -/
def RSentPost (x : Mgr) (y : Wre) (L : List Msg) (dv fv : Value) (fs : List Int) (w : World) (e : Ending) (w' : World) : Prop :=
  ∃ da fa la ma, ∃ dn dc fn fc ln lc mn mc : Nat, e = .returned (.tuple #[.agg #[.int .u64 x.id, .int .i64 x.seq, .int .i64 x.tries], .agg #[.slice da dn dc, .slice fa fn fc, .slice la ln lc], .slice ma mn mc]) ∧ WireS w' (.slice da dn dc) (.slice fa fn fc) (.slice la ln lc) y ∧ MsgsAt w' (.slice ma mn mc) L ∧ Below w.heap.size w w' ∧
    (Value.slice da dn dc = dv ∨ Fresh w (.slice da dn dc)) ∧ SubInts fv fs (.slice fa fn fc) y.faults ∧ Fresh w (.slice la ln lc) ∧ Fresh w (.slice ma mn mc)

/-- The blocks of the call: its arguments, its results. -/
structure SRows (k : Nat) (w wx : World) (x : Mgr) (r : Rqs) (dv fv lv : Value) : Prop where
  m : RowAt wx k 41 #[.int .u64 x.id, .int .i64 x.seq, .int .i64 x.tries]
  b : RowAt wx (k + 1) 44 #[dv, fv, lv]
  q : RowAt wx (k + 2) 49 #[.int .u64 r.dst, .int .i64 r.kind, .int .i64 r.par, .string r.dat]
  z : RowAt wx (k + 3) 41 #[.int .u64 0, .int .i64 0, .int .i64 0]
  y : RowAt wx (k + 4) 44 #[.slice none 0 0, .slice none 0 0, .slice none 0 0]
  below : Below k w wx
theorem SRows.run {k : Nat} {w wx wy : World} {x : Mgr} {r : Rqs} {dv fv lv : Value} (h : SRows k w wx x r dv fv lv) (hb : Below wx.heap.size wx wy) : SRows k w wy x r dv fv lv :=
  ⟨h.m.run hb, h.b.run hb, h.q.run hb, h.z.run hb, h.y.run hb, h.below.trans (below_up hb (by have := lt_of_block h.m; omega))⟩
theorem SRows.size {k : Nat} {w wx : World} {x : Mgr} {r : Rqs} {dv fv lv : Value} (h : SRows k w wx x r dv fv lv) : k + 5 ≤ wx.heap.size := by have := lt_of_block h.y; omega
theorem SRows.setD {k : Nat} {w wx : World} {x : Mgr} {r : Rqs} {dv fv lv u : Value} (h : SRows k w wx x r dv fv lv) : SRows k w (wx.setCell ⟨k + 1, 0, none⟩ u) x r u fv lv :=
  ⟨h.m.far1 (by omega), RowAt.set h.b rfl, h.q.far1 (by omega), h.z.far1 (by omega), h.y.far1 (by omega), below_one h.below (by omega)⟩
theorem SRows.setF {k : Nat} {w wx : World} {x : Mgr} {r : Rqs} {dv fv lv u : Value} (h : SRows k w wx x r dv fv lv) : SRows k w (wx.setCell ⟨k + 1, 1, none⟩ u) x r dv u lv :=
  ⟨h.m.far1 (by omega), RowAt.set h.b rfl, h.q.far1 (by omega), h.z.far1 (by omega), h.y.far1 (by omega), below_one h.below (by omega)⟩
theorem SRows.setL {k : Nat} {w wx : World} {x : Mgr} {r : Rqs} {dv fv lv u : Value} (h : SRows k w wx x r dv fv lv) : SRows k w (wx.setCell ⟨k + 1, 2, none⟩ u) x r dv fv u :=
  ⟨h.m.far1 (by omega), RowAt.set h.b rfl, h.q.far1 (by omega), h.z.far1 (by omega), h.y.far1 (by omega), below_one h.below (by omega)⟩

/-- Devices that lie elsewhere than in the blocks of the call. -/
def DevsOut (k : Nat) (w : World) (v : Value) (l : List Dev) : Prop := DevsAt w v l ∧ (l.length ≠ 0 → ∀ g, v.ownBlock = some g → g < k ∨ k + 5 ≤ g)
theorem DevsOut.run {k : Nat} {w w' : World} {v : Value} {l : List Dev} (h : DevsOut k w v l) (hb : Below w.heap.size w w') : DevsOut k w' v l := ⟨h.1.below hb, h.2⟩
theorem DevsOut.upd {k b : Nat} {w w' : World} {v : Value} {l : List Dev} (h : DevsOut k w v l) (hu : Upd b w w') (h1 : k ≤ b) (h2 : b < k + 5) : DevsOut k w' v l :=
  ⟨SeqAt.same h.1 hu.size fun g off cap e hn hc => by
    subst e
    have hg := h.2 (by omega) g rfl
    have q := hc 0 (by omega)
    have hgb : some g ≠ some b := fun e => by cases e; rcases hg with hg | hg <;> omega
    refine hu.block g ?_ hgb
    have : w.cell? ⟨g, off + 0, none⟩ = some (.int .u64 (l[0]'hn).id) := by
      rw [q]
      simp [devsC, List.getElem?_eq_getElem hn, devA]
    exact World.block_lt_of_cell? w _ this, h.2⟩

/-- The texts of the answers. -/
def txts (f : Int) (A : List Msg) : List ByteArray := if f = 1 then [] else A.map fun m => if f = 3 then spoil (txtM m) else txtM m
theorem txts_one {A : List Msg} : txts 1 A = [] := rfl
theorem txts_heard (f : Int) (A : List Msg) (late : List ByteArray) (hf : f = 0 ∨ f = 1 ∨ f = 2 ∨ f = 3 ∨ f = 4) : (if f = 4 then late else if f = 2 then late else late ++ txts f A) = late ++ nowW f (if f = 1 then [] else A.map txtM) := by
  rcases hf with rfl | rfl | rfl | rfl | rfl <;> simp [txts, nowW]
theorem txts_late (f : Int) (A : List Msg) : (if f = 4 then txts f A else []) = lateW f (if f = 1 then [] else A.map txtM) := by
  unfold lateW
  split
  · rename_i h
    subst h
    simp [txts]
  · rfl

theorem SRows.setQ {k : Nat} {w wx : World} {i s t q : Int} {r : Rqs} {dv fv lv : Value} (h : SRows k w wx ⟨i, s, t⟩ r dv fv lv) : SRows k w (wx.setCell ⟨k, 1, none⟩ (.int .i64 q)) ⟨i, q, t⟩ r dv fv lv :=
  ⟨RowAt.set h.m rfl, h.b.far1 (by omega), h.q.far1 (by omega), h.z.far1 (by omega), h.y.far1 (by omega), below_one h.below (Nat.le_refl _)⟩
theorem SRows.runB {k B : Nat} {w wx wy : World} {x : Mgr} {r : Rqs} {dv fv lv : Value} (h : SRows k w wx x r dv fv lv) (hb : Below B wx wy) (hB : k + 5 ≤ B) : SRows k w wy x r dv fv lv :=
  ⟨h.m.below hb (by omega), h.b.below hb (by omega), h.q.below hb (by omega), h.z.below hb (by omega), h.y.below hb (by omega), h.below.trans (below_up hb (by omega))⟩
theorem upd_from {b B : Nat} {a w w' : World} (h : Upd b a w) (hb : Below B w w') (hB : a.heap.size ≤ B) : Upd b a w' :=
  ⟨hb.os.trans h.os, hb.tape.trans h.tape, hb.output.trans h.output, Nat.le_trans h.size hb.size, fun k hk hne => (hb.block k (by omega)).trans (h.block k hk hne)⟩
theorem heardM_snoc (l : List ByteArray) (s : ByteArray) : heardM (l ++ [s]) = heardM l ++ if (decM s.data.toList).2 = 0 then [(decM s.data.toList).1] else [] := by
  unfold heardM
  rw [List.filterMap_append]
  congr 1
  simp only [List.filterMap_cons, List.filterMap_nil]
  split <;> rename_i h <;> split at h <;> simp_all
theorem spoil_size2 (s : ByteArray) : (spoil s).size = s.size := by
  unfold spoil
  rw [str_size, List.length_set]
  simp

/-- Messages lie elsewhere than a row of three slices. -/
theorem msgs_upd3 {w w' : World} {b T : Nat} {v c1 c2 : Value} {a : Option Addr} {n c : Nat} {l : List Msg} (h : MsgsAt w v l) (hr : RowAt w b T #[.slice a n c, c1, c2]) (hu : Upd b w w') : MsgsAt w' v l :=
  SeqAt.same h hu.size fun g off cap e h0 hc => by
    have q : ∀ i, i < 6 → w.cell? ⟨g, off + i, none⟩ = (msgA (l[0]'h0))[i]? := by
      intro i hi
      rw [hc i (by omega)]
      have e1 : i / 6 = 0 := by omega
      have e2 : i % 6 = i := by omega
      simp [msgsC, e1, e2, List.getElem?_eq_getElem h0]
    have q0 : w.cell? ⟨g, off + 0, none⟩ = some (.int .u64 (l[0]'h0).dst) := q 0 (by decide)
    have q5 : w.cell? ⟨g, off + 5, none⟩ = some (.string (l[0]'h0).dat) := q 5 (by decide)
    refine hu.block g (World.block_lt_of_cell? w _ q0) (fun e => ?_)
    cases e
    rw [cell_fact hr] at q5 q0
    have hx : off + 5 < 3 := by
      have := (Array.getElem?_eq_some_iff.1 q5).1
      simpa using this
    omega

set_option maxHeartbeats 8000000 in
set_option maxRecDepth 100000 in
theorem rsent_any (x : Mgr) (da fa la : Option Addr) (dn dc fn fc ln lc : Nat) (y : Wre) (dst kind par : Int) (dat : ByteArray) (w : World) (h : WireS w (.slice da dn dc) (.slice fa fn fc) (.slice la ln lc) y) (hy : wireE y = 0) (hm : chk (ofM x ⟨dst, kind, par, dat⟩) = 0) (hxs : 0 ≤ x.seq ∧ x.seq ≤ 255) (hds : dat.size ≤ 9223372036854775807) :
    Calls Tryz.prog 72 #[.agg #[.int .u64 x.id, .int .i64 x.seq, .int .i64 x.tries], .agg #[.slice da dn dc, .slice fa fn fc, .slice la ln lc], .agg #[.int .u64 dst, .int .i64 kind, .int .i64 par, .string dat]] w (RSentPost (nextM x) (sendW x ⟨dst, kind, par, dat⟩ y) (hearW x ⟨dst, kind, par, dat⟩ y) (.slice da dn dc) (.slice fa fn fc) y.faults w) := by
  obtain ⟨id, seq, tries⟩ := x
  obtain ⟨devs, faults, late⟩ := y
  obtain rfl : dn = devs.length := by
    obtain ⟨a, c, e⟩ := shape_of h.r.devs
    cases e
    rfl
  have hfn : fn = faults.length := by
    obtain ⟨a, c, e⟩ := shape_of h.r.faults
    cases e
    rfl
  obtain rfl : ln = late.length := by
    obtain ⟨a, c, e⟩ := shape_of h.r.late
    cases e
    rfl
  show Calls Tryz.prog 72 #[.agg #[.int .u64 id, .int .i64 seq, .int .i64 tries], _, _] w _
  obtain ⟨W, hW⟩ : ∃ W, ((((w.alloc (.cells #[.int .u64 id, .int .i64 seq, .int .i64 tries] 41)).alloc (.cells #[.slice da devs.length dc, .slice fa fn fc, .slice la late.length lc] 44)).alloc (.cells #[.int .u64 dst, .int .i64 kind, .int .i64 par, .string dat] 49)).alloc (.cells #[.int .u64 0, .int .i64 0, .int .i64 0] 41)).alloc (.cells #[.slice none 0 0, .slice none 0 0, .slice none 0 0] 44) = W := ⟨_, rfl⟩
  have hbW : Below w.heap.size w W := by rw [← hW]; (repeat' (first | (with_reducible exact Below.refl _ _) | (with_reducible assumption) | (with_reducible refine below_run ?_ (by assumption)) | (with_reducible refine below_of_upd ?_ (by assumption) ?_) | (with_reducible refine below_drewN ?_ _) | (with_reducible refine Below.drew ?_) | (with_reducible refine below_seven ?_ ?_) | (with_reducible refine below_six ?_ ?_) | (with_reducible refine below_one ?_ ?_) | (with_reducible refine Below.alloc ?_ ?_ _) | (with_reducible refine below_after ?_ ?_ (by assumption)) | (show _ ≤ _; first | omega | (simp; done) | (simp; omega))))
  have hS : SRows w.heap.size w W ⟨id, seq, tries⟩ ⟨dst, kind, par, dat⟩ (.slice da devs.length dc) (.slice fa fn fc) (.slice la late.length lc) := by
    refine ⟨?_, ?_, ?_, ?_, ?_, hbW⟩ <;> rw [← hW]
    · exact ((((RowAt.new _ _ _).alloc _).alloc _).alloc _).alloc _
    · exact (((RowAt.mk (by simp) rfl).alloc _).alloc _).alloc _
    · exact ((RowAt.mk (by simp) rfl).alloc _).alloc _
    · exact (RowAt.mk (by simp) rfl).alloc _
    · exact RowAt.mk (by simp) rfl
  obtain ⟨h1, h2, h3, h4, h5⟩ := wire_parts hy
  dsimp only at h1 h2 h3 h4 h5
  have hfl : (fn : Int) ≤ 4096 := by omega
  obtain ⟨f, hf⟩ : ∃ f, faultW ⟨devs, faults, late⟩ = f := ⟨_, rfl⟩
  have hf5 : f = 0 ∨ f = 1 ∨ f = 2 ∨ f = 3 ∨ f = 4 := by
    have e : faults.headD 0 = f := hf
    cases faults with
    | nil => exact .inl e.symm
    | cons a b =>
      rw [List.any_cons, Bool.or_eq_false_iff] at h3
      have h := of_decide_eq_false h3.1
      have e' : a = f := e
      omega
  obtain ⟨x1, x2, x3, x4, x5, x6⟩ := row_facts hS.b
  have HH := Lib.hid h
  have HY := Lib.hid hy
  have HM := Lib.hid hm
  have HS := Lib.hid hS
  have HF := Lib.hid hf
  have HFN := Lib.hid hfn
  have HF5 := Lib.hid hf5
  have HXS := Lib.hid hxs
  have HDS := Lib.hid hds
  clear hfn h hy hm hbW hS h1 h2 h3 h4 h5 hf hf5 hxs hds
  go_enter Tryz.func72, Tryz.ntmps72
  go_upto_if 24 with fail
  go_cut [9] (fun s9 wx => s9 = .int .i64 f ∧ ∃ (fb : Option Addr) (fm : Nat), SRows w.heap.size w wx ⟨id, seq, tries⟩ ⟨dst, kind, par, dat⟩ (.slice da devs.length dc) (.slice fb (fn - 1) fm) (.slice la late.length lc) ∧ RoomOk (.slice fb (fn - 1) fm) ∧ SubInts (.slice fa fn fc) faults (.slice fb (fn - 1) fm) faults.tail)
  case first =>
    have hfe := HF.out
    have HAT := Lib.hid HH.out.r.faults
    cases fn with
    | zero =>
      obtain rfl : faults = [] := List.eq_nil_of_length_eq_zero HFN.out.symm
      have hfe' : (0 : Int) = f := hfe
      subst hfe'
      go_wp2_with fail
      go_meet
      exact ⟨rfl, fa, fc, HS.out, HH.out.room, fun V hV => hV⟩
    | succ m =>
      obtain ⟨a, rest, rfl⟩ : ∃ a rest, faults = a :: rest := by
        cases faults with
        | nil => exact absurd HFN.out (by simp)
        | cons a rest => exact ⟨a, rest, rfl⟩
      have hm : m = rest.length := by have := HFN.out; simpa using this
      have hfe' : a = f := hfe
      subst hfe'
      obtain ⟨fb, fo, rfl, hfb, hfc⟩ : ∃ fb fo, fa = some ⟨fb, fo, none⟩ ∧ fb < w.heap.size ∧ ∀ j, j < (rest.length + 1) * 1 → w.cell? ⟨fb, fo + j, none⟩ = i64C (a :: rest) j := by
        rcases HH.out.r.faults with ⟨e0, _⟩ | ⟨_, _, fb, fo, fk, e, hlt, hc⟩
        · simp at e0
        · obtain ⟨e1, -, -⟩ := Value.slice.inj e
          exact ⟨fb, fo, e1, hlt, by simpa using hc⟩
      have g0 : W.cell? ⟨fb, fo, none⟩ = some (.int .i64 a) := (HS.out.below.cell (p := ⟨fb, fo, none⟩) hfb).trans (hfc 0 (by omega))
      have hfk : m + 1 ≤ fc := HH.out.room _ _ _ rfl
      have hlen0 : (0 : Int) < (m : Int) + 1 := by omega
      have HFC := Lib.hid hfc
      have HFB := Lib.hid hfb
      have HFK := Lib.hid hfk
      have HM2 := Lib.hid hm
      clear hfc hfb hm hfe
      by_cases hc1 : fc = 1
      · subst hc1
        obtain rfl : m = 0 := by have := HFK.out; omega
        go_wp2_with fail
        go_meet
        have hr : rest = [] := List.eq_nil_of_length_eq_zero (by have := HM2.out; omega)
        exact ⟨rfl, some ⟨fb, fo, none⟩, 0, HS.out.setF, (fun a n c e => by cases e; exact Nat.le_refl _), fun V _ => by rw [hr]; exact .inl ⟨rfl, _, _, rfl⟩⟩
      · go_wp2_with fail
        go_meet
        have hfk := HFK.out
        refine ⟨rfl, some ⟨fb, fo + 1, none⟩, fc - 1, HS.out.setF, (fun a n c e => by cases e; show m ≤ fc - 1; omega), fun V hV => ?_⟩
        have hm2 := HM2.out
        rcases hV with ⟨e0, _⟩ | ⟨_, _, fb', fo', fk, e, hlt, hc⟩
        · simp at e0
        · cases e
          have hi := ints_tail (fk := fc - 1) (Below.refl _ V) hlt (by simpa using hc) (by omega)
          rw [← hm2] at hi
          exact hi
  case rest =>
    obtain ⟨rfl, fb, fm, hS1, hroom, hints⟩ := hcut
    rename World => W1
    have HS1 := Lib.hid hS1
    have HRO := Lib.hid hroom
    have HIN := Lib.hid hints
    clear hS1 hroom hints x1 x2 x3 x4 x5 x6 HS hW
    go_upto_if 34 with fail
    go_cut [10] (fun s10 wx => ∃ (d2 : Option Addr) (m2 c2 B : Nat), SRows w.heap.size w wx ⟨id, seq, tries⟩ ⟨dst, kind, par, dat⟩ (.slice d2 m2 c2) (.slice fb (fn - 1) fm) (.slice la late.length lc) ∧ DevsOut w.heap.size wx (.slice d2 m2 c2) (if f = 1 then devs else sentD devs ⟨dst, id, seq, kind, par, dat⟩) ∧ w.heap.size + 5 ≤ B ∧ B ≤ wx.heap.size ∧ (Value.slice d2 m2 c2 = .slice da devs.length dc ∨ Fresh w (.slice d2 m2 c2)) ∧ wx.ownsRow B 9 1 s10 (txts f (sentA devs ⟨dst, id, seq, kind, par, dat⟩)).length (strsV (txts f (sentA devs ⟨dst, id, seq, kind, par, dat⟩))))
    case first =>
      by_cases hf1 : f = 1
      · subst hf1
        go_wp2_with fail
        go_meet
        refine ⟨da, devs.length, dc, w.heap.size + 5, HS1.out, ⟨HH.out.r.devs.below HS1.out.below, fun h0 g hg => ?_⟩, Nat.le_refl _, HS1.out.size, .inl rfl, World.ownsRow_nil _ _ _ _⟩
        left
        rcases HH.out.r.devs with ⟨e0, _⟩ | ⟨_, _, b, off, cap, e, hlt, _⟩
        · exact absurd e0 h0
        · cases e
          cases hg
          exact hlt
      · have e1 : (f != 1) = true := by simpa using hf1
        have HF1 := Lib.hid hf1
        clear hf1
        go_upto_region 7 with fail
        have hkeep : ∀ W', Below W1.heap.size W1 W' → (W'.cell? ⟨w.heap.size, 0, none⟩ = some (.int .u64 id) ∧ W'.cell? ⟨w.heap.size, 1, none⟩ = some (.int .i64 seq) ∧ W'.cell? ⟨w.heap.size, 2, none⟩ = some (.int .i64 tries) ∧ W'.cell? ⟨w.heap.size + 1, 0, none⟩ = some (.slice da devs.length dc) ∧ W'.cell? ⟨w.heap.size + 2, 0, none⟩ = some (.int .u64 dst) ∧ W'.cell? ⟨w.heap.size + 2, 1, none⟩ = some (.int .i64 kind) ∧ W'.cell? ⟨w.heap.size + 2, 2, none⟩ = some (.int .i64 par) ∧ W'.cell? ⟨w.heap.size + 2, 3, none⟩ = some (.string dat)) := by
          intro W' hb
          have a0 := HS1.out.m.run hb
          have a1 := HS1.out.b.run hb
          have a2 := HS1.out.q.run hb
          exact ⟨cell_fact a0 0, cell_fact a0 1, cell_fact a0 2, cell_fact a1 0, cell_fact a2 0, cell_fact a2 1, cell_fact a2 2, cell_fact a2 3⟩
        have HK := Lib.hid hkeep
        have hbd : Below W1.heap.size W1 W1.drew := Below.drew (Below.refl _ _)
        obtain ⟨m0, m1, m2, m3, m4, m5, m6, m7⟩ := hkeep W1 (Below.refl _ _)
        obtain ⟨hd1, hd2⟩ : devs.length ≤ 64 ∧ ∀ d ∈ devs, chkD d = 0 := devs_few2 (wire_parts HY.out).1
        have CS := Lib.hid (fun (V : World) (hv : DevsAt V (.slice da devs.length dc) devs) => sentF_any _ devs dst id seq kind par dat V hv (by omega) hd2 HM.out HDS.out)
        have HD1 := Lib.hid (fun (V : World) (hb : Below W1.heap.size W1 V) => (HH.out.r.devs.below HS1.out.below).below hb)
        have HD2 := Lib.hid hd2
        have HD3 := Lib.hid hd1
        clear hkeep hd1 hd2
        go_region_held3 (fun w' => w'.cell? ⟨w.heap.size, 0, none⟩ = some (.int .u64 id) ∧ w'.cell? ⟨w.heap.size, 1, none⟩ = some (.int .i64 seq) ∧ w'.cell? ⟨w.heap.size, 2, none⟩ = some (.int .i64 tries) ∧ w'.cell? ⟨w.heap.size + 1, 0, none⟩ = some (.slice da devs.length dc) ∧ w'.cell? ⟨w.heap.size + 2, 0, none⟩ = some (.int .u64 dst) ∧ w'.cell? ⟨w.heap.size + 2, 1, none⟩ = some (.int .i64 kind) ∧ w'.cell? ⟨w.heap.size + 2, 2, none⟩ = some (.int .i64 par) ∧ w'.cell? ⟨w.heap.size + 2, 3, none⟩ = some (.string dat)) (first | go_keep | exact HK.out _ (by assumption))
          (first
            | (go_at_call 71; refine (rmof_any _ _ _ _ _ _ _ _).mono ?_; rintro e w2 ⟨rfl, hb2⟩; have hc2 : Below W1.heap.size W1 w2 := below_run (by assumption) hb2)
            | (go_at_call 96; with_reducible refine (CS.out _ (HD1.out _ (by assumption))).mono ?_; rintro e w3 ⟨v1, v2, rfl, hd3, ha3, hb3, hg3⟩; have hc3 : Below W1.heap.size W1 w3 := below_run (by assumption) hb3))
        have hS3 := HS1.out.run hc3
        obtain ⟨va, vc, rfl⟩ := shape_of hd3
        obtain ⟨aa, ac, rfl⟩ := shape_of ha3
        obtain ⟨W4, hW4⟩ : ∃ W4, w3.setCell ⟨w.heap.size + 1, 0, none⟩ (.slice va (sentD devs ⟨dst, id, seq, kind, par, dat⟩).length vc) = W4 := ⟨_, rfl⟩
        have hU34 : Upd (w.heap.size + 1) w3 W4 := hW4 ▸ upd_set (upd_refl _ w3) 0 _
        have hS4 : SRows w.heap.size w W4 ⟨id, seq, tries⟩ ⟨dst, kind, par, dat⟩ (.slice va (sentD devs ⟨dst, id, seq, kind, par, dat⟩).length vc) (.slice fb (fn - 1) fm) (.slice la late.length lc) := hW4 ▸ hS3.setD
        have hsz1 := HS1.out.size
        have hD4 : DevsOut w.heap.size W4 (.slice va (sentD devs ⟨dst, id, seq, kind, par, dat⟩).length vc) (sentD devs ⟨dst, id, seq, kind, par, dat⟩) := DevsOut.upd ⟨hd3, fun _ g hg => .inr (by have := hg3 g hg; have := hc2.size; omega)⟩ hU34 (by omega) (by omega)
        have hA4 : MsgsAt W4 (.slice aa (sentA devs ⟨dst, id, seq, kind, par, dat⟩).length ac) (sentA devs ⟨dst, id, seq, kind, par, dat⟩) := msgs_upd3 ha3 hS3.b hU34
        have hAl : (sentA devs ⟨dst, id, seq, kind, par, dat⟩).length ≤ 64 := Nat.le_trans (sentA_length _ _) HD3.out
        have hAc := fun a ha => (sent_answers HD2.out HM.out a ha).1
        simp only [ofM] at hAc
        obtain ⟨A, hA⟩ : ∃ A, sentA devs ⟨dst, id, seq, kind, par, dat⟩ = A := ⟨_, rfl⟩
        obtain ⟨D, hD⟩ : ∃ D, sentD devs ⟨dst, id, seq, kind, par, dat⟩ = D := ⟨_, rfl⟩
        rw [hA] at hA4 hAl hAc ⊢
        rw [hD] at hS4 hD4 hW4 hg3 ⊢
        have hA0 : (A.length : Int) ≤ 64 := by omega
        have HAE := Lib.hid hA
        have HDE := Lib.hid hD
        obtain ⟨x1, x2, x3, x4, x5, x6⟩ := row_facts hS3.b
        have HS4 := Lib.hid hS4
        have HD4 := Lib.hid hD4
        have HFR := Lib.hid (show Fresh w (.slice va D.length vc) from fun g hg => by have := hg3 g hg; have := hc2.size; omega)
        have HA4 := Lib.hid hA4
        have HAC := Lib.hid hAc
        have hz4 := hS4.size
        obtain ⟨i0, hi, hz0, hz1, hz2⟩ := info_parts Tryz.info_strH
        clear hS3 hU34 hS4 hD4 hA4 hAc hA hD hd3 ha3 hb3 hb2 hg3 hc2 hc3 m0 m1 m2 m3 m4 m5 m6 m7 hbd HK CS HD1 HD2 HD3 hsz1
        go_wp2_with fail
        clear x1 x2 x3 x4 x5 x6 hW4
        go_loopw [10, 13, 14, 15] (fun vt i _ _ wr => ∃ k : Nat, k ≤ A.length ∧ i = .int .i64 k ∧ wr.ownsRow W4.heap.size 9 1 vt k (strsV ((txts f A).take k)) ∧ Below W4.heap.size W4 wr) (fun _ i _ _ _ => A.length - (intOf i).toNat)
        case atStart => exact ⟨0, Nat.zero_le _, rfl, World.ownsRow_nil _ _ _ _, Below.refl _ _⟩
        case round =>
          obtain ⟨k, hk, rfl, hown, hb0⟩ := hrel
          by_cases hlt2 : k < A.length
          · have hlt3 : (k : Int) < (A.length : Int) := by omega
            obtain ⟨b, off, e, hw1⟩ : ∃ b off, aa = some ⟨b, off, none⟩ ∧ ∀ j, j < A.length * 6 → wr.cell? ⟨b, off + j, none⟩ = msgsC A j := by
              rcases HA4.out with ⟨e0, _⟩ | ⟨_, _, b, off, cap, e, hlt, hc⟩
              · omega
              · exact ⟨b, off, (Value.slice.inj e).1, fun j hj => (hb0.cell (p := ⟨b, off + j, none⟩) hlt).trans (hc j hj)⟩
            cases e
            obtain ⟨a, ha, e0, e1', e2, e3, e4, e5⟩ := msg_cells hw1 k hlt2
            have hca := HAC.out a (List.mem_of_getElem? ha)
            have C : Hid (∀ W, Calls Tryz.prog 97 #[.agg #[.int .u64 a.dst, .int .u64 a.src, .int .i64 a.seq, .int .i64 a.kind, .int .i64 a.par, .string a.dat]] W fun e w' => e = .returned (.tuple #[.string (txtM a), .int .i64 0]) ∧ Below W.heap.size W w') := fun W => (refenc_any a.dst a.src a.seq a.kind a.par a.dat W).mono fun e w' ⟨s, n, he, hh, hb⟩ => by
              have := hh.out
              rw [encM, if_neg (not_not_intro hca)] at this
              cases this
              exact ⟨he, hb⟩
            have hsm : 0 < (txtM a).size ∧ (txtM a).size ≤ 100000 := by
              have h1 := (small_of_chk hca).2.2.2.2.2.2.2.2.2.2
              have h2 : (txtM a).size = (madeL a).length := by simp [txtM, str_size]
              rw [h2, madeL_length]
              omega
            have hT : strsV ((txts f A).take (k + 1)) = strsV ((txts f A).take k) ++ [.string (if f = 3 then spoil (txtM a) else txtM a)] := by
              rw [take_succ_some (show (txts f A)[k]? = some (if f = 3 then spoil (txtM a) else txtM a) from by rw [txts, if_neg HF1.out, List.getElem?_map, ha]; rfl)]
              simp [strsV]
            have C3 := Lib.hid (fun W => rmspoilt_any (txtM a) W hsm.1 hsm.2)
            obtain ⟨t0, ht0⟩ : ∃ t, txtM a = t := ⟨_, rfl⟩
            rw [ht0] at C hT C3
            clear hw1 hca ha ht0 hsm
            by_cases hf3 : f = 3
            · have e6 : (f == 3) = true := by simpa using hf3
              rw [if_pos hf3] at hT
              obtain ⟨t, ht⟩ : ∃ t, spoil t0 = t := ⟨_, rfl⟩
              rw [ht] at hT C3
              have HT := Lib.hid hT
              clear hf3 ht hT
              go_wp2_with fail
              refine (C.out _).mono ?_
              rintro e w4 ⟨rfl, hb1⟩
              have hb1' : Below wr.heap.size wr w4 := by (repeat' (first | (with_reducible exact Below.refl _ _) | (with_reducible assumption) | (with_reducible refine below_run ?_ (by assumption)) | (with_reducible refine below_of_upd ?_ (by assumption) ?_) | (with_reducible refine below_drewN ?_ _) | (with_reducible refine Below.drew ?_) | (with_reducible refine below_seven ?_ ?_) | (with_reducible refine below_six ?_ ?_) | (with_reducible refine below_one ?_ ?_) | (with_reducible refine Below.alloc ?_ ?_ _) | (with_reducible refine below_after ?_ ?_ (by assumption)) | (show _ ≤ _; first | omega | (simp; done) | (simp; omega))))
              have hbw4 := below_run hb0 hb1'
              have own4 := own_run hown hb1'
              clear hown hb0 hb1 hb1' e0 e1' e2 e3 e4 e5
              go_wp2_with fail
              refine (C3.out _).mono ?_
              rintro e w5 ⟨rfl, hb5⟩
              have own1 := own_run own4 hb5
              have hbw := below_run hbw4 hb5
              have hz1' := hbw.size
              clear own4 hbw4 hb5
              go_wp2_with (at_builtin; refine wpList_append_own _ rfl (.tmp 64) (.tmp 66) 27 rfl W4.heap.size 9 i0 _ 1 16 Tryz.underlying27 hi hz0 hz1 hz2 rfl (by decide) _ _ _ rfl (own1.alloc _) ⟨w5.heap.size, 0, none⟩ 1 1 [.string t] rfl rfl ?c1 ?c2 ?c3 ?c4 ?c5 ?_)
              case c1 =>
                intro j u hj
                match j, hj with
                | 0, hj =>
                  simp at hj
                  subst hj
                  have hr0 : RowAt (w5.alloc (.cells #[.string t] 9)) w5.heap.size 9 #[.string t] := RowAt.new _ _ _
                  exact (row_facts hr0).1 0
              case c2 => intro u hu; simp at hu; subst hu; rfl
              case c3 => unfold maxLen; omega
              case c4 => omega
              case c5 => simp; omega
              · intro v' w6 hown1 hgrow _
                have hb6 := below_grown (hbw.alloc (by omega) _) (own1.alloc _) (by omega) hgrow (by simp; omega)
                clear own1 hgrow hbw
                go_wp2
                go_roundw
                case rel =>
                  refine ⟨k + 1, by omega, by go_num, ?_, hb6⟩
                  rw [HT.out]
                  exact hown1
                case measure => simp [intOf]; omega
            · have e6 : (f == 3) = false := by simpa using hf3
              rw [if_neg hf3] at hT
              obtain ⟨t, rfl⟩ : ∃ t, t0 = t := ⟨_, rfl⟩
              rename ByteArray => t
              have HT := Lib.hid hT
              clear hf3 hT C3
              go_wp2_with fail
              refine (C.out _).mono ?_
              rintro e w5 ⟨rfl, hb1⟩
              have hb1' : Below wr.heap.size wr w5 := by (repeat' (first | (with_reducible exact Below.refl _ _) | (with_reducible assumption) | (with_reducible refine below_run ?_ (by assumption)) | (with_reducible refine below_of_upd ?_ (by assumption) ?_) | (with_reducible refine below_drewN ?_ _) | (with_reducible refine Below.drew ?_) | (with_reducible refine below_seven ?_ ?_) | (with_reducible refine below_six ?_ ?_) | (with_reducible refine below_one ?_ ?_) | (with_reducible refine Below.alloc ?_ ?_ _) | (with_reducible refine below_after ?_ ?_ (by assumption)) | (show _ ≤ _; first | omega | (simp; done) | (simp; omega))))
              have own1 := own_run hown hb1'
              have hbw := below_run hb0 hb1'
              have hz1' := hbw.size
              clear hown hb0 hb1 hb1' e0 e1' e2 e3 e4 e5
              go_wp2_with (at_builtin; refine wpList_append_own _ rfl (.tmp 64) (.tmp 66) 27 rfl W4.heap.size 9 i0 _ 1 16 Tryz.underlying27 hi hz0 hz1 hz2 rfl (by decide) _ _ _ rfl (own1.alloc _) ⟨w5.heap.size, 0, none⟩ 1 1 [.string t] rfl rfl ?c1 ?c2 ?c3 ?c4 ?c5 ?_)
              case c1 =>
                intro j u hj
                match j, hj with
                | 0, hj =>
                  simp at hj
                  subst hj
                  have hr0 : RowAt (w5.alloc (.cells #[.string t] 9)) w5.heap.size 9 #[.string t] := RowAt.new _ _ _
                  exact (row_facts hr0).1 0
              case c2 => intro u hu; simp at hu; subst hu; rfl
              case c3 => unfold maxLen; omega
              case c4 => omega
              case c5 => simp; omega
              · intro v' w6 hown1 hgrow _
                have hb6 := below_grown (hbw.alloc (by omega) _) (own1.alloc _) (by omega) hgrow (by simp; omega)
                clear own1 hgrow hbw
                go_wp2
                go_roundw
                case rel =>
                  refine ⟨k + 1, by omega, by go_num, ?_, hb6⟩
                  rw [HT.out]
                  exact hown1
                case measure => simp [intOf]; omega
          · obtain rfl : k = A.length := Nat.le_antisymm hk (Nat.le_of_not_lt hlt2)
            have htl : (txts f A).length = A.length := by rw [txts, if_neg HF1.out, List.length_map]
            rw [List.take_of_length_le (by omega)] at hown
            rw [← htl] at hown
            have HOW := Lib.hid hown
            clear hown htl
            go_wp2_with fail
            go_meet
            rw [HAE.out, HDE.out]
            refine ⟨va, D.length, vc, W4.heap.size, HS4.out.run hb0, ?_, HS4.out.size, hb0.size, .inr HFR.out, HOW.out⟩
            rw [if_neg HF1.out]
            exact HD4.out.run hb0
    case rest =>
      obtain ⟨d2, m2, c2, B, hS2, hD2, hB5, hBz, hfr2, hown⟩ := hcut
      have HFR2 := Lib.hid hfr2
      clear hfr2
      rename World => W2
      obtain ⟨A, hA⟩ : ∃ A, sentA devs ⟨dst, id, seq, kind, par, dat⟩ = A := ⟨_, rfl⟩
      obtain ⟨D, hD⟩ : ∃ D, (if f = 1 then devs else sentD devs ⟨dst, id, seq, kind, par, dat⟩) = D := ⟨_, rfl⟩
      rw [hA] at hown
      rw [hD] at hD2
      have hTl : (txts f A).length ≤ 64 := by
        have h1 : (sentA devs ⟨dst, id, seq, kind, par, dat⟩).length ≤ 64 := Nat.le_trans (sentA_length _ _) (devs_few2 (wire_parts HY.out).1).1
        rw [hA] at h1
        unfold txts
        split
        · exact Nat.zero_le _
        · rw [List.length_map]; exact h1
      obtain ⟨T, hT⟩ : ∃ T, txts f A = T := ⟨_, rfl⟩
      rw [hT] at hown hTl
      have HS2 := Lib.hid hS2
      have HD2 := Lib.hid hD2
      have HOW := Lib.hid hown
      have HAE := Lib.hid hA
      have HDE := Lib.hid hD
      have HTE := Lib.hid hT
      obtain ⟨ta, tn, tc, rfl⟩ := own_slice hown
      obtain ⟨x1, x2, x3, x4, x5, x6⟩ := row_facts hS2.b
      have hz2' := hS2.size
      clear hS2 hD2 hA hD hT hown HS1
      obtain ⟨-, -, -, hl4, hl5⟩ := wire_parts HY.out
      dsimp only at hl4 hl5
      have HL5 := Lib.hid hl5
      have hnl : NilOne (.slice la late.length lc) := HH.out.nil
      have HLT := Lib.hid (show StrsAt (W2.alloc (.cells #[] 9)) (.slice la late.length lc) late from HH.out.r.late.runM (below_run HS2.out.below ((Below.refl _ _).alloc (Nat.le_refl _) _)))
      clear hl5
      have HMK := Lib.hid (show (W2.alloc (.cells #[] 9)).ownsRow W2.heap.size 9 1 (.slice (some ⟨W2.heap.size, 0, none⟩) 0 0) 0 [] from World.ownsRow_made W2 #[] 0 (Nat.le_refl _) (by unfold maxLen; omega) (by simp))
      go_upto_region 16 with fail
      go_wp2_with (at_builtin; refine wpList_append_strs rfl (.tmp 68) (.tmp 70) rfl W2.heap.size _ 0 [] rfl HMK.out _ late rfl HLT.out hnl (by omega) (by simp) ?_)
      intro v16 w3 ho3 hgr3
      have hb23 : Below W2.heap.size W2 w3 := below_grown ((Below.refl _ _).alloc (Nat.le_refl _) _) HMK.out (Nat.le_refl _) hgr3 (by simp)
      have ho3 : w3.ownsRow W2.heap.size 9 1 v16 late.length (strsV late) := by simpa using ho3
      have hS3 := HS2.out.run hb23
      have hT3 := own_run HOW.out hb23
      obtain ⟨W4, hW4⟩ : ∃ W4, w3.setCell ⟨w.heap.size + 1, 2, none⟩ (.slice none 0 0) = W4 := ⟨_, rfl⟩
      have hU34 : Upd (w.heap.size + 1) w3 W4 := hW4 ▸ upd_set (upd_refl _ w3) 2 _
      have hU24 : Upd (w.heap.size + 1) W2 W4 := upd_upd (upd_below (upd_refl _ W2) hb23) hU34
      have hS4 : SRows w.heap.size w W4 ⟨id, seq, tries⟩ ⟨dst, kind, par, dat⟩ (.slice d2 m2 c2) (.slice fb (fn - 1) fm) (.slice none 0 0) := hW4 ▸ hS3.setL
      have ho4 : W4.ownsRow W2.heap.size 9 1 v16 late.length (strsV late) := own_upd ho3 hS3.b (by decide) hU34
      have hT4 : W4.ownsRow B 9 1 (.slice ta tn tc) T.length (strsV T) := own_upd hT3 hS3.b (by decide) hU34
      obtain ⟨y1, y2, y3, y4, y5, y6⟩ := row_facts hS3.b
      have hz24 : W2.heap.size ≤ W4.heap.size := hU24.size
      have hcap := HOW.out
      obtain ⟨sa, sn, sc, rfl⟩ := own_slice ho3
      have HS4 := Lib.hid hS4
      have HO4 := Lib.hid ho4
      have HT4 := Lib.hid hT4
      have HU24 := Lib.hid hU24
      clear x1 x2 x3 x4 x5 x6 HLT hgr3 hb23 hS3 hT3 hU34 hU24 hS4 ho4 hT4 ho3 hcap HOW
      go_upto_if 74 with fail
      clear hW4 y1 y2 y3 y4 y5 y6
      obtain ⟨x1, x2, x3, x4, x5, x6⟩ := row_facts HS4.out.b
      go_cut [16] (fun s16 wx => ∃ (l3 : Option Addr) (n3 c3 : Nat) (B3 : Nat), SRows w.heap.size w wx ⟨id, seq, tries⟩ ⟨dst, kind, par, dat⟩ (.slice d2 m2 c2) (.slice fb (fn - 1) fm) (.slice l3 n3 c3) ∧ Upd (w.heap.size + 1) W2 wx ∧ wx.ownsRow B 9 1 (.slice l3 n3 c3) (if f = 4 then T else []).length (strsV (if f = 4 then T else [])) ∧ w.heap.size + 5 ≤ B3 ∧ wx.ownsRow B3 9 1 s16 (if f = 4 then late else if f = 2 then late else late ++ T).length (strsV (if f = 4 then late else if f = 2 then late else late ++ T)))
      case first =>
        by_cases hf4 : f = 4
        · subst hf4
          go_wp2_with fail
          go_meet
          have hu := upd_set (upd_refl (w.heap.size + 1) W4) 2 (.slice ta tn tc)
          exact ⟨ta, tn, tc, W2.heap.size, HS4.out.setL, upd_upd HU24.out hu, by simp only [if_true]; exact own_upd HT4.out HS4.out.b (by decide) hu, hz2', by simp only [if_true]; exact own_upd HO4.out HS4.out.b (by decide) hu⟩
        · by_cases hf2 : f = 2
          · subst hf2
            go_wp2_with fail
            go_meet
            exact ⟨none, 0, 0, W2.heap.size, HS4.out, HU24.out, World.ownsRow_nil _ _ _ _, hz2', HO4.out⟩
          · have e4 : (f == 4) = false := by simpa using hf4
            have e2 : (f != 2) = true := by simpa using hf2
            have HF4 := Lib.hid hf4
            have HF2 := Lib.hid hf2
            have hnt := nilone_own HT4.out
            have HST := Lib.hid (strs_of HT4.out rfl (by omega))
            clear hf4 hf2
            go_wp2_with (at_builtin; refine wpList_append_strs rfl (.tmp 79) (.tmp 80) rfl W2.heap.size _ late.length (strsV late) rfl HO4.out _ T rfl HST.out hnt (by omega) hz24 ?_)
            intro v5 w5 ho5 hgr5
            have hb5 : Below W2.heap.size W4 w5 := below_grown (Below.refl _ _) HO4.out (Nat.le_refl _) hgr5 hz24
            go_wp2_with fail
            go_meet
            refine ⟨none, 0, 0, W2.heap.size, HS4.out.runB hb5 hz2', upd_from HU24.out hb5 (Nat.le_refl _), ?_, hz2', ?_⟩
            · rw [if_neg HF4.out]
              exact World.ownsRow_nil _ _ _ _
            · rw [if_neg HF4.out, if_neg HF2.out]
              have e : strsV (late ++ T) = strsV late ++ strsV T := by simp [strsV]
              rw [e, List.length_append]
              exact ho5
      case rest =>
        obtain ⟨l3, n3, c3, B3, hS5, hU25, hL5, hB3, hH5⟩ := hcut
        rename World => W5
        have hrng := HF5.out
        obtain ⟨H, hH⟩ : ∃ H, (if f = 4 then late else if f = 2 then late else late ++ T) = H := ⟨_, rfl⟩
        have hHH := txts_heard f A late hrng
        have hLL := txts_late f A
        rw [HTE.out] at hHH hLL
        rw [hH] at hH5 hHH
        rw [hLL] at hL5
        have hHs : ∀ t ∈ H, t.size ≤ 100000 := by
          intro t ht
          have h1 : t ∈ late ++ T := by
            rw [← hH] at ht
            split at ht
            · exact List.mem_append_left _ ht
            · split at ht
              · exact List.mem_append_left _ ht
              · exact ht
          rcases List.mem_append.1 h1 with h | h
          · have h9 : ¬ longText t = true := fun e => by
              have := List.any_eq_false.1 HL5.out t h
              exact this e
            have h8 : ¬ 4096 < t.size := by simpa [longText] using h9
            omega
          · rw [← HTE.out] at h
            unfold txts at h
            split at h
            · cases h
            · obtain ⟨a, ha, rfl⟩ := List.mem_map.1 h
              rw [← HAE.out] at ha
              have hca := (sent_answers (devs_few2 (wire_parts HY.out).1).2 HM.out a ha).1
              have h1 := (small_of_chk hca).2.2.2.2.2.2.2.2.2.2
              have h2 : (txtM a).size = (madeL a).length := by simp [txtM, str_size]
              have h3 : (txtM a).size ≤ 100000 := by
                rw [h2, madeL_length]
                omega
              split
              · rw [spoil_size2]; exact h3
              · exact h3
        have hHl : H.length ≤ 200 := by
          rw [← hH]
          split
          · omega
          · split
            · omega
            · rw [List.length_append]; omega
        have HHS := Lib.hid hHs
        have HS5 := Lib.hid hS5
        have HU25 := Lib.hid hU25
        have HL5' := Lib.hid hL5
        have HHH := Lib.hid hHH
        have HST := Lib.hid (strs_of hH5 rfl (by omega))
        obtain ⟨sa5, sn5, sc5, rfl⟩ := own_slice hH5
        obtain rfl : sn5 = H.length := by
          obtain ⟨a, c, e⟩ := shape_of HST.out
          exact (Value.slice.inj e).2.1
        have hz5 : W5.heap.size ≤ W5.heap.size := Nat.le_refl _
        have hH0 : (H.length : Int) ≤ 200 := by omega
        obtain ⟨i1, hi, hz0, hz1, hz2⟩ := info_parts Tryz.info_msg
        clear x1 x2 x3 x4 x5 x6 hrng hH hHH hLL hHs hS5 hU25 hL5 hH5
        go_wp2
        go_loopw [17, 18, 19, 20] (fun vo i _ _ wr => ∃ k : Nat, k ≤ H.length ∧ i = .int .i64 k ∧ wr.ownsRow W5.heap.size 52 6 vo (heardM (H.take k)).length (msgsL (heardM (H.take k))) ∧ Below W5.heap.size W5 wr) (fun _ i _ _ _ => H.length - (intOf i).toNat)
        case atStart => exact ⟨0, Nat.zero_le _, rfl, World.ownsRow_nil _ _ _ _, Below.refl _ _⟩
        case round =>
          obtain ⟨k, hk, rfl, hown, hb0⟩ := hrel
          by_cases hlt2 : k < H.length
          · have hlt3 : (k : Int) < (H.length : Int) := by omega
            obtain ⟨b, off, e, hw1⟩ : ∃ b off, sa5 = some ⟨b, off, none⟩ ∧ ∀ j, j < H.length * 1 → wr.cell? ⟨b, off + j, none⟩ = strsC H j := by
              rcases HST.out with ⟨e0, _⟩ | ⟨_, _, b, off, cap, e, hlt, hc⟩
              · omega
              · exact ⟨b, off, (Value.slice.inj e).1, fun j hj => (hb0.cell (p := ⟨b, off + j, none⟩) hlt).trans (hc j hj)⟩
            cases e
            obtain ⟨s, hs, e0⟩ := str_cell hw1 k hlt2
            have CD := Lib.hid (fun W => refdec_any s W (HHS.out s (List.mem_of_getElem? hs)))
            have HT := Lib.hid (take_succ_some hs)
            have hlen : (heardM (H.take k)).length ≤ 200 := by
              have h1 : (heardM (H.take k)).length ≤ (H.take k).length := List.length_filterMap_le _ _
              have h2 := List.length_take_le k H
              omega
            clear hw1 hs
            go_wp2_with fail
            refine (CD.out _).mono ?_
            rintro e w6 ⟨m, n, rfl, hmn, hb6⟩
            have hbw6 := below_run hb0 hb6
            have own6 := own_run hown hb6
            have hz6 := hbw6.size
            have HMN := Lib.hid hmn.out
            clear hown hb0 hb6 e0 CD hmn
            by_cases hn : n = 0
            · subst hn
              have hsn : msgsL (heardM (H.take (k + 1))) = msgsL (heardM (H.take k)) ++ (msgA m).toList := by
                rw [HT.out, heardM_snoc, HMN.out, if_pos rfl, msgsL_append]
                simp [msgsL]
              have hsl : (heardM (H.take (k + 1))).length = (heardM (H.take k)).length + 1 := by
                rw [HT.out, heardM_snoc, HMN.out, if_pos rfl]
                simp
              have HSN := Lib.hid hsn
              have HSL := Lib.hid hsl
              clear hsn hsl
              go_wp2_with (at_builtin; refine wpList_append_own _ rfl (.tmp 98) (.tmp 100) 138 rfl W5.heap.size 52 i1 _ 6 56 Tryz.underlying138 hi hz0 hz1 hz2 rfl (by decide) _ _ _ rfl ((own6.alloc _).alloc _) ⟨w6.heap.size + 1, 0, none⟩ 1 1 (msgA m).toList rfl rfl ?e1 (msg_ones m) ?e3 ?e4 ?e5 ?_)
              case e1 => first | exact msg_news (d := m) (RowAt.mk (by first | rfl | simp) rfl) | (intro j u hj; simpa [msgA] using hj)
              case e3 => unfold maxLen; omega
              case e4 => omega
              case e5 => first | omega | (simp; omega)
              · intro v7 w7 hown7 hgrow _
                have hb7 := below_grown ((hbw6.alloc (by omega) _).alloc (by simp; omega) _) ((own6.alloc _).alloc _) (Nat.le_refl _) hgrow (by simp; omega)
                clear own6 hgrow hbw6
                go_wp2
                go_roundw
                case rel =>
                  refine ⟨k + 1, by omega, by go_num, ?_, hb7⟩
                  rw [HSN.out, HSL.out]
                  exact hown7
                case measure => simp [intOf]; omega
            · have en : (n == 0) = false := by simpa using hn
              have HT2 := HT.out
              have hsn : heardM (H.take (k + 1)) = heardM (H.take k) := by
                rw [HT.out, heardM_snoc, HMN.out, if_neg hn, List.append_nil]
              have HSN := Lib.hid hsn
              clear HT2 hsn hn
              go_wp2
              go_roundw
              case rel =>
                refine ⟨k + 1, by omega, by go_num, ?_, ?_⟩
                · rw [HSN.out]
                  exact own6.alloc _
                · (repeat' (first | (with_reducible exact Below.refl _ _) | (with_reducible assumption) | (with_reducible refine below_run ?_ (by assumption)) | (with_reducible refine below_of_upd ?_ (by assumption) ?_) | (with_reducible refine below_drewN ?_ _) | (with_reducible refine Below.drew ?_) | (with_reducible refine below_seven ?_ ?_) | (with_reducible refine below_six ?_ ?_) | (with_reducible refine below_one ?_ ?_) | (with_reducible refine Below.alloc ?_ ?_ _) | (with_reducible refine below_after ?_ ?_ (by assumption)) | (show _ ≤ _; first | omega | (simp; done) | (simp; omega))))
              case measure => simp [intOf]; omega
          · obtain rfl : k = H.length := Nat.le_antisymm hk (Nat.le_of_not_lt hlt2)
            rw [List.take_length] at hown
            have HOU := Lib.hid hown
            have hS6 := HS5.out.run hb0
            have HB0 := Lib.hid hb0
            have hw1 : (seq + 1).tmod 256 = (seq + 1) % 256 := Int.tmod_eq_emod_of_nonneg (by have := HXS.out.1; omega)
            have hx0 : 0 ≤ seq := HXS.out.1
            have hx1 : seq ≤ 255 := HXS.out.2
            obtain ⟨x1, x2, x3, x4, x5, x6⟩ := row_facts hS6.m
            have HS6 := Lib.hid hS6
            clear hS6 hb0 hown hlt2 hk
            go_upto_region 30 with fail
            clear x1 x2 x3 x4 x5 x6
            have hu67 := upd_set (upd_refl w.heap.size wr) 1 (.int .i64 ((seq + 1) % 256))
            have hS7 := HS6.out.setQ (q := (seq + 1) % 256)
            have ho7 := own_upd HOU.out HS6.out.m (by decide) hu67
            have hl7 := own_upd (own_run HL5'.out HB0.out) HS6.out.m (by decide) hu67
            have hd7 := ((HD2.out.upd HU25.out (by omega) (by omega)).run HB0.out).upd hu67 (Nat.le_refl _) (by omega)
            generalize wr.setCell ⟨w.heap.size, 1, none⟩ (.int .i64 ((seq + 1) % 256)) = W7 at hS7 ho7 hl7 hd7 ⊢
            have HS7 := Lib.hid hS7
            have HO7 := Lib.hid ho7
            have HL7 := Lib.hid hl7
            have HD7 := Lib.hid hd7
            obtain ⟨x1, x2, x3, x4, x5, x6⟩ := row_facts hS7.m
            obtain ⟨y1, y2, y3, y4, y5, y6⟩ := row_facts hS7.b
            obtain ⟨z1, z2, z3, z4, z5, z6⟩ := row_facts hS7.z
            obtain ⟨v1, v2, v3, v4, v5, v6⟩ := row_facts hS7.y
            (try (have hn : ¬ w.heap.size = w.heap.size + 3 := (by omega); have hn' : ¬ w.heap.size + 3 = w.heap.size := (by omega)))
            (try (have hn : ¬ w.heap.size = w.heap.size + 4 := (by omega); have hn' : ¬ w.heap.size + 4 = w.heap.size := (by omega)))
            (try (have hn : ¬ w.heap.size + 1 = w.heap.size + 3 := (by omega); have hn' : ¬ w.heap.size + 3 = w.heap.size + 1 := (by omega)))
            (try (have hn : ¬ w.heap.size + 1 = w.heap.size + 4 := (by omega); have hn' : ¬ w.heap.size + 4 = w.heap.size + 1 := (by omega)))
            (try (have hn : ¬ w.heap.size + 3 = w.heap.size + 4 := (by omega); have hn' : ¬ w.heap.size + 4 = w.heap.size + 3 := (by omega)))
            have e12 : w.heap.size + 1 + 1 + 1 = w.heap.size + 3 := rfl
            have e13 : w.heap.size + 1 + 1 + 1 + 1 = w.heap.size + 4 := rfl
            clear hS7 ho7 hl7 hd7 hu67
            go_region_held3 (fun w' => w'.cell? ⟨w.heap.size, 0, none⟩ = some (.int .u64 id) ∧ w'.cell? ⟨w.heap.size, 1, none⟩ = some (.int .i64 ((seq + 1) % 256)) ∧ w'.cell? ⟨w.heap.size, 2, none⟩ = some (.int .i64 tries) ∧ w'.cell? ⟨w.heap.size + 1, 0, none⟩ = some (.slice d2 m2 c2) ∧ w'.cell? ⟨w.heap.size + 1, 1, none⟩ = some (.slice fb (fn - 1) fm) ∧ w'.cell? ⟨w.heap.size + 1, 2, none⟩ = some (.slice l3 n3 c3)) (go_keep) (fail)
            obtain ⟨W8, hW8⟩ : ∃ W8, ((W7.setCell ⟨w.heap.size + 3, 0, none⟩ (.int .u64 id)).setCell ⟨w.heap.size + 3, 1, none⟩ (.int .i64 ((seq + 1) % 256))).setCell ⟨w.heap.size + 3, 2, none⟩ (.int .i64 tries) = W8 := ⟨_, rfl⟩
            rw [hW8]
            obtain ⟨W9, hW9⟩ : ∃ W9, ((W8.setCell ⟨w.heap.size + 4, 0, none⟩ (.slice d2 m2 c2)).setCell ⟨w.heap.size + 4, 1, none⟩ (.slice fb (fn - 1) fm)).setCell ⟨w.heap.size + 4, 2, none⟩ (.slice l3 n3 c3) = W9 := ⟨_, rfl⟩
            rw [hW9]
            have hu8 : Upd (w.heap.size + 3) W7 W8 := hW8 ▸ upd3
            have r8 : RowAt W8 (w.heap.size + 3) 41 #[.int .u64 id, .int .i64 ((seq + 1) % 256), .int .i64 tries] := hW8 ▸ row3 HS7.out.z
            have y8 := HS7.out.y.upd hu8 (by omega)
            have hu9 : Upd (w.heap.size + 4) W8 W9 := hW9 ▸ upd3
            have r9 := r8.upd hu9 (by omega)
            have y9 : RowAt W9 (w.heap.size + 4) 44 #[.slice d2 m2 c2, .slice fb (fn - 1) fm, .slice l3 n3 c3] := hW9 ▸ row3 y8
            have b9 := below_of_upd (below_of_upd HS7.out.below hu8 (by omega)) hu9 (by omega)
            have d9 := (HD7.out.upd hu8 (by omega) (by omega)).upd hu9 (by omega) (by omega)
            have o9 := own_upd (own_upd HO7.out HS7.out.z (by decide) hu8) y8 (by decide) hu9
            have l9 := own_upd (own_upd HL7.out HS7.out.z (by decide) hu8) y8 (by decide) hu9
            clear hW8 hW9 hu8 r8 y8 hu9 x1 x2 x3 x4 x5 x6 y1 y2 y3 y4 y5 y6 z1 z2 z3 z4 z5 z6 v1 v2 v3 v4 v5 v6
            obtain ⟨x1, x2, x3, x4, x5, x6⟩ := row_facts r9
            obtain ⟨y1, y2, y3, y4, y5, y6⟩ := row_facts y9
            have HB9 := Lib.hid (Below.drew b9)
            have HD9 := Lib.hid (DevsOut.run d9 (Below.drew (Below.refl _ _)))
            have HO9 := Lib.hid (own_run o9 (Below.drew (Below.refl _ _)))
            have HL9 := Lib.hid (own_run l9 (Below.drew (Below.refl _ _)))
            obtain ⟨ma, mn, mc, rfl⟩ := own_slice o9
            clear r9 y9 b9 d9 o9 l9
            go_wp2
            have hHD : (heardM H).length ≤ 140737488351232 := by
              have h1 : (heardM H).length ≤ H.length := List.length_filterMap_le _ _
              omega
            have hms := own_msgs HO9.out hHD
            have hst := strs_of HL9.out rfl (by
              show (lateW f (if f = 1 then [] else A.map txtM)).length ≤ _
              have h1 : (lateW f (if f = 1 then [] else A.map txtM)).length ≤ 64 := by
                have h2 := txts_late f A
                rw [HTE.out] at h2
                rw [← h2]
                split
                · exact hTl
                · exact Nat.zero_le _
              omega)
            have hnl3 := nilone_own HL9.out
            have hfl9 : Fresh w (.slice l3 n3 c3) := fun g hg => by have := (HL9.out.lt g hg).1; omega
            have hfm9 : Fresh w (.slice ma mn mc) := fun g hg => by have := (HO9.out.lt g hg).1; have := HS5.out.size; omega
            have hse : sendW ⟨id, seq, tries⟩ ⟨dst, kind, par, dat⟩ ⟨devs, faults, late⟩ = ⟨D, faults.tail, lateW f (if f = 1 then [] else A.map txtM)⟩ := by
              unfold sendW textsW
              rw [HF.out]
              simp only [ofM]
              rw [HDE.out, HAE.out]
            have hhe : hearW ⟨id, seq, tries⟩ ⟨dst, kind, par, dat⟩ ⟨devs, faults, late⟩ = heardM H := by
              unfold hearW textsW
              rw [HF.out]
              simp only [ofM]
              rw [HAE.out, ← HHH.out]
            rw [hse, hhe]
            refine bodyPost_ret (v := .tuple #[.agg #[.int .u64 id, .int .i64 ((seq + 1) % 256), .int .i64 tries], .agg #[.slice d2 m2 c2, .slice fb (fn - 1) fm, .slice l3 n3 c3], .slice ma mn mc]) ?_ rfl ⟨d2, fb, l3, ma, m2, c2, fn - 1, fm, n3, c3, mn, mc, rfl, ⟨⟨HD9.out.1, (HIN.out w HH.out.r.faults).run HB9.out, hst⟩, hnl3, HRO.out⟩, hms, HB9.out, HFR2.out, HIN.out, hfl9, hfm9⟩
            simp [results, Tryz.results72, go_sem, *]
end Go.Proofs.YtpkhcehddfmhpaaGreat
