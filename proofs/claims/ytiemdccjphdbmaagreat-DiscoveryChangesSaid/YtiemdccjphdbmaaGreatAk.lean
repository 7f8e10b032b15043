/-
  Find: the program.
  Lists of identities compared: the library's.
  The examples of the chapter on discovery.
  The reference's devices of a list: chapter 48's law.
-/
import Derived.Test.YtiemdccjphdbmaaGreatSf
import Derived.Test.YtiemdccjphdbmaaGreatSk
import Derived.Test.YtiemdccjphdbmaaGreatBusX
import Derived.Test.YtiemdccjphdbmaaGreatSame
namespace Go.Proofs.YtiemdccjphdbmaaGreat
open Go.RowKit

/-- All devices are unmuted. -/
def unmS (src : Int) (l : List Dev) : SSt := orderS src (startS l 0) 3 281474976710655
def findE (l : List Dev) (src : Int) : Int := beginE l src 0
def findU (l : List Dev) (src : Int) : SSt := if findE l src = 0 then searchS src 48 1 281474976710654 (unmS src l) else zeroS

theorem all_in : isId 1 = true ∧ isId 281474976710654 = true ∧ (1 : Int) ≤ 281474976710654 ∧ (281474976710654 : Int) - 1 < 2 ^ 48 := by decide
theorem unm_chk {l : List Dev} {src seq : Int} (h : Sok src (startS l seq)) : chk (ordM src (startS l seq).seq 3 281474976710655) = 0 := ord_chk h.id h.q0 h.q1 (.inr rfl) (.inr rfl)

set_option maxHeartbeats 4000000 in
set_option maxRecDepth 100000 in
theorem dfind_any (v : Value) (l : List Dev) (src : Int) (w : World) (hv : DevsAt w v l) :
    Calls Tryz.prog 20 #[v, .int .u64 src] w (FindPost (findE l src) (findU l src) w) := by
  have hz : (w.alloc (.cells #[.slice none 0 0, .int .i64 0] 32)).heap.size = w.heap.size + 1 := by simp
  have hv' := hv.alloc (.cells #[.slice none 0 0, .int .i64 0] 32)
  have C := Lib.hid (begun_any v l src 0 _ hv')
  have hzr : RowAt (w.alloc (.cells #[.slice none 0 0, .int .i64 0] 32)) w.heap.size 32 #[.slice none 0 0, .int .i64 0] := RowAt.new _ _ _
  obtain ⟨n, hn⟩ : ∃ n, beginE l src 0 = n := ⟨_, rfl⟩
  rw [hn] at C
  have HN := Lib.hid hn
  have HB0 := Lib.hid ((Below.refl w.heap.size w).alloc (Nat.le_refl _) (.cells #[.slice none 0 0, .int .i64 0] 32))
  have HZR := Lib.hid hzr
  clear hv hv' hn hzr
  go_enter Tryz.func20, Tryz.ntmps20
  go_wp2_with fail
  refine C.out.mono ?_
  rintro e w1 ⟨hb1, ⟨hn0, rfl⟩ | ⟨rfl, s, m, rfl, hs0, hm0, hsat⟩⟩
  · have HE := Lib.hid (show findE l src = n from HN.out)
    have HU := Lib.hid (show findU l src = zeroS by rw [findU, if_neg (by rw [HE.out]; exact hn0)])
    have e9 : (n != 0) = true := by simpa using hn0
    have hr1 := HZR.out.run hb1
    obtain ⟨x1, x2, x3, x4, x5, x6⟩ := row_facts hr1
    have HB := Lib.hid (below_run HB0.out hb1)
    clear hn0 hr1 hb1
    go_wp2
    rw [HE.out, HU.out]
    refine bodyPost_ret (v := .tuple #[.slice none 0 0, .agg #[.slice none 0 0, .int .i64 0], .int .i64 n]) ?_ rfl (find_bad (by have := HB.out; (repeat' (first | (with_reducible exact Below.refl _ _) | (with_reducible assumption) | (with_reducible refine below_run ?_ (by assumption)) | (with_reducible refine below_of_upd ?_ (by assumption) ?_) | (with_reducible refine below_drewN ?_ _) | (with_reducible refine Below.drew ?_) | (with_reducible refine below_seven ?_ ?_) | (with_reducible refine below_six ?_ ?_) | (with_reducible refine below_one ?_ ?_) | (with_reducible refine Below.alloc ?_ ?_ _) | (with_reducible refine below_after ?_ ?_ (by assumption)) | (show _ ≤ _; first | omega | (simp; done) | (simp; omega))))))
    simp [results, Tryz.results20, go_sem, *]
  · rw [hz] at hs0 hm0 hsat
    have hr1 := HZR.out.run hb1
    have HE := Lib.hid (show findE l src = 0 from HN.out)
    have HU := Lib.hid (show findU l src = searchS src 48 1 281474976710654 (unmS src l) by rw [findU, if_pos HE.out])
    have hok := start_ok HN.out
    have CO := Lib.hid (order_any (w.heap.size + 1) (w.heap.size + 1) s m src (startS l 0) [] 3 281474976710655 w1 hsat hs0 hok.devs (unm_chk hok) hok.q0 hok.q1)
    have hok1 : Sok src (unmS src l) := order_ok hok (.inr rfl)
    have CA := Lib.hid (fun (w2 : World) (hz : w.heap.size + 1 ≤ w2.heap.size) (h : SAt w2 (w.heap.size + 1) s m src (unmS src l) []) => all_any (w.heap.size + 1) (w.heap.size + 1) s m src hs0 hm0 (Nat.le_refl _) 48 1 281474976710654 (unmS src l) w2 hz all_in.1 all_in.2.1 all_in.2.2.1 all_in.2.2.2 hok1 h)
    have HSO := Lib.hid (search_ok 48 1 281474976710654 (unmS src l) all_in.1 all_in.2.1 all_in.2.2.1 hok1)
    obtain ⟨t1, ht1⟩ : ∃ t, unmS src l = t := ⟨_, rfl⟩
    have ht1' : orderS src (startS l 0) 3 281474976710655 = t1 := ht1
    rw [ht1'] at CO
    rw [ht1] at CA HSO HU
    obtain ⟨u, hu⟩ : ∃ u, searchS src 48 1 281474976710654 t1 = u := ⟨_, rfl⟩
    rw [hu] at CA HSO HU
    have HB := Lib.hid (below_run HB0.out hb1)
    have HR1 := Lib.hid hr1
    have HB1s := Lib.hid (show w.heap.size + 1 ≤ w1.heap.size by have := hb1.size; simp at this; omega)
    clear hsat hb1 hr1 hok hok1 ht1 ht1' hu
    go_wp2_with fail
    refine CO.out.mono ?_
    rintro e w2 ⟨rfl, hs1, hst1⟩
    have HST1 := Lib.hid hst1.weak
    have HS1 := Lib.hid hs1
    clear hst1 hs1 CO
    go_wp2_with fail
    refine (CA.out w2 (by have := HST1.out.below.size; have := HB1s.out; omega) HS1.out).mono ?_
    rintro e w3 ⟨rfl, hs2, hst2⟩
    have hst := stir_trans HST1.out hst2
    have hr2 := RowAt.below HR1.out hst.below (by omega)
    have hb2 : Below w.heap.size w w3 := HB.out.trans (hst.below.mono (by omega))
    obtain ⟨⟨vd, vf, hr, hdv, hown, hty, hnil⟩, hs⟩ := hs2
    obtain ⟨fa, fn, fc, rfl⟩ : ∃ a k c, vf = .slice a k c := by
      rcases hown.2 with ⟨rfl, _⟩ | ⟨g, cap, cur, rfl, _⟩
      · exact ⟨_, _, _, rfl⟩
      · exact ⟨_, _, _, rfl⟩
    have c0 : w3.cell? ⟨s, 0, none⟩ = some vd := cell_fact hr 0
    have c4 : w3.cell? ⟨s, 4, none⟩ = some (.slice fa fn fc) := cell_fact hr 4
    have c5 : w3.cell? ⟨s, 5, none⟩ = some (.int .i64 (IntKind.i64.wrap u.msgs)) := cell_fact hr 5
    obtain ⟨N, hN⟩ : ∃ N, IntKind.i64.wrap (u.msgs : Int) = N := ⟨_, rfl⟩
    rw [hN] at c5
    obtain ⟨y1, y2, y3, y4, y5, y6⟩ := row_facts hr2
    have hsz := lt_of_block hr
    (try (have hn : ¬ s = w.heap.size := (by omega); have hn' : ¬ w.heap.size = s := (by omega)))
    have HR2 := Lib.hid hr2
    have P := Lib.hid (parts_two (u1 := .slice fa fn fc) (u2 := .int .i64 N) hr2 hdv hty hown)
    have HB2 := Lib.hid hb2
    have HNN := Lib.hid hN
    clear hr hdv hown hty hnil hs hst hst2 hr2 hb2 hN CA HST1 HS1
    go_wp2_with fail
    go_region_held3 (fun w' => w'.cell? ⟨s, 0, none⟩ = some vd ∧ w'.cell? ⟨s, 4, none⟩ = some (.slice fa fn fc) ∧ w'.cell? ⟨s, 5, none⟩ = some (.int .i64 N)) (go_keep) (fail)
    all_goals go_wp2
    all_goals
      rw [HE.out, HU.out]
      obtain ⟨p1, p2⟩ := P.out
      have hr3 : RowAt ((w3.setCell ⟨w.heap.size, 0, none⟩ (.slice fa fn fc)).setCell ⟨w.heap.size, 1, none⟩ (.int .i64 N)) w.heap.size 32 #[.slice fa fn fc, .int .i64 N] := RowAt.set (RowAt.set HR2.out rfl) rfl
      have hfew := HSO.out.few
      refine bodyPost_ret (v := .tuple #[vd, .agg #[.slice fa fn fc, .int .i64 N], .int .i64 0]) ?_ rfl ⟨_, _, by rw [HNN.out], p1, own_ids p2 rfl (by omega), Below.drew (below_one (below_one HB2.out (Nat.le_refl _)) (Nat.le_refl _))⟩
      simp [results, Tryz.results20, go_sem, cell_fact hr3]
end Go.Proofs.YtiemdccjphdbmaaGreat

namespace Go.Proofs.YtiemdccjphdbmaaGreat
open Go.RowKit

theorem IdsAt.alloc {w : World} {v : Value} {l : List Int} (h : IdsAt w v l) (o : Obj) : IdsAt (w.alloc o) v l := h.run ((Below.refl _ _).alloc (Nat.le_refl _) o)
theorem IdsAt.drew {w : World} {v : Value} {l : List Int} (h : IdsAt w v l) : IdsAt w.drew v l := h
theorem DevsAt.drew {w : World} {v : Value} {l : List Dev} (h : DevsAt w v l) : DevsAt w.drew v l := h

set_option maxHeartbeats 1000000 in
set_option maxRecDepth 100000 in
theorem equal_same (v u : Value) (l : List Int) (w : World) (hv : IdsAt w v l) (hu : IdsAt w u l) :
    Calls Tryz.prog 29 #[v, u] w fun e w' => e = .returned (.bool true) ∧ Below w.heap.size w w' := by
  rcases hv with ⟨h0, a, cap, rfl⟩ | ⟨h0, h1, b, off, cap, rfl, hlt, hc⟩
  · have hl : l = [] := List.eq_nil_of_length_eq_zero h0
    subst hl
    rcases hu with ⟨_, a', cap', rfl⟩ | ⟨g0, _⟩
    · go_enter Tryz.func29, Tryz.ntmps29
      go_wp2
      refine wp_loop_rounds 1 ?_
      rw [rounds_succ]
      go_wp2
      go_ret
      exact ⟨rfl, by (repeat' (first | (with_reducible exact Below.refl _ _) | (with_reducible assumption) | (with_reducible refine below_run ?_ (by assumption)) | (with_reducible refine below_of_upd ?_ (by assumption) ?_) | (with_reducible refine below_drewN ?_ _) | (with_reducible refine Below.drew ?_) | (with_reducible refine below_seven ?_ ?_) | (with_reducible refine below_six ?_ ?_) | (with_reducible refine below_one ?_ ?_) | (with_reducible refine Below.alloc ?_ ?_ _) | (with_reducible refine below_after ?_ ?_ (by assumption)) | (show _ ≤ _; first | omega | (simp; done) | (simp; omega))))⟩
    · simp at g0
  · rcases hu with ⟨g0, _⟩ | ⟨_, _, b', off', cap', rfl, hlt', hc'⟩
    · omega
    · have h3 : (l.length : Int) ≤ 140737488351232 := by omega
      have h4 : (0 : Int) < (l.length : Int) := by omega
      have h5 : ((l.length : Int) != (l.length : Int)) = false := by simp
      go_enter Tryz.func29, Tryz.ntmps29
      go_wp2
      go_loopw [5, 13] (fun _ i wr => ∃ k : Nat, k ≤ l.length ∧ i = .int .i64 k ∧ Below w.heap.size w wr) (fun _ i _ => l.length - (intOf i).toNat)
      case atStart => exact ⟨0, Nat.zero_le _, rfl, Below.refl _ _⟩
      case round =>
        obtain ⟨k, hk, rfl, hb0⟩ := hrel
        by_cases hlt2 : k < l.length
        · have hlt3 : (k : Int) < (l.length : Int) := by omega
          have hk0 : (0 : Int) ≤ (k : Int) := by omega
          have hw1 : ∀ j, j < l.length * 1 → wr.cell? ⟨b, off + j, none⟩ = u64C l j := fun j hj => (hb0.cell (p := ⟨b, off + j, none⟩) hlt).trans (hc j hj)
          have hw2 : ∀ j, j < l.length * 1 → wr.cell? ⟨b', off' + j, none⟩ = u64C l j := fun j hj => (hb0.cell (p := ⟨b', off' + j, none⟩) hlt').trans (hc' j hj)
          obtain ⟨y, hy, e0⟩ := id_cell hw1 k hlt2
          obtain ⟨y', hy', e0'⟩ := id_cell hw2 k hlt2
          rw [hy] at hy'
          simp only [Option.some.injEq] at hy'
          subst hy'
          clear hc hc' hw1 hw2 hy
          go_wp2
          go_quiet (fail)
          go_wp2
          go_roundw
          case rel => exact ⟨k + 1, by omega, by go_num, by (repeat' (first | (with_reducible exact Below.refl _ _) | (with_reducible assumption) | (with_reducible refine below_run ?_ (by assumption)) | (with_reducible refine below_of_upd ?_ (by assumption) ?_) | (with_reducible refine below_drewN ?_ _) | (with_reducible refine Below.drew ?_) | (with_reducible refine below_seven ?_ ?_) | (with_reducible refine below_six ?_ ?_) | (with_reducible refine below_one ?_ ?_) | (with_reducible refine Below.alloc ?_ ?_ _) | (with_reducible refine below_after ?_ ?_ (by assumption)) | (show _ ≤ _; first | omega | (simp; done) | (simp; omega))))⟩
          case measure => simp [intOf]; omega
        · obtain rfl : k = l.length := by omega
          go_wp2
          go_ret
          exact ⟨rfl, hb0⟩
end Go.Proofs.YtiemdccjphdbmaaGreat

namespace Go.Proofs.YtiemdccjphdbmaaGreat
open Go.RowKit

def dv (x : Int) : Dev := ⟨x, 1, 1, ⟨#[]⟩, 0, false, false⟩

theorem ex1_e : findE [] 9 = 0 := by kernel_rfl
theorem ex1_f : (findU [] 9).found = [] := by kernel_rfl
theorem ex1_m : (findU [] 9).msgs = 2 := by kernel_rfl
theorem ex2_e : findE [dv 77] 9 = 0 := by kernel_rfl
theorem ex2_f : (findU [dv 77] 9).found = [77] := by kernel_rfl
theorem ex2_m : (findU [dv 77] 9).msgs = 4 := by kernel_rfl
theorem ex2_d : (findU [dv 77] 9).devs.map (·.mu) = [true] := by kernel_rfl
theorem ex3_e : findE [dv 281474976710654, dv 1] 9 = 0 := by kernel_rfl
theorem ex3_f : (findU [dv 281474976710654, dv 1] 9).found = [1, 281474976710654] := by kernel_rfl
theorem ex3_m : (findU [dv 281474976710654, dv 1] 9).msgs = 8 := by kernel_rfl

theorem devs_row {w : World} {b T : Nat} {cs : Array Value} {l : List Dev} (hr : RowAt w b T cs) (hcs : cs.toList = devsL l) (h0 : 0 < l.length) (h1 : l.length ≤ 1000) : DevsAt w (.slice (some ⟨b, 0, none⟩) l.length l.length) l :=
  .inr ⟨h0, by omega, b, 0, _, rfl, lt_of_block hr, fun j _ => by rw [Nat.zero_add, cell_fact hr, ← Array.getElem?_toList, hcs, devsL_get]⟩
theorem ids_row {w : World} {b T : Nat} {cs : Array Value} {l : List Int} (hr : RowAt w b T cs) (hcs : cs.toList = u64L l) (h0 : 0 < l.length) (h1 : l.length ≤ 1000) : IdsAt w (.slice (some ⟨b, 0, none⟩) l.length l.length) l :=
  .inr ⟨h0, by omega, b, 0, _, rfl, lt_of_block hr, fun j _ => by rw [Nat.zero_add, cell_fact hr, ← Array.getElem?_toList, hcs, u64L_get]⟩

theorem aw_find1 (w : World) : Calls Tryz.prog 20 #[.slice none 0 0, .int .u64 9] w fun e w' => ∃ v a c, e = .returned (.tuple #[v, .agg #[.slice a 0 c, .int .i64 2], .int .i64 0]) ∧ Below w.heap.size w w' := by
  refine (dfind_any _ [] 9 w (.inl ⟨rfl, _, _, rfl⟩)).mono ?_
  rintro e w' ⟨v, vf, rfl, -, hf, hb⟩
  rw [ex1_f] at hf
  rw [ex1_m, ex1_e]
  rcases hf with ⟨_, a, c, rfl⟩ | ⟨h, _⟩
  · exact ⟨v, a, c, rfl, hb⟩
  · cases h
theorem aw_find2 (v : Value) (w : World) (hv : DevsAt w v [dv 77]) : Calls Tryz.prog 20 #[v, .int .u64 9] w fun e w' => ∃ b off cap vf, e = .returned (.tuple #[.slice (some ⟨b, off, none⟩) 1 cap, .agg #[vf, .int .i64 4], .int .i64 0]) ∧ b < w'.heap.size ∧ w'.cell? ⟨b, off + 5, none⟩ = some (.bool true) ∧ IdsAt w' vf [77] ∧ Below w.heap.size w w' := by
  refine (dfind_any _ _ 9 w hv).mono ?_
  rintro e w' ⟨v', vf, rfl, hd, hf, hb⟩
  rw [ex2_f] at hf
  rw [ex2_m, ex2_e]
  have hm := ex2_d
  generalize (findU [dv 77] 9).devs = l at hd hm
  obtain ⟨d, rfl⟩ : ∃ d, l = [d] := by
    have h1 : l.length = 1 := by simpa using congrArg List.length hm
    exact List.length_eq_one_iff.1 h1
  have hmu : d.mu = true := by simpa using hm
  rcases hd with ⟨h, _⟩ | ⟨_, _, b, off, cap, rfl, hlt, hc⟩
  · cases h
  · refine ⟨b, off, cap, vf, rfl, hlt, ?_, hf, hb⟩
    rw [hc 5 (by simp)]
    simp [devsC, devA, hmu]
theorem aw_find3 (v : Value) (w : World) (hv : DevsAt w v [dv 281474976710654, dv 1]) : Calls Tryz.prog 20 #[v, .int .u64 9] w fun e w' => ∃ v' vf, e = .returned (.tuple #[v', .agg #[vf, .int .i64 8], .int .i64 0]) ∧ IdsAt w' vf [1, 281474976710654] ∧ Below w.heap.size w w' := by
  refine (dfind_any _ _ 9 w hv).mono ?_
  rintro e w' ⟨v', vf, rfl, -, hf, hb⟩
  rw [ex3_f] at hf
  rw [ex3_m, ex3_e]
  exact ⟨v', vf, rfl, hf, hb⟩

theorem device_any (x : Int) (w : World) : Calls Tryz.prog 36 #[.int .u64 x] w fun e w' => e = .returned (.agg #[.int .u64 x, .int .i64 1, .int .i64 1, .string ⟨#[]⟩, .int .i64 0, .bool false, .bool false]) ∧ Below w.heap.size w w' := by
  go_enter Tryz.func36, Tryz.ntmps36
  go_wp2
  refine bodyPost_ret (v := .agg #[.int .u64 x, .int .i64 1, .int .i64 1, .string ⟨#[]⟩, .int .i64 0, .bool false, .bool false]) ?_ rfl ⟨rfl, by (repeat' (first | (with_reducible exact Below.refl _ _) | (with_reducible assumption) | (with_reducible refine below_run ?_ (by assumption)) | (with_reducible refine below_of_upd ?_ (by assumption) ?_) | (with_reducible refine below_drewN ?_ _) | (with_reducible refine Below.drew ?_) | (with_reducible refine below_seven ?_ ?_) | (with_reducible refine below_six ?_ ?_) | (with_reducible refine below_one ?_ ?_) | (with_reducible refine Below.alloc ?_ ?_ _) | (with_reducible refine below_after ?_ ?_ (by assumption)) | (show _ ≤ _; first | omega | (simp; done) | (simp; omega))))⟩
  simp [results, Tryz.results36, go_sem]

set_option maxHeartbeats 4000000 in
set_option maxRecDepth 100000 in
theorem awake48_any (w : World) : Calls Tryz.prog 10 #[] w fun e w' => e = .returned (.bool true) ∧ Below w.heap.size w w' := by
  have CE := Lib.hid (@equal_same)
  go_enter Tryz.func10, Tryz.ntmps10
  go_wp2_with fail
  refine (aw_find1 _).mono ?_
  rintro e w1 ⟨v1, a1, c1, rfl, hb1⟩
  go_upto_region 2 with fail
  have R1 : RowAt (w1.alloc (.cells #[.slice a1 0 c1, .int .i64 2] 32)) w1.heap.size 32 #[.slice a1 0 c1, .int .i64 2] := RowAt.new _ _ _
  have hk1 := hb1.size
  have B1 : Below w.heap.size w (w1.alloc (.cells #[.slice a1 0 c1, .int .i64 2] 32)) := by (repeat' (first | (with_reducible exact Below.refl _ _) | (with_reducible assumption) | (with_reducible refine below_run ?_ (by assumption)) | (with_reducible refine below_of_upd ?_ (by assumption) ?_) | (with_reducible refine below_drewN ?_ _) | (with_reducible refine Below.drew ?_) | (with_reducible refine below_seven ?_ ?_) | (with_reducible refine below_six ?_ ?_) | (with_reducible refine below_one ?_ ?_) | (with_reducible refine Below.alloc ?_ ?_ _) | (with_reducible refine below_after ?_ ?_ (by assumption)) | (show _ ≤ _; first | omega | (simp; done) | (simp; omega))))
  generalize (w1.alloc (.cells #[.slice a1 0 c1, .int .i64 2] 32)) = x1 at R1 B1 ⊢
  generalize w1.heap.size = k1 at R1 hk1 ⊢
  clear hb1
  go_wp2_with fail
  refine (device_any 77 _).mono ?_
  rintro e w2 ⟨rfl, hb2⟩
  have D2 : DevsAt (w2.alloc (.cells #[.int .u64 77, .int .i64 1, .int .i64 1, .string ⟨#[]⟩, .int .i64 0, .bool false, .bool false] 66)) (.slice (some ⟨w2.heap.size, 0, none⟩) 1 1) [dv 77] := devs_row (RowAt.new _ _ _) rfl (by decide) (by decide)
  have R2 := (R1.run hb2).alloc (.cells #[.int .u64 77, .int .i64 1, .int .i64 1, .string ⟨#[]⟩, .int .i64 0, .bool false, .bool false] 66)
  have B2 := (below_run B1 hb2).alloc (by have := (below_run B1 hb2).size; omega) (.cells #[.int .u64 77, .int .i64 1, .int .i64 1, .string ⟨#[]⟩, .int .i64 0, .bool false, .bool false] 66)
  clear hb2 R1 B1
  go_wp2_with fail
  refine (aw_find2 _ _ D2).mono ?_
  rintro e w3 ⟨b3, o3, c3, vf3, rfl, hlt3, hc3, hi3, hb3⟩
  have R3 := R2.run hb3
  have B3 := below_run B2 hb3
  clear D2 R2 B2 hb3
  obtain ⟨fa, fn, fc, rfl⟩ := slice_of hi3
  go_upto_region 3 with fail
  have hne3 : ¬ k1 = w3.heap.size := by have := lt_of_block R3; omega
  have hne3b : ¬ b3 = w3.heap.size := by omega
  have R4 : RowAt (w3.alloc (.cells #[.slice fa fn fc, .int .i64 4] 32)) w3.heap.size 32 #[.slice fa fn fc, .int .i64 4] := RowAt.new _ _ _
  have B4 : Below w.heap.size w (w3.alloc (.cells #[.slice fa fn fc, .int .i64 4] 32)) := by have := B3.size; (repeat' (first | (with_reducible exact Below.refl _ _) | (with_reducible assumption) | (with_reducible refine below_run ?_ (by assumption)) | (with_reducible refine below_of_upd ?_ (by assumption) ?_) | (with_reducible refine below_drewN ?_ _) | (with_reducible refine Below.drew ?_) | (with_reducible refine below_seven ?_ ?_) | (with_reducible refine below_six ?_ ?_) | (with_reducible refine below_one ?_ ?_) | (with_reducible refine Below.alloc ?_ ?_ _) | (with_reducible refine below_after ?_ ?_ (by assumption)) | (show _ ≤ _; first | omega | (simp; done) | (simp; omega))))
  have hbb : Below w3.heap.size w3 (w3.alloc (.cells #[.slice fa fn fc, .int .i64 4] 32)) := (Below.refl _ _).alloc (Nat.le_refl _) _
  have R3' := R3.run hbb
  have I4 := hi3.run hbb
  have hc4 := (hbb.cell (p := ⟨b3, o3 + 5, none⟩) hlt3).trans hc3
  have hk3 := B3.size
  have hlt4 := hbb.size
  generalize (w3.alloc (.cells #[.slice fa fn fc, .int .i64 4] 32)) = x4 at R4 B4 R3' I4 hc4 hlt4 ⊢
  have hbk : b3 < x4.heap.size := by omega
  generalize w3.heap.size = k3 at R4 hne3 hne3b ⊢
  clear hbb hi3 hc3 hk3 hlt4 R3 B3 hlt3
  go_wp2_with fail
  refine (device_any 281474976710654 _).mono ?_
  rintro e w4 ⟨rfl, hb4⟩
  go_wp2_with fail
  refine (device_any 1 _).mono ?_
  rintro e w5 ⟨rfl, hb5⟩
  have hb45 := below_run hb4 hb5
  have D5 : DevsAt (w5.alloc (.cells #[.int .u64 281474976710654, .int .i64 1, .int .i64 1, .string ⟨#[]⟩, .int .i64 0, .bool false, .bool false, .int .u64 1, .int .i64 1, .int .i64 1, .string ⟨#[]⟩, .int .i64 0, .bool false, .bool false] 66)) (.slice (some ⟨w5.heap.size, 0, none⟩) 2 2) [dv 281474976710654, dv 1] := devs_row (RowAt.new _ _ _) rfl (by decide) (by decide)
  have hb6 := hb45.alloc hb45.size (.cells #[.int .u64 281474976710654, .int .i64 1, .int .i64 1, .string ⟨#[]⟩, .int .i64 0, .bool false, .bool false, .int .u64 1, .int .i64 1, .int .i64 1, .string ⟨#[]⟩, .int .i64 0, .bool false, .bool false] 66)
  clear hb4 hb5 hb45
  go_wp2_with fail
  refine (aw_find3 _ _ D5).mono ?_
  rintro e w6 ⟨v6, vf6, rfl, hi6, hb7⟩
  have hb8 := below_run hb6 hb7
  have S1 := R3'.run hb8
  have S3 := R4.run hb8
  have I6 := I4.run hb8
  have hc6 := (hb8.cell (p := ⟨b3, o3 + 5, none⟩) hbk).trans hc4
  have hbk6 : b3 < w6.heap.size := Nat.lt_of_lt_of_le hbk hb8.size
  have B6 := below_run B4 hb8
  clear D5 hb6 hb7 hb8 R3' R4 I4 hc4 B4 hbk
  obtain ⟨ga, gn, gc, rfl⟩ := slice_of hi6
  go_upto_region 4 with fail
  have hk6 := B6.size
  have hl1 := lt_of_block S1
  have hl3 := lt_of_block S3
  have T6 : RowAt (w6.alloc (.cells #[.slice ga gn gc, .int .i64 8] 32)) w6.heap.size 32 #[.slice ga gn gc, .int .i64 8] := RowAt.new _ _ _
  have B7 : Below w.heap.size w (w6.alloc (.cells #[.slice ga gn gc, .int .i64 8] 32)) := by (repeat' (first | (with_reducible exact Below.refl _ _) | (with_reducible assumption) | (with_reducible refine below_run ?_ (by assumption)) | (with_reducible refine below_of_upd ?_ (by assumption) ?_) | (with_reducible refine below_drewN ?_ _) | (with_reducible refine Below.drew ?_) | (with_reducible refine below_seven ?_ ?_) | (with_reducible refine below_six ?_ ?_) | (with_reducible refine below_one ?_ ?_) | (with_reducible refine Below.alloc ?_ ?_ _) | (with_reducible refine below_after ?_ ?_ (by assumption)) | (show _ ≤ _; first | omega | (simp; done) | (simp; omega))))
  have hbb : Below w6.heap.size w6 (w6.alloc (.cells #[.slice ga gn gc, .int .i64 8] 32)) := (Below.refl _ _).alloc (Nat.le_refl _) _
  have T1 := S1.run hbb
  have T3 := S3.run hbb
  have J3 := I6.run hbb
  have J6 := hi6.run hbb
  have hc7 := (hbb.cell (p := ⟨b3, o3 + 5, none⟩) hbk6).trans hc6
  generalize (w6.alloc (.cells #[.slice ga gn gc, .int .i64 8] 32)) = x7 at T6 B7 T1 T3 J3 J6 hc7 ⊢
  generalize w6.heap.size = k6 at T6 hl1 hl3 ⊢
  clear hbb S1 S3 I6 hi6 hc6 B6 hk6 hbk6
  obtain ⟨p1, p2, p3, p4, p5, p6⟩ := row_facts T1
  obtain ⟨q1, q2, q3, q4, q5, q6⟩ := row_facts T3
  obtain ⟨r1, r2, r3, r4, r5, r6⟩ := row_facts T6
  have HT1 := Lib.hid T1
  have HT3 := Lib.hid T3
  have HT6 := Lib.hid T6
  have HJ3 := Lib.hid J3
  have HJ6 := Lib.hid J6
  have HB7 := Lib.hid B7
  clear T1 T3 T6 J3 J6 B7
  go_upto_region 6 with fail
  go_wp2_with fail
  have I1 : IdsAt (x7.alloc (.cells #[.int .u64 77] 23)) (.slice (some ⟨x7.heap.size, 0, none⟩) 1 1) [77] := ids_row (RowAt.new _ _ _) rfl (by decide) (by decide)
  have hba : Below x7.heap.size x7 (x7.alloc (.cells #[.int .u64 77] 23)) := by (repeat' (first | (with_reducible exact Below.refl _ _) | (with_reducible assumption) | (with_reducible refine below_run ?_ (by assumption)) | (with_reducible refine below_of_upd ?_ (by assumption) ?_) | (with_reducible refine below_drewN ?_ _) | (with_reducible refine Below.drew ?_) | (with_reducible refine below_seven ?_ ?_) | (with_reducible refine below_six ?_ ?_) | (with_reducible refine below_one ?_ ?_) | (with_reducible refine Below.alloc ?_ ?_ _) | (with_reducible refine below_after ?_ ?_ (by assumption)) | (show _ ≤ _; first | omega | (simp; done) | (simp; omega))))
  refine (CE.out _ _ [77] _ (HJ3.out.run hba) I1).mono ?_
  rintro e w8 ⟨rfl, hb8⟩
  have hb9 := below_run hba hb8
  have U6 := HT6.out.run hb9
  obtain ⟨s1, s2, s3, s4, s5, s6⟩ := row_facts U6
  have HU6 := Lib.hid U6
  have HJ8 := Lib.hid (HJ6.out.run hb9)
  have HB8 := Lib.hid (below_run HB7.out hb9)
  clear hb8 hb9 hba I1 U6
  go_wp2_with fail
  have I2 : IdsAt (w8.alloc (.cells #[.int .u64 1, .int .u64 281474976710654] 23)) (.slice (some ⟨w8.heap.size, 0, none⟩) 2 2) [1, 281474976710654] := ids_row (RowAt.new _ _ _) rfl (by decide) (by decide)
  have hba : Below w8.heap.size w8 (w8.alloc (.cells #[.int .u64 1, .int .u64 281474976710654] 23)) := by (repeat' (first | (with_reducible exact Below.refl _ _) | (with_reducible assumption) | (with_reducible refine below_run ?_ (by assumption)) | (with_reducible refine below_of_upd ?_ (by assumption) ?_) | (with_reducible refine below_drewN ?_ _) | (with_reducible refine Below.drew ?_) | (with_reducible refine below_seven ?_ ?_) | (with_reducible refine below_six ?_ ?_) | (with_reducible refine below_one ?_ ?_) | (with_reducible refine Below.alloc ?_ ?_ _) | (with_reducible refine below_after ?_ ?_ (by assumption)) | (show _ ≤ _; first | omega | (simp; done) | (simp; omega))))
  refine (CE.out _ _ [1, 281474976710654] _ (HJ8.out.run hba) I2).mono ?_
  rintro e w9 ⟨rfl, hb8⟩
  have hb9 := below_run hba hb8
  have V6 := HU6.out.run hb9
  obtain ⟨t1, t2, t3, t4, t5, t6⟩ := row_facts V6
  go_wp2
  go_ret
  exact ⟨rfl, below_run HB8.out hb9⟩
end Go.Proofs.YtiemdccjphdbmaaGreat

namespace Go.Proofs.YtiemdccjphdbmaaGreat
open Go.RowKit

set_option maxHeartbeats 2000000 in
set_option maxRecDepth 100000 in
theorem devices_any (v : Value) (l : List Dev) (w : World) (hv : DevsAt w v l) (hr : l.length * 56 ≤ 140737488351232) :
    Calls Tryz.prog 9 #[v] w fun e w' => ∃ v', e = .returned v' ∧ DevsAt w' v' l ∧ Below w.heap.size w w' := by
  obtain ⟨i0, hi, hz0, hz1, hz2⟩ := info_parts Tryz.info_rdev
  rcases hv with ⟨h0, a, cap, rfl⟩ | ⟨h0, h1, b, off, cap, rfl, hlt, hc⟩
  · have hl : l = [] := List.eq_nil_of_length_eq_zero h0
    subst hl
    go_enter Tryz.func9, Tryz.ntmps9
    go_wp2
    refine wp_loop_rounds 1 ?_
    rw [rounds_succ]
    go_wp2
    go_ret
    exact ⟨_, rfl, .inl ⟨rfl, _, _, rfl⟩, by (repeat' (first | (with_reducible exact Below.refl _ _) | (with_reducible assumption) | (with_reducible refine below_run ?_ (by assumption)) | (with_reducible refine below_of_upd ?_ (by assumption) ?_) | (with_reducible refine below_drewN ?_ _) | (with_reducible refine Below.drew ?_) | (with_reducible refine below_seven ?_ ?_) | (with_reducible refine below_six ?_ ?_) | (with_reducible refine below_one ?_ ?_) | (with_reducible refine Below.alloc ?_ ?_ _) | (with_reducible refine below_after ?_ ?_ (by assumption)) | (show _ ≤ _; first | omega | (simp; done) | (simp; omega))))⟩
  · have h3 : (l.length : Int) ≤ 140737488351232 := by omega
    have h4 : (0 : Int) < (l.length : Int) := by omega
    go_enter Tryz.func9, Tryz.ntmps9
    go_wp2
    go_loopw [3, 8] (fun v i wr => ∃ k : Nat, k ≤ l.length ∧ i = .int .i64 k ∧ wr.ownsRow w.heap.size 75 7 v k (devsL (l.take k)) ∧ Below w.heap.size w wr) (fun _ i _ => l.length - (intOf i).toNat)
    case atStart => exact ⟨0, Nat.zero_le _, rfl, World.ownsRow_nil _ _ _ _, Below.refl _ _⟩
    case round =>
      obtain ⟨k, hk, rfl, hown, hb0⟩ := hrel
      by_cases hlt2 : k < l.length
      · have hlt3 : (k : Int) < (l.length : Int) := by omega
        have hc' : ∀ j, j < l.length * 7 → wr.cell? ⟨b, off + j, none⟩ = devsC l j := fun j hj => (hb0.cell (p := ⟨b, off + j, none⟩) hlt).trans (hc j hj)
        obtain ⟨d, hd, e0, e1, e2, e3, e4, e5, e6⟩ := dev_cells hc' k hlt2
        have HD := Lib.hid hd
        have HT := Lib.hid (take_succ_some hd)
        have hsz := hb0.size
        clear hc hc' hd
        go_wp2_with (at_builtin; refine wpList_append_own _ rfl _ _ 27 rfl w.heap.size 75 i0 _ 7 56 Tryz.underlying27 hi hz0 hz1 hz2 rfl (by decide) _ _ _ rfl ((hown.alloc _).alloc _) ⟨wr.heap.size + 1, 0, none⟩ 1 1 (devA d).toList rfl rfl ?c1 (dev_ones d) ?c3 ?c4 ?c5 ?_)
        case c1 => exact dev_news (d := d) (RowAt.mk (by simp) rfl)
        case c3 => unfold maxLen; omega
        case c4 => omega
        case c5 => simp; omega
        · intro v' w1 hown' hgrow _
          have hd2 : devsL (l.take (k + 1)) = devsL (l.take k) ++ [Value.int IntKind.u64 d.id, Value.int IntKind.i64 d.ft, Value.int IntKind.i64 d.ad, Value.string d.lb, Value.int IntKind.i64 d.hr, Value.bool d.mu, Value.bool d.idf] := by
            rw [HT.out, devsL_append]; rfl
          have HD2 := Lib.hid hd2
          have hb1 := below_grown (((hb0.alloc (by omega) _).alloc (by simp; omega) _)) ((hown.alloc _).alloc _) (Nat.le_refl _) hgrow (by simp; omega)
          clear hgrow hown hd2
          go_wp2
          go_roundw
          case rel => exact ⟨k + 1, by omega, by go_num, by rw [HD2.out]; exact hown', hb1⟩
          case measure => simp [intOf]; omega
      · obtain rfl : k = l.length := by omega
        go_wp2
        go_ret
        rw [List.take_length] at hown
        exact ⟨_, rfl, own_devs hown (by omega), hb0⟩

end Go.Proofs.YtiemdccjphdbmaaGreat
