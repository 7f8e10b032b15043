/-
  Find: the program.
  Lists of identities compared: the library's.
  The examples of the chapter on discovery.
-/
import Derived.Test.YtpkhcehddfmhpaaGreatSf
import Derived.Test.YtpkhcehddfmhpaaGreatSk
import Derived.Test.YtpkhcehddfmhpaaGreatBusX
namespace Go.Proofs.YtpkhcehddfmhpaaGreat
open Go.RowKit

/-- All devices are unmuted. -/
def unmS (src : Int) (l : List Dev) : SSt := orderS src (startS l 0) 3 281474976710655
def findE (l : List Dev) (src : Int) : Int := beginE l src 0
def findU (l : List Dev) (src : Int) : SSt := if findE l src = 0 then searchS src 48 1 281474976710654 (unmS src l) else zeroS

theorem all_in : isId 1 = true ∧ isId 281474976710654 = true ∧ (1 : Int) ≤ 281474976710654 ∧ (281474976710654 : Int) - 1 < 2 ^ 48 := by decide
theorem unm_chk {l : List Dev} {src seq : Int} (h : Sok src (startS l seq)) : chk (ordM src (startS l seq).seq 3 281474976710655) = 0 := ord_chk h.id h.q0 h.q1 (.inr rfl) (.inr rfl)

set_option maxHeartbeats 4000000 in
set_option maxRecDepth 100000 in
theorem dfind_any (v : Value) (l : List Dev) (src : Int) (w : World) (hv : DevsAt w v l) :
    Calls Tryz.prog 30 #[v, .int .u64 src] w (FindPost (findE l src) (findU l src) w) := by
  have hz : (w.alloc (.cells #[.slice none 0 0, .int .i64 0] 97)).heap.size = w.heap.size + 1 := by simp
  have hv' := hv.alloc (.cells #[.slice none 0 0, .int .i64 0] 97)
  have C := Lib.hid (begun_any v l src 0 _ hv')
  have hzr : RowAt (w.alloc (.cells #[.slice none 0 0, .int .i64 0] 97)) w.heap.size 97 #[.slice none 0 0, .int .i64 0] := RowAt.new _ _ _
  obtain ⟨n, hn⟩ : ∃ n, beginE l src 0 = n := ⟨_, rfl⟩
  rw [hn] at C
  have HN := Lib.hid hn
  have HB0 := Lib.hid ((Below.refl w.heap.size w).alloc (Nat.le_refl _) (.cells #[.slice none 0 0, .int .i64 0] 97))
  have HZR := Lib.hid hzr
  clear hv hv' hn hzr
  go_enter Tryz.func30, Tryz.ntmps30
  go_wp2_with fail
  refine C.out.mono ?_
  rintro e w1 ⟨hb1, ⟨hn0, rfl⟩ | ⟨rfl, s, m, rfl, hs0, hm0, hsat⟩⟩
  · have HE := Lib.hid (show findE l src = n from HN.out)
    have HU := Lib.hid (show findU l src = zeroS by rw [findU, if_neg (by rw [HE.out]; exact hn0)])
    have e9 : (n != 0) = true := by simpa using hn0
    have hr1 := HZR.out.run hb1
    obtain ⟨x1, x2, x3, x4, x5, x6⟩ := row_facts hr1
    have HB := Lib.hid (below_run HB0.out hb1)
    clear hn0 hr1 hb1
    go_wp2
    rw [HE.out, HU.out]
    refine bodyPost_ret (v := .tuple #[.slice none 0 0, .agg #[.slice none 0 0, .int .i64 0], .int .i64 n]) ?_ rfl (find_bad (by have := HB.out; (repeat' (first | (with_reducible exact Below.refl _ _) | (with_reducible assumption) | (with_reducible refine below_run ?_ (by assumption)) | (with_reducible refine below_of_upd ?_ (by assumption) ?_) | (with_reducible refine below_drewN ?_ _) | (with_reducible refine Below.drew ?_) | (with_reducible refine below_seven ?_ ?_) | (with_reducible refine below_six ?_ ?_) | (with_reducible refine below_one ?_ ?_) | (with_reducible refine Below.alloc ?_ ?_ _) | (with_reducible refine below_after ?_ ?_ (by assumption)) | (show _ ≤ _; first | omega | (simp; done) | (simp; omega))))))
    simp [results, Tryz.results30, go_sem, *]
  · rw [hz] at hs0 hm0 hsat
    have hr1 := HZR.out.run hb1
    have HE := Lib.hid (show findE l src = 0 from HN.out)
    have HU := Lib.hid (show findU l src = searchS src 48 1 281474976710654 (unmS src l) by rw [findU, if_pos HE.out])
    have hok := start_ok HN.out
    have CO := Lib.hid (order_any (w.heap.size + 1) (w.heap.size + 1) s m src (startS l 0) [] 3 281474976710655 w1 hsat hs0 hok.devs (unm_chk hok) hok.q0 hok.q1)
    have hok1 : Sok src (unmS src l) := order_ok hok (.inr rfl)
    have CA := Lib.hid (fun (w2 : World) (hz : w.heap.size + 1 ≤ w2.heap.size) (h : SAt w2 (w.heap.size + 1) s m src (unmS src l) []) => all_any (w.heap.size + 1) (w.heap.size + 1) s m src hs0 hm0 (Nat.le_refl _) 48 1 281474976710654 (unmS src l) w2 hz all_in.1 all_in.2.1 all_in.2.2.1 all_in.2.2.2 hok1 h)
    have HSO := Lib.hid (search_ok 48 1 281474976710654 (unmS src l) all_in.1 all_in.2.1 all_in.2.2.1 hok1)
    obtain ⟨t1, ht1⟩ : ∃ t, unmS src l = t := ⟨_, rfl⟩
    have ht1' : orderS src (startS l 0) 3 281474976710655 = t1 := ht1
    rw [ht1'] at CO
    rw [ht1] at CA HSO HU
    obtain ⟨u, hu⟩ : ∃ u, searchS src 48 1 281474976710654 t1 = u := ⟨_, rfl⟩
    rw [hu] at CA HSO HU
    have HB := Lib.hid (below_run HB0.out hb1)
    have HR1 := Lib.hid hr1
    have HB1s := Lib.hid (show w.heap.size + 1 ≤ w1.heap.size by have := hb1.size; simp at this; omega)
    clear hsat hb1 hr1 hok hok1 ht1 ht1' hu
    go_wp2_with fail
    refine CO.out.mono ?_
    rintro e w2 ⟨rfl, hs1, hst1⟩
    have HST1 := Lib.hid hst1.weak
    have HS1 := Lib.hid hs1
    clear hst1 hs1 CO
    go_wp2_with fail
    refine (CA.out w2 (by have := HST1.out.below.size; have := HB1s.out; omega) HS1.out).mono ?_
    rintro e w3 ⟨rfl, hs2, hst2⟩
    have hst := stir_trans HST1.out hst2
    have hr2 := RowAt.below HR1.out hst.below (by omega)
    have hb2 : Below w.heap.size w w3 := HB.out.trans (hst.below.mono (by omega))
    obtain ⟨⟨vd, vf, hr, hdv, hown, hty, hnil⟩, hs⟩ := hs2
    obtain ⟨fa, fn, fc, rfl⟩ : ∃ a k c, vf = .slice a k c := by
      rcases hown.2 with ⟨rfl, _⟩ | ⟨g, cap, cur, rfl, _⟩
      · exact ⟨_, _, _, rfl⟩
      · exact ⟨_, _, _, rfl⟩
    have c0 : w3.cell? ⟨s, 0, none⟩ = some vd := cell_fact hr 0
    have c4 : w3.cell? ⟨s, 4, none⟩ = some (.slice fa fn fc) := cell_fact hr 4
    have c5 : w3.cell? ⟨s, 5, none⟩ = some (.int .i64 (IntKind.i64.wrap u.msgs)) := cell_fact hr 5
    obtain ⟨N, hN⟩ : ∃ N, IntKind.i64.wrap (u.msgs : Int) = N := ⟨_, rfl⟩
    rw [hN] at c5
    obtain ⟨y1, y2, y3, y4, y5, y6⟩ := row_facts hr2
    have hsz := lt_of_block hr
    (try (have hn : ¬ s = w.heap.size := (by omega); have hn' : ¬ w.heap.size = s := (by omega)))
    have HR2 := Lib.hid hr2
    have P := Lib.hid (parts_two (u1 := .slice fa fn fc) (u2 := .int .i64 N) hr2 hdv hty hown)
    have HB2 := Lib.hid hb2
    have HNN := Lib.hid hN
    clear hr hdv hown hty hnil hs hst hst2 hr2 hb2 hN CA HST1 HS1
    go_wp2_with fail
    go_region_held3 (fun w' => w'.cell? ⟨s, 0, none⟩ = some vd ∧ w'.cell? ⟨s, 4, none⟩ = some (.slice fa fn fc) ∧ w'.cell? ⟨s, 5, none⟩ = some (.int .i64 N)) (go_keep) (fail)
    all_goals go_wp2
    all_goals
      rw [HE.out, HU.out]
      obtain ⟨p1, p2⟩ := P.out
      have hr3 : RowAt ((w3.setCell ⟨w.heap.size, 0, none⟩ (.slice fa fn fc)).setCell ⟨w.heap.size, 1, none⟩ (.int .i64 N)) w.heap.size 97 #[.slice fa fn fc, .int .i64 N] := RowAt.set (RowAt.set HR2.out rfl) rfl
      have hfew := HSO.out.few
      refine bodyPost_ret (v := .tuple #[vd, .agg #[.slice fa fn fc, .int .i64 N], .int .i64 0]) ?_ rfl ⟨_, _, by rw [HNN.out], p1, own_ids p2 rfl (by omega), Below.drew (below_one (below_one HB2.out (Nat.le_refl _)) (Nat.le_refl _))⟩
      simp [results, Tryz.results30, go_sem, cell_fact hr3]
end Go.Proofs.YtpkhcehddfmhpaaGreat

namespace Go.Proofs.YtpkhcehddfmhpaaGreat
open Go.RowKit

theorem IdsAt.alloc {w : World} {v : Value} {l : List Int} (h : IdsAt w v l) (o : Obj) : IdsAt (w.alloc o) v l := h.run ((Below.refl _ _).alloc (Nat.le_refl _) o)
theorem IdsAt.drew {w : World} {v : Value} {l : List Int} (h : IdsAt w v l) : IdsAt w.drew v l := h
theorem DevsAt.drew {w : World} {v : Value} {l : List Dev} (h : DevsAt w v l) : DevsAt w.drew v l := h

set_option maxHeartbeats 1000000 in
set_option maxRecDepth 100000 in
theorem equal_same (v u : Value) (l : List Int) (w : World) (hv : IdsAt w v l) (hu : IdsAt w u l) :
    Calls Tryz.prog 32 #[v, u] w fun e w' => e = .returned (.bool true) ∧ Below w.heap.size w w' := by
  rcases hv with ⟨h0, a, cap, rfl⟩ | ⟨h0, h1, b, off, cap, rfl, hlt, hc⟩
  · have hl : l = [] := List.eq_nil_of_length_eq_zero h0
    subst hl
    rcases hu with ⟨_, a', cap', rfl⟩ | ⟨g0, _⟩
    · go_enter Tryz.func32, Tryz.ntmps32
      go_wp2
      refine wp_loop_rounds 1 ?_
      rw [rounds_succ]
      go_wp2
      go_ret
      exact ⟨rfl, by (repeat' (first | (with_reducible exact Below.refl _ _) | (with_reducible assumption) | (with_reducible refine below_run ?_ (by assumption)) | (with_reducible refine below_of_upd ?_ (by assumption) ?_) | (with_reducible refine below_drewN ?_ _) | (with_reducible refine Below.drew ?_) | (with_reducible refine below_seven ?_ ?_) | (with_reducible refine below_six ?_ ?_) | (with_reducible refine below_one ?_ ?_) | (with_reducible refine Below.alloc ?_ ?_ _) | (with_reducible refine below_after ?_ ?_ (by assumption)) | (show _ ≤ _; first | omega | (simp; done) | (simp; omega))))⟩
    · simp at g0
  · rcases hu with ⟨g0, _⟩ | ⟨_, _, b', off', cap', rfl, hlt', hc'⟩
    · omega
    · have h3 : (l.length : Int) ≤ 140737488351232 := by omega
      have h4 : (0 : Int) < (l.length : Int) := by omega
      have h5 : ((l.length : Int) != (l.length : Int)) = false := by simp
      go_enter Tryz.func32, Tryz.ntmps32
      go_wp2
      go_loopw [5, 13] (fun _ i wr => ∃ k : Nat, k ≤ l.length ∧ i = .int .i64 k ∧ Below w.heap.size w wr) (fun _ i _ => l.length - (intOf i).toNat)
      case atStart => exact ⟨0, Nat.zero_le _, rfl, Below.refl _ _⟩
      case round =>
        obtain ⟨k, hk, rfl, hb0⟩ := hrel
        by_cases hlt2 : k < l.length
        · have hlt3 : (k : Int) < (l.length : Int) := by omega
          have hk0 : (0 : Int) ≤ (k : Int) := by omega
          have hw1 : ∀ j, j < l.length * 1 → wr.cell? ⟨b, off + j, none⟩ = u64C l j := fun j hj => (hb0.cell (p := ⟨b, off + j, none⟩) hlt).trans (hc j hj)
          have hw2 : ∀ j, j < l.length * 1 → wr.cell? ⟨b', off' + j, none⟩ = u64C l j := fun j hj => (hb0.cell (p := ⟨b', off' + j, none⟩) hlt').trans (hc' j hj)
          obtain ⟨y, hy, e0⟩ := id_cell hw1 k hlt2
          obtain ⟨y', hy', e0'⟩ := id_cell hw2 k hlt2
          rw [hy] at hy'
          simp only [Option.some.injEq] at hy'
          subst hy'
          clear hc hc' hw1 hw2 hy
          go_wp2
          go_quiet (fail)
          go_wp2
          go_roundw
          case rel => exact ⟨k + 1, by omega, by go_num, by (repeat' (first | (with_reducible exact Below.refl _ _) | (with_reducible assumption) | (with_reducible refine below_run ?_ (by assumption)) | (with_reducible refine below_of_upd ?_ (by assumption) ?_) | (with_reducible refine below_drewN ?_ _) | (with_reducible refine Below.drew ?_) | (with_reducible refine below_seven ?_ ?_) | (with_reducible refine below_six ?_ ?_) | (with_reducible refine below_one ?_ ?_) | (with_reducible refine Below.alloc ?_ ?_ _) | (with_reducible refine below_after ?_ ?_ (by assumption)) | (show _ ≤ _; first | omega | (simp; done) | (simp; omega))))⟩
          case measure => simp [intOf]; omega
        · obtain rfl : k = l.length := by omega
          go_wp2
          go_ret
          exact ⟨rfl, hb0⟩
end Go.Proofs.YtpkhcehddfmhpaaGreat

namespace Go.Proofs.YtpkhcehddfmhpaaGreat
open Go.RowKit

def dv (x : Int) : Dev := ⟨x, 1, 1, ⟨#[]⟩, 0, false, false⟩

theorem ex1_e : findE [] 9 = 0 := by kernel_rfl
theorem ex1_f : (findU [] 9).found = [] := by kernel_rfl
theorem ex1_m : (findU [] 9).msgs = 2 := by kernel_rfl
theorem ex2_e : findE [dv 77] 9 = 0 := by kernel_rfl
theorem ex2_f : (findU [dv 77] 9).found = [77] := by kernel_rfl
theorem ex2_m : (findU [dv 77] 9).msgs = 4 := by kernel_rfl
theorem ex2_d : (findU [dv 77] 9).devs.map (·.mu) = [true] := by kernel_rfl
theorem ex3_e : findE [dv 281474976710654, dv 1] 9 = 0 := by kernel_rfl
theorem ex3_f : (findU [dv 281474976710654, dv 1] 9).found = [1, 281474976710654] := by kernel_rfl
theorem ex3_m : (findU [dv 281474976710654, dv 1] 9).msgs = 8 := by kernel_rfl

theorem devs_row {w : World} {b T : Nat} {cs : Array Value} {l : List Dev} (hr : RowAt w b T cs) (hcs : cs.toList = devsL l) (h0 : 0 < l.length) (h1 : l.length ≤ 1000) : DevsAt w (.slice (some ⟨b, 0, none⟩) l.length l.length) l :=
  .inr ⟨h0, by omega, b, 0, _, rfl, lt_of_block hr, fun j _ => by rw [Nat.zero_add, cell_fact hr, ← Array.getElem?_toList, hcs, devsL_get]⟩
theorem ids_row {w : World} {b T : Nat} {cs : Array Value} {l : List Int} (hr : RowAt w b T cs) (hcs : cs.toList = u64L l) (h0 : 0 < l.length) (h1 : l.length ≤ 1000) : IdsAt w (.slice (some ⟨b, 0, none⟩) l.length l.length) l :=
  .inr ⟨h0, by omega, b, 0, _, rfl, lt_of_block hr, fun j _ => by rw [Nat.zero_add, cell_fact hr, ← Array.getElem?_toList, hcs, u64L_get]⟩

theorem aw_find1 (w : World) : Calls Tryz.prog 30 #[.slice none 0 0, .int .u64 9] w fun e w' => ∃ v a c, e = .returned (.tuple #[v, .agg #[.slice a 0 c, .int .i64 2], .int .i64 0]) ∧ Below w.heap.size w w' := by
  refine (dfind_any _ [] 9 w (.inl ⟨rfl, _, _, rfl⟩)).mono ?_
  rintro e w' ⟨v, vf, rfl, -, hf, hb⟩
  rw [ex1_f] at hf
  rw [ex1_m, ex1_e]
  rcases hf with ⟨_, a, c, rfl⟩ | ⟨h, _⟩
  · exact ⟨v, a, c, rfl, hb⟩
  · cases h
theorem aw_find2 (v : Value) (w : World) (hv : DevsAt w v [dv 77]) : Calls Tryz.prog 30 #[v, .int .u64 9] w fun e w' => ∃ b off cap vf, e = .returned (.tuple #[.slice (some ⟨b, off, none⟩) 1 cap, .agg #[vf, .int .i64 4], .int .i64 0]) ∧ b < w'.heap.size ∧ w'.cell? ⟨b, off + 5, none⟩ = some (.bool true) ∧ IdsAt w' vf [77] ∧ Below w.heap.size w w' := by
  refine (dfind_any _ _ 9 w hv).mono ?_
  rintro e w' ⟨v', vf, rfl, hd, hf, hb⟩
  rw [ex2_f] at hf
  rw [ex2_m, ex2_e]
  have hm := ex2_d
  generalize (findU [dv 77] 9).devs = l at hd hm
  obtain ⟨d, rfl⟩ : ∃ d, l = [d] := by
    have h1 : l.length = 1 := by simpa using congrArg List.length hm
    exact List.length_eq_one_iff.1 h1
  have hmu : d.mu = true := by simpa using hm
  rcases hd with ⟨h, _⟩ | ⟨_, _, b, off, cap, rfl, hlt, hc⟩
  · cases h
  · refine ⟨b, off, cap, vf, rfl, hlt, ?_, hf, hb⟩
    rw [hc 5 (by simp)]
    simp [devsC, devA, hmu]
theorem aw_find3 (v : Value) (w : World) (hv : DevsAt w v [dv 281474976710654, dv 1]) : Calls Tryz.prog 30 #[v, .int .u64 9] w fun e w' => ∃ v' vf, e = .returned (.tuple #[v', .agg #[vf, .int .i64 8], .int .i64 0]) ∧ IdsAt w' vf [1, 281474976710654] ∧ Below w.heap.size w w' := by
  refine (dfind_any _ _ 9 w hv).mono ?_
  rintro e w' ⟨v', vf, rfl, -, hf, hb⟩
  rw [ex3_f] at hf
  rw [ex3_m, ex3_e]
  exact ⟨v', vf, rfl, hf, hb⟩

theorem device_any (x : Int) (w : World) : Calls Tryz.prog 31 #[.int .u64 x] w fun e w' => e = .returned (.agg #[.int .u64 x, .int .i64 1, .int .i64 1, .string ⟨#[]⟩, .int .i64 0, .bool false, .bool false]) ∧ Below w.heap.size w w' := by
  go_enter Tryz.func31, Tryz.ntmps31
  go_wp2
  refine bodyPost_ret (v := .agg #[.int .u64 x, .int .i64 1, .int .i64 1, .string ⟨#[]⟩, .int .i64 0, .bool false, .bool false]) ?_ rfl ⟨rfl, by (repeat' (first | (with_reducible exact Below.refl _ _) | (with_reducible assumption) | (with_reducible refine below_run ?_ (by assumption)) | (with_reducible refine below_of_upd ?_ (by assumption) ?_) | (with_reducible refine below_drewN ?_ _) | (with_reducible refine Below.drew ?_) | (with_reducible refine below_seven ?_ ?_) | (with_reducible refine below_six ?_ ?_) | (with_reducible refine below_one ?_ ?_) | (with_reducible refine Below.alloc ?_ ?_ _) | (with_reducible refine below_after ?_ ?_ (by assumption)) | (show _ ≤ _; first | omega | (simp; done) | (simp; omega))))⟩
  simp [results, Tryz.results31, go_sem]

end Go.Proofs.YtpkhcehddfmhpaaGreat
