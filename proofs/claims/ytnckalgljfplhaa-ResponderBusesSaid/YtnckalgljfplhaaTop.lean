/-
  The contracts of the exported functions on devices.
-/
import Derived.Test.YtnckalgljfplhaaRecvE
import Derived.Test.YtnckalgljfplhaaRcvdE
import Derived.Test.YtnckalgljfplhaaRchk
namespace Go.Proofs.Ytnckalgljfplhaa
open Go.RowKit

def zeroD : Dev := ⟨0, 0, 0, ⟨#[]⟩, 0, false, false⟩

/-- A device behind a message, its answer, whether there is one, and the number of the error. -/
def receiveD (d : Dev) (m : Msg) : Dev × Msg × Bool × Int :=
  if chkD d ≠ 0 then (zeroD, zeroM, false, chkD d) else if chk m ≠ 0 then (zeroD, zeroM, false, chk m) else ((recvD d m).1, (recvD d m).2.1, (recvD d m).2.2, 0)

/-- What receiving leaves, from outside. -/
def ReceivePost (r : Dev × Msg × Bool × Int) (w : World) (e : Ending) (w' : World) : Prop := e = .returned (.tuple #[devV r.1, msgV r.2.1, .bool r.2.2.1, .int .i64 r.2.2.2]) ∧ Below w.heap.size w w'

theorem dchk_is (n id ft ad hr : Int) (lb : ByteArray) (mu idf : Bool) (w : World) (h : Hid (chkD ⟨id, ft, ad, lb, hr, mu, idf⟩ = n)) :
    Calls Try.prog 22 #[.agg #[.int .u64 id, .int .i64 ft, .int .i64 ad, .string lb, .int .i64 hr, .bool mu, .bool idf]] w fun e w' => e = .returned (.int .i64 n) ∧ Below w.heap.size w w' := by
  have := dchk_any id ft ad hr lb mu idf w
  rw [h.out] at this
  exact this
theorem refdchk_is (n id ft ad hr : Int) (lb : ByteArray) (mu idf : Bool) (w : World) (h : Hid (chkD ⟨id, ft, ad, lb, hr, mu, idf⟩ = n)) (hl : lb.size ≤ 9223372036854775807) :
    Calls Try.prog 15 #[.agg #[.int .u64 id, .int .i64 ft, .int .i64 ad, .string lb, .int .i64 hr, .bool mu, .bool idf]] w fun e w' => e = .returned (.int .i64 n) ∧ Below w.heap.size w w' := by
  have := refdchk_any id ft ad hr lb mu idf w hl
  rw [h.out] at this
  exact this
theorem chk_is (n dst src seq kind par : Int) (dat : ByteArray) (w : World) (h : Hid (chk ⟨dst, src, seq, kind, par, dat⟩ = n)) :
    Calls Try.prog 24 #[.agg #[.int .u64 dst, .int .u64 src, .int .i64 seq, .int .i64 kind, .int .i64 par, .string dat]] w fun e w' => e = .returned (.int .i64 n) ∧ Below w.heap.size w w' := by
  have := chk_any dst src seq kind par dat w
  rw [h.out] at this
  exact this
theorem refchk_is (n dst src seq kind par : Int) (dat : ByteArray) (w : World) (h : Hid (chk ⟨dst, src, seq, kind, par, dat⟩ = n)) :
    Calls Try.prog 23 #[.agg #[.int .u64 dst, .int .u64 src, .int .i64 seq, .int .i64 kind, .int .i64 par, .string dat]] w fun e w' => e = .returned (.int .i64 n) ∧ Below w.heap.size w w' := by
  have := refchk_any dst src seq kind par dat w
  rw [h.out] at this
  exact this

theorem receiveD_bad {d : Dev} {m : Msg} {n : Int} (h : chkD d = n) (hn : n ≠ 0) : receiveD d m = (zeroD, zeroM, false, n) := by
  subst h
  rw [receiveD, if_pos hn]
theorem receiveD_badM {d : Dev} {m : Msg} {n : Int} (h : chkD d = 0) (h2 : chk m = n) (hn : n ≠ 0) : receiveD d m = (zeroD, zeroM, false, n) := by
  subst h2
  rw [receiveD, if_neg (not_not_intro h), if_pos hn]
theorem receiveD_ok {d d' : Dev} {m a : Msg} {q : Bool} (h : chkD d = 0) (h2 : chk m = 0) (hr : recvD d m = (d', a, q)) : receiveD d m = (d', a, q, 0) := by
  rw [receiveD, if_neg (not_not_intro h), if_neg (not_not_intro h2), hr]

set_option maxHeartbeats 1000000 in
set_option maxRecDepth 100000 in
theorem receive_any (id ft ad hr dst src seq kind par : Int) (lb dat : ByteArray) (mu idf : Bool) (w : World) :
    Calls Try.prog 13 #[.agg #[.int .u64 id, .int .i64 ft, .int .i64 ad, .string lb, .int .i64 hr, .bool mu, .bool idf], .agg #[.int .u64 dst, .int .u64 src, .int .i64 seq, .int .i64 kind, .int .i64 par, .string dat]] w (ReceivePost (receiveD ⟨id, ft, ad, lb, hr, mu, idf⟩ ⟨dst, src, seq, kind, par, dat⟩) w) := by
  obtain ⟨n1, h1⟩ : ∃ n, chkD ⟨id, ft, ad, lb, hr, mu, idf⟩ = n := ⟨_, rfl⟩
  obtain ⟨n2, h2⟩ : ∃ n, chk ⟨dst, src, seq, kind, par, dat⟩ = n := ⟨_, rfl⟩
  obtain ⟨d', a, q, hra⟩ : ∃ d' a q, recvD ⟨id, ft, ad, lb, hr, mu, idf⟩ ⟨dst, src, seq, kind, par, dat⟩ = (d', a, q) := ⟨_, _, _, rfl⟩
  have H1 := Lib.hid h1
  have H2 := Lib.hid h2
  have HRA := Lib.hid hra
  clear h1 h2 hra
  by_cases z1 : n1 = 0
  · subst z1
    by_cases z2 : n2 = 0
    · subst z2
      have hrv := receiveD_ok H1.out H2.out HRA.out
      rw [hrv]
      clear hrv
      go_enter Try.func13, Try.ntmps13
      go_wp2_with (first | (go_at_call 22; refine (dchk_is 0 _ _ _ _ _ _ _ _ H1).mono ?_; rintro e w1 ⟨rfl, hb⟩; have hz := hb.size; (try simp at hz); obtain ⟨hc, hf, hT1, hT2, hT3, hT4, hz⟩ := bfacts (n := w.heap.size + 4) hb (by first | (simp; done) | (simp; omega) | omega)) | (go_at_call 24; refine (chk_is 0 _ _ _ _ _ _ _ H2).mono ?_; rintro e w2 ⟨rfl, hb⟩; have hz := hb.size; (try simp at hz); obtain ⟨hc, hf, hT1, hT2, hT3, hT4, hz⟩ := bfacts (n := w.heap.size + 4) hb (by first | (simp; done) | (simp; omega) | omega)))
      have hsz : w.heap.size + 1 + 1 + 1 + 1 ≤ w2.heap.size := by omega
      have hD : RowAt w2 w.heap.size 24 #[.int .u64 id, .int .i64 ft, .int .i64 ad, .string lb, .int .i64 hr, .bool mu, .bool idf] := by (repeat' (first | (with_reducible assumption) | (with_reducible refine RowAt.drewN ?_ _) | (with_reducible refine RowAt.drew ?_) | (with_reducible apply RowAt.six) | (with_reducible apply RowAt.seven) | ((with_reducible refine RowAt.mk ?_ ?_); (focus (first | rfl | (simp; done))); rfl) | (with_reducible refine RowAt.alloc ?_ _) | (with_reducible refine RowAt.far ?_ ?_) | (with_reducible refine RowAt.run ?_ (by assumption)) | (with_reducible refine RowAt.below ?_ (by assumption) ?_) | (with_reducible refine RowAt.upd ?_ (by assumption) ?_) | (show _ < _; first | omega | (simp; done) | (simp; omega)) | (show ¬ _ = _; first | omega | (simp; done) | (simp; omega)) | exact rfl))
      have hX : RowAt w2 (w.heap.size + 1 + 1) 24 #[.int .u64 0, .int .i64 0, .int .i64 0, .string ⟨#[]⟩, .int .i64 0, .bool false, .bool false] := by (repeat' (first | (with_reducible assumption) | (with_reducible refine RowAt.drewN ?_ _) | (with_reducible refine RowAt.drew ?_) | (with_reducible apply RowAt.six) | (with_reducible apply RowAt.seven) | ((with_reducible refine RowAt.mk ?_ ?_); (focus (first | rfl | (simp; done))); rfl) | (with_reducible refine RowAt.alloc ?_ _) | (with_reducible refine RowAt.far ?_ ?_) | (with_reducible refine RowAt.run ?_ (by assumption)) | (with_reducible refine RowAt.below ?_ (by assumption) ?_) | (with_reducible refine RowAt.upd ?_ (by assumption) ?_) | (show _ < _; first | omega | (simp; done) | (simp; omega)) | (show ¬ _ = _; first | omega | (simp; done) | (simp; omega)) | exact rfl))
      have hY : RowAt w2 (w.heap.size + 1 + 1 + 1) 26 #[.int .u64 0, .int .u64 0, .int .i64 0, .int .i64 0, .int .i64 0, .string ⟨#[]⟩] := by (repeat' (first | (with_reducible assumption) | (with_reducible refine RowAt.drewN ?_ _) | (with_reducible refine RowAt.drew ?_) | (with_reducible apply RowAt.six) | (with_reducible apply RowAt.seven) | ((with_reducible refine RowAt.mk ?_ ?_); (focus (first | rfl | (simp; done))); rfl) | (with_reducible refine RowAt.alloc ?_ _) | (with_reducible refine RowAt.far ?_ ?_) | (with_reducible refine RowAt.run ?_ (by assumption)) | (with_reducible refine RowAt.below ?_ (by assumption) ?_) | (with_reducible refine RowAt.upd ?_ (by assumption) ?_) | (show _ < _; first | omega | (simp; done) | (simp; omega)) | (show ¬ _ = _; first | omega | (simp; done) | (simp; omega)) | exact rfl))
      have hB : Below w.heap.size w w2 := by (repeat' (first | (with_reducible exact Below.refl _ _) | (with_reducible assumption) | (with_reducible refine below_run ?_ (by assumption)) | (with_reducible refine below_of_upd ?_ (by assumption) ?_) | (with_reducible refine below_drewN ?_ _) | (with_reducible refine Below.drew ?_) | (with_reducible refine Below.setCell ?_ ?_ _) | (with_reducible refine Below.alloc ?_ ?_ _) | (with_reducible refine below_after ?_ ?_ (by assumption)) | (show _ ≤ _; first | omega | (simp; done) | (simp; omega))))
      refine (recv_any w.heap.size ⟨id, ft, ad, lb, hr, mu, idf⟩ dst src seq kind par dat w2 hD H1.out H2.out).mono ?_
      rintro e w3 ⟨rfl, hd3, hu⟩
      rw [HRA.out] at hd3 ⊢
      have hz3 := hu.size
      go_wp2
      have kb : Below w.heap.size w (w3.alloc (.cells #[.int .u64 a.dst, .int .u64 a.src, .int .i64 a.seq, .int .i64 a.kind, .int .i64 a.par, .string a.dat] 26)) := by (repeat' (first | (with_reducible exact Below.refl _ _) | (with_reducible assumption) | (with_reducible refine below_run ?_ (by assumption)) | (with_reducible refine below_of_upd ?_ (by assumption) ?_) | (with_reducible refine below_drewN ?_ _) | (with_reducible refine Below.drew ?_) | (with_reducible refine Below.setCell ?_ ?_ _) | (with_reducible refine Below.alloc ?_ ?_ _) | (with_reducible refine below_after ?_ ?_ (by assumption)) | (show _ ≤ _; first | omega | (simp; done) | (simp; omega))))
      have kd : RowAt (w3.alloc (.cells #[.int .u64 a.dst, .int .u64 a.src, .int .i64 a.seq, .int .i64 a.kind, .int .i64 a.par, .string a.dat] 26)) w.heap.size 24 #[.int .u64 d'.id, .int .i64 d'.ft, .int .i64 d'.ad, .string d'.lb, .int .i64 d'.hr, .bool d'.mu, .bool d'.idf] := RowAt.alloc hd3 _
      have kx : RowAt (w3.alloc (.cells #[.int .u64 a.dst, .int .u64 a.src, .int .i64 a.seq, .int .i64 a.kind, .int .i64 a.par, .string a.dat] 26)) (w.heap.size + 1 + 1) 24 #[.int .u64 0, .int .i64 0, .int .i64 0, .string ⟨#[]⟩, .int .i64 0, .bool false, .bool false] := by (repeat' (first | (with_reducible assumption) | (with_reducible refine RowAt.drewN ?_ _) | (with_reducible refine RowAt.drew ?_) | (with_reducible apply RowAt.six) | (with_reducible apply RowAt.seven) | ((with_reducible refine RowAt.mk ?_ ?_); (focus (first | rfl | (simp; done))); rfl) | (with_reducible refine RowAt.alloc ?_ _) | (with_reducible refine RowAt.far ?_ ?_) | (with_reducible refine RowAt.run ?_ (by assumption)) | (with_reducible refine RowAt.below ?_ (by assumption) ?_) | (with_reducible refine RowAt.upd ?_ (by assumption) ?_) | (show _ < _; first | omega | (simp; done) | (simp; omega)) | (show ¬ _ = _; first | omega | (simp; done) | (simp; omega)) | exact rfl))
      have ky : RowAt (w3.alloc (.cells #[.int .u64 a.dst, .int .u64 a.src, .int .i64 a.seq, .int .i64 a.kind, .int .i64 a.par, .string a.dat] 26)) (w.heap.size + 1 + 1 + 1) 26 #[.int .u64 0, .int .u64 0, .int .i64 0, .int .i64 0, .int .i64 0, .string ⟨#[]⟩] := by (repeat' (first | (with_reducible assumption) | (with_reducible refine RowAt.drewN ?_ _) | (with_reducible refine RowAt.drew ?_) | (with_reducible apply RowAt.six) | (with_reducible apply RowAt.seven) | ((with_reducible refine RowAt.mk ?_ ?_); (focus (first | rfl | (simp; done))); rfl) | (with_reducible refine RowAt.alloc ?_ _) | (with_reducible refine RowAt.far ?_ ?_) | (with_reducible refine RowAt.run ?_ (by assumption)) | (with_reducible refine RowAt.below ?_ (by assumption) ?_) | (with_reducible refine RowAt.upd ?_ (by assumption) ?_) | (show _ < _; first | omega | (simp; done) | (simp; omega)) | (show ¬ _ = _; first | omega | (simp; done) | (simp; omega)) | exact rfl))
      have ka : RowAt (w3.alloc (.cells #[.int .u64 a.dst, .int .u64 a.src, .int .i64 a.seq, .int .i64 a.kind, .int .i64 a.par, .string a.dat] 26)) w3.heap.size 26 #[.int .u64 a.dst, .int .u64 a.src, .int .i64 a.seq, .int .i64 a.kind, .int .i64 a.par, .string a.dat] := RowAt.new _ _ _
      generalize w3.alloc (.cells #[.int .u64 a.dst, .int .u64 a.src, .int .i64 a.seq, .int .i64 a.kind, .int .i64 a.par, .string a.dat] 26) = wz at kb kd kx ky ka ⊢
      obtain ⟨g, hg⟩ : ∃ g, w3.heap.size = g := ⟨_, rfl⟩
      rw [hg] at ka hz3
      clear hu hd3 hD hX hY hB
      have g1 : ¬ w.heap.size = w.heap.size + 1 + 1 := by omega
      have g2 : ¬ w.heap.size + 1 + 1 = w.heap.size := by omega
      have g3 : ¬ w.heap.size = w.heap.size + 1 + 1 + 1 := by omega
      have g4 : ¬ w.heap.size + 1 + 1 + 1 = w.heap.size := by omega
      have g5 : ¬ g = w.heap.size + 1 + 1 := by omega
      have g6 : ¬ w.heap.size + 1 + 1 = g := by omega
      have g7 : ¬ g = w.heap.size + 1 + 1 + 1 := by omega
      have g8 : ¬ w.heap.size + 1 + 1 + 1 = g := by omega
      obtain ⟨d1, d2, d3, d4, d5, d6⟩ := row_facts kd
      obtain ⟨x1, x2, x3, x4, x5, x6⟩ := row_facts kx
      obtain ⟨y1, y2, y3, y4, y5, y6⟩ := row_facts ky
      obtain ⟨a1, a2, a3, a4, a5, a6⟩ := row_facts ka
      go_region_held3 (fun w' => w'.cell? ⟨w.heap.size, 0, none⟩ = some (.int .u64 d'.id) ∧ w'.cell? ⟨w.heap.size, 1, none⟩ = some (.int .i64 d'.ft) ∧ w'.cell? ⟨w.heap.size, 2, none⟩ = some (.int .i64 d'.ad) ∧ w'.cell? ⟨w.heap.size, 3, none⟩ = some (.string d'.lb) ∧ w'.cell? ⟨w.heap.size, 4, none⟩ = some (.int .i64 d'.hr) ∧ w'.cell? ⟨w.heap.size, 5, none⟩ = some (.bool d'.mu) ∧ w'.cell? ⟨w.heap.size, 6, none⟩ = some (.bool d'.idf) ∧ w'.cell? ⟨g, 0, none⟩ = some (.int .u64 a.dst) ∧ w'.cell? ⟨g, 1, none⟩ = some (.int .u64 a.src) ∧ w'.cell? ⟨g, 2, none⟩ = some (.int .i64 a.seq) ∧ w'.cell? ⟨g, 3, none⟩ = some (.int .i64 a.kind) ∧ w'.cell? ⟨g, 4, none⟩ = some (.int .i64 a.par) ∧ w'.cell? ⟨g, 5, none⟩ = some (.string a.dat)) (go_keep) (fail)
      all_goals (go_wp2)
      all_goals (refine bodyPost_ret (v := .tuple #[devV d', msgV a, .bool q, .int .i64 0]) ?_ rfl ⟨rfl, by (repeat' (first | (with_reducible exact Below.refl _ _) | (with_reducible assumption) | (with_reducible refine below_run ?_ (by assumption)) | (with_reducible refine below_of_upd ?_ (by assumption) ?_) | (with_reducible refine below_drewN ?_ _) | (with_reducible refine Below.drew ?_) | (with_reducible refine Below.setCell ?_ ?_ _) | (with_reducible refine Below.alloc ?_ ?_ _) | (with_reducible refine below_after ?_ ?_ (by assumption)) | (show _ ≤ _; first | omega | (simp; done) | (simp; omega))))⟩; simp [results, Try.results13, go_sem, *])
    · have e2 : (n2 != 0) = true := by simpa using z2
      rw [receiveD_badM H1.out H2.out z2]
      clear z2
      go_enter Try.func13, Try.ntmps13
      go_wp2_with (first | (go_at_call 22; refine (dchk_is 0 _ _ _ _ _ _ _ _ H1).mono ?_; rintro e w1 ⟨rfl, hb⟩; have hz := hb.size; (try simp at hz); obtain ⟨hc, hf, hT1, hT2, hT3, hT4, hz⟩ := bfacts (n := w.heap.size + 4) hb (by first | (simp; done) | (simp; omega) | omega)) | (go_at_call 24; refine (chk_is n2 _ _ _ _ _ _ _ H2).mono ?_; rintro e w2 ⟨rfl, hb⟩; have hz := hb.size; (try simp at hz); obtain ⟨hc, hf, hT1, hT2, hT3, hT4, hz⟩ := bfacts (n := w.heap.size + 4) hb (by first | (simp; done) | (simp; omega) | omega)))
      refine bodyPost_ret (v := .tuple #[devV zeroD, msgV zeroM, .bool false, .int .i64 n2]) ?_ rfl ⟨rfl, by (repeat' (first | (with_reducible exact Below.refl _ _) | (with_reducible assumption) | (with_reducible refine below_run ?_ (by assumption)) | (with_reducible refine below_of_upd ?_ (by assumption) ?_) | (with_reducible refine below_drewN ?_ _) | (with_reducible refine Below.drew ?_) | (with_reducible refine Below.setCell ?_ ?_ _) | (with_reducible refine Below.alloc ?_ ?_ _) | (with_reducible refine below_after ?_ ?_ (by assumption)) | (show _ ≤ _; first | omega | (simp; done) | (simp; omega))))⟩
      simp [results, Try.results13, go_sem, zeroM, zeroD, *]
  · have e2 : (n1 != 0) = true := by simpa using z1
    rw [receiveD_bad H1.out z1]
    clear z1
    go_enter Try.func13, Try.ntmps13
    go_wp2_with (first | (go_at_call 22; refine (dchk_is n1 _ _ _ _ _ _ _ _ H1).mono ?_; rintro e w1 ⟨rfl, hb⟩; have hz := hb.size; (try simp at hz); obtain ⟨hc, hf, hT1, hT2, hT3, hT4, hz⟩ := bfacts (n := w.heap.size + 4) hb (by first | (simp; done) | (simp; omega) | omega)))
    refine bodyPost_ret (v := .tuple #[devV zeroD, msgV zeroM, .bool false, .int .i64 n1]) ?_ rfl ⟨rfl, by (repeat' (first | (with_reducible exact Below.refl _ _) | (with_reducible assumption) | (with_reducible refine below_run ?_ (by assumption)) | (with_reducible refine below_of_upd ?_ (by assumption) ?_) | (with_reducible refine below_drewN ?_ _) | (with_reducible refine Below.drew ?_) | (with_reducible refine Below.setCell ?_ ?_ _) | (with_reducible refine Below.alloc ?_ ?_ _) | (with_reducible refine below_after ?_ ?_ (by assumption)) | (show _ ≤ _; first | omega | (simp; done) | (simp; omega))))⟩
    simp [results, Try.results13, go_sem, zeroM, zeroD, *]

end Go.Proofs.Ytnckalgljfplhaa
