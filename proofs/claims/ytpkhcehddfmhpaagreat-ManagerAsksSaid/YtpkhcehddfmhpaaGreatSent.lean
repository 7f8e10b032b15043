/-
  Devices behind a message, all of them: the reference.
-/
import Derived.Test.YtpkhcehddfmhpaaGreatSame
import Derived.Test.YtpkhcehddfmhpaaGreatRcvdE
namespace Go.Proofs.YtpkhcehddfmhpaaGreat
open Go.RowKit

/-- The error of a list of devices, when some identities were seen. -/
def dErr : List Int → List Dev → Int
  | _, [] => 0
  | seen, d :: l => if chkD d ≠ 0 then chkD d else if d.id ∈ seen then 7 else dErr (seen ++ [d.id]) l

/-- The devices behind a message. -/
def sentD (l : List Dev) (m : Msg) : List Dev := l.map fun d => (recvD d m).1
/-- The answers. -/
def sentA (l : List Dev) (m : Msg) : List Msg := l.filterMap fun d => if (recvD d m).2.2 then some (recvD d m).2.1 else none

theorem sentD_snoc (l : List Dev) (d : Dev) (m : Msg) : sentD (l ++ [d]) m = sentD l m ++ [(recvD d m).1] := by simp [sentD]
theorem sentA_snoc (l : List Dev) (d : Dev) (m : Msg) : sentA (l ++ [d]) m = sentA l m ++ if (recvD d m).2.2 then [(recvD d m).2.1] else [] := by
  unfold sentA
  rw [List.filterMap_append]
  split <;> simp_all
theorem sentD_length (l : List Dev) (m : Msg) : (sentD l m).length = l.length := by simp [sentD]
theorem sentA_length (l : List Dev) (m : Msg) : (sentA l m).length ≤ l.length := List.length_filterMap_le _ _

theorem dErr_all {seen : List Int} {l : List Dev} (h : dErr seen l = 0) : ∀ d ∈ l, chkD d = 0 := by
  induction l generalizing seen with
  | nil => intro d hd; cases hd
  | cons a l ih =>
    intro d hd
    rw [dErr] at h
    split at h
    · rename_i hne
      exact absurd h hne
    · rename_i h0
      split at h
      · cases h
      · rcases List.mem_cons.1 hd with rfl | hd
        · exact Decidable.not_not.1 h0
        · exact ih h d hd

theorem own_run {w w' : World} {base T S n : Nat} {v : Value} {xs : List Value} (h : w.ownsRow base T S v n xs) (hb : Below w.heap.size w w') : w'.ownsRow base T S v n xs := by
  refine ⟨h.1, ?_⟩
  rcases h.2 with hn | ⟨g, cap, cur, rfl, hbg, hg, rest⟩
  · exact .inl hn
  · exact .inr ⟨g, cap, cur, rfl, hbg, (hb.block g (lt_of_block hg)).trans hg, rest⟩

theorem own_two {w w' : World} {b1 T1 S1 n1 b2 T2 S2 n2 : Nat} {v1 v2 : Value} {x1 x2 : List Value} (h1 : w.ownsRow b1 T1 S1 v1 n1 x1) (h2 : w.ownsRow b2 T2 S2 v2 n2 x2) (hne : T1 ≠ T2) (hg : w.grownBy w' v1.ownBlock) : w'.ownsRow b2 T2 S2 v2 n2 x2 := by
  refine h2.kept hg ?_
  cases e2 : v2.ownBlock with
  | none => exact .inl rfl
  | some k2 =>
    refine .inr fun e => ?_
    rcases h1.2 with ⟨rfl, _⟩ | ⟨g1, c1, u1, rfl, _, hg1, _⟩
    · cases e
    · rcases h2.2 with ⟨rfl, _⟩ | ⟨g2, c2, u2, rfl, _, hg2, _⟩
      · cases e2
      · simp [Value.ownBlock] at e e2
        subst e2
        rw [← e, hg2] at hg1
        simp at hg1
        exact hne hg1.2.symm

theorem row_two {w w' : World} {b1 T1 S1 n1 k T : Nat} {v1 : Value} {x1 : List Value} {cs : Array Value} (h1 : w.ownsRow b1 T1 S1 v1 n1 x1) (h2 : RowAt w k T cs) (hne : T1 ≠ T) (hg : w.grownBy w' v1.ownBlock) : RowAt w' k T cs := by
  refine (hg.block k (lt_of_block h2) fun e => ?_).trans h2
  rcases h1.2 with ⟨rfl, _⟩ | ⟨g1, c1, u1, rfl, _, hg1, _⟩
  · cases e
  · simp [Value.ownBlock] at e
    subst e
    unfold RowAt at h2
    rw [h2] at hg1
    simp at hg1
    exact hne hg1.2.symm

theorem below_up {B C : Nat} {w w' : World} (h : Below C w w') (hB : B ≤ C) : Below B w w' := h.mono hB

set_option maxHeartbeats 4000000 in
set_option maxRecDepth 100000 in
theorem sentF_any (v : Value) (l : List Dev) (dst src seq kind par : Int) (dat : ByteArray) (w : World) (hv : DevsAt w v l) (hl : l.length ≤ 1000) (hd : ∀ d ∈ l, chkD d = 0) (hm : chk ⟨dst, src, seq, kind, par, dat⟩ = 0) (hds : dat.size ≤ 9223372036854775807) :
    Calls Tryz.prog 96 #[v, .agg #[.int .u64 dst, .int .u64 src, .int .i64 seq, .int .i64 kind, .int .i64 par, .string dat]] w fun e w' => ∃ v1 v2, e = .returned (.tuple #[v1, v2]) ∧ DevsAt w' v1 (sentD l ⟨dst, src, seq, kind, par, dat⟩) ∧ MsgsAt w' v2 (sentA l ⟨dst, src, seq, kind, par, dat⟩) ∧ Below w.heap.size w w' ∧ ∀ g, v1.ownBlock = some g → w.heap.size ≤ g := by
  obtain ⟨i0, hi, hz0, hz1, hz2⟩ := info_parts Tryz.info_rdev
  obtain ⟨i1, hi', hz0', hz1', hz2'⟩ := info_parts Tryz.info_msg
  have HM := Lib.hid hm
  have HALL := Lib.hid hd
  clear hm hd
  rcases hv with ⟨h0, a, cap, rfl⟩ | ⟨h0, h1, b, off, cap, rfl, hlt, hc⟩
  · have hl : l = [] := List.eq_nil_of_length_eq_zero h0
    subst hl
    go_enter Tryz.func96, Tryz.ntmps96
    go_wp2
    refine wp_loop_rounds 1 ?_
    rw [rounds_succ]
    go_wp2
    go_ret2
    exact ⟨_, _, rfl, .inl ⟨rfl, _, _, rfl⟩, .inl ⟨rfl, _, _, rfl⟩, by (repeat' (first | (with_reducible exact Below.refl _ _) | (with_reducible assumption) | (with_reducible refine below_run ?_ (by assumption)) | (with_reducible refine below_of_upd ?_ (by assumption) ?_) | (with_reducible refine below_drewN ?_ _) | (with_reducible refine Below.drew ?_) | (with_reducible refine below_seven ?_ ?_) | (with_reducible refine below_six ?_ ?_) | (with_reducible refine below_one ?_ ?_) | (with_reducible refine Below.alloc ?_ ?_ _) | (with_reducible refine below_after ?_ ?_ (by assumption)) | (show _ ≤ _; first | omega | (simp; done) | (simp; omega)))), fun _ e => (by cases e)⟩
  · have h3 : (l.length : Int) ≤ 1000 := by omega
    have h4 : (0 : Int) < (l.length : Int) := by omega
    have hz : (w.alloc (.cells #[.int .u64 dst, .int .u64 src, .int .i64 seq, .int .i64 kind, .int .i64 par, .string dat] 52)).heap.size = w.heap.size + 1 := by simp
    go_enter Tryz.func96, Tryz.ntmps96
    go_wp2
    go_loopw [6, 7, 8] (fun v1 v2 i wr => ∃ k : Nat, k ≤ l.length ∧ i = .int .i64 k ∧ wr.ownsRow (w.heap.size + 1) 92 7 v1 k (devsL (sentD (l.take k) ⟨dst, src, seq, kind, par, dat⟩)) ∧ wr.ownsRow (w.heap.size + 1) 52 6 v2 (sentA (l.take k) ⟨dst, src, seq, kind, par, dat⟩).length (msgsL (sentA (l.take k) ⟨dst, src, seq, kind, par, dat⟩)) ∧
        Below (w.heap.size + 1) (w.alloc (.cells #[.int .u64 dst, .int .u64 src, .int .i64 seq, .int .i64 kind, .int .i64 par, .string dat] 52)) wr) (fun _ _ i _ => l.length - (intOf i).toNat)
    case atStart => exact ⟨0, Nat.zero_le _, rfl, World.ownsRow_nil _ _ _ _, World.ownsRow_nil _ _ _ _, Below.refl _ _⟩
    case round =>
      obtain ⟨k, hk, rfl, hown1, hown2, hb0⟩ := hrel
      by_cases hlt2 : k < l.length
      · have hlt3 : (k : Int) < (l.length : Int) := by omega
        have hk0 : (0 : Int) ≤ (k : Int) := by omega
        have hwz := hb0.size
        rw [hz] at hwz
        have hbw : Below w.heap.size w wr := ((Below.refl _ _).alloc (Nat.le_refl _) _).trans (below_up hb0 (by omega))
        have hw1 : ∀ j, j < l.length * 7 → wr.cell? ⟨b, off + j, none⟩ = devsC l j := fun j hj => (hbw.cell (p := ⟨b, off + j, none⟩) hlt).trans (hc j hj)
        obtain ⟨d, hd, e0, e1, e2, e3, e4, e5, e6⟩ := dev_cells hw1 k hlt2
        have HD := Lib.hid hd
        have HT := Lib.hid (take_succ_some hd)
        have hcd := HALL.out d (List.mem_of_getElem? hd)
        have hM : RowAt wr w.heap.size 52 #[.int .u64 dst, .int .u64 src, .int .i64 seq, .int .i64 kind, .int .i64 par, .string dat] := RowAt.below (RowAt.new _ _ _) hb0 (by omega)
        obtain ⟨m1, m2, m3, m4, m5, m6⟩ := row_facts hM
        obtain ⟨d', a', q, hra⟩ : ∃ d' a' q, recvD d ⟨dst, src, seq, kind, par, dat⟩ = (d', a', q) := ⟨_, _, _, rfl⟩
        have crc := fun W => rcvd_any d.id d.ft d.ad d.hr dst src seq kind par d.lb dat d.mu d.idf W hcd HM.out hds
        rw [show (⟨d.id, d.ft, d.ad, d.lb, d.hr, d.mu, d.idf⟩ : Dev) = d from rfl, hra] at crc
        have CR := Lib.hid crc
        have HRA := Lib.hid hra
        have hlen := sentA_length (l.take k) ⟨dst, src, seq, kind, par, dat⟩
        have hlen2 : (sentA (l.take k) ⟨dst, src, seq, kind, par, dat⟩).length ≤ 1000 := by have := List.length_take_le k l; omega
        clear hc hw1 hd crc hra hcd hlen
        go_wp2
        go_cut [9, 10, 11] (fun s9 s10 s11 wx => ∃ g p : Nat, s9 = .pointer (some ⟨g, 0, none⟩) ∧ s10 = .pointer (some ⟨p, 0, none⟩) ∧ s11 = .bool q ∧ wr.heap.size ≤ g ∧ wr.heap.size ≤ p ∧ ¬ g = p ∧ RowAt wx g 92 #[.int .u64 d'.id, .int .i64 d'.ft, .int .i64 d'.ad, .string d'.lb, .int .i64 d'.hr, .bool d'.mu, .bool d'.idf] ∧ RowAt wx p 52 #[.int .u64 a'.dst, .int .u64 a'.src, .int .i64 a'.seq, .int .i64 a'.kind, .int .i64 a'.par, .string a'.dat] ∧ Below wr.heap.size wr wx)
        case first =>
          have hbl : b < wr.heap.size := by omega
          (try (have hn : ¬ b = wr.heap.size := (by omega); have hn' : ¬ wr.heap.size = b := (by omega)))
          (try (have hn : ¬ b = wr.heap.size + 1 := (by omega); have hn' : ¬ wr.heap.size + 1 = b := (by omega)))
          (try (have hn : ¬ w.heap.size = wr.heap.size := (by omega); have hn' : ¬ wr.heap.size = w.heap.size := (by omega)))
          (try (have hn : ¬ w.heap.size = wr.heap.size + 1 := (by omega); have hn' : ¬ wr.heap.size + 1 = w.heap.size := (by omega)))
          go_region_held3 (fun w' => w'.cell? ⟨b, off + k * 7, none⟩ = some (.int .u64 d.id) ∧ w'.cell? ⟨b, off + k * 7 + 1, none⟩ = some (.int .i64 d.ft) ∧ w'.cell? ⟨b, off + k * 7 + 2, none⟩ = some (.int .i64 d.ad) ∧ w'.cell? ⟨b, off + k * 7 + 3, none⟩ = some (.string d.lb) ∧ w'.cell? ⟨b, off + k * 7 + 4, none⟩ = some (.int .i64 d.hr) ∧ w'.cell? ⟨b, off + k * 7 + 5, none⟩ = some (.bool d.mu) ∧ w'.cell? ⟨b, off + k * 7 + 6, none⟩ = some (.bool d.idf) ∧ w'.cell? ⟨w.heap.size, 0, none⟩ = some (.int .u64 dst) ∧ w'.cell? ⟨w.heap.size, 1, none⟩ = some (.int .u64 src) ∧ w'.cell? ⟨w.heap.size, 2, none⟩ = some (.int .i64 seq) ∧ w'.cell? ⟨w.heap.size, 3, none⟩ = some (.int .i64 kind) ∧ w'.cell? ⟨w.heap.size, 4, none⟩ = some (.int .i64 par) ∧ w'.cell? ⟨w.heap.size, 5, none⟩ = some (.string dat)) (go_keep)
            (first | (go_at_call 133; refine (CR.out _).mono ?_; rintro e w4 ⟨rfl, hb⟩; have hz4 := hb.size; (try simp at hz4); have hbl6 : b < w4.heap.size := (by omega); (try (have hn : ¬ b = w4.heap.size := (by omega); have hn' : ¬ w4.heap.size = b := (by omega))); (try (have hn : ¬ b = w4.heap.size + 1 := (by omega); have hn' : ¬ w4.heap.size + 1 = b := (by omega))); (try (have hn : ¬ w.heap.size = w4.heap.size := (by omega); have hn' : ¬ w4.heap.size = w.heap.size := (by omega))); (try (have hn : ¬ w.heap.size = w4.heap.size + 1 := (by omega); have hn' : ¬ w4.heap.size + 1 = w.heap.size := (by omega))); (try (have hn : ¬ wr.heap.size = w4.heap.size := (by omega); have hn' : ¬ w4.heap.size = wr.heap.size := (by omega))); (try (have hn : ¬ wr.heap.size = w4.heap.size + 1 := (by omega); have hn' : ¬ w4.heap.size + 1 = wr.heap.size := (by omega))); (try (have hn : ¬ wr.heap.size + 1 = w4.heap.size := (by omega); have hn' : ¬ w4.heap.size = wr.heap.size + 1 := (by omega))); (try (have hn : ¬ wr.heap.size + 1 = w4.heap.size + 1 := (by omega); have hn' : ¬ w4.heap.size + 1 = wr.heap.size + 1 := (by omega))); have hMM : RowAt w4 w.heap.size 52 #[.int .u64 dst, .int .u64 src, .int .i64 seq, .int .i64 kind, .int .i64 par, .string dat] := (by (repeat' (first | (with_reducible assumption) | (with_reducible refine RowAt.drewN ?_ _) | (with_reducible refine RowAt.drew ?_) | (with_reducible apply RowAt.six) | (with_reducible apply RowAt.seven) | ((with_reducible refine RowAt.mk ?_ ?_); (focus (first | rfl | (simp; done))); rfl) | (with_reducible refine RowAt.alloc ?_ _) | (with_reducible refine RowAt.far ?_ ?_) | (with_reducible refine RowAt.run ?_ (by assumption)) | (with_reducible refine RowAt.below ?_ (by assumption) ?_) | (with_reducible refine RowAt.upd ?_ (by assumption) ?_) | (show _ < _; first | omega | (simp; done) | (simp; omega)) | (show ¬ _ = _; first | omega | (simp; done) | (simp; omega)) | exact rfl))); obtain ⟨hMMa, hMMb, hMMc, hMMd, hMMe, hMMf⟩ := row_facts hMM; (try (refine have_of (p := RowAt w4 wr.heap.size 92 #[.int .u64 0, .int .i64 0, .int .i64 0, .string ⟨#[]⟩, .int .i64 0, .bool false, .bool false]) ?_ ?_; (focus ((repeat' (first | (with_reducible assumption) | (with_reducible refine RowAt.drewN ?_ _) | (with_reducible refine RowAt.drew ?_) | (with_reducible apply RowAt.seven) | (with_reducible apply RowAt.six) | (with_reducible refine RowAt.far7 ?_ ?_) | (with_reducible refine RowAt.far6 ?_ ?_) | (with_reducible refine RowAt.far1 ?_ ?_) | ((with_reducible refine RowAt.mk ?_ ?_); (focus (first | (with_reducible rfl) | (simp; done))); rfl) | (with_reducible refine RowAt.alloc ?_ _) | (with_reducible refine RowAt.run ?_ (by assumption)) | (with_reducible refine RowAt.below ?_ (by assumption) ?_) | (with_reducible refine RowAt.upd ?_ (by assumption) ?_) | (with_reducible show _ < _; first | omega | (simp; done) | (simp; omega)) | (with_reducible show ¬ _ = _; first | omega | (simp; done) | (simp; omega)) | (with_reducible exact rfl))); done)); intro hx; obtain ⟨x1, x2, x3, x4, x5, x6⟩ := row_facts hx)); (try (refine have_of (p := RowAt w4 wr.heap.size 52 #[.int .u64 0, .int .u64 0, .int .i64 0, .int .i64 0, .int .i64 0, .string ⟨#[]⟩]) ?_ ?_; (focus ((repeat' (first | (with_reducible assumption) | (with_reducible refine RowAt.drewN ?_ _) | (with_reducible refine RowAt.drew ?_) | (with_reducible apply RowAt.seven) | (with_reducible apply RowAt.six) | (with_reducible refine RowAt.far7 ?_ ?_) | (with_reducible refine RowAt.far6 ?_ ?_) | (with_reducible refine RowAt.far1 ?_ ?_) | ((with_reducible refine RowAt.mk ?_ ?_); (focus (first | (with_reducible rfl) | (simp; done))); rfl) | (with_reducible refine RowAt.alloc ?_ _) | (with_reducible refine RowAt.run ?_ (by assumption)) | (with_reducible refine RowAt.below ?_ (by assumption) ?_) | (with_reducible refine RowAt.upd ?_ (by assumption) ?_) | (with_reducible show _ < _; first | omega | (simp; done) | (simp; omega)) | (with_reducible show ¬ _ = _; first | omega | (simp; done) | (simp; omega)) | (with_reducible exact rfl))); done)); intro hx; obtain ⟨x1, x2, x3, x4, x5, x6⟩ := row_facts hx)); (try (refine have_of (p := RowAt w4 (wr.heap.size + 1) 92 #[.int .u64 0, .int .i64 0, .int .i64 0, .string ⟨#[]⟩, .int .i64 0, .bool false, .bool false]) ?_ ?_; (focus ((repeat' (first | (with_reducible assumption) | (with_reducible refine RowAt.drewN ?_ _) | (with_reducible refine RowAt.drew ?_) | (with_reducible apply RowAt.seven) | (with_reducible apply RowAt.six) | (with_reducible refine RowAt.far7 ?_ ?_) | (with_reducible refine RowAt.far6 ?_ ?_) | (with_reducible refine RowAt.far1 ?_ ?_) | ((with_reducible refine RowAt.mk ?_ ?_); (focus (first | (with_reducible rfl) | (simp; done))); rfl) | (with_reducible refine RowAt.alloc ?_ _) | (with_reducible refine RowAt.run ?_ (by assumption)) | (with_reducible refine RowAt.below ?_ (by assumption) ?_) | (with_reducible refine RowAt.upd ?_ (by assumption) ?_) | (with_reducible show _ < _; first | omega | (simp; done) | (simp; omega)) | (with_reducible show ¬ _ = _; first | omega | (simp; done) | (simp; omega)) | (with_reducible exact rfl))); done)); intro hx; obtain ⟨x1, x2, x3, x4, x5, x6⟩ := row_facts hx)); (try (refine have_of (p := RowAt w4 (wr.heap.size + 1) 52 #[.int .u64 0, .int .u64 0, .int .i64 0, .int .i64 0, .int .i64 0, .string ⟨#[]⟩]) ?_ ?_; (focus ((repeat' (first | (with_reducible assumption) | (with_reducible refine RowAt.drewN ?_ _) | (with_reducible refine RowAt.drew ?_) | (with_reducible apply RowAt.seven) | (with_reducible apply RowAt.six) | (with_reducible refine RowAt.far7 ?_ ?_) | (with_reducible refine RowAt.far6 ?_ ?_) | (with_reducible refine RowAt.far1 ?_ ?_) | ((with_reducible refine RowAt.mk ?_ ?_); (focus (first | (with_reducible rfl) | (simp; done))); rfl) | (with_reducible refine RowAt.alloc ?_ _) | (with_reducible refine RowAt.run ?_ (by assumption)) | (with_reducible refine RowAt.below ?_ (by assumption) ?_) | (with_reducible refine RowAt.upd ?_ (by assumption) ?_) | (with_reducible show _ < _; first | omega | (simp; done) | (simp; omega)) | (with_reducible show ¬ _ = _; first | omega | (simp; done) | (simp; omega)) | (with_reducible exact rfl))); done)); intro hx; obtain ⟨x1, x2, x3, x4, x5, x6⟩ := row_facts hx)); have hbb : Below wr.heap.size wr w4 := (by (repeat' (first | (with_reducible exact Below.refl _ _) | (with_reducible assumption) | (with_reducible refine below_run ?_ (by assumption)) | (with_reducible refine below_of_upd ?_ (by assumption) ?_) | (with_reducible refine below_drewN ?_ _) | (with_reducible refine Below.drew ?_) | (with_reducible refine below_seven ?_ ?_) | (with_reducible refine below_six ?_ ?_) | (with_reducible refine below_one ?_ ?_) | (with_reducible refine Below.alloc ?_ ?_ _) | (with_reducible refine below_after ?_ ?_ (by assumption)) | (show _ ≤ _; first | omega | (simp; done) | (simp; omega))))); have E0 := (hbb.cell (p := ⟨b, off + k * 7, none⟩) hbl).trans e0; have E1 := (hbb.cell (p := ⟨b, off + k * 7 + 1, none⟩) hbl).trans e1; have E2 := (hbb.cell (p := ⟨b, off + k * 7 + 2, none⟩) hbl).trans e2; have E3 := (hbb.cell (p := ⟨b, off + k * 7 + 3, none⟩) hbl).trans e3; have E4 := (hbb.cell (p := ⟨b, off + k * 7 + 4, none⟩) hbl).trans e4; have E5 := (hbb.cell (p := ⟨b, off + k * 7 + 5, none⟩) hbl).trans e5; have E6 := (hbb.cell (p := ⟨b, off + k * 7 + 6, none⟩) hbl).trans e6))
          all_goals (go_wp2_with fail; go_meet)
          all_goals (refine ⟨_, _, rfl, rfl, rfl, ?_, ?_, ?_, ?_, ?_, ?_⟩; (focus omega); (focus omega); (focus omega); (focus ((repeat' (first | (with_reducible assumption) | (with_reducible refine RowAt.drewN ?_ _) | (with_reducible refine RowAt.drew ?_) | (with_reducible apply RowAt.seven) | (with_reducible apply RowAt.six) | (with_reducible refine RowAt.far7 ?_ ?_) | (with_reducible refine RowAt.far6 ?_ ?_) | (with_reducible refine RowAt.far1 ?_ ?_) | ((with_reducible refine RowAt.mk ?_ ?_); (focus (first | (with_reducible rfl) | (simp; done))); rfl) | (with_reducible refine RowAt.alloc ?_ _) | (with_reducible refine RowAt.run ?_ (by assumption)) | (with_reducible refine RowAt.below ?_ (by assumption) ?_) | (with_reducible refine RowAt.upd ?_ (by assumption) ?_) | (with_reducible show _ < _; first | omega | (simp; done) | (simp; omega)) | (with_reducible show ¬ _ = _; first | omega | (simp; done) | (simp; omega)) | (with_reducible exact rfl))); done)); (focus ((repeat' (first | (with_reducible assumption) | (with_reducible refine RowAt.drewN ?_ _) | (with_reducible refine RowAt.drew ?_) | (with_reducible apply RowAt.seven) | (with_reducible apply RowAt.six) | (with_reducible refine RowAt.far7 ?_ ?_) | (with_reducible refine RowAt.far6 ?_ ?_) | (with_reducible refine RowAt.far1 ?_ ?_) | ((with_reducible refine RowAt.mk ?_ ?_); (focus (first | (with_reducible rfl) | (simp; done))); rfl) | (with_reducible refine RowAt.alloc ?_ _) | (with_reducible refine RowAt.run ?_ (by assumption)) | (with_reducible refine RowAt.below ?_ (by assumption) ?_) | (with_reducible refine RowAt.upd ?_ (by assumption) ?_) | (with_reducible show _ < _; first | omega | (simp; done) | (simp; omega)) | (with_reducible show ¬ _ = _; first | omega | (simp; done) | (simp; omega)) | (with_reducible exact rfl))); done)); ((repeat' (first | (with_reducible exact Below.refl _ _) | (with_reducible assumption) | (with_reducible refine below_run ?_ (by assumption)) | (with_reducible refine below_of_upd ?_ (by assumption) ?_) | (with_reducible refine below_drewN ?_ _) | (with_reducible refine Below.drew ?_) | (with_reducible refine below_seven ?_ ?_) | (with_reducible refine below_six ?_ ?_) | (with_reducible refine below_one ?_ ?_) | (with_reducible refine Below.alloc ?_ ?_ _) | (with_reducible refine below_after ?_ ?_ (by assumption)) | (show _ ≤ _; first | omega | (simp; done) | (simp; omega)))); done))
        case rest =>
          obtain ⟨g, p, rfl, rfl, rfl, hg, hp, hgp, kd, ka, kb⟩ := hcut
          have own1 := own_run hown1 kb
          have own2 := own_run hown2 kb
          have hM' := hM.run kb
          have hbk : Below (w.heap.size + 1) (w.alloc (.cells #[.int .u64 dst, .int .u64 src, .int .i64 seq, .int .i64 kind, .int .i64 par, .string dat] 52)) wc := hb0.trans (below_up kb (by omega))
          have hsz := hbk.size
          rw [hz] at hsz
          obtain ⟨d1, d2, d3, d4, d5, d6⟩ := row_facts kd
          have hsd : devsL (sentD (l.take (k + 1)) ⟨dst, src, seq, kind, par, dat⟩) = devsL (sentD (l.take k) ⟨dst, src, seq, kind, par, dat⟩) ++ [Value.int IntKind.u64 d'.id, Value.int IntKind.i64 d'.ft, Value.int IntKind.i64 d'.ad, Value.string d'.lb, Value.int IntKind.i64 d'.hr, Value.bool d'.mu, Value.bool d'.idf] := by
            rw [HT.out, sentD_snoc, HRA.out, devsL_append]; rfl
          have HSD := Lib.hid hsd
          have hsa : sentA (l.take (k + 1)) ⟨dst, src, seq, kind, par, dat⟩ = sentA (l.take k) ⟨dst, src, seq, kind, par, dat⟩ ++ if q then [a'] else [] := by rw [HT.out, sentA_snoc, HRA.out]
          have HSA := Lib.hid hsa
          clear hown1 hown2 hM hsd hsa e0 e1 e2 e3 e4 e5 e6 m1 m2 m3 m4 m5 m6 hb0 hbw hwz
          go_wp2_with (at_builtin; refine wpList_append_own _ rfl (.tmp 28) (.tmp 30) 42 rfl (w.heap.size + 1) 92 i0 _ 7 56 Tryz.underlying42 hi hz0 hz1 hz2 rfl (by decide) _ _ _ rfl (own1.alloc _) ⟨wc.heap.size, 0, none⟩ 1 1 (devA d').toList rfl rfl ?c1 (dev_ones d') ?c3 ?c4 ?c5 ?_)
          case c1 => exact dev_news (d := d') (RowAt.mk (by simp) rfl)
          case c3 => unfold maxLen; omega
          case c4 => omega
          case c5 => simp; omega
          · intro v' w1 hown1 hgrow _
            have hown2 := own_two (own1.alloc _) (own2.alloc _) (by decide) hgrow
            have hb1 := below_grown (hbk.alloc (by omega) _) (own1.alloc _) (Nat.le_refl _) hgrow (by simp; omega)
            have ka1 := row_two (own1.alloc _) (ka.alloc _) (by decide) hgrow
            have hsz1 := hb1.size
            rw [hz] at hsz1
            obtain ⟨x1, x2, x3, x4, x5, x6⟩ := row_facts ka1
            clear own1 own2 hgrow kd ka hM' d1 d2 d3 d4 d5 d6
            cases q
            · go_wp2
              go_roundw
              case rel => exact ⟨k + 1, by omega, by go_num, by rw [HSD.out]; exact hown1, by rw [HSA.out]; simpa using hown2, hb1⟩
              case measure => simp [intOf]; omega
            · go_wp2_with (at_builtin; refine wpList_append_own _ rfl (.tmp 33) (.tmp 35) 138 rfl (w.heap.size + 1) 52 i1 _ 6 56 Tryz.underlying138 hi' hz0' hz1' hz2' rfl (by decide) _ _ _ rfl (hown2.alloc _) ⟨w1.heap.size, 0, none⟩ 1 1 (msgA a').toList rfl rfl ?e1 (msg_ones a') ?e3 ?e4 ?e5 ?_)
              case e1 => first | exact msg_news (d := a') (RowAt.mk (by first | rfl | simp) rfl) | (intro j u hj; simpa [msgA] using hj)
              case e3 => unfold maxLen; omega
              case e4 => omega
              case e5 => first | omega | (simp; omega)
              · intro v2' w2 hown2' hgrow2 _
                have hown1' := own_two (hown2.alloc _) (hown1.alloc _) (by decide) hgrow2
                have hb2 := below_grown (hb1.alloc (by omega) _) (hown2.alloc _) (Nat.le_refl _) hgrow2 (by simp; omega)
                clear hown1 hown2 hgrow2
                go_wp2
                go_roundw
                case rel => exact ⟨k + 1, by omega, by go_num, by rw [HSD.out]; exact hown1', by rw [HSA.out]; simp only [if_true, List.length_append, msgsL_append]; exact hown2', hb2⟩
                case measure => simp [intOf]; omega
      · obtain rfl : k = l.length := by omega
        go_wp2
        go_ret2
        rw [List.take_length] at hown1 hown2
        have hlen := sentA_length l ⟨dst, src, seq, kind, par, dat⟩
        exact ⟨_, _, rfl, own_devs (by rw [sentD_length]; exact hown1) (by rw [sentD_length]; omega), own_msgs hown2 (by omega), ((Below.refl _ _).alloc (Nat.le_refl _) _).trans (below_up hb0 (by omega)), fun g hg => (by have := (hown1.lt g hg).1; omega)⟩

theorem sent_any (v : Value) (l : List Dev) (dst src seq kind par : Int) (dat : ByteArray) (w : World) (hv : DevsAt w v l) (hl : l.length ≤ 1000) (hd : ∀ d ∈ l, chkD d = 0) (hm : chk ⟨dst, src, seq, kind, par, dat⟩ = 0) (hds : dat.size ≤ 9223372036854775807) :
    Calls Tryz.prog 96 #[v, .agg #[.int .u64 dst, .int .u64 src, .int .i64 seq, .int .i64 kind, .int .i64 par, .string dat]] w fun e w' => ∃ v1 v2, e = .returned (.tuple #[v1, v2]) ∧ DevsAt w' v1 (sentD l ⟨dst, src, seq, kind, par, dat⟩) ∧ MsgsAt w' v2 (sentA l ⟨dst, src, seq, kind, par, dat⟩) ∧ Below w.heap.size w w' :=
  (sentF_any v l dst src seq kind par dat w hv hl hd hm hds).mono fun _ _ ⟨v1, v2, h1, h2, h3, h4, _⟩ => ⟨v1, v2, h1, h2, h3, h4⟩

end Go.Proofs.YtpkhcehddfmhpaaGreat
