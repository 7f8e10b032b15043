/-
  The reference's search: its state; a message is sent; an order.
  The reference's search: what is known; a device is muted.
  Identities appended to a slice of the call's own.
-/
import Derived.Test.YtiemdccjphdbmaaGreatSk
import Derived.Test.YtiemdccjphdbmaaGreatBusX
import Derived.Test.YtiemdccjphdbmaaGreatRreqM
import Derived.Laws.AppendOwnNone
namespace Go.Proofs.YtiemdccjphdbmaaGreat
open Go.RowKit

/-- A block that holds a state of the reference's search, or one to come. -/
def Mine (w : World) (k : Nat) : Prop := ∃ cs, RowAt w k 86 cs ∧ cs.size = 6 ∧ ∃ a n c, cs[0]? = some (.slice a n c)
/-- Of old memory at most such blocks have changed. -/
structure Own6 (w w' : World) : Prop where
  size : w.heap.size ≤ w'.heap.size
  far : ∀ k, k < w.heap.size → ¬ Mine w k → w'.heap[k]? = w.heap[k]?
theorem own6_refl (w : World) : Own6 w w := ⟨Nat.le_refl _, fun _ _ _ => rfl⟩
theorem own6_set {a w : World} (h : Own6 a w) {g i : Nat} (hg : Mine a g) (u : Value) : Own6 a (w.setCell ⟨g, i, none⟩ u) :=
  ⟨by simpa using h.size, fun k hk hn => (heap_setCell_other w ⟨g, i, none⟩ k u (fun e => hn (by subst e; exact hg))).trans (h.far k hk hn)⟩
theorem own6_drew {a w : World} (h : Own6 a w) : Own6 a w.drew := ⟨h.size, h.far⟩
theorem own6_drewN {a w : World} (h : Own6 a w) (n : Nat) : Own6 a (w.drewN n) := ⟨h.size, h.far⟩
theorem own6_alloc {a w : World} (h : Own6 a w) (o : Obj) : Own6 a (w.alloc o) := ⟨by have := h.size; simp; omega, fun k hk hn => (Below.heap_alloc w o k (by have := h.size; omega)).trans (h.far k hk hn)⟩

/-- A nil slice is written in one way. -/
def NilOk (v : Value) : Prop := ∀ n c, v = .slice none n c → v = .slice none 0 0

/-- What a state of the reference's search holds. -/
structure RPar (w : World) (kv dv fv : Value) (t : SSt) : Prop where
  known : IdsAt w kv t.known
  kty : Typed w kv 23
  devs : DevsAt w dv t.devs
  found : IdsAt w fv t.found
  fty : Typed w fv 23
  kz : NilOk kv
  fz : NilOk fv
theorem RPar.run {w w' : World} {kv dv fv : Value} {t : SSt} (h : RPar w kv dv fv t) (hb : Below w.heap.size w w') : RPar w' kv dv fv t :=
  ⟨h.known.run hb, h.kty.run hb, h.devs.run hb, h.found.run hb, h.fty.run hb, h.kz, h.fz⟩
theorem mine_other {w : World} {k T : Nat} {cur : Array Value} {x : Nat × Nat} (hg : w.heap[k]? = some (.cells cur T x)) (hT : T ≠ 86) : ¬ Mine w k := by
  rintro ⟨cs, hr, _⟩
  unfold RowAt at hr
  rw [hr] at hg
  simp at hg
  exact hT hg.2.1.symm
theorem Typed.six {w w' : World} {v : Value} (h : Typed w v 23) (ho : Own6 w w') : Typed w' v 23 :=
  h.same fun k cur x hg => ho.far k (lt_of_block hg) (mine_other hg (by decide))
theorem IdsAt.six {w w' : World} {v : Value} {l : List Int} (h : IdsAt w v l) (ht : Typed w v 23) (ho : Own6 w w') : IdsAt w' v l := by
  refine SeqAt.same h ho.size fun b off cap e _ _ => ?_
  obtain ⟨cur, x, hg⟩ := ht _ _ _ e
  exact ho.far b (lt_of_block hg) (mine_other hg (by decide))
theorem DevsAt.six {w w' : World} {v : Value} {l : List Dev} (h : DevsAt w v l) (ho : Own6 w w') : DevsAt w' v l := by
  refine SeqAt.same h ho.size fun b off cap _ h0 hc => ?_
  have h7 := devsC_at l 0 h0 0 (by decide)
  have hc0 := hc 0 (by omega)
  rw [show 0 * 7 + 0 = 0 from rfl] at h7
  rw [h7] at hc0
  refine ho.far b (World.block_lt_of_cell? w _ hc0) ?_
  rintro ⟨cs, hr, h6, _⟩
  exact devs_apart hr h6 h0 rfl hc rfl
theorem MsgsAt.six {w w' : World} {v : Value} {l : List Msg} (h : MsgsAt w v l) (ho : Own6 w w') : MsgsAt w' v l := by
  refine SeqAt.same h ho.size fun b off cap _ h0 hc => ?_
  have hlt : b < w.heap.size := by
    cases l with
    | nil => cases h0
    | cons a l =>
      have hc0 := hc 0 (by simp)
      exact World.block_lt_of_cell? w _ hc0
  refine ho.far b hlt ?_
  rintro ⟨cs, hr, h6, hs⟩
  exact msgs_apart hr h6 hs h0 rfl hc rfl
theorem RPar.six {w w' : World} {kv dv fv : Value} {t : SSt} (h : RPar w kv dv fv t) (ho : Own6 w w') : RPar w' kv dv fv t :=
  ⟨h.known.six h.kty ho, h.kty.six ho, h.devs.six ho, h.found.six h.fty ho, h.fty.six ho, h.kz, h.fz⟩

/-- The cells of a state. -/
def stA (kv dv : Value) (src seq : Int) (fv : Value) (n : Int) : Array Value := #[kv, dv, .int .u64 src, .int .i64 seq, fv, .int .i64 n]
/-- A value is a state. -/
def RSt (w : World) (src : Int) (t : SSt) (x : Value) : Prop := ∃ ka kn kc da dn dc fa fn fc, x = .agg (stA (.slice ka kn kc) (.slice da dn dc) src t.seq (.slice fa fn fc) (IntKind.i64.wrap t.msgs)) ∧ RPar w (.slice ka kn kc) (.slice da dn dc) (.slice fa fn fc) t
/-- A value is a state, with what is known and what was found as they are. -/
def RStK (w : World) (B : Nat) (src : Int) (t : SSt) (kv fv x : Value) : Prop := ∃ da dn dc, x = .agg (stA kv (.slice da dn dc) src t.seq fv (IntKind.i64.wrap t.msgs)) ∧ RPar w kv (.slice da dn dc) fv t ∧ ∀ g, (Value.slice da dn dc).ownBlock = some g → B ≤ g
theorem RStK.weak {w : World} {B : Nat} {src : Int} {t : SSt} {ka fa : Option Addr} {kn kc fn fc : Nat} {x : Value} (h : RStK w B src t (.slice ka kn kc) (.slice fa fn fc) x) : RSt w src t x := by
  obtain ⟨da, dn, dc, rfl, hp, _⟩ := h
  exact ⟨ka, kn, kc, da, dn, dc, fa, fn, fc, rfl, hp⟩
theorem RSt.run {w w' : World} {src : Int} {t : SSt} {x : Value} (h : RSt w src t x) (hb : Below w.heap.size w w') : RSt w' src t x := by
  obtain ⟨ka, kn, kc, da, dn, dc, fa, fn, fc, rfl, hp⟩ := h
  exact ⟨ka, kn, kc, da, dn, dc, fa, fn, fc, rfl, hp.run hb⟩
theorem RSt.six {w w' : World} {src : Int} {t : SSt} {x : Value} (h : RSt w src t x) (ho : Own6 w w') : RSt w' src t x := by
  obtain ⟨ka, kn, kc, da, dn, dc, fa, fn, fc, rfl, hp⟩ := h
  exact ⟨ka, kn, kc, da, dn, dc, fa, fn, fc, rfl, hp.six ho⟩

set_option maxHeartbeats 1000000 in
set_option maxRecDepth 100000 in
theorem rorder_any (kv dv fv : Value) (src seq n k x : Int) (w : World) (hk : ∃ a n c, kv = .slice a n c) (hd : ∃ a n c, dv = .slice a n c) (hf : ∃ a n c, fv = .slice a n c) :
    Calls Tryz.prog 85 #[.agg #[kv, dv, .int .u64 src, .int .i64 seq, fv, .int .i64 n], .int .i64 k, .int .u64 x] w fun e w' => e = .returned (.agg #[.int .u64 x, .int .u64 src, .int .i64 seq, .int .i64 k, .int .i64 0, .string ⟨#[]⟩]) ∧ Below w.heap.size w w' := by
  obtain ⟨ka, kn, kc, rfl⟩ := hk
  obtain ⟨da, dn, dc, rfl⟩ := hd
  obtain ⟨fa, fn, fc, rfl⟩ := hf
  go_enter Tryz.func85, Tryz.ntmps85
  go_wp2
  refine bodyPost_ret (v := .agg #[.int .u64 x, .int .u64 src, .int .i64 seq, .int .i64 k, .int .i64 0, .string ⟨#[]⟩]) ?_ rfl ⟨rfl, by (repeat' (first | (with_reducible exact Below.refl _ _) | (with_reducible assumption) | (with_reducible refine below_run ?_ (by assumption)) | (with_reducible refine below_of_upd ?_ (by assumption) ?_) | (with_reducible refine below_drewN ?_ _) | (with_reducible refine Below.drew ?_) | (with_reducible refine below_seven ?_ ?_) | (with_reducible refine below_six ?_ ?_) | (with_reducible refine below_one ?_ ?_) | (with_reducible refine Below.alloc ?_ ?_ _) | (with_reducible refine below_after ?_ ?_ (by assumption)) | (show _ ≤ _; first | omega | (simp; done) | (simp; omega))))⟩
  simp [results, Tryz.results85, go_sem]

set_option maxHeartbeats 4000000 in
set_option maxRecDepth 100000 in
theorem rsendK_any (ka da fa : Option Addr) (kn kc dn dc fn fc : Nat) (sr : Int) (t : SSt) (dst src seq kind par : Int) (dat : ByteArray) (w : World) (h : RPar w (.slice ka kn kc) (.slice da dn dc) (.slice fa fn fc) t) (hd : devsE t.devs = 0) (hm : chk ⟨dst, src, seq, kind, par, dat⟩ = 0) (q0 : 0 ≤ t.seq) (q1 : t.seq ≤ 255) :
    Calls Tryz.prog 84 #[.agg #[.slice ka kn kc, .slice da dn dc, .int .u64 sr, .int .i64 t.seq, .slice fa fn fc, .int .i64 (IntKind.i64.wrap t.msgs)], .agg #[.int .u64 dst, .int .u64 src, .int .i64 seq, .int .i64 kind, .int .i64 par, .string dat]] w
      fun e w' => ∃ x v, e = .returned (.tuple #[x, v]) ∧ RStK w' w.heap.size sr (sendS t ⟨dst, src, seq, kind, par, dat⟩) (.slice ka kn kc) (.slice fa fn fc) x ∧ MsgsAt w' v (sentA t.devs ⟨dst, src, seq, kind, par, dat⟩) ∧ Below w.heap.size w w' := by
  have hds : dat.size ≤ 9223372036854775807 := by have := small_of_chk hm; simp only at this; omega
  have hl := devs_few hd
  obtain ⟨N, hN⟩ : ∃ N, IntKind.i64.wrap (t.msgs : Int) = N := ⟨_, rfl⟩
  have hN2 := wrap_more t.msgs
  rw [hN] at hN2 ⊢
  have HN := Lib.hid hN2
  have hw1 : (t.seq + 1).tmod 256 = (t.seq + 1) % 256 := Int.tmod_eq_emod_of_nonneg (by omega)
  obtain ⟨W, hW⟩ : ∃ W, ((w.alloc (.cells #[.slice ka kn kc, .slice da dn dc, .int .u64 sr, .int .i64 t.seq, .slice fa fn fc, .int .i64 N] 86)).alloc (.cells #[.int .u64 dst, .int .u64 src, .int .i64 seq, .int .i64 kind, .int .i64 par, .string dat] 43)).alloc (.cells #[.slice none 0 0, .slice none 0 0, .int .u64 0, .int .i64 0, .slice none 0 0, .int .i64 0] 86) = W := ⟨_, rfl⟩
  have hbW : Below w.heap.size w W := by rw [← hW]; (repeat' (first | (with_reducible exact Below.refl _ _) | (with_reducible assumption) | (with_reducible refine below_run ?_ (by assumption)) | (with_reducible refine below_of_upd ?_ (by assumption) ?_) | (with_reducible refine below_drewN ?_ _) | (with_reducible refine Below.drew ?_) | (with_reducible refine below_seven ?_ ?_) | (with_reducible refine below_six ?_ ?_) | (with_reducible refine below_one ?_ ?_) | (with_reducible refine Below.alloc ?_ ?_ _) | (with_reducible refine below_after ?_ ?_ (by assumption)) | (show _ ≤ _; first | omega | (simp; done) | (simp; omega))))
  have hp := h.run hbW
  have C := Lib.hid (sentF_any _ t.devs dst src seq kind par dat W hp.devs (by omega) (devs_chk hd) hm hds)
  have r0 : RowAt W w.heap.size 86 #[.slice ka kn kc, .slice da dn dc, .int .u64 sr, .int .i64 t.seq, .slice fa fn fc, .int .i64 N] := by rw [← hW]; exact ((RowAt.new _ _ _).alloc _).alloc _
  have r2 : RowAt W (w.heap.size + 1 + 1) 86 #[.slice none 0 0, .slice none 0 0, .int .u64 0, .int .i64 0, .slice none 0 0, .int .i64 0] := by rw [← hW]; exact RowAt.mk (by simp) rfl
  have r1 : RowAt W (w.heap.size + 1) 43 #[.int .u64 dst, .int .u64 src, .int .i64 seq, .int .i64 kind, .int .i64 par, .string dat] := by rw [← hW]; exact (RowAt.mk (by simp) rfl).alloc _
  obtain ⟨x1, x2, x3, x4, x5, x6⟩ := row_facts r0
  obtain ⟨y1, y2, y3, y4, y5, y6⟩ := row_facts r1
  have HP := Lib.hid hp
  have HBW := Lib.hid hbW
  clear h hd hm hds hl hp hbW hN hN2
  go_enter Tryz.func84, Tryz.ntmps84
  go_wp2_with fail
  refine C.out.mono ?_
  rintro e w1 ⟨v1, v2, rfl, hd1, ha1, hb1, hfr⟩
  have s0 := r0.run hb1
  have s2 := r2.run hb1
  obtain ⟨d1, d2, d3, rfl⟩ := slice_of hd1
  obtain ⟨p1, p2, p3, p4, p5, p6⟩ := row_facts s0
  obtain ⟨q1, q2, q3, q4, q5, q6⟩ := row_facts s2
  have HFR : Hid (∀ g, (Value.slice d1 d2 d3).ownBlock = some g → w.heap.size ≤ g) := fun g hg => Nat.le_trans HBW.out.size (hfr g hg)
  clear hfr
  have HP1 := Lib.hid (HP.out.run hb1)
  have HB1 := Lib.hid (below_run HBW.out hb1)
  have HD1 := Lib.hid hd1
  have HA1 := Lib.hid ha1
  have S0 := Lib.hid s0
  have S2 := Lib.hid s2
  have hne : ¬ w.heap.size + 2 = w.heap.size := by omega
  have hne' : ¬ w.heap.size = w.heap.size + 2 := by omega
  clear x1 x2 x3 x4 x5 x6 y1 y2 y3 y4 y5 y6 r0 r1 r2 hW C hd1 ha1 hb1 s0 s2
  go_wp2
  have M0 : Mine w1 w.heap.size := ⟨_, S0.out, rfl, _, _, _, rfl⟩
  have M2 : Mine w1 (w.heap.size + 1 + 1) := ⟨_, S2.out, rfl, _, _, _, rfl⟩
  have hne : ¬ w.heap.size + 1 + 1 = w.heap.size := by omega
  have F : RowAt (((((((((w1.setCell ⟨w.heap.size, 1, none⟩ (.slice d1 d2 d3)).setCell ⟨w.heap.size, 3, none⟩ (.int .i64 ((t.seq + 1) % 256))).setCell ⟨w.heap.size, 5, none⟩ (.int .i64 (wrap64 (N + 1)))).setCell ⟨w.heap.size + 1 + 1, 0, none⟩ (.slice ka kn kc)).setCell ⟨w.heap.size + 1 + 1, 1, none⟩ (.slice d1 d2 d3)).setCell ⟨w.heap.size + 1 + 1, 2, none⟩ (.int .u64 sr)).setCell ⟨w.heap.size + 1 + 1, 3, none⟩ (.int .i64 ((t.seq + 1) % 256))).setCell ⟨w.heap.size + 1 + 1, 4, none⟩ (.slice fa fn fc)).setCell ⟨w.heap.size + 1 + 1, 5, none⟩ (.int .i64 (wrap64 (N + 1)))) (w.heap.size + 1 + 1) 86 #[.slice ka kn kc, .slice d1 d2 d3, .int .u64 sr, .int .i64 ((t.seq + 1) % 256), .slice fa fn fc, .int .i64 (wrap64 (N + 1))] ∧ Own6 w1 (((((((((w1.setCell ⟨w.heap.size, 1, none⟩ (.slice d1 d2 d3)).setCell ⟨w.heap.size, 3, none⟩ (.int .i64 ((t.seq + 1) % 256))).setCell ⟨w.heap.size, 5, none⟩ (.int .i64 (wrap64 (N + 1)))).setCell ⟨w.heap.size + 1 + 1, 0, none⟩ (.slice ka kn kc)).setCell ⟨w.heap.size + 1 + 1, 1, none⟩ (.slice d1 d2 d3)).setCell ⟨w.heap.size + 1 + 1, 2, none⟩ (.int .u64 sr)).setCell ⟨w.heap.size + 1 + 1, 3, none⟩ (.int .i64 ((t.seq + 1) % 256))).setCell ⟨w.heap.size + 1 + 1, 4, none⟩ (.slice fa fn fc)).setCell ⟨w.heap.size + 1 + 1, 5, none⟩ (.int .i64 (wrap64 (N + 1)))) ∧ Below w.heap.size w (((((((((w1.setCell ⟨w.heap.size, 1, none⟩ (.slice d1 d2 d3)).setCell ⟨w.heap.size, 3, none⟩ (.int .i64 ((t.seq + 1) % 256))).setCell ⟨w.heap.size, 5, none⟩ (.int .i64 (wrap64 (N + 1)))).setCell ⟨w.heap.size + 1 + 1, 0, none⟩ (.slice ka kn kc)).setCell ⟨w.heap.size + 1 + 1, 1, none⟩ (.slice d1 d2 d3)).setCell ⟨w.heap.size + 1 + 1, 2, none⟩ (.int .u64 sr)).setCell ⟨w.heap.size + 1 + 1, 3, none⟩ (.int .i64 ((t.seq + 1) % 256))).setCell ⟨w.heap.size + 1 + 1, 4, none⟩ (.slice fa fn fc)).setCell ⟨w.heap.size + 1 + 1, 5, none⟩ (.int .i64 (wrap64 (N + 1)))) := by
    have h1 := RowAt.six (v0 := .slice ka kn kc) (v1 := .slice d1 d2 d3) (v2 := .int .u64 sr) (v3 := .int .i64 ((t.seq + 1) % 256)) (v4 := .slice fa fn fc) (v5 := .int .i64 (wrap64 (N + 1))) ((((S2.out).far1 (g := w.heap.size) (i := 1) (u := .slice d1 d2 d3) hne).far1 (g := w.heap.size) (i := 3) (u := .int .i64 ((t.seq + 1) % 256)) hne).far1 (g := w.heap.size) (i := 5) (u := .int .i64 (wrap64 (N + 1))) hne)
    have h2 := own6_set (i := 5) (own6_set (i := 4) (own6_set (i := 3) (own6_set (i := 2) (own6_set (i := 1) (own6_set (i := 0) (own6_set (i := 5) (own6_set (i := 3) (own6_set (i := 1) (own6_refl w1) M0 (.slice d1 d2 d3)) M0 (.int .i64 ((t.seq + 1) % 256))) M0 (.int .i64 (wrap64 (N + 1)))) M2 (.slice ka kn kc)) M2 (.slice d1 d2 d3)) M2 (.int .u64 sr)) M2 (.int .i64 ((t.seq + 1) % 256))) M2 (.slice fa fn fc)) M2 (.int .i64 (wrap64 (N + 1)))
    refine ⟨h1, h2, ?_⟩
    have := HB1.out
    repeat' (first | (with_reducible assumption) | (with_reducible refine below_one ?_ (by omega)))
  generalize ((((((((w1.setCell ⟨w.heap.size, 1, none⟩ (.slice d1 d2 d3)).setCell ⟨w.heap.size, 3, none⟩ (.int .i64 ((t.seq + 1) % 256))).setCell ⟨w.heap.size, 5, none⟩ (.int .i64 (wrap64 (N + 1)))).setCell ⟨w.heap.size + 1 + 1, 0, none⟩ (.slice ka kn kc)).setCell ⟨w.heap.size + 1 + 1, 1, none⟩ (.slice d1 d2 d3)).setCell ⟨w.heap.size + 1 + 1, 2, none⟩ (.int .u64 sr)).setCell ⟨w.heap.size + 1 + 1, 3, none⟩ (.int .i64 ((t.seq + 1) % 256))).setCell ⟨w.heap.size + 1 + 1, 4, none⟩ (.slice fa fn fc)).setCell ⟨w.heap.size + 1 + 1, 5, none⟩ (.int .i64 (wrap64 (N + 1))) = wf at F ⊢
  obtain ⟨hr3, O, hbf⟩ := F
  refine bodyPost_ret (v := .tuple #[.agg #[.slice ka kn kc, .slice d1 d2 d3, .int .u64 sr, .int .i64 ((t.seq + 1) % 256), .slice fa fn fc, .int .i64 (wrap64 (N + 1))], v2]) ?_ rfl ⟨_, v2, rfl, ⟨d1, d2, d3, ?_, ⟨HP1.out.known.six HP1.out.kty O, HP1.out.kty.six O, HD1.out.six O, HP1.out.found.six HP1.out.fty O, HP1.out.fty.six O, HP1.out.kz, HP1.out.fz⟩, HFR.out⟩, HA1.out.six O, hbf⟩
  · simp [results, Tryz.results84, go_sem, cell_fact hr3]
  · show Value.agg #[_, _, _, _, _, _] = Value.agg #[.slice ka kn kc, .slice d1 d2 d3, .int .u64 sr, .int .i64 ((t.seq + 1) % 256), .slice fa fn fc, .int .i64 (IntKind.i64.wrap ((t.msgs + 1 : Nat) : Int))]
    rw [← HN.out, IntWalk.i64_left]
theorem rsend_any (ka da fa : Option Addr) (kn kc dn dc fn fc : Nat) (sr : Int) (t : SSt) (dst src seq kind par : Int) (dat : ByteArray) (w : World) (h : RPar w (.slice ka kn kc) (.slice da dn dc) (.slice fa fn fc) t) (hd : devsE t.devs = 0) (hm : chk ⟨dst, src, seq, kind, par, dat⟩ = 0) (q0 : 0 ≤ t.seq) (q1 : t.seq ≤ 255) :
    Calls Tryz.prog 84 #[.agg #[.slice ka kn kc, .slice da dn dc, .int .u64 sr, .int .i64 t.seq, .slice fa fn fc, .int .i64 (IntKind.i64.wrap t.msgs)], .agg #[.int .u64 dst, .int .u64 src, .int .i64 seq, .int .i64 kind, .int .i64 par, .string dat]] w
      fun e w' => ∃ x v, e = .returned (.tuple #[x, v]) ∧ RSt w' sr (sendS t ⟨dst, src, seq, kind, par, dat⟩) x ∧ MsgsAt w' v (sentA t.devs ⟨dst, src, seq, kind, par, dat⟩) ∧ Below w.heap.size w w' :=
  (rsendK_any ka da fa kn kc dn dc fn fc sr t dst src seq kind par dat w h hd hm q0 q1).mono fun _ _ ⟨x, v, h1, h2, h3, h4⟩ => ⟨x, v, h1, h2.weak, h3, h4⟩
end Go.Proofs.YtiemdccjphdbmaaGreat

namespace Go.Proofs.YtiemdccjphdbmaaGreat
open Go.RowKit

set_option maxHeartbeats 2000000 in
set_option maxRecDepth 100000 in
theorem rholds_any (v : Value) (l : List Int) (x : Int) (w : World) (hv : IdsAt w v l) :
    Calls Tryz.prog 54 #[v, .int .u64 x] w fun e w' => e = .returned (.bool (decide (x ∈ l))) ∧ Below w.heap.size w w' := by
  rcases hv with ⟨h0, a, cap, rfl⟩ | ⟨h0, h1, b, off, cap, rfl, hlt, hc⟩
  · have hl : l = [] := List.eq_nil_of_length_eq_zero h0
    subst hl
    go_enter Tryz.func54, Tryz.ntmps54
    go_wp2
    refine wp_loop_rounds 1 ?_
    rw [rounds_succ]
    go_wp2
    go_ret
    exact ⟨by simp, by (repeat' (first | (with_reducible exact Below.refl _ _) | (with_reducible assumption) | (with_reducible refine below_drewN ?_ _) | (with_reducible refine Below.drew ?_) | (with_reducible refine Below.setCell ?_ ?_ _) | (with_reducible refine Below.alloc ?_ ?_ _) | (with_reducible refine below_after ?_ ?_ (by assumption)) | (show _ ≤ _; first | omega | (simp; done) | (simp; omega))))⟩
  · have h4 : (0 : Int) < (l.length : Int) := by omega
    go_enter Tryz.func54, Tryz.ntmps54
    go_wp2
    go_loopw [5] (fun i wr => ∃ k : Nat, k ≤ l.length ∧ i = .int .i64 k ∧ Hid (x ∉ l.take k) ∧ Below w.heap.size w wr) (fun i _ => l.length - (intOf i).toNat)
    case atStart => exact ⟨0, Nat.zero_le _, rfl, by simp [Hid], by (repeat' (first | (with_reducible exact Below.refl _ _) | (with_reducible assumption) | (with_reducible refine below_drewN ?_ _) | (with_reducible refine Below.drew ?_) | (with_reducible refine Below.setCell ?_ ?_ _) | (with_reducible refine Below.alloc ?_ ?_ _) | (with_reducible refine below_after ?_ ?_ (by assumption)) | (show _ ≤ _; first | omega | (simp; done) | (simp; omega))))⟩
    case round =>
      obtain ⟨j, hj, rfl, hany, hb0⟩ := hrel
      by_cases hlt2 : j < l.length
      · have hlt3 : (j : Int) < (l.length : Int) := by omega
        have hc' : ∀ i, i < l.length * 1 → wr.cell? ⟨b, off + i, none⟩ = u64C l i := fun i hi => (hb0.cell (p := ⟨b, off + i, none⟩) hlt).trans (hc i hi)
        obtain ⟨y, hy, e0⟩ := id_cell hc' j hlt2
        have HS := Lib.hid hy
        have HT := Lib.hid (take_succ_some hy)
        obtain ⟨q, hq⟩ : ∃ q, (y == x) = q := ⟨_, rfl⟩
        have HQ := Lib.hid hq
        clear hc hc' hy
        cases q with
        | true =>
          go_wp2
          go_ret
          have hx : x ∈ l := by
            have := HQ.out
            rw [beq_iff_eq] at this
            subst this
            exact List.mem_of_getElem? HS.out
          exact ⟨ret_bool (by simp [hx]), by (repeat' (first | (with_reducible exact Below.refl _ _) | (with_reducible assumption) | (with_reducible refine below_drewN ?_ _) | (with_reducible refine Below.drew ?_) | (with_reducible refine Below.setCell ?_ ?_ _) | (with_reducible refine Below.alloc ?_ ?_ _) | (with_reducible refine below_after ?_ ?_ (by assumption)) | (show _ ≤ _; first | omega | (simp; done) | (simp; omega))))⟩
        | false =>
          go_wp2
          go_roundw
          case rel =>
            refine ⟨j + 1, by omega, by go_num, ?_, by (repeat' (first | (with_reducible exact Below.refl _ _) | (with_reducible assumption) | (with_reducible refine below_drewN ?_ _) | (with_reducible refine Below.drew ?_) | (with_reducible refine Below.setCell ?_ ?_ _) | (with_reducible refine Below.alloc ?_ ?_ _) | (with_reducible refine below_after ?_ ?_ (by assumption)) | (show _ ≤ _; first | omega | (simp; done) | (simp; omega))))⟩
            show x ∉ _
            have h1 := HQ.out
            have h2 : y ≠ x := by simpa using h1
            rw [HT.out, List.mem_append]
            rintro (h | h)
            · exact hany.out h
            · exact h2 (List.mem_singleton.1 h).symm
          case measure => simp [intOf]; omega
      · have hlt3 : ¬ (j : Int) < (l.length : Int) := by omega
        obtain rfl : j = l.length := by omega
        rw [List.take_length] at hany
        go_wp2
        go_ret
        exact ⟨ret_bool (by simp [hany.out]), hb0⟩

set_option maxHeartbeats 4000000 in
set_option maxRecDepth 100000 in
theorem rmutedK_any (ka da fa : Option Addr) (kn kc dn dc fn fc : Nat) (sr : Int) (t : SSt) (x : Int) (w : World) (h : RPar w (.slice ka kn kc) (.slice da dn dc) (.slice fa fn fc) t) (hd : devsE t.devs = 0) (hm : chk (ordM sr t.seq 2 x) = 0) (q0 : 0 ≤ t.seq) (q1 : t.seq ≤ 255) :
    Calls Tryz.prog 51 #[.agg #[.slice ka kn kc, .slice da dn dc, .int .u64 sr, .int .i64 t.seq, .slice fa fn fc, .int .i64 (IntKind.i64.wrap t.msgs)], .int .u64 x] w
      fun e w' => ∃ y, e = .returned (.tuple #[y, .bool (orderB sr t 2 x)]) ∧ RStK w' w.heap.size sr (orderS sr t 2 x) (.slice ka kn kc) (.slice fa fn fc) y ∧ Below w.heap.size w w' := by
  obtain ⟨N, hN⟩ : ∃ N, IntKind.i64.wrap (t.msgs : Int) = N := ⟨_, rfl⟩
  have CS := Lib.hid (fun W h => rsendK_any ka da fa kn kc dn dc fn fc sr t x sr t.seq 2 0 ⟨#[]⟩ W h hd hm q0 q1)
  have CO := Lib.hid (fun W => rorder_any (.slice ka kn kc) (.slice da dn dc) (.slice fa fn fc) sr t.seq N 2 x W ⟨_, _, _, rfl⟩ ⟨_, _, _, rfl⟩ ⟨_, _, _, rfl⟩)
  rw [hN] at CS ⊢
  have hlen := sentA_length t.devs (ordM sr t.seq 2 x)
  have hdl := devs_few hd
  obtain ⟨L, hL⟩ : ∃ L, sentA t.devs (ordM sr t.seq 2 x) = L := ⟨_, rfl⟩
  rw [hL] at hlen
  have hL2 : L.length ≤ 64 := by omega
  have HB : Hid (orderB sr t 2 x = L.any (matchesM (ordM sr t.seq 2 x))) := by show orderB sr t 2 x = _; rw [orderB, hL]
  have CM := Lib.hid (fun (a : Msg) W => refmatches_any x sr t.seq 2 0 a.dst a.src a.seq a.kind a.par ⟨#[]⟩ a.dat W)
  obtain ⟨u, hu⟩ : ∃ u, orderS sr t 2 x = u := ⟨_, rfl⟩
  have HU : Hid (sendS t (ordM sr t.seq 2 x) = u) := hu
  have HL := Lib.hid hL
  have H := Lib.hid h
  rw [hu]
  clear hd hm hlen hdl hL hN hu h
  go_enter Tryz.func51, Tryz.ntmps51
  go_wp2_with fail
  refine (CO.out _).mono ?_
  rintro e w1 ⟨rfl, hb1⟩
  have hbw1 : Below w.heap.size w w1 := by (repeat' (first | (with_reducible exact Below.refl _ _) | (with_reducible assumption) | (with_reducible refine below_run ?_ (by assumption)) | (with_reducible refine below_of_upd ?_ (by assumption) ?_) | (with_reducible refine below_drewN ?_ _) | (with_reducible refine Below.drew ?_) | (with_reducible refine below_seven ?_ ?_) | (with_reducible refine below_six ?_ ?_) | (with_reducible refine below_one ?_ ?_) | (with_reducible refine Below.alloc ?_ ?_ _) | (with_reducible refine below_after ?_ ?_ (by assumption)) | (show _ ≤ _; first | omega | (simp; done) | (simp; omega))))
  have hz1 := hbw1.size
  have r0 : RowAt w1 w.heap.size 86 #[.slice ka kn kc, .slice da dn dc, .int .u64 sr, .int .i64 t.seq, .slice fa fn fc, .int .i64 N] := RowAt.run ((RowAt.new _ _ _).alloc _) hb1
  have r1 : RowAt w1 (w.heap.size + 1) 86 #[.slice none 0 0, .slice none 0 0, .int .u64 0, .int .i64 0, .slice none 0 0, .int .i64 0] := RowAt.run (RowAt.mk (by simp) rfl) hb1
  have hlt1 := lt_of_block r1
  obtain ⟨a1, a2, a3, a4, a5, a6⟩ := row_facts r0
  have hp2 := (H.out.run hbw1).run ((Below.refl _ _).alloc (Nat.le_refl _) (.cells #[.int .u64 x, .int .u64 sr, .int .i64 t.seq, .int .i64 2, .int .i64 0, .string ⟨#[]⟩] 43))
  have HP2 := Lib.hid hp2
  have hne1 : ¬ w.heap.size = w1.heap.size := by omega
  have hne2 : ¬ w1.heap.size = w.heap.size := by omega
  have HB1 := Lib.hid hbw1
  have R0 := Lib.hid r0
  have R1 := Lib.hid r1
  clear hb1 hbw1 r0 r1 hp2 CO
  go_wp2_with fail
  refine (CS.out _ HP2.out).mono ?_
  rintro e w3 ⟨y, v, rfl, hy, hv, hb3⟩
  obtain ⟨B, hB, hy'⟩ : ∃ B, w.heap.size ≤ B ∧ RStK w3 B sr u (.slice ka kn kc) (.slice fa fn fc) y := ⟨(w1.alloc (.cells #[.int .u64 x, .int .u64 sr, .int .i64 t.seq, .int .i64 2, .int .i64 0, .string ⟨#[]⟩] 43)).heap.size, by have := HB1.out.size; simp; omega, by rw [← HU.out]; exact hy⟩
  obtain ⟨ya, yn, yc, rfl, hpar, hfr⟩ := hy'
  have HFR : Hid (∀ g, (Value.slice ya yn yc).ownBlock = some g → w.heap.size ≤ g) := fun g hg => Nat.le_trans hB (hfr g hg)
  clear hB
  clear hfr
  obtain ⟨Q, hQ⟩ : ∃ Q, u.seq = Q := ⟨_, rfl⟩
  obtain ⟨N', hN'⟩ : ∃ N', IntKind.i64.wrap (u.msgs : Int) = N' := ⟨_, rfl⟩
  rw [stA, hQ, hN']
  have s0 := (R0.out.alloc (.cells #[.int .u64 x, .int .u64 sr, .int .i64 t.seq, .int .i64 2, .int .i64 0, .string ⟨#[]⟩] 43)).run hb3
  have s1 := (R1.out.alloc (.cells #[.int .u64 x, .int .u64 sr, .int .i64 t.seq, .int .i64 2, .int .i64 0, .string ⟨#[]⟩] 43)).run hb3
  have s2 : RowAt w3 w1.heap.size 43 #[.int .u64 x, .int .u64 sr, .int .i64 t.seq, .int .i64 2, .int .i64 0, .string ⟨#[]⟩] := RowAt.run (RowAt.new _ _ _) hb3
  have hb13 : Below w.heap.size w w3 := below_run (HB1.out.alloc (by omega) _) hb3
  obtain ⟨b1, b2, b3, b4, b5, b6⟩ := row_facts s0
  have hv2 : MsgsAt w3 v L := by rw [← HL.out]; exact hv
  have S0 := Lib.hid s0
  have S1 := Lib.hid s1
  have S2 := Lib.hid s2
  have HPAR := Lib.hid hpar
  have HV := Lib.hid hv2
  have HB3 := Lib.hid hb13
  have HQN := Lib.hid (And.intro hQ hN')
  have hle3 := hb13.size
  clear a1 a2 a3 a4 a5 a6 hb3 s0 s1 s2 hpar hv hv2 hy hb13 hQ hN' CS
  go_wp2_with fail
  have hne : ¬ w.heap.size + 1 = w.heap.size := by omega
  have F4 : RowAt ((((((w3.setCell ⟨w.heap.size, 0, none⟩ (.slice ka kn kc)).setCell ⟨w.heap.size, 1, none⟩ (.slice ya yn yc)).setCell ⟨w.heap.size, 2, none⟩ (.int .u64 sr)).setCell ⟨w.heap.size, 3, none⟩ (.int .i64 Q)).setCell ⟨w.heap.size, 4, none⟩ (.slice fa fn fc)).setCell ⟨w.heap.size, 5, none⟩ (.int .i64 N')) (w.heap.size) 86 #[.slice ka kn kc, .slice ya yn yc, .int .u64 sr, .int .i64 Q, .slice fa fn fc, .int .i64 N'] ∧ Own6 w3 ((((((w3.setCell ⟨w.heap.size, 0, none⟩ (.slice ka kn kc)).setCell ⟨w.heap.size, 1, none⟩ (.slice ya yn yc)).setCell ⟨w.heap.size, 2, none⟩ (.int .u64 sr)).setCell ⟨w.heap.size, 3, none⟩ (.int .i64 Q)).setCell ⟨w.heap.size, 4, none⟩ (.slice fa fn fc)).setCell ⟨w.heap.size, 5, none⟩ (.int .i64 N')) ∧ Below w.heap.size w ((((((w3.setCell ⟨w.heap.size, 0, none⟩ (.slice ka kn kc)).setCell ⟨w.heap.size, 1, none⟩ (.slice ya yn yc)).setCell ⟨w.heap.size, 2, none⟩ (.int .u64 sr)).setCell ⟨w.heap.size, 3, none⟩ (.int .i64 Q)).setCell ⟨w.heap.size, 4, none⟩ (.slice fa fn fc)).setCell ⟨w.heap.size, 5, none⟩ (.int .i64 N')) ∧ RowAt ((((((w3.setCell ⟨w.heap.size, 0, none⟩ (.slice ka kn kc)).setCell ⟨w.heap.size, 1, none⟩ (.slice ya yn yc)).setCell ⟨w.heap.size, 2, none⟩ (.int .u64 sr)).setCell ⟨w.heap.size, 3, none⟩ (.int .i64 Q)).setCell ⟨w.heap.size, 4, none⟩ (.slice fa fn fc)).setCell ⟨w.heap.size, 5, none⟩ (.int .i64 N')) (w.heap.size + 1) 86 #[.slice none 0 0, .slice none 0 0, .int .u64 0, .int .i64 0, .slice none 0 0, .int .i64 0] ∧ RowAt ((((((w3.setCell ⟨w.heap.size, 0, none⟩ (.slice ka kn kc)).setCell ⟨w.heap.size, 1, none⟩ (.slice ya yn yc)).setCell ⟨w.heap.size, 2, none⟩ (.int .u64 sr)).setCell ⟨w.heap.size, 3, none⟩ (.int .i64 Q)).setCell ⟨w.heap.size, 4, none⟩ (.slice fa fn fc)).setCell ⟨w.heap.size, 5, none⟩ (.int .i64 N')) w1.heap.size 43 #[.int .u64 x, .int .u64 sr, .int .i64 t.seq, .int .i64 2, .int .i64 0, .string ⟨#[]⟩] := by
    have M0 : Mine w3 w.heap.size := ⟨_, S0.out, rfl, _, _, _, rfl⟩
    have h1 := RowAt.six (v0 := .slice ka kn kc) (v1 := .slice ya yn yc) (v2 := .int .u64 sr) (v3 := .int .i64 Q) (v4 := .slice fa fn fc) (v5 := .int .i64 N') (S0.out)
    have h2 := own6_set (i := 5) (own6_set (i := 4) (own6_set (i := 3) (own6_set (i := 2) (own6_set (i := 1) (own6_set (i := 0) (own6_refl w3) M0 (.slice ka kn kc)) M0 (.slice ya yn yc)) M0 (.int .u64 sr)) M0 (.int .i64 Q)) M0 (.slice fa fn fc)) M0 (.int .i64 N')
    have h4 := ((((((S1.out).far1 (g := w.heap.size) (i := 0) (u := .slice ka kn kc) hne).far1 (g := w.heap.size) (i := 1) (u := .slice ya yn yc) hne).far1 (g := w.heap.size) (i := 2) (u := .int .u64 sr) hne).far1 (g := w.heap.size) (i := 3) (u := .int .i64 Q) hne).far1 (g := w.heap.size) (i := 4) (u := .slice fa fn fc) hne).far1 (g := w.heap.size) (i := 5) (u := .int .i64 N') hne
    have h5 := ((((((S2.out).far1 (g := w.heap.size) (i := 0) (u := .slice ka kn kc) hne2).far1 (g := w.heap.size) (i := 1) (u := .slice ya yn yc) hne2).far1 (g := w.heap.size) (i := 2) (u := .int .u64 sr) hne2).far1 (g := w.heap.size) (i := 3) (u := .int .i64 Q) hne2).far1 (g := w.heap.size) (i := 4) (u := .slice fa fn fc) hne2).far1 (g := w.heap.size) (i := 5) (u := .int .i64 N') hne2
    refine ⟨h1, h2, ?_, h4, h5⟩
    have := HB3.out
    repeat' (first | (with_reducible assumption) | (with_reducible refine below_one ?_ (Nat.le_refl _)))
  generalize (((((w3.setCell ⟨w.heap.size, 0, none⟩ (.slice ka kn kc)).setCell ⟨w.heap.size, 1, none⟩ (.slice ya yn yc)).setCell ⟨w.heap.size, 2, none⟩ (.int .u64 sr)).setCell ⟨w.heap.size, 3, none⟩ (.int .i64 Q)).setCell ⟨w.heap.size, 4, none⟩ (.slice fa fn fc)).setCell ⟨w.heap.size, 5, none⟩ (.int .i64 N') = w4 at F4 ⊢
  obtain ⟨t0, O4, hb4, t1, t2⟩ := F4
  have HP4 := Lib.hid (HPAR.out.six O4)
  have hv4 := HV.out.six O4
  have T0 := Lib.hid t0
  have T1 := Lib.hid t1
  have TM := Lib.hid t2
  have HB4 := Lib.hid hb4
  have hle4 := hb4.size
  obtain ⟨e1, e2, e3, e4, e5, e6⟩ := row_facts t0
  obtain ⟨f1, f2, f3, f4, f5, f6⟩ := row_facts t1
  clear O4 t0 t1 t2 hb4 b1 b2 b3 b4 b5 b6
  rcases hv4 with ⟨h0, a, cap, rfl⟩ | ⟨h0, h1, b, off, cap, rfl, hlt, hc⟩
  · have hl0 : L = [] := List.eq_nil_of_length_eq_zero h0
    have HE : Hid (orderB sr t 2 x = false) := by show _ = _; rw [HB.out, hl0]; rfl
    clear h0 hl0
    refine wp_loop_rounds 1 ?_
    rw [rounds_succ]
    go_wp2
    have F : RowAt ((((((w4.setCell ⟨w.heap.size + 1, 0, none⟩ (.slice ka kn kc)).setCell ⟨w.heap.size + 1, 1, none⟩ (.slice ya yn yc)).setCell ⟨w.heap.size + 1, 2, none⟩ (.int .u64 sr)).setCell ⟨w.heap.size + 1, 3, none⟩ (.int .i64 Q)).setCell ⟨w.heap.size + 1, 4, none⟩ (.slice fa fn fc)).setCell ⟨w.heap.size + 1, 5, none⟩ (.int .i64 N')) (w.heap.size + 1) 86 #[.slice ka kn kc, .slice ya yn yc, .int .u64 sr, .int .i64 Q, .slice fa fn fc, .int .i64 N'] ∧ Own6 w4 ((((((w4.setCell ⟨w.heap.size + 1, 0, none⟩ (.slice ka kn kc)).setCell ⟨w.heap.size + 1, 1, none⟩ (.slice ya yn yc)).setCell ⟨w.heap.size + 1, 2, none⟩ (.int .u64 sr)).setCell ⟨w.heap.size + 1, 3, none⟩ (.int .i64 Q)).setCell ⟨w.heap.size + 1, 4, none⟩ (.slice fa fn fc)).setCell ⟨w.heap.size + 1, 5, none⟩ (.int .i64 N')) ∧ Below w.heap.size w ((((((w4.setCell ⟨w.heap.size + 1, 0, none⟩ (.slice ka kn kc)).setCell ⟨w.heap.size + 1, 1, none⟩ (.slice ya yn yc)).setCell ⟨w.heap.size + 1, 2, none⟩ (.int .u64 sr)).setCell ⟨w.heap.size + 1, 3, none⟩ (.int .i64 Q)).setCell ⟨w.heap.size + 1, 4, none⟩ (.slice fa fn fc)).setCell ⟨w.heap.size + 1, 5, none⟩ (.int .i64 N')) := by
      have M2 : Mine w4 (w.heap.size + 1) := ⟨_, T1.out, rfl, _, _, _, rfl⟩
      have h1 := RowAt.six (v0 := .slice ka kn kc) (v1 := .slice ya yn yc) (v2 := .int .u64 sr) (v3 := .int .i64 Q) (v4 := .slice fa fn fc) (v5 := .int .i64 N') (T1.out)
      have h2 := own6_set (i := 5) (own6_set (i := 4) (own6_set (i := 3) (own6_set (i := 2) (own6_set (i := 1) (own6_set (i := 0) (own6_refl w4) M2 (.slice ka kn kc)) M2 (.slice ya yn yc)) M2 (.int .u64 sr)) M2 (.int .i64 Q)) M2 (.slice fa fn fc)) M2 (.int .i64 N')
      refine ⟨h1, h2, ?_⟩
      have := HB4.out
      repeat' (first | (with_reducible assumption) | (with_reducible refine below_one ?_ (by omega)))
    generalize (((((w4.setCell ⟨w.heap.size + 1, 0, none⟩ (.slice ka kn kc)).setCell ⟨w.heap.size + 1, 1, none⟩ (.slice ya yn yc)).setCell ⟨w.heap.size + 1, 2, none⟩ (.int .u64 sr)).setCell ⟨w.heap.size + 1, 3, none⟩ (.int .i64 Q)).setCell ⟨w.heap.size + 1, 4, none⟩ (.slice fa fn fc)).setCell ⟨w.heap.size + 1, 5, none⟩ (.int .i64 N') = wf at F ⊢
    obtain ⟨hr3, O, hbf⟩ := F
    rw [HE.out]
    refine bodyPost_ret (v := .tuple #[.agg #[.slice ka kn kc, .slice ya yn yc, .int .u64 sr, .int .i64 Q, .slice fa fn fc, .int .i64 N'], .bool false]) ?_ rfl ⟨_, rfl, ⟨ya, yn, yc, ?_, HP4.out.six O, HFR.out⟩, hbf⟩
    · simp [results, Tryz.results51, go_sem, cell_fact hr3]
    · rw [stA, HQN.out.1, HQN.out.2]
  · have h4 : (0 : Int) < (L.length : Int) := by omega
    have hr0 := Below.refl w4.heap.size w4
    go_loopw [8] (fun i wr => ∃ k : Nat, k ≤ L.length ∧ i = .int .i64 k ∧ Hid ((L.take k).any (matchesM (ordM sr t.seq 2 x)) = false) ∧ Below w4.heap.size w4 wr) (fun i _ => L.length - (intOf i).toNat)
    case atStart => exact ⟨0, Nat.zero_le _, rfl, rfl, hr0⟩
    case round =>
      obtain ⟨j, hj, rfl, hany, hb0⟩ := hrel
      have t0 := T0.out.run hb0
      have t1 := T1.out.run hb0
      have t2 := TM.out.run hb0
      have HPR := Lib.hid (HP4.out.run hb0)
      have HBR := Lib.hid (below_run HB4.out hb0)
      have hler := hb0.size
      obtain ⟨g1, g2, g3, g4, g5, g6⟩ := row_facts t0
      obtain ⟨i1, i2, i3, i4, i5, i6⟩ := row_facts t1
      clear e1 e2 e3 e4 e5 e6 f1 f2 f3 f4 f5 f6
      by_cases hlt2 : j < L.length
      · have hlt3 : (j : Int) < (L.length : Int) := by omega
        have hj0 : (0 : Int) ≤ (j : Int) := by omega
        have hc' : ∀ i, i < L.length * 6 → wr.cell? ⟨b, off + i, none⟩ = msgsC L i := fun i hi => (hb0.cell (p := ⟨b, off + i, none⟩) hlt).trans (hc i hi)
        obtain ⟨a, ha, c0, c1, c2, c3, c4, c5⟩ := msg_cells hc' j hlt2
        have hblt : b < wr.heap.size := by omega
        obtain ⟨l1, l2, l3, l4, l5, l6⟩ := row_facts t2
        have HS := Lib.hid ha
        have HT := Lib.hid (take_succ_some ha)
        obtain ⟨q, hq⟩ : ∃ q, matchesM (ordM sr t.seq 2 x) a = q := ⟨_, rfl⟩
        have C : Hid (∀ W, Calls Tryz.prog 75 #[.agg #[.int .u64 x, .int .u64 sr, .int .i64 t.seq, .int .i64 2, .int .i64 0, .string ⟨#[]⟩], .agg #[.int .u64 a.dst, .int .u64 a.src, .int .i64 a.seq, .int .i64 a.kind, .int .i64 a.par, .string a.dat]] W fun e w' => e = .returned (.bool q) ∧ Below W.heap.size W w') := fun W => by
          have := CM.out a W
          rw [← hq]
          exact this
        have HQ := Lib.hid hq
        have T0R := Lib.hid t0
        have T1R := Lib.hid t1
        have T2R := Lib.hid t2
        have HB0 := Lib.hid hb0
        clear hc hc' ha hq CM hb0 t0 t1 t2 g1 g2 g3 g4 g5 g6 i1 i2 i3 i4 i5 i6
        cases q with
        | true =>
          go_wp2_with fail
          go_region_held3 (fun w' => w'.cell? ⟨w1.heap.size, 0, none⟩ = some (.int .u64 x) ∧ w'.cell? ⟨w1.heap.size, 1, none⟩ = some (.int .u64 sr) ∧ w'.cell? ⟨w1.heap.size, 2, none⟩ = some (.int .i64 t.seq) ∧ w'.cell? ⟨w1.heap.size, 3, none⟩ = some (.int .i64 2) ∧ w'.cell? ⟨w1.heap.size, 4, none⟩ = some (.int .i64 0) ∧ w'.cell? ⟨w1.heap.size, 5, none⟩ = some (.string ⟨#[]⟩) ∧ w'.cell? ⟨b, off + j * 6, none⟩ = some (.int .u64 a.dst) ∧ w'.cell? ⟨b, off + j * 6 + 1, none⟩ = some (.int .u64 a.src) ∧ w'.cell? ⟨b, off + j * 6 + 2, none⟩ = some (.int .i64 a.seq) ∧ w'.cell? ⟨b, off + j * 6 + 3, none⟩ = some (.int .i64 a.kind) ∧ w'.cell? ⟨b, off + j * 6 + 4, none⟩ = some (.int .i64 a.par) ∧ w'.cell? ⟨b, off + j * 6 + 5, none⟩ = some (.string a.dat)) (go_keep)
            ((go_at_call 75; refine (C.out _).mono ?_; rintro e w5 ⟨rfl, hbx⟩; have hb5 : Below wr.heap.size wr w5 := below_undrew hbx; have tm5 := T2R.out.run hb5; obtain ⟨z1, z2, z3, z4, z5, z6⟩ := row_facts tm5; have t05 := T0R.out.run hb5; obtain ⟨y1, y2, y3, y4, y5, y6⟩ := row_facts t05; have t15 := T1R.out.run hb5; obtain ⟨x1, x2, x3, x4, x5, x6⟩ := row_facts t15; have d0 := (hb5.cell (p := ⟨b, off + j * 6, none⟩) hblt).trans c0; have d1 := (hb5.cell (p := ⟨b, off + j * 6 + 1, none⟩) hblt).trans c1; have d2 := (hb5.cell (p := ⟨b, off + j * 6 + 2, none⟩) hblt).trans c2; have d3 := (hb5.cell (p := ⟨b, off + j * 6 + 3, none⟩) hblt).trans c3; have d4 := (hb5.cell (p := ⟨b, off + j * 6 + 4, none⟩) hblt).trans c4; have d5 := (hb5.cell (p := ⟨b, off + j * 6 + 5, none⟩) hblt).trans c5))
          all_goals go_wp2
          all_goals
            have HE : Hid (orderB sr t 2 x = true) := by show _ = _; rw [HB.out]; exact List.any_eq_true.2 ⟨a, List.mem_of_getElem? HS.out, HQ.out⟩
            have F : RowAt ((((((w5.setCell ⟨w.heap.size + 1, 0, none⟩ (.slice ka kn kc)).setCell ⟨w.heap.size + 1, 1, none⟩ (.slice ya yn yc)).setCell ⟨w.heap.size + 1, 2, none⟩ (.int .u64 sr)).setCell ⟨w.heap.size + 1, 3, none⟩ (.int .i64 Q)).setCell ⟨w.heap.size + 1, 4, none⟩ (.slice fa fn fc)).setCell ⟨w.heap.size + 1, 5, none⟩ (.int .i64 N')) (w.heap.size + 1) 86 #[.slice ka kn kc, .slice ya yn yc, .int .u64 sr, .int .i64 Q, .slice fa fn fc, .int .i64 N'] ∧ Own6 w5 ((((((w5.setCell ⟨w.heap.size + 1, 0, none⟩ (.slice ka kn kc)).setCell ⟨w.heap.size + 1, 1, none⟩ (.slice ya yn yc)).setCell ⟨w.heap.size + 1, 2, none⟩ (.int .u64 sr)).setCell ⟨w.heap.size + 1, 3, none⟩ (.int .i64 Q)).setCell ⟨w.heap.size + 1, 4, none⟩ (.slice fa fn fc)).setCell ⟨w.heap.size + 1, 5, none⟩ (.int .i64 N')) ∧ Below w.heap.size w ((((((w5.setCell ⟨w.heap.size + 1, 0, none⟩ (.slice ka kn kc)).setCell ⟨w.heap.size + 1, 1, none⟩ (.slice ya yn yc)).setCell ⟨w.heap.size + 1, 2, none⟩ (.int .u64 sr)).setCell ⟨w.heap.size + 1, 3, none⟩ (.int .i64 Q)).setCell ⟨w.heap.size + 1, 4, none⟩ (.slice fa fn fc)).setCell ⟨w.heap.size + 1, 5, none⟩ (.int .i64 N')) := by
              have M2 : Mine w5 (w.heap.size + 1) := ⟨_, (T1R.out.run hb5), rfl, _, _, _, rfl⟩
              have h1 := RowAt.six (v0 := .slice ka kn kc) (v1 := .slice ya yn yc) (v2 := .int .u64 sr) (v3 := .int .i64 Q) (v4 := .slice fa fn fc) (v5 := .int .i64 N') ((T1R.out.run hb5))
              have h2 := own6_set (i := 5) (own6_set (i := 4) (own6_set (i := 3) (own6_set (i := 2) (own6_set (i := 1) (own6_set (i := 0) (own6_refl w5) M2 (.slice ka kn kc)) M2 (.slice ya yn yc)) M2 (.int .u64 sr)) M2 (.int .i64 Q)) M2 (.slice fa fn fc)) M2 (.int .i64 N')
              refine ⟨h1, h2, ?_⟩
              have := (below_run HBR.out hb5)
              repeat' (first | (with_reducible assumption) | (with_reducible refine below_one ?_ (by omega)))
            generalize (((((w5.setCell ⟨w.heap.size + 1, 0, none⟩ (.slice ka kn kc)).setCell ⟨w.heap.size + 1, 1, none⟩ (.slice ya yn yc)).setCell ⟨w.heap.size + 1, 2, none⟩ (.int .u64 sr)).setCell ⟨w.heap.size + 1, 3, none⟩ (.int .i64 Q)).setCell ⟨w.heap.size + 1, 4, none⟩ (.slice fa fn fc)).setCell ⟨w.heap.size + 1, 5, none⟩ (.int .i64 N') = wf at F ⊢
            obtain ⟨hr3, O, hbf⟩ := F
            rw [HE.out]
            refine bodyPost_ret (v := .tuple #[.agg #[.slice ka kn kc, .slice ya yn yc, .int .u64 sr, .int .i64 Q, .slice fa fn fc, .int .i64 N'], .bool true]) ?_ rfl ⟨_, rfl, ⟨ya, yn, yc, ?_, (HPR.out.run hb5).six O, HFR.out⟩, hbf⟩
            · simp [results, Tryz.results51, go_sem, cell_fact hr3]
            · rw [stA, HQN.out.1, HQN.out.2]
        | false =>
          go_wp2_with fail
          go_region_held3 (fun w' => w'.cell? ⟨w1.heap.size, 0, none⟩ = some (.int .u64 x) ∧ w'.cell? ⟨w1.heap.size, 1, none⟩ = some (.int .u64 sr) ∧ w'.cell? ⟨w1.heap.size, 2, none⟩ = some (.int .i64 t.seq) ∧ w'.cell? ⟨w1.heap.size, 3, none⟩ = some (.int .i64 2) ∧ w'.cell? ⟨w1.heap.size, 4, none⟩ = some (.int .i64 0) ∧ w'.cell? ⟨w1.heap.size, 5, none⟩ = some (.string ⟨#[]⟩) ∧ w'.cell? ⟨b, off + j * 6, none⟩ = some (.int .u64 a.dst) ∧ w'.cell? ⟨b, off + j * 6 + 1, none⟩ = some (.int .u64 a.src) ∧ w'.cell? ⟨b, off + j * 6 + 2, none⟩ = some (.int .i64 a.seq) ∧ w'.cell? ⟨b, off + j * 6 + 3, none⟩ = some (.int .i64 a.kind) ∧ w'.cell? ⟨b, off + j * 6 + 4, none⟩ = some (.int .i64 a.par) ∧ w'.cell? ⟨b, off + j * 6 + 5, none⟩ = some (.string a.dat)) (go_keep)
            ((go_at_call 75; refine (C.out _).mono ?_; rintro e w5 ⟨rfl, hbx⟩; have hb5 : Below wr.heap.size wr w5 := below_undrew hbx; have tm5 := T2R.out.run hb5; obtain ⟨z1, z2, z3, z4, z5, z6⟩ := row_facts tm5; have t05 := T0R.out.run hb5; obtain ⟨y1, y2, y3, y4, y5, y6⟩ := row_facts t05; have t15 := T1R.out.run hb5; obtain ⟨x1, x2, x3, x4, x5, x6⟩ := row_facts t15; have d0 := (hb5.cell (p := ⟨b, off + j * 6, none⟩) hblt).trans c0; have d1 := (hb5.cell (p := ⟨b, off + j * 6 + 1, none⟩) hblt).trans c1; have d2 := (hb5.cell (p := ⟨b, off + j * 6 + 2, none⟩) hblt).trans c2; have d3 := (hb5.cell (p := ⟨b, off + j * 6 + 3, none⟩) hblt).trans c3; have d4 := (hb5.cell (p := ⟨b, off + j * 6 + 4, none⟩) hblt).trans c4; have d5 := (hb5.cell (p := ⟨b, off + j * 6 + 5, none⟩) hblt).trans c5))
          all_goals (go_wp2_with fail)
          all_goals go_roundw
          case rel => exact ⟨j + 1, by omega, by go_num, by show _ = _; rw [HT.out, List.any_append, hany.out]; simp [HQ.out], below_run HB0.out hb5⟩
          case measure => simp [intOf]; omega
      · have hlt3 : ¬ (j : Int) < (L.length : Int) := by omega
        obtain rfl : j = L.length := by omega
        rw [List.take_length] at hany
        have HE : Hid (orderB sr t 2 x = false) := by show _ = _; rw [HB.out]; exact hany.out
        have T1R := Lib.hid t1
        clear hany t0 t1 t2 hc CM
        go_wp2
        have F : RowAt ((((((wr.setCell ⟨w.heap.size + 1, 0, none⟩ (.slice ka kn kc)).setCell ⟨w.heap.size + 1, 1, none⟩ (.slice ya yn yc)).setCell ⟨w.heap.size + 1, 2, none⟩ (.int .u64 sr)).setCell ⟨w.heap.size + 1, 3, none⟩ (.int .i64 Q)).setCell ⟨w.heap.size + 1, 4, none⟩ (.slice fa fn fc)).setCell ⟨w.heap.size + 1, 5, none⟩ (.int .i64 N')) (w.heap.size + 1) 86 #[.slice ka kn kc, .slice ya yn yc, .int .u64 sr, .int .i64 Q, .slice fa fn fc, .int .i64 N'] ∧ Own6 wr ((((((wr.setCell ⟨w.heap.size + 1, 0, none⟩ (.slice ka kn kc)).setCell ⟨w.heap.size + 1, 1, none⟩ (.slice ya yn yc)).setCell ⟨w.heap.size + 1, 2, none⟩ (.int .u64 sr)).setCell ⟨w.heap.size + 1, 3, none⟩ (.int .i64 Q)).setCell ⟨w.heap.size + 1, 4, none⟩ (.slice fa fn fc)).setCell ⟨w.heap.size + 1, 5, none⟩ (.int .i64 N')) ∧ Below w.heap.size w ((((((wr.setCell ⟨w.heap.size + 1, 0, none⟩ (.slice ka kn kc)).setCell ⟨w.heap.size + 1, 1, none⟩ (.slice ya yn yc)).setCell ⟨w.heap.size + 1, 2, none⟩ (.int .u64 sr)).setCell ⟨w.heap.size + 1, 3, none⟩ (.int .i64 Q)).setCell ⟨w.heap.size + 1, 4, none⟩ (.slice fa fn fc)).setCell ⟨w.heap.size + 1, 5, none⟩ (.int .i64 N')) := by
          have M2 : Mine wr (w.heap.size + 1) := ⟨_, T1R.out, rfl, _, _, _, rfl⟩
          have h1 := RowAt.six (v0 := .slice ka kn kc) (v1 := .slice ya yn yc) (v2 := .int .u64 sr) (v3 := .int .i64 Q) (v4 := .slice fa fn fc) (v5 := .int .i64 N') (T1R.out)
          have h2 := own6_set (i := 5) (own6_set (i := 4) (own6_set (i := 3) (own6_set (i := 2) (own6_set (i := 1) (own6_set (i := 0) (own6_refl wr) M2 (.slice ka kn kc)) M2 (.slice ya yn yc)) M2 (.int .u64 sr)) M2 (.int .i64 Q)) M2 (.slice fa fn fc)) M2 (.int .i64 N')
          refine ⟨h1, h2, ?_⟩
          have := HBR.out
          repeat' (first | (with_reducible assumption) | (with_reducible refine below_one ?_ (by omega)))
        generalize (((((wr.setCell ⟨w.heap.size + 1, 0, none⟩ (.slice ka kn kc)).setCell ⟨w.heap.size + 1, 1, none⟩ (.slice ya yn yc)).setCell ⟨w.heap.size + 1, 2, none⟩ (.int .u64 sr)).setCell ⟨w.heap.size + 1, 3, none⟩ (.int .i64 Q)).setCell ⟨w.heap.size + 1, 4, none⟩ (.slice fa fn fc)).setCell ⟨w.heap.size + 1, 5, none⟩ (.int .i64 N') = wf at F ⊢
        obtain ⟨hr3, O, hbf⟩ := F
        rw [HE.out]
        refine bodyPost_ret (v := .tuple #[.agg #[.slice ka kn kc, .slice ya yn yc, .int .u64 sr, .int .i64 Q, .slice fa fn fc, .int .i64 N'], .bool false]) ?_ rfl ⟨_, rfl, ⟨ya, yn, yc, ?_, HPR.out.six O, HFR.out⟩, hbf⟩
        · simp [results, Tryz.results51, go_sem, cell_fact hr3]
        · rw [stA, HQN.out.1, HQN.out.2]
theorem rmuted_any (ka da fa : Option Addr) (kn kc dn dc fn fc : Nat) (sr : Int) (t : SSt) (x : Int) (w : World) (h : RPar w (.slice ka kn kc) (.slice da dn dc) (.slice fa fn fc) t) (hd : devsE t.devs = 0) (hm : chk (ordM sr t.seq 2 x) = 0) (q0 : 0 ≤ t.seq) (q1 : t.seq ≤ 255) :
    Calls Tryz.prog 51 #[.agg #[.slice ka kn kc, .slice da dn dc, .int .u64 sr, .int .i64 t.seq, .slice fa fn fc, .int .i64 (IntKind.i64.wrap t.msgs)], .int .u64 x] w
      fun e w' => ∃ y, e = .returned (.tuple #[y, .bool (orderB sr t 2 x)]) ∧ RSt w' sr (orderS sr t 2 x) y ∧ Below w.heap.size w w' :=
  (rmutedK_any ka da fa kn kc dn dc fn fc sr t x w h hd hm q0 q1).mono fun _ _ ⟨y, h1, h2, h3⟩ => ⟨y, h1, h2.weak, h3⟩
end Go.Proofs.YtiemdccjphdbmaaGreat

namespace Go.Proofs.YtiemdccjphdbmaaGreat
open Go.RowKit

theorem nilok_own {w : World} {base T S n : Nat} {v : Value} {xs : List Value} (h : w.ownsRow base T S v n xs) : NilOk v := by
  intro k c e
  rcases h.2 with ⟨rfl, _⟩ | ⟨g, cap, cur, rfl, _⟩
  · rfl
  · cases e

theorem wpList_append_ids {w : World} {ops : Array Oper} {rest : List Oper} {o : Oper} {a : Act} {Q : Exit → Act → World → Prop} (hgd : o.guard = none) (s x : Operand)
    (ho : o.op = .call { callee := .builtin .append, args := #[s, x], argTypes := #[30, 30] }) (base : Nat) (v : Value) (n : Nat) (xs : List Value) (hs : a.eval s = v) (hown : w.ownsRow base 23 1 v n xs)
    (y : Value) (l : List Int) (hx : a.eval x = y) (hy : IdsAt w y l) (hz : NilOk y) (h63 : n + l.length ≤ 100000) (hbase : base ≤ w.heap.size)
    (h : ∀ v' w', w'.ownsRow base 23 1 v' (n + l.length) (xs ++ u64L l) → w.grownBy w' v.ownBlock → wpList Tryz.prog ops Q rest (a.put o.dst v') w') : wpList Tryz.prog ops Q (o :: rest) a w := by
  obtain ⟨i0, hi, hz0, hz1, hz2⟩ := info_parts Tryz.info_u64
  rcases hy with ⟨h0, ad, cap, rfl⟩ | ⟨h0, h1, b, off, cap, rfl, hlt, hc⟩
  · have hl : l = [] := List.eq_nil_of_length_eq_zero h0
    subst hl
    cases ad with
    | none =>
      rw [hz _ _ rfl] at hx
      exact wpList_append_own_none hgd s x _ ho base 23 i0 1 Tryz.underlying30 hi v n xs hs hown hx (h v w (by simpa [u64L] using hown) ⟨rfl, rfl, rfl, Nat.le_refl _, fun _ _ _ => rfl⟩)
    | some ad =>
      exact wpList_append_own w hgd s x _ ho base 23 i0 _ 1 8 Tryz.underlying30 hi hz0 hz1 hz2 rfl (by decide) v n xs hs hown ad 0 cap [] hx rfl (fun j u hj => by cases hj) (fun u hu => by cases hu) (by unfold maxLen; simp at h63; omega) (by simp at h63; omega) hbase (fun v' w' h1 h2 _ => h v' w' h1 h2)
  · exact wpList_append_own w hgd s x _ ho base 23 i0 _ 1 8 Tryz.underlying30 hi hz0 hz1 hz2 rfl (by decide) v n xs hs hown ⟨b, off, none⟩ l.length cap (u64L l) hx (by rw [u64L_length, Nat.mul_one]) (fun j u hj => by
      have hjn : j < l.length * 1 := by
        have := (List.getElem?_eq_some_iff.1 hj).1
        rw [u64L_length] at this
        omega
      rw [Addr.add_lit, hc j hjn, ← u64L_get]
      exact hj) (fun u hu => by obtain ⟨x, _, rfl⟩ := List.mem_map.1 hu; rfl) (by unfold maxLen; omega) (by omega) hbase (fun v' w' h1 h2 _ => h v' w' h1 h2)
end Go.Proofs.YtiemdccjphdbmaaGreat
