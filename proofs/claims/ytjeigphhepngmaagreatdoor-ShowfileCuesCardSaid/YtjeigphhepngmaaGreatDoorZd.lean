/-
  The program's reader, which panics: int, text, natural, truth, end.
  The program's reader: ints into variables.
-/
import Derived.Test.YtjeigphhepngmaaGreatDoorZb
namespace Go.Proofs.YtjeigphhepngmaaGreatDoor
open Go.RowKit

/-- The program's reader in memory. -/
def PRd (w : World) (b : Nat) (s : ByteArray) (a : Nat) : Prop := RowAt w b 110 #[.string s, .int .i64 (a : Int)]
/-- The panic of data that are not as they should be. -/
def BadE : Ending := .panicked [{ v := .iface 200 (.agg #[.int .i64 3]), recovered := false }]
/-- What a method of the reader says: its value, the reader further on, all else as it was; or it panics. -/
def PPost {α : Type} (b : Nat) (s : ByteArray) (f : α → Value) (r : Option (α × Nat)) (w : World) (e : Ending) (w' : World) : Prop :=
  match r with
  | some (x, k) => e = .returned (f x) ∧ PRd w' b s k ∧ Upd b w w'
  | none => e = BadE ∧ Upd b w w'
theorem ppost_some {α : Type} {b : Nat} {s : ByteArray} {f : α → Value} {x : α} {k : Nat} {w : World} {e : Ending} {w' : World} (h : PPost b s f (some (x, k)) w e w') : e = .returned (f x) ∧ PRd w' b s k ∧ Upd b w w' := h
theorem ppost_none {α : Type} {b : Nat} {s : ByteArray} {f : α → Value} {w : World} {e : Ending} {w' : World} (h : PPost b s f none w e w') : e = BadE ∧ Upd b w w' := h
theorem PRd.run {w w' : World} {b : Nat} {s : ByteArray} {a : Nat} (h : PRd w b s a) (hb : Below w.heap.size w w') : PRd w' b s a := RowAt.run h hb
theorem below_drew {w w' : World} (h : Below w.drew.heap.size w.drew w') : Below w.heap.size w w' := ⟨h.os, h.tape, h.output, h.size, h.block⟩
theorem upd_of_below {b : Nat} {w w' : World} (h : Below w.heap.size w w') : Upd b w w' := upd_below (upd_refl b w) h

set_option maxHeartbeats 1000000 in
set_option maxRecDepth 100000 in
theorem got_ok (b : Nat) (s : ByteArray) (a n : Nat) (w : World) (h : PRd w b s a) :
    Calls Tryz.prog 262 #[.pointer (some ⟨b, 0, none⟩), .int .i64 (n : Int), .int .i64 0] w fun e w' => e = .returned (.tuple #[]) ∧ PRd w' b s n ∧ Upd b w w' := by
  obtain ⟨x1, x2, x3, x4, x5, x6⟩ := row_facts h
  have HS := Lib.hid (And.intro (show PRd (w.setCell ⟨b, 1, none⟩ (.int .i64 (n : Int))) b s n from RowAt.set h rfl) (show Upd b w (w.setCell ⟨b, 1, none⟩ (.int .i64 (n : Int))) from upd_set (upd_refl _ _) _ _))
  clear h
  go_enter Tryz.func262, Tryz.ntmps262
  go_wp2
  (first | go_end0 | refine bodyPost_ret (results_none rfl _ _ _) rfl ?_)
  exact ⟨rfl, HS.out.1, HS.out.2⟩

set_option maxHeartbeats 1000000 in
set_option maxRecDepth 100000 in
theorem got_err (b : Nat) (c n : Int) (w : World) (hc : (c != 0) = true) :
    Calls Tryz.prog 262 #[.pointer (some ⟨b, 0, none⟩), .int .i64 n, .int .i64 c] w fun e w' => e = BadE ∧ w' = w := by
  go_enter Tryz.func262, Tryz.ntmps262
  go_wp2
  exact ⟨rfl, rfl, rfl⟩

set_option maxHeartbeats 1000000 in
set_option maxRecDepth 100000 in
theorem pint_any (b : Nat) (s : ByteArray) (a : Nat) (w : World) (h : PRd w b s a) (ha : a ≤ s.size) (hs : s.size ≤ 1000000) :
    Calls Tryz.prog 178 #[.pointer (some ⟨b, 0, none⟩)] w fun e w' => PPost b s (fun n => .int .i64 n) (rI s a) w e w' := by
  have C := Lib.hid (fun W => egetint_any s a W ha hs)
  obtain ⟨x1, x2, x3, x4, x5, x6⟩ := row_facts h
  clear hs ha
  cases hx : getI s a with
  | error c =>
    have hc : c = 20 ∨ c = 3 := getI_err hx
    have hc0 : (c != 0) = true := by rw [bne_iff_ne]; omega
    have HX := Lib.hid (show rI s a = none from by simp [rI, hx, Except.toOption])
    have K := Lib.hid (fun W n => got_err b c n W hc0)
    rw [hx] at C
    have C' := C.out
    simp only [intV] at C'
    have HC := Lib.hid C'
    clear C'
    have HP := Lib.hid h
    clear hx hc hc0 C h
    go_enter Tryz.func178, Tryz.ntmps178
    go_wp2
    go_region_held3 (fun w' => w'.cell? ⟨b, 0, none⟩ = some (.string s) ∧ w'.cell? ⟨b, 1, none⟩ = some (.int .i64 (a : Int))) (first | go_keep | exact ⟨(row_facts (HP.out.run (below_drew (by assumption)))).1 0, (row_facts (HP.out.run (below_drew (by assumption)))).1 1⟩) ((go_at_call 264; refine (HC.out _).mono ?_; rintro e w1 ⟨rfl, hb1'⟩))
    have hb1 := below_drew hb1'
    clear hb1'
    go_wp2_with fail
    refine (K.out _ _).mono ?_
    rintro e w2 ⟨rfl, rfl⟩
    simp only [BadE]
    go_wp2
    exact ⟨rfl, by rw [HX.out]; exact ⟨rfl, upd_of_below hb1⟩⟩
  | ok y =>
    obtain ⟨n, nx⟩ := y
    have HX := Lib.hid (show rI s a = some (n, nx) from by simp [rI, hx, Except.toOption])
    have K := Lib.hid (fun W (hb : Below w.heap.size w W) => got_ok b s a nx W (h.run hb))
    rw [hx] at C
    have C' := C.out
    simp only [intV] at C'
    have HC := Lib.hid C'
    clear C'
    have HP := Lib.hid h
    clear hx C h
    go_enter Tryz.func178, Tryz.ntmps178
    go_wp2
    go_region_held3 (fun w' => w'.cell? ⟨b, 0, none⟩ = some (.string s) ∧ w'.cell? ⟨b, 1, none⟩ = some (.int .i64 (a : Int))) (first | go_keep | exact ⟨(row_facts (HP.out.run (below_drew (by assumption)))).1 0, (row_facts (HP.out.run (below_drew (by assumption)))).1 1⟩) ((go_at_call 264; refine (HC.out _).mono ?_; rintro e w1 ⟨rfl, hb1'⟩))
    have hb1 := below_drew hb1'
    clear hb1'
    go_wp2_with fail
    refine (K.out _ hb1).mono ?_
    rintro e w2 ⟨rfl, hp2, hu2⟩
    go_wp2
    go_ret
    rw [HX.out]
    exact ⟨rfl, hp2, upd_upd (upd_of_below hb1) hu2⟩

set_option maxHeartbeats 1000000 in
set_option maxRecDepth 100000 in
theorem ptext_any (b : Nat) (s : ByteArray) (a : Nat) (w : World) (h : PRd w b s a) (ha : a ≤ s.size) (hs : s.size ≤ 1000000) :
    Calls Tryz.prog 172 #[.pointer (some ⟨b, 0, none⟩)] w fun e w' => PPost b s (fun x => .string x) (rT s a) w e w' := by
  have C := Lib.hid (fun W => egettext_any s a W ha hs)
  obtain ⟨x1, x2, x3, x4, x5, x6⟩ := row_facts h
  clear hs ha
  cases hx : getT s a with
  | error c =>
    have hc : c = 20 ∨ c = 3 := getT_err hx
    have hc0 : (c != 0) = true := by rw [bne_iff_ne]; omega
    have HX := Lib.hid (show rT s a = none from by simp [rT, hx, Except.toOption])
    have K := Lib.hid (fun W n => got_err b c n W hc0)
    rw [hx] at C
    have C' := C.out
    simp only [textV] at C'
    have HC := Lib.hid C'
    clear C'
    have HP := Lib.hid h
    clear hx hc hc0 C h
    go_enter Tryz.func172, Tryz.ntmps172
    go_wp2
    go_region_held3 (fun w' => w'.cell? ⟨b, 0, none⟩ = some (.string s) ∧ w'.cell? ⟨b, 1, none⟩ = some (.int .i64 (a : Int))) (first | go_keep | exact ⟨(row_facts (HP.out.run (below_drew (by assumption)))).1 0, (row_facts (HP.out.run (below_drew (by assumption)))).1 1⟩) ((go_at_call 261; refine (HC.out _).mono ?_; rintro e w1 ⟨rfl, hb1'⟩))
    have hb1 := below_drew hb1'
    clear hb1'
    go_wp2_with fail
    refine (K.out _ _).mono ?_
    rintro e w2 ⟨rfl, rfl⟩
    simp only [BadE]
    go_wp2
    exact ⟨rfl, by rw [HX.out]; exact ⟨rfl, upd_of_below hb1⟩⟩
  | ok y =>
    obtain ⟨n, nx⟩ := y
    have HX := Lib.hid (show rT s a = some (n, nx) from by simp [rT, hx, Except.toOption])
    have K := Lib.hid (fun W (hb : Below w.heap.size w W) => got_ok b s a nx W (h.run hb))
    rw [hx] at C
    have C' := C.out
    simp only [textV] at C'
    have HC := Lib.hid C'
    clear C'
    have HP := Lib.hid h
    clear hx C h
    go_enter Tryz.func172, Tryz.ntmps172
    go_wp2
    go_region_held3 (fun w' => w'.cell? ⟨b, 0, none⟩ = some (.string s) ∧ w'.cell? ⟨b, 1, none⟩ = some (.int .i64 (a : Int))) (first | go_keep | exact ⟨(row_facts (HP.out.run (below_drew (by assumption)))).1 0, (row_facts (HP.out.run (below_drew (by assumption)))).1 1⟩) ((go_at_call 261; refine (HC.out _).mono ?_; rintro e w1 ⟨rfl, hb1'⟩))
    have hb1 := below_drew hb1'
    clear hb1'
    go_wp2_with fail
    refine (K.out _ hb1).mono ?_
    rintro e w2 ⟨rfl, hp2, hu2⟩
    go_wp2
    go_ret
    rw [HX.out]
    exact ⟨rfl, hp2, upd_upd (upd_of_below hb1) hu2⟩

set_option maxHeartbeats 1000000 in
set_option maxRecDepth 100000 in
theorem pend_any (b : Nat) (s : ByteArray) (a : Nat) (w : World) (h : PRd w b s a) :
    Calls Tryz.prog 51 #[.pointer (some ⟨b, 0, none⟩)] w fun e w' => Upd b w w' ∧ e = if a = s.size then .returned (.tuple #[]) else BadE := by
  obtain ⟨x1, x2, x3, x4, x5, x6⟩ := row_facts h
  clear h
  by_cases hq : a = s.size
  · subst hq
    go_enter Tryz.func51, Tryz.ntmps51
    go_wp2
    go_region_held3 (fun w' => w'.cell? ⟨b, 0, none⟩ = some (.string s) ∧ w'.cell? ⟨b, 1, none⟩ = some (.int .i64 (s.size : Int))) (go_keep) (fail)
    go_wp2
    (first | go_end0 | refine bodyPost_ret (results_none rfl _ _ _) rfl ?_)
    exact ⟨upd_drewN (upd_refl _ _) _, rfl⟩
  · have hq1 : ((a : Int) != (s.size : Int)) = true := by rw [bne_iff_ne]; omega
    have HQ := Lib.hid hq
    clear hq
    go_enter Tryz.func51, Tryz.ntmps51
    go_wp2
    go_region_held3 (fun w' => w'.cell? ⟨b, 0, none⟩ = some (.string s) ∧ w'.cell? ⟨b, 1, none⟩ = some (.int .i64 (a : Int))) (go_keep) (fail)
    go_wp2
    exact ⟨rfl, upd_drewN (upd_refl _ _) _, rfl⟩

set_option maxHeartbeats 1000000 in
set_option maxRecDepth 100000 in
theorem pnatural_any (b : Nat) (s : ByteArray) (m : Int) (a : Nat) (w : World) (h : PRd w b s a) (ha : a ≤ s.size) (hs : s.size ≤ 1000000) :
    Calls Tryz.prog 263 #[.pointer (some ⟨b, 0, none⟩), .int .i64 m] w fun e w' => PPost b s (fun n => .int .i64 n) (rN s m a) w e w' := by
  have C := Lib.hid (pint_any b s a w h ha hs)
  clear h ha hs
  cases hx : rI s a with
  | none =>
    have HX := Lib.hid (show rN s m a = none from by simp [rN, hx])
    rw [hx] at C
    have HC := Lib.hid C.out
    clear hx C
    go_enter Tryz.func263, Tryz.ntmps263
    go_wp2_with fail
    refine HC.out.mono ?_
    rintro e w1 ⟨rfl, hu1⟩
    simp only [BadE]
    go_wp2
    exact ⟨rfl, by rw [HX.out]; exact ⟨rfl, hu1⟩⟩
  | some y =>
    obtain ⟨n, nx⟩ := y
    have HX := Lib.hid (show rN s m a = if n < 0 ∨ m < n then none else some (n, nx) from by simp [rN, hx])
    rw [hx] at C
    have HC := Lib.hid C.out
    clear hx C
    go_enter Tryz.func263, Tryz.ntmps263
    go_wp2_with fail
    refine HC.out.mono ?_
    rintro e w1 ⟨rfl, hp1, hu1⟩
    have HP := Lib.hid (And.intro hp1 hu1)
    clear hp1 hu1
    by_cases h1 : n < 0
    · go_wp2
      exact ⟨rfl, by rw [HX.out, if_pos (.inl h1)]; exact ⟨rfl, HP.out.2⟩⟩
    · by_cases h2 : m < n
      · go_wp2
        exact ⟨rfl, by rw [HX.out, if_pos (.inr h2)]; exact ⟨rfl, HP.out.2⟩⟩
      · go_wp2
        go_ret
        rw [HX.out, if_neg (by omega)]
        exact ⟨rfl, HP.out.1, HP.out.2⟩

set_option maxHeartbeats 1000000 in
set_option maxRecDepth 100000 in
theorem ptruth_any (b : Nat) (s : ByteArray) (a : Nat) (w : World) (h : PRd w b s a) (ha : a ≤ s.size) (hs : s.size ≤ 1000000) :
    Calls Tryz.prog 177 #[.pointer (some ⟨b, 0, none⟩)] w fun e w' => PPost b s (fun t => .bool t) (rB s a) w e w' := by
  have C := Lib.hid (pnatural_any b s 1 a w h ha hs)
  clear h ha hs
  cases hx : rN s 1 a with
  | none =>
    have HX := Lib.hid (show rB s a = none from by simp [rB, hx])
    rw [hx] at C
    have HC := Lib.hid C.out
    clear hx C
    go_enter Tryz.func177, Tryz.ntmps177
    go_wp2_with fail
    refine HC.out.mono ?_
    rintro e w1 ⟨rfl, hu1⟩
    simp only [BadE]
    go_wp2
    exact ⟨rfl, by rw [HX.out]; exact ⟨rfl, hu1⟩⟩
  | some y =>
    obtain ⟨n, nx⟩ := y
    have HX := Lib.hid (show rB s a = some (n == 1, nx) from by simp [rB, hx])
    rw [hx] at C
    have HC := Lib.hid C.out
    clear hx C
    go_enter Tryz.func177, Tryz.ntmps177
    go_wp2_with fail
    refine HC.out.mono ?_
    rintro e w1 ⟨rfl, hp1, hu1⟩
    have HP := Lib.hid (And.intro hp1 hu1)
    clear hp1 hu1
    go_wp2
    go_ret
    rw [HX.out]
    exact ⟨rfl, HP.out.1, HP.out.2⟩

end Go.Proofs.YtjeigphhepngmaaGreatDoor

namespace Go.Proofs.YtjeigphhepngmaaGreatDoor
open Go.RowKit

/-- Of old memory at most two blocks have changed. -/
structure Upd2 (b t : Nat) (w w' : World) : Prop where
  os : w'.os = w.os
  tape : w'.tape = w.tape
  output : w'.output = w.output
  size : w.heap.size ≤ w'.heap.size
  block : ∀ k, k < w.heap.size → k ≠ b → k ≠ t → w'.heap[k]? = w.heap[k]?
theorem Upd2.refl (b t : Nat) (w : World) : Upd2 b t w w := ⟨rfl, rfl, rfl, Nat.le_refl _, fun _ _ _ _ => rfl⟩
theorem Upd2.upd {b t : Nat} {a w w' : World} (h : Upd2 b t a w) (hu : Upd b w w') : Upd2 b t a w' :=
  ⟨hu.os.trans h.os, hu.tape.trans h.tape, hu.output.trans h.output, Nat.le_trans h.size hu.size, fun k hk h1 h2 => (hu.block k (by have := h.size; omega) (by simp; omega)).trans (h.block k hk h1 h2)⟩
theorem Upd2.trans {b t : Nat} {a w w' : World} (h : Upd2 b t a w) (hu : Upd2 b t w w') : Upd2 b t a w' :=
  ⟨hu.os.trans h.os, hu.tape.trans h.tape, hu.output.trans h.output, Nat.le_trans h.size hu.size, fun k hk h1 h2 => (hu.block k (by have := h.size; omega) h1 h2).trans (h.block k hk h1 h2)⟩
theorem Upd2.set {b t : Nat} {a w : World} (h : Upd2 b t a w) (o : Nat) (u : Value) : Upd2 b t a (w.setCell ⟨t, o, none⟩ u) :=
  ⟨h.os, h.tape, h.output, by simpa using h.size, fun k hk h1 h2 => (heap_setCell_other w ⟨t, o, none⟩ k u h2).trans (h.block k hk h1 h2)⟩
theorem Upd2.below {b t : Nat} {a w w' : World} (h : Upd2 b t a w) (hb : Below w.heap.size w w') : Upd2 b t a w' := h.upd (upd_of_below hb)
/-- The second block is new. -/
theorem Upd2.one {b t : Nat} {a w w' : World} (h : Upd b a w) (hu : Upd2 b t w w') (ht : a.heap.size ≤ t) : Upd b a w' :=
  ⟨hu.os.trans h.os, hu.tape.trans h.tape, hu.output.trans h.output, Nat.le_trans h.size hu.size, fun k hk hne => (hu.block k (by have := h.size; omega) (fun e => hne (by simp [e])) (by omega)).trans (h.block k hk hne)⟩
theorem RowAt.upd2 {w w' : World} {b t k T : Nat} {cs : Array Value} (h : RowAt w k T cs) (hu : Upd2 b t w w') (h1 : k ≠ b) (h2 : k ≠ t) : RowAt w' k T cs := (hu.block k (lt_of_block h) h1 h2).trans h

/-- How far a list has been read: the elements so far, the offset, what is left. -/
def LoopR {α : Type} (s : ByteArray) (f : Rd α) (N a : Nat) (l : List α) (c : Nat) : Prop :=
  rL f N a = (rL f (N - l.length) c).map (fun y => (l ++ y.1, y.2)) ∧ c ≤ s.size ∧ l.length ≤ c ∧ l.length ≤ N
theorem LoopR.start {α : Type} {s : ByteArray} {f : Rd α} {N a : Nat} (h : a ≤ s.size) : LoopR s f N a [] a := ⟨by simp, h, by simp, by simp⟩
theorem LoopR.step {α : Type} {s : ByteArray} {f : Rd α} {N a c c' : Nat} {l : List α} {x : α} (F : Fwd s f) (h : LoopR s f N a l c) (hl : l.length < N) (hx : f c = some (x, c')) : LoopR s f N a (l ++ [x]) c' := by
  obtain ⟨h1, h2, h3, h4⟩ := h
  have f1 := F c x c' hx h2
  obtain ⟨d, hd⟩ : ∃ d, N - l.length = d + 1 := ⟨N - l.length - 1, by omega⟩
  refine ⟨?_, f1.2, by simp; omega, by simp; omega⟩
  rw [h1, hd, rL, hx, List.length_append, show N - (l.length + [x].length) = d from by simp; omega]
  simp only [Option.bind_some]
  cases rL f d c' <;> simp
theorem LoopR.fail {α : Type} {s : ByteArray} {f : Rd α} {N a c : Nat} {l : List α} (h : LoopR s f N a l c) (hl : l.length < N) (hx : f c = none) : rL f N a = none := by
  obtain ⟨d, hd⟩ : ∃ d, N - l.length = d + 1 := ⟨N - l.length - 1, by omega⟩
  rw [h.1, hd, rL, hx]
  rfl
theorem LoopR.stop {α : Type} {s : ByteArray} {f : Rd α} {N a c : Nat} {l : List α} (h : LoopR s f N a l c) (hl : N ≤ l.length) : rL f N a = some (l, c) := by
  rw [h.1, show N - l.length = 0 from by omega]
  simp [rL]
theorem rIs_rL (s : ByteArray) : ∀ k a, rIs s k a = rL (rI s) k a := by
  intro k
  induction k with
  | zero => intro a; rfl
  | succ k ih => intro a; simp only [rIs, rL, ih]

/-- Cells that are set one behind the other. -/
def putA (cs : Array Value) (o : Nat) : List Int → Array Value
  | [] => cs
  | n :: l => putA (cs.setIfInBounds o (.int .i64 n)) (o + 1) l
theorem putA_snoc (l : List Int) (n : Int) : ∀ (cs : Array Value) (o : Nat), putA cs o (l ++ [n]) = (putA cs o l).setIfInBounds (o + l.length) (.int .i64 n) := by
  induction l with
  | nil => intro cs o; simp [putA]
  | cons x l ih =>
    intro cs o
    rw [List.cons_append, putA, ih, putA, List.length_cons, show o + 1 + l.length = o + (l.length + 1) from by omega]
theorem putA_size (l : List Int) : ∀ (cs : Array Value) (o : Nat), (putA cs o l).size = cs.size := by
  induction l with
  | nil => intro cs o; rfl
  | cons x l ih => intro cs o; rw [putA, ih]; simp
/-- Pointers to cells one behind the other. -/
def ptrA (t o n : Nat) : Array Value := ((List.range n).map fun i => Value.pointer (some ⟨t, o + i, none⟩)).toArray
theorem ptrA_get {t o n i : Nat} (h : i < n) : (ptrA t o n)[i]? = some (.pointer (some ⟨t, o + i, none⟩)) := by simp [ptrA, h]

/-- What reading ints into variables says. -/
def IPost (b t T o : Nat) (s : ByteArray) (cs : Array Value) (r : Option (List Int × Nat)) (w : World) (e : Ending) (w' : World) : Prop :=
  match r with
  | some (l, k) => e = .returned (.tuple #[]) ∧ PRd w' b s k ∧ RowAt w' t T (putA cs o l) ∧ Upd2 b t w w'
  | none => e = BadE ∧ Upd2 b t w w'

set_option maxHeartbeats 1000000 in
set_option maxRecDepth 100000 in
theorem pints_any (b t T o g n : Nat) (s : ByteArray) (a : Nat) (cs : Array Value) (w : World) (h : PRd w b s a) (hr : RowAt w t T cs) (hg : RowAt w g 293 (ptrA t o n)) (hbt : ¬ b = t) (hgb : ¬ g = b) (hgt : ¬ g = t) (hn : n ≤ 100) (hcs : o + n ≤ cs.size) (ha : a ≤ s.size) (hs : s.size ≤ 1000000) :
    Calls Tryz.prog 220 #[.pointer (some ⟨b, 0, none⟩), .slice (some ⟨g, 0, none⟩) n n] w fun e w' => IPost b t T o s cs (rIs s n a) w e w' := by
  have h3 : (n : Int) ≤ 100 := by omega
  have HB := Lib.hid (And.intro hbt (And.intro hgb (And.intro hgt hcs)))
  rw [rIs_rL]
  clear hbt hgb hgt hcs
  go_enter Tryz.func220, Tryz.ntmps220
  go_wp2
  go_loopw [5, 8] (fun _ i wr => ∃ (l : List Int) (c : Nat), i = .int .i64 (l.length : Int) ∧ Hid (LoopR s (rI s) n a l c ∧ PRd wr b s c ∧ RowAt wr t T (putA cs o l) ∧ RowAt wr g 293 (ptrA t o n) ∧ Upd2 b t w wr)) (fun _ i _ => n - (intOf i).toNat)
  case atStart => exact ⟨[], a, rfl, Lib.hid ⟨LoopR.start ha, h, hr, hg, Upd2.refl _ _ _⟩⟩
  case round =>
    obtain ⟨l, c, rfl, hh⟩ := hrel
    obtain ⟨hl, hp, hrt, hrg, hu⟩ := hh.out
    by_cases hlt : l.length < n
    · have hlt3 : (l.length : Int) < (n : Int) := by omega
      obtain ⟨x1, x2, x3, x4, x5, x6⟩ := row_facts hrg
      have hck : wr.cell? ⟨g, l.length, none⟩ = some (.pointer (some ⟨t, o + l.length, none⟩)) := by rw [x1 l.length]; exact ptrA_get hlt
      have C := Lib.hid (pint_any b s c wr hp hl.2.1 hs)
      have HW := Lib.hid (And.intro hl (And.intro hrt (And.intro hrg hu)))
      clear hl hp hrt hrg hu hh x1
      go_wp2_with fail
      cases hx : rI s c with
      | none =>
        rw [hx] at C
        refine C.out.mono ?_
        rintro e w1 ⟨rfl, hu1⟩
        simp only [BadE]
        go_wp2
        exact ⟨rfl, by rw [HW.out.1.fail hlt hx]; exact ⟨rfl, HW.out.2.2.2.upd hu1⟩⟩
      | some y =>
        obtain ⟨m, c'⟩ := y
        rw [hx] at C
        refine C.out.mono ?_
        rintro e w1 ⟨rfl, hp1, hu1⟩
        have ht1 : RowAt w1 t T (putA cs o l) := HW.out.2.1.upd hu1 (fun e => HB.out.1 e.symm)
        have hg1 : RowAt w1 g 293 (ptrA t o n) := HW.out.2.2.1.upd hu1 HB.out.2.1
        obtain ⟨y1, y2, y3, y4, y5, y6⟩ := row_facts ht1
        have hlo : o + l.length < (putA cs o l).size := by rw [putA_size]; have := HB.out.2.2.2; omega
        have hct : w1.cell? ⟨t, o + l.length, none⟩ = some (putA cs o l)[o + l.length] := by rw [y1]; exact Array.getElem?_eq_getElem hlo
        have HN := Lib.hid (And.intro (show PRd (w1.setCell ⟨t, o + l.length, none⟩ (.int .i64 m)) b s c' from RowAt.far hp1 HB.out.1) (And.intro (show RowAt (w1.setCell ⟨t, o + l.length, none⟩ (.int .i64 m)) t T (putA cs o (l ++ [m])) from RowAt.set ht1 (putA_snoc l m cs o).symm) (And.intro (show RowAt (w1.setCell ⟨t, o + l.length, none⟩ (.int .i64 m)) g 293 (ptrA t o n) from RowAt.far hg1 HB.out.2.2.1) ((HW.out.2.2.2.upd hu1).set (o + l.length) (.int .i64 m)))))
        have HL := Lib.hid (HW.out.1.step (fwd_rI s) hlt hx)
        generalize (putA cs o l)[o + l.length] = old at hct
        clear hp1 hu1 ht1 hg1 y1 hlo hx
        go_wp2
        go_roundw
        case rel => exact ⟨l ++ [m], c', by simp, Lib.hid ⟨HL.out, HN.out.1, HN.out.2.1, HN.out.2.2.1, HN.out.2.2.2⟩⟩
        case measure => simp [intOf]; omega
    · have hln : n = l.length := by have := hl.2.2.2; omega
      have hnl : ¬ (l.length : Int) < (n : Int) := by omega
      have HW := Lib.hid (And.intro hl (And.intro hp (And.intro hrt hu)))
      clear hl hp hrt hrg hu hh
      go_wp2
      (first | go_end0 | refine bodyPost_ret (results_none rfl _ _ _) rfl ?_)
      subst hln
      rw [HW.out.1.stop (Nat.le_refl _)]
      exact ⟨rfl, HW.out.2.1, HW.out.2.2.1, HW.out.2.2.2⟩

end Go.Proofs.YtjeigphhepngmaaGreatDoor
