/-
  The library's slices.Grow, Concat and Clone on symbols, Equal on packets.
  The law TopBusCarries.
-/
import Derived.Test.YtpkhcehddfmhpaaGreatCf
import Derived.Lib.AppendZeros
import Derived.Deep.QuietTactic
import Derived.BigQuiet
import Derived.Test.YtpkhcehddfmhpaaGreatEnc
import Derived.Test.YtpkhcehddfmhpaaGreatDec
import Derived.Test.YtpkhcehddfmhpaaGreatVc
import Derived.Deep.RegionWith
import Derived.Deep.RegionHeld3
namespace Go.Proofs.YtpkhcehddfmhpaaGreat
open Go.RowKit

/-- A symbol's kind is stored. -/
theorem genL_set : ∀ (l : List (Int × Int)) (i : Nat) (a : Int) (h : i < l.length), genL prA (l.set i (a, l[i].2)) = (genL prA l).set (i * 2) (.int .i64 a)
  | x :: l, 0, a, _ => rfl
  | x :: l, i + 1, a, h => by
    rw [List.set_cons_succ, genL_cons, genL_cons, List.getElem_cons_succ, genL_set l i a (by simpa using h)]
    show _ = (Value.int .i64 x.1 :: Value.int .i64 x.2 :: genL prA l).set ((i + 1) * 2) _
    rw [Nat.succ_mul, List.set_cons_succ, List.set_cons_succ]
    rfl
theorem wpList_append_prs {w : World} {ops : Array Oper} {rest : List Oper} {o : Oper} {a : Act} {Q : Exit → Act → World → Prop} (hgd : o.guard = none) (s x : Operand)
    (ho : o.op = .call { callee := .builtin .append, args := #[s, x], argTypes := #[60, 60] }) (base : Nat) (v : Value) (n : Nat) (xs : List Value) (hs : a.eval s = v) (hown : w.ownsRow base 69 2 v n xs)
    (y : Value) (l : List (Int × Int)) (hx : a.eval x = y) (hy : PrsAt w y l) (h0 : 0 < l.length) (h63 : n + l.length ≤ 100000) (hbase : base ≤ w.heap.size)
    (h : ∀ v' w', w'.ownsRow base 69 2 v' (n + l.length) (xs ++ genL prA l) → w.grownBy w' v.ownBlock → wpList Tryz.prog ops Q rest (a.put o.dst v') w') : wpList Tryz.prog ops Q (o :: rest) a w := by
  obtain ⟨i0, hi, hz0, hz1, hz2⟩ := info_parts Tryz.info_sym
  rcases hy with ⟨h1, _⟩ | ⟨_, h1, b, off, cap, rfl, hlt, hc⟩
  · omega
  · exact wpList_append_own w hgd s x _ ho base 69 i0 _ 2 16 Tryz.underlying60 hi hz0 hz1 hz2 rfl (by decide) v n xs hs hown ⟨b, off, none⟩ l.length cap (genL prA l) hx (genL_length prA_size l) (list_news (by decide) prA_size hc) (genL_ones prA_ones l) (by unfold maxLen; omega) (by omega) hbase (fun v' w' h1 h2 _ => h v' w' h1 h2)

theorem wpList_append_runP {P : Program} {ops : Array Oper} {rest : List Oper} {o : Oper} {a : Act} {Q : Exit → Act → World → Prop} (hgd : o.guard = none) (s x : Operand) (t tn : TypeId)
    (ho : o.op = .call { callee := .builtin .append, args := #[s, x], argTypes := #[t, tn] }) (w : World) (v xv v' : Value) (w' : World) (hs : a.eval s = v) (hx : a.eval x = xv)
    (hr : (Builtin.append_ #[t, tn] o.type #[v, xv]).run P w = .ok v' w') (h : wpList P ops Q rest (a.put o.dst v') w') : wpList P ops Q (o :: rest) a w := by
  refine wpList_plain hgd fun K hK => ?_
  unfold Oper.wp execOp
  simp only [ho, resolve, invoke, builtin, Sem.run_bind, Sem.run_pure, Result.andThen_ok, List.map_toArray, List.map_cons, List.map_nil, hs, hx, hr]
  exact hK _ _ h

/-- Room for some symbols. -/
def GrowP (w : World) (e : Ending) (w' : World) : Prop := ∃ v, e = .returned v ∧ w'.ownsRow w.heap.size 69 2 v 0 [] ∧ Below w.heap.size w w'
set_option maxHeartbeats 2000000 in
set_option maxRecDepth 100000 in
theorem pgrow_none (n : Nat) (w : World) (hn : n ≤ 10000) (h0 : 0 < n) : Calls Tryz.prog 57 #[.slice none 0 0, .int .i64 n] w (GrowP w) := by
  obtain ⟨i0, hi, hz0, hz1, hz2⟩ := info_parts Tryz.info_sym
  have hn1 : (n : Int) ≤ 10000 := by omega
  have hn0 : (0 : Int) ≤ (n : Int) := by omega
  have h0' : (0 : Int) < (n : Int) := by omega
  have hr := Lib.run_append_nil_zeros (P := Tryz.prog) w 60 3 60 69 i0 _ .i64 .i64 Tryz.underlying60 Tryz.underlying3 hi hz0 n (by omega) (by omega) (by omega) (by rw [hz2]; omega)
  obtain ⟨cap, hcap⟩ : ∃ cap, grownCap w n 0 69 = cap := ⟨_, rfl⟩
  have hge : n ≤ cap := by rw [← hcap]; exact grownCap_ge w n 0 69
  have hmx : cap ≤ maxLen := by rw [← hcap]; exact grownCap_le_maxLen w n 0 69 (by unfold maxLen; omega)
  rw [hcap] at hr
  have hcz : (0 : Int) ≤ (cap : Int) := by omega
  obtain ⟨cs, hcs⟩ : ∃ cs, Builtin.zeroCells (Value.agg #[.int .i64 0, .int .i64 0]).cells n ++ Builtin.zeroCells (Value.agg #[.int .i64 0, .int .i64 0]).cells (cap - n) = cs := ⟨_, rfl⟩
  have hsz : cs.size = cap * 2 := by rw [← hcs]; simp [size_zeroCells, Value.cells]; omega
  rw [hcs] at hr
  have own0 : (w.drew.alloc (.cells cs 69)).ownsRow w.heap.size 69 2 (.slice (some ⟨w.heap.size, 0, none⟩) 0 cap) 0 [] := World.ownsRow_made w.drew cs cap (Nat.le_refl _) hmx (by omega)
  have hb0 : Below w.heap.size w (w.drew.alloc (.cells cs 69)) := ((Below.refl w.heap.size w).drew).alloc (Nat.le_refl _) _
  have HR := Lib.hid hr
  have HO := Lib.hid own0
  have HB := Lib.hid hb0
  clear hr own0 hb0 hcs hcap hsz hge
  go_enter Tryz.func57, Tryz.ntmps57
  go_wp2_with (at_builtin; refine wpList_append_runP rfl (.tmp 20) (.tmp 21) 60 3 rfl _ _ _ _ _ rfl rfl HR.out ?_)
  go_ret
  exact ⟨_, rfl, (HO.out : ((w.alloc (.cells cs 69)).drew).ownsRow w.heap.size 69 2 (.slice (some ⟨w.heap.size, 0, none⟩) 0 cap) 0 []), (HB.out : Below w.heap.size w ((w.alloc (.cells cs 69)).drew))⟩

/-- Three lists of symbols, one behind the other. -/
def ConcatP (l : List (Int × Int)) (w : World) (e : Ending) (w' : World) : Prop := ∃ v, e = .returned v ∧ PrsAt w' v l ∧ Below w.heap.size w w'
set_option maxHeartbeats 8000000 in
set_option maxRecDepth 100000 in
theorem concat_three (g : Nat) (aa ba ca : Option Addr) (an ac bn bc cn cc : Nat) (l1 l2 l3 : List (Int × Int)) (w : World) (hr : RowAt w g 60 #[.slice aa an ac, .slice ba bn bc, .slice ca cn cc]) (h1 : PrsAt w (.slice aa an ac) l1) (h2 : PrsAt w (.slice ba bn bc) l2) (h3 : PrsAt w (.slice ca cn cc) l3)
    (n1 : 0 < l1.length) (n2 : 0 < l2.length) (n3 : 0 < l3.length) (hl1 : l1.length ≤ 1000) (hl2 : l2.length ≤ 1000) (hl3 : l3.length ≤ 1000) :
    Calls Tryz.prog 16 #[.slice (some ⟨g, 0, none⟩) 3 3] w (ConcatP (l1 ++ l2 ++ l3) w) := by
  obtain ⟨_, _, e1⟩ := h1.shape
  obtain ⟨_, _, e2⟩ := h2.shape
  obtain ⟨_, _, e3⟩ := h3.shape
  cases e1
  cases e2
  cases e3
  have g1 : (l1.length : Int) ≤ 1000 := by omega
  have g2 : (l2.length : Int) ≤ 1000 := by omega
  have g3 : (l3.length : Int) ≤ 1000 := by omega
  have g4 : (0 : Int) ≤ (l1.length : Int) := by omega
  have g5 : (0 : Int) ≤ (l2.length : Int) := by omega
  have g6 : (0 : Int) ≤ (l3.length : Int) := by omega
  have CG0 := fun W => pgrow_none (l1.length + l2.length + l3.length) W (by omega) (by omega)
  rw [show ((l1.length + l2.length + l3.length : Nat) : Int) = (l1.length : Int) + (l2.length : Int) + (l3.length : Int) from by omega] at CG0
  have CG := Lib.hid CG0
  have H1 := Lib.hid h1
  have H2 := Lib.hid h2
  have H3 := Lib.hid h3
  have hlt := lt_of_block hr
  obtain ⟨x1, x2, x3, x4, x5, y6⟩ := row_facts hr
  have c0 : w.cell? ⟨g, 0, none⟩ = some (.slice aa l1.length ac) := cell_fact hr 0
  have c1 : w.cell? ⟨g, 1, none⟩ = some (.slice ba l2.length bc) := cell_fact hr 1
  have c2 : w.cell? ⟨g, 2, none⟩ = some (.slice ca l3.length cc) := cell_fact hr 2
  have X1 := Lib.hid c1
  have X2 := Lib.hid c2
  clear hr h1 h2 h3 x1 CG0
  go_enter Tryz.func16, Tryz.ntmps16
  go_wp2_with fail
  refine wp_loop_rounds 4 ?_
  rw [rounds_succ]
  go_wp2_with fail
  rw [rounds_succ]
  go_wp2_with fail
  rw [rounds_succ]
  go_wp2_with fail
  rw [rounds_succ]
  go_wp2_with fail
  refine (CG.out _).mono ?_
  rintro e w1 ⟨v1, rfl, ho1, hb1⟩
  have d0 := (hb1.cell (p := ⟨g, 0, none⟩) hlt).trans c0
  have HB1 := Lib.hid hb1
  have HO1 := Lib.hid ho1
  have hz1 := hb1.size
  clear c0 c1 c2 x2 x3 x4 x5 y6 hb1 ho1
  go_wp2_with fail
  refine wp_loop_rounds 4 ?_
  rw [rounds_succ]
  go_wp2_with (at_builtin; refine wpList_append_prs rfl (.tmp 31) (.tmp 32) rfl w.heap.size _ 0 [] rfl HO1.out _ l1 rfl (H1.out.run HB1.out) n1 (by omega) hz1 ?_)
  intro v2 w2 ho2 hgr2
  have hb2 : Below w.heap.size w1 w2 := below_grown (Below.refl _ _) HO1.out (Nat.le_refl _) hgr2 hz1
  have HO2 := Lib.hid ho2
  have HB2 := Lib.hid ((HB1.out.trans hb2 : Below w.heap.size w w2))
  have hz2 := HB2.out.size
  have f1 := (HB2.out.cell (p := ⟨g, 1, none⟩) hlt).trans X1.out
  clear ho2 hgr2 hb2 d0
  go_wp2_with fail
  rw [rounds_succ]
  go_wp2_with (at_builtin; refine wpList_append_prs rfl (.tmp 31) (.tmp 32) rfl w.heap.size _ _ _ rfl HO2.out _ l2 rfl (H2.out.run HB2.out) n2 (by omega) hz2 ?_)
  intro v3 w3 ho3 hgr3
  have hb3 : Below w.heap.size w w3 := below_grown HB2.out HO2.out (Nat.le_refl _) hgr3 hz2
  have HO3 := Lib.hid ho3
  have HB3 := Lib.hid hb3
  have hz3 := HB3.out.size
  have f2 := (HB3.out.cell (p := ⟨g, 2, none⟩) hlt).trans X2.out
  clear ho3 hgr3 hb3 f1
  go_wp2_with fail
  rw [rounds_succ]
  go_wp2_with (at_builtin; refine wpList_append_prs rfl (.tmp 31) (.tmp 32) rfl w.heap.size _ _ _ rfl HO3.out _ l3 rfl (H3.out.run HB3.out) n3 (by omega) hz3 ?_)
  intro v4 w4 ho4 hgr4
  have hb4 : Below w.heap.size w w4 := below_grown HB3.out HO3.out (Nat.le_refl _) hgr4 hz3
  have HO4 := Lib.hid ho4
  have HB4 := Lib.hid hb4
  clear ho4 hgr4 hb4 f2
  go_wp2_with fail
  rw [rounds_succ]
  go_wp2_with fail
  go_ret
  refine ⟨v4, rfl, ?_, HB4.out⟩
  refine own_list (base := w.heap.size) (T := 69) (by decide) prA_size ?_ (by simp only [List.length_append]; omega)
  have ho := HO4.out
  rw [show (l1 ++ l2 ++ l3).length = l1.length + l2.length + l3.length from by simp only [List.length_append], genL_append, genL_append, List.append_assoc]
  exact ho

set_option maxHeartbeats 2000000 in
set_option maxRecDepth 100000 in
theorem clone_syms (v : Value) (l : List (Int × Int)) (w : World) (hv : PrsAt w v l) (h0 : 0 < l.length) (hl : l.length ≤ 10000) :
    Calls Tryz.prog 19 #[v] w fun e w' => ∃ v', e = .returned v' ∧ w'.ownsRow w.heap.size 69 2 v' l.length (genL prA l) ∧ Below w.heap.size w w' := by
  have q22 : ∀ (w : World) (a : Option Addr) (n c n' c' : Nat), (binOp .eql 60 (.slice a n c) (.slice none n' c')).run Tryz.prog w = .ok (.bool a.isNone) w := fun w a n c n' c' => Lib.run_eql_slice_nil w _ _ a n c n' c' Tryz.underlying60
  have own0 := World.ownsRow_made (e := 69) (size := 2) w #[] 0 (Nat.le_refl _) (Nat.zero_le _) rfl
  have hv0 := hv
  rcases hv with ⟨h1, _⟩ | ⟨_, h1, b, off, cap, rfl, hlt, hc⟩
  · omega
  · have A := Lib.hid hv0
    clear hc hv0
    go_enter Tryz.func19, Tryz.ntmps19
    go_wp2_with (at_builtin; refine wpList_append_prs rfl _ _ rfl w.heap.size _ 0 [] rfl own0 _ l rfl (A.out.alloc _) h0 (by omega) (by simp) ?_)
    intro v' w1 hown hgrow
    go_wp2
    go_ret
    exact ⟨_, rfl, by simpa using hown, ((Below.refl _ w).alloc (Nat.le_refl _) _).grown hgrow (by simp) (by intro k hk; simp [Value.ownBlock] at hk; omega)⟩

set_option maxHeartbeats 2000000 in
set_option maxRecDepth 100000 in
theorem equal_pkts (v u : Value) (l : List Pkt) (w : World) (hv : PktsAt w v l) (hu : PktsAt w u l) (h0 : 0 < l.length) :
    Calls Tryz.prog 17 #[v, u] w fun e w' => e = .returned (.bool true) ∧ Below w.heap.size w w' := by
  rcases hv with ⟨h1, _⟩ | ⟨_, h1, b, off, cap, rfl, hlt, hc⟩
  · omega
  · rcases hu with ⟨g0, _⟩ | ⟨_, _, b', off', cap', rfl, hlt', hc'⟩
    · omega
    · have h3 : (l.length : Int) ≤ 140737488351232 := by omega
      have h4 : (0 : Int) < (l.length : Int) := by omega
      have h5 : ((l.length : Int) != (l.length : Int)) = false := by simp
      go_enter Tryz.func17, Tryz.ntmps17
      go_wp2
      go_loopw [5, 13] (fun _ i wr => ∃ k : Nat, k ≤ l.length ∧ i = .int .i64 k ∧ Below w.heap.size w wr) (fun _ i _ => l.length - (intOf i).toNat)
      case atStart => exact ⟨0, Nat.zero_le _, rfl, Below.refl _ _⟩
      case round =>
        obtain ⟨k, hk, rfl, hb0⟩ := hrel
        by_cases hlt2 : k < l.length
        · have hlt3 : (k : Int) < (l.length : Int) := by omega
          have hk0 : (0 : Int) ≤ (k : Int) := by omega
          have hw1 : ∀ j, j < l.length * 2 → wr.cell? ⟨b, off + j, none⟩ = genC 2 pktA l j := fun j hj => (hb0.cell (p := ⟨b, off + j, none⟩) hlt).trans (hc j hj)
          have hw2 : ∀ j, j < l.length * 2 → wr.cell? ⟨b', off' + j, none⟩ = genC 2 pktA l j := fun j hj => (hb0.cell (p := ⟨b', off' + j, none⟩) hlt').trans (hc' j hj)
          obtain ⟨e0, e1⟩ := pkt_cells hw1 k hlt2
          obtain ⟨f0, f1⟩ := pkt_cells hw2 k hlt2
          generalize l[k].start = st at e0 f0
          generalize l[k].slots = sl at e1 f1
          have hsz := hb0.size
          clear hw1 hw2
          clear hc hc'
          go_wp2
          go_quiet (fail)
          go_wp2
          go_roundw
          case rel => exact ⟨k + 1, by omega, by go_num, by (repeat' (first | (with_reducible exact Below.refl _ _) | (with_reducible assumption) | (with_reducible refine below_run ?_ (by assumption)) | (with_reducible refine below_of_upd ?_ (by assumption) ?_) | (with_reducible refine below_drewN ?_ _) | (with_reducible refine Below.drew ?_) | (with_reducible refine below_seven ?_ ?_) | (with_reducible refine below_six ?_ ?_) | (with_reducible refine below_one ?_ ?_) | (with_reducible refine Below.alloc ?_ ?_ _) | (with_reducible refine below_after ?_ ?_ (by assumption)) | (show _ ≤ _; first | omega | (simp; done) | (simp; omega))))⟩
          case measure => first | omega | (simp [intOf]; omega)
        · have hlt3 : ¬ (k : Int) < (l.length : Int) := by omega
          obtain rfl : k = l.length := by omega
          go_wp2
          go_ret
          exact ⟨rfl, hb0⟩
end Go.Proofs.YtpkhcehddfmhpaaGreat

namespace Go.Proofs.YtpkhcehddfmhpaaGreat
open Go.RowKit

theorem own_text (m : Msg) : (str (madeL m)).extract 1 (str (madeL m)).size = (ownP m).slots := by
  have h := extract_list (str (madeL m)) 1 (str (madeL m)).size
  rw [← str_list ((str (madeL m)).extract 1 (str (madeL m)).size), h]
  show str (seg (madeL m) 1 (str (madeL m)).size) = str ((madeL m).drop 1)
  rw [seg, str_size, List.take_of_length_le (by simp)]
theorem own_start (m : Msg) (h : 0 < (str (madeL m)).size) : (str (madeL m))[0] = 204 := by
  have e := madeL_cons m
  generalize (madeL m).drop 1 = t at e
  generalize madeL m = l at e h ⊢
  subst e
  rfl
theorem own_whole (m : Msg) : str [204] ++ (ownP m).slots = str (madeL m) := by
  rw [← str_list (str [204] ++ (ownP m).slots)]
  congr 1
theorem conv_oneB (W : World) (b : Nat) (x : UInt8) (h : W.cell? ⟨b, 0, none⟩ = some (.int .u8 (x.toNat : Int))) : (convert 73 9 (.slice (some ⟨b, 0, none⟩) 1 1)).run Tryz.prog W = .ok (.string (str [x])) W := by
  rw [← strOfNums_L]
  refine run_convert_bytes_arg W 73 5 Tryz.underlying73 Tryz.underlying5 b 0 1 1 _ rfl (fun i hi => ?_) 9 Tryz.underlying9
  obtain rfl : i = 0 := by omega
  simpa using h
theorem conv_204 (W : World) (b : Nat) (h : W.cell? ⟨b, 0, none⟩ = some (.int .u8 204)) : (convert 73 9 (.slice (some ⟨b, 0, none⟩) 1 1)).run Tryz.prog W = .ok (.string (str [204])) W := conv_oneB W b 204 h
theorem pkts_row {w : World} {b T : Nat} {cs : Array Value} {l : List Pkt} (h : RowAt w b T cs) (hcs : cs.toList = genL pktA l) (h0 : 0 < l.length) (hn : l.length ≤ 1000) : PktsAt w (.slice (some ⟨b, 0, none⟩) l.length l.length) l :=
  .inr ⟨h0, by omega, b, 0, l.length, rfl, lt_of_block h, fun j hj => by
    rw [Nat.zero_add, cell_fact h j, ← genL_get (by decide) pktA_size, ← hcs]
    simp⟩
theorem pkts_at {w : World} {a : Option Addr} {n c : Nat} {l : List Pkt} (h : PktsAt w (.slice a n c) l) (h0 : 0 < l.length) : ∃ b off, a = some ⟨b, off, none⟩ ∧ ∀ k (hk : k < l.length), w.cell? ⟨b, off + k * 2, none⟩ = some (.int .i64 l[k].start) ∧ w.cell? ⟨b, off + k * 2 + 1, none⟩ = some (.string l[k].slots) := by
  rcases h with ⟨h1, _⟩ | ⟨_, _, b, off, cap, he, _, hc⟩
  · omega
  · cases he
    exact ⟨b, off, rfl, fun k hk => pkt_cells hc k hk⟩
theorem enc_right {m : Msg} {s : ByteArray} (h : encM m = (s, 0)) : s = str (madeL m) ∧ chk m = 0 := by
  unfold encM at h
  split at h
  · rename_i h1
    exact absurd (congrArg Prod.snd h) h1
  · rename_i h1
    refine ⟨(congrArg Prod.fst h).symm, ?_⟩
    by_cases h2 : chk m = 0
    · exact h2
    · exact absurd h2 h1

theorem below_two2 (w : World) (o1 o2 : Obj) : Below w.heap.size w ((w.alloc o1).alloc o2) := ((Below.refl _ _).alloc (Nat.le_refl _) _).alloc (by simp) _

set_option maxHeartbeats 8000000 in
set_option maxRecDepth 100000 in
theorem law_carries (dst src seq kind par : Int) (dat : ByteArray) (s0 s1 : Int) (t0 t1 : ByteArray) (at' : Int) (w : World) (ha0 : 0 ≤ at') (ha1 : at' ≤ 65535) :
    Calls Tryz.prog 4 #[.agg #[.int .u64 dst, .int .u64 src, .int .i64 seq, .int .i64 kind, .int .i64 par, .string dat], .agg #[.int .i64 s0, .string t0, .int .i64 s1, .string t1], .int .u16 at'] w fun e w' => e = .returned (.bool true) ∧ Below w.heap.size w w' := by
  have PB := Lib.hid playBus_any
  by_cases h1 : 300 < dat.size
  · have g1 : (300 : Int) < (dat.size : Int) := by omega
    go_enter Tryz.func4, Tryz.ntmps4
    go_wp2_with fail
    refine (PB.out _).mono ?_
    rintro e w1 ⟨rfl, hb⟩
    go_wp2
    go_ret
    exact ⟨rfl, below_run (below_two2 w _ _) hb⟩
  have g1 : (dat.size : Int) ≤ 300 := by omega
  clear h1
  by_cases h2 : 100 < t0.size
  · have g2 : (100 : Int) < (t0.size : Int) := by omega
    go_enter Tryz.func4, Tryz.ntmps4
    go_wp2_with fail
    refine (PB.out _).mono ?_
    rintro e w1 ⟨rfl, hb⟩
    go_wp2
    go_ret
    exact ⟨rfl, below_run (below_two2 w _ _) hb⟩
  have g2 : (t0.size : Int) ≤ 100 := by omega
  clear h2
  by_cases h3 : 100 < t1.size
  · have g3 : (100 : Int) < (t1.size : Int) := by omega
    go_enter Tryz.func4, Tryz.ntmps4
    go_wp2_with fail
    refine (PB.out _).mono ?_
    rintro e w1 ⟨rfl, hb⟩
    go_wp2
    go_ret
    exact ⟨rfl, below_run (below_two2 w _ _) hb⟩
  have g3 : (t1.size : Int) ≤ 100 := by omega
  clear h3
  obtain ⟨n0, hn0⟩ : ∃ n, pktE ⟨s0, t0⟩ = n := ⟨_, rfl⟩
  obtain ⟨n1, hn1⟩ : ∃ n, pktE ⟨s1, t1⟩ = n := ⟨_, rfl⟩
  have K0 : Hid (∀ W, Calls Tryz.prog 11 #[.agg #[.int .i64 s0, .string t0]] W fun e w' => e = .returned (.int .i64 n0) ∧ Below W.heap.size W w') := Lib.hid fun W => by
    have := pcheck_any ⟨s0, t0⟩ W
    rw [hn0] at this
    exact this
  have K1 : Hid (∀ W, Calls Tryz.prog 11 #[.agg #[.int .i64 s1, .string t1]] W fun e w' => e = .returned (.int .i64 n1) ∧ Below W.heap.size W w') := Lib.hid fun W => by
    have := pcheck_any ⟨s1, t1⟩ W
    rw [hn1] at this
    exact this
  by_cases h4 : n0 = 0
  case neg =>
    have g4 : (n0 != 0) = true := by simpa using h4
    clear hn0 hn1
    go_enter Tryz.func4, Tryz.ntmps4
    go_wp2_with fail
    refine (K0.out _).mono ?_
    rintro e w1 ⟨rfl, hb⟩
    have hb1 := below_run (below_two2 w _ _) hb
    clear hb
    go_wp2_with fail
    refine (PB.out _).mono ?_
    rintro e w2 ⟨rfl, hb⟩
    go_wp2
    go_ret
    exact ⟨rfl, below_run hb1 hb⟩
  subst h4
  have P0 := Lib.hid hn0
  clear hn0
  have g5 : ((0 : Int) != 0) = false := by decide
  by_cases h4 : n1 = 0
  case neg =>
    have g4 : (n1 != 0) = true := by simpa using h4
    clear hn1
    go_enter Tryz.func4, Tryz.ntmps4
    go_wp2_with fail
    refine (K0.out _).mono ?_
    rintro e w1 ⟨rfl, hb⟩
    have hb1 := below_run (below_two2 w _ _) hb
    have r4 : RowAt w1 (w.heap.size + 1) 55 #[.int .i64 s0, .string t0, .int .i64 s1, .string t1] := RowAt.run (RowAt.mk (by simp) rfl) hb
    obtain ⟨x1, x2, x3, x4, x5, x6⟩ := row_facts r4
    clear hb r4
    go_wp2_with fail
    refine (K1.out _).mono ?_
    rintro e w2 ⟨rfl, hb⟩
    have hb2 := below_run hb1 hb
    clear hb x1 x2
    go_wp2_with fail
    refine (PB.out _).mono ?_
    rintro e w3 ⟨rfl, hb⟩
    go_wp2
    go_ret
    exact ⟨rfl, below_run hb2 hb⟩
  subst h4
  have P1 := Lib.hid hn1
  clear hn1
  obtain ⟨s, n, hsn⟩ : ∃ s n, encM ⟨dst, src, seq, kind, par, dat⟩ = (s, n) := ⟨_, _, rfl⟩
  have C1 : Hid (∀ W, Calls Tryz.prog 13 #[.agg #[.int .u64 dst, .int .u64 src, .int .i64 seq, .int .i64 kind, .int .i64 par, .string dat]] W fun e w' => e = .returned (.tuple #[.string s, .int .i64 n]) ∧ Below W.heap.size W w') := Lib.hid fun W => (enc_any dst src seq kind par dat W).mono fun e w' ⟨a, b, he, hh, hb⟩ => by
    have := hh.out; rw [hsn] at this; cases this; exact ⟨he, hb⟩
  by_cases hn : n = 0
  case neg =>
    have g6 : (n != 0) = true := by simpa using hn
    clear hsn
    go_enter Tryz.func4, Tryz.ntmps4
    go_wp2_with fail
    refine (K0.out _).mono ?_
    rintro e w1 ⟨rfl, hb⟩
    have hb1 := below_run (below_two2 w _ _) hb
    have r4 : RowAt w1 (w.heap.size + 1) 55 #[.int .i64 s0, .string t0, .int .i64 s1, .string t1] := RowAt.run (RowAt.mk (by simp) rfl) hb
    have r3 : RowAt w1 w.heap.size 52 #[.int .u64 dst, .int .u64 src, .int .i64 seq, .int .i64 kind, .int .i64 par, .string dat] := RowAt.run ((RowAt.new _ _ _).alloc _) hb
    obtain ⟨x1, x2, x3, x4, x5, x6⟩ := row_facts r4
    clear hb r4
    go_wp2_with fail
    refine (K1.out _).mono ?_
    rintro e w2 ⟨rfl, hb⟩
    have hb2 := below_run hb1 hb
    have r32 := r3.run hb
    obtain ⟨y1, y2, y3, y4, y5, y6⟩ := row_facts r32
    clear hb x1 x2 r3 r32
    go_wp2_with fail
    refine (C1.out _).mono ?_
    rintro e w3 ⟨rfl, hb⟩
    have hb3 := below_run hb2 hb
    clear hb y1 y2
    go_wp2_with fail
    refine (PB.out _).mono ?_
    rintro e w4 ⟨rfl, hb⟩
    go_wp2
    go_ret
    exact ⟨rfl, below_run hb3 hb⟩
  subst hn
  obtain ⟨hs, hk⟩ := enc_right hsn
  obtain ⟨d0, d1, e0, e1, q0, q1, k0, k1, p0, p1, n1⟩ := small_of_chk hk
  simp only at n1
  have hsz : s.size = 21 + dat.size := by rw [hs, str_size, madeL_length]
  have hs1 : (1 : Int) ≤ (s.size : Int) := by omega
  have hs2 : (0 : Int) < (s.size : Int) := by omega
  have hs3 : s.extract 1 (21 + dat.size) = (ownP ⟨dst, src, seq, kind, par, dat⟩).slots := by rw [← hsz, hs]; exact own_text _
  have hs4 : s[0]'(by omega) = 204 := by subst hs; exact own_start _ _
  have hs5 : s.toList.isEmpty = false := by
    rw [ByteArray.toList_eq, hs, show (str (madeL ⟨dst, src, seq, kind, par, dat⟩)).data.toList = madeL ⟨dst, src, seq, kind, par, dat⟩ from by simp [str], madeL_cons]
    rfl
  have C2 : Hid (∀ W, Calls Tryz.prog 18 #[.string s] W fun e w' => e = .returned (.tuple #[.agg #[.int .u64 dst, .int .u64 src, .int .i64 seq, .int .i64 kind, .int .i64 par, .string dat], .int .i64 0]) ∧ Below W.heap.size W w') := Lib.hid fun W => (dec_any s W (by omega)).mono fun e w' ⟨a, b, he, hh, hb⟩ => by
    have := hh.out
    rw [hs, show (str (madeL ⟨dst, src, seq, kind, par, dat⟩)).data.toList = madeL ⟨dst, src, seq, kind, par, dat⟩ from by simp [str], dec_made _ hk] at this
    cases this
    exact ⟨he, hb⟩
  have PO : Hid (pktE (ownP ⟨dst, src, seq, kind, par, dat⟩) = 0) := Lib.hid (ownP_ok _ (by show dat.size ≤ 300; omega))
  have HW : Hid (str [204] ++ (ownP ⟨dst, src, seq, kind, par, dat⟩).slots = s) := Lib.hid (by rw [hs]; exact own_whole _)
  have HQ : Hid (ownP ⟨dst, src, seq, kind, par, dat⟩ = ⟨204, (ownP ⟨dst, src, seq, kind, par, dat⟩).slots⟩) := Lib.hid rfl
  have HZ : Hid ((ownP ⟨dst, src, seq, kind, par, dat⟩).slots.size = 20 + dat.size) := Lib.hid (ownP_size _)
  generalize (ownP ⟨dst, src, seq, kind, par, dat⟩).slots = sl at HW HQ HZ hs3
  generalize ownP ⟨dst, src, seq, kind, par, dat⟩ = po at PO HQ
  have HQ' := HQ.out
  subst HQ'
  clear HQ hs hsn hk d0 d1 e0 e1 q0 q1 k0 k1 p0 p1
  go_enter Tryz.func4, Tryz.ntmps4
  go_wp2_with fail
  refine (K0.out _).mono ?_
  rintro e w1 ⟨rfl, hb⟩
  have hb1 := below_run (below_two2 w _ _) hb
  have r4 : RowAt w1 (w.heap.size + 1) 55 #[.int .i64 s0, .string t0, .int .i64 s1, .string t1] := RowAt.run (RowAt.mk (by simp) rfl) hb
  have r3 : RowAt w1 w.heap.size 52 #[.int .u64 dst, .int .u64 src, .int .i64 seq, .int .i64 kind, .int .i64 par, .string dat] := RowAt.run ((RowAt.new _ _ _).alloc _) hb
  obtain ⟨x1, x2, x3, x4, x5, x6⟩ := row_facts r4
  clear hb K0
  go_wp2_with fail
  refine (K1.out _).mono ?_
  rintro e w2 ⟨rfl, hb⟩
  have hb2 := below_run hb1 hb
  have r42 := r4.run hb
  have r32 := r3.run hb
  obtain ⟨y1, y2, y3, y4, y5, y6⟩ := row_facts r32
  clear hb x1 x2 r3 r4 hb1 K1
  go_wp2_with fail
  refine (C1.out _).mono ?_
  rintro e w3 ⟨rfl, hb⟩
  have hb3 := below_run hb2 hb
  have r43 := r42.run hb
  have r33 := r32.run hb
  clear hb y1 y2 r32 r42 hb2 C1
  go_upto_region 6 with fail
  go_region
  have hz3 := hb3.size
  have hbX : Below w.heap.size w (w3.alloc (.cells #[.int .i64 204, .string sl] 54)).drew := (hb3.alloc hz3 _).drew
  have r9 : RowAt (w3.alloc (.cells #[.int .i64 204, .string sl] 54)).drew w3.heap.size 54 #[.int .i64 204, .string sl] := (RowAt.new _ _ _).drew
  have r44 : RowAt (w3.alloc (.cells #[.int .i64 204, .string sl] 54)).drew (w.heap.size + 1) 55 #[.int .i64 s0, .string t0, .int .i64 s1, .string t1] := (r43.alloc _).drew
  have r34 : RowAt (w3.alloc (.cells #[.int .i64 204, .string sl] 54)).drew w.heap.size 52 #[.int .u64 dst, .int .u64 src, .int .i64 seq, .int .i64 kind, .int .i64 par, .string dat] := (r33.alloc _).drew
  generalize (w3.alloc (.cells #[.int .i64 204, .string sl] 54)).drew = W at hbX r9 r44 r34 ⊢
  generalize w3.heap.size = k9 at r9 ⊢
  clear hz3 hb3 r43 r33
  obtain ⟨x1, x2, x3, x4, x5, x6⟩ := row_facts r44
  have E0 := Lib.hid (fun V => pencode_any ⟨s0, t0⟩ V P0.out)
  have E1 := Lib.hid (fun V => pencode_any ⟨s1, t1⟩ V P1.out)
  have EO := Lib.hid (fun V => pencode_any ⟨204, sl⟩ V PO.out)
  have N0 : Hid (3 ≤ (symsP ⟨s0, t0⟩).length ∧ (symsP ⟨s0, t0⟩).length ≤ 600) := Lib.hid (by rw [symsP_length]; show 3 ≤ 3 + t0.size ∧ 3 + t0.size ≤ 600; omega)
  have N1 : Hid (3 ≤ (symsP ⟨s1, t1⟩).length ∧ (symsP ⟨s1, t1⟩).length ≤ 600) := Lib.hid (by rw [symsP_length]; show 3 ≤ 3 + t1.size ∧ 3 + t1.size ≤ 600; omega)
  have NO : Hid (3 ≤ (symsP ⟨204, sl⟩).length ∧ (symsP ⟨204, sl⟩).length ≤ 600) := Lib.hid (by rw [symsP_length]; have := HZ.out; show 3 ≤ 3 + sl.size ∧ 3 + sl.size ≤ 600; omega)
  have HBX := Lib.hid hbX
  have hzX := hbX.size
  clear hbX
  go_wp2_with fail
  refine (E0.out _).mono ?_
  rintro e w4 ⟨va, rfl, oa, hb4⟩
  have hz4 := hb4.size
  have LA := Lib.hid (own_list (by decide) prA_size oa (by have := N0.out; omega))
  have HB4 := Lib.hid (below_run HBX.out hb4)
  have R94 := Lib.hid (r9.run hb4)
  have R44 := Lib.hid (r44.run hb4)
  have R34 := Lib.hid (r34.run hb4)
  obtain ⟨q1, q2, q3, q4, q5, q6⟩ := row_facts R94.out
  clear x1 x2 x3 x4 x5 x6 r9 r44 r34 hb4 oa E0
  go_wp2_with fail
  refine (EO.out _).mono ?_
  rintro e w5 ⟨vb, rfl, ob, hb5⟩
  have hz5 := hb5.size
  have LB := Lib.hid (own_list (by decide) prA_size ob (by have := NO.out; omega))
  have LA5 := Lib.hid (LA.out.run hb5)
  have HB5 := Lib.hid (below_run HB4.out hb5)
  have R95 := Lib.hid (R94.out.run hb5)
  have R45 := Lib.hid (R44.out.run hb5)
  have R35 := Lib.hid (R34.out.run hb5)
  obtain ⟨x1, x2, x3, x4, x5, x6⟩ := row_facts R45.out
  clear q1 q2 q3 q4 q5 q6 hb5 ob EO LA R94 R44 R34
  go_wp2_with fail
  refine (E1.out _).mono ?_
  rintro e w6 ⟨vc, rfl, oc, hb6⟩
  have hz6 := hb6.size
  have LC := Lib.hid (own_list (by decide) prA_size oc (by have := N1.out; omega))
  have LA6 := Lib.hid (LA5.out.run hb6)
  have LB6 := Lib.hid (LB.out.run hb6)
  have HB6 := Lib.hid (below_run HB5.out hb6)
  have R96 := Lib.hid (R95.out.run hb6)
  have R46 := Lib.hid (R45.out.run hb6)
  have R36 := Lib.hid (R35.out.run hb6)
  clear x1 x2 x3 x4 x5 x6 hb6 oc E1 LA5 LB R95 R45 R35
  obtain ⟨aa, ac, rfl⟩ := LA6.out.shape
  obtain ⟨ba, bc, rfl⟩ := LB6.out.shape
  obtain ⟨ca, cc, rfl⟩ := LC.out.shape
  have hbT : Below w6.heap.size w6 (w6.alloc (.cells #[.slice aa (symsP ⟨s0, t0⟩).length ac, .slice ba (symsP ⟨204, sl⟩).length bc, .slice ca (symsP ⟨s1, t1⟩).length cc] 60)) := (Below.refl _ _).alloc (Nat.le_refl _) _
  have CC := Lib.hid (concat_three w6.heap.size aa ba ca _ ac _ bc _ cc _ _ _ _ (RowAt.new w6 60 #[.slice aa (symsP ⟨s0, t0⟩).length ac, .slice ba (symsP ⟨204, sl⟩).length bc, .slice ca (symsP ⟨s1, t1⟩).length cc]) (LA6.out.run hbT) (LB6.out.run hbT) (LC.out.run hbT) (by have := N0.out; omega) (by have := NO.out; omega) (by have := N1.out; omega) (by have := N0.out; omega) (by have := NO.out; omega) (by have := N1.out; omega))
  have HBT := Lib.hid (below_run HB6.out hbT)
  clear hbT
  go_wp2_with fail
  refine CC.out.mono ?_
  rintro e w7 ⟨vl, rfl, hvl, hb7⟩
  have hl7 : (symsP ⟨s0, t0⟩ ++ symsP ⟨204, sl⟩ ++ symsP ⟨s1, t1⟩).length ≤ 2000 ∧ 0 < (symsP ⟨s0, t0⟩ ++ symsP ⟨204, sl⟩ ++ symsP ⟨s1, t1⟩).length := by
    simp only [List.length_append]
    have := N0.out
    have := N1.out
    have := NO.out
    omega
  have ho7 : ∀ x ∈ symsP ⟨s0, t0⟩ ++ symsP ⟨204, sl⟩ ++ symsP ⟨s1, t1⟩, okS x := by
    intro x hx
    rcases List.mem_append.1 hx with hx | hx
    · rcases List.mem_append.1 hx with hx | hx
      · exact symsP_ok _ P0.out x hx
      · exact symsP_ok _ PO.out x hx
    · exact symsP_ok _ P1.out x hx
  have CD := Lib.hid (decode_any vl _ w7 hvl hl7.1 hl7.2 ho7)
  obtain ⟨e1, e2⟩ := read_three ⟨s0, t0⟩ ⟨204, sl⟩ ⟨s1, t1⟩ P0.out PO.out P1.out
  rw [e1, e2] at CD
  have HB7 := Lib.hid (below_run HBT.out hb7)
  have hb67 : Below w6.heap.size w6 w7 := below_run ((Below.refl _ _).alloc (Nat.le_refl _) _) hb7
  have LA7 := Lib.hid (LA6.out.run hb67)
  have LB7 := Lib.hid (LB6.out.run hb67)
  have LC7 := Lib.hid (LC.out.run hb67)
  have R97 := Lib.hid (R96.out.run hb67)
  have R47 := Lib.hid (R46.out.run hb67)
  have R37 := Lib.hid (R36.out.run hb67)
  clear e1 e2 hl7 ho7 hb67 hb7 hvl LA6 LB6 LC R96 R46 R36 CC
  go_wp2_with fail
  refine CD.out.mono ?_
  rintro e w8 ⟨v1, v2, rfl, hp8, hf8, hb8⟩
  have HB8 := Lib.hid (below_run HB7.out hb8)
  have LA8 := Lib.hid (LA7.out.run hb8)
  have LB8 := Lib.hid (LB7.out.run hb8)
  have LC8 := Lib.hid (LC7.out.run hb8)
  have R98 := Lib.hid (R97.out.run hb8)
  have R48 := Lib.hid (R47.out.run hb8)
  have R38 := Lib.hid (R37.out.run hb8)
  obtain ⟨fa, fc, rfl⟩ := hf8.shape
  obtain ⟨pa, pc, rfl⟩ := hp8.shape
  have HP8 := Lib.hid hp8
  clear CD LA7 LB7 LC7 R97 R47 R37 hf8 hp8 hb8
  obtain ⟨x1, x2, x3, x4, x5, x6⟩ := row_facts R48.out
  obtain ⟨q1, q2, q3, q4, q5, q6⟩ := row_facts R98.out
  have hbE : Below w8.heap.size w8 (w8.alloc (.cells #[.int .i64 s0, .string t0, .int .i64 204, .string sl, .int .i64 s1, .string t1] 54)) := (Below.refl _ _).alloc (Nat.le_refl _) _
  have HE := Lib.hid (equal_pkts (.slice pa 3 pc) (.slice (some ⟨w8.heap.size, 0, none⟩) 3 3) [⟨s0, t0⟩, ⟨204, sl⟩, ⟨s1, t1⟩] _ (HP8.out.run hbE) (pkts_row (RowAt.new w8 54 #[.int .i64 s0, .string t0, .int .i64 204, .string sl, .int .i64 s1, .string t1]) rfl (by simp) (by simp)) (by simp))
  have HBE := Lib.hid hbE
  clear hbE
  go_wp2_with fail
  refine HE.out.mono ?_
  rintro e w9 ⟨rfl, hb9⟩
  have hb89 : Below w8.heap.size w8 w9 := below_run HBE.out hb9
  have HB9 := Lib.hid (below_run HB8.out hb89)
  have LA9 := Lib.hid (LA8.out.run hb89)
  have LB9 := Lib.hid (LB8.out.run hb89)
  have LC9 := Lib.hid (LC8.out.run hb89)
  have R99 := Lib.hid (R98.out.run hb89)
  have R49 := Lib.hid (R48.out.run hb89)
  have R39 := Lib.hid (R38.out.run hb89)
  have HP9 := Lib.hid (HP8.out.run hb89)
  clear hb9 hb89 HE HBE x1 x2 x3 x4 x5 x6 q1 q2 q3 q4 q5 q6 LA8 LB8 LC8 R98 R48 R38 HP8
  obtain ⟨b9, o9, rfl, hcell⟩ := pkts_at HP9.out (by simp)
  obtain ⟨m0, m1⟩ := hcell 1 (by simp)
  have m0' : w9.cell? ⟨b9, o9 + 2, none⟩ = some (.int .i64 204) := m0
  have m1' : w9.cell? ⟨b9, o9 + 2 + 1, none⟩ = some (.string sl) := m1
  have m2' : w9.cell? ⟨b9, o9 + 3, none⟩ = some (.string sl) := m1
  have hblt : b9 < w9.heap.size := World.block_lt_of_cell? w9 _ m0'
  clear m0 m1 hcell
  have hcv := fun W b => conv_204 W b
  have hw0 : IntKind.u8.wrap 204 = 204 := IntWalk.u8_in 204 (by omega)
  have hw1 := HW.out
  have hw2 : (str [204]).size = 1 := rfl
  have hw3 := HZ.out
  have hw4 : ¬ (9223372036854775807 < 1 + (20 + dat.size)) := by omega
  have HKS : Hid (∀ W', Below w9.heap.size w9 W' → (W'.cell? ⟨b9, o9 + 2, none⟩ = some (.int .i64 204) ∧ W'.cell? ⟨b9, o9 + 3, none⟩ = some (.string sl))) := Lib.hid fun W' hb => ⟨(hb.cell (p := ⟨b9, o9 + 2, none⟩) hblt).trans m0', (hb.cell (p := ⟨b9, o9 + 3, none⟩) hblt).trans m2'⟩
  go_upto_region 13 with fail
  go_cut [8, 18] (fun s8 s18 wx => s8 = .int .i64 0 ∧ ∃ g, s18 = .pointer (some ⟨g, 0, none⟩) ∧ RowAt wx g 52 #[.int .u64 dst, .int .u64 src, .int .i64 seq, .int .i64 kind, .int .i64 par, .string dat] ∧ Below w9.heap.size w9 wx)
  case first =>
    refine wp_region_noPanic ?_
    refine wp_region_held_drew (S := (fun w' => w'.cell? ⟨b9, o9 + 2, none⟩ = some (.int .i64 204) ∧ w'.cell? ⟨b9, o9 + 3, none⟩ = some (.string sl))) (by kernel_rfl) ?_ (fun hHeld => ?_)
    · exact HKS.out _ (Below.drew (Below.refl _ _))
    (refine wpAnyH_take (i := 0) (oi := _) (v := ?_) rfl (by kernel_rfl) (by kernel_rfl) (by kernel_rfl) (fun _ _ _ h => h) (Or.inl ⟨by rfl, ?_⟩) (by assumption) ?_; rotate_left; (focus (intro w' hSw; (try dsimp only at hSw); go_simp; (try with_reducible rfl); done)); (try simp only [Act.put, List.setIfInBounds_toArray, List.set_cons_zero, List.set_cons_succ, List.getElem_toArray, List.getElem_cons_zero]))
    (refine wpAnyH_take (i := 1) (oi := _) (v := ?_) rfl (by kernel_rfl) (by kernel_rfl) (by kernel_rfl) (fun _ _ _ h => h) (Or.inl ⟨by rfl, ?_⟩) (by assumption) ?_; rotate_left; (focus (intro w' hSw; (try dsimp only at hSw); go_simp; (try with_reducible rfl); done)); (try simp only [Act.put, List.setIfInBounds_toArray, List.set_cons_zero, List.set_cons_succ, List.getElem_toArray, List.getElem_cons_succ, List.getElem_cons_zero]))
    (refine wpAnyH_take (i := 2) (oi := _) (v := ?_) rfl (by kernel_rfl) (by kernel_rfl) (by kernel_rfl) (fun _ _ _ h => h) (Or.inl ⟨by rfl, ?_⟩) (by assumption) ?_; rotate_left; (focus (intro w' hSw; (try dsimp only at hSw); go_simp; (try with_reducible rfl); done)); (try simp only [Act.put, List.setIfInBounds_toArray, List.set_cons_zero, List.set_cons_succ, List.getElem_toArray, List.getElem_cons_succ, List.getElem_cons_zero]))
    (refine wpAnyH_take (i := 3) (oi := _) (v := ?_) rfl (by kernel_rfl) (by kernel_rfl) (by kernel_rfl) (fun _ _ _ h => h) (Or.inl ⟨by rfl, ?_⟩) (by assumption) ?_; rotate_left; (focus (intro w' hSw; (try dsimp only at hSw); go_simp; (try with_reducible rfl); done)); (try simp only [Act.put, List.setIfInBounds_toArray, List.set_cons_zero, List.set_cons_succ, List.getElem_toArray, List.getElem_cons_succ, List.getElem_cons_zero]))
    (refine wpAnyH_take (i := 4) (oi := _) (v := ?_) rfl (by kernel_rfl) (by kernel_rfl) (by kernel_rfl) (fun _ _ _ h => h) (Or.inl ⟨by rfl, ?_⟩) (by assumption) ?_; rotate_left; (focus (intro w' hSw; (try dsimp only at hSw); go_simp; (try with_reducible rfl); done)); (try simp only [Act.put, List.setIfInBounds_toArray, List.set_cons_zero, List.set_cons_succ, List.getElem_toArray, List.getElem_cons_succ, List.getElem_cons_zero]))
    (refine wpAnyH_take (i := 7) (oi := _) (v := ?_) rfl (by kernel_rfl) (by kernel_rfl) (by kernel_rfl) (fun _ _ _ h => h) (Or.inl ⟨by rfl, ?_⟩) (by assumption) ?_; rotate_left; (focus (intro w' hSw; (try dsimp only at hSw); go_simp; (try with_reducible rfl); done)); (try simp only [Act.put, List.setIfInBounds_toArray, List.set_cons_zero, List.set_cons_succ, List.getElem_toArray, List.getElem_cons_succ, List.getElem_cons_zero]))
    (refine wpAnyH_take (i := 8) (oi := _) (v := ?_) rfl (by kernel_rfl) (by kernel_rfl) (by kernel_rfl) (fun _ _ _ h => h) (Or.inl ⟨by rfl, ?_⟩) (by assumption) ?_; rotate_left; (focus (intro w' hSw; (try dsimp only at hSw); go_simp; (try with_reducible rfl); done)); (try simp only [Act.put, List.setIfInBounds_toArray, List.set_cons_zero, List.set_cons_succ, List.getElem_toArray, List.getElem_cons_succ, List.getElem_cons_zero]))
    (refine wpAnyH_take (i := 9) (oi := _) (v := ?_) rfl (by kernel_rfl) (by kernel_rfl) (by kernel_rfl) (fun _ _ _ h => h) (Or.inl ⟨by rfl, ?_⟩) (by assumption) ?_; rotate_left; (focus (intro w' hSw; (try dsimp only at hSw); go_simp; (try with_reducible rfl); done)); (try simp only [Act.put, List.setIfInBounds_toArray, List.set_cons_zero, List.set_cons_succ, List.getElem_toArray, List.getElem_cons_succ, List.getElem_cons_zero]))
    (refine wpAnyH_take (i := 10) (oi := _) (v := ?_) rfl (by kernel_rfl) (by kernel_rfl) (by kernel_rfl) (fun _ _ _ h => h) (Or.inl ⟨by rfl, ?_⟩) (by assumption) ?_; rotate_left; (focus (intro w' hSw; (try dsimp only at hSw); go_simp; (try with_reducible rfl); done)); (try simp only [Act.put, List.setIfInBounds_toArray, List.set_cons_zero, List.set_cons_succ, List.getElem_toArray, List.getElem_cons_succ, List.getElem_cons_zero]))
    refine wpAnyH_ready (rs := [5, 16]) (by kernel_rfl) (by simp) (AllReadyH.cons (o := _) rfl (fun K hK => ?_) (AllReadyH.cons (o := _) rfl (fun K hK => ?_) (AllReadyH.nil)))
    · skip
      go_simp
      refine hK.out _ _ ?_ (fun hHeld => ?_)
      · (first | exact HKS.out _ (by (repeat' (first | (with_reducible exact Below.refl _ _) | (with_reducible assumption) | (with_reducible refine below_run ?_ (by assumption)) | (with_reducible refine below_of_upd ?_ (by assumption) ?_) | (with_reducible refine below_drewN ?_ _) | (with_reducible refine Below.drew ?_) | (with_reducible refine below_seven ?_ ?_) | (with_reducible refine below_six ?_ ?_) | (with_reducible refine below_one ?_ ?_) | (with_reducible refine Below.alloc ?_ ?_ _) | (with_reducible refine below_after ?_ ?_ (by assumption)) | (show _ ≤ _; first | omega | (simp; done) | (simp; omega))))) | go_keep)
      clear hK K
      (try simp only [Act.put, List.setIfInBounds_toArray, List.set_cons_zero, List.set_cons_succ, List.getElem_toArray, List.getElem_cons_succ, List.getElem_cons_zero])
      refine wpAnyH_ready (rs := [6, 16]) (by kernel_rfl) (by simp) (AllReadyH.cons (o := _) rfl (fun K hK => ?_) (AllReadyH.cons (o := _) rfl (fun K hK => ?_) (AllReadyH.nil)))
      · skip
        go_simp
        refine hK.out _ _ ?_ (fun hHeld => ?_)
        · (first | exact HKS.out _ (by (repeat' (first | (with_reducible exact Below.refl _ _) | (with_reducible assumption) | (with_reducible refine below_run ?_ (by assumption)) | (with_reducible refine below_of_upd ?_ (by assumption) ?_) | (with_reducible refine below_drewN ?_ _) | (with_reducible refine Below.drew ?_) | (with_reducible refine below_seven ?_ ?_) | (with_reducible refine below_six ?_ ?_) | (with_reducible refine below_one ?_ ?_) | (with_reducible refine Below.alloc ?_ ?_ _) | (with_reducible refine below_after ?_ ?_ (by assumption)) | (show _ ≤ _; first | omega | (simp; done) | (simp; omega))))) | go_keep)
        clear hK K
        (try simp only [Act.put, List.setIfInBounds_toArray, List.set_cons_zero, List.set_cons_succ, List.getElem_toArray, List.getElem_cons_succ, List.getElem_cons_zero])
        refine wpAnyH_ready (rs := [11, 16]) (by kernel_rfl) (by simp) (AllReadyH.cons (o := _) rfl (fun K hK => ?_) (AllReadyH.cons (o := _) rfl (fun K hK => ?_) (AllReadyH.nil)))
        · skip
          go_simp
          refine hK.out _ _ ?_ (fun hHeld => ?_)
          · (first | exact HKS.out _ (by (repeat' (first | (with_reducible exact Below.refl _ _) | (with_reducible assumption) | (with_reducible refine below_run ?_ (by assumption)) | (with_reducible refine below_of_upd ?_ (by assumption) ?_) | (with_reducible refine below_drewN ?_ _) | (with_reducible refine Below.drew ?_) | (with_reducible refine below_seven ?_ ?_) | (with_reducible refine below_six ?_ ?_) | (with_reducible refine below_one ?_ ?_) | (with_reducible refine Below.alloc ?_ ?_ _) | (with_reducible refine below_after ?_ ?_ (by assumption)) | (show _ ≤ _; first | omega | (simp; done) | (simp; omega))))) | go_keep)
          clear hK K
          (try simp only [Act.put, List.setIfInBounds_toArray, List.set_cons_zero, List.set_cons_succ, List.getElem_toArray, List.getElem_cons_succ, List.getElem_cons_zero])
          refine wpAnyH_ready (rs := [12, 16]) (by kernel_rfl) (by simp) (AllReadyH.cons (o := _) rfl (fun K hK => ?_) (AllReadyH.cons (o := _) rfl (fun K hK => ?_) (AllReadyH.nil)))
          · skip
            go_simp
            (go_at_call 18; with_reducible refine (C2.out _).mono ?_; rintro e u2 ⟨rfl, hbu2⟩; have hzu2 := hbu2.size; (try simp at hzu2))
            refine hK.out _ _ ?_ (fun hHeld => ?_)
            · (first | exact HKS.out _ (by (repeat' (first | (with_reducible exact Below.refl _ _) | (with_reducible assumption) | (with_reducible refine below_run ?_ (by assumption)) | (with_reducible refine below_of_upd ?_ (by assumption) ?_) | (with_reducible refine below_drewN ?_ _) | (with_reducible refine Below.drew ?_) | (with_reducible refine below_seven ?_ ?_) | (with_reducible refine below_six ?_ ?_) | (with_reducible refine below_one ?_ ?_) | (with_reducible refine Below.alloc ?_ ?_ _) | (with_reducible refine below_after ?_ ?_ (by assumption)) | (show _ ≤ _; first | omega | (simp; done) | (simp; omega))))) | go_keep)
            clear hK K
            (try simp only [Act.put, List.setIfInBounds_toArray, List.set_cons_zero, List.set_cons_succ, List.getElem_toArray, List.getElem_cons_succ, List.getElem_cons_zero])
            (refine wpAnyH_take (i := 13) (oi := _) (v := ?_) rfl (by kernel_rfl) (by kernel_rfl) (by kernel_rfl) (fun _ _ _ h => h) (Or.inl ⟨by rfl, ?_⟩) (by assumption) ?_; rotate_left; (focus (intro w' hSw; (try dsimp only at hSw); go_simp; (try with_reducible rfl); done)); (try simp only [Act.put, List.setIfInBounds_toArray, List.set_cons_zero, List.set_cons_succ, List.getElem_toArray, List.getElem_cons_succ, List.getElem_cons_zero]))
            (refine wpAnyH_take (i := 14) (oi := _) (v := ?_) rfl (by kernel_rfl) (by kernel_rfl) (by kernel_rfl) (fun _ _ _ h => h) (Or.inl ⟨by rfl, ?_⟩) (by assumption) ?_; rotate_left; (focus (intro w' hSw; (try dsimp only at hSw); go_simp; (try with_reducible rfl); done)); (try simp only [Act.put, List.setIfInBounds_toArray, List.set_cons_zero, List.set_cons_succ, List.getElem_toArray, List.getElem_cons_succ, List.getElem_cons_zero]))
            (refine wpAnyH_take (i := 15) (oi := _) (v := ?_) rfl (by kernel_rfl) (by kernel_rfl) (by kernel_rfl) (fun _ _ _ h => h) (Or.inl ⟨by rfl, ?_⟩) (by assumption) ?_; rotate_left; (focus (intro w' hSw; (try dsimp only at hSw); go_simp; (try with_reducible rfl); done)); (try simp only [Act.put, List.setIfInBounds_toArray, List.set_cons_zero, List.set_cons_succ, List.getElem_toArray, List.getElem_cons_succ, List.getElem_cons_zero]))
            refine wpAnyH_ready (rs := [16]) (by kernel_rfl) (by simp) (AllReadyH.cons (o := _) rfl (fun K hK => ?_) (AllReadyH.nil))
            go_simp
            refine hK.out _ _ ?_ (fun hHeld => ?_)
            · (first | exact HKS.out _ (by (repeat' (first | (with_reducible exact Below.refl _ _) | (with_reducible assumption) | (with_reducible refine below_run ?_ (by assumption)) | (with_reducible refine below_of_upd ?_ (by assumption) ?_) | (with_reducible refine below_drewN ?_ _) | (with_reducible refine Below.drew ?_) | (with_reducible refine below_seven ?_ ?_) | (with_reducible refine below_six ?_ ?_) | (with_reducible refine below_one ?_ ?_) | (with_reducible refine Below.alloc ?_ ?_ _) | (with_reducible refine below_after ?_ ?_ (by assumption)) | (show _ ≤ _; first | omega | (simp; done) | (simp; omega))))) | go_keep)
            clear hK K
            (try simp only [Act.put, List.setIfInBounds_toArray, List.set_cons_zero, List.set_cons_succ, List.getElem_toArray, List.getElem_cons_succ, List.getElem_cons_zero])
            refine wpAnyH_ready (rs := [17]) (by kernel_rfl) (by simp) (AllReadyH.cons (o := _) rfl (fun K hK => ?_) (AllReadyH.nil))
            go_simp
            refine hK.out _ _ ?_ (fun hHeld => ?_)
            · (first | exact HKS.out _ (by (repeat' (first | (with_reducible exact Below.refl _ _) | (with_reducible assumption) | (with_reducible refine below_run ?_ (by assumption)) | (with_reducible refine below_of_upd ?_ (by assumption) ?_) | (with_reducible refine below_drewN ?_ _) | (with_reducible refine Below.drew ?_) | (with_reducible refine below_seven ?_ ?_) | (with_reducible refine below_six ?_ ?_) | (with_reducible refine below_one ?_ ?_) | (with_reducible refine Below.alloc ?_ ?_ _) | (with_reducible refine below_after ?_ ?_ (by assumption)) | (show _ ≤ _; first | omega | (simp; done) | (simp; omega))))) | go_keep)
            clear hK K
            (try simp only [Act.put, List.setIfInBounds_toArray, List.set_cons_zero, List.set_cons_succ, List.getElem_toArray, List.getElem_cons_succ, List.getElem_cons_zero])
            refine wpAnyH_ready (rs := [18]) (by kernel_rfl) (by simp) (AllReadyH.cons (o := _) rfl (fun K hK => ?_) (AllReadyH.nil))
            go_simp
            refine hK.out _ _ ?_ (fun hHeld => ?_)
            · (first | exact HKS.out _ (by (repeat' (first | (with_reducible exact Below.refl _ _) | (with_reducible assumption) | (with_reducible refine below_run ?_ (by assumption)) | (with_reducible refine below_of_upd ?_ (by assumption) ?_) | (with_reducible refine below_drewN ?_ _) | (with_reducible refine Below.drew ?_) | (with_reducible refine below_seven ?_ ?_) | (with_reducible refine below_six ?_ ?_) | (with_reducible refine below_one ?_ ?_) | (with_reducible refine Below.alloc ?_ ?_ _) | (with_reducible refine below_after ?_ ?_ (by assumption)) | (show _ ≤ _; first | omega | (simp; done) | (simp; omega))))) | go_keep)
            clear hK K
            (try simp only [Act.put, List.setIfInBounds_toArray, List.set_cons_zero, List.set_cons_succ, List.getElem_toArray, List.getElem_cons_succ, List.getElem_cons_zero])
            refine wpAnyH_done (by kernel_rfl) ?_ _
            refine NoPanic.normal ?_
            (go_wp2_with fail)
            go_meet
            exact ⟨rfl, _, rfl, by (repeat' (first | (with_reducible assumption) | (with_reducible refine RowAt.drewN ?_ _) | (with_reducible refine RowAt.drew ?_) | (with_reducible apply RowAt.seven) | (with_reducible apply RowAt.six) | (with_reducible refine RowAt.far7 ?_ ?_) | (with_reducible refine RowAt.far6 ?_ ?_) | (with_reducible refine RowAt.far1 ?_ ?_) | ((with_reducible refine RowAt.mk ?_ ?_); (focus (first | (with_reducible rfl) | (simp; done))); rfl) | (with_reducible refine RowAt.alloc ?_ _) | (with_reducible refine RowAt.run ?_ (by assumption)) | (with_reducible refine RowAt.below ?_ (by assumption) ?_) | (with_reducible refine RowAt.upd ?_ (by assumption) ?_) | (with_reducible show _ < _; first | omega | (simp; done) | (simp; omega)) | (with_reducible show ¬ _ = _; first | omega | (simp; done) | (simp; omega)) | (with_reducible exact rfl))), by (repeat' (first | (with_reducible exact Below.refl _ _) | (with_reducible assumption) | (with_reducible refine below_run ?_ (by assumption)) | (with_reducible refine below_of_upd ?_ (by assumption) ?_) | (with_reducible refine below_drewN ?_ _) | (with_reducible refine Below.drew ?_) | (with_reducible refine below_seven ?_ ?_) | (with_reducible refine below_six ?_ ?_) | (with_reducible refine below_one ?_ ?_) | (with_reducible refine Below.alloc ?_ ?_ _) | (with_reducible refine below_after ?_ ?_ (by assumption)) | (show _ ≤ _; first | omega | (simp; done) | (simp; omega))))⟩
          · skip
            go_simp
            refine hK.out _ _ ?_ (fun hHeld => ?_)
            · (first | exact HKS.out _ (by (repeat' (first | (with_reducible exact Below.refl _ _) | (with_reducible assumption) | (with_reducible refine below_run ?_ (by assumption)) | (with_reducible refine below_of_upd ?_ (by assumption) ?_) | (with_reducible refine below_drewN ?_ _) | (with_reducible refine Below.drew ?_) | (with_reducible refine below_seven ?_ ?_) | (with_reducible refine below_six ?_ ?_) | (with_reducible refine below_one ?_ ?_) | (with_reducible refine Below.alloc ?_ ?_ _) | (with_reducible refine below_after ?_ ?_ (by assumption)) | (show _ ≤ _; first | omega | (simp; done) | (simp; omega))))) | go_keep)
            clear hK K
            (try simp only [Act.put, List.setIfInBounds_toArray, List.set_cons_zero, List.set_cons_succ, List.getElem_toArray, List.getElem_cons_succ, List.getElem_cons_zero])
            refine wpAnyH_ready (rs := [12]) (by kernel_rfl) (by simp) (AllReadyH.cons (o := _) rfl (fun K hK => ?_) (AllReadyH.nil))
            go_simp
            (go_at_call 18; with_reducible refine (C2.out _).mono ?_; rintro e u2 ⟨rfl, hbu2⟩; have hzu2 := hbu2.size; (try simp at hzu2); have hx : RowAt u2 (w9.heap.size + 1) 52 #[.int .u64 0, .int .u64 0, .int .i64 0, .int .i64 0, .int .i64 0, .string ⟨#[]⟩] := (by (repeat' (first | (with_reducible assumption) | (with_reducible refine RowAt.drewN ?_ _) | (with_reducible refine RowAt.drew ?_) | (with_reducible apply RowAt.seven) | (with_reducible apply RowAt.six) | (with_reducible refine RowAt.far7 ?_ ?_) | (with_reducible refine RowAt.far6 ?_ ?_) | (with_reducible refine RowAt.far1 ?_ ?_) | ((with_reducible refine RowAt.mk ?_ ?_); (focus (first | (with_reducible rfl) | (simp; done))); rfl) | (with_reducible refine RowAt.alloc ?_ _) | (with_reducible refine RowAt.run ?_ (by assumption)) | (with_reducible refine RowAt.below ?_ (by assumption) ?_) | (with_reducible refine RowAt.upd ?_ (by assumption) ?_) | (with_reducible show _ < _; first | omega | (simp; done) | (simp; omega)) | (with_reducible show ¬ _ = _; first | omega | (simp; done) | (simp; omega)) | (with_reducible exact rfl)))); obtain ⟨x1, x2, x3, x4, x5, x6⟩ := row_facts hx)
            refine hK.out _ _ ?_ (fun hHeld => ?_)
            · (first | exact HKS.out _ (by (repeat' (first | (with_reducible exact Below.refl _ _) | (with_reducible assumption) | (with_reducible refine below_run ?_ (by assumption)) | (with_reducible refine below_of_upd ?_ (by assumption) ?_) | (with_reducible refine below_drewN ?_ _) | (with_reducible refine Below.drew ?_) | (with_reducible refine below_seven ?_ ?_) | (with_reducible refine below_six ?_ ?_) | (with_reducible refine below_one ?_ ?_) | (with_reducible refine Below.alloc ?_ ?_ _) | (with_reducible refine below_after ?_ ?_ (by assumption)) | (show _ ≤ _; first | omega | (simp; done) | (simp; omega))))) | go_keep)
            clear hK K
            (try simp only [Act.put, List.setIfInBounds_toArray, List.set_cons_zero, List.set_cons_succ, List.getElem_toArray, List.getElem_cons_succ, List.getElem_cons_zero])
            (refine wpAnyH_take (i := 13) (oi := _) (v := ?_) rfl (by kernel_rfl) (by kernel_rfl) (by kernel_rfl) (fun _ _ _ h => h) (Or.inl ⟨by rfl, ?_⟩) (by assumption) ?_; rotate_left; (focus (intro w' hSw; (try dsimp only at hSw); go_simp; (try with_reducible rfl); done)); (try simp only [Act.put, List.setIfInBounds_toArray, List.set_cons_zero, List.set_cons_succ, List.getElem_toArray, List.getElem_cons_succ, List.getElem_cons_zero]))
            (refine wpAnyH_take (i := 14) (oi := _) (v := ?_) rfl (by kernel_rfl) (by kernel_rfl) (by kernel_rfl) (fun _ _ _ h => h) (Or.inl ⟨by rfl, ?_⟩) (by assumption) ?_; rotate_left; (focus (intro w' hSw; (try dsimp only at hSw); go_simp; (try with_reducible rfl); done)); (try simp only [Act.put, List.setIfInBounds_toArray, List.set_cons_zero, List.set_cons_succ, List.getElem_toArray, List.getElem_cons_succ, List.getElem_cons_zero]))
            (refine wpAnyH_take (i := 15) (oi := _) (v := ?_) rfl (by kernel_rfl) (by kernel_rfl) (by kernel_rfl) (fun _ _ _ h => h) (Or.inl ⟨by rfl, ?_⟩) (by assumption) ?_; rotate_left; (focus (intro w' hSw; (try dsimp only at hSw); go_simp; (try with_reducible rfl); done)); (try simp only [Act.put, List.setIfInBounds_toArray, List.set_cons_zero, List.set_cons_succ, List.getElem_toArray, List.getElem_cons_succ, List.getElem_cons_zero]))
            refine wpAnyH_ready (rs := [17]) (by kernel_rfl) (by simp) (AllReadyH.cons (o := _) rfl (fun K hK => ?_) (AllReadyH.nil))
            go_simp
            refine hK.out _ _ ?_ (fun hHeld => ?_)
            · (first | exact HKS.out _ (by (repeat' (first | (with_reducible exact Below.refl _ _) | (with_reducible assumption) | (with_reducible refine below_run ?_ (by assumption)) | (with_reducible refine below_of_upd ?_ (by assumption) ?_) | (with_reducible refine below_drewN ?_ _) | (with_reducible refine Below.drew ?_) | (with_reducible refine below_seven ?_ ?_) | (with_reducible refine below_six ?_ ?_) | (with_reducible refine below_one ?_ ?_) | (with_reducible refine Below.alloc ?_ ?_ _) | (with_reducible refine below_after ?_ ?_ (by assumption)) | (show _ ≤ _; first | omega | (simp; done) | (simp; omega))))) | go_keep)
            clear hK K
            (try simp only [Act.put, List.setIfInBounds_toArray, List.set_cons_zero, List.set_cons_succ, List.getElem_toArray, List.getElem_cons_succ, List.getElem_cons_zero])
            refine wpAnyH_ready (rs := [18]) (by kernel_rfl) (by simp) (AllReadyH.cons (o := _) rfl (fun K hK => ?_) (AllReadyH.nil))
            go_simp
            refine hK.out _ _ ?_ (fun hHeld => ?_)
            · (first | exact HKS.out _ (by (repeat' (first | (with_reducible exact Below.refl _ _) | (with_reducible assumption) | (with_reducible refine below_run ?_ (by assumption)) | (with_reducible refine below_of_upd ?_ (by assumption) ?_) | (with_reducible refine below_drewN ?_ _) | (with_reducible refine Below.drew ?_) | (with_reducible refine below_seven ?_ ?_) | (with_reducible refine below_six ?_ ?_) | (with_reducible refine below_one ?_ ?_) | (with_reducible refine Below.alloc ?_ ?_ _) | (with_reducible refine below_after ?_ ?_ (by assumption)) | (show _ ≤ _; first | omega | (simp; done) | (simp; omega))))) | go_keep)
            clear hK K
            (try simp only [Act.put, List.setIfInBounds_toArray, List.set_cons_zero, List.set_cons_succ, List.getElem_toArray, List.getElem_cons_succ, List.getElem_cons_zero])
            refine wpAnyH_done (by kernel_rfl) ?_ _
            refine NoPanic.normal ?_
            (go_wp2_with fail)
            go_meet
            exact ⟨rfl, _, rfl, by (repeat' (first | (with_reducible assumption) | (with_reducible refine RowAt.drewN ?_ _) | (with_reducible refine RowAt.drew ?_) | (with_reducible apply RowAt.seven) | (with_reducible apply RowAt.six) | (with_reducible refine RowAt.far7 ?_ ?_) | (with_reducible refine RowAt.far6 ?_ ?_) | (with_reducible refine RowAt.far1 ?_ ?_) | ((with_reducible refine RowAt.mk ?_ ?_); (focus (first | (with_reducible rfl) | (simp; done))); rfl) | (with_reducible refine RowAt.alloc ?_ _) | (with_reducible refine RowAt.run ?_ (by assumption)) | (with_reducible refine RowAt.below ?_ (by assumption) ?_) | (with_reducible refine RowAt.upd ?_ (by assumption) ?_) | (with_reducible show _ < _; first | omega | (simp; done) | (simp; omega)) | (with_reducible show ¬ _ = _; first | omega | (simp; done) | (simp; omega)) | (with_reducible exact rfl))), by (repeat' (first | (with_reducible exact Below.refl _ _) | (with_reducible assumption) | (with_reducible refine below_run ?_ (by assumption)) | (with_reducible refine below_of_upd ?_ (by assumption) ?_) | (with_reducible refine below_drewN ?_ _) | (with_reducible refine Below.drew ?_) | (with_reducible refine below_seven ?_ ?_) | (with_reducible refine below_six ?_ ?_) | (with_reducible refine below_one ?_ ?_) | (with_reducible refine Below.alloc ?_ ?_ _) | (with_reducible refine below_after ?_ ?_ (by assumption)) | (show _ ≤ _; first | omega | (simp; done) | (simp; omega))))⟩
        · skip
          go_simp
          refine hK.out _ _ ?_ (fun hHeld => ?_)
          · (first | exact HKS.out _ (by (repeat' (first | (with_reducible exact Below.refl _ _) | (with_reducible assumption) | (with_reducible refine below_run ?_ (by assumption)) | (with_reducible refine below_of_upd ?_ (by assumption) ?_) | (with_reducible refine below_drewN ?_ _) | (with_reducible refine Below.drew ?_) | (with_reducible refine below_seven ?_ ?_) | (with_reducible refine below_six ?_ ?_) | (with_reducible refine below_one ?_ ?_) | (with_reducible refine Below.alloc ?_ ?_ _) | (with_reducible refine below_after ?_ ?_ (by assumption)) | (show _ ≤ _; first | omega | (simp; done) | (simp; omega))))) | go_keep)
          clear hK K
          (try simp only [Act.put, List.setIfInBounds_toArray, List.set_cons_zero, List.set_cons_succ, List.getElem_toArray, List.getElem_cons_succ, List.getElem_cons_zero])
          refine wpAnyH_ready (rs := [11]) (by kernel_rfl) (by simp) (AllReadyH.cons (o := _) rfl (fun K hK => ?_) (AllReadyH.nil))
          go_simp
          refine hK.out _ _ ?_ (fun hHeld => ?_)
          · (first | exact HKS.out _ (by (repeat' (first | (with_reducible exact Below.refl _ _) | (with_reducible assumption) | (with_reducible refine below_run ?_ (by assumption)) | (with_reducible refine below_of_upd ?_ (by assumption) ?_) | (with_reducible refine below_drewN ?_ _) | (with_reducible refine Below.drew ?_) | (with_reducible refine below_seven ?_ ?_) | (with_reducible refine below_six ?_ ?_) | (with_reducible refine below_one ?_ ?_) | (with_reducible refine Below.alloc ?_ ?_ _) | (with_reducible refine below_after ?_ ?_ (by assumption)) | (show _ ≤ _; first | omega | (simp; done) | (simp; omega))))) | go_keep)
          clear hK K
          (try simp only [Act.put, List.setIfInBounds_toArray, List.set_cons_zero, List.set_cons_succ, List.getElem_toArray, List.getElem_cons_succ, List.getElem_cons_zero])
          refine wpAnyH_ready (rs := [12]) (by kernel_rfl) (by simp) (AllReadyH.cons (o := _) rfl (fun K hK => ?_) (AllReadyH.nil))
          go_simp
          (go_at_call 18; with_reducible refine (C2.out _).mono ?_; rintro e u2 ⟨rfl, hbu2⟩; have hzu2 := hbu2.size; (try simp at hzu2); have hx : RowAt u2 (w9.heap.size + 1) 52 #[.int .u64 0, .int .u64 0, .int .i64 0, .int .i64 0, .int .i64 0, .string ⟨#[]⟩] := (by (repeat' (first | (with_reducible assumption) | (with_reducible refine RowAt.drewN ?_ _) | (with_reducible refine RowAt.drew ?_) | (with_reducible apply RowAt.seven) | (with_reducible apply RowAt.six) | (with_reducible refine RowAt.far7 ?_ ?_) | (with_reducible refine RowAt.far6 ?_ ?_) | (with_reducible refine RowAt.far1 ?_ ?_) | ((with_reducible refine RowAt.mk ?_ ?_); (focus (first | (with_reducible rfl) | (simp; done))); rfl) | (with_reducible refine RowAt.alloc ?_ _) | (with_reducible refine RowAt.run ?_ (by assumption)) | (with_reducible refine RowAt.below ?_ (by assumption) ?_) | (with_reducible refine RowAt.upd ?_ (by assumption) ?_) | (with_reducible show _ < _; first | omega | (simp; done) | (simp; omega)) | (with_reducible show ¬ _ = _; first | omega | (simp; done) | (simp; omega)) | (with_reducible exact rfl)))); obtain ⟨x1, x2, x3, x4, x5, x6⟩ := row_facts hx)
          refine hK.out _ _ ?_ (fun hHeld => ?_)
          · (first | exact HKS.out _ (by (repeat' (first | (with_reducible exact Below.refl _ _) | (with_reducible assumption) | (with_reducible refine below_run ?_ (by assumption)) | (with_reducible refine below_of_upd ?_ (by assumption) ?_) | (with_reducible refine below_drewN ?_ _) | (with_reducible refine Below.drew ?_) | (with_reducible refine below_seven ?_ ?_) | (with_reducible refine below_six ?_ ?_) | (with_reducible refine below_one ?_ ?_) | (with_reducible refine Below.alloc ?_ ?_ _) | (with_reducible refine below_after ?_ ?_ (by assumption)) | (show _ ≤ _; first | omega | (simp; done) | (simp; omega))))) | go_keep)
          clear hK K
          (try simp only [Act.put, List.setIfInBounds_toArray, List.set_cons_zero, List.set_cons_succ, List.getElem_toArray, List.getElem_cons_succ, List.getElem_cons_zero])
          (refine wpAnyH_take (i := 13) (oi := _) (v := ?_) rfl (by kernel_rfl) (by kernel_rfl) (by kernel_rfl) (fun _ _ _ h => h) (Or.inl ⟨by rfl, ?_⟩) (by assumption) ?_; rotate_left; (focus (intro w' hSw; (try dsimp only at hSw); go_simp; (try with_reducible rfl); done)); (try simp only [Act.put, List.setIfInBounds_toArray, List.set_cons_zero, List.set_cons_succ, List.getElem_toArray, List.getElem_cons_succ, List.getElem_cons_zero]))
          (refine wpAnyH_take (i := 14) (oi := _) (v := ?_) rfl (by kernel_rfl) (by kernel_rfl) (by kernel_rfl) (fun _ _ _ h => h) (Or.inl ⟨by rfl, ?_⟩) (by assumption) ?_; rotate_left; (focus (intro w' hSw; (try dsimp only at hSw); go_simp; (try with_reducible rfl); done)); (try simp only [Act.put, List.setIfInBounds_toArray, List.set_cons_zero, List.set_cons_succ, List.getElem_toArray, List.getElem_cons_succ, List.getElem_cons_zero]))
          (refine wpAnyH_take (i := 15) (oi := _) (v := ?_) rfl (by kernel_rfl) (by kernel_rfl) (by kernel_rfl) (fun _ _ _ h => h) (Or.inl ⟨by rfl, ?_⟩) (by assumption) ?_; rotate_left; (focus (intro w' hSw; (try dsimp only at hSw); go_simp; (try with_reducible rfl); done)); (try simp only [Act.put, List.setIfInBounds_toArray, List.set_cons_zero, List.set_cons_succ, List.getElem_toArray, List.getElem_cons_succ, List.getElem_cons_zero]))
          refine wpAnyH_ready (rs := [17]) (by kernel_rfl) (by simp) (AllReadyH.cons (o := _) rfl (fun K hK => ?_) (AllReadyH.nil))
          go_simp
          refine hK.out _ _ ?_ (fun hHeld => ?_)
          · (first | exact HKS.out _ (by (repeat' (first | (with_reducible exact Below.refl _ _) | (with_reducible assumption) | (with_reducible refine below_run ?_ (by assumption)) | (with_reducible refine below_of_upd ?_ (by assumption) ?_) | (with_reducible refine below_drewN ?_ _) | (with_reducible refine Below.drew ?_) | (with_reducible refine below_seven ?_ ?_) | (with_reducible refine below_six ?_ ?_) | (with_reducible refine below_one ?_ ?_) | (with_reducible refine Below.alloc ?_ ?_ _) | (with_reducible refine below_after ?_ ?_ (by assumption)) | (show _ ≤ _; first | omega | (simp; done) | (simp; omega))))) | go_keep)
          clear hK K
          (try simp only [Act.put, List.setIfInBounds_toArray, List.set_cons_zero, List.set_cons_succ, List.getElem_toArray, List.getElem_cons_succ, List.getElem_cons_zero])
          refine wpAnyH_ready (rs := [18]) (by kernel_rfl) (by simp) (AllReadyH.cons (o := _) rfl (fun K hK => ?_) (AllReadyH.nil))
          go_simp
          refine hK.out _ _ ?_ (fun hHeld => ?_)
          · (first | exact HKS.out _ (by (repeat' (first | (with_reducible exact Below.refl _ _) | (with_reducible assumption) | (with_reducible refine below_run ?_ (by assumption)) | (with_reducible refine below_of_upd ?_ (by assumption) ?_) | (with_reducible refine below_drewN ?_ _) | (with_reducible refine Below.drew ?_) | (with_reducible refine below_seven ?_ ?_) | (with_reducible refine below_six ?_ ?_) | (with_reducible refine below_one ?_ ?_) | (with_reducible refine Below.alloc ?_ ?_ _) | (with_reducible refine below_after ?_ ?_ (by assumption)) | (show _ ≤ _; first | omega | (simp; done) | (simp; omega))))) | go_keep)
          clear hK K
          (try simp only [Act.put, List.setIfInBounds_toArray, List.set_cons_zero, List.set_cons_succ, List.getElem_toArray, List.getElem_cons_succ, List.getElem_cons_zero])
          refine wpAnyH_done (by kernel_rfl) ?_ _
          refine NoPanic.normal ?_
          (go_wp2_with fail)
          go_meet
          exact ⟨rfl, _, rfl, by (repeat' (first | (with_reducible assumption) | (with_reducible refine RowAt.drewN ?_ _) | (with_reducible refine RowAt.drew ?_) | (with_reducible apply RowAt.seven) | (with_reducible apply RowAt.six) | (with_reducible refine RowAt.far7 ?_ ?_) | (with_reducible refine RowAt.far6 ?_ ?_) | (with_reducible refine RowAt.far1 ?_ ?_) | ((with_reducible refine RowAt.mk ?_ ?_); (focus (first | (with_reducible rfl) | (simp; done))); rfl) | (with_reducible refine RowAt.alloc ?_ _) | (with_reducible refine RowAt.run ?_ (by assumption)) | (with_reducible refine RowAt.below ?_ (by assumption) ?_) | (with_reducible refine RowAt.upd ?_ (by assumption) ?_) | (with_reducible show _ < _; first | omega | (simp; done) | (simp; omega)) | (with_reducible show ¬ _ = _; first | omega | (simp; done) | (simp; omega)) | (with_reducible exact rfl))), by (repeat' (first | (with_reducible exact Below.refl _ _) | (with_reducible assumption) | (with_reducible refine below_run ?_ (by assumption)) | (with_reducible refine below_of_upd ?_ (by assumption) ?_) | (with_reducible refine below_drewN ?_ _) | (with_reducible refine Below.drew ?_) | (with_reducible refine below_seven ?_ ?_) | (with_reducible refine below_six ?_ ?_) | (with_reducible refine below_one ?_ ?_) | (with_reducible refine Below.alloc ?_ ?_ _) | (with_reducible refine below_after ?_ ?_ (by assumption)) | (show _ ≤ _; first | omega | (simp; done) | (simp; omega))))⟩
      · skip
        go_simp
        refine hK.out _ _ ?_ (fun hHeld => ?_)
        · (first | exact HKS.out _ (by (repeat' (first | (with_reducible exact Below.refl _ _) | (with_reducible assumption) | (with_reducible refine below_run ?_ (by assumption)) | (with_reducible refine below_of_upd ?_ (by assumption) ?_) | (with_reducible refine below_drewN ?_ _) | (with_reducible refine Below.drew ?_) | (with_reducible refine below_seven ?_ ?_) | (with_reducible refine below_six ?_ ?_) | (with_reducible refine below_one ?_ ?_) | (with_reducible refine Below.alloc ?_ ?_ _) | (with_reducible refine below_after ?_ ?_ (by assumption)) | (show _ ≤ _; first | omega | (simp; done) | (simp; omega))))) | go_keep)
        clear hK K
        (try simp only [Act.put, List.setIfInBounds_toArray, List.set_cons_zero, List.set_cons_succ, List.getElem_toArray, List.getElem_cons_succ, List.getElem_cons_zero])
        refine wpAnyH_ready (rs := [6]) (by kernel_rfl) (by simp) (AllReadyH.cons (o := _) rfl (fun K hK => ?_) (AllReadyH.nil))
        go_simp
        refine hK.out _ _ ?_ (fun hHeld => ?_)
        · (first | exact HKS.out _ (by (repeat' (first | (with_reducible exact Below.refl _ _) | (with_reducible assumption) | (with_reducible refine below_run ?_ (by assumption)) | (with_reducible refine below_of_upd ?_ (by assumption) ?_) | (with_reducible refine below_drewN ?_ _) | (with_reducible refine Below.drew ?_) | (with_reducible refine below_seven ?_ ?_) | (with_reducible refine below_six ?_ ?_) | (with_reducible refine below_one ?_ ?_) | (with_reducible refine Below.alloc ?_ ?_ _) | (with_reducible refine below_after ?_ ?_ (by assumption)) | (show _ ≤ _; first | omega | (simp; done) | (simp; omega))))) | go_keep)
        clear hK K
        (try simp only [Act.put, List.setIfInBounds_toArray, List.set_cons_zero, List.set_cons_succ, List.getElem_toArray, List.getElem_cons_succ, List.getElem_cons_zero])
        refine wpAnyH_ready (rs := [11]) (by kernel_rfl) (by simp) (AllReadyH.cons (o := _) rfl (fun K hK => ?_) (AllReadyH.nil))
        go_simp
        refine hK.out _ _ ?_ (fun hHeld => ?_)
        · (first | exact HKS.out _ (by (repeat' (first | (with_reducible exact Below.refl _ _) | (with_reducible assumption) | (with_reducible refine below_run ?_ (by assumption)) | (with_reducible refine below_of_upd ?_ (by assumption) ?_) | (with_reducible refine below_drewN ?_ _) | (with_reducible refine Below.drew ?_) | (with_reducible refine below_seven ?_ ?_) | (with_reducible refine below_six ?_ ?_) | (with_reducible refine below_one ?_ ?_) | (with_reducible refine Below.alloc ?_ ?_ _) | (with_reducible refine below_after ?_ ?_ (by assumption)) | (show _ ≤ _; first | omega | (simp; done) | (simp; omega))))) | go_keep)
        clear hK K
        (try simp only [Act.put, List.setIfInBounds_toArray, List.set_cons_zero, List.set_cons_succ, List.getElem_toArray, List.getElem_cons_succ, List.getElem_cons_zero])
        refine wpAnyH_ready (rs := [12]) (by kernel_rfl) (by simp) (AllReadyH.cons (o := _) rfl (fun K hK => ?_) (AllReadyH.nil))
        go_simp
        (go_at_call 18; with_reducible refine (C2.out _).mono ?_; rintro e u2 ⟨rfl, hbu2⟩; have hzu2 := hbu2.size; (try simp at hzu2); have hx : RowAt u2 (w9.heap.size + 1) 52 #[.int .u64 0, .int .u64 0, .int .i64 0, .int .i64 0, .int .i64 0, .string ⟨#[]⟩] := (by (repeat' (first | (with_reducible assumption) | (with_reducible refine RowAt.drewN ?_ _) | (with_reducible refine RowAt.drew ?_) | (with_reducible apply RowAt.seven) | (with_reducible apply RowAt.six) | (with_reducible refine RowAt.far7 ?_ ?_) | (with_reducible refine RowAt.far6 ?_ ?_) | (with_reducible refine RowAt.far1 ?_ ?_) | ((with_reducible refine RowAt.mk ?_ ?_); (focus (first | (with_reducible rfl) | (simp; done))); rfl) | (with_reducible refine RowAt.alloc ?_ _) | (with_reducible refine RowAt.run ?_ (by assumption)) | (with_reducible refine RowAt.below ?_ (by assumption) ?_) | (with_reducible refine RowAt.upd ?_ (by assumption) ?_) | (with_reducible show _ < _; first | omega | (simp; done) | (simp; omega)) | (with_reducible show ¬ _ = _; first | omega | (simp; done) | (simp; omega)) | (with_reducible exact rfl)))); obtain ⟨x1, x2, x3, x4, x5, x6⟩ := row_facts hx)
        refine hK.out _ _ ?_ (fun hHeld => ?_)
        · (first | exact HKS.out _ (by (repeat' (first | (with_reducible exact Below.refl _ _) | (with_reducible assumption) | (with_reducible refine below_run ?_ (by assumption)) | (with_reducible refine below_of_upd ?_ (by assumption) ?_) | (with_reducible refine below_drewN ?_ _) | (with_reducible refine Below.drew ?_) | (with_reducible refine below_seven ?_ ?_) | (with_reducible refine below_six ?_ ?_) | (with_reducible refine below_one ?_ ?_) | (with_reducible refine Below.alloc ?_ ?_ _) | (with_reducible refine below_after ?_ ?_ (by assumption)) | (show _ ≤ _; first | omega | (simp; done) | (simp; omega))))) | go_keep)
        clear hK K
        (try simp only [Act.put, List.setIfInBounds_toArray, List.set_cons_zero, List.set_cons_succ, List.getElem_toArray, List.getElem_cons_succ, List.getElem_cons_zero])
        (refine wpAnyH_take (i := 13) (oi := _) (v := ?_) rfl (by kernel_rfl) (by kernel_rfl) (by kernel_rfl) (fun _ _ _ h => h) (Or.inl ⟨by rfl, ?_⟩) (by assumption) ?_; rotate_left; (focus (intro w' hSw; (try dsimp only at hSw); go_simp; (try with_reducible rfl); done)); (try simp only [Act.put, List.setIfInBounds_toArray, List.set_cons_zero, List.set_cons_succ, List.getElem_toArray, List.getElem_cons_succ, List.getElem_cons_zero]))
        (refine wpAnyH_take (i := 14) (oi := _) (v := ?_) rfl (by kernel_rfl) (by kernel_rfl) (by kernel_rfl) (fun _ _ _ h => h) (Or.inl ⟨by rfl, ?_⟩) (by assumption) ?_; rotate_left; (focus (intro w' hSw; (try dsimp only at hSw); go_simp; (try with_reducible rfl); done)); (try simp only [Act.put, List.setIfInBounds_toArray, List.set_cons_zero, List.set_cons_succ, List.getElem_toArray, List.getElem_cons_succ, List.getElem_cons_zero]))
        (refine wpAnyH_take (i := 15) (oi := _) (v := ?_) rfl (by kernel_rfl) (by kernel_rfl) (by kernel_rfl) (fun _ _ _ h => h) (Or.inl ⟨by rfl, ?_⟩) (by assumption) ?_; rotate_left; (focus (intro w' hSw; (try dsimp only at hSw); go_simp; (try with_reducible rfl); done)); (try simp only [Act.put, List.setIfInBounds_toArray, List.set_cons_zero, List.set_cons_succ, List.getElem_toArray, List.getElem_cons_succ, List.getElem_cons_zero]))
        refine wpAnyH_ready (rs := [17]) (by kernel_rfl) (by simp) (AllReadyH.cons (o := _) rfl (fun K hK => ?_) (AllReadyH.nil))
        go_simp
        refine hK.out _ _ ?_ (fun hHeld => ?_)
        · (first | exact HKS.out _ (by (repeat' (first | (with_reducible exact Below.refl _ _) | (with_reducible assumption) | (with_reducible refine below_run ?_ (by assumption)) | (with_reducible refine below_of_upd ?_ (by assumption) ?_) | (with_reducible refine below_drewN ?_ _) | (with_reducible refine Below.drew ?_) | (with_reducible refine below_seven ?_ ?_) | (with_reducible refine below_six ?_ ?_) | (with_reducible refine below_one ?_ ?_) | (with_reducible refine Below.alloc ?_ ?_ _) | (with_reducible refine below_after ?_ ?_ (by assumption)) | (show _ ≤ _; first | omega | (simp; done) | (simp; omega))))) | go_keep)
        clear hK K
        (try simp only [Act.put, List.setIfInBounds_toArray, List.set_cons_zero, List.set_cons_succ, List.getElem_toArray, List.getElem_cons_succ, List.getElem_cons_zero])
        refine wpAnyH_ready (rs := [18]) (by kernel_rfl) (by simp) (AllReadyH.cons (o := _) rfl (fun K hK => ?_) (AllReadyH.nil))
        go_simp
        refine hK.out _ _ ?_ (fun hHeld => ?_)
        · (first | exact HKS.out _ (by (repeat' (first | (with_reducible exact Below.refl _ _) | (with_reducible assumption) | (with_reducible refine below_run ?_ (by assumption)) | (with_reducible refine below_of_upd ?_ (by assumption) ?_) | (with_reducible refine below_drewN ?_ _) | (with_reducible refine Below.drew ?_) | (with_reducible refine below_seven ?_ ?_) | (with_reducible refine below_six ?_ ?_) | (with_reducible refine below_one ?_ ?_) | (with_reducible refine Below.alloc ?_ ?_ _) | (with_reducible refine below_after ?_ ?_ (by assumption)) | (show _ ≤ _; first | omega | (simp; done) | (simp; omega))))) | go_keep)
        clear hK K
        (try simp only [Act.put, List.setIfInBounds_toArray, List.set_cons_zero, List.set_cons_succ, List.getElem_toArray, List.getElem_cons_succ, List.getElem_cons_zero])
        refine wpAnyH_done (by kernel_rfl) ?_ _
        refine NoPanic.normal ?_
        (go_wp2_with fail)
        go_meet
        exact ⟨rfl, _, rfl, by (repeat' (first | (with_reducible assumption) | (with_reducible refine RowAt.drewN ?_ _) | (with_reducible refine RowAt.drew ?_) | (with_reducible apply RowAt.seven) | (with_reducible apply RowAt.six) | (with_reducible refine RowAt.far7 ?_ ?_) | (with_reducible refine RowAt.far6 ?_ ?_) | (with_reducible refine RowAt.far1 ?_ ?_) | ((with_reducible refine RowAt.mk ?_ ?_); (focus (first | (with_reducible rfl) | (simp; done))); rfl) | (with_reducible refine RowAt.alloc ?_ _) | (with_reducible refine RowAt.run ?_ (by assumption)) | (with_reducible refine RowAt.below ?_ (by assumption) ?_) | (with_reducible refine RowAt.upd ?_ (by assumption) ?_) | (with_reducible show _ < _; first | omega | (simp; done) | (simp; omega)) | (with_reducible show ¬ _ = _; first | omega | (simp; done) | (simp; omega)) | (with_reducible exact rfl))), by (repeat' (first | (with_reducible exact Below.refl _ _) | (with_reducible assumption) | (with_reducible refine below_run ?_ (by assumption)) | (with_reducible refine below_of_upd ?_ (by assumption) ?_) | (with_reducible refine below_drewN ?_ _) | (with_reducible refine Below.drew ?_) | (with_reducible refine below_seven ?_ ?_) | (with_reducible refine below_six ?_ ?_) | (with_reducible refine below_one ?_ ?_) | (with_reducible refine Below.alloc ?_ ?_ _) | (with_reducible refine below_after ?_ ?_ (by assumption)) | (show _ ≤ _; first | omega | (simp; done) | (simp; omega))))⟩
    · skip
      go_simp
      refine hK.out _ _ ?_ (fun hHeld => ?_)
      · (first | exact HKS.out _ (by (repeat' (first | (with_reducible exact Below.refl _ _) | (with_reducible assumption) | (with_reducible refine below_run ?_ (by assumption)) | (with_reducible refine below_of_upd ?_ (by assumption) ?_) | (with_reducible refine below_drewN ?_ _) | (with_reducible refine Below.drew ?_) | (with_reducible refine below_seven ?_ ?_) | (with_reducible refine below_six ?_ ?_) | (with_reducible refine below_one ?_ ?_) | (with_reducible refine Below.alloc ?_ ?_ _) | (with_reducible refine below_after ?_ ?_ (by assumption)) | (show _ ≤ _; first | omega | (simp; done) | (simp; omega))))) | go_keep)
      clear hK K
      (try simp only [Act.put, List.setIfInBounds_toArray, List.set_cons_zero, List.set_cons_succ, List.getElem_toArray, List.getElem_cons_succ, List.getElem_cons_zero])
      refine wpAnyH_ready (rs := [5]) (by kernel_rfl) (by simp) (AllReadyH.cons (o := _) rfl (fun K hK => ?_) (AllReadyH.nil))
      go_simp
      refine hK.out _ _ ?_ (fun hHeld => ?_)
      · (first | exact HKS.out _ (by (repeat' (first | (with_reducible exact Below.refl _ _) | (with_reducible assumption) | (with_reducible refine below_run ?_ (by assumption)) | (with_reducible refine below_of_upd ?_ (by assumption) ?_) | (with_reducible refine below_drewN ?_ _) | (with_reducible refine Below.drew ?_) | (with_reducible refine below_seven ?_ ?_) | (with_reducible refine below_six ?_ ?_) | (with_reducible refine below_one ?_ ?_) | (with_reducible refine Below.alloc ?_ ?_ _) | (with_reducible refine below_after ?_ ?_ (by assumption)) | (show _ ≤ _; first | omega | (simp; done) | (simp; omega))))) | go_keep)
      clear hK K
      (try simp only [Act.put, List.setIfInBounds_toArray, List.set_cons_zero, List.set_cons_succ, List.getElem_toArray, List.getElem_cons_succ, List.getElem_cons_zero])
      refine wpAnyH_ready (rs := [6]) (by kernel_rfl) (by simp) (AllReadyH.cons (o := _) rfl (fun K hK => ?_) (AllReadyH.nil))
      go_simp
      refine hK.out _ _ ?_ (fun hHeld => ?_)
      · (first | exact HKS.out _ (by (repeat' (first | (with_reducible exact Below.refl _ _) | (with_reducible assumption) | (with_reducible refine below_run ?_ (by assumption)) | (with_reducible refine below_of_upd ?_ (by assumption) ?_) | (with_reducible refine below_drewN ?_ _) | (with_reducible refine Below.drew ?_) | (with_reducible refine below_seven ?_ ?_) | (with_reducible refine below_six ?_ ?_) | (with_reducible refine below_one ?_ ?_) | (with_reducible refine Below.alloc ?_ ?_ _) | (with_reducible refine below_after ?_ ?_ (by assumption)) | (show _ ≤ _; first | omega | (simp; done) | (simp; omega))))) | go_keep)
      clear hK K
      (try simp only [Act.put, List.setIfInBounds_toArray, List.set_cons_zero, List.set_cons_succ, List.getElem_toArray, List.getElem_cons_succ, List.getElem_cons_zero])
      refine wpAnyH_ready (rs := [11]) (by kernel_rfl) (by simp) (AllReadyH.cons (o := _) rfl (fun K hK => ?_) (AllReadyH.nil))
      go_simp
      refine hK.out _ _ ?_ (fun hHeld => ?_)
      · (first | exact HKS.out _ (by (repeat' (first | (with_reducible exact Below.refl _ _) | (with_reducible assumption) | (with_reducible refine below_run ?_ (by assumption)) | (with_reducible refine below_of_upd ?_ (by assumption) ?_) | (with_reducible refine below_drewN ?_ _) | (with_reducible refine Below.drew ?_) | (with_reducible refine below_seven ?_ ?_) | (with_reducible refine below_six ?_ ?_) | (with_reducible refine below_one ?_ ?_) | (with_reducible refine Below.alloc ?_ ?_ _) | (with_reducible refine below_after ?_ ?_ (by assumption)) | (show _ ≤ _; first | omega | (simp; done) | (simp; omega))))) | go_keep)
      clear hK K
      (try simp only [Act.put, List.setIfInBounds_toArray, List.set_cons_zero, List.set_cons_succ, List.getElem_toArray, List.getElem_cons_succ, List.getElem_cons_zero])
      refine wpAnyH_ready (rs := [12]) (by kernel_rfl) (by simp) (AllReadyH.cons (o := _) rfl (fun K hK => ?_) (AllReadyH.nil))
      go_simp
      (go_at_call 18; with_reducible refine (C2.out _).mono ?_; rintro e u2 ⟨rfl, hbu2⟩; have hzu2 := hbu2.size; (try simp at hzu2); have hx : RowAt u2 (w9.heap.size) 52 #[.int .u64 0, .int .u64 0, .int .i64 0, .int .i64 0, .int .i64 0, .string ⟨#[]⟩] := (by (repeat' (first | (with_reducible assumption) | (with_reducible refine RowAt.drewN ?_ _) | (with_reducible refine RowAt.drew ?_) | (with_reducible apply RowAt.seven) | (with_reducible apply RowAt.six) | (with_reducible refine RowAt.far7 ?_ ?_) | (with_reducible refine RowAt.far6 ?_ ?_) | (with_reducible refine RowAt.far1 ?_ ?_) | ((with_reducible refine RowAt.mk ?_ ?_); (focus (first | (with_reducible rfl) | (simp; done))); rfl) | (with_reducible refine RowAt.alloc ?_ _) | (with_reducible refine RowAt.run ?_ (by assumption)) | (with_reducible refine RowAt.below ?_ (by assumption) ?_) | (with_reducible refine RowAt.upd ?_ (by assumption) ?_) | (with_reducible show _ < _; first | omega | (simp; done) | (simp; omega)) | (with_reducible show ¬ _ = _; first | omega | (simp; done) | (simp; omega)) | (with_reducible exact rfl)))); obtain ⟨x1, x2, x3, x4, x5, x6⟩ := row_facts hx)
      refine hK.out _ _ ?_ (fun hHeld => ?_)
      · (first | exact HKS.out _ (by (repeat' (first | (with_reducible exact Below.refl _ _) | (with_reducible assumption) | (with_reducible refine below_run ?_ (by assumption)) | (with_reducible refine below_of_upd ?_ (by assumption) ?_) | (with_reducible refine below_drewN ?_ _) | (with_reducible refine Below.drew ?_) | (with_reducible refine below_seven ?_ ?_) | (with_reducible refine below_six ?_ ?_) | (with_reducible refine below_one ?_ ?_) | (with_reducible refine Below.alloc ?_ ?_ _) | (with_reducible refine below_after ?_ ?_ (by assumption)) | (show _ ≤ _; first | omega | (simp; done) | (simp; omega))))) | go_keep)
      clear hK K
      (try simp only [Act.put, List.setIfInBounds_toArray, List.set_cons_zero, List.set_cons_succ, List.getElem_toArray, List.getElem_cons_succ, List.getElem_cons_zero])
      (refine wpAnyH_take (i := 13) (oi := _) (v := ?_) rfl (by kernel_rfl) (by kernel_rfl) (by kernel_rfl) (fun _ _ _ h => h) (Or.inl ⟨by rfl, ?_⟩) (by assumption) ?_; rotate_left; (focus (intro w' hSw; (try dsimp only at hSw); go_simp; (try with_reducible rfl); done)); (try simp only [Act.put, List.setIfInBounds_toArray, List.set_cons_zero, List.set_cons_succ, List.getElem_toArray, List.getElem_cons_succ, List.getElem_cons_zero]))
      (refine wpAnyH_take (i := 14) (oi := _) (v := ?_) rfl (by kernel_rfl) (by kernel_rfl) (by kernel_rfl) (fun _ _ _ h => h) (Or.inl ⟨by rfl, ?_⟩) (by assumption) ?_; rotate_left; (focus (intro w' hSw; (try dsimp only at hSw); go_simp; (try with_reducible rfl); done)); (try simp only [Act.put, List.setIfInBounds_toArray, List.set_cons_zero, List.set_cons_succ, List.getElem_toArray, List.getElem_cons_succ, List.getElem_cons_zero]))
      (refine wpAnyH_take (i := 15) (oi := _) (v := ?_) rfl (by kernel_rfl) (by kernel_rfl) (by kernel_rfl) (fun _ _ _ h => h) (Or.inl ⟨by rfl, ?_⟩) (by assumption) ?_; rotate_left; (focus (intro w' hSw; (try dsimp only at hSw); go_simp; (try with_reducible rfl); done)); (try simp only [Act.put, List.setIfInBounds_toArray, List.set_cons_zero, List.set_cons_succ, List.getElem_toArray, List.getElem_cons_succ, List.getElem_cons_zero]))
      refine wpAnyH_ready (rs := [17]) (by kernel_rfl) (by simp) (AllReadyH.cons (o := _) rfl (fun K hK => ?_) (AllReadyH.nil))
      go_simp
      refine hK.out _ _ ?_ (fun hHeld => ?_)
      · (first | exact HKS.out _ (by (repeat' (first | (with_reducible exact Below.refl _ _) | (with_reducible assumption) | (with_reducible refine below_run ?_ (by assumption)) | (with_reducible refine below_of_upd ?_ (by assumption) ?_) | (with_reducible refine below_drewN ?_ _) | (with_reducible refine Below.drew ?_) | (with_reducible refine below_seven ?_ ?_) | (with_reducible refine below_six ?_ ?_) | (with_reducible refine below_one ?_ ?_) | (with_reducible refine Below.alloc ?_ ?_ _) | (with_reducible refine below_after ?_ ?_ (by assumption)) | (show _ ≤ _; first | omega | (simp; done) | (simp; omega))))) | go_keep)
      clear hK K
      (try simp only [Act.put, List.setIfInBounds_toArray, List.set_cons_zero, List.set_cons_succ, List.getElem_toArray, List.getElem_cons_succ, List.getElem_cons_zero])
      refine wpAnyH_ready (rs := [18]) (by kernel_rfl) (by simp) (AllReadyH.cons (o := _) rfl (fun K hK => ?_) (AllReadyH.nil))
      go_simp
      refine hK.out _ _ ?_ (fun hHeld => ?_)
      · (first | exact HKS.out _ (by (repeat' (first | (with_reducible exact Below.refl _ _) | (with_reducible assumption) | (with_reducible refine below_run ?_ (by assumption)) | (with_reducible refine below_of_upd ?_ (by assumption) ?_) | (with_reducible refine below_drewN ?_ _) | (with_reducible refine Below.drew ?_) | (with_reducible refine below_seven ?_ ?_) | (with_reducible refine below_six ?_ ?_) | (with_reducible refine below_one ?_ ?_) | (with_reducible refine Below.alloc ?_ ?_ _) | (with_reducible refine below_after ?_ ?_ (by assumption)) | (show _ ≤ _; first | omega | (simp; done) | (simp; omega))))) | go_keep)
      clear hK K
      (try simp only [Act.put, List.setIfInBounds_toArray, List.set_cons_zero, List.set_cons_succ, List.getElem_toArray, List.getElem_cons_succ, List.getElem_cons_zero])
      refine wpAnyH_done (by kernel_rfl) ?_ _
      refine NoPanic.normal ?_
      (go_wp2_with fail)
      go_meet
      exact ⟨rfl, _, rfl, by (repeat' (first | (with_reducible assumption) | (with_reducible refine RowAt.drewN ?_ _) | (with_reducible refine RowAt.drew ?_) | (with_reducible apply RowAt.seven) | (with_reducible apply RowAt.six) | (with_reducible refine RowAt.far7 ?_ ?_) | (with_reducible refine RowAt.far6 ?_ ?_) | (with_reducible refine RowAt.far1 ?_ ?_) | ((with_reducible refine RowAt.mk ?_ ?_); (focus (first | (with_reducible rfl) | (simp; done))); rfl) | (with_reducible refine RowAt.alloc ?_ _) | (with_reducible refine RowAt.run ?_ (by assumption)) | (with_reducible refine RowAt.below ?_ (by assumption) ?_) | (with_reducible refine RowAt.upd ?_ (by assumption) ?_) | (with_reducible show _ < _; first | omega | (simp; done) | (simp; omega)) | (with_reducible show ¬ _ = _; first | omega | (simp; done) | (simp; omega)) | (with_reducible exact rfl))), by (repeat' (first | (with_reducible exact Below.refl _ _) | (with_reducible assumption) | (with_reducible refine below_run ?_ (by assumption)) | (with_reducible refine below_of_upd ?_ (by assumption) ?_) | (with_reducible refine below_drewN ?_ _) | (with_reducible refine Below.drew ?_) | (with_reducible refine below_seven ?_ ?_) | (with_reducible refine below_six ?_ ?_) | (with_reducible refine below_one ?_ ?_) | (with_reducible refine Below.alloc ?_ ?_ _) | (with_reducible refine below_after ?_ ?_ (by assumption)) | (show _ ≤ _; first | omega | (simp; done) | (simp; omega))))⟩
  case rest =>
    obtain ⟨rfl, g9, rfl, rg, hbb⟩ := hcut
    rename World => w10
    clear m0' m1' m2' hblt hcv hw0 hw1 hw2 hw4 HKS HP9
    have HB10 := Lib.hid (below_run HB9.out hbb)
    have LA10 := Lib.hid (LA9.out.run hbb)
    have LB10 := LB9.out.run hbb
    have LC10 := Lib.hid (LC9.out.run hbb)
    have R410 := Lib.hid (R49.out.run hbb)
    have r310 := R39.out.run hbb
    obtain ⟨x1, x2, x3, x4, x5, x6⟩ := row_facts rg
    obtain ⟨y1, y2, y3, y4, y5, y6⟩ := row_facts r310
    have hz10 := HB10.out.size
    obtain ⟨n, hn⟩ : ∃ n, (symsP ⟨204, sl⟩).length = n := ⟨_, rfl⟩
    have hn2 : n = 23 + dat.size := by rw [← hn, symsP_length]; show 3 + sl.size = _; omega
    have hn3 : (3 : Int) ≤ (n : Int) := by omega
    have hn4 : (n : Int) ≤ 600 := by omega
    have HN2 := Lib.hid hn2
    clear hn2
    have CL := clone_syms _ _ w10 LB10 (by omega) (by omega)
    rw [hn] at CL
    have CLH := Lib.hid CL
    rw [hn]
    clear CL LB10 LA9 LB9 LC9 R99 R49 R39 hbb rg r310
    go_wp2_with fail
    refine CLH.out.mono ?_
    rintro e w11 ⟨vb, rfl, ob, hb11⟩
    clear x1 x2 x3 x4 x5 x6 y1 y2 y3 y4 y5 y6 CLH
    obtain ⟨g, cap, rfl, hg1, hg2⟩ := ob.form (by omega)
    obtain ⟨k, hk⟩ : ∃ k : Nat, at'.toNat % (n - 2) = k := ⟨_, rfl⟩
    have hk1 : k < n - 2 := by rw [← hk]; exact Nat.mod_lt _ (by omega)
    have hk2 : at' % ((n : Int) - 2) = (k : Int) := by
      rw [← hk, Int.natCast_emod, Int.toNat_of_nonneg ha0]
      congr 1
      omega
    have hk3 : (2 : Int) + (k : Int) < (n : Int) := by omega
    have hk4 : (0 : Int) ≤ (k : Int) := by omega
    have hkl : 2 + k < (symsP ⟨204, sl⟩).length := by rw [hn]; omega
    obtain ⟨by_, hby⟩ := symsP_byte ⟨204, sl⟩ PO.out k (by have := HN2.out; have := HZ.out; show k < 1 + sl.size; omega)
    have hby2 : (symsP ⟨204, sl⟩)[2 + k].2 = (by_.toNat : Int) := by
      rw [List.getElem?_eq_getElem hkl] at hby
      rw [Option.some.inj hby]
    have hcell := ob.cellAt ((2 + k) * 2) (by omega)
    have hgl : (genL prA (symsP ⟨204, sl⟩))[(2 + k) * 2]? = some (.int .i64 2) := by
      rw [genL_get (by decide) prA_size, show (2 + k) * 2 = (2 + k) * 2 + 0 from rfl, genC_at (by decide) _ _ hkl 0 (by decide)]
      rw [List.getElem?_eq_getElem hkl] at hby
      rw [Option.some.inj hby]
      rfl
    rw [hgl] at hcell
    have hfz := ob.frozenAt ((2 + k) * 2)
    have HO := Lib.hid ob
    have HB11 := Lib.hid hb11
    have hz11 := hb11.size
    clear ob hb11 hgl hby hk
    go_upto_region 18 with fail
    obtain ⟨os, _⟩ := HO.out.stored ((2 + k) * 2) (.int .i64 3)
    rw [← genL_set _ _ _ hkl, hby2] at os
    obtain ⟨L2, hL2⟩ : ∃ L, (symsP ⟨204, sl⟩).set (2 + k) (3, (by_.toNat : Int)) = L := ⟨_, rfl⟩
    have hL3 : L2.length = n := by rw [← hL2, List.length_set, hn]
    rw [hL2] at os
    have LB12 := own_list (l := L2) (by decide) prA_size (by rw [hL3]; exact os) (by omega)
    have hb12 : Below w10.heap.size w10 (w11.setCell ⟨g, (2 + k) * 2, none⟩ (.int .i64 3)) := HB11.out.setCell hg1 _
    have LA12 := LA10.out.run hb12
    have LC12 := LC10.out.run hb12
    have r412 := R410.out.run hb12
    have hB12 := below_run HB10.out hb12
    clear os hcell hfz hby2 hkl hb12 HO HB11 LA10 LC10 R410 HB10 hg1 hg2 hz11 hz10
    generalize w11.setCell ⟨g, (2 + k) * 2, none⟩ (.int .i64 3) = w12 at LB12 LA12 LC12 r412 hB12 ⊢
    have R412 := Lib.hid r412
    have HB12 := Lib.hid hB12
    have hL4 : 0 < L2.length := by omega
    have HL3 := Lib.hid hL3
    have HL2 := Lib.hid hL2
    clear hL2
    have hbT2 : Below w12.heap.size w12 (w12.alloc (.cells #[.slice aa (symsP ⟨s0, t0⟩).length ac, .slice (some ⟨g, 0, none⟩) n cap, .slice ca (symsP ⟨s1, t1⟩).length cc] 60)) := (Below.refl _ _).alloc (Nat.le_refl _) _
    have CC2 := Lib.hid (concat_three w12.heap.size aa (some ⟨g, 0, none⟩) ca _ ac _ cap _ cc _ L2 _ _ (RowAt.new w12 60 #[.slice aa (symsP ⟨s0, t0⟩).length ac, .slice (some ⟨g, 0, none⟩) n cap, .slice ca (symsP ⟨s1, t1⟩).length cc]) (LA12.run hbT2) (LB12.run hbT2) (LC12.run hbT2) (by have := N0.out; omega) (by omega) (by have := N1.out; omega) (by have := N0.out; omega) (by omega) (by have := N1.out; omega))
    have HBT2 := Lib.hid (below_run HB12.out hbT2)
    clear hbT2 LB12 LA12 LC12 r412 hB12
    go_wp2_with fail
    refine CC2.out.mono ?_
    rintro e w13 ⟨vl2, rfl, hvl2, hb13⟩
    have hl13 : (symsP ⟨s0, t0⟩ ++ L2 ++ symsP ⟨s1, t1⟩).length ≤ 2000 ∧ 0 < (symsP ⟨s0, t0⟩ ++ L2 ++ symsP ⟨s1, t1⟩).length := by
      simp only [List.length_append]
      have := N0.out
      have := N1.out
      omega
    have ho13 : ∀ x ∈ symsP ⟨s0, t0⟩ ++ L2 ++ symsP ⟨s1, t1⟩, okS x := by
      intro x hx
      rcases List.mem_append.1 hx with hx | hx
      · rcases List.mem_append.1 hx with hx | hx
        · exact symsP_ok _ P0.out x hx
        · rw [← HL2.out] at hx
          exact spoilt_ok _ PO.out _ _ (by omega) (by have := by_.toNat_lt; omega) x hx
      · exact symsP_ok _ P1.out x hx
    obtain ⟨e1, e2⟩ := read_bad ⟨s0, t0⟩ ⟨204, sl⟩ ⟨s1, t1⟩ P0.out PO.out P1.out k (by have := HN2.out; have := HZ.out; show k < 1 + sl.size; omega) (by_.toNat : Int)
    rw [HL2.out] at e1 e2
    have CD0 := decode_any vl2 _ w13 hvl2 hl13.1 hl13.2 ho13
    rw [e1] at CD0
    generalize (decP (symsP ⟨s0, t0⟩ ++ L2 ++ symsP ⟨s1, t1⟩)).faults = F2 at CD0 e2
    have CD2 := Lib.hid CD0
    have hb123 : Below w12.heap.size w12 w13 := below_run ((Below.refl _ _).alloc (Nat.le_refl _) _) hb13
    have HB13 := Lib.hid (below_run HBT2.out hb13)
    have R413 := Lib.hid (R412.out.run hb123)
    have HE2' := Lib.hid e2
    clear CD0 hb123 hb13 hl13 ho13 hvl2 e1 e2 CC2 HBT2 R412 HB12
    go_wp2_with fail
    refine CD2.out.mono ?_
    rintro e w14 ⟨u1, u2, rfl, hp14, hf14, hb14⟩
    have HB14 := Lib.hid (below_run HB13.out hb14)
    have R414 := Lib.hid (R413.out.run hb14)
    obtain ⟨fa2, fc2, rfl⟩ := hf14.shape
    obtain ⟨pa2, pc2, rfl⟩ := hp14.shape
    rw [HE2'.out]
    have HE2 := Lib.hid (equal_pkts _ (.slice (some ⟨w.heap.size + 1, 0, none⟩) 2 2) [⟨s0, t0⟩, ⟨s1, t1⟩] w14 hp14 (pkts_row R414.out rfl (by simp) (by simp)) (by simp))
    clear CD2 hf14 hp14 hb14 R413 HB13
    go_wp2_with fail
    refine HE2.out.mono ?_
    rintro e w15 ⟨rfl, hb15⟩
    have HB15 := Lib.hid (below_run HB14.out hb15)
    clear hb15 HE2
    go_wp2_with fail
    refine (PB.out _).mono ?_
    rintro e w16 ⟨rfl, hb16⟩
    have HB16 := Lib.hid (below_run HB15.out hb16)
    clear hb16
    go_wp2
    go_ret
    exact ⟨rfl, HB16.out⟩
end Go.Proofs.YtpkhcehddfmhpaaGreat
