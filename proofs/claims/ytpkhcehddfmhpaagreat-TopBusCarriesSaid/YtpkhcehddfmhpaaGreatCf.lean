/-
  Plain laws of a message that is sent as a packet between others: its symbols are right, and what becomes of it when one is a bad byte.
  packet.Check, Encode and Symbols.
  The reader of packets: fault, lonely, end, low, mark, data, bad, idle.
  packet.Decode.
-/
import Derived.Test.YtpkhcehddfmhpaaGreatCb
import Derived.Test.YtpkhcehddfmhpaaGreatPl46
import Derived.Test.YtpkhcehddfmhpaaGreatSk
import Derived.BigRegion
import Derived.Deep.RegionLaw
import Derived.Deep.AppendLies
import Derived.StillTailTactics
import Derived.Deep.QuietTactic
import Derived.BigQuiet
namespace Go.Proofs.YtpkhcehddfmhpaaGreat

/-- A right symbol. -/
def okS (x : Int × Int) : Prop := ((x.1 = 0 ∨ x.1 = 1 ∨ x.1 = 4) ∧ 1 ≤ x.2 ∧ x.2 ≤ 10000000) ∨ ((x.1 = 2 ∨ x.1 = 3) ∧ 0 ≤ x.2 ∧ x.2 ≤ 255)
/-- The bytes of a packet: the start code, then the slots. -/
def bytP (p : Pkt) : List UInt8 := UInt8.ofNat p.start.toNat :: p.slots.data.toList
theorem symsP_eq (p : Pkt) (h : pktE p = 0) : symsP p = (0, 176) :: (1, 12) :: (bytP p).map fun b => (2, (b.toNat : Int)) := by
  obtain ⟨h0, h1, _⟩ := pkt_ok h
  have := byte_start p h0 h1
  rw [symsP, bytP, List.map_cons, this]
theorem bytP_length (p : Pkt) : (bytP p).length = 1 + p.slots.size := by simp [bytP]; omega
theorem symsP_length (p : Pkt) : (symsP p).length = 3 + p.slots.size := by simp [symsP]; omega
theorem okS_byte (b : UInt8) : okS (2, (b.toNat : Int)) := .inr ⟨.inl rfl, by omega, by have := b.toNat_lt; simp; omega⟩
theorem symsP_ok (p : Pkt) (h : pktE p = 0) : ∀ x ∈ symsP p, okS x := by
  rw [symsP_eq p h]
  intro x hx
  simp only [List.mem_cons, List.mem_map] at hx
  rcases hx with rfl | rfl | ⟨b, _, rfl⟩
  · exact .inl ⟨.inl rfl, by decide, by decide⟩
  · exact .inl ⟨.inr (.inl rfl), by decide, by decide⟩
  · exact okS_byte b
theorem okS_bad {v : Int} (h0 : 0 ≤ v) (h1 : v ≤ 255) : okS (3, v) := .inr ⟨.inr rfl, h0, h1⟩
/-- A byte of a packet's symbols. -/
theorem symsP_byte (p : Pkt) (h : pktE p = 0) (k : Nat) (hk : k < 1 + p.slots.size) : ∃ b : UInt8, (symsP p)[2 + k]? = some (2, (b.toNat : Int)) := by
  have hk' : k < (bytP p).length := by rw [bytP_length]; exact hk
  refine ⟨(bytP p)[k], ?_⟩
  rw [symsP_eq p h, show 2 + k = k + 1 + 1 from by omega, List.getElem?_cons_succ, List.getElem?_cons_succ, List.getElem?_map, List.getElem?_eq_getElem hk']
  rfl
/-- A packet one of whose bytes is a bad one. -/
theorem spoilt_eq (p : Pkt) (h : pktE p = 0) (k : Nat) (hk : k < 1 + p.slots.size) (v : Int) :
    (symsP p).set (2 + k) (3, v) = (0, 176) :: (1, 12) :: (((bytP p).take k).map (fun b => ((2 : Int), (b.toNat : Int))) ++ (3, v) :: ((bytP p).drop (k + 1)).map fun b => ((2 : Int), (b.toNat : Int))) := by
  have hk' : k < ((bytP p).map fun b => ((2 : Int), (b.toNat : Int))).length := by rw [List.length_map, bytP_length]; exact hk
  rw [symsP_eq p h, show 2 + k = k + 1 + 1 from by omega, List.set_cons_succ, List.set_cons_succ, List.set_eq_take_append_cons_drop, if_pos hk', List.map_take, List.map_drop]
theorem spoilt_ok (p : Pkt) (h : pktE p = 0) (i : Nat) (v : Int) (h0 : 0 ≤ v) (h1 : v ≤ 255) : ∀ x ∈ (symsP p).set i (3, v), okS x := by
  intro x hx
  rcases List.mem_or_eq_of_mem_set hx with hx | rfl
  · exact symsP_ok p h x hx
  · exact okS_bad h0 h1
/-- What is read of three packets the middle one of which has a bad byte. -/
theorem read_bad (p q r : Pkt) (hp : pktE p = 0) (hq : pktE q = 0) (hr : pktE r = 0) (k : Nat) (hk : k < 1 + q.slots.size) (v : Int) :
    (decP (symsP p ++ (symsP q).set (2 + k) (3, v) ++ symsP r)).packets = [p, r] ∧ (decP (symsP p ++ (symsP q).set (2 + k) (3, v) ++ symsP r)).faults.length = 1 := by
  rw [spoilt_eq q hq k hk v]
  refine read_spoilt p r _ _ v hp hr ?_
  obtain ⟨_, _, h2⟩ := pkt_ok hq
  rw [List.length_take, bytP_length]
  omega
/-- A message as a packet. -/
def ownP (m : Msg) : Pkt := ⟨204, str ((madeL m).drop 1)⟩
theorem madeL_cons (m : Msg) : madeL m = 204 :: (madeL m).drop 1 := by
  have h := made_head m
  have hl := madeL_length m
  match hm : madeL m with
  | [] =>
    rw [hm, List.length_nil] at hl
    omega
  | [a] =>
    rw [hm] at hl
    have : [a].length = 1 := rfl
    omega
  | a :: b :: l =>
    rw [hm] at h
    simp at h
    simp [h.1]
theorem ownP_size (m : Msg) : (ownP m).slots.size = 20 + m.dat.size := by
  show (((madeL m).drop 1).toArray).size = _
  rw [List.size_toArray, List.length_drop, madeL_length]
  omega
theorem ownP_ok (m : Msg) (h : m.dat.size ≤ 300) : pktE (ownP m) = 0 := by
  unfold pktE
  rw [if_neg (by show ¬ ((204 : Int) < 0 ∨ 255 < (204 : Int)); decide), if_neg (by rw [ownP_size]; omega)]
end Go.Proofs.YtpkhcehddfmhpaaGreat

namespace Go.Proofs.YtpkhcehddfmhpaaGreat
open Go.RowKit

theorem Tryz.info_sym : (Tryz.prog.info? 69).map (fun i => (i.zero, i.size, i.bytes)) = some (some (.agg #[.int .i64 0, .int .i64 0]), 2, 16) := by kernel_rfl
theorem Tryz.info_pkt : (Tryz.prog.info? 54).map (fun i => (i.zero, i.size, i.bytes)) = some (some (.agg #[.int .i64 0, .string ⟨#[]⟩]), 2, 24) := by kernel_rfl
theorem Tryz.info_flt : (Tryz.prog.info? 196).map (fun i => (i.zero, i.size, i.bytes)) = some (some (.agg #[.int .i64 0, .int .i64 0]), 2, 16) := by kernel_rfl

theorem prA_size (x : Int × Int) : (prA x).size = 2 := rfl
theorem pktA_size (x : Pkt) : (pktA x).size = 2 := rfl
theorem prA_ones (x : Int × Int) : ∀ u ∈ (prA x).toList, u.oneCell' = true := by
  intro u hu
  simp [prA] at hu
  rcases hu with rfl | rfl <;> rfl
theorem pktA_ones (x : Pkt) : ∀ u ∈ (pktA x).toList, u.oneCell' = true := by
  intro u hu
  simp [pktA] at hu
  rcases hu with rfl | rfl <;> rfl

set_option maxHeartbeats 1000000 in
set_option maxRecDepth 100000 in
theorem pcheck_any (p : Pkt) (w : World) : Calls Tryz.prog 11 #[.agg (pktA p)] w fun e w' => e = .returned (.int .i64 (pktE p)) ∧ Below w.heap.size w w' := by
  obtain ⟨st, sl⟩ := p
  show Calls Tryz.prog 11 #[.agg #[.int .i64 st, .string sl]] w _
  go_enter Tryz.func11, Tryz.ntmps11
  go_wp2
  all_goals go_ret
  all_goals exact ⟨ret_int (by grind [pktE]), by (repeat' (first | (with_reducible exact Below.refl _ _) | (with_reducible assumption) | (with_reducible refine below_run ?_ (by assumption)) | (with_reducible refine below_of_upd ?_ (by assumption) ?_) | (with_reducible refine below_drewN ?_ _) | (with_reducible refine Below.drew ?_) | (with_reducible refine below_seven ?_ ?_) | (with_reducible refine below_six ?_ ?_) | (with_reducible refine below_one ?_ ?_) | (with_reducible refine Below.alloc ?_ ?_ _) | (with_reducible refine below_after ?_ ?_ (by assumption)) | (show _ ≤ _; first | omega | (simp; done) | (simp; omega))))⟩

/-- The symbols of a packet's first bytes. -/
def symsK (p : Pkt) (k : Nat) : List (Int × Int) := [(0, 176), (1, 12), (2, p.start)] ++ (p.slots.data.toList.take k).map fun b => (2, (b.toNat : Int))
theorem symsK_all (p : Pkt) : symsK p p.slots.size = symsP p := by
  rw [symsK, List.take_of_length_le (by simp)]
  rfl
theorem symsK_length (p : Pkt) (k : Nat) (h : k ≤ p.slots.size) : (symsK p k).length = 3 + k := by
  have : (p.slots.data.toList.take k).length = k := by rw [List.length_take]; simp; omega
  rw [symsK, List.length_append, List.length_map, this]
  rfl
theorem symsK_succ (p : Pkt) (k : Nat) (h : k < p.slots.size) : symsK p (k + 1) = symsK p k ++ [(2, (p.slots[k].toNat : Int))] := by
  have hk : k < p.slots.data.toList.length := by simpa using h
  rw [symsK, symsK, List.take_succ_eq_append_getElem hk, List.map_append, List.append_assoc]
  rfl

set_option maxHeartbeats 2000000 in
set_option maxRecDepth 100000 in
theorem pencode_any (p : Pkt) (w : World) (h : pktE p = 0) :
    Calls Tryz.prog 14 #[.agg (pktA p)] w fun e w' => ∃ v, e = .returned (.tuple #[v, .int .i64 0]) ∧ w'.ownsRow w.heap.size 69 2 v (symsP p).length (genL prA (symsP p)) ∧ Below w.heap.size w w' := by
  obtain ⟨i0, hi, hz0, hz1, hz2⟩ := info_parts Tryz.info_sym
  obtain ⟨st, sl⟩ := p
  have C : Hid (∀ W, Calls Tryz.prog 11 #[.agg #[.int .i64 st, .string sl]] W fun e w' => e = .returned (.int .i64 0) ∧ Below W.heap.size W w') := Lib.hid fun W => by
    have := pcheck_any ⟨st, sl⟩ W
    rw [h] at this
    exact this
  have HP := Lib.hid h
  obtain ⟨_, _, h512⟩ := pkt_ok h
  have h512' : sl.size ≤ 512 := h512
  have h512i : (sl.size : Int) ≤ 512 := by omega
  clear h h512
  show Calls Tryz.prog 14 #[.agg #[.int .i64 st, .string sl]] w _
  go_enter Tryz.func14, Tryz.ntmps14
  go_wp2_with fail
  refine (C.out _).mono ?_
  rintro e w1 ⟨rfl, hb1⟩
  have hb := below_run ((Below.refl w.heap.size w).alloc (Nat.le_refl _) (.cells #[.int .i64 st, .string sl] 54)) hb1
  have r1 : RowAt w1 w.heap.size 54 #[.int .i64 st, .string sl] := (RowAt.new _ _ _).run hb1
  obtain ⟨x1, x2, x3, x4, x5, x6⟩ := row_facts r1
  have hsz := hb.size
  have HR := Lib.hid r1
  have HB := Lib.hid hb
  clear hb1 r1 hb
  go_wp2_with fail
  go_loopw [5, 21] (fun v i wr => ∃ k : Nat, k ≤ sl.size ∧ i = .int .i64 k ∧ wr.ownsRow w.heap.size 69 2 v (3 + k) (genL prA (symsK ⟨st, sl⟩ k)) ∧ Below w.heap.size w wr ∧ RowAt wr w.heap.size 54 #[.int .i64 st, .string sl]) (fun _ i _ => sl.size - (intOf i).toNat)
  case atStart => exact ⟨0, Nat.zero_le _, rfl, World.ownsRow_lit w1 _ 3 hsz (by decide) rfl, HB.out.alloc hsz _, HR.out.alloc _⟩
  case round =>
    obtain ⟨k, hk, rfl, hown, hb0, hr⟩ := hrel
    obtain ⟨y1, y2, y3, y4, y5, y6⟩ := row_facts hr
    have hsz2 := hb0.size
    by_cases hlt : k < sl.size
    · have hlt2 : (k : Int) < (sl.size : Int) := by omega
      have hwr : IntKind.i64.wrap (sl[k].toNat : Int) = (sl[k].toNat : Int) := IntWalk.i64_in _ (by have := sl[k].toNat_lt; omega)
      have HS := Lib.hid (symsK_succ ⟨st, sl⟩ k hlt)
      go_wp2_with (at_builtin; refine wpList_append_own _ rfl _ _ 60 rfl w.heap.size 69 i0 _ 2 16 Tryz.underlying60 hi hz0 hz1 hz2 rfl (by decide) _ _ _ rfl (hown.alloc _) ⟨wr.heap.size, 0, none⟩ 1 1 (prA (2, (sl[k].toNat : Int))).toList rfl rfl ?c1 (prA_ones _) ?c3 ?c4 ?c5 ?_)
      case c1 => first | exact gen_news (RowAt.new _ _ _) | (intro j u hj; simpa [prA] using hj)
      case c3 => unfold maxLen; omega
      case c4 => omega
      case c5 => first | omega | (simp; omega)
      · intro v' w2 hown' hgrow _
        have hb2 := below_grown (hb0.alloc (by omega) _) (hown.alloc _) (Nat.le_refl _) hgrow (by first | omega | (simp; omega))
        have hr2 := row_two (hown.alloc _) (hr.alloc _) (by decide) hgrow
        clear hgrow hown
        go_wp2
        go_roundw
        case rel => exact ⟨k + 1, by omega, by go_num, by rw [HS.out, genL_snoc]; exact hown', hb2, hr2⟩
        case measure => simp [intOf]; omega
    · have hlt2 : ¬ (k : Int) < (sl.size : Int) := by omega
      obtain rfl : k = sl.size := by omega
      have HO := Lib.hid hown
      clear hown
      go_wp2
      go_ret2
      exact ⟨_, rfl, by rw [symsP_length, ← symsK_all]; exact HO.out, hb0⟩

theorem pr_cells {w : World} {b off : Nat} {l : List (Int × Int)} (hc : ∀ j, j < l.length * 2 → w.cell? ⟨b, off + j, none⟩ = genC 2 prA l j) (k : Nat) (hk : k < l.length) :
    w.cell? ⟨b, off + k * 2, none⟩ = some (.int .i64 l[k].1) ∧ w.cell? ⟨b, off + k * 2 + 1, none⟩ = some (.int .i64 l[k].2) :=
  ⟨gen_cell (by decide) hc k hk 0 (by decide), gen_cell (by decide) hc k hk 1 (by decide)⟩
theorem pkt_cells {w : World} {b off : Nat} {l : List Pkt} (hc : ∀ j, j < l.length * 2 → w.cell? ⟨b, off + j, none⟩ = genC 2 pktA l j) (k : Nat) (hk : k < l.length) :
    w.cell? ⟨b, off + k * 2, none⟩ = some (.int .i64 l[k].start) ∧ w.cell? ⟨b, off + k * 2 + 1, none⟩ = some (.string l[k].slots) :=
  ⟨gen_cell (by decide) hc k hk 0 (by decide), gen_cell (by decide) hc k hk 1 (by decide)⟩

set_option maxHeartbeats 4000000 in
set_option maxRecDepth 100000 in
theorem symbols_any (v : Value) (l : List (Int × Int)) (w : World) (hv : PrsAt w v l) (hl : l.length ≤ 60000) (ho : ∀ x ∈ l, okS x) :
    Calls Tryz.prog 49 #[v] w fun e w' => e = .returned (.int .i64 0) ∧ Below w.heap.size w w' := by
  rcases hv with ⟨h0, a, cap, rfl⟩ | ⟨h0, h1, b, off, cap, rfl, hlt, hc⟩
  · have hl0 : l = [] := List.eq_nil_of_length_eq_zero h0
    subst hl0
    go_enter Tryz.func49, Tryz.ntmps49
    go_wp2
    refine wp_loop_rounds 1 ?_
    rw [rounds_succ]
    go_wp2
    go_ret
    exact ⟨rfl, by (repeat' (first | (with_reducible exact Below.refl _ _) | (with_reducible assumption) | (with_reducible refine below_run ?_ (by assumption)) | (with_reducible refine below_of_upd ?_ (by assumption) ?_) | (with_reducible refine below_drewN ?_ _) | (with_reducible refine Below.drew ?_) | (with_reducible refine below_seven ?_ ?_) | (with_reducible refine below_six ?_ ?_) | (with_reducible refine below_one ?_ ?_) | (with_reducible refine Below.alloc ?_ ?_ _) | (with_reducible refine below_after ?_ ?_ (by assumption)) | (show _ ≤ _; first | omega | (simp; done) | (simp; omega))))⟩
  · have hl1 : (l.length : Int) ≤ 60000 := by omega
    have HO := Lib.hid ho
    clear ho h1
    go_enter Tryz.func49, Tryz.ntmps49
    go_wp2
    go_loopw [4, 5, 6, 12] (fun _ _ _ i wr => ∃ k : Nat, k ≤ l.length ∧ i = .int .i64 k ∧ Below w.heap.size w wr) (fun _ _ _ i _ => l.length - (intOf i).toNat)
    case atStart => exact ⟨0, Nat.zero_le _, rfl, Below.refl _ _⟩
    case round =>
      obtain ⟨k, hk, rfl, hb0⟩ := hrel
      by_cases hlt2 : k < l.length
      · have hlt3 : (k : Int) < (l.length : Int) := by omega
        have hk0 : (0 : Int) ≤ (k : Int) := by omega
        have hc' : ∀ j, j < l.length * 2 → wr.cell? ⟨b, off + j, none⟩ = genC 2 prA l j := fun j hj => (hb0.cell (p := ⟨b, off + j, none⟩) hlt).trans (hc j hj)
        obtain ⟨e1, e2⟩ := pr_cells hc' k hlt2
        have hx := HO.out l[k] (List.getElem_mem hlt2)
        obtain ⟨x, hx1⟩ : ∃ x, l[k].1 = x := ⟨_, rfl⟩
        obtain ⟨y, hx2⟩ : ∃ y, l[k].2 = y := ⟨_, rfl⟩
        unfold okS at hx
        rw [hx1, hx2] at hx
        rw [hx1] at e1
        rw [hx2] at e2
        have hsz := hb0.size
        clear hc' hx1 hx2
        rcases hx with ⟨rfl | rfl | rfl, h1, h2⟩ | ⟨rfl | rfl, h1, h2⟩
        all_goals
          go_wp2
          go_roundw
          case rel => exact ⟨k + 1, by omega, by go_num, by (repeat' (first | (with_reducible exact Below.refl _ _) | (with_reducible assumption) | (with_reducible refine below_run ?_ (by assumption)) | (with_reducible refine below_of_upd ?_ (by assumption) ?_) | (with_reducible refine below_drewN ?_ _) | (with_reducible refine Below.drew ?_) | (with_reducible refine below_seven ?_ ?_) | (with_reducible refine below_six ?_ ?_) | (with_reducible refine below_one ?_ ?_) | (with_reducible refine Below.alloc ?_ ?_ _) | (with_reducible refine below_after ?_ ?_ (by assumption)) | (show _ ≤ _; first | omega | (simp; done) | (simp; omega))))⟩
          case measure => simp [intOf]; omega
      · have hlt3 : ¬ (k : Int) < (l.length : Int) := by omega
        obtain rfl : k = l.length := by omega
        go_wp2
        go_ret
        exact ⟨rfl, hb0⟩
end Go.Proofs.YtpkhcehddfmhpaaGreat

namespace Go.Proofs.YtpkhcehddfmhpaaGreat
open Go.RowKit

/-- The cells of a reader. -/
theorem RdS.facts {w : World} {B b : Nat} {i : Int} {s : RdP} (h : RdS w B b i s) : w.cell? ⟨b, 2, none⟩ = some (.int .i64 i) ∧ w.cell? ⟨b, 3, none⟩ = some (.int .i64 s.since) ∧ w.cell? ⟨b, 4, none⟩ = some (.bool s.within) ∧ w.cell? ⟨b, 5, none⟩ = some (.bool s.waiting) ∧
    (∀ o, w.frozen? ⟨b, o, none⟩ = false) ∧ b < w.heap.size ∧ b ≤ w.heap.size ∧ ¬ b = w.heap.size ∧ ¬ w.heap.size = b := by
  obtain ⟨⟨v1, v2, v3, hr, _, _, _⟩, _⟩ := h
  obtain ⟨_, x2, x3, x4, x5, x6⟩ := row_facts hr
  exact ⟨cell_fact hr 2, cell_fact hr 3, cell_fact hr 4, cell_fact hr 5, x2, x3, x4, x5, x6⟩
theorem RdS.at {w : World} {B b : Nat} {i : Int} {s : RdP} (h : RdS w B b i s) (j : Int) : RdS (w.setCell ⟨b, 2, none⟩ (.int .i64 j)) B b j s := by
  obtain ⟨⟨v1, v2, v3, hr, o1, o2, o3⟩, hl⟩ := h
  exact RdS.upd hr o1 o2 o3 (upd_set (upd_refl _ _) _ _) (RowAt.set hr rfl) rfl rfl rfl hl
theorem RdS.since {w : World} {B b : Nat} {i : Int} {s : RdP} (h : RdS w B b i s) (j : Int) : RdS (w.setCell ⟨b, 3, none⟩ (.int .i64 j)) B b i { s with since := j } := by
  obtain ⟨⟨v1, v2, v3, hr, o1, o2, o3⟩, hl⟩ := h
  exact RdS.upd hr o1 o2 o3 (upd_set (upd_refl _ _) _ _) (RowAt.set hr rfl) rfl rfl rfl hl
theorem RdS.within {w : World} {B b : Nat} {i : Int} {s : RdP} (h : RdS w B b i s) (q : Bool) : RdS (w.setCell ⟨b, 4, none⟩ (.bool q)) B b i { s with within := q } := by
  obtain ⟨⟨v1, v2, v3, hr, o1, o2, o3⟩, hl⟩ := h
  exact RdS.upd hr o1 o2 o3 (upd_set (upd_refl _ _) _ _) (RowAt.set hr rfl) rfl rfl rfl hl
theorem RdS.waiting {w : World} {B b : Nat} {i : Int} {s : RdP} (h : RdS w B b i s) (q : Bool) : RdS (w.setCell ⟨b, 5, none⟩ (.bool q)) B b i { s with waiting := q } := by
  obtain ⟨⟨v1, v2, v3, hr, o1, o2, o3⟩, hl⟩ := h
  exact RdS.upd hr o1 o2 o3 (upd_set (upd_refl _ _) _ _) (RowAt.set hr rfl) rfl rfl rfl hl
theorem RdS.nobytes {w : World} {B b : Nat} {i : Int} {s : RdP} (h : RdS w B b i s) : RdS (w.setCell ⟨b, 6, none⟩ (.slice none 0 0)) B b i { s with bytes := [] } := by
  obtain ⟨⟨v1, v2, v3, hr, o1, o2, o3⟩, hl⟩ := h
  have hu : Upd b w (w.setCell ⟨b, 6, none⟩ (.slice none 0 0)) := upd_set (upd_refl _ _) _ _
  exact ⟨⟨v1, v2, .slice none 0 0, RowAt.set hr rfl, own_upd o1 hr (by decide) hu, own_upd o2 hr (by decide) hu, World.ownsRow_nil _ _ _ _⟩, hl.1, Nat.le_trans hl.2 hu.size⟩
theorem RdS.six {w : World} {B b : Nat} {i : Int} {s : RdP} (h : RdS w B b i s) : ∃ v, w.cell? ⟨b, 6, none⟩ = some v := by
  obtain ⟨⟨v1, v2, v3, hr, _, _, _⟩, _⟩ := h
  exact ⟨v3, cell_fact hr 6⟩
theorem frp_set {B b : Nat} {a w : World} (h : FrP B b a w) (o : Nat) (u : Value) (hB : B ≤ w.heap.size) : FrP B b a (w.setCell ⟨b, o, none⟩ u) := frp_upd h (upd_set (upd_refl _ _) _ _) hB
theorem RdS.lo {w : World} {B b : Nat} {i : Int} {s : RdP} (h : RdS w B b i s) : B ≤ w.heap.size := h.low.2

set_option maxHeartbeats 4000000 in
set_option maxRecDepth 100000 in
theorem pfault_any (B b : Nat) (i a k : Int) (s : RdP) (w : World) (h : RdS w B b i s) (hN : FewP 300000 s) :
    Calls Tryz.prog 84 #[.pointer (some ⟨b, 0, none⟩), .int .i64 a, .int .i64 k] w fun e w' => e = .returned (.tuple #[]) ∧ RdS w' B b i (faultP s a k) ∧ FrP B b w w' := by
  obtain ⟨i0, hi, hz0, hz1, hz2⟩ := info_parts Tryz.info_flt
  obtain ⟨⟨v1, v2, v3, hr, o1, o2, o3⟩, hbB, hBw⟩ := h
  have hf := hN.faults
  have hb1 : Below w.heap.size w (w.alloc (.cells #[.int .i64 a, .int .i64 k] 196)) := (Below.refl _ _).alloc (Nat.le_refl _) _
  have c1 : w.cell? ⟨b, 1, none⟩ = some v2 := cell_fact hr 1
  obtain ⟨x1, x2, x3, x4, x5, x6⟩ := row_facts hr
  have own1 := own_run o2 hb1
  have hnew : RowAt (w.alloc (.cells #[.int .i64 a, .int .i64 k] 196)) w.heap.size 196 (prA (a, k)) := RowAt.new _ _ _
  have P := Lib.hid (And.intro (own_run o1 hb1) (And.intro (own_run o3 hb1) (hr.run hb1)))
  have F1 := Lib.hid (frp_run (frp_refl B b w) hb1 hBw)
  clear x1 hr o1 o2 o3 hb1
  go_enter Tryz.func84, Tryz.ntmps84
  go_wp2_with (at_builtin; refine wpList_append_own _ rfl (.tmp 10) (.tmp 14) 64 rfl B 196 i0 _ 2 16 Tryz.underlying64 hi hz0 hz1 hz2 rfl (by decide) _ _ _ rfl own1 ⟨w.heap.size, 0, none⟩ 1 1 (prA (a, k)).toList rfl rfl ?c1 (prA_ones _) ?c3 ?c4 ?c5 ?_)
  case c1 => exact gen_news hnew
  case c3 => unfold maxLen; omega
  case c4 => omega
  case c5 => simp; omega
  · intro v' w2 hown2 hgrow _
    obtain ⟨p1, p3, hr1⟩ := P.out
    have hr2 := row_two own1 hr1 (by decide) hgrow
    have q1 := own_two own1 p1 (by decide) hgrow
    have q3 := own_two own1 p3 (by decide) hgrow
    have F2 := Lib.hid (frp_grown F1.out own1 (by simp; omega) hgrow)
    have hBz := hgrow.size
    simp at hBz
    obtain ⟨av, kv, cv, rfl⟩ : ∃ a k c, v' = .slice a k c := by
      rcases hown2.2 with ⟨rfl, _⟩ | ⟨g, cap, cur, rfl, _⟩
      · exact ⟨_, _, _, rfl⟩
      · exact ⟨_, _, _, rfl⟩
    obtain ⟨y1, y2, y3, y4, y5, y6⟩ := row_facts hr2
    have Q := Lib.hid (And.intro q1 (And.intro hown2 (And.intro q3 hr2)))
    have d1 : w2.cell? ⟨b, 1, none⟩ = some v2 := cell_fact hr2 1
    have d4 : w2.cell? ⟨b, 4, none⟩ = some (.bool s.within) := cell_fact hr2 4
    clear y1 hr2 q1 q3 hown2 hgrow p1 p3 hr1 own1 hnew
    go_wp2
    (first | go_end0 | refine bodyPost_ret (results_none rfl _ _ _) rfl ?_)
    obtain ⟨q1, q2, q3, hr2⟩ := Q.out
    have hu : Upd b w2 ((w2.setCell ⟨b, 1, none⟩ (.slice av kv cv)).setCell ⟨b, 4, none⟩ (.bool false)) := upd_set (upd_set (upd_refl _ _) _ _) _ _
    refine ⟨rfl, ⟨⟨v1, .slice av kv cv, v3, RowAt.set (RowAt.set hr2 rfl) rfl, own_upd q1 hr2 (by decide) hu, ?_, own_upd q3 hr2 (by decide) hu⟩, hbB, by simp; omega⟩, frp_upd F2.out hu (by omega)⟩
    have q := own_upd q2 hr2 (by decide) hu
    show World.ownsRow _ B _ 2 _ (s.faults ++ [(a, k)]).length (genL prA (s.faults ++ [(a, k)]))
    rw [List.length_append, genL_snoc]
    exact q

set_option maxHeartbeats 4000000 in
set_option maxRecDepth 100000 in
theorem plonely_any (B b : Nat) (i : Int) (s : RdP) (w : World) (h : RdS w B b i s) (hN : FewP 200000 s) :
    Calls Tryz.prog 55 #[.pointer (some ⟨b, 0, none⟩)] w fun e w' => e = .returned (.tuple #[]) ∧ RdS w' B b i (lonelyP s) ∧ FrP B b w w' := by
  obtain ⟨pk, fs, sn, wi, wa, by_⟩ := s
  obtain ⟨⟨v1, v2, v3, hr, o1, o2, o3⟩, hl⟩ := h
  obtain ⟨x1, x2, x3, x4, x5, x6⟩ := row_facts hr
  have c3 : w.cell? ⟨b, 3, none⟩ = some (.int .i64 sn) := cell_fact hr 3
  have c5 : w.cell? ⟨b, 5, none⟩ = some (.bool wa) := cell_fact hr 5
  cases wa with
  | false =>
    have H := Lib.hid (And.intro hr (And.intro o1 (And.intro o2 o3)))
    clear x1 hr o1 o2 o3
    go_enter Tryz.func55, Tryz.ntmps55
    go_wp2
    (first | go_end0 | refine bodyPost_ret (results_none rfl _ _ _) rfl ?_)
    obtain ⟨hr, o1, o2, o3⟩ := H.out
    exact ⟨rfl, ⟨⟨v1, v2, v3, hr, o1, o2, o3⟩, hl⟩, frp_refl _ _ _⟩
  | true =>
    have hu : Upd b w (w.setCell ⟨b, 5, none⟩ (.bool false)) := upd_set (upd_refl _ _) _ _
    have hs : RdS (w.setCell ⟨b, 5, none⟩ (.bool false)) B b i ⟨pk, fs, sn, wi, false, by_⟩ := RdS.upd (s := ⟨pk, fs, sn, wi, true, by_⟩) hr o1 o2 o3 hu (RowAt.set hr rfl) rfl rfl rfl hl
    have C := Lib.hid (pfault_any B b i sn 1 _ _ hs ⟨by have := hN.packets; show pk.length ≤ _; simp at this; omega, by have := hN.faults; show fs.length ≤ _; simp at this; omega, hN.bytes⟩)
    have HU := Lib.hid hu
    clear x1 hr o1 o2 o3 hs hN hu
    go_enter Tryz.func55, Tryz.ntmps55
    go_wp2_with fail
    refine C.out.mono ?_
    rintro e w2 ⟨rfl, hs2, hf⟩
    go_wp2
    (first | go_end0 | refine bodyPost_ret (results_none rfl _ _ _) rfl ?_)
    exact ⟨rfl, hs2, frp_trans (frp_upd (frp_refl _ _ _) HU.out hl.2) hf⟩

/-- All bytes but the first, as a text. -/
theorem conv_tail {w : World} {g cap : Nat} {x : UInt8} {l : List UInt8} (hl : l.length + 1 ≤ cap) (hc : ∀ i (hi : i < (x :: l).length), w.cell? ⟨g, i, none⟩ = some (.int .u8 ((x :: l)[i].toNat : Int))) :
    (convert 73 9 (.slice (if cap = 1 then some ⟨g, 0, none⟩ else some ⟨g, 1, none⟩) l.length (cap - 1))).run Tryz.prog w = .ok (.string (str l)) w := by
  rw [← strOfNums_L]
  by_cases h1 : cap = 1
  · have hn : l = [] := List.eq_nil_of_length_eq_zero (by omega)
    subst hn
    rw [if_pos h1]
    exact run_convert_bytes_arg w 73 5 Tryz.underlying73 Tryz.underlying5 g 0 0 (cap - 1) [] rfl (fun i hi => by omega) 9 Tryz.underlying9
  · rw [if_neg h1]
    refine run_convert_bytes_arg w 73 5 Tryz.underlying73 Tryz.underlying5 g 1 l.length (cap - 1) _ (by simp) (fun i hi => ?_) 9 Tryz.underlying9
    rw [Nat.add_comm 1 i, hc (i + 1) (by simp; omega)]
    simp [List.getElem?_map, List.getElem?_eq_getElem hi]

set_option maxHeartbeats 4000000 in
set_option maxRecDepth 100000 in
theorem pend_any (B b : Nat) (i : Int) (s : RdP) (w : World) (h : RdS w B b i s) (hN : FewP 200000 s) :
    Calls Tryz.prog 56 #[.pointer (some ⟨b, 0, none⟩)] w fun e w' => e = .returned (.tuple #[]) ∧ RdS w' B b i (endP s) ∧ FrP B b w w' := by
  obtain ⟨pk, fs, sn, wi, wa, by_⟩ := s
  obtain ⟨⟨v1, v2, v3, hr, o1, o2, o3⟩, hl⟩ := h
  obtain ⟨x1, x2, x3, x4, x5, x6⟩ := row_facts hr
  have c3 : w.cell? ⟨b, 3, none⟩ = some (.int .i64 sn) := cell_fact hr 3
  have c4 : w.cell? ⟨b, 4, none⟩ = some (.bool wi) := cell_fact hr 4
  have c6 : w.cell? ⟨b, 6, none⟩ = some v3 := cell_fact hr 6
  cases wi with
  | false =>
    have H := Lib.hid (And.intro hr (And.intro o1 (And.intro o2 o3)))
    clear x1 hr o1 o2 o3
    go_enter Tryz.func56, Tryz.ntmps56
    go_wp2
    (first | go_end0 | refine bodyPost_ret (results_none rfl _ _ _) rfl ?_)
    obtain ⟨hr, o1, o2, o3⟩ := H.out
    exact ⟨rfl, ⟨⟨v1, v2, v3, hr, o1, o2, o3⟩, hl⟩, frp_refl _ _ _⟩
  | true =>
    have hu : Upd b w (w.setCell ⟨b, 4, none⟩ (.bool false)) := upd_set (upd_refl _ _) _ _
    have hs : RdS (w.setCell ⟨b, 4, none⟩ (.bool false)) B b i ⟨pk, fs, sn, false, wa, by_⟩ := RdS.upd (s := ⟨pk, fs, sn, true, wa, by_⟩) hr o1 o2 o3 hu (RowAt.set hr rfl) rfl rfl rfl hl
    have HU := Lib.hid hu
    cases by_ with
    | nil =>
      obtain ⟨ad, cap, rfl⟩ := OwnB.shape o3
      have C := Lib.hid (pfault_any B b i sn 4 _ _ hs ⟨by have := hN.packets; show pk.length ≤ _; simp at this; omega, by have := hN.faults; show fs.length ≤ _; simp at this; omega, hN.bytes⟩)
      clear x1 hr o1 o2 o3 hs hN hu
      go_enter Tryz.func56, Tryz.ntmps56
      go_wp2_with fail
      refine C.out.mono ?_
      rintro e w2 ⟨rfl, hs2, hf⟩
      go_wp2
      (first | go_end0 | refine bodyPost_ret (results_none rfl _ _ _) rfl ?_)
      exact ⟨rfl, hs2, frp_trans (frp_upd (frp_refl _ _ _) HU.out hl.2) hf⟩
    | cons x l =>
      have p1 := own_upd o1 hr (by decide) hu
      have p2 := own_upd o2 hr (by decide) hu
      have p3 := own_upd o3 hr (by decide) hu
      have gr : RowAt (w.setCell ⟨b, 4, none⟩ (.bool false)) b 123 (rdA v1 v2 i ⟨pk, fs, sn, false, wa, x :: l⟩ v3) := RowAt.set hr rfl
      obtain ⟨i0, hi, hz0, hz1, hz2⟩ := info_parts Tryz.info_pkt
      obtain ⟨g, cap, rfl, hg1, hg2, hcap, hcells, hfz⟩ := OwnB.parts p3 (by simp)
      have hbl := hN.bytes
      have hpl := hN.packets
      simp only [List.length_cons] at hbl hpl hcap hg2
      have hl2 := hl.2
      obtain ⟨ap, cp, rfl⟩ : ∃ a c, v1 = .slice a pk.length c := by
        rcases o1.2 with ⟨rfl, hn⟩ | ⟨g, cap, cur, rfl, _⟩
        · exact ⟨none, 0, by rw [hn]⟩
        · exact ⟨_, _, rfl⟩
      clear hs hN
      go_enter Tryz.func56, Tryz.ntmps56
      go_wp2_with fail
      obtain ⟨W, hW⟩ : ∃ W, w.setCell ⟨b, 4, none⟩ (.bool false) = W := ⟨_, rfl⟩
      rw [hW] at p1 p2 p3 gr hcells hfz HU ⊢
      have d0 : W.cell? ⟨b, 0, none⟩ = some (.slice ap pk.length cp) := cell_fact gr 0
      have d6 : W.cell? ⟨b, 6, none⟩ = some (.slice (some ⟨g, 0, none⟩) (l.length + 1) cap) := cell_fact gr 6
      have e0 : W.cell? ⟨g, 0, none⟩ = some (.int .u8 (x.toNat : Int)) := hcells 0 (by simp)
      have hw8 : IntKind.i64.wrap (x.toNat : Int) = (x.toNat : Int) := IntWalk.i64_in _ (by have := x.toNat_lt; omega)
      have ct : (convert 73 9 (.slice (if cap = 1 then some ⟨g, 0, none⟩ else some ⟨g, 1, none⟩) l.length (cap - 1))).run Tryz.prog W = .ok (.string (str l)) W := conv_tail hcap hcells
      have ct2 : (convert 73 9 (.slice (if cap = 1 then some ⟨g, 0, none⟩ else some ⟨g, 1, none⟩) l.length (cap - 1))).run Tryz.prog W.drew = .ok (.string (str l)) W.drew := conv_tail (w := W.drew) hcap hcells
      have g1 : (1 : Int) ≤ (l.length : Int) + 1 := by omega
      obtain ⟨_, f2, f3, f4, f5, f6⟩ := row_facts gr
      have Q := Lib.hid (And.intro p1 (And.intro p2 (And.intro p3 gr)))
      have hzW : W.heap.size = w.heap.size := by rw [← hW]; simp
      have hl3 : B ≤ W.heap.size := by omega
      have hbB := hl.1
      have K : Hid (∀ (w8 : World) (gg cp2 : Nat), w8.ownsRow B 54 2 (.slice (some ⟨gg, 0, none⟩) (pk.length + 1) cp2) (pk.length + 1) (genL pktA pk ++ (pktA ⟨(x.toNat : Int), str l⟩).toList) → (W.alloc (.cells #[.int .i64 (x.toNat : Int), .string (str l)] 54)).drew.grownBy w8 (Value.ownBlock (.slice ap pk.length cp)) →
          RdS (w8.setCell ⟨b, 0, none⟩ (.slice (some ⟨gg, 0, none⟩) (pk.length + 1) cp2)) B b i (endP ⟨pk, fs, sn, true, wa, x :: l⟩) ∧ FrP B b w (w8.setCell ⟨b, 0, none⟩ (.slice (some ⟨gg, 0, none⟩) (pk.length + 1) cp2))) := Lib.hid (fun w8 gg cp2 hown hgrow => by
        obtain ⟨p1, p2, p3, gr⟩ := Q.out
        have hb1 : Below W.heap.size W (W.alloc (.cells #[.int .i64 (x.toNat : Int), .string (str l)] 54)).drew := ((Below.refl _ _).alloc (Nat.le_refl _) _).drew
        have hr8 := row_two (own_run p1 hb1) (gr.run hb1) (by decide) hgrow
        have q2 := own_two (own_run p1 hb1) (own_run p2 hb1) (by decide) hgrow
        have q3 := own_two (own_run p1 hb1) (own_run p3 hb1) (by decide) hgrow
        have hu8 : Upd b w8 (w8.setCell ⟨b, 0, none⟩ (.slice (some ⟨gg, 0, none⟩) (pk.length + 1) cp2)) := upd_set (upd_refl _ _) _ _
        have hs8 := hgrow.size
        have hs9 := hb1.size
        refine ⟨⟨⟨_, v2, _, RowAt.set hr8 rfl, ?_, own_upd q2 hr8 (by decide) hu8, own_upd q3 hr8 (by decide) hu8⟩, hbB, by simp; omega⟩, frp_upd (frp_grown (frp_run (frp_upd (frp_refl _ _ _) HU.out hl2) hb1 hl3) (own_run p1 hb1) (by omega) hgrow) hu8 (by omega)⟩
        have q := own_upd hown hr8 (by decide) hu8
        show World.ownsRow _ B _ 2 _ (pk ++ [(⟨(x.toNat : Int), str l⟩ : Pkt)]).length (genL pktA (pk ++ [(⟨(x.toNat : Int), str l⟩ : Pkt)]))
        rw [List.length_append, genL_snoc]
        exact q)
      have hcap2 : ((l.length : Int) + 1) ≤ (cap : Int) := by omega
      clear hzW hcells hfz gr p2 p3 hW x1 x2 x3 x4 x5 x6 c3 c4 c6 hr o1 o2 o3 hu
      go_region_law ((refine step_append_lies _ (by rfl) _ _ _ (by rfl) B 54 i0 _ 2 24 Tryz.underlying63 hi hz0 hz1 hz2 rfl (by decide) (.slice ap pk.length cp) pk.length _ (by rfl) ((p1.alloc _).drew) ⟨W.heap.size, 0, none⟩ 1 1 (pktA ⟨(x.toNat : Int), str l⟩).toList (by rfl) (by rfl) (World.news_of_block (cs := #[.int .i64 (x.toNat : Int), .string (str l)]) (t := 54) (fr := (0, 0)) (heap_alloc_new _ _)) (pktA_ones ⟨(x.toNat : Int), str l⟩) (by decide) (by unfold maxLen; omega) (by omega) (by simp; omega) (W.heap.size + 1) (by simp) ?_; intro gg cp2 w8 hown8 hgrow hat hlt8; have hr8 := row_two ((Q.out.1.alloc _).drew) ((Q.out.2.2.2.alloc _).drew) (by decide) hgrow; obtain ⟨k1, k2, k3, k4, k5, k6⟩ := row_facts hr8; have k0 : w8.cell? ⟨b, 0, none⟩ = some (.slice ap pk.length cp) := cell_fact hr8 0; have hfin := Lib.hid (K.out w8 gg cp2 hown8 hgrow); clear k1))
      all_goals go_wp2
      all_goals (first | go_end0 | refine bodyPost_ret (results_none rfl _ _ _) rfl ?_)
      all_goals exact ⟨rfl, hfin.out.1, hfin.out.2⟩
set_option maxHeartbeats 4000000 in
set_option maxRecDepth 100000 in
theorem plow_any (B b : Nat) (i v : Int) (s : RdP) (w : World) (h : RdS w B b i s) (hN : FewP 100000 s) :
    Calls Tryz.prog 50 #[.pointer (some ⟨b, 0, none⟩), .int .i64 v] w fun e w' => e = .returned (.tuple #[]) ∧ RdS w' B b i (lowP s i v) ∧ FrP B b w w' := by
  have C1 := Lib.hid (plonely_any B b i s w h (hN.mono (by omega)))
  have n1 := few_lonely hN
  have n2 := few_end n1
  have HV : Hid (lowP s i v = if v < 88 then faultP (endP (lonelyP s)) i 0 else { endP (lonelyP s) with since := i, waiting := true }) := Lib.hid rfl
  clear h hN
  by_cases h88 : v < 88
  · go_enter Tryz.func50, Tryz.ntmps50
    go_wp2_with fail
    refine C1.out.mono ?_
    rintro e w1 ⟨rfl, hs1, hf1⟩
    have C2 := Lib.hid (pend_any B b i _ w1 hs1 (n1.mono (by omega)))
    clear hs1
    go_wp2_with fail
    refine C2.out.mono ?_
    rintro e w2 ⟨rfl, hs2, hf2⟩
    have C3 := Lib.hid (pfault_any B b i i 0 _ w2 hs2 (n2.mono (by omega)))
    obtain ⟨c2, c3, c4, c5, x2, x3, x4, x5, x6⟩ := hs2.facts
    clear hs2 C1 C2
    go_wp2_with fail
    refine C3.out.mono ?_
    rintro e w3 ⟨rfl, hs3, hf3⟩
    go_wp2
    (first | go_end0 | refine bodyPost_ret (results_none rfl _ _ _) rfl ?_)
    exact ⟨rfl, by rw [HV.out, if_pos h88]; exact hs3, frp_trans (frp_trans hf1 hf2) hf3⟩
  · go_enter Tryz.func50, Tryz.ntmps50
    go_wp2_with fail
    refine C1.out.mono ?_
    rintro e w1 ⟨rfl, hs1, hf1⟩
    have C2 := Lib.hid (pend_any B b i _ w1 hs1 (n1.mono (by omega)))
    clear hs1
    go_wp2_with fail
    refine C2.out.mono ?_
    rintro e w2 ⟨rfl, hs2, hf2⟩
    obtain ⟨c2, c3, c4, c5, x2, x3, x4, x5, x6⟩ := hs2.facts
    have HS := Lib.hid hs2
    clear hs2 C1 C2
    go_wp2
    (first | go_end0 | refine bodyPost_ret (results_none rfl _ _ _) rfl ?_)
    exact ⟨rfl, by rw [HV.out, if_neg (by omega)]; exact (HS.out.since i).waiting true, frp_set (frp_set (frp_trans hf1 hf2) _ _ HS.out.lo) _ _ (by simpa using HS.out.lo)⟩

set_option maxHeartbeats 4000000 in
set_option maxRecDepth 100000 in
theorem pmark_any (B b : Nat) (i v : Int) (s : RdP) (w : World) (h : RdS w B b i s) (hN : FewP 100000 s) :
    Calls Tryz.prog 51 #[.pointer (some ⟨b, 0, none⟩), .int .i64 v] w fun e w' => e = .returned (.tuple #[]) ∧ RdS w' B b i (markP s v) ∧ FrP B b w w' := by
  obtain ⟨c2, c3, c4, c5, x2, x3, x4, x5, x6⟩ := h.facts
  by_cases hm : s.waiting = true ∧ 8 ≤ v
  · obtain ⟨m1, m2⟩ := hm
    have HV : Hid (markP s v = { s with waiting := false, within := true, bytes := [] }) := Lib.hid (if_pos ⟨m1, m2⟩)
    rw [m1] at c5
    obtain ⟨v6, c6⟩ := h.six
    have HS := Lib.hid h
    clear h hN m1
    go_enter Tryz.func51, Tryz.ntmps51
    go_wp2
    (first | go_end0 | refine bodyPost_ret (results_none rfl _ _ _) rfl ?_)
    exact ⟨rfl, by rw [HV.out]; exact ((HS.out.waiting false).within true).nobytes, frp_set (frp_set (frp_set (frp_refl _ _ _) _ _ HS.out.lo) _ _ (by simpa using HS.out.lo)) _ _ (by simpa using HS.out.lo)⟩
  · have HV : Hid (markP s v = endP (lonelyP s)) := Lib.hid (if_neg hm)
    have C1 := Lib.hid (plonely_any B b i s w h (hN.mono (by omega)))
    have n1 := few_lonely hN
    obtain ⟨q, hq⟩ : ∃ q, s.waiting = q := ⟨_, rfl⟩
    rw [hq] at c5 hm
    clear h hN hq
    cases q with
    | false =>
      clear hm
      go_enter Tryz.func51, Tryz.ntmps51
      go_wp2_with fail
      refine C1.out.mono ?_
      rintro e w1 ⟨rfl, hs1, hf1⟩
      have C2 := Lib.hid (pend_any B b i _ w1 hs1 (n1.mono (by omega)))
      clear hs1 c2 c3 c4 c5 x2
      go_wp2_with fail
      refine C2.out.mono ?_
      rintro e w2 ⟨rfl, hs2, hf2⟩
      go_wp2
      (first | go_end0 | refine bodyPost_ret (results_none rfl _ _ _) rfl ?_)
      exact ⟨rfl, by rw [HV.out]; exact hs2, frp_trans hf1 hf2⟩
    | true =>
      have h8 : v < 8 := by simp at hm; omega
      clear hm
      go_enter Tryz.func51, Tryz.ntmps51
      go_wp2_with fail
      refine C1.out.mono ?_
      rintro e w1 ⟨rfl, hs1, hf1⟩
      have C2 := Lib.hid (pend_any B b i _ w1 hs1 (n1.mono (by omega)))
      clear hs1 c2 c3 c4 c5 x2
      go_wp2_with fail
      refine C2.out.mono ?_
      rintro e w2 ⟨rfl, hs2, hf2⟩
      go_wp2
      (first | go_end0 | refine bodyPost_ret (results_none rfl _ _ _) rfl ?_)
      exact ⟨rfl, by rw [HV.out]; exact hs2, frp_trans hf1 hf2⟩

set_option maxHeartbeats 4000000 in
set_option maxRecDepth 100000 in
theorem pbad_any (B b : Nat) (i v : Int) (s : RdP) (w : World) (h : RdS w B b i s) (hN : FewP 100000 s) :
    Calls Tryz.prog 53 #[.pointer (some ⟨b, 0, none⟩), .int .i64 v] w fun e w' => e = .returned (.tuple #[]) ∧ RdS w' B b i (badP s i) ∧ FrP B b w w' := by
  have C1 := Lib.hid (plonely_any B b i s w h (hN.mono (by omega)))
  have n1 := few_lonely hN
  have HV : Hid (badP s i = if (lonelyP s).within then faultP (lonelyP s) i 2 else lonelyP s) := Lib.hid rfl
  obtain ⟨q, hq⟩ : ∃ q, (lonelyP s).within = q := ⟨_, rfl⟩
  clear h hN
  cases q with
  | true =>
    rw [hq, if_pos rfl] at HV
    go_enter Tryz.func53, Tryz.ntmps53
    go_wp2_with fail
    refine C1.out.mono ?_
    rintro e w1 ⟨rfl, hs1, hf1⟩
    have C3 := Lib.hid (pfault_any B b i i 2 _ w1 hs1 (n1.mono (by omega)))
    obtain ⟨c2, c3, c4, c5, x2, x3, x4, x5, x6⟩ := hs1.facts
    rw [hq] at c4
    clear hs1 C1 hq
    go_wp2_with fail
    refine C3.out.mono ?_
    rintro e w3 ⟨rfl, hs3, hf3⟩
    go_wp2
    (first | go_end0 | refine bodyPost_ret (results_none rfl _ _ _) rfl ?_)
    exact ⟨rfl, by rw [HV.out]; exact hs3, frp_trans hf1 hf3⟩
  | false =>
    rw [hq, if_neg (by decide)] at HV
    go_enter Tryz.func53, Tryz.ntmps53
    go_wp2_with fail
    refine C1.out.mono ?_
    rintro e w1 ⟨rfl, hs1, hf1⟩
    obtain ⟨c2, c3, c4, c5, x2, x3, x4, x5, x6⟩ := hs1.facts
    rw [hq] at c4
    have HS := Lib.hid hs1
    clear hs1 C1 hq
    go_wp2
    (first | go_end0 | refine bodyPost_ret (results_none rfl _ _ _) rfl ?_)
    exact ⟨rfl, by rw [HV.out]; exact HS.out, hf1⟩

set_option maxHeartbeats 4000000 in
set_option maxRecDepth 100000 in
theorem pidle_any (B b : Nat) (i v : Int) (s : RdP) (w : World) (h : RdS w B b i s) (hN : FewP 100000 s) :
    Calls Tryz.prog 54 #[.pointer (some ⟨b, 0, none⟩), .int .i64 v] w fun e w' => e = .returned (.tuple #[]) ∧ RdS w' B b i (idleP s v) ∧ FrP B b w w' := by
  have C1 := Lib.hid (plonely_any B b i s w h (hN.mono (by omega)))
  have n1 := few_lonely hN
  have HV : Hid (idleP s v = if 1000000 ≤ v then endP (lonelyP s) else lonelyP s) := Lib.hid rfl
  clear h hN
  by_cases hv : 1000000 ≤ v
  · rw [if_pos hv] at HV
    go_enter Tryz.func54, Tryz.ntmps54
    go_wp2_with fail
    refine C1.out.mono ?_
    rintro e w1 ⟨rfl, hs1, hf1⟩
    have C2 := Lib.hid (pend_any B b i _ w1 hs1 (n1.mono (by omega)))
    clear hs1
    go_wp2_with fail
    refine C2.out.mono ?_
    rintro e w2 ⟨rfl, hs2, hf2⟩
    go_wp2
    (first | go_end0 | refine bodyPost_ret (results_none rfl _ _ _) rfl ?_)
    exact ⟨rfl, by rw [HV.out]; exact hs2, frp_trans hf1 hf2⟩
  · rw [if_neg hv] at HV
    go_enter Tryz.func54, Tryz.ntmps54
    go_wp2_with fail
    refine C1.out.mono ?_
    rintro e w1 ⟨rfl, hs1, hf1⟩
    go_wp2
    (first | go_end0 | refine bodyPost_ret (results_none rfl _ _ _) rfl ?_)
    exact ⟨rfl, by rw [HV.out]; exact hs1, hf1⟩

set_option maxHeartbeats 4000000 in
set_option maxRecDepth 100000 in
theorem pdata_any (B b : Nat) (i v : Int) (s : RdP) (w : World) (h : RdS w B b i s) (hN : FewP 100000 s) (q0 : 0 ≤ v) (q1 : v ≤ 255) :
    Calls Tryz.prog 52 #[.pointer (some ⟨b, 0, none⟩), .int .i64 v] w fun e w' => e = .returned (.tuple #[]) ∧ RdS w' B b i (dataP s i v) ∧ FrP B b w w' := by
  obtain ⟨i0, hi, hz0, hz1, hz2⟩ := info_parts Tryz.info_byte
  have C1 := Lib.hid (plonely_any B b i s w h (hN.mono (by omega)))
  have n1 := few_lonely hN
  have HV : Hid (dataP s i v = if (lonelyP s).within = false then lonelyP s else if 512 < (lonelyP s).bytes.length then faultP (lonelyP s) i 3 else { lonelyP s with bytes := (lonelyP s).bytes ++ [UInt8.ofNat (v % 256).toNat] }) := Lib.hid rfl
  have hu8 : IntKind.u8.wrap v = v := IntWalk.u8_in v (by omega)
  have hb8 : ((UInt8.ofNat (v % 256).toNat).toNat : Int) = v := by simp; omega
  generalize UInt8.ofNat (v % 256).toNat = x at HV hb8
  have HB8 := Lib.hid hb8
  clear h hN hb8
  generalize lonelyP s = t at C1 n1 HV
  obtain ⟨pk, fs, sn, wi, wa, by_⟩ := t
  have hby := n1.bytes
  simp only at hby HV
  cases wi with
  | false =>
    rw [if_pos rfl] at HV
    go_enter Tryz.func52, Tryz.ntmps52
    go_wp2_with fail
    refine C1.out.mono ?_
    rintro e w1 ⟨rfl, hs1, hf1⟩
    obtain ⟨c2, c3, c4, c5, x2, x3, x4, x5, x6⟩ := hs1.facts
    have HS := Lib.hid hs1
    clear hs1 C1
    go_wp2
    (first | go_end0 | refine bodyPost_ret (results_none rfl _ _ _) rfl ?_)
    exact ⟨rfl, by rw [HV.out]; exact HS.out, hf1⟩
  | true =>
    rw [if_neg (by decide)] at HV
    by_cases hbig : 512 < by_.length
    · rw [if_pos hbig] at HV
      have hbig2 : (512 : Int) < (by_.length : Int) := by omega
      go_enter Tryz.func52, Tryz.ntmps52
      go_wp2_with fail
      refine C1.out.mono ?_
      rintro e w1 ⟨rfl, hs1, hf1⟩
      have C3 := Lib.hid (pfault_any B b i i 3 _ w1 hs1 (n1.mono (by omega)))
      obtain ⟨c2, c3, c4, c5, x2, x3, x4, x5, x6⟩ := hs1.facts
      obtain ⟨⟨v1, v2, v3, hr, o1, o2, o3⟩, hl⟩ := hs1
      have c6 : w1.cell? ⟨b, 6, none⟩ = some v3 := cell_fact hr 6
      obtain ⟨ad, cap, rfl⟩ := OwnB.shape o3
      clear hr o1 o2 o3 C1
      go_wp2_with fail
      refine C3.out.mono ?_
      rintro e w3 ⟨rfl, hs3, hf3⟩
      go_wp2
      (first | go_end0 | refine bodyPost_ret (results_none rfl _ _ _) rfl ?_)
      exact ⟨rfl, by rw [HV.out]; exact hs3, frp_trans hf1 hf3⟩
    · rw [if_neg hbig] at HV
      have hbig2 : (by_.length : Int) ≤ 512 := by omega
      go_enter Tryz.func52, Tryz.ntmps52
      go_wp2_with fail
      refine C1.out.mono ?_
      rintro e w1 ⟨rfl, hs1, hf1⟩
      obtain ⟨c2, c3, c4, c5, x2, x3, x4, x5, x6⟩ := hs1.facts
      obtain ⟨⟨v1, v2, v3, hr, o1, o2, o3⟩, hl⟩ := hs1
      have c6 : w1.cell? ⟨b, 6, none⟩ = some v3 := cell_fact hr 6
      obtain ⟨ad, cap, rfl⟩ := OwnB.shape o3
      have hb1 : Below w1.heap.size w1 (w1.alloc (.cells #[.int .u8 v] 5)) := (Below.refl _ _).alloc (Nat.le_refl _) _
      have own1 := own_run o3 hb1
      have hnew : RowAt (w1.alloc (.cells #[.int .u8 v] 5)) w1.heap.size 5 #[.int .u8 v] := RowAt.new _ _ _
      have P := Lib.hid (And.intro (own_run o1 hb1) (And.intro (own_run o2 hb1) (hr.run hb1)))
      have F1 := Lib.hid (frp_run hf1 hb1 hl.2)
      have hl1 := hl.1
      have hl2 := hl.2
      clear hr o1 o2 o3 C1 hb1 hf1 hl
      go_wp2_with (at_builtin; refine wpList_append_own _ rfl (.tmp 10) (.tmp 13) 73 rfl B 5 i0 _ 1 1 Tryz.underlying73 hi hz0 hz1 hz2 rfl (by decide) _ _ _ rfl own1 ⟨w1.heap.size, 0, none⟩ 1 1 [.int .u8 v] rfl rfl ?c1 ?c2 ?c3 ?c4 ?c5 ?_)
      case c1 => exact gen_news hnew
      case c2 => intro u hu; simp at hu; subst hu; rfl
      case c3 => unfold maxLen; omega
      case c4 => omega
      case c5 => simp; omega
      · intro v' w2 hown2 hgrow _
        obtain ⟨p1, p2, hr1⟩ := P.out
        have hr2 := row_two own1 hr1 (by decide) hgrow
        have q1 := own_two own1 p1 (by decide) hgrow
        have q2 := own_two own1 p2 (by decide) hgrow
        have F2 := Lib.hid (frp_grown F1.out own1 (by simp; omega) hgrow)
        have hBz := hgrow.size
        simp at hBz
        obtain ⟨av, kv, cv, rfl⟩ : ∃ a k c, v' = .slice a k c := by
          rcases hown2.2 with ⟨rfl, _⟩ | ⟨g, cap, cur, rfl, _⟩
          · exact ⟨_, _, _, rfl⟩
          · exact ⟨_, _, _, rfl⟩
        obtain ⟨y1, y2, y3, y4, y5, y6⟩ := row_facts hr2
        have Q := Lib.hid (And.intro q1 (And.intro q2 (And.intro hown2 hr2)))
        have d6 : w2.cell? ⟨b, 6, none⟩ = some (.slice ad by_.length cap) := cell_fact hr2 6
        clear y1 hr2 q1 q2 hown2 hgrow p1 p2 hr1 own1 hnew c2 c3 c4 c5 c6 x2 x3 x4 x5 x6
        go_wp2
        (first | go_end0 | refine bodyPost_ret (results_none rfl _ _ _) rfl ?_)
        obtain ⟨q1, q2, q3, hr2⟩ := Q.out
        have hu : Upd b w2 (w2.setCell ⟨b, 6, none⟩ (.slice av kv cv)) := upd_set (upd_refl _ _) _ _
        refine ⟨rfl, ?_, frp_upd F2.out hu (by omega)⟩
        rw [HV.out]
        refine ⟨⟨v1, v2, .slice av kv cv, RowAt.set hr2 rfl, own_upd q1 hr2 (by decide) hu, own_upd q2 hr2 (by decide) hu, ?_⟩, hl1, by simp; omega⟩
        have q := own_upd q3 hr2 (by decide) hu
        show World.ownsRow _ B _ 1 _ (by_ ++ [x]).length (u8L (by_ ++ [x]))
        rw [List.length_append, u8L, List.map_append, List.map_cons, HB8.out]
        exact q
end Go.Proofs.YtpkhcehddfmhpaaGreat

namespace Go.Proofs.YtpkhcehddfmhpaaGreat
open Go.RowKit

theorem RdS.drew {w : World} {B b : Nat} {i : Int} {s : RdP} (h : RdS w B b i s) : RdS w.drew B b i s := ⟨h.ex, h.low⟩
theorem frp_drew {B b : Nat} {a w : World} (h : FrP B b a w) : FrP B b a w.drew := ⟨h.os, h.tape, h.output, h.size, h.block⟩
theorem frp_drewN {B b : Nat} {a w : World} (h : FrP B b a w) (n : Nat) : FrP B b a (w.drewN n) := ⟨h.os, h.tape, h.output, h.size, h.block⟩
theorem below_frp {n B b : Nat} {a w : World} (h : FrP B b a w) (hb : n ≤ b) (hB : n ≤ B) : Below n a w := ⟨h.os, h.tape, h.output, h.size, fun k hk => h.block k (by omega) (by omega)⟩
theorem row_frp {B b k T : Nat} {a w : World} {cs : Array Value} (h : FrP B b a w) (hr : RowAt a k T cs) (hk : k < B) (hne : k ≠ b) : RowAt w k T cs := (h.block k hk hne).trans hr
theorem run_snoc (a : List (Int × Int)) (x : Int × Int) (s : RdP) (i : Nat) : runP s i (a ++ [x]) = stepP (runP s i a) ((i + a.length : Nat) : Int) x := by
  rw [runP_append]
  rfl
theorem few_run : ∀ (l : List (Int × Int)) (s : RdP) (i N : Nat), FewP N s → FewP (N + 3 * l.length) (runP s i l)
  | [], s, _, N, h => h
  | x :: l, s, i, N, h => (few_run l _ (i + 1) (N + 3) (few_step h i x)).mono (by simp; omega)
theorem few_start : FewP 0 startP := ⟨Nat.le_refl _, Nat.le_refl _, by decide⟩

/-- The function for a symbol. -/
def fnP (x : Int) : Nat := if x = 0 then 50 else if x = 1 then 51 else if x = 2 then 52 else if x = 3 then 53 else 54
theorem pstep_any (B b : Nat) (i : Int) (x : Int × Int) (s : RdP) (w : World) (h : RdS w B b i s) (hN : FewP 100000 s) (hx : okS x) :
    Calls Tryz.prog (fnP x.1) #[.pointer (some ⟨b, 0, none⟩), .int .i64 x.2] w fun e w' => e = .returned (.tuple #[]) ∧ RdS w' B b i (stepP s i x) ∧ FrP B b w w' := by
  obtain ⟨k, v⟩ := x
  rcases hx with ⟨rfl | rfl | rfl, h1, h2⟩ | ⟨rfl | rfl, h1, h2⟩
  · exact plow_any B b i v s w h hN
  · exact pmark_any B b i v s w h hN
  · exact pidle_any B b i v s w h hN
  · exact pdata_any B b i v s w h hN h1 h2
  · exact pbad_any B b i v s w h hN

/-- The five functions of a reader. -/
def stepsA (b : Nat) : Array Value := #[.func (.func 50) #[.pointer (some ⟨b, 0, none⟩)] #[], .func (.func 51) #[.pointer (some ⟨b, 0, none⟩)] #[], .func (.func 52) #[.pointer (some ⟨b, 0, none⟩)] #[], .func (.func 53) #[.pointer (some ⟨b, 0, none⟩)] #[], .func (.func 54) #[.pointer (some ⟨b, 0, none⟩)] #[]]

set_option maxHeartbeats 8000000 in
set_option maxRecDepth 100000 in
theorem decode_any (v : Value) (l : List (Int × Int)) (w : World) (hv : PrsAt w v l) (hl : l.length ≤ 2000) (h0 : 0 < l.length) (ho : ∀ x ∈ l, okS x) :
    Calls Tryz.prog 15 #[v] w fun e w' => ∃ v1 v2, e = .returned (.tuple #[v1, v2, .int .i64 0]) ∧ PktsAt w' v1 (decP l).packets ∧ PrsAt w' v2 (decP l).faults ∧ Below w.heap.size w w' := by
  have C1 := Lib.hid (symbols_any v l w hv (by omega) ho)
  have HO := Lib.hid ho
  rcases hv with ⟨h1, a, cap, rfl⟩ | ⟨_, _, b0, off, cap, rfl, hlt, hc⟩
  · omega
  have HC := Lib.hid hc
  have hl1 : (l.length : Int) ≤ 2000 := by omega
  clear ho hc
  go_enter Tryz.func15, Tryz.ntmps15
  go_wp2_with fail
  refine C1.out.mono ?_
  rintro e w1 ⟨rfl, hb1⟩
  have hz1 := hb1.size
  have HB1 := Lib.hid hb1
  clear hb1 C1
  go_upto_region 6 with fail
  have hs0 : RdS (((w1.alloc (.cells #[.slice none 0 0, .slice none 0 0, .int .i64 0, .int .i64 0, .bool false, .bool false, .slice none 0 0] 123)).alloc (.cells (stepsA w1.heap.size) 125))) (w1.heap.size + 2) w1.heap.size 0 startP :=
    ⟨⟨.slice none 0 0, .slice none 0 0, .slice none 0 0, (RowAt.new _ _ _).alloc _, World.ownsRow_nil _ _ _ _, World.ownsRow_nil _ _ _ _, World.ownsRow_nil _ _ _ _⟩, by omega, by simp⟩
  have ha0 : RowAt (((w1.alloc (.cells #[.slice none 0 0, .slice none 0 0, .int .i64 0, .int .i64 0, .bool false, .bool false, .slice none 0 0] 123)).alloc (.cells (stepsA w1.heap.size) 125))) (w1.heap.size + 1) 125 (stepsA w1.heap.size) := RowAt.mk (by simp) rfl
  have hb0 : Below w.heap.size w (((w1.alloc (.cells #[.slice none 0 0, .slice none 0 0, .int .i64 0, .int .i64 0, .bool false, .bool false, .slice none 0 0] 123)).alloc (.cells (stepsA w1.heap.size) 125))) := (HB1.out.alloc hz1 _).alloc (by simp; omega) _
  change Code.wp _ _ _ _ (((w1.alloc (.cells #[.slice none 0 0, .slice none 0 0, .int .i64 0, .int .i64 0, .bool false, .bool false, .slice none 0 0] 123)).alloc (.cells (stepsA w1.heap.size) 125)))
  generalize ((w1.alloc (.cells #[.slice none 0 0, .slice none 0 0, .int .i64 0, .int .i64 0, .bool false, .bool false, .slice none 0 0] 123)).alloc (.cells (stepsA w1.heap.size) 125)) = W0 at hs0 ha0 hb0 ⊢
  generalize w1.heap.size = b at hs0 ha0 hb0 hz1 ⊢
  have HS0 := Lib.hid hs0
  have HA0 := Lib.hid ha0
  have HB0 := Lib.hid hb0
  clear hs0 ha0 hb0 HB1
  go_wp2_with fail
  go_loopw [8, 9, 30] (fun _ _ i wr => ∃ k : Nat, k ≤ l.length ∧ i = .int .i64 k ∧ (∃ j, RdS wr (b + 2) b j (runP startP 0 (l.take k))) ∧ FrP (b + 2) b W0 wr) (fun _ _ i _ => l.length - (intOf i).toNat)
  case atStart => exact ⟨0, Nat.zero_le _, rfl, ⟨0, HS0.out⟩, frp_refl _ _ _⟩
  case round =>
    rename World => wr
    obtain ⟨k, hk, rfl, ⟨j, hs⟩, hfr⟩ := hrel
    have hfew : FewP 100000 (runP startP 0 (l.take k)) := (few_run (l.take k) startP 0 0 few_start).mono (by rw [List.length_take]; omega)
    by_cases hlt2 : k < l.length
    · have hlt3 : (k : Int) < (l.length : Int) := by omega
      have hk0 : (0 : Int) ≤ (k : Int) := by omega
      have hbw : Below w.heap.size w wr := HB0.out.trans (below_frp hfr hz1 (by omega))
      have hc' : ∀ i, i < l.length * 2 → wr.cell? ⟨b0, off + i, none⟩ = genC 2 prA l i := fun i hi => (hbw.cell (p := ⟨b0, off + i, none⟩) hlt).trans (HC.out i hi)
      obtain ⟨e1, e2⟩ := pr_cells hc' k hlt2
      have hx := HO.out l[k] (List.getElem_mem hlt2)
      have hsn : runP startP 0 (l.take (k + 1)) = stepP (runP startP 0 (l.take k)) k l[k] := by
        rw [List.take_succ_eq_append_getElem hlt2, run_snoc, Nat.zero_add, List.length_take, Nat.min_eq_left (by omega)]
      have ha := row_frp hfr HA0.out (by omega) (by omega)
      obtain ⟨a1, a2, a3, a4, a5, a6⟩ := row_facts ha
      unfold stepsA at a1
      obtain ⟨c2, c3, c4, c5, x2, x3, x4, x5, x6⟩ := hs.facts
      have hsz := hbw.size
      have hlow := hs.lo
      generalize runP startP 0 (l.take k) = s at hs hfew hsn
      obtain ⟨⟨x, y⟩, hxy⟩ : ∃ p, l[k] = p := ⟨_, rfl⟩
      rw [hxy] at hx hsn e1 e2
      have hb2 : Below wr.heap.size wr (wr.alloc (.cells #[.int .i64 x, .int .i64 y] 69)) := (Below.refl _ _).alloc (Nat.le_refl _) _
      have hsW := (hs.run hb2).at (k : Int)
      obtain ⟨W, hW⟩ : ∃ W, (wr.alloc (.cells #[.int .i64 x, .int .i64 y] 69)).setCell ⟨b, 2, none⟩ (.int .i64 (k : Int)) = W := ⟨_, rfl⟩
      have hfW : FrP (b + 2) b W0 W := by
        rw [← hW]
        exact frp_set (frp_run hfr hb2 hlow) _ _ (by simp; omega)
      have hxW : RowAt W wr.heap.size 69 #[.int .i64 x, .int .i64 y] := by
        rw [← hW]
        exact (RowAt.new _ _ _).far (by simp; omega)
      have haW : RowAt W (b + 1) 125 (stepsA b) := by
        rw [← hW]
        exact (ha.alloc _).far (by simp)
      have X0 : W.cell? ⟨wr.heap.size, 0, none⟩ = some (.int .i64 x) := cell_fact hxW 0
      have X1 : W.cell? ⟨wr.heap.size, 1, none⟩ = some (.int .i64 y) := cell_fact hxW 1
      have Y0 : W.cell? ⟨b + 1, 0, none⟩ = some (.func (.func 50) #[.pointer (some ⟨b, 0, none⟩)] #[]) := cell_fact haW 0
      have Y1 : W.cell? ⟨b + 1, 1, none⟩ = some (.func (.func 51) #[.pointer (some ⟨b, 0, none⟩)] #[]) := cell_fact haW 1
      have Y2 : W.cell? ⟨b + 1, 2, none⟩ = some (.func (.func 52) #[.pointer (some ⟨b, 0, none⟩)] #[]) := cell_fact haW 2
      have Y3 : W.cell? ⟨b + 1, 3, none⟩ = some (.func (.func 53) #[.pointer (some ⟨b, 0, none⟩)] #[]) := cell_fact haW 3
      have Y4 : W.cell? ⟨b + 1, 4, none⟩ = some (.func (.func 54) #[.pointer (some ⟨b, 0, none⟩)] #[]) := cell_fact haW 4
      rw [hW] at hsW
      have HF : Hid (∀ p, runP startP 0 (l.take (k + 1)) = stepP s k p → ∀ w', RdS w' (b + 2) b k (stepP s k p) → FrP (b + 2) b W.drew w' → ((∃ j, RdS w' (b + 2) b j (runP startP 0 (l.take (k + 1)))) ∧ FrP (b + 2) b W0 w')) := Lib.hid (fun p hp w' h g => ⟨⟨k, by rw [hp]; exact h⟩, frp_trans (frp_drew hfW) g⟩)
      have HT := Lib.hid hsn
      have hfw := hfew
      clear hxW haW hc' hxy hs hfr hfW hbw hsn hb2 ha hfew
      unfold okS at hx
      simp only at hx
      have hx' : x = 0 ∨ x = 1 ∨ x = 2 ∨ x = 3 ∨ x = 4 := by omega
      rcases hx with ⟨rfl | rfl | rfl, h1, h2⟩ | ⟨rfl | rfl, h1, h2⟩
      · have C : Hid (Calls Tryz.prog 50 #[.pointer (some ⟨b, 0, none⟩), .int .i64 y] W.drew fun e w' => e = .returned (.tuple #[]) ∧ RdS w' (b + 2) b k (stepP s k (0, y)) ∧ FrP (b + 2) b W.drew w') := Lib.hid (pstep_any (b + 2) b k (0, y) s W.drew hsW.drew hfw (.inl ⟨by simp, h1, h2⟩))
        have HK := Lib.hid (fun w' (h : RdS w' (b + 2) b k (stepP s k (0, y))) (g : FrP (b + 2) b W.drew w') => HF.out (0, y) HT.out w' h g)
        clear hsW hfw
        go_wp2_with fail
        (try rw [hW])
        go_still_tail 6, (by kernel_rfl)
        change wpList _ _ _ _ _ W.drew
        go_wp2_with fail
        refine C.out.mono ?_
        rintro e w3 ⟨rfl, hs3, hf3⟩
        have HH := Lib.hid (HK.out w3 hs3 hf3)
        clear hs3 hf3 C HK HF HT X0 X1 Y0 Y1 Y2 Y3 Y4
        go_wp2
        go_roundw
        case rel => exact ⟨k + 1, by omega, by go_num, HH.out.1, HH.out.2⟩
        case measure => simp [intOf]; omega
      · have C : Hid (Calls Tryz.prog 51 #[.pointer (some ⟨b, 0, none⟩), .int .i64 y] W.drew fun e w' => e = .returned (.tuple #[]) ∧ RdS w' (b + 2) b k (stepP s k (1, y)) ∧ FrP (b + 2) b W.drew w') := Lib.hid (pstep_any (b + 2) b k (1, y) s W.drew hsW.drew hfw (.inl ⟨by simp, h1, h2⟩))
        have HK := Lib.hid (fun w' (h : RdS w' (b + 2) b k (stepP s k (1, y))) (g : FrP (b + 2) b W.drew w') => HF.out (1, y) HT.out w' h g)
        clear hsW hfw
        go_wp2_with fail
        (try rw [hW])
        go_still_tail 6, (by kernel_rfl)
        change wpList _ _ _ _ _ W.drew
        go_wp2_with fail
        refine C.out.mono ?_
        rintro e w3 ⟨rfl, hs3, hf3⟩
        have HH := Lib.hid (HK.out w3 hs3 hf3)
        clear hs3 hf3 C HK HF HT X0 X1 Y0 Y1 Y2 Y3 Y4
        go_wp2
        go_roundw
        case rel => exact ⟨k + 1, by omega, by go_num, HH.out.1, HH.out.2⟩
        case measure => simp [intOf]; omega
      · have C : Hid (Calls Tryz.prog 54 #[.pointer (some ⟨b, 0, none⟩), .int .i64 y] W.drew fun e w' => e = .returned (.tuple #[]) ∧ RdS w' (b + 2) b k (stepP s k (4, y)) ∧ FrP (b + 2) b W.drew w') := Lib.hid (pstep_any (b + 2) b k (4, y) s W.drew hsW.drew hfw (.inl ⟨by simp, h1, h2⟩))
        have HK := Lib.hid (fun w' (h : RdS w' (b + 2) b k (stepP s k (4, y))) (g : FrP (b + 2) b W.drew w') => HF.out (4, y) HT.out w' h g)
        clear hsW hfw
        go_wp2_with fail
        (try rw [hW])
        go_still_tail 6, (by kernel_rfl)
        change wpList _ _ _ _ _ W.drew
        go_wp2_with fail
        refine C.out.mono ?_
        rintro e w3 ⟨rfl, hs3, hf3⟩
        have HH := Lib.hid (HK.out w3 hs3 hf3)
        clear hs3 hf3 C HK HF HT X0 X1 Y0 Y1 Y2 Y3 Y4
        go_wp2
        go_roundw
        case rel => exact ⟨k + 1, by omega, by go_num, HH.out.1, HH.out.2⟩
        case measure => simp [intOf]; omega
      · have C : Hid (Calls Tryz.prog 52 #[.pointer (some ⟨b, 0, none⟩), .int .i64 y] W.drew fun e w' => e = .returned (.tuple #[]) ∧ RdS w' (b + 2) b k (stepP s k (2, y)) ∧ FrP (b + 2) b W.drew w') := Lib.hid (pstep_any (b + 2) b k (2, y) s W.drew hsW.drew hfw (.inr ⟨by simp, h1, h2⟩))
        have HK := Lib.hid (fun w' (h : RdS w' (b + 2) b k (stepP s k (2, y))) (g : FrP (b + 2) b W.drew w') => HF.out (2, y) HT.out w' h g)
        clear hsW hfw
        go_wp2_with fail
        (try rw [hW])
        go_still_tail 6, (by kernel_rfl)
        change wpList _ _ _ _ _ W.drew
        go_wp2_with fail
        refine C.out.mono ?_
        rintro e w3 ⟨rfl, hs3, hf3⟩
        have HH := Lib.hid (HK.out w3 hs3 hf3)
        clear hs3 hf3 C HK HF HT X0 X1 Y0 Y1 Y2 Y3 Y4
        go_wp2
        go_roundw
        case rel => exact ⟨k + 1, by omega, by go_num, HH.out.1, HH.out.2⟩
        case measure => simp [intOf]; omega
      · have C : Hid (Calls Tryz.prog 53 #[.pointer (some ⟨b, 0, none⟩), .int .i64 y] W.drew fun e w' => e = .returned (.tuple #[]) ∧ RdS w' (b + 2) b k (stepP s k (3, y)) ∧ FrP (b + 2) b W.drew w') := Lib.hid (pstep_any (b + 2) b k (3, y) s W.drew hsW.drew hfw (.inr ⟨by simp, h1, h2⟩))
        have HK := Lib.hid (fun w' (h : RdS w' (b + 2) b k (stepP s k (3, y))) (g : FrP (b + 2) b W.drew w') => HF.out (3, y) HT.out w' h g)
        clear hsW hfw
        go_wp2_with fail
        (try rw [hW])
        go_still_tail 6, (by kernel_rfl)
        change wpList _ _ _ _ _ W.drew
        go_wp2_with fail
        refine C.out.mono ?_
        rintro e w3 ⟨rfl, hs3, hf3⟩
        have HH := Lib.hid (HK.out w3 hs3 hf3)
        clear hs3 hf3 C HK HF HT X0 X1 Y0 Y1 Y2 Y3 Y4
        go_wp2
        go_roundw
        case rel => exact ⟨k + 1, by omega, by go_num, HH.out.1, HH.out.2⟩
        case measure => simp [intOf]; omega
    · have hlt3 : ¬ (k : Int) < (l.length : Int) := by omega
      obtain rfl : k = l.length := by omega
      rw [List.take_length] at hs hfew
      have C1 := Lib.hid (plonely_any (b + 2) b j _ wr hs (hfew.mono (by omega)))
      have n1 := few_lonely hfew
      have HFR := Lib.hid hfr
      clear hs hfr hfew
      go_wp2_with fail
      refine C1.out.mono ?_
      rintro e w2 ⟨rfl, hs2, hf2⟩
      have C2 := Lib.hid (pend_any (b + 2) b j _ w2 hs2 (n1.mono (by omega)))
      clear hs2 C1
      go_wp2_with fail
      refine C2.out.mono ?_
      rintro e w3 ⟨rfl, hs3, hf3⟩
      obtain ⟨⟨v1, v2, v3, hr, o1, o2, o3⟩, _⟩ := hs3
      have d0 : w3.cell? ⟨b, 0, none⟩ = some v1 := cell_fact hr 0
      have d1 : w3.cell? ⟨b, 1, none⟩ = some v2 := cell_fact hr 1
      obtain ⟨_, y2, y3, y4, y5, y6⟩ := row_facts hr
      have HF3 := Lib.hid (frp_trans HFR.out (frp_trans hf2 hf3))
      have h4 := few_end n1
      have L1 := Lib.hid (own_list (by decide) pktA_size o1 (by have := h4.packets; omega))
      have L2 := Lib.hid (own_list (by decide) prA_size o2 (by have := h4.faults; omega))
      clear hr o1 o2 o3 hf2 hf3 C2 h4 n1
      go_wp2_with fail
      go_quiet (fail)
      go_wp2
      refine bodyPost_ret (v := .tuple #[v1, v2, .int .i64 0]) ?_ rfl ⟨v1, v2, rfl, ?_, ?_, ?_⟩
      · simp [results, Tryz.results15, go_sem]
      · exact L1.out
      · exact L2.out
      · exact HB0.out.trans (below_frp (frp_drewN HF3.out _) hz1 (by omega))
end Go.Proofs.YtpkhcehddfmhpaaGreat
