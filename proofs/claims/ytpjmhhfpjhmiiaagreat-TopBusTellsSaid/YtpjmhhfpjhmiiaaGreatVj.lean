/-
  What a search of a range leaves: plain laws for right devices.
  What finding all devices leaves: plain laws.
  What TopBusTells says of what All and Ask return, in plain words.
  The library's IndexFunc with TopBusTells's function, and Equal, on lists of devices.
  The walk of TopBusTells.
-/
import Derived.Test.YtpjmhhfpjhmiiaaGreatSf
import Derived.Test.YtpjmhhfpjhmiiaaGreatAk
import Derived.Test.YtpjmhhfpjhmiiaaGreatQx
import Derived.Test.YtpjmhhfpjhmiiaaGreatQt
import Derived.Test.YtpjmhhfpjhmiiaaGreatVc
import Derived.Test.YtpjmhhfpjhmiiaaGreatTopW
namespace Go.Proofs.YtpjmhhfpjhmiiaaGreat
open Go.RowKit

/-- Right devices, and few. -/
def rightD (l : List Dev) : Bool := decide (l.length ≤ 8) && (decide (l.length ≤ 128) && l.all fun d => decide (d.lb.size ≤ 100)) && decide (devsE l = 0)
theorem rightD_spec {l : List Dev} (h : rightD l = true) : l.length ≤ 8 ∧ (∀ d ∈ l, d.lb.size ≤ 9223372036854775807) ∧ devsE l = 0 := by
  simp only [rightD, Bool.and_eq_true, decide_eq_true_eq, List.all_eq_true] at h
  exact ⟨h.1.1, fun d hd => by have := h.1.2.2 d hd; omega, h.2⟩

theorem right_ids {l : List Dev} (h : devsE l = 0) : (∀ d ∈ l, isId d.id = true) ∧ (l.map (·.id)).Nodup := by
  have := devs_few h
  refine ⟨fun d hd => isId_of_chk d (devs_chk h d hd), ?_⟩
  rw [devsE, if_neg (by omega)] at h
  exact (devs_nodup h).1
theorem fit_start {l : List Dev} {seq : Int} (h : devsE l = 0) (q0 : 0 ≤ seq) (q1 : seq ≤ 255) : Fit (startS l seq) := by
  obtain ⟨a, b⟩ := right_ids h
  exact ⟨a, b, fun d _ _ e => (by cases e), q0, q1⟩

/-- How many devices are among some identities. -/
theorem count_one {x : Int} : ∀ {ids : List Int}, ids.Nodup → x ∈ ids → (ids.filter fun y => decide (y = x)).length = 1
  | [], _, h => (by cases h)
  | a :: l, hn, h => by
    rw [List.nodup_cons] at hn
    rw [List.filter_cons]
    by_cases e : a = x
    · subst e
      have : (l.filter fun y => decide (y = a)) = [] := by
        rw [List.filter_eq_nil_iff]
        intro y hy
        simp only [decide_eq_true_eq]
        rintro rfl
        exact hn.1 hy
      rw [this]
      simp
    · have h2 : x ∈ l := by
        rcases List.mem_cons.1 h with h | h
        · exact absurd h.symm e
        · exact h
      rw [if_neg (by simpa using e)]
      exact count_one hn.2 h2
theorem count_in {ids : List Int} (hn : ids.Nodup) : ∀ {xs : List Int}, xs.Nodup → (∀ x ∈ xs, x ∈ ids) → (ids.filter fun y => decide (y ∈ xs)).length = xs.length
  | [], _, _ => by simp
  | x :: xs, h, hs => by
    rw [List.nodup_cons] at h
    have ih := count_in hn h.2 fun y hy => hs y (List.mem_cons_of_mem _ hy)
    have h1 := count_one hn (hs x (List.mem_cons_self ..))
    have key : ∀ l : List Int, (l.filter fun y => (decide (y = x) || decide (y ∈ xs))).length = (l.filter fun y => decide (y = x)).length + (l.filter fun y => decide (y ∈ xs)).length := by
      intro l
      induction l with
      | nil => rfl
      | cons a l ihl =>
        simp only [List.filter_cons]
        by_cases e : a = x
        · subst e
          simp [h.1, ihl]
          omega
        · by_cases e2 : a ∈ xs
          · simp [e, e2, ihl]
            omega
          · simp [e, e2, ihl]
    have hf : (fun y => decide (y ∈ x :: xs)) = fun y => (decide (y = x) || decide (y ∈ xs)) := by
      funext y
      simp
    rw [hf, key, ih, h1, List.length_cons]
    omega
theorem count_devs {l : List Dev} (xs : List Int) : (l.filter fun d => decide (d.id ∈ xs)).length = ((l.map (·.id)).filter fun y => decide (y ∈ xs)).length := by
  rw [List.filter_map, List.length_map]
  rfl

/-- What the search of a range leaves. -/
structure Within (l : List Dev) (low high : Int) (u : SSt) (xs : List Int) : Prop where
  devs : u.devs = mutL xs l
  found : u.found = xs
  here : ∀ x ∈ xs, low ≤ x ∧ x ≤ high ∧ ∃ d ∈ l, d.id = x
  one : xs.Nodup
  quiet : loud low high (mutL xs l) = []
  few : xs.length ≤ l.length
theorem within_all {l : List Dev} {src seq low high : Int} (hd : devsE l = 0) (hs : isId src = true) (q0 : 0 ≤ seq) (q1 : seq ≤ 255) (h1 : isId low = true) (h2 : isId high = true) (hle : low ≤ high) :
    searchE l src seq low high = 0 ∧ ∃ xs, Within l low high (searchU l src seq low high) xs := by
  have hB : beginE l src seq = 0 := by rw [beginE, if_neg (not_not_intro hd), if_neg (by rw [hs]; simp; omega)]
  have hE : searchE l src seq low high = 0 := by rw [searchE, if_neg (not_not_intro hB), if_neg (by rw [h1, h2]; simp), if_neg (by omega)]
  refine ⟨hE, ?_⟩
  have a1 := isId_nat h1
  have a2 := isId_nat h2
  have hp : (2 : Int) ^ 48 = 281474976710656 := by decide
  obtain ⟨xs, r1, r2, -⟩ := search_out hs 48 low high (startS l seq) h1 h2 hle (by omega) (fit_start hd q0 q1)
  rw [searchU, if_pos hE]
  have e1 : (searchS src 48 low high (startS l seq)).devs = mutL xs l := r1.devs
  have e2 : (searchS src 48 low high (startS l seq)).found = xs := r1.found
  refine ⟨xs, e1, e2, r1.here, r1.one, by rw [← e1]; exact r2, ?_⟩
  have hc := count_in (right_ids hd).2 r1.one fun x hx => by
    obtain ⟨-, -, d, hm, he⟩ := r1.here x hx
    exact List.mem_map.2 ⟨d, hm, he⟩
  rw [← hc]
  refine Nat.le_trans (List.length_filter_le _ _) ?_
  simp

/-- One device of those behind. -/
def behind (xs : List Int) (d : Dev) : Dev := if d.id ∈ xs then { d with mu := true } else d
theorem mutL_at {xs : List Int} {l : List Dev} {k : Nat} {d : Dev} (h : l[k]? = some d) : (mutL xs l)[k]? = some (behind xs d) := by
  unfold mutL
  rw [List.getElem?_map, h]
  rfl
theorem mutL_length (xs : List Int) (l : List Dev) : (mutL xs l).length = l.length := List.length_map _
/-- The ways of one device. -/
theorem within_one {l : List Dev} {low high : Int} {u : SSt} {xs : List Int} (hw : Within l low high u xs) {d : Dev} (hd : d ∈ l) :
    (low ≤ d.id ∧ d.id ≤ high ∧ d.id ∈ xs ∧ (behind xs d).mu = true) ∨ (low ≤ d.id ∧ d.id ≤ high ∧ d.id ∉ xs ∧ d.mu = true ∧ behind xs d = d) ∨ (¬ (low ≤ d.id ∧ d.id ≤ high) ∧ d.id ∉ xs ∧ behind xs d = d) := by
  by_cases hx : d.id ∈ xs
  · obtain ⟨a, b, -⟩ := hw.here _ hx
    exact .inl ⟨a, b, hx, by rw [behind, if_pos hx]⟩
  · have hb : behind xs d = d := by rw [behind, if_neg hx]
    by_cases hi : low ≤ d.id ∧ d.id ≤ high
    · refine .inr (.inl ⟨hi.1, hi.2, hx, ?_, hb⟩)
      have hm : behind xs d ∈ mutL xs l := List.mem_map.2 ⟨d, hd, rfl⟩
      have := (hushed_cases low high _).1 (loud_none.1 hw.quiet _ hm)
      rw [hb] at this
      rcases this with a | a
      · exact a
      · omega
    · exact .inr (.inr ⟨hi, hx, hb⟩)
theorem within_count {l : List Dev} {low high : Int} {u : SSt} {xs : List Int} (hw : Within l low high u xs) (hd : devsE l = 0) : (l.filter fun d => decide (d.id ∈ xs)).length = xs.length := by
  rw [count_devs]
  exact count_in (right_ids hd).2 hw.one fun x hx => by
    obtain ⟨-, -, d, hm, he⟩ := hw.here x hx
    exact List.mem_map.2 ⟨d, hm, he⟩
theorem count_snoc (p : Dev → Bool) (l : List Dev) (d : Dev) : ((l ++ [d]).filter p).length = (l.filter p).length + (if p d then 1 else 0) := by
  rw [List.filter_append, List.length_append, List.filter_cons]
  split <;> simp_all
end Go.Proofs.YtpjmhhfpjhmiiaaGreat

namespace Go.Proofs.YtpjmhhfpjhmiiaaGreat
open Go.RowKit

/-- All devices are unmuted by one order. -/
theorem unm_one {src seq : Int} (d : Dev) : (recvD d (ordM src seq 3 281474976710655)).1 = { d with mu := false } := by
  have hdf : deafD d (ordM src seq 3 281474976710655) = false := by
    unfold deafD ordM
    simp
  rw [recvD, hdf]
  simp [ordM, doneD]
theorem unm_devs (src : Int) (l : List Dev) : (unmS src l).devs = l.map fun d => { d with mu := false } := by
  show sentD l _ = _
  unfold sentD
  exact List.map_congr_left fun d _ => unm_one d
theorem unm_ids (src : Int) (l : List Dev) : (unmS src l).devs.map (·.id) = l.map (·.id) := by
  rw [unm_devs, List.map_map]
  rfl
/-- What a search of everything leaves, from a state in which no device is muted. -/
theorem loud_le (low high : Int) (l : List Dev) : (loud low high l).length ≤ l.length := List.length_filter_le _ _
structure Found (l : List Dev) (u : SSt) : Prop where
  devs : u.devs = l.map fun d => { d with mu := true }
  found : u.found.Perm (l.map (·.id))
  msgs : u.msgs ≤ 3 + 200 * l.length
theorem find_all {l : List Dev} {src : Int} (hd : devsE l = 0) (hs : isId src = true) : findE l src = 0 ∧ Found l (findU l src) := by
  have hB : beginE l src 0 = 0 := by rw [beginE, if_neg (not_not_intro hd), if_neg (by rw [hs]; simp)]
  have hE : findE l src = 0 := hB
  refine ⟨hE, ?_⟩
  obtain ⟨a, b⟩ := right_ids hd
  have hp : (2 : Int) ^ 48 = 281474976710656 := by decide
  have hq := seq_mod 0
  have hf : Fit (unmS src l) := by
    refine ⟨fun d hm => ?_, by rw [unm_ids]; exact b, fun d _ _ e => (by cases e), hq.1, hq.2⟩
    rw [unm_devs] at hm
    obtain ⟨e, he, rfl⟩ := List.mem_map.1 hm
    exact a e he
  have hF : Full (unmS src l) := by
    intro d hm hmu
    rw [unm_devs] at hm
    obtain ⟨e, he, rfl⟩ := List.mem_map.1 hm
    cases hmu
  obtain ⟨xs, r1, r2, r3⟩ := search_out hs 48 1 281474976710654 (unmS src l) all_in.1 all_in.2.1 all_in.2.2.1 all_in.2.2.2 hf
  obtain ⟨-, r4⟩ := r3 hF
  rw [findU, if_pos hE]
  have e1 : (searchS src 48 1 281474976710654 (unmS src l)).devs = mutL xs (unmS src l).devs := r1.devs
  have e2 : (searchS src 48 1 281474976710654 (unmS src l)).found = xs := r1.found
  have hin : ∀ d ∈ l, d.id ∈ xs := by
    intro d hm
    refine Decidable.byContradiction fun hx => ?_
    have h1 : behind xs { d with mu := false } ∈ (searchS src 48 1 281474976710654 (unmS src l)).devs := by
      rw [e1, unm_devs]
      exact List.mem_map.2 ⟨_, List.mem_map.2 ⟨d, hm, rfl⟩, rfl⟩
    have h2 := (hushed_cases _ _ _).1 (loud_none.1 r2 _ h1)
    have h3 : behind xs { d with mu := false } = { d with mu := false } := by rw [behind, if_neg hx]
    rw [h3] at h2
    have h4 := isId_nat (a d hm)
    rcases h2 with h2 | h2
    · cases h2
    · have h5 : ({ d with mu := false } : Dev).id = d.id := rfl
      rw [h5] at h2
      omega
  refine ⟨?_, ?_, ?_⟩
  · rw [e1, unm_devs]
    unfold mutL
    rw [List.map_map]
    refine List.map_congr_left fun d hm => ?_
    show (if d.id ∈ xs then _ else _) = _
    rw [if_pos (hin d hm)]
  · rw [e2]
    refine (List.perm_ext_iff_of_nodup r1.one b).2 fun x => ⟨fun hx => ?_, fun hx => ?_⟩
    · obtain ⟨-, -, d, hm, rfl⟩ := r1.here x hx
      rw [unm_devs] at hm
      obtain ⟨e, he, rfl⟩ := List.mem_map.1 hm
      exact List.mem_map.2 ⟨e, he, rfl⟩
    · obtain ⟨d, hm, rfl⟩ := List.mem_map.1 hx
      exact hin d hm
  · have h1 := loud_le 1 281474976710654 (unmS src l).devs
    have h2 : (unmS src l).devs.length = l.length := by rw [unm_devs, List.length_map]
    have h3 : (unmS src l).msgs = 1 := rfl
    rw [h3] at r4
    rw [h2] at h1
    refine Nat.le_trans r4 ?_
    generalize (loud 1 281474976710654 (unmS src l).devs).length = z at h1
    omega
end Go.Proofs.YtpjmhhfpjhmiiaaGreat

namespace Go.Proofs.YtpjmhhfpjhmiiaaGreat
open Go.RowKit Go.Shelf

/-- What a device tells. -/
def tellR (d : Dev) (par : Int) : Rsl := if 0 ≤ (shownD d par).2 then ⟨1, ⟨#[]⟩, (shownD d par).2, 1⟩ else ⟨0, (shownD d par).1, 0, 1⟩

theorem all_tells {l : List Dev} {par k0 : Int} (hy : wireE ⟨l, [], []⟩ = 0) (hp0 : 0 ≤ par) (hp1 : par ≤ 65535) : ∀ (ids : List Int) (x : Mgr) (out : List Rsl), mgrE x = 0 → (∀ i ∈ ids, ∃ d ∈ l, d.id = i) →
    ∃ (x' : Mgr) (R : List Rsl), allF ⟨k0, 4, par, ⟨#[]⟩⟩ ids x ⟨l, [], []⟩ out = (x', ⟨l, [], []⟩, out ++ R, 0) ∧ R.length = ids.length ∧ ∀ (j : Nat) (i : Int), ids[j]? = some i → ∀ d ∈ l, d.id = i → R[j]? = some (tellR d par)
  | [], x, out, _, _ => ⟨x, [], by rw [allF, List.append_nil], rfl, fun j i h => by simp at h⟩
  | i :: ids, x, out, hx, hin => by
    obtain ⟨d, hd, hdi⟩ := hin i List.mem_cons_self
    have h1 := (wire_parts hy).1
    have hid : isId i = true := hdi ▸ isId_of_chk d (devs_chk h1 d hd)
    obtain ⟨a1, a2, a3, a4, a5⟩ := reads_law (id := i) hx hy hid hp0 hp1
    have hm := mgr_parts hx
    have hc : chk (ofM x ⟨i, 4, par, ⟨#[]⟩⟩) = 0 := chk_plain hid hm.1 hm.2.1 hm.2.2.1 (.inl rfl) hp0 hp1 (by show (⟨#[]⟩ : ByteArray).size ≤ 255; decide)
    obtain ⟨b1, b2, -⟩ := ask_keep (r := ⟨i, 4, par, ⟨#[]⟩⟩) x.tries.toNat 1 x ⟨l, [], []⟩ hy hx hc (by intro a ha; cases ha)
    have e0 : toR ⟨k0, 4, par, ⟨#[]⟩⟩ i = ⟨i, 4, par, ⟨#[]⟩⟩ := rfl
    rw [allF, e0, if_pos a1]
    have hM : askM x ⟨l, [], []⟩ ⟨i, 4, par, ⟨#[]⟩⟩ = askF ⟨i, 4, par, ⟨#[]⟩⟩ x.tries.toNat 1 x ⟨l, [], []⟩ := rfl
    rw [← hM] at b2
    generalize askM x ⟨l, [], []⟩ ⟨i, 4, par, ⟨#[]⟩⟩ = A at a2 a3 a4 a5 b2
    obtain ⟨x1, y1, r1⟩ := A
    dsimp only at a2 a3 a4 a5 b2 ⊢
    subst a2
    obtain ⟨x', R, c1, c2, c3⟩ := all_tells hy hp0 hp1 ids x1 (out ++ [r1]) b2 (fun j hj => hin j (List.mem_cons_of_mem _ hj))
    refine ⟨x', r1 :: R, by rw [c1, List.append_assoc]; rfl, by simp [c2], ?_⟩
    intro j i' hj g hg hgi
    cases j with
    | zero =>
      have e : i = i' := by simpa using hj
      rw [List.getElem?_cons_zero, a5 g hg (hgi.trans e.symm)]
      rfl
    | succ j =>
      rw [List.getElem?_cons_succ]
      exact c3 j i' (by simpa using hj) g hg hgi

theorem tells_wire {l : List Dev} (hl : devsE l = 0) : wireE ⟨l, [], []⟩ = 0 := by
  unfold wireE
  dsimp only
  rw [if_neg (not_not_intro hl), if_neg (by simp), if_neg (by simp), if_neg (by simp), if_neg (by simp)]

/-- What All leaves in TopBusTells. -/
def TellsPost (l : List Dev) (par : Int) (ids : List Int) (w : World) (e : Ending) (w' : World) : Prop :=
  ∃ (i1 i2 i3 : Int) (da fa la ra : Option Addr), ∃ dc fc lc rc : Nat, ∃ R : List Rsl, e = .returned (.tuple #[.agg #[.int .u64 i1, .int .i64 i2, .int .i64 i3], .agg #[.slice da l.length dc, .slice fa 0 fc, .slice la 0 lc], .slice ra R.length rc, .int .i64 0]) ∧
    WireT w' (.slice da l.length dc) (.slice fa 0 fc) (.slice la 0 lc) ⟨l, [], []⟩ ∧ RslsAt w' (.slice ra R.length rc) R ∧ R.length = ids.length ∧ (∀ (j : Nat) (i : Int), ids[j]? = some i → ∀ d ∈ l, d.id = i → R[j]? = some (tellR d par)) ∧ Below w.heap.size w w'

theorem tells_call {l : List Dev} {ids : List Int} {from_ par : Int} (da ia : Option Addr) (dc ic : Nat) (W : World) (hl : devsE l = 0) (h64 : ids.length ≤ 64) (hx : mgrE ⟨from_, 0, 2⟩ = 0) (hp0 : 0 ≤ par) (hp1 : par ≤ 65535) (hin : ∀ i ∈ ids, ∃ d ∈ l, d.id = i)
    (h : WireAt W (.slice da l.length dc) (.slice none 0 0) (.slice none 0 0) ⟨l, [], []⟩) (hi : IdsAt W (.slice ia ids.length ic) ids) :
    Calls Tryz.prog 37 #[.agg #[.int .u64 from_, .int .i64 0, .int .i64 2], .agg #[.slice da l.length dc, .slice none 0 0, .slice none 0 0], .slice ia ids.length ic, .agg #[.int .u64 0, .int .i64 4, .int .i64 par, .string ⟨#[]⟩]] W (TellsPost l par ids W) := by
  have hw := tells_wire hl
  obtain ⟨x', R, hA, hlen, hR⟩ := all_tells (k0 := 0) hw hp0 hp1 ids ⟨from_, 0, 2⟩ [] hx hin
  have hm := mall_any ⟨from_, 0, 2⟩ da none none l.length dc 0 0 0 0 ⟨l, [], []⟩ ids ia ic 0 4 par ⟨#[]⟩ W h hi
  have hU : allU ⟨from_, 0, 2⟩ ⟨l, [], []⟩ ids ⟨0, 4, par, ⟨#[]⟩⟩ = (x', ⟨l, [], []⟩, R, 0) := by
    rw [allU, if_neg (not_not_intro hx), if_neg (not_not_intro hw), if_neg (by omega), hA, List.nil_append]
  rw [hU] at hm
  refine hm.mono ?_
  rintro e w' ⟨d1, f1, l1, r1, dn, c1, fn, c2, ln, c3, c4, rfl, hw', hr, hb⟩
  obtain rfl : dn = l.length := by
    obtain ⟨a, c, e⟩ := shape_of hw'.devs
    exact (Value.slice.inj e).2.1
  obtain rfl : fn = 0 := by
    obtain ⟨a, c, e⟩ := shape_of hw'.faults
    exact (Value.slice.inj e).2.1
  obtain rfl : ln = 0 := by
    obtain ⟨a, c, e⟩ := shape_of hw'.late
    exact (Value.slice.inj e).2.1
  exact ⟨x'.id, x'.seq, x'.tries, d1, f1, l1, r1, c1, c2, c3, c4, R, rfl, hw', hr, hlen, hR, hb⟩
end Go.Proofs.YtpjmhhfpjhmiiaaGreat

namespace Go.Proofs.YtpjmhhfpjhmiiaaGreat
open Go.RowKit Go.Shelf

set_option maxHeartbeats 2000000 in
set_option maxRecDepth 100000 in
theorem telldev_one (k : Nat) (id : Int) (a : Dev) (q : Bool) (hq : (a.id == id) = q) (w : World) (hr : RowAt w k 22 #[.int .u64 id]) :
    Calls Tryz.prog 50 #[.agg #[.int .u64 a.id, .int .i64 a.ft, .int .i64 a.ad, .string a.lb, .int .i64 a.hr, .bool a.mu, .bool a.idf], .pointer (some ⟨k, 0, none⟩)] w
      fun e w' => e = .returned (.bool q) ∧ Below w.heap.size w w' := by
  have c0 := cell_fact hr 0
  have hlt := lt_of_block hr
  have HQ := Lib.hid hq
  have hb : Below w.heap.size w (w.alloc (.cells (devA a) 68)) := (Below.refl _ _).alloc (Nat.le_refl _) _
  have c00 : w.cell? ⟨k, 0, none⟩ = some (.int .u64 id) := c0
  clear hr c0 hq
  go_enter Tryz.func50, Tryz.ntmps50
  go_wp2
  go_ret
  exact ⟨ret_bool (by rw [← HQ.out]), hb⟩

/-- Where the device of an identity is. -/
def FoundTo (l : List Dev) (id n : Int) : Prop := (n = -1 ∧ ∀ d ∈ l, d.id ≠ id) ∨ ∃ (j : Nat) (d : Dev), n = j ∧ l[j]? = some d ∧ d.id = id
set_option maxHeartbeats 4000000 in
set_option maxRecDepth 100000 in
theorem find_tell (k : Nat) (id : Int) (v : Value) (l : List Dev) (w : World) (hv : DevsAt w v l) (hr : RowAt w k 22 #[.int .u64 id]) :
    Calls Tryz.prog 31 #[v, .func (.func 50) #[] #[.pointer (some ⟨k, 0, none⟩)]] w
      fun e w' => ∃ n : Int, e = .returned (.int .i64 n) ∧ FoundTo l id n ∧ Below w.heap.size w w' := by
  rcases hv with ⟨h0, a, cap, rfl⟩ | ⟨h0, h1, b, off, cap, rfl, hlt, hc⟩
  · have hl : l = [] := List.eq_nil_of_length_eq_zero h0
    subst hl
    go_enter Tryz.func31, Tryz.ntmps31
    go_wp2
    refine wp_loop_rounds 1 ?_
    rw [rounds_succ]
    go_wp2
    go_ret
    exact ⟨_, rfl, .inl ⟨rfl, fun d hd => by cases hd⟩, by (repeat' (first | (with_reducible exact Below.refl _ _) | (with_reducible assumption) | (with_reducible refine below_drewN ?_ _) | (with_reducible refine Below.drew ?_) | (with_reducible refine Below.setCell ?_ ?_ _) | (with_reducible refine Below.alloc ?_ ?_ _) | (with_reducible refine below_after ?_ ?_ (by assumption)) | (show _ ≤ _; first | omega | (simp; done) | (simp; omega))))⟩
  · have h4 : (0 : Int) < (l.length : Int) := by omega
    have hklt : k < w.heap.size := lt_of_block hr
    go_enter Tryz.func31, Tryz.ntmps31
    go_wp2
    go_loopw [5, 8] (fun _ i wr => ∃ k : Nat, k ≤ l.length ∧ i = .int .i64 k ∧ (∀ d ∈ l.take k, d.id ≠ id) ∧ Below w.heap.size w wr) (fun _ i _ => l.length - (intOf i).toNat)
    case atStart => exact ⟨0, Nat.zero_le _, rfl, (fun d hd => by simp at hd), by (repeat' (first | (with_reducible exact Below.refl _ _) | (with_reducible assumption) | (with_reducible refine below_drewN ?_ _) | (with_reducible refine Below.drew ?_) | (with_reducible refine Below.setCell ?_ ?_ _) | (with_reducible refine Below.alloc ?_ ?_ _) | (with_reducible refine below_after ?_ ?_ (by assumption)) | (show _ ≤ _; first | omega | (simp; done) | (simp; omega))))⟩
    case round =>
      obtain ⟨j, hj, rfl, hany, hb0⟩ := hrel
      by_cases hlt2 : j < l.length
      · have hlt3 : (j : Int) < (l.length : Int) := by omega
        have hc' : ∀ i, i < l.length * 7 → wr.cell? ⟨b, off + i, none⟩ = devsC l i := fun i hi => (hb0.cell (p := ⟨b, off + i, none⟩) hlt).trans (hc i hi)
        obtain ⟨a, ha, e0, e1, e2, e3, e4, e5, e6⟩ := dev_cells hc' j hlt2
        have hrr := hr.run hb0
        have HA := Lib.hid hany
        have HS := Lib.hid ha
        have HT := Lib.hid (take_succ_some ha)
        obtain ⟨q, hq⟩ : ∃ q, (a.id == id) = q := ⟨_, rfl⟩
        have C := Lib.hid (telldev_one k id a q hq wr hrr)
        have HQ := Lib.hid hq
        have HR := Lib.hid hr
        clear hc hc' ha hany hrr hq hr
        cases q with
        | true =>
          go_wp2_with fail
          refine C.out.mono ?_
          rintro e w' ⟨rfl, hb⟩
          go_wp2
          go_ret
          exact ⟨_, rfl, .inr ⟨j, a, rfl, HS.out, eq_of_beq HQ.out⟩, below_run hb0 hb⟩
        | false =>
          go_wp2_with fail
          refine C.out.mono ?_
          rintro e w' ⟨rfl, hb⟩
          have hb2 := below_run hb0 hb
          clear hb hb0
          go_wp2
          go_roundw
          case rel =>
            refine ⟨j + 1, by omega, by go_num, fun d hd => ?_, hb2⟩
            rw [HT.out] at hd
            rcases List.mem_append.1 hd with h | h
            · exact HA.out d h
            · obtain rfl := List.mem_singleton.1 h
              exact ne_of_beq_false HQ.out
          case measure => simp [intOf]; omega
      · have hlt3 : ¬ (j : Int) < (l.length : Int) := by omega
        obtain rfl : j = l.length := by omega
        rw [List.take_length] at hany
        have HA := Lib.hid hany
        clear hany
        go_wp2
        go_ret
        exact ⟨_, rfl, .inl ⟨rfl, HA.out⟩, hb0⟩

set_option maxHeartbeats 1000000 in
set_option maxRecDepth 100000 in
theorem equal_devs (v u : Value) (l : List Dev) (w : World) (hv : DevsAt w v l) (hu : DevsAt w u l) :
    Calls Tryz.prog 49 #[v, u] w fun e w' => e = .returned (.bool true) ∧ Below w.heap.size w w' := by
  rcases hv with ⟨h0, a, cap, rfl⟩ | ⟨h0, h1, b, off, cap, rfl, hlt, hc⟩
  · have hl : l = [] := List.eq_nil_of_length_eq_zero h0
    subst hl
    rcases hu with ⟨_, a', cap', rfl⟩ | ⟨g0, _⟩
    · go_enter Tryz.func49, Tryz.ntmps49
      go_wp2
      refine wp_loop_rounds 1 ?_
      rw [rounds_succ]
      go_wp2
      go_ret
      exact ⟨rfl, by (repeat' (first | (with_reducible exact Below.refl _ _) | (with_reducible assumption) | (with_reducible refine below_run ?_ (by assumption)) | (with_reducible refine below_of_upd ?_ (by assumption) ?_) | (with_reducible refine below_drewN ?_ _) | (with_reducible refine Below.drew ?_) | (with_reducible refine below_seven ?_ ?_) | (with_reducible refine below_six ?_ ?_) | (with_reducible refine below_one ?_ ?_) | (with_reducible refine Below.alloc ?_ ?_ _) | (with_reducible refine below_after ?_ ?_ (by assumption)) | (show _ ≤ _; first | omega | (simp; done) | (simp; omega))))⟩
    · simp at g0
  · rcases hu with ⟨g0, _⟩ | ⟨_, _, b', off', cap', rfl, hlt', hc'⟩
    · omega
    · have h3 : (l.length : Int) ≤ 140737488351232 := by omega
      have h4 : (0 : Int) < (l.length : Int) := by omega
      have h5 : ((l.length : Int) != (l.length : Int)) = false := by simp
      go_enter Tryz.func49, Tryz.ntmps49
      go_wp2
      go_loopw [5, 13] (fun _ i wr => ∃ k : Nat, k ≤ l.length ∧ i = .int .i64 k ∧ Below w.heap.size w wr) (fun _ i _ => l.length - (intOf i).toNat)
      case atStart => exact ⟨0, Nat.zero_le _, rfl, Below.refl _ _⟩
      case round =>
        obtain ⟨k, hk, rfl, hb0⟩ := hrel
        by_cases hlt2 : k < l.length
        · have hlt3 : (k : Int) < (l.length : Int) := by omega
          have hk0 : (0 : Int) ≤ (k : Int) := by omega
          have hw1 : ∀ j, j < l.length * 7 → wr.cell? ⟨b, off + j, none⟩ = devsC l j := fun j hj => (hb0.cell (p := ⟨b, off + j, none⟩) hlt).trans (hc j hj)
          have hw2 : ∀ j, j < l.length * 7 → wr.cell? ⟨b', off' + j, none⟩ = devsC l j := fun j hj => (hb0.cell (p := ⟨b', off' + j, none⟩) hlt').trans (hc' j hj)
          obtain ⟨y, hy, e0, e1, e2, e3, e4, e5, e6⟩ := dev_cells hw1 k hlt2
          obtain ⟨y', hy', f0, f1, f2, f3, f4, f5, f6⟩ := dev_cells hw2 k hlt2
          rw [hy] at hy'
          simp only [Option.some.injEq] at hy'
          subst hy'
          clear hc hc' hw1 hw2 hy
          go_wp2
          go_quiet (fail)
          go_wp2
          go_roundw
          case rel => exact ⟨k + 1, by omega, by go_num, by (repeat' (first | (with_reducible exact Below.refl _ _) | (with_reducible assumption) | (with_reducible refine below_run ?_ (by assumption)) | (with_reducible refine below_of_upd ?_ (by assumption) ?_) | (with_reducible refine below_drewN ?_ _) | (with_reducible refine Below.drew ?_) | (with_reducible refine below_seven ?_ ?_) | (with_reducible refine below_six ?_ ?_) | (with_reducible refine below_one ?_ ?_) | (with_reducible refine Below.alloc ?_ ?_ _) | (with_reducible refine below_after ?_ ?_ (by assumption)) | (show _ ≤ _; first | omega | (simp; done) | (simp; omega))))⟩
          case measure => simp [intOf]; omega
        · obtain rfl : k = l.length := by omega
          go_wp2
          go_ret
          exact ⟨rfl, hb0⟩
end Go.Proofs.YtpjmhhfpjhmiiaaGreat

namespace Go.Proofs.YtpjmhhfpjhmiiaaGreat
open Go.RowKit Go.Shelf

theorem derr_none : ∀ {l : List Dev} {seen : List Int}, (∀ d ∈ l, chkD d = 0) → (l.map (·.id)).Nodup → (∀ d ∈ l, d.id ∉ seen) → dErr seen l = 0
  | [], _, _, _, _ => rfl
  | d :: l, seen, h1, h2, h3 => by
    rw [List.map_cons, List.nodup_cons] at h2
    rw [dErr, if_neg (not_not_intro (h1 d (List.mem_cons_self ..))), if_neg (h3 d (List.mem_cons_self ..))]
    refine derr_none (fun e he => h1 e (List.mem_cons_of_mem _ he)) h2.2 fun e he hs => ?_
    rcases List.mem_append.1 hs with hs | hs
    · exact h3 e (List.mem_cons_of_mem _ he) hs
    · rw [List.mem_singleton] at hs
      exact h2.1 (List.mem_map.2 ⟨e, he, hs⟩)
theorem muted_right {l : List Dev} (h : devsE l = 0) : devsE (l.map fun d => { d with mu := true }) = 0 := by
  have hf := devs_few h
  rw [devsE, List.length_map, if_neg (by omega)]
  refine derr_none (fun d hd => ?_) ?_ fun d _ e => (by cases e)
  · obtain ⟨e, he, rfl⟩ := List.mem_map.1 hd
    exact devs_chk h e he
  · rw [List.map_map]
    exact (right_ids h).2

/-- A number that none of them is, is found. -/
theorem missing_le {ids : List Int} {k : Nat} (hn : ids.Nodup) (h : ∀ i : Nat, 1 ≤ i → i ≤ k → (i : Int) ∈ ids) : k ≤ ids.length := by
  have hx : ((List.range k).map fun i => ((i + 1 : Nat) : Int)).Nodup := by
    rw [List.nodup_iff_pairwise_ne, List.pairwise_map]
    exact (List.nodup_iff_pairwise_ne.1 List.nodup_range).imp fun h e => h (by omega)
  have hc := count_in hn hx fun x hx => by
    obtain ⟨i, hi, rfl⟩ := List.mem_map.1 hx
    have := List.mem_range.1 hi
    exact h (i + 1) (by omega) (by omega)
  have hle := List.length_filter_le (fun y => decide (y ∈ (List.range k).map fun i => ((i + 1 : Nat) : Int))) ids
  rw [hc, List.length_map, List.length_range] at hle
  exact hle
theorem tells_p {par : Int} (h0 : 0 ≤ par) (h1 : par ≤ 65535) : ∃ p : Int, ([96, 130, 240, 1024, 4096, 4097, par] : List Int)[(par % 7).toNat]? = some p ∧ 0 ≤ p ∧ p ≤ 65535 := by
  have h : par % 7 = 0 ∨ par % 7 = 1 ∨ par % 7 = 2 ∨ par % 7 = 3 ∨ par % 7 = 4 ∨ par % 7 = 5 ∨ par % 7 = 6 := by omega
  rcases h with h | h | h | h | h | h | h <;> rw [h] <;> refine ⟨_, rfl, ?_, ?_⟩ <;> omega

set_option maxHeartbeats 16000000 in
set_option maxRecDepth 100000 in
theorem law_tells (l : List Dev) (da : Option Addr) (dc : Nat) (src par : Int) (w : World) (hd : DevsAt w (.slice da l.length dc) l)
    (hlb : ∀ d ∈ l, d.lb.size ≤ 9223372036854775807) (hr : l.length * 56 ≤ 140737488351232) (h01 : 0 ≤ par ∧ par ≤ 65535) :
    Calls Tryz.prog 12 #[.slice da l.length dc, .int .u64 src, .int .u16 par] w fun e w' => e = .returned (.bool true) ∧ Below w.heap.size w w' := by
  obtain ⟨q1, hq1⟩ : ∃ q, (decide (l.length ≤ 8) && decide (devsE l = 0)) = q := ⟨_, rfl⟩
  obtain ⟨q2, hq2⟩ : ∃ q, isId src = q := ⟨_, rfl⟩
  have C1 := pdevs_any l da dc w hd hlb hr
  rw [hq1] at C1
  have C2 := fun W => Is_any src W
  rw [hq2] at C2
  have D1 := Lib.hid C1
  have D2 := Lib.hid C2
  have HD := Lib.hid hd
  have Q1 := Lib.hid hq1
  have Q2 := Lib.hid hq2
  have P0 := Lib.hid h01.1
  have P1 := Lib.hid h01.2
  clear C1 C2 hd hq1 hq2 hlb hr h01
  go_enter Tryz.func12, Tryz.ntmps12
  cases q1 with
  | false =>
    go_wp2_with fail
    refine D1.out.mono ?_
    rintro e w1 ⟨rfl, hb1⟩
    go_wp2_with fail
    refine (playBus_any _).mono ?_
    rintro e w90 ⟨rfl, hb90⟩
    go_wp2
    go_ret
    exact ⟨rfl, below_run hb1 hb90⟩
  | true =>
  cases q2 with
  | false =>
    go_wp2_with fail
    refine D1.out.mono ?_
    rintro e w1 ⟨rfl, hb1⟩
    go_wp2_with fail
    refine (D2.out _).mono ?_
    rintro e w2 ⟨rfl, rfl⟩
    go_wp2_with fail
    refine (playBus_any _).mono ?_
    rintro e w90 ⟨rfl, hb90⟩
    go_wp2
    go_ret
    exact ⟨rfl, below_run hb1 hb90⟩
  | true =>
  go_wp2_with fail
  refine D1.out.mono ?_
  rintro e w1 ⟨rfl, hb1⟩
  go_wp2_with fail
  refine (D2.out _).mono ?_
  rintro e w2 ⟨rfl, rfl⟩
  have hq := Q1.out
  simp only [Bool.and_eq_true, decide_eq_true_eq] at hq
  obtain ⟨h8, hdv⟩ := hq
  obtain ⟨hfe, hfd⟩ := find_all hdv Q2.out
  obtain ⟨u, hu⟩ : ∃ u, findU l src = u := ⟨_, rfl⟩
  rw [hu] at hfd
  have CF := dfindR_any _ l src w1 (HD.out.run hb1)
  rw [hfe, hu] at CF
  go_wp2_with fail
  refine CF.mono ?_
  rintro e w3 ⟨v3, vf3, rfl, hd3, hi3, hb3, hrm3⟩
  obtain ⟨L, hL⟩ : ∃ L, u.devs = L := ⟨_, rfl⟩
  obtain ⟨ids, hids⟩ : ∃ ids, u.found = ids := ⟨_, rfl⟩
  obtain ⟨M, hM⟩ : ∃ M, IntKind.i64.wrap (u.msgs : Int) = M := ⟨_, rfl⟩
  have hLl := hfd.devs
  have hper := hfd.found
  rw [hL] at hd3 hLl
  rw [hids] at hi3 hper
  rw [hM]
  obtain ⟨va, vc, rfl⟩ := shape_of hd3
  obtain ⟨fa, fc, rfl⟩ := shape_of hi3
  have hll : L.length = l.length := by rw [hLl, List.length_map]
  have hil : ids.length = l.length := by rw [hper.length_eq, List.length_map]
  have hdL : devsE L = 0 := by rw [hLl]; exact muted_right hdv
  have hin : ∀ i ∈ ids, ∃ d ∈ L, d.id = i := by
    intro i hi
    obtain ⟨d, hd, e⟩ := List.mem_map.1 (hper.mem_iff.1 hi)
    refine ⟨{ d with mu := true }, ?_, e⟩
    rw [hLl]
    exact List.mem_map.2 ⟨d, hd, rfl⟩
  have hal : ∀ d ∈ L, d.id ∈ ids := by
    intro d hd
    rw [hLl] at hd
    obtain ⟨d0, h1, rfl⟩ := List.mem_map.1 hd
    exact hper.mem_iff.2 (List.mem_map.2 ⟨d0, h1, rfl⟩)
  have HAL := Lib.hid hal
  have hnd : ids.Nodup := hper.nodup_iff.2 (right_ids hdv).2
  have HDL := Lib.hid hdL
  have HIN := Lib.hid hin
  have HND := Lib.hid hnd
  have HLL := Lib.hid hll
  have HIL := Lib.hid hil
  have H8 := Lib.hid h8
  have HRM := Lib.hid hrm3
  have hb13 := below_run hb1 hb3
  clear hal hfe hfd hL hids hM hLl hper hll hil hdL hin hnd h8 hrm3 hdv D1 D2 HD CF hu hb1 hb3
  go_upto_region 4 with fail
  have hbF : Below w3.heap.size w3 (w3.alloc (.cells #[.slice fa ids.length fc, .int .i64 M] 104)) := (Below.refl _ _).alloc (Nat.le_refl _) _
  have r2 : RowAt (w3.alloc (.cells #[.slice fa ids.length fc, .int .i64 M] 104)) w3.heap.size 104 #[.slice fa ids.length fc, .int .i64 M] := RowAt.new _ _ _
  have hd := hd3.run hbF
  have hi := hi3.run hbF
  have hbw := below_run hb13 hbF
  generalize (w3.alloc (.cells #[.slice fa ids.length fc, .int .i64 M] 104)) = X at hbF r2 hd hi hbw ⊢
  generalize w3.heap.size = k3 at r2 ⊢
  have HM2 : mgrE ⟨src, 0, 2⟩ = 0 := by
    unfold mgrE
    rw [if_neg]
    rintro (e | e | e | e | e)
    · exact absurd e (by rw [Q2.out]; decide)
    all_goals (dsimp only at e; omega)
  have HN2 : newMgr src 2 = ⟨src, 0, 2⟩ := by unfold newMgr; simp [HM2]
  have HM := Lib.hid HM2
  have HX := Lib.hid hd
  have HI := Lib.hid hi
  have HBX := Lib.hid hbw
  have R2 := Lib.hid r2
  have CN := mnew_any src 2 X
  rw [HN2, HM2] at CN
  have CNH := Lib.hid CN
  clear hbF hd hi hbw hd3 hi3 hb13 r2 HM2 HN2 CN
  go_wp2_with fail
  refine CNH.out.mono ?_
  rintro e w4 ⟨he, hb4⟩
  have he' : e = .returned (.tuple #[.agg #[.int .u64 src, .int .i64 0, .int .i64 2], .int .i64 0]) := he
  subst he'
  have HX4 := Lib.hid (HX.out.run hb4)
  have HI4 := Lib.hid (HI.out.run hb4)
  have HBX4 := Lib.hid (below_run HBX.out hb4)
  have R24 := Lib.hid (R2.out.run hb4)
  clear he hb4 HX HI HBX R2 CNH
  go_upto_region 7 with fail
  have hbT : Below w4.heap.size w4 (w4.alloc (.cells #[.int .u64 src, .int .i64 0, .int .i64 2] 24)) := (Below.refl _ _).alloc (Nat.le_refl _) _
  have r10 : RowAt (w4.alloc (.cells #[.int .u64 src, .int .i64 0, .int .i64 2] 24)) w4.heap.size 24 #[.int .u64 src, .int .i64 0, .int .i64 2] := RowAt.new _ _ _
  have hd := HX4.out.run hbT
  have hi := HI4.out.run hbT
  have r8 := R24.out.run hbT
  have hbw := below_run HBX4.out hbT
  generalize (w4.alloc (.cells #[.int .u64 src, .int .i64 0, .int .i64 2] 24)) = Z at hbT r10 hd hi r8 hbw ⊢
  generalize w4.heap.size = k4 at r10 ⊢
  obtain ⟨p, hp, hp0, hp1⟩ := tells_p P0.out P1.out
  obtain ⟨j, hj⟩ : ∃ j : Nat, par % 7 = (j : Int) := ⟨(par % 7).toNat, by omega⟩
  rw [hj, Int.toNat_natCast] at hp
  have ht : par.tmod 7 = (j : Int) := (Int.tmod_eq_emod_of_nonneg P0.out).trans hj
  have hj7 : (j : Int) < 7 := by omega
  have hj0 : (0 : Int) ≤ (j : Int) := by omega
  have hpar : IntKind.i64.wrap par = par := by
    have := P0.out
    have := P1.out
    simp only [IntKind.wrap, IntKind.bits, IntKind.signed, Bool.true_and, decide_eq_true_eq, show (64 : Nat) - 1 = 63 from rfl, show (2 : Int) ^ 64 = 18446744073709551616 from by decide, show (2 : Int) ^ 63 = 9223372036854775808 from by decide]
    split <;> omega
  have hcell : (#[.int .i64 96, .int .i64 130, .int .i64 240, .int .i64 1024, .int .i64 4096, .int .i64 4097, .int .i64 par] : Array Value)[j]? = some (.int .i64 p) := by
    have e : (#[.int .i64 96, .int .i64 130, .int .i64 240, .int .i64 1024, .int .i64 4096, .int .i64 4097, .int .i64 par] : Array Value)[j]? = ([96, 130, 240, 1024, 4096, 4097, par].map (Value.int .i64))[j]? := by simp
    rw [e, List.getElem?_map, hp]
    rfl
  have HDZ := Lib.hid hd
  have HIZ := Lib.hid hi
  have HBZ := Lib.hid hbw
  have R8 := Lib.hid r8
  have R10 := Lib.hid r10
  have PP0 := Lib.hid hp0
  have PP1 := Lib.hid hp1
  clear hbT r10 hd hi r8 hbw hp hp0 hp1 hj HX4 HI4 HBX4 R24
  go_upto_region 8 with fail
  have hbT : Below Z.heap.size Z (Z.alloc (.cells #[.int .i64 96, .int .i64 130, .int .i64 240, .int .i64 1024, .int .i64 4096, .int .i64 4097, .int .i64 par] 3)) := (Below.refl _ _).alloc (Nat.le_refl _) _
  have hd := HDZ.out.run hbT
  have hi := HIZ.out.run hbT
  have r8 := R8.out.run hbT
  have r10 := R10.out.run hbT
  have hbw := below_run HBZ.out hbT
  generalize (Z.alloc (.cells #[.int .i64 96, .int .i64 130, .int .i64 240, .int .i64 1024, .int .i64 4096, .int .i64 4097, .int .i64 par] 3)) = Y at hbT hd hi r8 r10 hbw ⊢
  have HDY := Lib.hid hd
  have HIY := Lib.hid hi
  have HBY := Lib.hid hbw
  have R8Y := Lib.hid r8
  have R10Y := Lib.hid r10
  have hwire : WireAt Y (.slice va L.length vc) (.slice none 0 0) (.slice none 0 0) ⟨L, [], []⟩ := ⟨hd, HRM.out, .inl ⟨rfl, _, _, rfl⟩, .inl ⟨rfl, _, _, rfl⟩⟩
  have CM := Lib.hid (tells_call va fa vc fc Y HDL.out (by have := HIL.out; have := H8.out; omega) HM.out PP0.out PP1.out HIN.out hwire hi)
  obtain ⟨x1, x2, x3, x4, x5, x6⟩ := row_facts r8
  obtain ⟨y1, y2, y3, y4, y5, y6⟩ := row_facts r10
  clear hbT hd hi r8 r10 hbw hwire HDZ HIZ R8 R10 HBZ ht hj7 hj0 hpar hcell
  go_wp2_with fail
  refine CM.out.mono ?_
  rintro e w6 ⟨i1, i2, i3, d1, f1, l1, ra, c1, c2, c3, rc, R, rfl, hw6, hr6, hRl, hR, hb6⟩
  have HW6 := Lib.hid hw6
  have HR6 := Lib.hid hr6
  have HRL := Lib.hid hRl
  have HR := Lib.hid hR
  have HD6 := Lib.hid (HDY.out.run hb6)
  have HI6 := Lib.hid (HIY.out.run hb6)
  have HB6 := Lib.hid (below_run HBY.out hb6)
  have R86 := Lib.hid (R8Y.out.run hb6)
  have R106 := Lib.hid (R10Y.out.run hb6)
  clear hw6 hr6 hRl hR hb6 HDY HIY HBY R8Y R10Y CM x1 x2 x3 x4 x5 x6 y1 y2 y3 y4 y5 y6
  go_upto_region 9 with fail
  have hbT : Below w6.heap.size w6 ((w6.alloc (.cells #[.int .u64 i1, .int .i64 i2, .int .i64 i3] 24)).alloc (.cells #[.slice d1 L.length c1, .slice f1 0 c2, .slice l1 0 c3] 29)) := by (repeat' (first | (with_reducible exact Below.refl _ _) | (with_reducible assumption) | (with_reducible refine below_run ?_ (by assumption)) | (with_reducible refine below_of_upd ?_ (by assumption) ?_) | (with_reducible refine below_drewN ?_ _) | (with_reducible refine Below.drew ?_) | (with_reducible refine below_seven ?_ ?_) | (with_reducible refine below_six ?_ ?_) | (with_reducible refine below_one ?_ ?_) | (with_reducible refine Below.alloc ?_ ?_ _) | (with_reducible refine below_after ?_ ?_ (by assumption)) | (show _ ≤ _; first | omega | (simp; done) | (simp; omega))))
  have r14 : RowAt ((w6.alloc (.cells #[.int .u64 i1, .int .i64 i2, .int .i64 i3] 24)).alloc (.cells #[.slice d1 L.length c1, .slice f1 0 c2, .slice l1 0 c3] 29)) (w6.heap.size + 1) 29 #[.slice d1 L.length c1, .slice f1 0 c2, .slice l1 0 c3] := RowAt.mk (by simp) rfl
  have hw := HW6.out.run hbT
  have hrs := HR6.out.run hbT
  have hd := HD6.out.run hbT
  have hi := HI6.out.run hbT
  have r8 := R86.out.run hbT
  have r10 := R106.out.run hbT
  have hbw := below_run HB6.out hbT
  generalize ((w6.alloc (.cells #[.int .u64 i1, .int .i64 i2, .int .i64 i3] 24)).alloc (.cells #[.slice d1 L.length c1, .slice f1 0 c2, .slice l1 0 c3] 29)) = U at hbT r14 hw hrs hd hi r8 r10 hbw ⊢
  generalize w6.heap.size = k6 at r14 ⊢
  have HWU := Lib.hid hw
  have HRU := Lib.hid hrs
  have HDU := Lib.hid hd
  have HIU := Lib.hid hi
  have HBU := Lib.hid hbw
  have R8U := Lib.hid r8
  have R10U := Lib.hid r10
  have R14U := Lib.hid r14
  have zR : ((R.length : Int) != (l.length : Int)) = false := by
    have h1 := HRL.out
    have h2 := HIL.out
    have : (R.length : Int) = (l.length : Int) := by omega
    simp [this]
  obtain ⟨x1, x2, x3, x4, x5, x6⟩ := row_facts r14
  clear hbT hw hrs hd hi r8 r10 r14 hbw HW6 HR6 HD6 HI6 HB6 R86 R106
  go_wp2_with fail
  refine (equal_devs _ _ L _ HWU.out.devs HDU.out).mono ?_
  rintro e w9 ⟨rfl, hb9⟩
  have r8 := R8U.out.run hb9
  have HW9 := Lib.hid (HWU.out.run hb9)
  have HR9 := Lib.hid (HRU.out.run hb9)
  have HD9 := Lib.hid (HDU.out.run hb9)
  have HI9 := Lib.hid (HIU.out.run hb9)
  have HB9 := Lib.hid (below_run HBU.out hb9)
  have R89 := Lib.hid r8
  have R109 := Lib.hid (R10U.out.run hb9)
  have R149 := Lib.hid (R14U.out.run hb9)
  clear x1 x2 x3 x4 x5 x6 zR hb9 HWU HRU HDU HIU HBU R8U R10U R14U
  obtain ⟨x1, x2, x3, x4, x5, x6⟩ := row_facts r8
  clear r8
  go_wp2
  go_loopw [16, 17, 18, 19, 20, 21, 22, 93] (fun _ _ _ _ _ _ _ i wr => ∃ k : Nat, k ≤ ids.length ∧ i = .int .i64 k ∧ Below w9.heap.size w9 wr) (fun _ _ _ _ _ _ _ i _ => ids.length - (intOf i).toNat)
  case atStart => exact ⟨0, Nat.zero_le _, rfl, Below.refl _ _⟩
  case round =>
    obtain ⟨k, hk, rfl, hb0⟩ := hrel
    clear x1 x2 x3 x4 x5 x6
    by_cases hlt2 : k < ids.length
    · have hlt3 : (k : Int) < (ids.length : Int) := by omega
      have hk0 : (0 : Int) ≤ (k : Int) := by omega
      have hi8 : (ids.length : Int) ≤ 8 := by have := HIL.out; have := H8.out; omega
      obtain ⟨b, off, hve, hcel⟩ : ∃ b off, fa = some ⟨b, off, none⟩ ∧ ∀ i, i < ids.length * 1 → wr.cell? ⟨b, off + i, none⟩ = u64C ids i := by
        rcases HI9.out.run hb0 with ⟨h0, _⟩ | ⟨h0, h1, b, off, cap, hv, hbl, hcel⟩
        · omega
        · obtain ⟨e1, -, -⟩ := Value.slice.inj hv
          exact ⟨b, off, e1, hcel⟩
      subst hve
      obtain ⟨y, hy, e0⟩ := id_cell hcel k hlt2
      have HY := Lib.hid hy
      have r17 : RowAt (wr.alloc (.cells #[.int .u64 y] 22)) wr.heap.size 22 #[.int .u64 y] := RowAt.new _ _ _
      have hb17 : Below wr.heap.size wr (wr.alloc (.cells #[.int .u64 y] 22)) := (Below.refl _ _).alloc (Nat.le_refl _) _
      have hb917 := below_run hb0 hb17
      have CT := Lib.hid (find_tell wr.heap.size y _ L _ (HD9.out.run hb917) r17)
      have HB17 := Lib.hid hb917
      clear hcel hy r17 hb17 hb917
      go_wp2_with fail
      refine CT.out.mono ?_
      rintro e w10 ⟨n, rfl, hfo, hb10⟩
      have HB10 := Lib.hid (below_run HB17.out hb10)
      obtain ⟨j', d, rfl, hdj, hdy⟩ : ∃ (j : Nat) (d : Dev), n = j ∧ L[j]? = some d ∧ d.id = y := by
        rcases hfo with ⟨-, h⟩ | h
        · obtain ⟨d, hd, e⟩ := HIN.out y (List.mem_of_getElem? HY.out)
          exact absurd e (h d hd)
        · exact h
      have hck := devs_chk HDL.out d (List.mem_of_getElem? hdj)
      have hjl : j' < L.length := (List.getElem?_eq_some_iff.1 hdj).1
      have hrk := HR.out k y HY.out d (List.mem_of_getElem? hdj) hdy
      obtain ⟨s, hs⟩ : ∃ s, (shownD d p).1 = s := ⟨_, rfl⟩
      obtain ⟨rr, hrr⟩ : ∃ r, (shownD d p).2 = r := ⟨_, rfl⟩
      have hrd : readD d p = (s, rr, 0) := by rw [readD, if_neg (not_not_intro hck), hs, hrr]
      rw [tellR, hs, hrr] at hrk
      obtain ⟨b2, off2, hve2, hcel2⟩ : ∃ b off, va = some ⟨b, off, none⟩ ∧ ∀ i, i < L.length * 7 → w10.cell? ⟨b, off + i, none⟩ = devsC L i := by
        rcases HD9.out.run HB10.out with ⟨h0, _⟩ | ⟨h0, h1, b, off, cap, hv, hbl, hcel⟩
        · omega
        · obtain ⟨e1, -, -⟩ := Value.slice.inj hv
          exact ⟨b, off, e1, hcel⟩
      subst hve2
      obtain ⟨d', hd', e10, e11, e12, e13, e14, e15, e16⟩ := dev_cells hcel2 j' hjl
      rw [hdj] at hd'
      cases hd'
      have CR := read_top d.id d.ft d.ad d.hr p d.lb d.mu d.idf w10
      rw [show readD ⟨d.id, d.ft, d.ad, d.lb, d.hr, d.mu, d.idf⟩ p = (s, rr, 0) from hrd] at CR
      have CRH := Lib.hid CR
      have HRK := Lib.hid hrk
      have hjL : (j' : Int) < (L.length : Int) := by omega
      have hj0' : (0 : Int) ≤ (j' : Int) := by omega
      have hjneg : ¬ (j' : Int) < 0 := by omega
      clear hfo hdj hdy hck hrk hs hrr hrd hcel2 CR hjl hb10 CT
      go_wp2_with fail
      refine CRH.out.mono ?_
      rintro e w11 ⟨he, hb11⟩
      have he' : e = .returned (.tuple #[.string s, .int .i64 rr, .int .i64 0]) := he
      subst he'
      have HB11 := Lib.hid (below_run HB10.out hb11)
      obtain ⟨b3, off3, hve3, hcel3⟩ : ∃ b off, ra = some ⟨b, off, none⟩ ∧ ∀ i, i < R.length * 4 → w11.cell? ⟨b, off + i, none⟩ = rslC R i := by
        rcases HR9.out.run HB11.out with ⟨h0, _⟩ | ⟨h0, h1, b, off, cap, hv, hbl, hcel⟩
        · have := HRL.out
          omega
        · obtain ⟨e1, -, -⟩ := Value.slice.inj hv
          exact ⟨b, off, e1, hcel⟩
      subst hve3
      obtain ⟨a, ha, f0, f1', f2, f3⟩ := rsl_cells hcel3 k (by have := HRL.out; omega)
      have hkR : (k : Int) < (R.length : Int) := by have := HRL.out; omega
      rw [HRK.out] at ha
      have hsz11 := HB11.out.size
      have hb11' := hb11
      by_cases hr0 : 0 ≤ rr
      · rw [if_pos hr0] at ha
        cases ha
        clear he hcel3 e10 e11 e12 e13 e14 e15 e16
        have hr1 : ¬ rr < 0 := by omega
        go_wp2
        go_roundw
        case rel =>
          have hsz0 := hb0.size
          have hsz10 := HB10.out.size
          have hB := HB11.out
          exact ⟨k + 1, by omega, by go_num, by (repeat' (first | (with_reducible exact Below.refl _ _) | (with_reducible assumption) | (with_reducible refine below_run ?_ (by assumption)) | (with_reducible refine below_of_upd ?_ (by assumption) ?_) | (with_reducible refine below_drewN ?_ _) | (with_reducible refine Below.drew ?_) | (with_reducible refine below_seven ?_ ?_) | (with_reducible refine below_six ?_ ?_) | (with_reducible refine below_one ?_ ?_) | (with_reducible refine Below.alloc ?_ ?_ _) | (with_reducible refine below_after ?_ ?_ (by assumption)) | (show _ ≤ _; first | omega | (simp; done) | (simp; omega))))⟩
        case measure => simp [intOf]; omega
      · rw [if_neg hr0] at ha
        cases ha
        clear he hcel3 e10 e11 e12 e13 e14 e15 e16
        have hr1 : rr < 0 := by omega
        go_wp2
        go_roundw
        case rel =>
          have hsz0 := hb0.size
          have hsz10 := HB10.out.size
          have hB := HB11.out
          exact ⟨k + 1, by omega, by go_num, by (repeat' (first | (with_reducible exact Below.refl _ _) | (with_reducible assumption) | (with_reducible refine below_run ?_ (by assumption)) | (with_reducible refine below_of_upd ?_ (by assumption) ?_) | (with_reducible refine below_drewN ?_ _) | (with_reducible refine Below.drew ?_) | (with_reducible refine below_seven ?_ ?_) | (with_reducible refine below_six ?_ ?_) | (with_reducible refine below_one ?_ ?_) | (with_reducible refine Below.alloc ?_ ?_ _) | (with_reducible refine below_after ?_ ?_ (by assumption)) | (show _ ≤ _; first | omega | (simp; done) | (simp; omega))))⟩
        case measure => simp [intOf]; omega
    · have HBw := Lib.hid hb0
      have r8 := R89.out.run hb0
      have HI := Lib.hid (HI9.out.run hb0)
      obtain ⟨x1, x2, x3, x4, x5, x6⟩ := row_facts r8
      obtain rfl : k = ids.length := Nat.le_antisymm hk (Nat.le_of_not_lt hlt2)
      clear r8 hb0 hlt2 hk
      rename World => wx
      go_wp2
      go_loopw [23] (fun m wr => ∃ k : Nat, 1 ≤ k ∧ k ≤ ids.length + 1 ∧ m = .int .u64 k ∧ (∀ i : Nat, 1 ≤ i → i < k → (i : Int) ∈ ids) ∧ Below wx.heap.size wx wr) (fun m _ => ids.length + 1 - (intOf m).toNat)
      case atStart => exact ⟨1, Nat.le_refl _, by omega, rfl, (fun i h1 h2 => by omega), Below.refl _ _⟩
      case round =>
        obtain ⟨m, hm1, hm2, rfl, hall, hbr⟩ := hrel
        clear x1 x2 x3 x4 x5 x6
        have r8 := (R89.out.run HBw.out).run hbr
        obtain ⟨x1, x2, x3, x4, x5, x6⟩ := row_facts r8
        obtain ⟨q, hq⟩ : ∃ q, decide ((m : Int) ∈ ids) = q := ⟨_, rfl⟩
        have CC := contains_ids (.slice fa ids.length fc) ids (m : Int) wr (HI.out.run hbr)
        rw [hq] at CC
        have CCH := Lib.hid CC
        have HALL := Lib.hid hall
        have hi8 : (ids.length : Int) ≤ 8 := by have := HIL.out; have := H8.out; omega
        have hm8 : (m : Int) ≤ 9 := by omega
        clear r8 CC hall
        cases q with
        | true =>
          have hin := of_decide_eq_true hq
          have hmi : m ≤ ids.length := missing_le HND.out fun i h1 h2 => by
            by_cases e : i = m
            · subst e; exact hin
            · exact HALL.out i h1 (by omega)
          have HMI := Lib.hid hmi
          have HIN2 := Lib.hid hin
          clear hq hin hmi
          go_wp2_with fail
          refine CCH.out.mono ?_
          rintro e w12 ⟨rfl, hb12⟩
          go_wp2
          go_roundw
          case rel => exact ⟨m + 1, by omega, by have := HMI.out; omega, by go_num, (fun i h1 h2 => by
            by_cases e : i = m
            · subst e; exact HIN2.out
            · exact HALL.out i h1 (by omega)), below_run hbr hb12⟩
          case measure =>
            have := HMI.out
            simp [intOf]
            omega
        | false =>
          have hnin := of_decide_eq_false hq
          have hmid : isId (m : Int) = true := by simp only [isId, decide_eq_true_eq]; omega
          obtain ⟨a1, a2, a3, a4, -⟩ := reads_law (x := ⟨src, 0, 2⟩) (l := L) (id := (m : Int)) (par := p) HM.out (tells_wire HDL.out) hmid PP0.out PP1.out
          have a4 := a4 fun d hd e => hnin (e ▸ HAL.out d hd)
          have hU := askU_of a1
          obtain ⟨⟨⟨o1, o2, o3⟩, ⟨g1, g2, g3⟩, ⟨b1, b2, b3, b4⟩⟩, hA⟩ : ∃ A, askM ⟨src, 0, 2⟩ ⟨L, [], []⟩ ⟨(m : Int), 4, p, ⟨#[]⟩⟩ = A := ⟨_, rfl⟩
          rw [hA] at hU a4
          dsimp only at a4
          cases a4
          go_wp2_with fail
          refine CCH.out.mono ?_
          rintro e w12 ⟨rfl, hb12⟩
          have hbw12 := below_run (below_run (Below.refl _ _) HBw.out) (below_run hbr hb12)
          have r10 := R109.out.run hbw12
          have r14 := R149.out.run hbw12
          have hbz := below_run HB9.out hbw12
          have CA := ask_lift (V := w12) (W := w12) hU a1 (HW9.out.run hbw12).at (Below.refl _ _)
          have CAH := Lib.hid CA
          have HBZ12 := Lib.hid hbz
          clear x1 x2 x3 x4 x5 x6 hbw12 hbz CA hU hA a1 a2 a3 hb12 hbr hq hnin hmid CCH
          obtain ⟨x1, x2, x3, x4, x5, x6⟩ := row_facts r10
          obtain ⟨y1, y2, y3, y4, y5, y6⟩ := row_facts r14
          clear r10 r14
          go_wp2_with fail
          refine CAH.out.mono ?_
          rintro e w13 ⟨⟨d2, f2, l2, i4, i5, i6, he, -⟩, hb13⟩
          have he' : e = .returned (.tuple #[.agg #[.int .u64 o1, .int .i64 o2, .int .i64 o3], .agg #[.slice d2 g1.length i4, .slice f2 g2.length i5, .slice l2 g3.length i6], .agg #[.int .i64 2, .string ⟨#[]⟩, .int .i64 0, .int .i64 2], .int .i64 0]) := he
          subst he'
          have HB13 := Lib.hid (below_run HBZ12.out hb13)
          clear he x1 x2 x3 x4 x5 x6 y1 y2 y3 y4 y5 y6 hb13
          go_upto_region 26 with fail
          rw [show w13.heap.size + 1 + 1 = w13.heap.size + 2 from rfl]
          have hbT : Below w13.heap.size w13 (((w13.alloc (.cells #[.int .u64 o1, .int .i64 o2, .int .i64 o3] 24)).alloc (.cells #[.slice d2 g1.length i4, .slice f2 g2.length i5, .slice l2 g3.length i6] 29)).alloc (.cells #[.int .i64 2, .string ⟨#[]⟩, .int .i64 0, .int .i64 2] 53)) := by (repeat' (first | (with_reducible exact Below.refl _ _) | (with_reducible assumption) | (with_reducible refine below_run ?_ (by assumption)) | (with_reducible refine below_of_upd ?_ (by assumption) ?_) | (with_reducible refine below_drewN ?_ _) | (with_reducible refine Below.drew ?_) | (with_reducible refine below_seven ?_ ?_) | (with_reducible refine below_six ?_ ?_) | (with_reducible refine below_one ?_ ?_) | (with_reducible refine Below.alloc ?_ ?_ _) | (with_reducible refine below_after ?_ ?_ (by assumption)) | (show _ ≤ _; first | omega | (simp; done) | (simp; omega))))
          have t9 : RowAt (((w13.alloc (.cells #[.int .u64 o1, .int .i64 o2, .int .i64 o3] 24)).alloc (.cells #[.slice d2 g1.length i4, .slice f2 g2.length i5, .slice l2 g3.length i6] 29)).alloc (.cells #[.int .i64 2, .string ⟨#[]⟩, .int .i64 0, .int .i64 2] 53)) (w13.heap.size + 2) 53 #[.int .i64 2, .string ⟨#[]⟩, .int .i64 0, .int .i64 2] := RowAt.mk (by simp) rfl
          have hbw := below_run HB13.out hbT
          generalize (((w13.alloc (.cells #[.int .u64 o1, .int .i64 o2, .int .i64 o3] 24)).alloc (.cells #[.slice d2 g1.length i4, .slice f2 g2.length i5, .slice l2 g3.length i6] 29)).alloc (.cells #[.int .i64 2, .string ⟨#[]⟩, .int .i64 0, .int .i64 2] 53)) = V at hbT t9 hbw ⊢
          generalize w13.heap.size + 2 = k9 at t9 ⊢
          have HBV := Lib.hid hbw
          obtain ⟨x1, x2, x3, x4, x5, x6⟩ := row_facts t9
          clear hbT t9 hbw
          go_wp2_with fail
          refine (playBus_any _).mono ?_
          rintro e w14 ⟨rfl, hb14⟩
          go_wp2
          go_ret
          exact ⟨rfl, below_run HBV.out hb14⟩
end Go.Proofs.YtpjmhhfpjhmiiaaGreat
