/- WHAT IS PROVED: the call of ChainEpochs answers true, and leaves its arguments as they were, at every input that the given row takes. No condition of its own. -/
import Derived.Test.YthlbahcggmbfaaaEpochs2
set_option linter.unusedVariables false
set_option linter.unusedSimpArgs false

namespace Go.Proofs.Ythlbahcggmbfaaa.V
open Hist (Le)
structure SInv (w : Ward) (s : Hs) (n : Nat) : Prop where
 inv : s.Inv
 n1 : 1 <= s.n
 nl : s.n <= n + 1
 nx0 : 0 <= w.next
 nx : w.next <= n
 five : w.rs.length = 5
 reps : ∀ i < 5, RepOk s i (nthR w.rs i)
 rows : ∀ i e, fine w.next (s.H i e)
 lt5 : ∀ e, ∀ x ∈ s.mem e, x < 5
 jn1 : s.jn s.n = true -> ∀ e, s.n = e + 1 -> 1 <= e
 conf : ∀ c ∈ w.all, ∃ (e : Nat) (j : Bool), 1 <= e /\ e <= s.n /\ c = [D.int (e : Nat), D.row (memD (s.mem e)), D.bool j] /\ (j = false -> s.jn e = false) /\ (j = true -> ∀ x, (s.mem e).getLast? = some x -> ∃ e', e = e' + 1 /\ 1 <= e' /\ ¬ s.full e' x)
 tab : w.c = ⟨(s.n : Nat), memD (s.mem s.n), s.jn s.n⟩
 some_ : 0 < w.all.length
 one : ∃ x, s.full s.n x
 way : ∀ m ∈ w.way, okMsg s m
 best : s.comm w.best
 bad : w.bad = false
section
variable {s : Hs} {i : Nat} {r : Rep}
def RStep (s : Hs) (nx : Int) (i : Nat) (q : Rep × List (List D)) : Prop :=
 ∃ s' : Hs, s'.Inv /\ Le s s' /\ (s'.n = s.n /\ s'.jn = s.jn /\ ∀ e, s'.mem e = s.mem e) /\ (∀ j, j ≠ i -> s'.ep j = s.ep j /\ ∀ e, s'.H j e = s.H j e) /\ (∀ e, fine nx (s'.H i e)) /\ RepOk s' i q.1 /\ ∀ m ∈ q.2, okMsg s' m
theorem RStep.same (h : s.Inv) {nx : Int} (hf : ∀ e, fine nx (s.H i e)) {q : Rep × List (List D)} (h1 : RepOk s i q.1) (h2 : ∀ m ∈ q.2, okMsg s m) : RStep s nx i q :=
 ⟨s, h, Le.refl s, ⟨rfl, rfl, fun _ => rfl⟩, fun _ _ => ⟨rfl, fun _ => rfl⟩, hf, h1, h2⟩
theorem add_fine (s : Hs) {nx : Int} {c : List D} (hf : ∀ e, fine nx (s.H i e)) (hc : fine nx (s.H i (s.ep i) ++ [c])) : ∀ e, fine nx ((s.add i c).H i e) := fun e => by
 by_cases q : i = i /\ s.ep i <= e
 ·rw [Hist.add_at s i c q.2]; exact hc
 ·rw [Hist.add_lo s i c q]; exact hf e
theorem RStep.adds (h : s.Inv) (hr : RepOk s i r) (hl : r.live = true) {nx : Int} (hf : ∀ e, fine nx (s.H i e)) (cmd : ByteArray) (hc : fine nx (s.H i (s.ep i) ++ [[D.str cmd]]))
  (hp : ∀ z, [z, i].Sublist (s.mem (s.ep i)) -> s.H i (s.ep i) ++ [[D.str cmd]] <+: s.H z (s.ep i)) : RStep s nx i (r.add cmd) := by
 obtain ⟨a, b, c⟩ := hr.adds h hl nx cmd hc hp
 exact ⟨_, a, Hist.add_Le h i _, ⟨rfl, rfl, fun _ => rfl⟩, fun j hj => ⟨rfl, fun e => Hist.add_lo s i _ (fun q => hj q.1)⟩, add_fine s hf hc, b, c⟩
theorem RStep.order (h : s.Inv) (hr : RepOk s i r) {nx : Int} (h0 : 0 <= nx) (hf : ∀ e, fine nx (s.H i e)) : RStep s (nx + 1) i (r.order (textS (nx + 1))) := by
 have hf1 : ∀ e, fine (nx + 1) (s.H i e) := fun e => fine_mono (hf e) (by omega)
 unfold Rep.order
 cases hh : r.head with
 | false => rw [if_neg (by decide)]; exact RStep.same h hf1 hr (fun m hm => by cases hm)
 | true =>
  rw [if_pos rfl]
  unfold Rep.head at hh
  rw [Bool.and_eq_true, decide_eq_true_iff, hr.mem, hr.id] at hh
  obtain ⟨a, b, e1, e2, e3⟩ := atL_in (hr.live hh.1)
  refine RStep.adds h hr hh.1 hf1 _ (fine_snoc (hf _) h0) (fun z hz => ?_)
  exfalso
  rw [e3] at hh
  have ha : a = [] := List.length_eq_zero_iff.1 (by omega)
  subst ha
  have hn := h.nd (s.ep i)
  have hne := Hist.pair_ne hn hz
  rw [e1] at hz hn
  simp only [List.nil_append] at hz hn
  rcases List.sublist_cons_iff.1 hz with q | ⟨l, q1, q2⟩
  ·exact (List.nodup_cons.1 hn).1 (q.subset (by simp))
  ·injection q1 with q3 _; exact hne q3
theorem heardOf_ok (hr : RepOk s i r) (m : List D) (hp : r.live = true -> ∃ p e, s.ep i = e + 1 /\ adj (s.mem (s.ep i)) p i /\ s.A p (s.ep i) /\ ((s.H p e).length : Int) <= (cell 5 m).toInt) : RepOk s i (r.heardOf m) :=
 { hr with
  heard := fun q _ => by
   obtain ⟨p, e, a, b, c, d⟩ := hp q
   refine ⟨p, e, a, b, c, ?_⟩
   show _ <= (if (cell 5 m).toInt > r.need then (cell 5 m).toInt else r.need)
   split <;> omega }
theorem ackedOf_ok (hr : RepOk s i r) {k : Nat} (hk : k <= r.row.length) (hc : s.comm (r.row.take k)) : ∃ a : Nat, r.ackedOf (k : Nat) = a /\ a <= r.row.length /\ s.comm (r.row.take a) := by
 obtain ⟨a, h1, h2, h3⟩ := hr.ack
 unfold Rep.ackedOf
 rw [if_neg (show ¬ (r.row.length : Int) < (k : Nat) by omega)]
 by_cases q : ((k : Nat) : Int) > r.acked
 ·rw [if_pos q]; exact ⟨k, rfl, hk, hc⟩
 ·rw [if_neg q]; exact ⟨a, h1, h2, h3⟩
theorem RStep.receive (h : s.Inv) (hr : RepOk s i r) {nx : Int} (hf : ∀ j e, fine nx (s.H j e)) (m : List D) (hm : okMsg s m) : RStep s nx i (r.receive m) := by
 unfold Rep.receive
 cases hmi : r.mine m with
 | false => rw [if_neg (by decide)]; exact RStep.same h (hf i) hr (fun m hm => by cases hm)
 | true =>
  rw [if_pos rfl]
  unfold Rep.mine at hmi
  rw [Bool.and_eq_true, Bool.and_eq_true, Bool.and_eq_true, decide_eq_true_iff, decide_eq_true_iff] at hmi
  obtain ⟨hl, hto, hep, _⟩ := hmi
  rw [hr.id] at hto
  rw [hr.ep] at hep
  obtain ⟨p1, p2⟩ := hr.epos h hl
  by_cases q0 : (cell 0 m).toInt = 0 /\ (cell 1 m).toInt = r.before
  ·rw [if_pos q0]
   obtain ⟨x, y, e, a1, a2, a3, a4, a5, a6, a7⟩ := hm.1 q0.1
   have hy : y = i := by omega
   have he : s.ep i = e + 1 := by omega
   subst hy
   rw [<- he] at a4 a5 a6
   have k1 : RepOk s y (r.heardOf m) := heardOf_ok hr m (fun _ => ⟨x, e, he, a4, a5, a7⟩)
   unfold Rep.passed
   by_cases q1 : (cell 6 m).toBool = true /\ (cell 4 m).toInt = r.row.length
   ·rw [if_pos q1]
    obtain ⟨k, b1, b2⟩ := a6 q1.1
    have hk : k = (s.H y (s.ep y)).length := by rw [<- hr.row]; omega
    have hpre : s.H y (s.ep y) <+: s.H x (s.ep y) := h.C _ _ _ p2 (adj_sub a4)
    have hpre2 : s.H y (s.ep y) ++ [[D.str (cell 7 m).toStr]] <+: s.H x (s.ep y) := by
     obtain ⟨t, ht⟩ := hpre
     rw [<- ht, hk, List.getElem?_append_right (Nat.le_refl _), Nat.sub_self] at b2
     cases t with
     | nil => cases b2
     | cons c t =>
      simp only [List.getElem?_cons_zero, Option.some.injEq] at b2
      subst b2
      exact ⟨t, by rw [<- ht]; simp⟩
    have hfx := fine_prefix (hf x (s.ep y)) hpre2
    obtain ⟨c1, c2, c3⟩ := k1.adds h hl nx (cell 7 m).toStr hfx (fun z hz => by
     rcases adj_ahead (h.nd _) a4 hz with q | q
     ·subst q; exact hpre2
     ·exact hpre2.trans (h.D _ _ _ (Hist.pair_full h (adj_sub a4)) q))
    refine ⟨_, c1, Hist.add_Le h y _, ⟨rfl, rfl, fun _ => rfl⟩, fun j hj => ⟨rfl, fun e => Hist.add_lo s y _ (fun q => hj q.1)⟩, add_fine s (hf y) hfx, c2, fun m2 h2 => ?_⟩
    rcases List.mem_append.1 h2 with h3 | h3
    ·exact c3 m2 h3
    ·refine c2.acks c1 ?_ m2 h3
     rw [add_same]; exact hl
   ·rw [if_neg q1]
    exact RStep.same h (hf y) k1 (fun m2 h2 => k1.acks h hl m2 h2)
  ·rw [if_neg q0]
   by_cases q1 : (cell 0 m).toInt = 1 /\ (cell 1 m).toInt = r.next
   ·rw [if_pos q1]
    obtain ⟨x, y, e, k, a1, a2, a3, a4, a5, a6, a7, a8⟩ := hm.2 q1.1
    have hx : x = i := by omega
    have he : e = s.ep i := by omega
    subst hx he
    have hpre : s.H y (s.ep x) <+: r.row := by rw [hr.row]; exact h.C _ _ _ a5 (adj_sub a4)
    have hk := ackedOf_ok hr (k := k) (Nat.le_trans a7 hpre.length_le) (by rw [take_pre hpre a7]; exact a8)
    unfold Rep.acknowledged
    rw [a6]
    by_cases q2 : r.ackedOf (k : Nat) <= r.commit
    ·rw [if_pos q2]
     exact RStep.same h (hf x) { hr with ack := hk } (fun m2 h2 => by cases h2)
    ·rw [if_neg q2]
     have k1 : RepOk s x { r with acked := r.ackedOf (k : Nat), commit := r.ackedOf (k : Nat) } := { hr with ack := hk, com := hk }
     exact RStep.same h (hf x) k1 (fun m2 h2 => k1.acks h hl m2 h2)
   ·rw [if_neg q1]; exact RStep.same h (hf i) hr (fun m hm => by cases hm)
theorem was_le (h : s.Inv) {y e : Nat} (he : s.ep i = e + 1) (ha : adj (s.mem (s.ep i)) i y) : s.H i e <+: s.H i (s.ep i) := by
 rw [he] at ha ⊢
 by_cases q : e = 0
 ·subst q; rw [h.H0]; exact List.nil_prefix
 ·have h1 := adj_mem ha
  have h2 := adj_last (h.nd _) ha
  exact h.M e i (by omega) (h.stp2 e i (by omega) h1.1 h2) (Hist.pair_full h (adj_sub ha))
theorem adopt3_ok (h : s.Inv) (hr : RepOk s i r) : RepOk s i r.adopt3 := by
 unfold Rep.adopt3
 by_cases ht : r.tail = true
 ·rw [if_pos ht]
  exact { hr with com := ⟨r.row.length, rfl, Nat.le_refl _, by show Hist.comm _ (r.row.take _); rw [List.take_length]; exact hr.all h ht⟩ }
 ·rw [if_neg ht]; exact hr
theorem adopts_ok (h : s.Inv) (hr : RepOk s i { r with live := false, acked := 0 }) (hl : i ∈ s.mem (s.ep i))
  (hb : ∀ y e, adj (s.mem (s.ep i)) i y -> s.ep i = e + 1 -> (s.H i e).length <= r.row.length) : RepOk s i (r.adopt2.adopt3.adopt4 false) := by
 have k2 : RepOk s i { r.adopt2 with acked := 0, base := (r.row.length : Nat), heard := false, need := 0 } := {
  id := hr.id
  ep := hr.ep
  mem := hr.mem
  row := hr.row
  live := fun _ => hl
  com := hr.com
  ack := ⟨0, rfl, Nat.zero_le _, .inl rfl⟩
  base := fun _ y e a b => by have := hb y e a b; show ((s.H i e).length : Int) <= (r.row.length : Nat); omega
  heard := fun _ q => by cases q }
 have e : r.adopt2.adopt3.adopt4 false = Rep.adopt3 { r.adopt2 with acked := 0, base := (r.row.length : Nat), heard := false, need := 0 } := by
  unfold Rep.adopt3
  have e2 : ({ r.adopt2 with acked := 0, base := (r.row.length : Nat), heard := false, need := 0 } : Rep).tail = r.adopt2.tail := rfl
  rw [e2]
  cases r.adopt2.tail <;> rfl
 rw [e]
 exact adopt3_ok h k2
theorem adopt2_same (hr : RepOk s i { r with live := false, acked := 0 }) : r.adopt2 = { r with live := decide (i ∈ s.mem (s.ep i)) } := by
 unfold Rep.adopt2
 rw [show r.mem = memD (s.mem (s.ep i)) from hr.mem, show r.id = (i : Nat) from hr.id]
 congr 1
 exact decide_eq_decide.2 atL_mem
theorem RepOk.dead (hr : RepOk s i r) : RepOk s i { r with live := false } :=
 { hr with live := fun q => (by cases q), base := fun q => (by cases q), heard := fun q => (by cases q) }
def okConf (s : Hs) (c : List D) : Prop := ∃ (e : Nat) (j : Bool), 1 <= e /\ e <= s.n /\ c = [D.int (e : Nat), D.row (memD (s.mem e)), D.bool j] /\ (j = false -> s.jn e = false) /\ (j = true -> ∀ x, (s.mem e).getLast? = some x -> ∃ e', e = e' + 1 /\ 1 <= e' /\ ¬ s.full e' x)
theorem RStep.ends (h : s.Inv) {q : Rep} (hq : RepOk s i { q with live := false, acked := 0 }) (ha : ¬ i ∈ s.mem (s.ep i) -> RepOk s i { q with live := false }) {nx : Int} (hf : ∀ e, fine nx (s.H i e)) (was : Bool) (hw : was = true -> RepOk s i { q with live := true } /\ i ∈ s.mem (s.ep i))
  (hb : ∀ y e, adj (s.mem (s.ep i)) i y -> s.ep i = e + 1 -> (s.H i e).length <= q.row.length) :
  RepOk s i (if q.adopt2.live then (q.adopt2.adopt3.adopt4 was, (q.adopt2.adopt3.adopt4 was).again) else (q.adopt2, [])).1 /\
  ∀ m ∈ (if q.adopt2.live then (q.adopt2.adopt3.adopt4 was, (q.adopt2.adopt3.adopt4 was).again) else (q.adopt2, [])).2, okMsg s m := by
 have e2 := adopt2_same hq
 by_cases hl : i ∈ s.mem (s.ep i)
 ·have hlv : q.adopt2.live = true := by rw [e2]; exact decide_eq_true hl
  rw [if_pos hlv]
  have k : RepOk s i (q.adopt2.adopt3.adopt4 was) := by
   cases was with
   | false => exact adopts_ok h hq hl hb
   | true =>
    have : q.adopt2 = { q with live := true } := by rw [e2, decide_eq_true hl]
    show RepOk s i q.adopt2.adopt3
    rw [this]
    exact adopt3_ok h (hw rfl).1
  exact ⟨k, k.again h nx (hf _)⟩
 ·have hlv : q.adopt2.live = false := by rw [e2]; exact decide_eq_false hl
  rw [hlv, if_neg (by decide)]
  refine ⟨?_, fun m hm => by cases hm⟩
  show RepOk s i q.adopt2
  rw [e2, decide_eq_false hl]
  exact ha hl
theorem RStep.adopt (h : s.Inv) (hr : RepOk s i r) {nx : Int} (hf : ∀ e, fine nx (s.H i e)) {c : List D} (hc : okConf s c) : RStep s nx i (r.adopt c) := by
 obtain ⟨e, j, c1, c2, rfl, c3, c4⟩ := hc
 have g0 : (cell 0 [D.int (e : Nat), D.row (memD (s.mem e)), D.bool j]).toInt = (e : Nat) := of_eq_true (eq_self _)
 have g1 : (cell 1 [D.int (e : Nat), D.row (memD (s.mem e)), D.bool j]).toRows = memD (s.mem e) := of_eq_true (eq_self _)
 have g2 : (cell 2 [D.int (e : Nat), D.row (memD (s.mem e)), D.bool j]).toBool = j := of_eq_true (eq_self _)
 unfold Rep.adopt Rep.adopt1
 have hre := hr.ep
 rw [g0, g1, g2]
 by_cases q0 : (e : Int) < r.ep
 ·rw [if_pos q0]; exact RStep.same h hf hr (fun m hm => by cases hm)
 ·rw [if_neg q0]
  by_cases q1 : r.ep < (e : Nat)
  ·simp only [if_pos q1]
   rw [show (r.live && decide (((e : Nat) : Int) = r.ep)) = false by rw [eq_false (show ¬ ((e : Nat) : Int) = r.ep by omega), Bool.and_false]]
   have hlt : s.ep i < e := by omega
   obtain ⟨e', rfl⟩ : ∃ e', e = e' + 1 := ⟨e - 1, by omega⟩
   have hH : s.H i e' = r.row := by rw [h.T e' i (by omega), hr.row]
   have hlast : ({ r with ep := ((e' + 1 : Nat) : Int), mem := memD (s.mem (e' + 1)), join := j } : Rep).last = true ↔ (s.mem (e' + 1)).getLast? = some i := by
    show (decide (0 < (memD (s.mem (e' + 1))).length) && decide (atL (memD (s.mem (e' + 1))) r.id = ((memD (s.mem (e' + 1))).length : Int) - 1)) = true ↔ _
    rw [Bool.and_eq_true, decide_eq_true_iff, decide_eq_true_iff, hr.id, memD_len]
    exact atL_last (h.nd _)
   by_cases q2 : (({ r with ep := ((e' + 1 : Nat) : Int), mem := memD (s.mem (e' + 1)), join := j } : Rep).last && j) = true
   ·simp only [if_pos q2]
    rw [Bool.and_eq_true] at q2
    have hla := hlast.1 q2.1
    have hnf : ¬ s.full (e' + 1) i := by
     obtain ⟨e2, a1, a2, a3⟩ := c4 q2.2 i hla
     have : e2 = e' := by omega
     subst this
     intro hfu
     rcases h.F e2 i a2 hfu with b | ⟨b, _⟩
     ·exact a3 b
     ·have := (h.A1 _ _ b).1; omega
    have hi := Hist.fresh_Inv h i (e' + 1) hlt c2 hnf
    have hle := Hist.fresh_Le h i (e' + 1) hlt
    have hep : (s.fresh i (e' + 1)).ep i = e' + 1 := Hist.goes_ep s i (e' + 1)
    have hHn : (s.fresh i (e' + 1)).H i (e' + 1) = [] := Hist.fresh_at s i (Nat.le_refl _)
    have hfi : ∀ e, fine nx ((s.fresh i (e' + 1)).H i e) := fun e => by
     by_cases q : i = i /\ e' + 1 <= e
     ·rw [Hist.fresh_at s i q.2]; exact fine_nil nx
     ·rw [Hist.fresh_lo s i (e' + 1) q]; exact hf e
    refine ⟨_, hi, hle, ⟨rfl, rfl, fun _ => rfl⟩, fun k hk => ⟨Hist.goes_ne s i (e' + 1) hk, fun e => Hist.fresh_lo s i (e' + 1) (fun q => hk q.1)⟩, hfi, ?_⟩
    refine RStep.ends hi (q := { r with ep := ((e' + 1 : Nat) : Int), mem := memD (s.mem (e' + 1)), join := j, row := [], commit := 0, told := 0 }) ?_ (fun q => absurd (by rw [hep]; exact List.mem_of_getLast? hla) q) hfi false (fun q => by cases q) (fun y e a b => ?_)
    ·exact {
      id := hr.id
      ep := by rw [hep]
      mem := by rw [hep]; rfl
      row := by rw [hep, hHn]
      live := fun q => by cases q
      com := ⟨0, rfl, Nat.le_refl _, .inl rfl⟩
      ack := ⟨0, rfl, Nat.le_refl _, .inl rfl⟩
      base := fun q => by cases q
      heard := fun q => by cases q }
    ·exfalso
     rw [hep] at a
     exact adj_last (h.nd _) a hla
   ·simp only [if_neg q2]
    have hfu : i ∈ s.mem (e' + 1) -> s.full (e' + 1) i := fun hm => ⟨hm, fun hj hla => by
     cases hjj : j with
     | true => exact q2 (by rw [Bool.and_eq_true]; exact ⟨hlast.2 hla, hjj⟩)
     | false => rw [c3 hjj] at hj; cases hj⟩
    have hi := Hist.goes_Inv h i (e' + 1) hlt c2 hfu
    have hle := Hist.goes_Le s i (e' + 1)
    have hep : (s.goes i (e' + 1)).ep i = e' + 1 := Hist.goes_ep s i (e' + 1)
    have hHn : s.H i (e' + 1) = r.row := by rw [h.T (e' + 1) i (by omega), hr.row]
    refine ⟨_, hi, hle, ⟨rfl, rfl, fun _ => rfl⟩, fun k hk => ⟨Hist.goes_ne s i (e' + 1) hk, fun e => rfl⟩, hf, ?_⟩
    obtain ⟨c, x1, x2, x3⟩ := hr.com
    obtain ⟨a, y1, y2, y3⟩ := hr.ack
    have hq : RepOk (s.goes i (e' + 1)) i { r with ep := ((e' + 1 : Nat) : Int), mem := memD (s.mem (e' + 1)), join := j, live := false } := {
      id := hr.id
      ep := by rw [hep]
      mem := by rw [hep]; rfl
      row := by rw [hep]; exact hHn.symm
      live := fun q => by cases q
      com := ⟨c, x1, x2, Hist.comm_le h hle x3⟩
      ack := ⟨a, y1, y2, Hist.comm_le h hle y3⟩
      base := fun q => by cases q
      heard := fun q => by cases q }
    refine RStep.ends hi (q := { r with ep := ((e' + 1 : Nat) : Int), mem := memD (s.mem (e' + 1)), join := j }) ?_ (fun _ => hq) hf false (fun q => by cases q) (fun y e a b => ?_)
    ·exact { hq with ack := ⟨0, rfl, Nat.zero_le _, .inl rfl⟩ }
    ·have : e = e' := by rw [hep] at b; omega
     subst this
     show (s.H i e).length <= r.row.length
     rw [hH]; exact Nat.le_refl _
  ·simp only [if_neg q1]
   have heq : e = s.ep i := by omega
   subst heq
   rw [show (r.live && decide (((s.ep i : Nat) : Int) = r.ep)) = r.live by rw [eq_true (show ((s.ep i : Nat) : Int) = r.ep from hre.symm), Bool.and_true]]
   have hd : RepOk s i { r with join := r.join && j, live := false } := { hr.dead with }
   refine ⟨s, h, Le.refl s, ⟨rfl, rfl, fun _ => rfl⟩, fun _ _ => ⟨rfl, fun _ => rfl⟩, hf, ?_⟩
   refine RStep.ends h (q := { r with join := r.join && j }) { hd with ack := ⟨0, rfl, Nat.zero_le _, .inl rfl⟩ } (fun _ => hd) hf r.live (fun q => ⟨?_, hr.live q⟩) (fun y e a b => ?_)
   ·have : RepOk s i { r with join := r.join && j } := { hr with }
    show RepOk s i { r with join := r.join && j, live := true }
    rw [<- q]; exact this
   ·show _ <= r.row.length
    rw [hr.row]
    exact (was_le h b a).length_le
theorem RStep.new (h : s.Inv) (hr : RepOk s i r) : RepOk s i (r.new (i : Nat)) where
 id := rfl
 ep := hr.ep
 mem := hr.mem
 row := hr.row
 live := fun q => by cases q
 com := ⟨0, rfl, Nat.zero_le _, .inl rfl⟩
 ack := ⟨0, rfl, Nat.zero_le _, .inl rfl⟩
 base := fun q => by cases q
 heard := fun q => by cases q
end
end Go.Proofs.Ythlbahcggmbfaaa.V

namespace Go.Proofs.Ythlbahcggmbfaaa.V
open Hist (Le)
section
variable {w : Ward} {s : Hs} {n : Nat}
theorem SInv.mono (h : SInv w s n) : SInv w s (n + 1) := { h with nl := Nat.le_succ_of_le h.nl, nx := by have := h.nx; omega }
theorem SInv.sends (h : SInv w s n) (way : List (List D)) (hw : ∀ m ∈ way, okMsg s m) : SInv { w with way := way } s n := { h with way := hw }
theorem SInv.rep (h : SInv w s n) {k : Nat} (hk : k < 5) {q : Rep × List (List D)} {nx : Int} (hnx : w.next <= nx /\ nx <= ((n + 1 : Nat) : Int)) (hq : RStep s nx k q) (way : List (List D)) (hway : ∀ m ∈ way, m ∈ w.way \/ m ∈ q.2) :
  ∃ s', SInv { w with rs := w.rs.set k q.1, way := way, next := nx } s' (n + 1) := by
 obtain ⟨s', a, b, ⟨c1, c2, c3⟩, d, e, f, g⟩ := hq
 have c3 : s'.mem = s.mem := funext c3
 have hfull : ∀ e x, s'.full e x ↔ s.full e x := fun e x => by unfold Hist.full; rw [c2, c3]
 have h5 := h.five
 refine ⟨s', {
  inv := a
  n1 := by rw [c1]; exact h.n1
  nl := by rw [c1]; have := h.nl; omega
  nx0 := Int.le_trans h.nx0 hnx.1
  nx := hnx.2
  five := by simp [h5]
  reps := fun j hj => by
   by_cases q0 : k = j
   ·subst q0; rw [nthR_set (by omega)]; exact f
   ·show RepOk s' j (nthR (w.rs.set k q.1) j)
    rw [nthR_set_ne q0]
    obtain ⟨d1, d2⟩ := d j (fun q => q0 q.symm)
    exact (h.reps j hj).le h.inv b d1 d2
  rows := fun j e2 => by
   by_cases q0 : j = k
   ·subst q0; exact e e2
   ·rw [(d j q0).2]; exact fine_mono (h.rows j e2) hnx.1
  lt5 := by rw [c3]; exact h.lt5
  jn1 := by rw [c1, c2]; exact h.jn1
  conf := fun c hc => by
   obtain ⟨e2, j, b1, b2, b3, b4, b5⟩ := h.conf c hc
   refine ⟨e2, j, b1, by rw [c1]; exact b2, by rw [c3]; exact b3, by rw [c2]; exact b4, fun hj x hx => ?_⟩
   rw [c3] at hx
   obtain ⟨e', x1, x2, x3⟩ := b5 hj x hx
   exact ⟨e', x1, x2, fun q => x3 ((hfull _ _).1 q)⟩
  tab := by rw [c1, c2, c3]; exact h.tab
  some_ := h.some_
  one := by
   obtain ⟨x, hx⟩ := h.one
   exact ⟨x, by rw [c1]; exact (hfull _ _).2 hx⟩
  way := fun m hm => by
   rcases hway m hm with q0 | q0
   ·exact okMsg_le h.inv b (h.way m q0)
   ·exact g m q0
  best := Hist.comm_le h.inv b h.best
  bad := h.bad }⟩
theorem ordered_no {kd ep nd x : Int} (h : w.c.order kd ep nd = (x, w.c)) (hx : x ≠ 0) : w.ordered kd ep nd = w := by
 unfold Ward.ordered
 rw [h, if_neg hx]
theorem ordered_yes {kd ep nd : Int} {c : Cf} (h : w.c.order kd ep nd = (0, c)) : w.ordered kd ep nd = { w with c := c, all := w.all ++ [c.d] } := by
 unfold Ward.ordered
 rw [h, if_pos rfl]
theorem SInv.newc (h : SInv w s n) (m : List Nat) (j : Bool) (nd : m.Nodup) (h5 : ∀ x ∈ m, x < 5) (ho : ∃ x, x ∈ m /\ (j = true -> m.getLast? ≠ some x))
  (s1 : ∀ x y, [x, y].Sublist m -> y ∈ s.mem s.n -> [x, y].Sublist (s.mem s.n))
  (s2 : ∀ x, x ∈ m -> m.getLast? ≠ some x -> s.full s.n x)
  (s3 : ∀ x, j = true -> m.getLast? = some x -> ¬ s.full s.n x)
  (s4 : ∀ x, j = false -> m.getLast? = some x -> s.full s.n x) :
  SInv { w with c := ⟨((s.n + 1 : Nat) : Int), memD m, j⟩, all := w.all ++ [(⟨((s.n + 1 : Nat) : Int), memD m, j⟩ : Cf).d] } (s.next m j) (n + 1) := by
 have hi := Hist.next_Inv h.inv m j h.n1 nd s1 s2 s3 s4
 have hle := Hist.next_Le s m j
 have hN : (s.next m j).n = s.n + 1 := rfl
 exact {
  inv := hi
  n1 := Nat.succ_le_succ (Nat.zero_le _)
  nl := by have := h.nl; rw [hN]; omega
  nx0 := h.nx0
  nx := by have := h.nx; show w.next <= _; omega
  five := h.five
  reps := fun k hk => (h.reps k hk).le h.inv hle rfl (fun _ => rfl)
  rows := h.rows
  lt5 := fun e x hx => by
   by_cases q : e = s.n + 1
   ·subst q; rw [Hist.next_memN] at hx; exact h5 x hx
   ·rw [Hist.next_mem s m j q] at hx; exact h.lt5 e x hx
  jn1 := fun _ e he => by rw [hN] at he; have := h.n1; omega
  conf := fun c hc => by
   rcases List.mem_append.1 hc with q | q
   ·obtain ⟨e2, j2, b1, b2, b3, b4, b5⟩ := h.conf c q
    have hne : e2 ≠ s.n + 1 := by omega
    refine ⟨e2, j2, b1, by rw [hN]; omega, by rw [Hist.next_mem s m j hne]; exact b3, by rw [Hist.next_jn s m j hne]; exact b4, fun hj x hx => ?_⟩
    rw [Hist.next_mem s m j hne] at hx
    obtain ⟨e', x1, x2, x3⟩ := b5 hj x hx
    exact ⟨e', x1, x2, fun q => x3 ((Hist.next_full s m j (by omega) x).1 q)⟩
   ·rw [List.mem_singleton] at q
    subst q
    refine ⟨s.n + 1, j, by omega, Nat.le_refl _, by rw [Hist.next_memN]; rfl, by rw [Hist.next_jnN]; exact id, fun hj x hx => ⟨s.n, rfl, h.n1, fun q => ?_⟩⟩
    rw [Hist.next_memN] at hx
    exact s3 x hj hx ((Hist.next_full s m j (by omega) x).1 q)
  tab := by rw [hN, Hist.next_memN, Hist.next_jnN]
  some_ := by simp
  one := by
   obtain ⟨x, x1, x2⟩ := ho
   exact ⟨x, by rw [hN, Hist.next_memN]; exact x1, by rw [hN, Hist.next_memN, Hist.next_jnN]; exact x2⟩
  way := fun m2 hm => okMsg_le h.inv hle (h.way m2 hm)
  best := Hist.comm_le h.inv hle h.best
  bad := h.bad }
theorem getLast_cons_append {a b : List Nat} {k : Nat} (hb : b ≠ []) : (a ++ k :: b).getLast? = b.getLast? /\ (a ++ b).getLast? = b.getLast? := by
 rcases List.eq_nil_or_concat b with q | ⟨b', z, q⟩
 ·exact absurd q hb
 ·rw [List.concat_eq_append] at q
  subst q
  constructor
  ·rw [show a ++ k :: (b' ++ [z]) = (a ++ k :: b') ++ [z] by simp, List.getLast?_concat, List.getLast?_concat]
  ·rw [<- List.append_assoc, List.getLast?_concat, List.getLast?_concat]
theorem del_memD (a b : List Nat) (k : Nat) : delAt (memD (a ++ k :: b)) a.length (a.length + 1) = memD (a ++ b) := by
 unfold delAt memD
 rw [<- List.map_take, <- List.map_drop, <- List.map_append]
 congr 1
 have e : a ++ k :: b = (a ++ [k]) ++ b := by simp
 rw [List.take_left', e, List.drop_left'] <;> simp
theorem comesW_sub {way : List (List D)} {i : Nat} {b : Bool} {m : List D} (h : m ∈ comesW way i b) : m ∈ way := by
 unfold comesW at h
 split at h
 ·exact h
 ·unfold without part at h
  rcases List.mem_append.1 h with q | q
  ·exact List.mem_of_mem_take (List.mem_of_mem_drop q)
  ·exact List.mem_of_mem_take (List.mem_of_mem_drop q)
theorem append_two {α : Type} {l : List α} {x y z : α} (h : [x, y].Sublist (l ++ [z])) (hy : y ≠ z) : [x, y].Sublist l := by
 obtain ⟨l1, l2, e1, e2, e3⟩ := List.sublist_append_iff.1 h
 cases l2 with
 | nil => rw [List.append_nil] at e1; subst e1; exact e2
 | cons u l2 =>
  have h1 := e3.length_le
  have hl2 : l2 = [] := List.length_eq_zero_iff.1 (by simp only [List.length_cons, List.length_nil] at h1; omega)
  subst hl2
  have hu : u = z := by simpa using e3.subset (List.mem_cons_self ..)
  have e4 : [x] ++ [y] = l1 ++ [u] := e1
  obtain ⟨_, e5⟩ := List.append_inj' e4 rfl
  injection e5 with e6 _
  exact absurd (e6.trans hu) hy
theorem SInv.drops (h : SInv w s n) (hn : n <= 900) {k : Nat} (ep : Int) : ∃ s', SInv (w.ordered 1 ep k) s' (n + 1) := by
 have hnl := h.nl
 have htab := h.tab
 have ce : w.c.e = (s.n : Nat) := by rw [htab]
 have cm : w.c.m = memD (s.mem s.n) := by rw [htab]
 have cj : w.c.j = s.jn s.n := by rw [htab]
 have no : ∀ x : Int, x ≠ 0 -> w.c.order 1 ep k = (x, w.c) -> ∃ s', SInv (w.ordered 1 ep k) s' (n + 1) := fun x hx e => ⟨s, by rw [ordered_no e hx]; exact h.mono⟩
 by_cases q1 : ¬ w.c.e = ep
 ·exact no 11 (by decide) (by unfold Cf.order; rw [if_pos (.inl rfl), if_pos q1])
 have ho : w.c.order 1 ep k = w.c.drop k := by unfold Cf.order; rw [if_pos (.inl rfl), if_neg q1, if_pos rfl]
 by_cases q2 : atL w.c.m k < 0
 ·exact no 6 (by decide) (by rw [ho]; unfold Cf.drop; rw [if_pos q2])
 have hk : k ∈ s.mem s.n := atL_mem.1 (by rw [cm] at q2; omega)
 obtain ⟨a, b, e1, e2, e3⟩ := atL_in hk
 by_cases q3 : (w.c.j && decide (atL w.c.m k = (w.c.m.length : Int) - 1)) = false /\ (if w.c.j then (w.c.m.length : Int) - 1 else w.c.m.length) < 2
 ·exact no 9 (by decide) (by rw [ho]; unfold Cf.drop; rw [if_neg q2, if_pos q3])
 have hnd := h.inv.nd s.n
 have hlast : decide (atL w.c.m k = (w.c.m.length : Int) - 1) = decide (b = []) := by
  rw [cm, e3, memD_len, e1]
  simp only [List.length_append, List.length_cons]
  apply decide_eq_decide.2
  constructor
  ·intro q; exact List.length_eq_zero_iff.1 (by omega)
  ·intro q; subst q; simp only [List.length_nil]; omega
 have hy : w.c.order 1 ep k = (0, ⟨((s.n + 1 : Nat) : Int), memD (a ++ b), s.jn s.n && !decide (b = [])⟩) := by
  rw [ho]; unfold Cf.drop
  rw [if_neg q2, if_neg q3, hlast, cj, cm, e3, ce, wrap_of (by omega) (by omega), Int.toNat_natCast]
  rw [show s.mem s.n = a ++ k :: b from e1, del_memD]; rfl
 rw [ordered_yes hy]
 have hsub : (a ++ b).Sublist (s.mem s.n) := by rw [e1]; exact (List.Sublist.refl a).append (List.sublist_cons_self ..)
 have hka : k ∉ a ++ b := by
  intro q
  rw [e1] at hnd
  have hp : (a ++ k :: b).Perm (k :: (a ++ b)) := List.perm_middle
  exact (List.nodup_cons.1 (hp.nodup_iff.1 hnd)).1 q
 have lastn : b ≠ [] -> (s.mem s.n).getLast? = (a ++ b).getLast? := fun hb => by
  obtain ⟨x1, x2⟩ := getLast_cons_append (a := a) (k := k) hb
  rw [e1, x1, x2]
 have lastk : b = [] -> (s.mem s.n).getLast? = some k := fun hb => by subst hb; rw [e1]; simp
 refine ⟨_, h.newc (a ++ b) _ (hnd.sublist hsub) (fun x hx => h.lt5 s.n x (hsub.subset hx)) ?_ (fun x y hxy _ => hxy.trans hsub) ?_ ?_ ?_⟩
 · 
  by_cases hb : b = []
  ·obtain ⟨x, hx1, hx2⟩ := h.one
   by_cases hj : s.jn s.n = true
   ·refine ⟨x, ?_, fun q => ?_⟩
    ·have hxk : x ≠ k := fun q => hx2 hj (by rw [lastk hb, q])
     rw [e1] at hx1
     rcases List.mem_append.1 hx1 with q | q
     ·exact List.mem_append.2 (.inl q)
     ·rcases List.mem_cons.1 q with q | q
      ·exact absurd q hxk
      ·exact List.mem_append.2 (.inr q)
    ·rw [hb] at q; simp at q
   ·have hjf : s.jn s.n = false := by simpa using hj
    rw [cj, hjf, cm, memD_len, e1, hb] at q3
    cases a with
    | nil => exfalso; apply q3; simp
    | cons x a => exact ⟨x, by simp, fun q => by rw [hb] at q; simp at q⟩
  ·rw [cj, hlast, cm, memD_len, e1, decide_eq_false hb, Bool.and_false] at q3
   simp only [List.length_append, List.length_cons] at q3
   cases hj : s.jn s.n with
   | false =>
    cases hab : a ++ b with
    | nil => exfalso; exact hb (List.append_eq_nil_iff.1 hab).2
    | cons x l => exact ⟨x, by simp, fun q => by simp at q⟩
   | true =>
    rw [hj] at q3
    have hlen : 2 <= (a ++ b).length := by
     rw [List.length_append]
     apply Nat.le_of_not_lt
     intro hlt
     apply q3
     simp only [if_true, true_and]
     omega
    cases hab : a ++ b with
    | nil => rw [hab] at hlen; simp at hlen
    | cons x l =>
     cases l with
     | nil => rw [hab] at hlen; simp at hlen
     | cons y l =>
      refine ⟨x, by simp, fun _ => ?_⟩
      have hnn := hnd.sublist hsub
      rw [hab] at hnn
      exact Hist.last_of_pair hnn (x := x) (y := y) (by simp)
 ·intro x hx hlx
  refine ⟨hsub.subset hx, fun hj hl => ?_⟩
  by_cases hb : b = []
  ·rw [lastk hb] at hl
   injection hl with hl
   subst hl
   exact hka hx
  ·rw [lastn hb] at hl; exact hlx hl
 ·intro x hj hl hf
  rw [Bool.and_eq_true] at hj
  have hb : b ≠ [] := by intro q; rw [q] at hj; simp at hj
  rw [<- lastn hb] at hl
  exact hf.2 hj.1 hl
 ·intro x hj hl
  have hx : x ∈ a ++ b := List.mem_of_getLast? hl
  refine ⟨hsub.subset hx, fun hjt hl2 => ?_⟩
  rw [hjt, Bool.true_and] at hj
  have hb : b = [] := by simpa using hj
  rw [lastk hb] at hl2
  injection hl2 with hl2
  subst hl2
  exact hka hx
theorem SInv.joins (h : SInv w s n) (hn : n <= 900) {k : Nat} (hk5 : k < 5) (ep : Int) : ∃ s', SInv (w.ordered 2 ep k) s' (n + 1) := by
 have hnl := h.nl
 have htab := h.tab
 have ce : w.c.e = (s.n : Nat) := by rw [htab]
 have cm : w.c.m = memD (s.mem s.n) := by rw [htab]
 have cj : w.c.j = s.jn s.n := by rw [htab]
 have no : ∀ x : Int, x ≠ 0 -> w.c.order 2 ep k = (x, w.c) -> ∃ s', SInv (w.ordered 2 ep k) s' (n + 1) := fun x hx e => ⟨s, by rw [ordered_no e hx]; exact h.mono⟩
 by_cases q1 : ¬ w.c.e = ep
 ·exact no 11 (by decide) (by unfold Cf.order; rw [if_pos (.inr (.inl rfl)), if_pos q1])
 have ho : w.c.order 2 ep k = w.c.join k := by unfold Cf.order; rw [if_pos (.inr (.inl rfl)), if_neg q1, if_neg (by decide), if_pos rfl]
 by_cases q2 : ¬ ((0 : Int) <= (k : Nat) /\ ((k : Nat) : Int) < 100)
 ·exact no 1 (by decide) (by rw [ho]; unfold Cf.join; rw [if_pos q2])
 by_cases q3 : 0 <= atL w.c.m k
 ·exact no 7 (by decide) (by rw [ho]; unfold Cf.join; rw [if_neg q2, if_pos q3])
 by_cases q4 : w.c.j = true
 ·exact no 9 (by decide) (by rw [ho]; unfold Cf.join; rw [if_neg q2, if_neg q3, if_pos q4])
 by_cases q5 : 7 <= w.c.m.length
 ·exact no 9 (by decide) (by rw [ho]; unfold Cf.join; rw [if_neg q2, if_neg q3, if_neg q4, if_pos q5])
 have hk : k ∉ s.mem s.n := fun q => q3 (by rw [cm]; exact atL_mem.2 q)
 have hy : w.c.order 2 ep k = (0, ⟨((s.n + 1 : Nat) : Int), memD (s.mem s.n ++ [k]), true⟩) := by
  rw [ho]; unfold Cf.join
  rw [if_neg q2, if_neg q3, if_neg q4, if_neg q5, cm, ce, wrap_of (by omega) (by omega)]
  unfold memD
  rw [List.map_append]; rfl
 rw [ordered_yes hy]
 have hnd := h.inv.nd s.n
 have hjf : s.jn s.n = false := by rw [<- cj]; simpa using q4
 have hl : (s.mem s.n ++ [k]).getLast? = some k := by simp
 have hfu : ∀ x, x ∈ s.mem s.n -> s.full s.n x := fun x hx => ⟨hx, fun q => by rw [hjf] at q; cases q⟩
 refine ⟨_, h.newc (s.mem s.n ++ [k]) true ?_ ?_ ?_ (fun x y hxy hy => append_two hxy (fun q => hk (by rw [<- q]; exact hy))) ?_ ?_ (fun x q => by cases q)⟩
 ·rw [List.nodup_append]
  refine ⟨hnd, by simp, fun a ha b hb => ?_⟩
  rw [List.mem_singleton] at hb
  subst hb
  exact fun q => hk (by rw [<- q]; exact ha)
 ·intro x hx
  rcases List.mem_append.1 hx with q | q
  ·exact h.lt5 s.n x q
  ·rw [List.mem_singleton] at q; omega
 ·obtain ⟨x, hx1, _⟩ := h.one
  refine ⟨x, List.mem_append.2 (.inl hx1), fun _ => ?_⟩
  rw [hl]
  intro q
  injection q with q
  exact hk (by rw [q]; exact hx1)
 ·intro x hx hlx
  rcases List.mem_append.1 hx with q | q
  ·exact hfu x q
  ·rw [List.mem_singleton] at q
   subst q
   exact absurd hl hlx
 ·intro x _ hlx hf
  rw [hl] at hlx
  injection hlx with hlx
  subst hlx
  exact hk hf.1
theorem SInv.fulls (h : SInv w s n) {k : Nat} (hk5 : k < 5) (hc : (nthR w.rs k).complete = true) : ∃ s', SInv (w.ordered 3 (nthR w.rs k).ep k) s' (n + 1) := by
 have hnl := h.nl
 have htab := h.tab
 have ce : w.c.e = (s.n : Nat) := by rw [htab]
 have cm : w.c.m = memD (s.mem s.n) := by rw [htab]
 have cj : w.c.j = s.jn s.n := by rw [htab]
 have hr := h.reps k hk5
 generalize nthR w.rs k = r at hc hr ⊢
 have no : ∀ x : Int, x ≠ 0 -> w.c.order 3 r.ep k = (x, w.c) -> ∃ s', SInv (w.ordered 3 r.ep k) s' (n + 1) := fun x hx e => ⟨s, by rw [ordered_no e hx]; exact h.mono⟩
 by_cases q1 : ¬ w.c.e = r.ep
 ·exact no 11 (by decide) (by unfold Cf.order; rw [if_pos (.inr (.inr rfl)), if_pos q1])
 have ho : w.c.order 3 r.ep k = w.c.full k := by unfold Cf.order; rw [if_pos (.inr (.inr rfl)), if_neg q1, if_neg (by decide), if_neg (by decide)]
 by_cases q2 : w.c.j = false
 ·exact no 9 (by decide) (by rw [ho]; unfold Cf.full; rw [if_pos q2])
 by_cases q3 : ¬ atL w.c.m k = (w.c.m.length : Int) - 1
 ·exact no 9 (by decide) (by rw [ho]; unfold Cf.full; rw [if_neg q2, if_pos q3])
 have hy : w.c.order 3 r.ep k = (0, ⟨(s.n : Nat), memD (s.mem s.n), false⟩) := by
  rw [ho]; unfold Cf.full
  rw [if_neg q2, if_neg q3, ce, cm]
 rw [ordered_yes hy]
 have hep : s.ep k = s.n := by have := hr.ep; omega
 unfold Rep.complete at hc
 rw [Bool.and_eq_true, Bool.and_eq_true, Bool.and_eq_true, decide_eq_true_iff] at hc
 obtain ⟨ht, _, hh, hne⟩ := hc
 obtain ⟨hl, hla⟩ := hr.tail h.inv ht
 obtain ⟨p, e, a1, a2, a3, a4⟩ := hr.heard hl hh
 rw [hep] at a1 a2 a3 hla
 have hj : s.jn s.n = true := by rw [<- cj]; simpa using q2
 have he1 : 1 <= e := h.jn1 hj e a1
 have hpf : s.full (e + 1) p := Hist.pair_full h.inv (adj_sub (by rw [<- a1]; exact a2))
 have hpe : s.full e p := h.inv.stp2 e p he1 hpf.1 (adj_last (h.inv.nd _) (by rw [<- a1]; exact a2))
 have hpn : s.n <= s.ep p := (h.inv.A1 _ _ a3).1
 have hAk : s.A k s.n := by have := (hr.epos h.inv hl).2; rw [hep] at this; exact this
 have h1 : s.H k s.n <+: s.H p s.n := h.inv.C _ _ _ hAk (adj_sub a2)
 have h2 : s.H p e <+: s.H p s.n := by rw [a1]; exact h.inv.M e p he1 hpe hpf
 have hrow : r.row = s.H k s.n := by rw [hr.row, hep]
 have h3 : s.H p e <+: s.H k s.n := List.prefix_of_prefix_length_le h2 h1 (by rw [<- hrow]; omega)
 have hi := Hist.fills_Inv h.inv e he1 a1 k p hj hla hAk hpe hpn h3
 have hle := Hist.fills_Le s
 have hN : s.fills.n = s.n := rfl
 exact ⟨_, {
  inv := hi
  n1 := h.n1
  nl := Nat.le_succ_of_le h.nl
  nx0 := h.nx0
  nx := by have := h.nx; show w.next <= _; omega
  five := h.five
  reps := fun k hk => (h.reps k hk).le h.inv hle rfl (fun _ => rfl)
  rows := h.rows
  lt5 := h.lt5
  jn1 := fun q => by rw [hN, Hist.fills_jnN] at q; cases q
  conf := fun c hc => by
   rcases List.mem_append.1 hc with q | q
   ·obtain ⟨e2, j2, b1, b2, b3, b4, b5⟩ := h.conf c q
    refine ⟨e2, j2, b1, b2, b3, fun hj => ?_, fun hj x hx => ?_⟩
    ·by_cases q : e2 = s.n
     ·subst q; exact Hist.fills_jnN s
     ·rw [Hist.fills_jn s q]; exact b4 hj
    ·obtain ⟨e', x1, x2, x3⟩ := b5 hj x hx
     exact ⟨e', x1, x2, fun q => x3 ((Hist.fills_full s (by omega) x).1 q)⟩
   ·rw [List.mem_singleton] at q
    subst q
    exact ⟨s.n, false, h.n1, Nat.le_refl _, rfl, fun _ => Hist.fills_jnN s, fun q => by cases q⟩
  tab := by rw [hN, Hist.fills_jnN]; rfl
  some_ := by simp
  one := ⟨k, by rw [hN]; exact ⟨List.mem_of_getLast? hla, fun q => by rw [Hist.fills_jnN] at q; cases q⟩⟩
  way := fun m2 hm => okMsg_le h.inv hle (h.way m2 hm)
  best := Hist.comm_le h.inv hle h.best
  bad := h.bad }⟩
theorem SInv.comes (h : SInv w s n) (hn0 : 0 <= w.next) (m : List D) (hm : okMsg s m) (way2 : List (List D)) (hs : ∀ m ∈ way2, m ∈ w.way) : ∃ s', SInv { w with rs := comesR w.rs m, way := way2 ++ comesM w.rs m } s' (n + 1) := by
 have hnx := h.nx
 unfold comesR comesM
 by_cases q : 0 <= toOf m /\ toOf m < 5
 ·rw [if_pos q, if_pos q]
  have hk : (toOf m).toNat < 5 := by omega
  exact h.rep hk ⟨Int.le_refl _, by omega⟩ (RStep.receive h.inv (h.reps _ hk) h.rows m hm) _ (fun m2 h2 => by
   rcases List.mem_append.1 h2 with q | q
   ·exact .inl (hs m2 q)
   ·exact .inr q)
 ·rw [if_neg q, if_neg q, List.append_nil]
  exact ⟨s, h.mono.sends _ (fun m2 h2 => h.way m2 (hs m2 h2))⟩
theorem conf_in {w : Ward} (h : 0 < w.all.length) (at_ : Int) : w.conf at_ ∈ w.all := by
 unfold Ward.conf Ward.newest
 split
 ·rename_i h0
  rw [Int.tmod_eq_emod_of_nonneg h0]
  have h1 := Int.emod_nonneg at_ (show ((w.all.length : Nat) : Int) ≠ 0 by omega)
  have h2 := Int.emod_lt_of_pos at_ (show (0 : Int) < ((w.all.length : Nat) : Int) by omega)
  exact elem_mem (by omega)
 ·exact elem_mem (by omega)
theorem SInv.op (h : SInv w s n) (hn : n <= 900) (kind node at_ : Int) : ∃ s', SInv (w.op kind node at_) s' (n + 1) := by
 have hk := nodeOf_lt node
 have hr := h.reps _ hk
 have hnx := h.nx
 have hn0 := h.nx0
 have fin : ∀ e, fine w.next (s.H (nodeOf node) e) := h.rows _
 unfold Ward.op
 simp only
 by_cases k0 : kind = 0
 ·rw [if_pos k0, wrap_of (by omega) (by omega)]
  exact h.rep hk ⟨by omega, by omega⟩ (RStep.order h.inv hr hn0 fin) _ (fun m hm => List.mem_append.1 hm)
 rw [if_neg k0]
 by_cases k1 : kind = 1
 ·rw [if_pos k1]
  refine ⟨s, h.mono.sends _ (fun m hm => ?_)⟩
  rcases List.mem_append.1 hm with q | q
  ·exact h.way m q
  ·exact hr.again h.inv w.next (fin _) m q
 rw [if_neg k1]
 by_cases k2 : kind = 2 \/ kind = 3
 ·rw [if_pos k2]
  by_cases q : 0 <= atOf w.way at_
  ·rw [if_pos q]
   obtain ⟨_, hat⟩ := (atOf_lt w.way at_).resolve_left (by omega)
   have hmem : elem (atOf w.way at_).toNat w.way ∈ w.way := elem_mem (by omega)
   have hm := h.way _ hmem
   have hsub : ∀ b, ∀ m ∈ comesW w.way (atOf w.way at_).toNat b, m ∈ w.way := fun b m hm => comesW_sub hm
   generalize elem (atOf w.way at_).toNat w.way = m at hm ⊢
   have hsub := hsub (decide (kind = 3) && decide (w.way.length < 300))
   generalize comesW w.way (atOf w.way at_).toNat (decide (kind = 3) && decide (w.way.length < 300)) = way2 at hsub ⊢
   exact h.comes hn0 m hm way2 hsub
  ·rw [if_neg q]; exact ⟨s, h.mono⟩
 rw [if_neg k2]
 by_cases k4 : kind = 4
 ·rw [if_pos k4]
  by_cases q : 0 <= atOf w.way at_
  ·rw [if_pos q]
   refine ⟨s, h.mono.sends _ (fun m hm => h.way m ?_)⟩
   exact comesW_sub (b := false) hm
  ·rw [if_neg q]; exact ⟨s, h.mono⟩
 rw [if_neg k4]
 by_cases k5 : kind = 5
 ·rw [if_pos k5]
  obtain ⟨s', hs⟩ := h.rep hk ⟨Int.le_refl _, by omega⟩ (RStep.adopt h.inv hr fin (h.conf _ (conf_in h.some_ at_))) (w.way ++ ((nthR w.rs (nodeOf node)).adopt (w.conf at_)).2) (fun m hm => List.mem_append.1 hm)
  exact ⟨s', hs⟩
 rw [if_neg k5]
 by_cases k6 : kind = 6
 ·rw [if_pos k6]
  obtain ⟨s', hs⟩ := h.rep hk (q := ((nthR w.rs (nodeOf node)).new (nodeOf node : Nat), [])) ⟨Int.le_refl _, by omega⟩ (RStep.same h.inv fin (RStep.new h.inv hr) (fun m hm => by cases hm)) w.way (fun m hm => .inl hm)
  exact ⟨s', hs⟩
 rw [if_neg k6]
 by_cases k7 : kind = 7
 ·rw [if_pos k7]; exact h.drops hn _
 rw [if_neg k7]
 by_cases k8 : kind = 8
 ·rw [if_pos k8]; exact h.joins hn hk _
 rw [if_neg k8]
 by_cases k9 : kind = 9
 ·rw [if_pos k9]
  by_cases q : (nthR w.rs (nodeOf node)).complete = true
  ·rw [if_pos q]; exact h.fulls hk q
  ·rw [if_neg q]; exact ⟨s, h.mono⟩
 rw [if_neg k9]
 exact ⟨s, h.mono⟩
theorem begins_pre {row l : List (List D)} (h : l <+: row) : beginsL row l = true := by
 unfold beginsL
 rw [Bool.and_eq_true, decide_eq_true_iff, List.all_eq_true]
 refine ⟨h.length_le, fun i hi => ?_⟩
 rw [List.mem_range] at hi
 obtain ⟨t, rfl⟩ := h
 unfold elem
 rw [List.getD_eq_getElem?_getD, List.getD_eq_getElem?_getD, List.getElem?_append_left hi]
 exact strEq_refl _
theorem see_ok {L : List (List D)} {C : List (List D) -> Prop} (hC : ∀ l, C l -> l <+: L) : ∀ (rs : List Rep) (best : List (List D)), (∀ r ∈ rs, ∃ c : Nat, r.commit = c /\ c <= r.row.length /\ C (r.row.take c)) -> C best ->
  ∃ b, seeG rs best false = (none, b, false) /\ C b
 | [], best, _, hb => ⟨best, rfl, hb⟩
 | r :: rs, best, hr, hb => by
  obtain ⟨c, h1, h2, h3⟩ := hr r (List.mem_cons_self ..)
  unfold seeG
  rw [if_neg (by omega), show part r.row 0 r.commit.toNat = r.row.take c by rw [h1, Int.toNat_natCast]; rfl]
  have hcmp : (false || !beginsL (r.row.take c) best && !beginsL best (r.row.take c)) = false := by
   rcases Nat.le_total best.length (r.row.take c).length with q | q
   ·rw [begins_pre (List.prefix_of_prefix_length_le (hC _ hb) (hC _ h3) q)]; rfl
   ·rw [begins_pre (List.prefix_of_prefix_length_le (hC _ h3) (hC _ hb) q)]; simp
  rw [hcmp]
  refine see_ok hC rs _ (fun q hq => hr q (List.mem_cons_of_mem _ hq)) ?_
  split
  ·exact h3
  ·exact hb
theorem amiss_ok {rs : List Rep} {best m : List (List D)} {j bad : Bool} : ∀ (xs : List (List D)) (i : Nat), (∀ p x, xs[p]? = some x -> (j = true /\ ((i + p : Nat) : Int) = (m.length : Int) - 1) \/ memBad rs best (cell 0 x).toInt = false) -> amissG rs best m j xs i bad = bad
 | [], _, _ => rfl
 | x :: xs, i, h => by
  unfold amissG
  have h0 := h 0 x rfl
  rw [amiss_ok xs (i + 1) (fun p y hp => by
   have := h (p + 1) y (by simpa using hp)
   rw [show i + (p + 1) = i + 1 + p by omega] at this
   exact this)]
  split
  ·rfl
  ·rename_i q
   rcases h0 with h0 | h0
   ·exact absurd h0 q
   ·rw [h0, Bool.or_false]
theorem SInv.look (h : SInv w s n) : SInv w.look s n := by
 obtain ⟨x, hx⟩ := h.one
 have h5 := h.five
 obtain ⟨b, e1, e2⟩ := see_ok (L := s.H x (s.ep x)) (C := s.comm) (fun l hl => h.inv.safe hl hx) w.rs w.best (fun r hr => by
  obtain ⟨i, hi, rfl⟩ := List.getElem_of_mem hr
  have := (h.reps i (by omega)).com
  rw [nthR_eq hi] at this
  exact this) h.best
 have hlk : lookL w.rs w.best w.bad w.c = (b, false) := by
  unfold lookL
  rw [h.bad, e1]
  simp only
  congr 1
  have htab := h.tab
  have cm : w.c.m = memD (s.mem s.n) := by rw [htab]
  have cj : w.c.j = s.jn s.n := by rw [htab]
  refine amiss_ok _ 0 (fun p y hp => ?_)
  rw [cm] at hp ⊢
  rw [cj, memD_len]
  unfold memD at hp
  rw [List.getElem?_map] at hp
  cases hq : (s.mem s.n)[p]? with
  | none => rw [hq] at hp; cases hp
  | some v =>
   rw [hq] at hp
   injection hp with hp
   subst hp
   have hlt := (List.getElem?_eq_some_iff.1 hq).1
   have hv : v ∈ s.mem s.n := List.mem_of_getElem? hq
   by_cases hf : s.full s.n v
   ·right
    have hv5 := h.lt5 _ _ hv
    unfold memBad
    have hc : (cell 0 ([D.int ((v : Nat) : Int)] : List D)).toInt = (v : Int) := of_eq_true (eq_self _)
    rw [hc, lt_false (by omega), le_false (by omega), Int.toNat_natCast, List.getElem?_eq_getElem (by omega)]
    have hrow := (h.reps v hv5).row
    rw [nthR_eq (by omega)] at hrow
    show (false || (false || !beginsL w.rs[v].row b)) = false
    rw [hrow, begins_pre (h.inv.safe e2 hf)]; rfl
   ·left
    have hnf : ¬ (s.jn s.n = true -> (s.mem s.n).getLast? ≠ some v) := fun q => hf ⟨hv, q⟩
    have hj : s.jn s.n = true := by
     apply Classical.byContradiction
     intro q
     exact hnf (fun q2 => absurd q2 q)
    refine ⟨hj, ?_⟩
    have hl : (s.mem s.n).getLast? = some v := by
     apply Classical.byContradiction
     intro q
     exact hnf (fun _ => q)
    rw [List.getLast?_eq_getElem?] at hl
    have := (List.getElem?_inj hlt (h.inv.nd s.n)).1 (hq.trans hl.symm)
    omega
 have : w.look = { w with best := b, bad := false } := by unfold Ward.look; rw [hlk]
 rw [this]
 exact { h with best := e2, bad := rfl }
theorem SInv.does (h : SInv w s n) (hn : n <= 900) (kind node at_ : Int) : ∃ s', SInv (w.does kind node at_) s' (n + 1) := by
 obtain ⟨s', hs⟩ := h.op hn kind node at_
 exact ⟨s', hs.look⟩
theorem SInv.all3 : ∀ (l : List (List D)) (w : Ward) (s : Hs) (n : Nat), SInv w s n -> n + l.length <= 900 -> ∃ s', SInv (w.all3 l) s' (n + l.length)
 | [], _, s, _, h, _ => ⟨s, h⟩
 | o :: l, w, s, n, h, hn => by
  rw [List.length_cons] at hn ⊢
  obtain ⟨s', hs⟩ := h.does (by omega) (cell 0 o).toInt (cell 1 o).toInt (cell 2 o).toInt
  have := SInv.all3 l (w.op3 o) s' (n + 1) hs (by omega)
  rw [show n + (l.length + 1) = n + 1 + l.length by omega]
  exact this
def hist0 (m : Nat) : Hs := ⟨1, fun e => if e = 1 then List.range m else [], fun _ => false, fun _ => 0, fun _ _ => [], fun _ _ => False⟩
theorem hist0_mem1 (m : Nat) : (hist0 m).mem 1 = List.range m := rfl
theorem hist0_mem (m : Nat) {e : Nat} (h : e ≠ 1) : (hist0 m).mem e = [] := if_neg h
theorem hist0_Inv (m : Nat) : (hist0 m).Inv where
 nd := fun e => by
  by_cases q : e = 1
  ·subst q; exact List.nodup_range
  ·rw [hist0_mem m q]; exact List.nodup_nil
 out := fun e he => hist0_mem m (by have : 1 < e := he; omega)
 mem0 := rfl
 epn := fun _ => Nat.zero_le _
 stp1 := fun e x y he hs => by
  rw [hist0_mem m (by omega)] at hs
  have := hs.length_le; simp at this
 stp2 := fun e x he hs => by rw [hist0_mem m (by omega)] at hs; cases hs
 jw := fun e x he hj => by cases hj
 F := fun e x he hf => by
  have := hf.1
  rw [hist0_mem m (by omega)] at this; cases this
 M := fun _ _ _ _ _ => List.prefix_refl _
 S := fun _ _ _ => rfl
 H0 := fun _ => rfl
 T := fun _ _ _ => rfl
 A1 := fun _ _ h => h.elim
 A2 := fun x h => by have : 1 <= 0 := h; omega
 C := fun _ _ _ h => h.elim
theorem begin_SInv (m : Nat) (h1 : 1 <= m) (h4 : m <= 4) : SInv (Ward.begin m) (hist0 m) 0 where
 inv := hist0_Inv m
 n1 := Nat.le_refl _
 nl := Nat.le_refl _
 nx0 := Int.le_refl _
 nx := Int.le_refl _
 five := by simp [Ward.begin, reps]
 reps := fun i hi => by
  have hr : nthR (Ward.begin m).rs i = rep0 i := by
   show nthR (reps 5) i = _
   unfold nthR reps
   rw [List.getD_eq_getElem?_getD, List.getElem?_map, List.getElem?_range hi]; rfl
  rw [hr]
  exact {
   id := rfl
   ep := rfl
   mem := rfl
   row := rfl
   live := fun q => by cases q
   com := ⟨0, rfl, Nat.le_refl _, .inl rfl⟩
   ack := ⟨0, rfl, Nat.le_refl _, .inl rfl⟩
   base := fun q => by cases q
   heard := fun q => by cases q }
 rows := fun _ _ => fine_nil _
 lt5 := fun e x hx => by
  by_cases q : e = 1
  ·subst q
   rw [hist0_mem1, List.mem_range] at hx; omega
  ·rw [hist0_mem m q] at hx; cases hx
 jn1 := fun q => by cases q
 conf := fun c hc => by
  rw [show (Ward.begin m).all = [(Cf.first m).d] from rfl, List.mem_singleton] at hc
  subst hc
  exact ⟨1, false, Nat.le_refl _, Nat.le_refl _, rfl, fun _ => rfl, fun q => by cases q⟩
 tab := rfl
 some_ := Nat.lt_succ_self _
 one := ⟨0, by rw [show (hist0 m).n = 1 from rfl]; exact ⟨by rw [hist0_mem1, List.mem_range]; omega, fun q => by cases q⟩⟩
 way := fun m hm => by cases hm
 best := .inl rfl
 bad := rfl
end
end Go.Proofs.Ythlbahcggmbfaaa.V

namespace Go.Proofs.Ythlbahcggmbfaaa.V
variable {R : Type}
theorem key_int (a b : Int) : D.eqKey (.int a) (.int b) = (a == b) := rfl
theorem iget_same (a : Int) (v z : List D) : ∀ es : List (D × List D), mget (mput es (.int a) v) (.int a) z = v
 | [] => by
  unfold mput mget
  rw [key_int, beq_self_eq_true, cond_true]
 | (k, w) :: es => by
  unfold mput
  cases h : D.eqKey (.int a) k with
  | true =>
   rw [cond_true]; unfold mget
   rw [key_int, beq_self_eq_true, cond_true]
  | false =>
   rw [cond_false]; unfold mget
   rw [h, cond_false]
   exact iget_same a v z es
theorem int_key {a : Int} {k : D} (h : D.eqKey (.int a) k = true) : k = .int a := by
 cases k with
 | int b => rw [key_int, beq_iff_eq] at h; rw [h]
 | _ => cases h
theorem iget_ne {a b : Int} (h : b ≠ a) (v z : List D) : ∀ es : List (D × List D), mget (mput es (.int a) v) (.int b) z = mget es (.int b) z /\ mhas (mput es (.int a) v) (.int b) = mhas es (.int b)
 | [] => by
  have hb : (b == a) = false := beq_false_of_ne h
  unfold mput mget mhas
  rw [key_int, hb]
  exact ⟨rfl, rfl⟩
 | (k, w) :: es => by
  have hb : (b == a) = false := beq_false_of_ne h
  unfold mput
  cases hk : D.eqKey (.int a) k with
  | true =>
   rw [cond_true]
   have ha := int_key hk
   subst ha
   show mget ((.int a, v) :: es) (.int b) z = mget ((.int a, w) :: es) (.int b) z /\ mhas ((.int a, v) :: es) (.int b) = mhas ((.int a, w) :: es) (.int b)
   unfold mget mhas
   rw [key_int, hb]
   exact ⟨rfl, rfl⟩
  | false =>
   rw [cond_false]
   obtain ⟨h1, h2⟩ := iget_ne h v z es
   constructor
   ·show mget ((k, w) :: mput es (.int a) v) (.int b) z = mget ((k, w) :: es) (.int b) z
    conv => lhs; unfold mget
    conv => rhs; unfold mget
    rw [h1]
   ·show mhas ((k, w) :: mput es (.int a) v) (.int b) = mhas ((k, w) :: es) (.int b)
    conv => lhs; unfold mhas
    conv => rhs; unfold mhas
    rw [h2]
theorem letR_eq {R : Type} (x : List D) (f : List D -> Option R) : letR x f = f x := rfl
theorem letD_eq {R : Type} (x : List (List D)) (f : List (List D) -> Option R) : letD x f = f x := rfl
def Kept (all : List (List D)) (r r' : Rep) : Prop := (r'.ep = r.ep /\ r'.mem = r.mem) \/ (r.ep < r'.ep /\ ∃ c ∈ all, (cell 0 c).toInt = r'.ep /\ (cell 1 c).toRows = r'.mem)
theorem Kept.refl (all : List (List D)) (r : Rep) : Kept all r r := .inl ⟨rfl, rfl⟩
theorem kept_adopt {all : List (List D)} (r : Rep) {c : List D} (hc : c ∈ all) : Kept all r (r.adopt c).1 := by
 have h4 : ∀ (q : Rep) (w : Bool), (q.adopt2.adopt3.adopt4 w).ep = q.ep /\ (q.adopt2.adopt3.adopt4 w).mem = q.mem := fun q w => by
  unfold Rep.adopt4 Rep.adopt3; split <;> split <;> exact ⟨rfl, rfl⟩
 have h1 : Kept all r (r.adopt1 c) := by
  unfold Rep.adopt1
  split
  ·rename_i h
   split <;> exact .inr ⟨h, c, hc, rfl, rfl⟩
  ·exact .inl ⟨rfl, rfl⟩
 unfold Rep.adopt
 split
 ·exact Kept.refl all r
 ·split
  ·obtain ⟨a, b⟩ := h4 (r.adopt1 c) (r.live && decide ((cell 0 c).toInt = r.ep))
   unfold Kept
   simp only
   rw [a, b]; exact h1
  ·exact h1
theorem kept_set {all : List (List D)} {rs : List Rep} {k : Nat} (hk : k < rs.length) {q : Rep} (h : Kept all (nthR rs k) q) (i : Nat) : Kept all (nthR rs i) (nthR (rs.set k q) i) := by
 by_cases e : k = i
 ·subst e; rw [nthR_set hk]; exact h
 ·rw [nthR_set_ne e]; exact Kept.refl _ _
theorem op_kept {w : Ward} (h5 : w.rs.length = 5) (hall : 0 < w.all.length) (kind node at_ : Int) : (∀ i, Kept w.all (nthR w.rs i) (nthR (w.op kind node at_).rs i)) /\ ∀ c ∈ w.all, c ∈ (w.op kind node at_).all := by
 have hk := nodeOf_lt node
 have hkl : nodeOf node < w.rs.length := by omega
 have ho : ∀ a b c, (∀ i, Kept w.all (nthR w.rs i) (nthR (w.ordered a b c).rs i)) /\ ∀ x ∈ w.all, x ∈ (w.ordered a b c).all := fun a b c => by
  unfold Ward.ordered
  split
  ·exact ⟨fun i => Kept.refl _ _, fun x hx => List.mem_append.2 (.inl hx)⟩
  ·exact ⟨fun i => Kept.refl _ _, fun x hx => hx⟩
 have same : (∀ i, Kept w.all (nthR w.rs i) (nthR w.rs i)) /\ ∀ x ∈ w.all, x ∈ w.all := ⟨fun i => Kept.refl _ _, fun x hx => hx⟩
 generalize hq : w.op kind node at_ = w'
 unfold Ward.op at hq
 dsimp only at hq
 split at hq
 ·subst hq; exact ⟨kept_set hkl (by rw [order_same]; exact Kept.refl _ _), fun x hx => hx⟩
 ·split at hq
  ·subst hq; exact same
  ·split at hq
   ·split at hq
    ·subst hq
     refine ⟨?_, fun x hx => hx⟩
     show ∀ i, Kept w.all (nthR w.rs i) (nthR (comesR _ _) i)
     unfold comesR
     split
     ·exact kept_set (by omega) (by rw [receive_same]; exact Kept.refl _ _)
     ·exact same.1
    ·subst hq; exact same
   ·split at hq
    ·split at hq <;> (subst hq; exact same)
    ·split at hq
     ·subst hq; exact ⟨kept_set hkl (kept_adopt _ (conf_in hall at_)), fun x hx => hx⟩
     ·split at hq
      ·subst hq; exact ⟨kept_set hkl (.inl ⟨rfl, rfl⟩), fun x hx => hx⟩
      ·split at hq
       ·subst hq; exact ho _ _ _
       ·split at hq
        ·subst hq; exact ho _ _ _
        ·split at hq
         ·split at hq
          ·subst hq; exact ho _ _ _
          ·subst hq; exact same
         ·subst hq; exact same
def Confs (w : Ward) : Prop := ∀ i < 5, (nthR w.rs i).mem = [] \/ ∃ c ∈ w.all, (cell 0 c).toInt = (nthR w.rs i).ep /\ (cell 1 c).toRows = (nthR w.rs i).mem
theorem does_Confs {w : Ward} (h5 : w.rs.length = 5) (hall : 0 < w.all.length) (h : Confs w) (kind node at_ : Int) : Confs (w.does kind node at_) := by
 obtain ⟨h1, h2⟩ := op_kept h5 hall kind node at_
 intro i hi
 show (nthR (w.op kind node at_).rs i).mem = [] \/ ∃ c ∈ (w.op kind node at_).all, (cell 0 c).toInt = (nthR (w.op kind node at_).rs i).ep /\ (cell 1 c).toRows = (nthR (w.op kind node at_).rs i).mem
 rcases h1 i with ⟨a, b⟩ | ⟨_, c, c1, c2⟩
 ·rcases h i hi with q | ⟨c, c1, c2, c3⟩
  ·exact .inl (by rw [b]; exact q)
  ·exact .inr ⟨c, h2 c c1, by rw [a]; exact c2, by rw [b]; exact c3⟩
 ·exact .inr ⟨c, h2 c c1, c2⟩
theorem does_ep {w : Ward} (h5 : w.rs.length = 5) (hall : 0 < w.all.length) (kind node at_ : Int) (i : Nat) : (nthR w.rs i).ep <= (nthR (w.does kind node at_).rs i).ep := by
 rcases (op_kept h5 hall kind node at_).1 i with ⟨a, _⟩ | ⟨a, _⟩
 ·exact Int.le_of_eq a.symm
 ·exact Int.le_of_lt a
def firstOf (l : List (List D)) : Int := (cell 0 (elem 0 l)).toInt
def lastOf (l : List (List D)) : Int := (cell 0 (elem (l.length - 1) l)).toInt
def Noted (all : List (List D)) (g : List (List D) -> Int) (y : List (D × List D)) : Prop := ∀ e : Int, mhas y (.int e) = true -> ∃ c ∈ all, (cell 0 c).toInt = e /\ (cell 0 (mget y (.int e) [D.int 0])).toInt = g (cell 1 c).toRows
theorem Noted.more {all all' : List (List D)} {g : List (List D) -> Int} {y : List (D × List D)} (h : Noted all g y) (hs : ∀ c ∈ all, c ∈ all') : Noted all' g y := fun e he => by
 obtain ⟨c, a, b⟩ := h e he
 exact ⟨c, hs c a, b⟩
theorem Noted.put {all : List (List D)} {g : List (List D) -> Int} {y : List (D × List D)} (h : Noted all g y) {c : List D} (hc : c ∈ all) : Noted all g (mput y (.int (cell 0 c).toInt) [D.int (g (cell 1 c).toRows)]) := fun e he => by
 by_cases q : e = (cell 0 c).toInt
 ·subst q
  exact ⟨c, hc, rfl, by rw [iget_same]; rfl⟩
 ·obtain ⟨a, b⟩ := iget_ne q [D.int (g (cell 1 c).toRows)] [D.int 0] y
  rw [b] at he
  rw [a]; exact h e he
theorem conf_uniq {w : Ward} {s : Hs} {n : Nat} (h : SInv w s n) {c c' : List D} (hc : c ∈ w.all) (hc' : c' ∈ w.all) (e : (cell 0 c).toInt = (cell 0 c').toInt) : (cell 1 c).toRows = (cell 1 c').toRows := by
 obtain ⟨e1, j1, _, _, rfl, _⟩ := h.conf c hc
 obtain ⟨e2, j2, _, _, rfl, _⟩ := h.conf c' hc'
 have : e1 = e2 := by
  have e : ((e1 : Nat) : Int) = (e2 : Nat) := e
  omega
 subst this
 rfl
theorem tails_ok {fu : Nat} (hf : 1001 <= fu) (all : List (List D)) (rs : List Rep) (k : Nat) (hk : k < rs.length) (r : Rep) (hr : nthR rs k = r) (hm : r.mem.length <= 1000) (y1 : List (D × List D)) (h1 : Noted all lastOf y1)
  (hu : ∀ c ∈ all, ∀ c' ∈ all, (cell 0 c).toInt = (cell 0 c').toInt -> (cell 1 c).toRows = (cell 1 c').toRows)
  (ht : r.tail = true -> ∃ c ∈ all, (cell 0 c).toInt = r.ep /\ lastOf (cell 1 c).toRows = (k : Nat)) (k0 : List (List D) -> Option R) (k1 : List (D × List D) -> List (List D) -> Option R) :
  ∃ y1', F6_1062009247 fu (k : Nat) k r.ep y1 (cellsL rs) k0 k1 = k1 y1' (cellsL rs) /\ Noted all lastOf y1' := by
 unfold F6_1062009247
 rw [letR_eq, elem_nth hk, hr]
 simp only [c0, c1, c2, c3, c4, c5, c6, c7, c8, c9, c10, c11]
 rw [tail_ok (R := R) (r := r) hf hm, letD_eq]
 have hset : setAt (cellsL rs) k [D.int r.id, D.int r.ep, D.row r.mem, D.bool r.join, D.row r.row, D.bool r.live, D.int r.commit, D.int r.told, D.int r.acked, D.int r.base, D.bool r.heard, D.int r.need] = cellsL rs := by
  rw [<- hr]; exact nth_same hk
 rw [hset]
 cases htt : r.tail with
 | false => rw [cond_false]; exact ⟨y1, rfl, h1⟩
 | true =>
  rw [cond_true]
  obtain ⟨c, c1, c2, c3⟩ := ht htt
  have hput : Noted all lastOf (mput y1 (D.int r.ep) [D.int (k : Nat)]) := by
   have := h1.put c1
   rw [c2, c3] at this; exact this
  cases hh : mhas y1 (D.int r.ep) with
  | false => rw [cond_false]; exact ⟨_, rfl, hput⟩
  | true =>
   obtain ⟨c', d1, d2, d3⟩ := h1 r.ep hh
   rw [cond_true, d3, hu c' d1 c c1 (by rw [d2, c2]), c3, eq_true (show ((k : Nat) : Int) = (k : Nat) from rfl), Bool.not_true, cond_false]
   exact ⟨_, rfl, hput⟩
theorem heads_ok {fu : Nat} (hf : 1001 <= fu) (all : List (List D)) (rs : List Rep) (k : Nat) (hk : k < rs.length) (r : Rep) (hr : nthR rs k = r) (hm : r.mem.length <= 1000) (y y1 : List (D × List D)) (h0 : Noted all firstOf y) (h1 : Noted all lastOf y1)
  (hu : ∀ c ∈ all, ∀ c' ∈ all, (cell 0 c).toInt = (cell 0 c').toInt -> (cell 1 c).toRows = (cell 1 c').toRows)
  (hh : r.head = true -> ∃ c ∈ all, (cell 0 c).toInt = r.ep /\ firstOf (cell 1 c).toRows = (k : Nat))
  (ht : r.tail = true -> ∃ c ∈ all, (cell 0 c).toInt = r.ep /\ lastOf (cell 1 c).toRows = (k : Nat)) (k0 : List (D × List D) -> List (List D) -> Option R) (k1 : List (D × List D) -> List (D × List D) -> List (List D) -> Option R) :
  ∃ y' y1', F6_531004623 fu (k : Nat) k r.ep y y1 (cellsL rs) k0 k1 = k1 y' y1' (cellsL rs) /\ Noted all firstOf y' /\ Noted all lastOf y1' := by
 unfold F6_531004623
 rw [letR_eq, elem_nth hk, hr]
 simp only [c0, c1, c2, c3, c4, c5, c6, c7, c8, c9, c10, c11]
 rw [head_ok (R := R) (r := r) hf hm, letD_eq]
 have hset : setAt (cellsL rs) k [D.int r.id, D.int r.ep, D.row r.mem, D.bool r.join, D.row r.row, D.bool r.live, D.int r.commit, D.int r.told, D.int r.acked, D.int r.base, D.bool r.heard, D.int r.need] = cellsL rs := by
  rw [<- hr]; exact nth_same hk
 rw [hset]
 have tails := fun (y2 : List (D × List D)) k0 (k1 : List (D × List D) -> List (List D) -> Option R) => tails_ok (R := R) hf all rs k hk r hr hm y1 h1 hu ht k0 k1
 cases htt : r.head with
 | false =>
  rw [cond_false]
  obtain ⟨y1', e1, e2⟩ := tails y (fun o_9 => k0 y o_9) (fun o_10 o_11 => k1 y o_10 o_11)
  exact ⟨y, y1', e1, h0, e2⟩
 | true =>
  rw [cond_true]
  obtain ⟨c, c1, c2, c3⟩ := hh htt
  have hput : Noted all firstOf (mput y (D.int r.ep) [D.int (k : Nat)]) := by
   have := h0.put c1
   rw [c2, c3] at this; exact this
  obtain ⟨y1', e1, e2⟩ := tails y (fun o_6 => k0 (mput y (D.int r.ep) [D.int (k : Nat)]) o_6) (fun o_7 o_8 => k1 (mput y (D.int r.ep) [D.int (k : Nat)]) o_7 o_8)
  cases hq : mhas y (D.int r.ep) with
  | false => rw [cond_false]; exact ⟨_, y1', e1, hput, e2⟩
  | true =>
   obtain ⟨c', d1, d2, d3⟩ := h0 r.ep hq
   rw [cond_true, d3, hu c' d1 c c1 (by rw [d2, c2]), c3, eq_true (show ((k : Nat) : Int) = (k : Nat) from rfl), Bool.not_true, cond_false]
   exact ⟨_, y1', e1, hput, e2⟩
structure Fine (all : List (List D)) (r : Rep) (k : Nat) : Prop where
 mem : r.mem.length <= 100
 row : r.row.length <= 1000000
 id : r.id = (k : Nat)
 live : r.live = true -> 0 <= atL r.mem k
 conf : r.live = true -> ∃ c ∈ all, (cell 0 c).toInt = r.ep /\ (cell 1 c).toRows = r.mem
theorem atL_elem {l : List Nat} {k : Nat} {i : Int} (h : atL (memD l) k = i) (h0 : 0 <= i) : (cell 0 (elem i.toNat (memD l))).toInt = (k : Nat) := by
 obtain ⟨a, b, e1, e2, e3⟩ := atL_in (atL_mem.1 (show 0 <= atL (memD l) k by omega))
 subst e1
 have : i.toNat = a.length := by omega
 rw [this, elem_memD (by simp)]
 simp
theorem looks_ok {fu : Nat} (hf : 1001 <= fu) (all : List (List D)) (rs : List Rep) (h5 : rs.length = 5) (hr : ∀ i < 5, Fine all (nthR rs i) i) (hmem : ∀ c ∈ all, ∃ l : List Nat, (cell 1 c).toRows = memD l)
  (hu : ∀ c ∈ all, ∀ c' ∈ all, (cell 0 c).toInt = (cell 0 c').toInt -> (cell 1 c).toRows = (cell 1 c').toRows) (a0 a1 a2 a3 a4 : Int)
  (hw : ∀ i < 5, (cell 0 (elem i [[D.int a0], [D.int a1], [D.int a2], [D.int a3], [D.int a4]])).toInt <= (nthR rs i).ep)
  (k0 k1 : List (D × List D) -> List (D × List D) -> List (List D) -> Option R) : ∀ (n i : Nat) (y y1 : List (D × List D)), 6 <= i + n -> i <= 5 -> Noted all firstOf y -> Noted all lastOf y1 ->
  ∃ y' y1', F6_1037118 fu (ofN (cellsL rs).length) a0 a1 a2 a3 a4 n (i : Int) y y1 (cellsL rs) k0 k1 = k1 y' y1' (cellsL rs) /\ Noted all firstOf y' /\ Noted all lastOf y1' := by
 intro n
 induction n with
 | zero => intro i y y1 h1 h2; omega
 | succ n ih =>
  intro i y y1 h1 h2 g1 g2
  unfold F6_1037118
  by_cases hi : i < 5
  ·have hk : i < rs.length := by omega
   have hF := hr i hi
   have hws := hw i hi
   rw [lt_true (show (i : Int) < ofN (cellsL rs).length by unfold ofN; rw [cellsL_len]; omega), cond_true, within_of (by rw [cellsL_len]; exact hk), cond_true, Int.toNat_natCast, within_of (show i < 5 from hi)]
   obtain ⟨r, hrr⟩ : ∃ r, nthR rs i = r := ⟨_, rfl⟩
   rw [hrr] at hF hws
   have hmm := hF.mem
   have hel : elem i (cellsL rs) = r.cells := by rw [elem_nth hk, hrr]
   have hset : setAt (cellsL rs) i [D.int r.id, D.int r.ep, D.row r.mem, D.bool r.join, D.row r.row, D.bool r.live, D.int r.commit, D.int r.told, D.int r.acked, D.int r.base, D.bool r.heard, D.int r.need] = cellsL rs := by
    rw [<- hrr]; exact nth_same hk
   have fin : ∃ y' y1', F6_531004623 fu (i : Int) i r.ep y y1 (cellsL rs) (fun o_18 o_19 => k0 o_18 y1 o_19) (fun o_20 o_21 o_22 => F6_1037118 fu (ofN (cellsL rs).length) a0 a1 a2 a3 a4 n (IntKind.i64.wrap ((i : Int) + 1)) o_20 o_21 o_22 k0 k1) = k1 y' y1' (cellsL rs) /\ Noted all firstOf y' /\ Noted all lastOf y1' := by
    have hpos : ∀ v : Int, r.live = true -> atL r.mem (i : Nat) = v -> 0 <= v -> ∃ c ∈ all, (cell 0 c).toInt = r.ep /\ (cell 1 c).toRows = r.mem /\ (cell 0 (elem v.toNat r.mem)).toInt = (i : Nat) := fun v hl hv h0 => by
     obtain ⟨c, c1, c2, c3⟩ := hF.conf hl
     obtain ⟨l, hl2⟩ := hmem c c1
     refine ⟨c, c1, c2, c3, ?_⟩
     rw [<- c3, hl2] at hv ⊢
     exact atL_elem hv h0
    obtain ⟨y', y1', e1, e2, e3⟩ := heads_ok (R := R) hf all rs i hk r hrr (by omega) y y1 g1 g2 hu
     (fun hh => by
      unfold Rep.head at hh
      rw [Bool.and_eq_true, decide_eq_true_iff, hF.id] at hh
      obtain ⟨c, c1, c2, c3, c4⟩ := hpos 0 hh.1 hh.2 (Int.le_refl _)
      exact ⟨c, c1, c2, by unfold firstOf; rw [c3]; exact c4⟩)
     (fun ht => by
      unfold Rep.tail Rep.last at ht
      rw [Bool.and_eq_true, Bool.and_eq_true, decide_eq_true_iff, decide_eq_true_iff, hF.id] at ht
      obtain ⟨t1, t2, t3⟩ := ht
      obtain ⟨c, c1, c2, c3, c4⟩ := hpos _ t1 t3 (by omega)
      refine ⟨c, c1, c2, ?_⟩
      unfold lastOf
      rw [c3, <- c4, show ((r.mem.length : Int) - 1).toNat = r.mem.length - 1 by omega])
     (fun o_18 o_19 => k0 o_18 y1 o_19) (fun o_20 o_21 o_22 => F6_1037118 fu (ofN (cellsL rs).length) a0 a1 a2 a3 a4 n (IntKind.i64.wrap ((i : Int) + 1)) o_20 o_21 o_22 k0 k1)
    obtain ⟨y2, y3, d1, d2, d3⟩ := ih (i + 1) y' y1' (by omega) (by omega) e2 e3
    refine ⟨y2, y3, e1.trans ?_, d2, d3⟩
    rw [wrap_succ (by omega)]
    exact d1
   have hat := fun K => at_ok (R := R) fu [D.int r.ep, D.row r.mem, D.bool r.join] (i : Int) (show r.mem.length <= 1000 by omega) hf K
   have e9 : (cell 1 [D.int r.ep, D.row r.mem, D.bool r.join]).toRows = r.mem := of_eq_true (eq_self _)
   rw [e9] at hat
   have d0 : ∀ a b c d, (cell 0 [D.int a, D.row b, D.bool c, D.row d]).toInt = a := fun _ _ _ _ => rfl
   have d1 : ∀ a b c d, (cell 1 [D.int a, D.row b, D.bool c, D.row d]).toRows = b := fun _ _ _ _ => rfl
   have d2 : ∀ a b c d, (cell 2 [D.int a, D.row b, D.bool c, D.row d]).toBool = c := fun _ _ _ _ => rfl
   rw [letR_eq, hel]
   simp only [c0, c1, c2, c3, c4, c5, c6, c7, c8, c9, c10, c11]
   rw [epoch_ok r, letD_eq, hset, letR_eq, hel]
   simp only [c0, c1, c2, c3, c4, c5, c6, c7, c8, c9, c10, c11]
   rw [keep_ok r hmm hF.row, letD_eq, hset, cond_true, lt_false (show ¬ r.ep < _ by omega), cond_false, letR_eq, hel]
   simp only [c0, c1, c2, c3, c4, c5, c6, c7, c8, c9, c10, c11, d0, d1, d2]
   rw [live_ok r, letD_eq, hset]
   have hH := fun K => head_ok (R := R) (fu := fu) (r := r) hf (by omega) K
   have hT := fun K => tail_ok (R := R) (fu := fu) (r := r) hf (by omega) K
   
   cases hl : r.live with
   | true =>
    rw [cond_true, hat, lt_false (show ¬ atL r.mem (i : Nat) < 0 by have := hF.live hl; omega), cond_false, letR_eq, hel]
    simp only [c0, c1, c2, c3, c4, c5, c6, c7, c8, c9, c10, c11]
    rw [hH, letD_eq, hset]
    cases hh : r.head with
    | true =>
     rw [cond_true, letR_eq, hel]
     simp only [c0, c1, c2, c3, c4, c5, c6, c7, c8, c9, c10, c11]
     rw [live_ok r, letD_eq, hset, hl, Bool.not_true, cond_false, letR_eq, hel]
     simp only [c0, c1, c2, c3, c4, c5, c6, c7, c8, c9, c10, c11]
     rw [hT, letD_eq, hset]
     cases htl : r.tail with
     | true =>
      rw [cond_true, letR_eq, hel]
      simp only [c0, c1, c2, c3, c4, c5, c6, c7, c8, c9, c10, c11]
      rw [live_ok r, letD_eq, hset, hl, Bool.not_true, cond_false]
      exact fin
     | false => rw [cond_false]; exact fin
    | false =>
     rw [cond_false, letR_eq, hel]
     simp only [c0, c1, c2, c3, c4, c5, c6, c7, c8, c9, c10, c11]
     rw [hT, letD_eq, hset]
     cases htl : r.tail with
     | true =>
      rw [cond_true, letR_eq, hel]
      simp only [c0, c1, c2, c3, c4, c5, c6, c7, c8, c9, c10, c11]
      rw [live_ok r, letD_eq, hset, hl, Bool.not_true, cond_false]
      exact fin
     | false => rw [cond_false]; exact fin
   | false =>
    have q1 : r.head = false := by unfold Rep.head; rw [hl]; rfl
    have q2 : r.tail = false := by unfold Rep.tail; rw [hl]; rfl
    rw [cond_false, letR_eq, hel]
    simp only [c0, c1, c2, c3, c4, c5, c6, c7, c8, c9, c10, c11]
    rw [hH, letD_eq, hset, q1, cond_false, letR_eq, hel]
    simp only [c0, c1, c2, c3, c4, c5, c6, c7, c8, c9, c10, c11]
    rw [hT, letD_eq, hset, q2, cond_false]
    exact fin
  ·rw [lt_false (show ¬ (i : Int) < ofN (cellsL rs).length by unfold ofN; rw [cellsL_len]; omega), cond_false]
   exact ⟨y, y1, rfl, g1, g2⟩
theorem was_step {fu : Nat} (rs : List Rep) (h5 : rs.length = 5) (k0 : Int -> Int -> Int -> Int -> Int -> List (List D) -> Option R) (n i : Nat) (hi : i < 5) (a0 a1 a2 a3 a4 : Int) :
  F6_518554 fu (ofN (cellsL rs).length) (n + 1) (i : Int) a0 a1 a2 a3 a4 (cellsL rs) k0 = F6_518554 fu (ofN (cellsL rs).length) n ((i + 1 : Nat) : Int) (if i = 0 then (nthR rs i).ep else a0) (if i = 1 then (nthR rs i).ep else a1) (if i = 2 then (nthR rs i).ep else a2) (if i = 3 then (nthR rs i).ep else a3) (if i = 4 then (nthR rs i).ep else a4) (cellsL rs) k0 := by
 have hk : i < rs.length := by omega
 conv => lhs; unfold F6_518554
 rw [lt_true (show (i : Int) < ofN (cellsL rs).length by unfold ofN; rw [cellsL_len]; omega), cond_true, within_of (by rw [cellsL_len]; exact hk), cond_true, Int.toNat_natCast, within_of (show i < 5 from hi), letR_eq, elem_nth hk]
 simp only [c0, c1, c2, c3, c4, c5, c6, c7, c8, c9, c10, c11]
 rw [epoch_ok, letD_eq, nth_same hk, cond_true, wrap_succ (by omega)]
 have : i = 0 \/ i = 1 \/ i = 2 \/ i = 3 \/ i = 4 := by omega
 rcases this with rfl | rfl | rfl | rfl | rfl <;> rfl
theorem was_ok {fu : Nat} (rs : List Rep) (h5 : rs.length = 5) (k0 : Int -> Int -> Int -> Int -> Int -> List (List D) -> Option R) (n : Nat) (hn : 6 <= n) :
  F6_518554 fu (ofN (cellsL rs).length) n 0 0 0 0 0 0 (cellsL rs) k0 = k0 (nthR rs 0).ep (nthR rs 1).ep (nthR rs 2).ep (nthR rs 3).ep (nthR rs 4).ep (cellsL rs) := by
 obtain ⟨m, rfl⟩ : ∃ m, n = m + 1 + 1 + 1 + 1 + 1 + 1 := ⟨n - 6, by omega⟩
 refine (was_step (R := R) rs h5 k0 _ 0 (by omega) _ _ _ _ _).trans ?_
 refine (was_step (R := R) rs h5 k0 _ 1 (by omega) _ _ _ _ _).trans ?_
 refine (was_step (R := R) rs h5 k0 _ 2 (by omega) _ _ _ _ _).trans ?_
 refine (was_step (R := R) rs h5 k0 _ 3 (by omega) _ _ _ _ _).trans ?_
 refine (was_step (R := R) rs h5 k0 _ 4 (by omega) _ _ _ _ _).trans ?_
 unfold F6_518554
 rw [lt_false (show ¬ ((4 + 1 : Nat) : Int) < ofN (cellsL rs).length by unfold ofN; rw [cellsL_len]; omega), cond_false]
 rfl
theorem fine_of {w : Ward} {s : Hs} {n : Nat} (hn : n <= 900) (hi : w.Inv n) (hs : SInv w s n) (hc : Confs w) : ∀ i < 5, Fine w.all (nthR w.rs i) i := fun i h5 => by
 have hr := hs.reps i h5
 have hf := hi.five
 have hok := hi.ok _ (nthR_mem (i := i) (by omega))
 exact {
  mem := hok.mem
  row := by have := hok.row; omega
  id := hr.id
  live := fun q => by rw [hr.mem]; exact atL_mem.2 (hr.live q)
  conf := fun q => by
   rcases hc i h5 with h | h
   ·have := hr.live q
    rw [hr.mem] at h
    have h0 : s.mem (s.ep i) = [] := by simpa [memD] using h
    rw [h0] at this; cases this
   ·exact h }
theorem epochs_loop {fu : Nat} (hf : 1001 <= fu) (l : List (List D)) (hll : l.length <= 200) (k0 k1 : Option R) : ∀ (n i m : Nat) (w : Ward) (s : Hs) (y y1 : List (D × List D)), w.Inv m -> SInv w s m -> Confs w -> Noted w.all firstOf y -> Noted w.all lastOf y1 -> m + l.length <= 900 + i -> l.length + 1 <= i + n -> i <= l.length ->
  F6_506 fu l (ofN l.length) n (i : Int) w.best w.next w.bad y y1 (cellsL w.rs) w.all w.way w.c.tab k0 k1 = k1 := by
 intro n
 induction n with
 | zero => intro i m w s y y1 h hs hc g1 g2 h1 h2 h3; omega
 | succ n ih =>
  intro i m w s y y1 h hs hc g1 g2 h1 h2 h3
  unfold F6_506
  by_cases hi : i < l.length
  ·rw [lt_true (show (i : Int) < ofN l.length by unfold ofN; omega), cond_true, within_of hi, cond_true, Int.toNat_natCast, wrap_succ (by omega)]
   rw [was_ok (R := R) w.rs h.five _ fu (by omega)]
   have := does_ok (R := R) hf (by omega) w h [D.int (cell 0 (elem i l)).toInt, D.int (cell 1 (elem i l)).toInt, D.int (cell 2 (elem i l)).toInt] (fun b x bd r a yy t => F6_259279 fu y y1 (nthR w.rs 0).ep (nthR w.rs 1).ep (nthR w.rs 2).ep (nthR w.rs 3).ep (nthR w.rs 4).ep r (fun _ _ _ => k0) (fun o_14 o_15 o_16 => F6_506 fu l (ofN l.length) n ((i + 1 : Nat) : Int) b x bd o_14 o_15 o_16 a yy t k0 k1)) _ _ _ _ _ (fun _ _ _ _ _ => rfl) (fun _ _ _ _ => rfl) (fun _ _ _ _ => rfl) (fun _ _ _ => rfl) (fun _ _ _ _ _ => rfl)
   refine this.trans ?_
   obtain ⟨s', hs'⟩ := hs.does (by omega) (cell 0 (elem i l)).toInt (cell 1 (elem i l)).toInt (cell 2 (elem i l)).toInt
   have hinv := Ward.does_Inv h (cell 0 (elem i l)).toInt (cell 1 (elem i l)).toInt (cell 2 (elem i l)).toInt
   have hcf := does_Confs h.five hs.some_ hc (cell 0 (elem i l)).toInt (cell 1 (elem i l)).toInt (cell 2 (elem i l)).toInt
   have hep := does_ep h.five hs.some_ (cell 0 (elem i l)).toInt (cell 1 (elem i l)).toInt (cell 2 (elem i l)).toInt
   have hal := (op_kept h.five hs.some_ (cell 0 (elem i l)).toInt (cell 1 (elem i l)).toInt (cell 2 (elem i l)).toInt).2
   have hal : ∀ c ∈ w.all, c ∈ (w.does (cell 0 (elem i l)).toInt (cell 1 (elem i l)).toInt (cell 2 (elem i l)).toInt).all := hal
   have e0 : ∀ a b c, (cell 0 [D.int a, D.int b, D.int c]).toInt = a := fun _ _ _ => rfl
   have e1 : ∀ a b c, (cell 1 [D.int a, D.int b, D.int c]).toInt = b := fun _ _ _ => rfl
   have e2 : ∀ a b c, (cell 2 [D.int a, D.int b, D.int c]).toInt = c := fun _ _ _ => rfl
   rw [e0, e1, e2]
   generalize w.does (cell 0 (elem i l)).toInt (cell 1 (elem i l)).toInt (cell 2 (elem i l)).toInt = w' at hs' hinv hcf hep hal ⊢
   unfold F6_259279
   obtain ⟨y', y1', q1, q2, q3⟩ := looks_ok (R := R) hf w'.all w'.rs hinv.five (fine_of (by omega) hinv hs' hcf) (fun c hc => by
     obtain ⟨e, j, _, _, rfl, _⟩ := hs'.conf c hc
     exact ⟨_, rfl⟩) (fun c hc c' hc' e => conf_uniq hs' hc hc' e) (nthR w.rs 0).ep (nthR w.rs 1).ep (nthR w.rs 2).ep (nthR w.rs 3).ep (nthR w.rs 4).ep (fun j hj => by
     have : j = 0 \/ j = 1 \/ j = 2 \/ j = 3 \/ j = 4 := by omega
     rcases this with rfl | rfl | rfl | rfl | rfl <;> exact hep _)
     (fun _ _ _ => k0) (fun o_14 o_15 o_16 => F6_506 fu l (ofN l.length) n ((i + 1 : Nat) : Int) w'.best w'.next w'.bad o_14 o_15 o_16 w'.all w'.way w'.c.tab k0 k1) fu 0 y y1 (by omega) (by omega) (g1.more hal) (g2.more hal)
   refine q1.trans ?_
   exact ih (i + 1) (m + 1) w' s' y' y1' hinv hs' hcf q2 q3 (by omega) (by omega) (by omega)
  ·rw [lt_false (show ¬ (i : Int) < ofN l.length by unfold ofN; omega), cond_false]
theorem epochs6 (fu : Nat) (hf : 1001 <= fu) (n : Int) (h0 : 0 <= n) (h1 : n < 256) (l : List (List D)) (K : Bool -> Option R) : F6 fu n l K = K true := by
 rw [F6_eq]
 unfold Fb6
 by_cases hl : 200 < l.length
 ·rw [lt_true (show (200 : Int) < ofN l.length by unfold ofN; omega), cond_true, awake_ok hf]
 ·rw [lt_false (show ¬ (200 : Int) < ofN l.length by unfold ofN; omega), cond_false, many_ok fu h0 h1]
  obtain ⟨m1, m4⟩ := manyOf_range h0
  rw [begin_ok hf (manyOf n) m1 m4]
  refine (epochs_loop (R := R) hf l (by omega) _ _ fu 0 0 (Ward.begin (manyOf n)) (hist0 (manyOf n)) [] [] (begin_Inv _ m4) (begin_SInv _ m1 m4) (fun i hi => .inl ?_) (fun e he => by cases he) (fun e he => by cases he) (by omega) (by omega) (by omega)).trans ?_
  ·show (nthR (reps 5) i).mem = []
   unfold nthR reps
   rw [List.getD_eq_getElem?_getD, List.getElem?_map, List.getElem?_range hi]; rfl
  ·rw [awake_ok hf]
end Go.Proofs.Ythlbahcggmbfaaa.V

namespace Go.Proofs.Ythlbahcggmbfaaa
theorem epochs_holds : Rows.ChainEpochsSaid := epochs_join (V.law6 1001 fun _ _ h1 _ => V.epochs6 1001 (Nat.le_refl _) _ (h1.u8).1 (h1.u8).2 _ _)
end Go.Proofs.Ythlbahcggmbfaaa

