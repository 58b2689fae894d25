/- WHAT IS PROVED: the call of ChainKeeps answers true, and leaves its arguments as they were, at every input that the given row takes. No condition of its own. -/
import Derived.Test.YthlbahcggmbfaaaKeeps2
set_option linter.unusedVariables false
set_option linter.unusedSimpArgs false

namespace Go.Proofs.Ythlbahcggmbfaaa.V
def memD (l : List Nat) : List (List D) := l.map fun k => [D.int (k : Nat)]
theorem memD_len (l : List Nat) : (memD l).length = l.length := by simp [memD]
theorem elem_memD {l : List Nat} {i : Nat} (h : i < l.length) : (cell 0 (elem i (memD l))).toInt = (l[i] : Nat) := by
 unfold elem memD
 rw [List.getD_eq_getElem?_getD, List.getElem?_map, List.getElem?_eq_getElem h]; rfl
theorem atG_memD (v : Nat) : ∀ (l : List Nat) (i : Nat), (v ∈ l → ∃ a b, l = a ++ v :: b ∧ v ∉ a ∧ atG v (memD l) i = ((i + a.length : Nat) : Int)) ∧ (v ∉ l → atG v (memD l) i = -1)
 | [], i => ⟨fun h => (by cases h), fun _ => rfl⟩
 | x :: l, i => by
  have hc : (cell 0 ([D.int ((x : Nat) : Int)] : List D)).toInt = (x : Int) := of_eq_true (eq_self _)
  obtain ⟨h1, h2⟩ := atG_memD v l (i + 1)
  have e : memD (x :: l) = [D.int (x : Nat)] :: memD l := rfl
  rw [e]
  by_cases hx : v = x
  ·subst hx
   refine ⟨fun _ => ⟨[], l, rfl, (by simp), ?_⟩, fun h => absurd (List.mem_cons_self ..) h⟩
   unfold atG; rw [hc, if_pos rfl]; rfl
  ·have hne : ¬ (v : Int) = (cell 0 ([D.int ((x : Nat) : Int)] : List D)).toInt := by rw [hc]; omega
   have hs : atG (v : Int) ([D.int (x : Nat)] :: memD l) i = atG v (memD l) (i + 1) := by
    conv => lhs; unfold atG
    rw [if_neg hne]
   rw [hs]
   refine ⟨fun h => ?_, fun h => h2 (fun q => h (List.mem_cons_of_mem _ q))⟩
   rcases List.mem_cons.1 h with h3 | h3
   ·exact absurd h3 hx
   ·obtain ⟨a, b, rfl, h4, h5⟩ := h1 h3
    refine ⟨x :: a, b, rfl, ?_, ?_⟩
    ·intro q
     rcases List.mem_cons.1 q with q | q
     ·exact hx q
     ·exact h4 q
    ·rw [h5]; simp only [List.length_cons]; omega
theorem atL_in {l : List Nat} {v : Nat} (h : v ∈ l) : ∃ a b, l = a ++ v :: b ∧ v ∉ a ∧ atL (memD l) v = (a.length : Nat) := by
 obtain ⟨a, b, h1, h2, h3⟩ := (atG_memD v l 0).1 h
 exact ⟨a, b, h1, h2, by unfold atL; rw [h3]; omega⟩
theorem atL_out {l : List Nat} {v : Nat} (h : v ∉ l) : atL (memD l) v = -1 := (atG_memD v l 0).2 h
theorem atL_mem {l : List Nat} {v : Nat} : 0 ≤ atL (memD l) v ↔ v ∈ l := by
 constructor
 ·intro h
  apply Classical.byContradiction
  intro q
  rw [atL_out q] at h; omega
 ·intro h
  obtain ⟨a, b, _, _, h3⟩ := atL_in h
  rw [h3]; omega
theorem atL_last {l : List Nat} (hn : l.Nodup) {v : Nat} : (0 < l.length ∧ atL (memD l) v = (l.length : Int) - 1) ↔ l.getLast? = some v := by
 constructor
 ·intro ⟨h0, h⟩
  have hv : v ∈ l := atL_mem.1 (by omega)
  obtain ⟨a, b, h1, h2, h3⟩ := atL_in hv
  subst h1
  rw [h3] at h
  simp only [List.length_append, List.length_cons] at h
  have hb : b = [] := List.length_eq_zero_iff.1 (by omega)
  subst hb
  simp
 ·intro h
  obtain ⟨ys, rfl⟩ := List.getLast?_eq_some_iff.1 h
  have hy : v ∉ ys := by
   intro q
   rw [List.nodup_append] at hn
   exact hn.2.2 v q v (by simp) rfl
  obtain ⟨a, b, h1, h2, h3⟩ := atL_in (l := ys ++ [v]) (v := v) (by simp)
  have hl := congrArg List.length h1
  simp only [List.length_append, List.length_cons, List.length_nil] at hl ⊢
  refine ⟨by omega, ?_⟩
  rw [h3]
  have hb : b = [] := by
   rcases List.eq_nil_or_concat b with q | ⟨b', z, q⟩
   ·exact q
   ·exfalso
    subst q
    have e2 : ys ++ [v] = (a ++ v :: b') ++ [z] := by rw [h1]; simp
    obtain ⟨e3, _⟩ := List.append_inj' e2 rfl
    exact hy (by rw [e3]; simp)
  subst hb
  simp only [List.length_nil] at hl
  omega
def adj (l : List Nat) (x y : Nat) : Prop := ∃ a b, l = a ++ x :: y :: b
theorem adj_sub {l : List Nat} {x y : Nat} (h : adj l x y) : [x, y].Sublist l := by
 obtain ⟨a, b, rfl⟩ := h
 exact List.Sublist.trans (by simp) (List.sublist_append_right ..)
theorem adj_mem {l : List Nat} {x y : Nat} (h : adj l x y) : x ∈ l ∧ y ∈ l := by
 obtain ⟨a, b, rfl⟩ := h
 simp
theorem adj_ahead {l : List Nat} (hn : l.Nodup) {x y z : Nat} (h : adj l x y) (hz : [z, y].Sublist l) : z = x ∨ [z, x].Sublist l := by
 obtain ⟨a, b, rfl⟩ := h
 have hy1 : y ∉ a ++ [x] := by
  intro q
  have : (a ++ [x] ++ y :: b).Nodup := by simpa using hn
  rw [List.nodup_append] at this
  exact this.2.2 y q y (by simp) rfl
 have hy2 : y ∉ b := by
  intro q
  have : (a ++ [x] ++ y :: b).Nodup := by simpa using hn
  rw [List.nodup_append] at this
  exact (List.nodup_cons.1 this.2.1).1 q
 have e : a ++ x :: y :: b = (a ++ [x]) ++ y :: b := by simp
 rw [e] at hz
 obtain ⟨l1, l2, e1, e2, e3⟩ := List.sublist_append_iff.1 hz
 have hza : z ∈ a ++ [x] := by
  cases l1 with
  | nil =>
   rw [List.nil_append] at e1; subst e1
   exfalso
   rcases List.sublist_cons_iff.1 e3 with q | ⟨r, q1, q2⟩
   ·exact hy2 (q.subset (by simp))
   ·injection q1 with q3 q4
    subst q4
    exact hy2 (q2.subset (by simp))
  | cons u l1 => injection e1 with q1 q2; subst q1; exact e2.subset (by simp)
 rcases List.mem_append.1 hza with q | q
 ·right
  have : [z, x].Sublist (a ++ [x]) := (List.singleton_sublist.2 q).append (List.Sublist.refl [x])
  rw [e]
  exact this.trans (List.sublist_append_left ..)
 ·left; simpa using q
theorem adj_last {l : List Nat} (hn : l.Nodup) {x y : Nat} (h : adj l x y) : l.getLast? ≠ some x := Hist.last_of_pair hn (adj_sub h)
theorem next_adj {l : List Nat} {v : Nat} (h : ¬ besideL (memD l) v 1 < 0) : ∃ y, adj l v y ∧ besideL (memD l) v 1 = (y : Nat) := by
 unfold besideL at h ⊢
 by_cases h1 : atL (memD l) v < 0
 ·rw [if_pos h1] at h; omega
 ·rw [if_neg h1] at h ⊢
  obtain ⟨a, b, rfl, h2, h3⟩ := atL_in (atL_mem.1 (show 0 ≤ atL (memD l) v by omega))
  rw [h3] at h ⊢
  rw [if_neg (show ¬ ((a.length : Int) + 1 < 0) by omega)] at h ⊢
  rw [memD_len] at h ⊢
  by_cases h4 : ((a ++ v :: b).length : Int) ≤ (a.length : Int) + 1
  ·rw [if_pos h4] at h; omega
  ·rw [if_neg h4]
   cases b with
   | nil => simp at h4
   | cons y b =>
    refine ⟨y, ⟨a, b, rfl⟩, ?_⟩
    rw [show ((a.length : Int) + 1).toNat = a.length + 1 by omega, elem_memD (by simp)]
    simp
theorem before_adj {l : List Nat} {v : Nat} (h : ¬ besideL (memD l) v (-1) < 0) : ∃ x, adj l x v ∧ besideL (memD l) v (-1) = (x : Nat) := by
 unfold besideL at h ⊢
 by_cases h1 : atL (memD l) v < 0
 ·rw [if_pos h1] at h; omega
 ·rw [if_neg h1] at h ⊢
  obtain ⟨a, b, rfl, h2, h3⟩ := atL_in (atL_mem.1 (show 0 ≤ atL (memD l) v by omega))
  rw [h3] at h ⊢
  by_cases h4 : (a.length : Int) + -1 < 0
  ·rw [if_pos h4] at h; omega
  ·rw [if_neg h4] at h ⊢
   rw [memD_len] at h ⊢
   rw [if_neg (show ¬ ((a ++ v :: b).length : Int) ≤ (a.length : Int) + -1 by simp only [List.length_append]; omega)]
   rcases List.eq_nil_or_concat a with q | ⟨a', x, q⟩
   ·subst q; simp at h4
   ·rw [List.concat_eq_append] at q
    subst q
    refine ⟨x, ⟨a', b, by simp⟩, ?_⟩
    rw [show (((a' ++ [x]).length : Nat) + -1 : Int).toNat = a'.length by simp only [List.length_append, List.length_cons, List.length_nil]; omega, elem_memD (by simp only [List.length_append, List.length_cons]; omega)]
    simp
def cmdD (k : Nat) : List D := [D.str (textS k)]
def fine (nx : Int) (l : List (List D)) : Prop := ∃ ks : List Nat, ks.Pairwise (· < ·) ∧ (∀ k ∈ ks, 1 ≤ k ∧ (k : Int) ≤ nx) ∧ l = ks.map cmdD
theorem fine_nil (nx : Int) : fine nx [] := ⟨[], List.Pairwise.nil, fun _ h => (by cases h), rfl⟩
theorem fine_mono {nx nx' : Int} {l : List (List D)} (h : fine nx l) (hn : nx ≤ nx') : fine nx' l := by
 obtain ⟨ks, h1, h2, h3⟩ := h
 exact ⟨ks, h1, fun k hk => ⟨(h2 k hk).1, by have := (h2 k hk).2; omega⟩, h3⟩
theorem fine_prefix {nx : Int} {l l' : List (List D)} (h : fine nx l) (hp : l' <+: l) : fine nx l' := by
 obtain ⟨ks, h1, h2, rfl⟩ := h
 obtain ⟨q, hq⟩ := hp
 have : l' = (ks.take l'.length).map cmdD := by
  have e := congrArg (List.take l'.length) hq
  rw [List.take_left, ← List.map_take] at e
  exact e
 exact ⟨ks.take l'.length, h1.sublist (List.take_sublist ..), fun k hk => h2 k ((List.take_sublist ..).subset hk), this⟩
theorem fine_snoc {nx : Int} {l : List (List D)} (h : fine nx l) (h0 : 0 ≤ nx) : fine (nx + 1) (l ++ [[D.str (textS (nx + 1))]]) := by
 obtain ⟨ks, h1, h2, rfl⟩ := h
 refine ⟨ks ++ [(nx + 1).toNat], ?_, ?_, ?_⟩
 ·rw [List.pairwise_append]
  refine ⟨h1, List.pairwise_singleton .., fun a ha b hb => ?_⟩
  rw [List.mem_singleton] at hb; subst hb
  have := (h2 a ha).2
  omega
 ·intro k hk
  rcases List.mem_append.1 hk with q | q
  ·have := h2 k q; omega
  ·rw [List.mem_singleton] at q; subst q; omega
 ·rw [List.map_append]
  congr 1
  show _ = [[D.str (textS (((nx + 1).toNat : Nat) : Int))]]
  rw [Int.toNat_of_nonneg (by omega)]
theorem fine_str {nx : Int} {l : List (List D)} (h : fine nx l) {c : List D} (hc : c ∈ l) : c = [D.str (cell 0 c).toStr] := by
 obtain ⟨ks, _, _, rfl⟩ := h
 obtain ⟨k, _, rfl⟩ := List.mem_map.1 hc
 rfl
abbrev Hs := Hist (List D)
def okPass (s : Hs) (m : List D) : Prop := ∃ x y e : Nat, (cell 1 m).toInt = x ∧ (cell 2 m).toInt = y ∧ (cell 3 m).toInt = ((e + 1 : Nat) : Int) ∧ adj (s.mem (e + 1)) x y ∧ s.A x (e + 1) ∧
 ((cell 6 m).toBool = true → ∃ i : Nat, (cell 4 m).toInt = i ∧ (s.H x (e + 1))[i]? = some [D.str (cell 7 m).toStr]) ∧ ((s.H x e).length : Int) ≤ (cell 5 m).toInt
def okAck (s : Hs) (m : List D) : Prop := ∃ x y e i : Nat, (cell 1 m).toInt = y ∧ (cell 2 m).toInt = x ∧ (cell 3 m).toInt = (e : Nat) ∧ adj (s.mem e) x y ∧ s.A y e ∧
 (cell 4 m).toInt = i ∧ i ≤ (s.H y e).length ∧ s.comm ((s.H y e).take i)
def okMsg (s : Hs) (m : List D) : Prop := ((cell 0 m).toInt = 0 → okPass s m) ∧ ((cell 0 m).toInt = 1 → okAck s m)
open Hist (Le)
theorem take_pre {α : Type} {l l' : List α} (h : l <+: l') {i : Nat} (hi : i ≤ l.length) : l'.take i = l.take i := by
 obtain ⟨q, rfl⟩ := h
 exact List.take_append_of_le_length hi
theorem get_pre {α : Type} {l l' : List α} (h : l <+: l') {i : Nat} {c : α} (hi : l[i]? = some c) : l'[i]? = some c := by
 obtain ⟨q, rfl⟩ := h
 rw [List.getElem?_append_left (List.getElem?_eq_some_iff.1 hi).1]; exact hi
theorem A_n {s : Hs} (h : s.Inv) {x e : Nat} (ha : s.A x e) : e ≤ s.n ∧ 1 ≤ e := ⟨Nat.le_trans (h.A1 _ _ ha).1 (h.epn x), (h.A1 _ _ ha).2⟩
theorem okMsg_le {s s' : Hs} (h : s.Inv) (hl : Le s s') {m : List D} (hm : okMsg s m) : okMsg s' m := by
 refine ⟨fun h0 => ?_, fun h1 => ?_⟩
 ·obtain ⟨x, y, e, a1, a2, a3, a4, a5, a6, a7⟩ := hm.1 h0
  refine ⟨x, y, e, a1, a2, a3, by rw [hl.mem _ (A_n h a5).1]; exact a4, hl.A _ _ a5, fun hh => ?_, by rw [hl.old _ _ a5]; exact a7⟩
  obtain ⟨i, b1, b2⟩ := a6 hh
  exact ⟨i, b1, get_pre (hl.H _ _ a5) b2⟩
 ·obtain ⟨x, y, e, i, a1, a2, a3, a4, a5, a6, a7, a8⟩ := hm.2 h1
  have hp := hl.H _ _ a5
  refine ⟨x, y, e, i, a1, a2, a3, by rw [hl.mem _ (A_n h a5).1]; exact a4, hl.A _ _ a5, a6, Nat.le_trans a7 hp.length_le, ?_⟩
  rw [take_pre hp a7]
  exact Hist.comm_le h hl a8
structure RepOk (s : Hs) (i : Nat) (r : Rep) : Prop where
 id : r.id = (i : Nat)
 ep : r.ep = (s.ep i : Nat)
 mem : r.mem = memD (s.mem (s.ep i))
 row : r.row = s.H i (s.ep i)
 live : r.live = true → i ∈ s.mem (s.ep i)
 com : ∃ c : Nat, r.commit = c ∧ c ≤ r.row.length ∧ s.comm (r.row.take c)
 ack : ∃ a : Nat, r.acked = a ∧ a ≤ r.row.length ∧ s.comm (r.row.take a)
 base : r.live = true → ∀ y e, adj (s.mem (s.ep i)) i y → s.ep i = e + 1 → ((s.H i e).length : Int) ≤ r.base
 heard : r.live = true → r.heard = true → ∃ p e, s.ep i = e + 1 ∧ adj (s.mem (s.ep i)) p i ∧ s.A p (s.ep i) ∧ ((s.H p e).length : Int) ≤ r.need
theorem RepOk.le {s s' : Hs} (h : s.Inv) (hl : Le s s') {i : Nat} {r : Rep} (he : s'.ep i = s.ep i) (hH : ∀ e, s'.H i e = s.H i e) (hr : RepOk s i r) : RepOk s' i r where
 id := hr.id
 ep := by rw [he]; exact hr.ep
 mem := by rw [he, hl.mem _ (h.epn i)]; exact hr.mem
 row := by rw [he, hH]; exact hr.row
 live := fun q => by rw [he, hl.mem _ (h.epn i)]; exact hr.live q
 com := by obtain ⟨c, a, b, d⟩ := hr.com; exact ⟨c, a, b, Hist.comm_le h hl d⟩
 ack := by obtain ⟨c, a, b, d⟩ := hr.ack; exact ⟨c, a, b, Hist.comm_le h hl d⟩
 base := fun q y e => by rw [he, hl.mem _ (h.epn i), hH]; exact hr.base q y e
 heard := fun q1 q2 => by
  obtain ⟨p, e, a, b, c, d⟩ := hr.heard q1 q2
  refine ⟨p, e, by rw [he]; exact a, by rw [he, hl.mem _ (h.epn i)]; exact b, by rw [he]; exact hl.A _ _ c, ?_⟩
  rw [hl.old p e (by rw [← a]; exact c)]; exact d
section
variable {s : Hs} {i : Nat} {r : Rep}
theorem RepOk.epos (h : s.Inv) (hr : RepOk s i r) (hl : r.live = true) : 1 ≤ s.ep i ∧ s.A i (s.ep i) := by
 have := hr.live hl
 have h1 : 1 ≤ s.ep i := by
  rcases Nat.eq_zero_or_pos (s.ep i) with q | q
  ·rw [q, h.mem0] at this; cases this
  ·exact q
 exact ⟨h1, h.A2 i h1⟩
theorem RepOk.pass (h : s.Inv) (hr : RepOk s i r) (hl : r.live = true) (nx : Int) (hf : fine nx (s.H i (s.ep i))) (k : Int) (has : Bool) (hk : has = true → 0 ≤ k ∧ k < r.row.length) : ∀ m ∈ r.pass k has, okMsg s m := by
 intro m hm
 unfold Rep.pass at hm
 by_cases hn : r.next < 0
 ·rw [if_pos hn] at hm; cases hm
 ·rw [if_neg hn, List.mem_singleton] at hm
  have hn2 : ¬ besideL (memD (s.mem (s.ep i))) i 1 < 0 := by
   have : r.next = besideL (memD (s.mem (s.ep i))) i 1 := by unfold Rep.next; rw [hr.mem, hr.id]
   rw [← this]; exact hn
  obtain ⟨y, h1, h2⟩ := next_adj hn2
  have hy : r.next = (y : Nat) := by unfold Rep.next; rw [hr.mem, hr.id]; exact h2
  obtain ⟨p1, p2⟩ := hr.epos h hl
  obtain ⟨e, he⟩ : ∃ e, s.ep i = e + 1 := ⟨s.ep i - 1, by omega⟩
  refine ⟨fun _ => ⟨i, y, e, ?_, ?_, ?_, by rw [← he]; exact h1, by rw [← he]; exact p2, fun hh => ?_, ?_⟩, fun h1 => ?_⟩
  ·subst hm; exact hr.id
  ·subst hm; exact hy
  ·subst hm; show r.ep = _; rw [hr.ep, he]
  ·have hh2 : has = true := by subst hm; exact hh
   obtain ⟨k0, k1⟩ := hk hh2
   refine ⟨k.toNat, ?_, ?_⟩
   ·subst hm; show k = _; omega
   ·have hlt : k.toNat < (s.H i (s.ep i)).length := by rw [← hr.row]; omega
    rw [← he, List.getElem?_eq_getElem hlt]
    congr 1
    have hmem : (s.H i (s.ep i))[k.toNat] ∈ s.H i (s.ep i) := List.getElem_mem hlt
    refine (fine_str hf hmem).trans ?_
    subst hm
    show _ = [D.str (if has then (cell 0 (elem k.toNat r.row)).toStr else _)]
    rw [if_pos hh2, hr.row]
    unfold elem
    rw [List.getD_eq_getElem?_getD, List.getElem?_eq_getElem hlt]; rfl
  ·subst hm; exact hr.base hl y e h1 he
  ·subst hm; exact absurd (show (0 : Int) = 1 from h1) (by decide)
theorem RepOk.againG (h : s.Inv) (hr : RepOk s i r) (hl : r.live = true) (nx : Int) (hf : fine nx (s.H i (s.ep i))) : ∀ (n : Nat) (k : Int) (out : List (List D)), 0 ≤ k → (∀ m ∈ out, okMsg s m) → ∀ m ∈ r.againG n k out, okMsg s m := by
 intro n
 induction n with
 | zero => intro k out _ ho m hm; exact ho m hm
 | succ n ih =>
  intro k out hk ho m hm
  unfold Rep.againG at hm
  by_cases q : k < r.row.length ∧ k < r.acked + 8
  ·rw [if_pos q] at hm
   refine ih (k + 1) _ (by omega) (fun m2 h2 => ?_) m hm
   rcases List.mem_append.1 h2 with h3 | h3
   ·exact ho m2 h3
   ·exact hr.pass h hl nx hf k true (fun _ => ⟨hk, q.1⟩) m2 h3
  ·rw [if_neg q] at hm; exact ho m hm
theorem RepOk.again (h : s.Inv) (hr : RepOk s i r) (nx : Int) (hf : fine nx (s.H i (s.ep i))) : ∀ m ∈ r.again, okMsg s m := by
 intro m hm
 unfold Rep.again at hm
 cases hl : r.live with
 | false => rw [hl, if_neg (by decide)] at hm; cases hm
 | true =>
  rw [hl, if_pos rfl] at hm
  obtain ⟨a, ha, _⟩ := hr.ack
  split at hm
  ·exact hr.againG h hl nx hf 9 r.acked [] (by omega) (fun m2 h2 => by cases h2) m hm
  ·exact hr.pass h hl nx hf _ false (fun q => by cases q) m hm
theorem RepOk.acks (h : s.Inv) (hr : RepOk s i r) (hl : r.live = true) : ∀ m ∈ r.ack, okMsg s m := by
 intro m hm
 unfold Rep.ack at hm
 by_cases hn : r.before < 0
 ·rw [if_pos hn] at hm; cases hm
 ·rw [if_neg hn, List.mem_singleton] at hm
  have hb : r.before = besideL (memD (s.mem (s.ep i))) i (-1) := by unfold Rep.before; rw [hr.mem, hr.id]
  obtain ⟨x, h1, h2⟩ := before_adj (by rw [← hb]; exact hn)
  obtain ⟨p1, p2⟩ := hr.epos h hl
  obtain ⟨c, c1, c2, c3⟩ := hr.com
  refine ⟨fun h0 => ?_, fun _ => ⟨x, i, s.ep i, c, ?_, ?_, ?_, h1, p2, ?_, by rw [← hr.row]; exact c2, by rw [← hr.row]; exact c3⟩⟩
  ·subst hm; exact absurd (show (1 : Int) = 0 from h0) (by decide)
  ·subst hm; exact hr.id
  ·subst hm; exact hb.trans h2
  ·subst hm; exact hr.ep
  ·subst hm; exact c1
theorem RepOk.last (h : s.Inv) (hr : RepOk s i r) : r.last = true ↔ (s.mem (s.ep i)).getLast? = some i := by
 unfold Rep.last
 rw [Bool.and_eq_true, decide_eq_true_iff, decide_eq_true_iff, hr.mem, hr.id, memD_len]
 exact atL_last (h.nd _)
theorem RepOk.tail (h : s.Inv) (hr : RepOk s i r) (ht : r.tail = true) : r.live = true ∧ (s.mem (s.ep i)).getLast? = some i := by
 unfold Rep.tail at ht
 rw [Bool.and_eq_true] at ht
 exact ⟨ht.1, (hr.last h).1 ht.2⟩
theorem RepOk.all (h : s.Inv) (hr : RepOk s i r) (ht : r.tail = true) : s.comm r.row := by
 obtain ⟨h1, h2⟩ := hr.tail h ht
 refine .inr ⟨s.ep i, i, h2, (hr.epos h h1).2, ?_⟩
 rw [hr.row]; exact List.prefix_refl _
theorem RepOk.adds (h : s.Inv) (hr : RepOk s i r) (hl : r.live = true) (nx : Int) (cmd : ByteArray) (hf : fine nx (s.H i (s.ep i) ++ [[D.str cmd]]))
  (hc : ∀ z, [z, i].Sublist (s.mem (s.ep i)) → s.H i (s.ep i) ++ [[D.str cmd]] <+: s.H z (s.ep i)) :
  (s.add i [D.str cmd]).Inv ∧ RepOk (s.add i [D.str cmd]) i (r.add cmd).1 ∧ ∀ m ∈ (r.add cmd).2, okMsg (s.add i [D.str cmd]) m := by
 obtain ⟨p1, p2⟩ := hr.epos h hl
 have hi := Hist.add_Inv h i [D.str cmd] p1 hc
 have hle := Hist.add_Le h i [D.str cmd]
 have hat : (s.add i [D.str cmd]).H i (s.ep i) = r.row ++ [[D.str cmd]] := by rw [Hist.add_at s i _ (Nat.le_refl _), hr.row]
 have hlo : ∀ e, s.ep i = e + 1 → ∀ p, (s.add i [D.str cmd]).H p e = s.H p e := fun e he p => Hist.add_lo s i _ (fun q => by omega)
 have k1 : RepOk (s.add i [D.str cmd]) i { r with row := r.row ++ [[D.str cmd]] } := {
  id := hr.id
  ep := hr.ep
  mem := hr.mem
  row := hat.symm
  live := hr.live
  com := by
   obtain ⟨c, a, b, d⟩ := hr.com
   refine ⟨c, a, by simp only [List.length_append]; omega, ?_⟩
   show Hist.comm _ ((r.row ++ [[D.str cmd]]).take c)
   rw [List.take_append_of_le_length b]
   exact Hist.comm_le h hle d
  ack := by
   obtain ⟨c, a, b, d⟩ := hr.ack
   refine ⟨c, a, by simp only [List.length_append]; omega, ?_⟩
   show Hist.comm _ ((r.row ++ [[D.str cmd]]).take c)
   rw [List.take_append_of_le_length b]
   exact Hist.comm_le h hle d
  base := fun q y e a b => by rw [hlo e b]; exact hr.base q y e a b
  heard := fun q1 q2 => by
   obtain ⟨p, e, a, b, c, d⟩ := hr.heard q1 q2
   exact ⟨p, e, a, b, c, by rw [hlo e a]; exact d⟩ }
 refine ⟨hi, ?_⟩
 unfold Rep.add
 by_cases ht : ({ r with row := r.row ++ [[D.str cmd]] } : Rep).tail = true
 ·rw [if_pos ht]
  refine ⟨{ k1 with com := ⟨(r.row ++ [[D.str cmd]]).length, rfl, Nat.le_refl _, ?_⟩ }, fun m hm => by cases hm⟩
  show Hist.comm _ ((r.row ++ [[D.str cmd]]).take _)
  rw [List.take_length]
  exact k1.all hi ht
 ·rw [if_neg ht]
  refine ⟨k1, k1.pass hi hl nx ?_ _ true (fun _ => ?_)⟩
  ·rw [show (s.add i [D.str cmd]).ep i = s.ep i from rfl, hat, hr.row]; exact hf
  ·show _ ∧ _ < ((r.row ++ [[D.str cmd]]).length : Int)
   simp only [List.length_append, List.length_cons, List.length_nil]; omega
end
end Go.Proofs.Ythlbahcggmbfaaa.V

namespace Go.Proofs.Ythlbahcggmbfaaa.V
variable {R : Type}
theorem run_ok {fu : Nat} (hf : 1001 ≤ fu) (l : List (List D)) (hll : l.length ≤ 100000) (k0 : List (List D) → Int → Bool → List (List D) → List (List D) → List (List D) → List (D × List D) → Option R)
  (L : Nat → Int → List (List D) → Int → Bool → List (List D) → List (List D) → List (List D) → List (D × List D) → Option R)
  (step : ∀ n i a b c d e f g, L (n + 1) i a b c d e f g = bif decide (i < ofN l.length) then bif within i l.length then F13 fu [D.int (cell 0 (elem i.toNat l)).toInt, D.int (cell 1 (elem i.toNat l)).toInt, D.int (cell 2 (elem i.toNat l)).toInt] d e f a b c g (fun o_0 o_1 o_2 o_3 o_4 => L n (IntKind.i64.wrap (i + 1)) o_0 o_1 o_2 o_3 e o_4 g) (fun o_5 o_6 o_7 o_8 => L n (IntKind.i64.wrap (i + 1)) o_5 b o_6 o_7 e o_8 g) (fun o_9 o_10 o_11 o_12 => L n (IntKind.i64.wrap (i + 1)) o_9 b o_10 o_11 e f o_12) (fun o_13 o_14 o_15 => L n (IntKind.i64.wrap (i + 1)) o_13 b o_14 o_15 e f g) (fun o_16 o_17 o_18 o_19 o_20 => L n (IntKind.i64.wrap (i + 1)) o_16 b o_17 o_18 o_20 f o_19) else none else k0 a b c d e f g) :
  ∀ (n i m : Nat) (w : Ward), w.Inv m → m + l.length ≤ 900 + i → l.length + 1 ≤ i + n → i ≤ l.length →
  L n (i : Int) w.best w.next w.bad (cellsL w.rs) w.all w.way w.c.tab = k0 (w.all3 (l.drop i)).best (w.all3 (l.drop i)).next (w.all3 (l.drop i)).bad (cellsL (w.all3 (l.drop i)).rs) (w.all3 (l.drop i)).all (w.all3 (l.drop i)).way (w.all3 (l.drop i)).c.tab := by
 intro n
 induction n with
 | zero => intro i m w h h1 h2 h3; omega
 | succ n ih =>
  intro i m w h h1 h2 h3
  rw [step]
  by_cases hi : i < l.length
  ·rw [lt_true (show (i : Int) < ofN l.length by unfold ofN; omega), cond_true, within_of hi, cond_true, Int.toNat_natCast, wrap_succ (by omega)]
   have hd : l.drop i = elem i l :: l.drop (i + 1) := by
    rw [List.drop_eq_getElem_cons hi]; unfold elem; rw [List.getD_eq_getElem?_getD, List.getElem?_eq_getElem hi]; rfl
   have := does_ok (R := R) hf (by omega) w h [D.int (cell 0 (elem i l)).toInt, D.int (cell 1 (elem i l)).toInt, D.int (cell 2 (elem i l)).toInt] (fun b x bd r l y t => L n ((i + 1 : Nat) : Int) b x bd r l y t) _ _ _ _ _ (fun _ _ _ _ _ => rfl) (fun _ _ _ _ => rfl) (fun _ _ _ _ => rfl) (fun _ _ _ => rfl) (fun _ _ _ _ _ => rfl)
   refine this.trans ?_
   rw [hd]
   exact ih (i + 1) (m + 1) (w.op3 (elem i l)) (Ward.does_Inv h _ _ _) (by omega) (by omega) (by omega)
  ·rw [lt_false (show ¬ (i : Int) < ofN l.length by unfold ofN; omega), cond_false, List.drop_eq_nil_of_le (by omega)]
   rfl
def Ids (rs : List Rep) : Prop := ∀ i < rs.length, (nthR rs i).id = (i : Nat)
theorem nthR_set_ne {rs : List Rep} {k i : Nat} (h : k ≠ i) (q : Rep) : nthR (rs.set k q) i = nthR rs i := by
 unfold nthR; rw [List.getD_eq_getElem?_getD, List.getD_eq_getElem?_getD, List.getElem?_set_ne h]
theorem Ids.set {rs : List Rep} (h : Ids rs) {k : Nat} {q : Rep} (hq : q.id = (k : Nat)) : Ids (rs.set k q) := by
 intro i hi
 rw [List.length_set] at hi
 by_cases e : k = i
 ·subst e; rw [nthR_set hi, hq]
 ·rw [nthR_set_ne e]; exact h i hi
theorem op_Ids {w : Ward} (h5 : w.rs.length = 5) (h : Ids w.rs) (kind node at_ : Int) : Ids (w.op kind node at_).rs := by
 have hk := nodeOf_lt node
 have hid := h (nodeOf node) (by omega)
 have ho : ∀ a b c, Ids (w.ordered a b c).rs := fun a b c => by unfold Ward.ordered; split <;> exact h
 unfold Ward.op
 simp only
 split
 ·exact h.set (by rw [order_same]; exact hid)
 ·split
  ·exact h
  ·split
   ·split
    ·show Ids (comesR _ _)
     unfold comesR
     split
     ·refine h.set ?_
      rw [receive_same]
      have := h (toOf (elem (atOf w.way at_).toNat w.way)).toNat (by omega)
      rw [this]
     ·exact h
    ·exact h
   ·split
    ·split <;> exact h
    ·split
     ·exact h.set (by rw [adopt_same]; exact hid)
     ·split
      ·exact h.set rfl
      ·split
       ·exact ho _ _ _
       ·split
        ·exact ho _ _ _
        ·split
         ·split
          ·exact ho _ _ _
          ·exact h
         ·exact h
theorem all3_Ids : ∀ (l : List (List D)) (w : Ward) (n : Nat), w.Inv n → Ids w.rs → Ids (w.all3 l).rs
 | [], _, _, _, h => h
 | o :: l, w, n, hi, h => all3_Ids l (w.op3 o) (n + 1) (Ward.does_Inv hi _ _ _) (op_Ids hi.five h _ _ _)
theorem begin_Ids (m : Nat) : Ids (Ward.begin m).rs := by
 intro i hi
 have h5 : i < 5 := by simpa [Ward.begin, reps] using hi
 show (nthR (reps 5) i).id = _
 have : i = 0 ∨ i = 1 ∨ i = 2 ∨ i = 3 ∨ i = 4 := by omega
 rcases this with rfl | rfl | rfl | rfl | rfl <;> rfl
theorem byte_wf {d : D} (h : WFD (FT.int IntKind.u8) d) : 0 ≤ d.toInt ∧ d.toInt < 256 := by
 cases h with
 | int k n h =>
  unfold Lit.wf at h
  simp [IntKind.min, IntKind.max, IntKind.signed, IntKind.bits] at h
  show 0 ≤ n ∧ n < 256
  omega
theorem WFDs.u8 {ds : List D} (h : WFDs [FT.int IntKind.u8] ds) : 0 ≤ (V.cell 0 ds).toInt ∧ (V.cell 0 ds).toInt < 256 := byte_wf (h.cell (j := 0) rfl)
theorem wrap_u8 {n : Int} (h0 : 0 ≤ n) (h1 : n < 256) : IntKind.i64.wrap n = n := wrap_of (by omega) (by omega)
def manyOf (n : Int) : Nat := 1 + (n.tmod 4).toNat
theorem manyOf_range {n : Int} (h0 : 0 ≤ n) : 1 ≤ manyOf n ∧ manyOf n ≤ 4 := by
 unfold manyOf
 rw [Int.tmod_eq_emod_of_nonneg h0]
 omega
theorem many_ok (fu : Nat) {n : Int} (h0 : 0 ≤ n) (h1 : n < 256) (k : Int → Option R) : F12 fu n k = k ((manyOf n : Nat) : Int) := by
 rw [F12_eq]; unfold Fb12
 rw [wrap_u8 h0 h1]
 unfold manyOf
 rw [Int.tmod_eq_emod_of_nonneg h0, wrap_of (by omega) (by omega)]
 congr 1; omega
def whoOf (n : Int) : Nat := (n.tmod 5).toNat
theorem who_ok {n : Int} (h0 : 0 ≤ n) (h1 : n < 256) : (IntKind.i64.wrap n).tmod 5 = ((whoOf n : Nat) : Int) ∧ whoOf n < 5 := by
 rw [wrap_u8 h0 h1]
 unfold whoOf
 rw [Int.tmod_eq_emod_of_nonneg h0]
 omega
structure Ran (w : Ward) (n : Nat) : Prop where
 inv : w.Inv n
 ids : Ids w.rs
theorem ran_of (m : Nat) (hm : m ≤ 4) (l : List (List D)) : Ran ((Ward.begin m).all3 l) l.length := by
 have := all3_Inv l (Ward.begin m) 0 (begin_Inv m hm)
 rw [Nat.zero_add] at this
 exact ⟨this, all3_Ids l (Ward.begin m) 0 (begin_Inv m hm) (begin_Ids m)⟩
end Go.Proofs.Ythlbahcggmbfaaa.V

namespace Go.Proofs.Ythlbahcggmbfaaa.V
open Hist (Le)
structure SInv (w : Ward) (s : Hs) (n : Nat) : Prop where
 inv : s.Inv
 n1 : 1 ≤ s.n
 nl : s.n ≤ n + 1
 nx0 : 0 ≤ w.next
 nx : w.next ≤ n
 five : w.rs.length = 5
 reps : ∀ i < 5, RepOk s i (nthR w.rs i)
 rows : ∀ i e, fine w.next (s.H i e)
 lt5 : ∀ e, ∀ x ∈ s.mem e, x < 5
 jn1 : s.jn s.n = true → ∀ e, s.n = e + 1 → 1 ≤ e
 conf : ∀ c ∈ w.all, ∃ (e : Nat) (j : Bool), 1 ≤ e ∧ e ≤ s.n ∧ c = [D.int (e : Nat), D.row (memD (s.mem e)), D.bool j] ∧ (j = false → s.jn e = false) ∧ (j = true → ∀ x, (s.mem e).getLast? = some x → ∃ e', e = e' + 1 ∧ 1 ≤ e' ∧ ¬ s.full e' x)
 tab : w.c = ⟨(s.n : Nat), memD (s.mem s.n), s.jn s.n⟩
 some_ : 0 < w.all.length
 one : ∃ x, s.full s.n x
 way : ∀ m ∈ w.way, okMsg s m
 best : s.comm w.best
 bad : w.bad = false
section
variable {s : Hs} {i : Nat} {r : Rep}
def RStep (s : Hs) (nx : Int) (i : Nat) (q : Rep × List (List D)) : Prop :=
 ∃ s' : Hs, s'.Inv ∧ Le s s' ∧ (s'.n = s.n ∧ s'.jn = s.jn ∧ ∀ e, s'.mem e = s.mem e) ∧ (∀ j, j ≠ i → s'.ep j = s.ep j ∧ ∀ e, s'.H j e = s.H j e) ∧ (∀ e, fine nx (s'.H i e)) ∧ RepOk s' i q.1 ∧ ∀ m ∈ q.2, okMsg s' m
theorem RStep.same (h : s.Inv) {nx : Int} (hf : ∀ e, fine nx (s.H i e)) {q : Rep × List (List D)} (h1 : RepOk s i q.1) (h2 : ∀ m ∈ q.2, okMsg s m) : RStep s nx i q :=
 ⟨s, h, Le.refl s, ⟨rfl, rfl, fun _ => rfl⟩, fun _ _ => ⟨rfl, fun _ => rfl⟩, hf, h1, h2⟩
theorem add_fine (s : Hs) {nx : Int} {c : List D} (hf : ∀ e, fine nx (s.H i e)) (hc : fine nx (s.H i (s.ep i) ++ [c])) : ∀ e, fine nx ((s.add i c).H i e) := fun e => by
 by_cases q : i = i ∧ s.ep i ≤ e
 ·rw [Hist.add_at s i c q.2]; exact hc
 ·rw [Hist.add_lo s i c q]; exact hf e
theorem RStep.adds (h : s.Inv) (hr : RepOk s i r) (hl : r.live = true) {nx : Int} (hf : ∀ e, fine nx (s.H i e)) (cmd : ByteArray) (hc : fine nx (s.H i (s.ep i) ++ [[D.str cmd]]))
  (hp : ∀ z, [z, i].Sublist (s.mem (s.ep i)) → s.H i (s.ep i) ++ [[D.str cmd]] <+: s.H z (s.ep i)) : RStep s nx i (r.add cmd) := by
 obtain ⟨a, b, c⟩ := hr.adds h hl nx cmd hc hp
 exact ⟨_, a, Hist.add_Le h i _, ⟨rfl, rfl, fun _ => rfl⟩, fun j hj => ⟨rfl, fun e => Hist.add_lo s i _ (fun q => hj q.1)⟩, add_fine s hf hc, b, c⟩
theorem RStep.order (h : s.Inv) (hr : RepOk s i r) {nx : Int} (h0 : 0 ≤ nx) (hf : ∀ e, fine nx (s.H i e)) : RStep s (nx + 1) i (r.order (textS (nx + 1))) := by
 have hf1 : ∀ e, fine (nx + 1) (s.H i e) := fun e => fine_mono (hf e) (by omega)
 unfold Rep.order
 cases hh : r.head with
 | false => rw [if_neg (by decide)]; exact RStep.same h hf1 hr (fun m hm => by cases hm)
 | true =>
  rw [if_pos rfl]
  unfold Rep.head at hh
  rw [Bool.and_eq_true, decide_eq_true_iff, hr.mem, hr.id] at hh
  obtain ⟨a, b, e1, e2, e3⟩ := atL_in (hr.live hh.1)
  refine RStep.adds h hr hh.1 hf1 _ (fine_snoc (hf _) h0) (fun z hz => ?_)
  exfalso
  rw [e3] at hh
  have ha : a = [] := List.length_eq_zero_iff.1 (by omega)
  subst ha
  have hn := h.nd (s.ep i)
  have hne := Hist.pair_ne hn hz
  rw [e1] at hz hn
  simp only [List.nil_append] at hz hn
  rcases List.sublist_cons_iff.1 hz with q | ⟨l, q1, q2⟩
  ·exact (List.nodup_cons.1 hn).1 (q.subset (by simp))
  ·injection q1 with q3 _; exact hne q3
theorem heardOf_ok (hr : RepOk s i r) (m : List D) (hp : r.live = true → ∃ p e, s.ep i = e + 1 ∧ adj (s.mem (s.ep i)) p i ∧ s.A p (s.ep i) ∧ ((s.H p e).length : Int) ≤ (cell 5 m).toInt) : RepOk s i (r.heardOf m) :=
 { hr with
  heard := fun q _ => by
   obtain ⟨p, e, a, b, c, d⟩ := hp q
   refine ⟨p, e, a, b, c, ?_⟩
   show _ ≤ (if (cell 5 m).toInt > r.need then (cell 5 m).toInt else r.need)
   split <;> omega }
theorem ackedOf_ok (hr : RepOk s i r) {k : Nat} (hk : k ≤ r.row.length) (hc : s.comm (r.row.take k)) : ∃ a : Nat, r.ackedOf (k : Nat) = a ∧ a ≤ r.row.length ∧ s.comm (r.row.take a) := by
 obtain ⟨a, h1, h2, h3⟩ := hr.ack
 unfold Rep.ackedOf
 rw [if_neg (show ¬ (r.row.length : Int) < (k : Nat) by omega)]
 by_cases q : ((k : Nat) : Int) > r.acked
 ·rw [if_pos q]; exact ⟨k, rfl, hk, hc⟩
 ·rw [if_neg q]; exact ⟨a, h1, h2, h3⟩
theorem RStep.receive (h : s.Inv) (hr : RepOk s i r) {nx : Int} (hf : ∀ j e, fine nx (s.H j e)) (m : List D) (hm : okMsg s m) : RStep s nx i (r.receive m) := by
 unfold Rep.receive
 cases hmi : r.mine m with
 | false => rw [if_neg (by decide)]; exact RStep.same h (hf i) hr (fun m hm => by cases hm)
 | true =>
  rw [if_pos rfl]
  unfold Rep.mine at hmi
  rw [Bool.and_eq_true, Bool.and_eq_true, Bool.and_eq_true, decide_eq_true_iff, decide_eq_true_iff] at hmi
  obtain ⟨hl, hto, hep, _⟩ := hmi
  rw [hr.id] at hto
  rw [hr.ep] at hep
  obtain ⟨p1, p2⟩ := hr.epos h hl
  by_cases q0 : (cell 0 m).toInt = 0 ∧ (cell 1 m).toInt = r.before
  ·rw [if_pos q0]
   obtain ⟨x, y, e, a1, a2, a3, a4, a5, a6, a7⟩ := hm.1 q0.1
   have hy : y = i := by omega
   have he : s.ep i = e + 1 := by omega
   subst hy
   rw [← he] at a4 a5 a6
   have k1 : RepOk s y (r.heardOf m) := heardOf_ok hr m (fun _ => ⟨x, e, he, a4, a5, a7⟩)
   unfold Rep.passed
   by_cases q1 : (cell 6 m).toBool = true ∧ (cell 4 m).toInt = r.row.length
   ·rw [if_pos q1]
    obtain ⟨k, b1, b2⟩ := a6 q1.1
    have hk : k = (s.H y (s.ep y)).length := by rw [← hr.row]; omega
    have hpre : s.H y (s.ep y) <+: s.H x (s.ep y) := h.C _ _ _ p2 (adj_sub a4)
    have hpre2 : s.H y (s.ep y) ++ [[D.str (cell 7 m).toStr]] <+: s.H x (s.ep y) := by
     obtain ⟨t, ht⟩ := hpre
     rw [← ht, hk, List.getElem?_append_right (Nat.le_refl _), Nat.sub_self] at b2
     cases t with
     | nil => cases b2
     | cons c t =>
      simp only [List.getElem?_cons_zero, Option.some.injEq] at b2
      subst b2
      exact ⟨t, by rw [← ht]; simp⟩
    have hfx := fine_prefix (hf x (s.ep y)) hpre2
    obtain ⟨c1, c2, c3⟩ := k1.adds h hl nx (cell 7 m).toStr hfx (fun z hz => by
     rcases adj_ahead (h.nd _) a4 hz with q | q
     ·subst q; exact hpre2
     ·exact hpre2.trans (h.D _ _ _ (Hist.pair_full h (adj_sub a4)) q))
    refine ⟨_, c1, Hist.add_Le h y _, ⟨rfl, rfl, fun _ => rfl⟩, fun j hj => ⟨rfl, fun e => Hist.add_lo s y _ (fun q => hj q.1)⟩, add_fine s (hf y) hfx, c2, fun m2 h2 => ?_⟩
    rcases List.mem_append.1 h2 with h3 | h3
    ·exact c3 m2 h3
    ·refine c2.acks c1 ?_ m2 h3
     rw [add_same]; exact hl
   ·rw [if_neg q1]
    exact RStep.same h (hf y) k1 (fun m2 h2 => k1.acks h hl m2 h2)
  ·rw [if_neg q0]
   by_cases q1 : (cell 0 m).toInt = 1 ∧ (cell 1 m).toInt = r.next
   ·rw [if_pos q1]
    obtain ⟨x, y, e, k, a1, a2, a3, a4, a5, a6, a7, a8⟩ := hm.2 q1.1
    have hx : x = i := by omega
    have he : e = s.ep i := by omega
    subst hx he
    have hpre : s.H y (s.ep x) <+: r.row := by rw [hr.row]; exact h.C _ _ _ a5 (adj_sub a4)
    have hk := ackedOf_ok hr (k := k) (Nat.le_trans a7 hpre.length_le) (by rw [take_pre hpre a7]; exact a8)
    unfold Rep.acknowledged
    rw [a6]
    by_cases q2 : r.ackedOf (k : Nat) ≤ r.commit
    ·rw [if_pos q2]
     exact RStep.same h (hf x) { hr with ack := hk } (fun m2 h2 => by cases h2)
    ·rw [if_neg q2]
     have k1 : RepOk s x { r with acked := r.ackedOf (k : Nat), commit := r.ackedOf (k : Nat) } := { hr with ack := hk, com := hk }
     exact RStep.same h (hf x) k1 (fun m2 h2 => k1.acks h hl m2 h2)
   ·rw [if_neg q1]; exact RStep.same h (hf i) hr (fun m hm => by cases hm)
theorem was_le (h : s.Inv) {y e : Nat} (he : s.ep i = e + 1) (ha : adj (s.mem (s.ep i)) i y) : s.H i e <+: s.H i (s.ep i) := by
 rw [he] at ha ⊢
 by_cases q : e = 0
 ·subst q; rw [h.H0]; exact List.nil_prefix
 ·have h1 := adj_mem ha
  have h2 := adj_last (h.nd _) ha
  exact h.M e i (by omega) (h.stp2 e i (by omega) h1.1 h2) (Hist.pair_full h (adj_sub ha))
theorem adopt3_ok (h : s.Inv) (hr : RepOk s i r) : RepOk s i r.adopt3 := by
 unfold Rep.adopt3
 by_cases ht : r.tail = true
 ·rw [if_pos ht]
  exact { hr with com := ⟨r.row.length, rfl, Nat.le_refl _, by show Hist.comm _ (r.row.take _); rw [List.take_length]; exact hr.all h ht⟩ }
 ·rw [if_neg ht]; exact hr
theorem adopts_ok (h : s.Inv) (hr : RepOk s i { r with live := false, acked := 0 }) (hl : i ∈ s.mem (s.ep i))
  (hb : ∀ y e, adj (s.mem (s.ep i)) i y → s.ep i = e + 1 → (s.H i e).length ≤ r.row.length) : RepOk s i (r.adopt2.adopt3.adopt4 false) := by
 have k2 : RepOk s i { r.adopt2 with acked := 0, base := (r.row.length : Nat), heard := false, need := 0 } := {
  id := hr.id
  ep := hr.ep
  mem := hr.mem
  row := hr.row
  live := fun _ => hl
  com := hr.com
  ack := ⟨0, rfl, Nat.zero_le _, .inl rfl⟩
  base := fun _ y e a b => by have := hb y e a b; show ((s.H i e).length : Int) ≤ (r.row.length : Nat); omega
  heard := fun _ q => by cases q }
 have e : r.adopt2.adopt3.adopt4 false = Rep.adopt3 { r.adopt2 with acked := 0, base := (r.row.length : Nat), heard := false, need := 0 } := by
  unfold Rep.adopt3
  have e2 : ({ r.adopt2 with acked := 0, base := (r.row.length : Nat), heard := false, need := 0 } : Rep).tail = r.adopt2.tail := rfl
  rw [e2]
  cases r.adopt2.tail <;> rfl
 rw [e]
 exact adopt3_ok h k2
theorem adopt2_same (hr : RepOk s i { r with live := false, acked := 0 }) : r.adopt2 = { r with live := decide (i ∈ s.mem (s.ep i)) } := by
 unfold Rep.adopt2
 rw [show r.mem = memD (s.mem (s.ep i)) from hr.mem, show r.id = (i : Nat) from hr.id]
 congr 1
 exact decide_eq_decide.2 atL_mem
theorem RepOk.dead (hr : RepOk s i r) : RepOk s i { r with live := false } :=
 { hr with live := fun q => (by cases q), base := fun q => (by cases q), heard := fun q => (by cases q) }
def okConf (s : Hs) (c : List D) : Prop := ∃ (e : Nat) (j : Bool), 1 ≤ e ∧ e ≤ s.n ∧ c = [D.int (e : Nat), D.row (memD (s.mem e)), D.bool j] ∧ (j = false → s.jn e = false) ∧ (j = true → ∀ x, (s.mem e).getLast? = some x → ∃ e', e = e' + 1 ∧ 1 ≤ e' ∧ ¬ s.full e' x)
theorem RStep.ends (h : s.Inv) {q : Rep} (hq : RepOk s i { q with live := false, acked := 0 }) (ha : ¬ i ∈ s.mem (s.ep i) → RepOk s i { q with live := false }) {nx : Int} (hf : ∀ e, fine nx (s.H i e)) (was : Bool) (hw : was = true → RepOk s i { q with live := true } ∧ i ∈ s.mem (s.ep i))
  (hb : ∀ y e, adj (s.mem (s.ep i)) i y → s.ep i = e + 1 → (s.H i e).length ≤ q.row.length) :
  RepOk s i (if q.adopt2.live then (q.adopt2.adopt3.adopt4 was, (q.adopt2.adopt3.adopt4 was).again) else (q.adopt2, [])).1 ∧
  ∀ m ∈ (if q.adopt2.live then (q.adopt2.adopt3.adopt4 was, (q.adopt2.adopt3.adopt4 was).again) else (q.adopt2, [])).2, okMsg s m := by
 have e2 := adopt2_same hq
 by_cases hl : i ∈ s.mem (s.ep i)
 ·have hlv : q.adopt2.live = true := by rw [e2]; exact decide_eq_true hl
  rw [if_pos hlv]
  have k : RepOk s i (q.adopt2.adopt3.adopt4 was) := by
   cases was with
   | false => exact adopts_ok h hq hl hb
   | true =>
    have : q.adopt2 = { q with live := true } := by rw [e2, decide_eq_true hl]
    show RepOk s i q.adopt2.adopt3
    rw [this]
    exact adopt3_ok h (hw rfl).1
  exact ⟨k, k.again h nx (hf _)⟩
 ·have hlv : q.adopt2.live = false := by rw [e2]; exact decide_eq_false hl
  rw [hlv, if_neg (by decide)]
  refine ⟨?_, fun m hm => by cases hm⟩
  show RepOk s i q.adopt2
  rw [e2, decide_eq_false hl]
  exact ha hl
theorem RStep.adopt (h : s.Inv) (hr : RepOk s i r) {nx : Int} (hf : ∀ e, fine nx (s.H i e)) {c : List D} (hc : okConf s c) : RStep s nx i (r.adopt c) := by
 obtain ⟨e, j, c1, c2, rfl, c3, c4⟩ := hc
 have g0 : (cell 0 [D.int (e : Nat), D.row (memD (s.mem e)), D.bool j]).toInt = (e : Nat) := of_eq_true (eq_self _)
 have g1 : (cell 1 [D.int (e : Nat), D.row (memD (s.mem e)), D.bool j]).toRows = memD (s.mem e) := of_eq_true (eq_self _)
 have g2 : (cell 2 [D.int (e : Nat), D.row (memD (s.mem e)), D.bool j]).toBool = j := of_eq_true (eq_self _)
 unfold Rep.adopt Rep.adopt1
 have hre := hr.ep
 rw [g0, g1, g2]
 by_cases q0 : (e : Int) < r.ep
 ·rw [if_pos q0]; exact RStep.same h hf hr (fun m hm => by cases hm)
 ·rw [if_neg q0]
  by_cases q1 : r.ep < (e : Nat)
  ·simp only [if_pos q1]
   rw [show (r.live && decide (((e : Nat) : Int) = r.ep)) = false by rw [eq_false (show ¬ ((e : Nat) : Int) = r.ep by omega), Bool.and_false]]
   have hlt : s.ep i < e := by omega
   obtain ⟨e', rfl⟩ : ∃ e', e = e' + 1 := ⟨e - 1, by omega⟩
   have hH : s.H i e' = r.row := by rw [h.T e' i (by omega), hr.row]
   have hlast : ({ r with ep := ((e' + 1 : Nat) : Int), mem := memD (s.mem (e' + 1)), join := j } : Rep).last = true ↔ (s.mem (e' + 1)).getLast? = some i := by
    show (decide (0 < (memD (s.mem (e' + 1))).length) && decide (atL (memD (s.mem (e' + 1))) r.id = ((memD (s.mem (e' + 1))).length : Int) - 1)) = true ↔ _
    rw [Bool.and_eq_true, decide_eq_true_iff, decide_eq_true_iff, hr.id, memD_len]
    exact atL_last (h.nd _)
   by_cases q2 : (({ r with ep := ((e' + 1 : Nat) : Int), mem := memD (s.mem (e' + 1)), join := j } : Rep).last && j) = true
   ·simp only [if_pos q2]
    rw [Bool.and_eq_true] at q2
    have hla := hlast.1 q2.1
    have hnf : ¬ s.full (e' + 1) i := by
     obtain ⟨e2, a1, a2, a3⟩ := c4 q2.2 i hla
     have : e2 = e' := by omega
     subst this
     intro hfu
     rcases h.F e2 i a2 hfu with b | ⟨b, _⟩
     ·exact a3 b
     ·have := (h.A1 _ _ b).1; omega
    have hi := Hist.fresh_Inv h i (e' + 1) hlt c2 hnf
    have hle := Hist.fresh_Le h i (e' + 1) hlt
    have hep : (s.fresh i (e' + 1)).ep i = e' + 1 := Hist.goes_ep s i (e' + 1)
    have hHn : (s.fresh i (e' + 1)).H i (e' + 1) = [] := Hist.fresh_at s i (Nat.le_refl _)
    have hfi : ∀ e, fine nx ((s.fresh i (e' + 1)).H i e) := fun e => by
     by_cases q : i = i ∧ e' + 1 ≤ e
     ·rw [Hist.fresh_at s i q.2]; exact fine_nil nx
     ·rw [Hist.fresh_lo s i (e' + 1) q]; exact hf e
    refine ⟨_, hi, hle, ⟨rfl, rfl, fun _ => rfl⟩, fun k hk => ⟨Hist.goes_ne s i (e' + 1) hk, fun e => Hist.fresh_lo s i (e' + 1) (fun q => hk q.1)⟩, hfi, ?_⟩
    refine RStep.ends hi (q := { r with ep := ((e' + 1 : Nat) : Int), mem := memD (s.mem (e' + 1)), join := j, row := [], commit := 0, told := 0 }) ?_ (fun q => absurd (by rw [hep]; exact List.mem_of_getLast? hla) q) hfi false (fun q => by cases q) (fun y e a b => ?_)
    ·exact {
      id := hr.id
      ep := by rw [hep]
      mem := by rw [hep]; rfl
      row := by rw [hep, hHn]
      live := fun q => by cases q
      com := ⟨0, rfl, Nat.le_refl _, .inl rfl⟩
      ack := ⟨0, rfl, Nat.le_refl _, .inl rfl⟩
      base := fun q => by cases q
      heard := fun q => by cases q }
    ·exfalso
     rw [hep] at a
     exact adj_last (h.nd _) a hla
   ·simp only [if_neg q2]
    have hfu : i ∈ s.mem (e' + 1) → s.full (e' + 1) i := fun hm => ⟨hm, fun hj hla => by
     cases hjj : j with
     | true => exact q2 (by rw [Bool.and_eq_true]; exact ⟨hlast.2 hla, hjj⟩)
     | false => rw [c3 hjj] at hj; cases hj⟩
    have hi := Hist.goes_Inv h i (e' + 1) hlt c2 hfu
    have hle := Hist.goes_Le s i (e' + 1)
    have hep : (s.goes i (e' + 1)).ep i = e' + 1 := Hist.goes_ep s i (e' + 1)
    have hHn : s.H i (e' + 1) = r.row := by rw [h.T (e' + 1) i (by omega), hr.row]
    refine ⟨_, hi, hle, ⟨rfl, rfl, fun _ => rfl⟩, fun k hk => ⟨Hist.goes_ne s i (e' + 1) hk, fun e => rfl⟩, hf, ?_⟩
    obtain ⟨c, x1, x2, x3⟩ := hr.com
    obtain ⟨a, y1, y2, y3⟩ := hr.ack
    have hq : RepOk (s.goes i (e' + 1)) i { r with ep := ((e' + 1 : Nat) : Int), mem := memD (s.mem (e' + 1)), join := j, live := false } := {
      id := hr.id
      ep := by rw [hep]
      mem := by rw [hep]; rfl
      row := by rw [hep]; exact hHn.symm
      live := fun q => by cases q
      com := ⟨c, x1, x2, Hist.comm_le h hle x3⟩
      ack := ⟨a, y1, y2, Hist.comm_le h hle y3⟩
      base := fun q => by cases q
      heard := fun q => by cases q }
    refine RStep.ends hi (q := { r with ep := ((e' + 1 : Nat) : Int), mem := memD (s.mem (e' + 1)), join := j }) ?_ (fun _ => hq) hf false (fun q => by cases q) (fun y e a b => ?_)
    ·exact { hq with ack := ⟨0, rfl, Nat.zero_le _, .inl rfl⟩ }
    ·have : e = e' := by rw [hep] at b; omega
     subst this
     show (s.H i e).length ≤ r.row.length
     rw [hH]; exact Nat.le_refl _
  ·simp only [if_neg q1]
   have heq : e = s.ep i := by omega
   subst heq
   rw [show (r.live && decide (((s.ep i : Nat) : Int) = r.ep)) = r.live by rw [eq_true (show ((s.ep i : Nat) : Int) = r.ep from hre.symm), Bool.and_true]]
   have hd : RepOk s i { r with join := r.join && j, live := false } := { hr.dead with }
   refine ⟨s, h, Le.refl s, ⟨rfl, rfl, fun _ => rfl⟩, fun _ _ => ⟨rfl, fun _ => rfl⟩, hf, ?_⟩
   refine RStep.ends h (q := { r with join := r.join && j }) { hd with ack := ⟨0, rfl, Nat.zero_le _, .inl rfl⟩ } (fun _ => hd) hf r.live (fun q => ⟨?_, hr.live q⟩) (fun y e a b => ?_)
   ·have : RepOk s i { r with join := r.join && j } := { hr with }
    show RepOk s i { r with join := r.join && j, live := true }
    rw [← q]; exact this
   ·show _ ≤ r.row.length
    rw [hr.row]
    exact (was_le h b a).length_le
theorem RStep.new (h : s.Inv) (hr : RepOk s i r) : RepOk s i (r.new (i : Nat)) where
 id := rfl
 ep := hr.ep
 mem := hr.mem
 row := hr.row
 live := fun q => by cases q
 com := ⟨0, rfl, Nat.zero_le _, .inl rfl⟩
 ack := ⟨0, rfl, Nat.zero_le _, .inl rfl⟩
 base := fun q => by cases q
 heard := fun q => by cases q
end
end Go.Proofs.Ythlbahcggmbfaaa.V

namespace Go.Proofs.Ythlbahcggmbfaaa.V
open Hist (Le)
section
variable {w : Ward} {s : Hs} {n : Nat}
theorem SInv.mono (h : SInv w s n) : SInv w s (n + 1) := { h with nl := Nat.le_succ_of_le h.nl, nx := by have := h.nx; omega }
theorem SInv.sends (h : SInv w s n) (way : List (List D)) (hw : ∀ m ∈ way, okMsg s m) : SInv { w with way := way } s n := { h with way := hw }
theorem SInv.rep (h : SInv w s n) {k : Nat} (hk : k < 5) {q : Rep × List (List D)} {nx : Int} (hnx : w.next ≤ nx ∧ nx ≤ ((n + 1 : Nat) : Int)) (hq : RStep s nx k q) (way : List (List D)) (hway : ∀ m ∈ way, m ∈ w.way ∨ m ∈ q.2) :
  ∃ s', SInv { w with rs := w.rs.set k q.1, way := way, next := nx } s' (n + 1) := by
 obtain ⟨s', a, b, ⟨c1, c2, c3⟩, d, e, f, g⟩ := hq
 have c3 : s'.mem = s.mem := funext c3
 have hfull : ∀ e x, s'.full e x ↔ s.full e x := fun e x => by unfold Hist.full; rw [c2, c3]
 have h5 := h.five
 refine ⟨s', {
  inv := a
  n1 := by rw [c1]; exact h.n1
  nl := by rw [c1]; have := h.nl; omega
  nx0 := Int.le_trans h.nx0 hnx.1
  nx := hnx.2
  five := by simp [h5]
  reps := fun j hj => by
   by_cases q0 : k = j
   ·subst q0; rw [nthR_set (by omega)]; exact f
   ·show RepOk s' j (nthR (w.rs.set k q.1) j)
    rw [nthR_set_ne q0]
    obtain ⟨d1, d2⟩ := d j (fun q => q0 q.symm)
    exact (h.reps j hj).le h.inv b d1 d2
  rows := fun j e2 => by
   by_cases q0 : j = k
   ·subst q0; exact e e2
   ·rw [(d j q0).2]; exact fine_mono (h.rows j e2) hnx.1
  lt5 := by rw [c3]; exact h.lt5
  jn1 := by rw [c1, c2]; exact h.jn1
  conf := fun c hc => by
   obtain ⟨e2, j, b1, b2, b3, b4, b5⟩ := h.conf c hc
   refine ⟨e2, j, b1, by rw [c1]; exact b2, by rw [c3]; exact b3, by rw [c2]; exact b4, fun hj x hx => ?_⟩
   rw [c3] at hx
   obtain ⟨e', x1, x2, x3⟩ := b5 hj x hx
   exact ⟨e', x1, x2, fun q => x3 ((hfull _ _).1 q)⟩
  tab := by rw [c1, c2, c3]; exact h.tab
  some_ := h.some_
  one := by
   obtain ⟨x, hx⟩ := h.one
   exact ⟨x, by rw [c1]; exact (hfull _ _).2 hx⟩
  way := fun m hm => by
   rcases hway m hm with q0 | q0
   ·exact okMsg_le h.inv b (h.way m q0)
   ·exact g m q0
  best := Hist.comm_le h.inv b h.best
  bad := h.bad }⟩
theorem ordered_no {kd ep nd x : Int} (h : w.c.order kd ep nd = (x, w.c)) (hx : x ≠ 0) : w.ordered kd ep nd = w := by
 unfold Ward.ordered
 rw [h, if_neg hx]
theorem ordered_yes {kd ep nd : Int} {c : Cf} (h : w.c.order kd ep nd = (0, c)) : w.ordered kd ep nd = { w with c := c, all := w.all ++ [c.d] } := by
 unfold Ward.ordered
 rw [h, if_pos rfl]
theorem SInv.newc (h : SInv w s n) (m : List Nat) (j : Bool) (nd : m.Nodup) (h5 : ∀ x ∈ m, x < 5) (ho : ∃ x, x ∈ m ∧ (j = true → m.getLast? ≠ some x))
  (s1 : ∀ x y, [x, y].Sublist m → y ∈ s.mem s.n → [x, y].Sublist (s.mem s.n))
  (s2 : ∀ x, x ∈ m → m.getLast? ≠ some x → s.full s.n x)
  (s3 : ∀ x, j = true → m.getLast? = some x → ¬ s.full s.n x)
  (s4 : ∀ x, j = false → m.getLast? = some x → s.full s.n x) :
  SInv { w with c := ⟨((s.n + 1 : Nat) : Int), memD m, j⟩, all := w.all ++ [(⟨((s.n + 1 : Nat) : Int), memD m, j⟩ : Cf).d] } (s.next m j) (n + 1) := by
 have hi := Hist.next_Inv h.inv m j h.n1 nd s1 s2 s3 s4
 have hle := Hist.next_Le s m j
 have hN : (s.next m j).n = s.n + 1 := rfl
 exact {
  inv := hi
  n1 := Nat.succ_le_succ (Nat.zero_le _)
  nl := by have := h.nl; rw [hN]; omega
  nx0 := h.nx0
  nx := by have := h.nx; show w.next ≤ _; omega
  five := h.five
  reps := fun k hk => (h.reps k hk).le h.inv hle rfl (fun _ => rfl)
  rows := h.rows
  lt5 := fun e x hx => by
   by_cases q : e = s.n + 1
   ·subst q; rw [Hist.next_memN] at hx; exact h5 x hx
   ·rw [Hist.next_mem s m j q] at hx; exact h.lt5 e x hx
  jn1 := fun _ e he => by rw [hN] at he; have := h.n1; omega
  conf := fun c hc => by
   rcases List.mem_append.1 hc with q | q
   ·obtain ⟨e2, j2, b1, b2, b3, b4, b5⟩ := h.conf c q
    have hne : e2 ≠ s.n + 1 := by omega
    refine ⟨e2, j2, b1, by rw [hN]; omega, by rw [Hist.next_mem s m j hne]; exact b3, by rw [Hist.next_jn s m j hne]; exact b4, fun hj x hx => ?_⟩
    rw [Hist.next_mem s m j hne] at hx
    obtain ⟨e', x1, x2, x3⟩ := b5 hj x hx
    exact ⟨e', x1, x2, fun q => x3 ((Hist.next_full s m j (by omega) x).1 q)⟩
   ·rw [List.mem_singleton] at q
    subst q
    refine ⟨s.n + 1, j, by omega, Nat.le_refl _, by rw [Hist.next_memN]; rfl, by rw [Hist.next_jnN]; exact id, fun hj x hx => ⟨s.n, rfl, h.n1, fun q => ?_⟩⟩
    rw [Hist.next_memN] at hx
    exact s3 x hj hx ((Hist.next_full s m j (by omega) x).1 q)
  tab := by rw [hN, Hist.next_memN, Hist.next_jnN]
  some_ := by simp
  one := by
   obtain ⟨x, x1, x2⟩ := ho
   exact ⟨x, by rw [hN, Hist.next_memN]; exact x1, by rw [hN, Hist.next_memN, Hist.next_jnN]; exact x2⟩
  way := fun m2 hm => okMsg_le h.inv hle (h.way m2 hm)
  best := Hist.comm_le h.inv hle h.best
  bad := h.bad }
theorem getLast_cons_append {a b : List Nat} {k : Nat} (hb : b ≠ []) : (a ++ k :: b).getLast? = b.getLast? ∧ (a ++ b).getLast? = b.getLast? := by
 rcases List.eq_nil_or_concat b with q | ⟨b', z, q⟩
 ·exact absurd q hb
 ·rw [List.concat_eq_append] at q
  subst q
  constructor
  ·rw [show a ++ k :: (b' ++ [z]) = (a ++ k :: b') ++ [z] by simp, List.getLast?_concat, List.getLast?_concat]
  ·rw [← List.append_assoc, List.getLast?_concat, List.getLast?_concat]
theorem del_memD (a b : List Nat) (k : Nat) : delAt (memD (a ++ k :: b)) a.length (a.length + 1) = memD (a ++ b) := by
 unfold delAt memD
 rw [← List.map_take, ← List.map_drop, ← List.map_append]
 congr 1
 have e : a ++ k :: b = (a ++ [k]) ++ b := by simp
 rw [List.take_left', e, List.drop_left'] <;> simp
theorem comesW_sub {way : List (List D)} {i : Nat} {b : Bool} {m : List D} (h : m ∈ comesW way i b) : m ∈ way := by
 unfold comesW at h
 split at h
 ·exact h
 ·unfold without part at h
  rcases List.mem_append.1 h with q | q
  ·exact List.mem_of_mem_take (List.mem_of_mem_drop q)
  ·exact List.mem_of_mem_take (List.mem_of_mem_drop q)
theorem append_two {α : Type} {l : List α} {x y z : α} (h : [x, y].Sublist (l ++ [z])) (hy : y ≠ z) : [x, y].Sublist l := by
 obtain ⟨l1, l2, e1, e2, e3⟩ := List.sublist_append_iff.1 h
 cases l2 with
 | nil => rw [List.append_nil] at e1; subst e1; exact e2
 | cons u l2 =>
  have h1 := e3.length_le
  have hl2 : l2 = [] := List.length_eq_zero_iff.1 (by simp only [List.length_cons, List.length_nil] at h1; omega)
  subst hl2
  have hu : u = z := by simpa using e3.subset (List.mem_cons_self ..)
  have e4 : [x] ++ [y] = l1 ++ [u] := e1
  obtain ⟨_, e5⟩ := List.append_inj' e4 rfl
  injection e5 with e6 _
  exact absurd (e6.trans hu) hy
theorem SInv.drops (h : SInv w s n) (hn : n ≤ 900) {k : Nat} (ep : Int) : ∃ s', SInv (w.ordered 1 ep k) s' (n + 1) := by
 have hnl := h.nl
 have htab := h.tab
 have ce : w.c.e = (s.n : Nat) := by rw [htab]
 have cm : w.c.m = memD (s.mem s.n) := by rw [htab]
 have cj : w.c.j = s.jn s.n := by rw [htab]
 have no : ∀ x : Int, x ≠ 0 → w.c.order 1 ep k = (x, w.c) → ∃ s', SInv (w.ordered 1 ep k) s' (n + 1) := fun x hx e => ⟨s, by rw [ordered_no e hx]; exact h.mono⟩
 by_cases q1 : ¬ w.c.e = ep
 ·exact no 11 (by decide) (by unfold Cf.order; rw [if_pos (.inl rfl), if_pos q1])
 have ho : w.c.order 1 ep k = w.c.drop k := by unfold Cf.order; rw [if_pos (.inl rfl), if_neg q1, if_pos rfl]
 by_cases q2 : atL w.c.m k < 0
 ·exact no 6 (by decide) (by rw [ho]; unfold Cf.drop; rw [if_pos q2])
 have hk : k ∈ s.mem s.n := atL_mem.1 (by rw [cm] at q2; omega)
 obtain ⟨a, b, e1, e2, e3⟩ := atL_in hk
 by_cases q3 : (w.c.j && decide (atL w.c.m k = (w.c.m.length : Int) - 1)) = false ∧ (if w.c.j then (w.c.m.length : Int) - 1 else w.c.m.length) < 2
 ·exact no 9 (by decide) (by rw [ho]; unfold Cf.drop; rw [if_neg q2, if_pos q3])
 have hnd := h.inv.nd s.n
 have hlast : decide (atL w.c.m k = (w.c.m.length : Int) - 1) = decide (b = []) := by
  rw [cm, e3, memD_len, e1]
  simp only [List.length_append, List.length_cons]
  apply decide_eq_decide.2
  constructor
  ·intro q; exact List.length_eq_zero_iff.1 (by omega)
  ·intro q; subst q; simp only [List.length_nil]; omega
 have hy : w.c.order 1 ep k = (0, ⟨((s.n + 1 : Nat) : Int), memD (a ++ b), s.jn s.n && !decide (b = [])⟩) := by
  rw [ho]; unfold Cf.drop
  rw [if_neg q2, if_neg q3, hlast, cj, cm, e3, ce, wrap_of (by omega) (by omega), Int.toNat_natCast]
  rw [show s.mem s.n = a ++ k :: b from e1, del_memD]; rfl
 rw [ordered_yes hy]
 have hsub : (a ++ b).Sublist (s.mem s.n) := by rw [e1]; exact (List.Sublist.refl a).append (List.sublist_cons_self ..)
 have hka : k ∉ a ++ b := by
  intro q
  rw [e1] at hnd
  have hp : (a ++ k :: b).Perm (k :: (a ++ b)) := List.perm_middle
  exact (List.nodup_cons.1 (hp.nodup_iff.1 hnd)).1 q
 have lastn : b ≠ [] → (s.mem s.n).getLast? = (a ++ b).getLast? := fun hb => by
  obtain ⟨x1, x2⟩ := getLast_cons_append (a := a) (k := k) hb
  rw [e1, x1, x2]
 have lastk : b = [] → (s.mem s.n).getLast? = some k := fun hb => by subst hb; rw [e1]; simp
 refine ⟨_, h.newc (a ++ b) _ (hnd.sublist hsub) (fun x hx => h.lt5 s.n x (hsub.subset hx)) ?_ (fun x y hxy _ => hxy.trans hsub) ?_ ?_ ?_⟩
 · 
  by_cases hb : b = []
  ·obtain ⟨x, hx1, hx2⟩ := h.one
   by_cases hj : s.jn s.n = true
   ·refine ⟨x, ?_, fun q => ?_⟩
    ·have hxk : x ≠ k := fun q => hx2 hj (by rw [lastk hb, q])
     rw [e1] at hx1
     rcases List.mem_append.1 hx1 with q | q
     ·exact List.mem_append.2 (.inl q)
     ·rcases List.mem_cons.1 q with q | q
      ·exact absurd q hxk
      ·exact List.mem_append.2 (.inr q)
    ·rw [hb] at q; simp at q
   ·have hjf : s.jn s.n = false := by simpa using hj
    rw [cj, hjf, cm, memD_len, e1, hb] at q3
    cases a with
    | nil => exfalso; apply q3; simp
    | cons x a => exact ⟨x, by simp, fun q => by rw [hb] at q; simp at q⟩
  ·rw [cj, hlast, cm, memD_len, e1, decide_eq_false hb, Bool.and_false] at q3
   simp only [List.length_append, List.length_cons] at q3
   cases hj : s.jn s.n with
   | false =>
    cases hab : a ++ b with
    | nil => exfalso; exact hb (List.append_eq_nil_iff.1 hab).2
    | cons x l => exact ⟨x, by simp, fun q => by simp at q⟩
   | true =>
    rw [hj] at q3
    have hlen : 2 ≤ (a ++ b).length := by
     rw [List.length_append]
     apply Nat.le_of_not_lt
     intro hlt
     apply q3
     simp only [if_true, true_and]
     omega
    cases hab : a ++ b with
    | nil => rw [hab] at hlen; simp at hlen
    | cons x l =>
     cases l with
     | nil => rw [hab] at hlen; simp at hlen
     | cons y l =>
      refine ⟨x, by simp, fun _ => ?_⟩
      have hnn := hnd.sublist hsub
      rw [hab] at hnn
      exact Hist.last_of_pair hnn (x := x) (y := y) (by simp)
 ·intro x hx hlx
  refine ⟨hsub.subset hx, fun hj hl => ?_⟩
  by_cases hb : b = []
  ·rw [lastk hb] at hl
   injection hl with hl
   subst hl
   exact hka hx
  ·rw [lastn hb] at hl; exact hlx hl
 ·intro x hj hl hf
  rw [Bool.and_eq_true] at hj
  have hb : b ≠ [] := by intro q; rw [q] at hj; simp at hj
  rw [← lastn hb] at hl
  exact hf.2 hj.1 hl
 ·intro x hj hl
  have hx : x ∈ a ++ b := List.mem_of_getLast? hl
  refine ⟨hsub.subset hx, fun hjt hl2 => ?_⟩
  rw [hjt, Bool.true_and] at hj
  have hb : b = [] := by simpa using hj
  rw [lastk hb] at hl2
  injection hl2 with hl2
  subst hl2
  exact hka hx
theorem SInv.joins (h : SInv w s n) (hn : n ≤ 900) {k : Nat} (hk5 : k < 5) (ep : Int) : ∃ s', SInv (w.ordered 2 ep k) s' (n + 1) := by
 have hnl := h.nl
 have htab := h.tab
 have ce : w.c.e = (s.n : Nat) := by rw [htab]
 have cm : w.c.m = memD (s.mem s.n) := by rw [htab]
 have cj : w.c.j = s.jn s.n := by rw [htab]
 have no : ∀ x : Int, x ≠ 0 → w.c.order 2 ep k = (x, w.c) → ∃ s', SInv (w.ordered 2 ep k) s' (n + 1) := fun x hx e => ⟨s, by rw [ordered_no e hx]; exact h.mono⟩
 by_cases q1 : ¬ w.c.e = ep
 ·exact no 11 (by decide) (by unfold Cf.order; rw [if_pos (.inr (.inl rfl)), if_pos q1])
 have ho : w.c.order 2 ep k = w.c.join k := by unfold Cf.order; rw [if_pos (.inr (.inl rfl)), if_neg q1, if_neg (by decide), if_pos rfl]
 by_cases q2 : ¬ ((0 : Int) ≤ (k : Nat) ∧ ((k : Nat) : Int) < 100)
 ·exact no 1 (by decide) (by rw [ho]; unfold Cf.join; rw [if_pos q2])
 by_cases q3 : 0 ≤ atL w.c.m k
 ·exact no 7 (by decide) (by rw [ho]; unfold Cf.join; rw [if_neg q2, if_pos q3])
 by_cases q4 : w.c.j = true
 ·exact no 9 (by decide) (by rw [ho]; unfold Cf.join; rw [if_neg q2, if_neg q3, if_pos q4])
 by_cases q5 : 7 ≤ w.c.m.length
 ·exact no 9 (by decide) (by rw [ho]; unfold Cf.join; rw [if_neg q2, if_neg q3, if_neg q4, if_pos q5])
 have hk : k ∉ s.mem s.n := fun q => q3 (by rw [cm]; exact atL_mem.2 q)
 have hy : w.c.order 2 ep k = (0, ⟨((s.n + 1 : Nat) : Int), memD (s.mem s.n ++ [k]), true⟩) := by
  rw [ho]; unfold Cf.join
  rw [if_neg q2, if_neg q3, if_neg q4, if_neg q5, cm, ce, wrap_of (by omega) (by omega)]
  unfold memD
  rw [List.map_append]; rfl
 rw [ordered_yes hy]
 have hnd := h.inv.nd s.n
 have hjf : s.jn s.n = false := by rw [← cj]; simpa using q4
 have hl : (s.mem s.n ++ [k]).getLast? = some k := by simp
 have hfu : ∀ x, x ∈ s.mem s.n → s.full s.n x := fun x hx => ⟨hx, fun q => by rw [hjf] at q; cases q⟩
 refine ⟨_, h.newc (s.mem s.n ++ [k]) true ?_ ?_ ?_ (fun x y hxy hy => append_two hxy (fun q => hk (by rw [← q]; exact hy))) ?_ ?_ (fun x q => by cases q)⟩
 ·rw [List.nodup_append]
  refine ⟨hnd, by simp, fun a ha b hb => ?_⟩
  rw [List.mem_singleton] at hb
  subst hb
  exact fun q => hk (by rw [← q]; exact ha)
 ·intro x hx
  rcases List.mem_append.1 hx with q | q
  ·exact h.lt5 s.n x q
  ·rw [List.mem_singleton] at q; omega
 ·obtain ⟨x, hx1, _⟩ := h.one
  refine ⟨x, List.mem_append.2 (.inl hx1), fun _ => ?_⟩
  rw [hl]
  intro q
  injection q with q
  exact hk (by rw [q]; exact hx1)
 ·intro x hx hlx
  rcases List.mem_append.1 hx with q | q
  ·exact hfu x q
  ·rw [List.mem_singleton] at q
   subst q
   exact absurd hl hlx
 ·intro x _ hlx hf
  rw [hl] at hlx
  injection hlx with hlx
  subst hlx
  exact hk hf.1
theorem SInv.fulls (h : SInv w s n) {k : Nat} (hk5 : k < 5) (hc : (nthR w.rs k).complete = true) : ∃ s', SInv (w.ordered 3 (nthR w.rs k).ep k) s' (n + 1) := by
 have hnl := h.nl
 have htab := h.tab
 have ce : w.c.e = (s.n : Nat) := by rw [htab]
 have cm : w.c.m = memD (s.mem s.n) := by rw [htab]
 have cj : w.c.j = s.jn s.n := by rw [htab]
 have hr := h.reps k hk5
 generalize nthR w.rs k = r at hc hr ⊢
 have no : ∀ x : Int, x ≠ 0 → w.c.order 3 r.ep k = (x, w.c) → ∃ s', SInv (w.ordered 3 r.ep k) s' (n + 1) := fun x hx e => ⟨s, by rw [ordered_no e hx]; exact h.mono⟩
 by_cases q1 : ¬ w.c.e = r.ep
 ·exact no 11 (by decide) (by unfold Cf.order; rw [if_pos (.inr (.inr rfl)), if_pos q1])
 have ho : w.c.order 3 r.ep k = w.c.full k := by unfold Cf.order; rw [if_pos (.inr (.inr rfl)), if_neg q1, if_neg (by decide), if_neg (by decide)]
 by_cases q2 : w.c.j = false
 ·exact no 9 (by decide) (by rw [ho]; unfold Cf.full; rw [if_pos q2])
 by_cases q3 : ¬ atL w.c.m k = (w.c.m.length : Int) - 1
 ·exact no 9 (by decide) (by rw [ho]; unfold Cf.full; rw [if_neg q2, if_pos q3])
 have hy : w.c.order 3 r.ep k = (0, ⟨(s.n : Nat), memD (s.mem s.n), false⟩) := by
  rw [ho]; unfold Cf.full
  rw [if_neg q2, if_neg q3, ce, cm]
 rw [ordered_yes hy]
 have hep : s.ep k = s.n := by have := hr.ep; omega
 unfold Rep.complete at hc
 rw [Bool.and_eq_true, Bool.and_eq_true, Bool.and_eq_true, decide_eq_true_iff] at hc
 obtain ⟨ht, _, hh, hne⟩ := hc
 obtain ⟨hl, hla⟩ := hr.tail h.inv ht
 obtain ⟨p, e, a1, a2, a3, a4⟩ := hr.heard hl hh
 rw [hep] at a1 a2 a3 hla
 have hj : s.jn s.n = true := by rw [← cj]; simpa using q2
 have he1 : 1 ≤ e := h.jn1 hj e a1
 have hpf : s.full (e + 1) p := Hist.pair_full h.inv (adj_sub (by rw [← a1]; exact a2))
 have hpe : s.full e p := h.inv.stp2 e p he1 hpf.1 (adj_last (h.inv.nd _) (by rw [← a1]; exact a2))
 have hpn : s.n ≤ s.ep p := (h.inv.A1 _ _ a3).1
 have hAk : s.A k s.n := by have := (hr.epos h.inv hl).2; rw [hep] at this; exact this
 have h1 : s.H k s.n <+: s.H p s.n := h.inv.C _ _ _ hAk (adj_sub a2)
 have h2 : s.H p e <+: s.H p s.n := by rw [a1]; exact h.inv.M e p he1 hpe hpf
 have hrow : r.row = s.H k s.n := by rw [hr.row, hep]
 have h3 : s.H p e <+: s.H k s.n := List.prefix_of_prefix_length_le h2 h1 (by rw [← hrow]; omega)
 have hi := Hist.fills_Inv h.inv e he1 a1 k p hj hla hAk hpe hpn h3
 have hle := Hist.fills_Le s
 have hN : s.fills.n = s.n := rfl
 exact ⟨_, {
  inv := hi
  n1 := h.n1
  nl := Nat.le_succ_of_le h.nl
  nx0 := h.nx0
  nx := by have := h.nx; show w.next ≤ _; omega
  five := h.five
  reps := fun k hk => (h.reps k hk).le h.inv hle rfl (fun _ => rfl)
  rows := h.rows
  lt5 := h.lt5
  jn1 := fun q => by rw [hN, Hist.fills_jnN] at q; cases q
  conf := fun c hc => by
   rcases List.mem_append.1 hc with q | q
   ·obtain ⟨e2, j2, b1, b2, b3, b4, b5⟩ := h.conf c q
    refine ⟨e2, j2, b1, b2, b3, fun hj => ?_, fun hj x hx => ?_⟩
    ·by_cases q : e2 = s.n
     ·subst q; exact Hist.fills_jnN s
     ·rw [Hist.fills_jn s q]; exact b4 hj
    ·obtain ⟨e', x1, x2, x3⟩ := b5 hj x hx
     exact ⟨e', x1, x2, fun q => x3 ((Hist.fills_full s (by omega) x).1 q)⟩
   ·rw [List.mem_singleton] at q
    subst q
    exact ⟨s.n, false, h.n1, Nat.le_refl _, rfl, fun _ => Hist.fills_jnN s, fun q => by cases q⟩
  tab := by rw [hN, Hist.fills_jnN]; rfl
  some_ := by simp
  one := ⟨k, by rw [hN]; exact ⟨List.mem_of_getLast? hla, fun q => by rw [Hist.fills_jnN] at q; cases q⟩⟩
  way := fun m2 hm => okMsg_le h.inv hle (h.way m2 hm)
  best := Hist.comm_le h.inv hle h.best
  bad := h.bad }⟩
theorem SInv.comes (h : SInv w s n) (hn0 : 0 ≤ w.next) (m : List D) (hm : okMsg s m) (way2 : List (List D)) (hs : ∀ m ∈ way2, m ∈ w.way) : ∃ s', SInv { w with rs := comesR w.rs m, way := way2 ++ comesM w.rs m } s' (n + 1) := by
 have hnx := h.nx
 unfold comesR comesM
 by_cases q : 0 ≤ toOf m ∧ toOf m < 5
 ·rw [if_pos q, if_pos q]
  have hk : (toOf m).toNat < 5 := by omega
  exact h.rep hk ⟨Int.le_refl _, by omega⟩ (RStep.receive h.inv (h.reps _ hk) h.rows m hm) _ (fun m2 h2 => by
   rcases List.mem_append.1 h2 with q | q
   ·exact .inl (hs m2 q)
   ·exact .inr q)
 ·rw [if_neg q, if_neg q, List.append_nil]
  exact ⟨s, h.mono.sends _ (fun m2 h2 => h.way m2 (hs m2 h2))⟩
theorem conf_in {w : Ward} (h : 0 < w.all.length) (at_ : Int) : w.conf at_ ∈ w.all := by
 unfold Ward.conf Ward.newest
 split
 ·rename_i h0
  rw [Int.tmod_eq_emod_of_nonneg h0]
  have h1 := Int.emod_nonneg at_ (show ((w.all.length : Nat) : Int) ≠ 0 by omega)
  have h2 := Int.emod_lt_of_pos at_ (show (0 : Int) < ((w.all.length : Nat) : Int) by omega)
  exact elem_mem (by omega)
 ·exact elem_mem (by omega)
theorem SInv.op (h : SInv w s n) (hn : n ≤ 900) (kind node at_ : Int) : ∃ s', SInv (w.op kind node at_) s' (n + 1) := by
 have hk := nodeOf_lt node
 have hr := h.reps _ hk
 have hnx := h.nx
 have hn0 := h.nx0
 have fin : ∀ e, fine w.next (s.H (nodeOf node) e) := h.rows _
 unfold Ward.op
 simp only
 by_cases k0 : kind = 0
 ·rw [if_pos k0, wrap_of (by omega) (by omega)]
  exact h.rep hk ⟨by omega, by omega⟩ (RStep.order h.inv hr hn0 fin) _ (fun m hm => List.mem_append.1 hm)
 rw [if_neg k0]
 by_cases k1 : kind = 1
 ·rw [if_pos k1]
  refine ⟨s, h.mono.sends _ (fun m hm => ?_)⟩
  rcases List.mem_append.1 hm with q | q
  ·exact h.way m q
  ·exact hr.again h.inv w.next (fin _) m q
 rw [if_neg k1]
 by_cases k2 : kind = 2 ∨ kind = 3
 ·rw [if_pos k2]
  by_cases q : 0 ≤ atOf w.way at_
  ·rw [if_pos q]
   obtain ⟨_, hat⟩ := (atOf_lt w.way at_).resolve_left (by omega)
   have hmem : elem (atOf w.way at_).toNat w.way ∈ w.way := elem_mem (by omega)
   have hm := h.way _ hmem
   have hsub : ∀ b, ∀ m ∈ comesW w.way (atOf w.way at_).toNat b, m ∈ w.way := fun b m hm => comesW_sub hm
   generalize elem (atOf w.way at_).toNat w.way = m at hm ⊢
   have hsub := hsub (decide (kind = 3) && decide (w.way.length < 300))
   generalize comesW w.way (atOf w.way at_).toNat (decide (kind = 3) && decide (w.way.length < 300)) = way2 at hsub ⊢
   exact h.comes hn0 m hm way2 hsub
  ·rw [if_neg q]; exact ⟨s, h.mono⟩
 rw [if_neg k2]
 by_cases k4 : kind = 4
 ·rw [if_pos k4]
  by_cases q : 0 ≤ atOf w.way at_
  ·rw [if_pos q]
   refine ⟨s, h.mono.sends _ (fun m hm => h.way m ?_)⟩
   exact comesW_sub (b := false) hm
  ·rw [if_neg q]; exact ⟨s, h.mono⟩
 rw [if_neg k4]
 by_cases k5 : kind = 5
 ·rw [if_pos k5]
  obtain ⟨s', hs⟩ := h.rep hk ⟨Int.le_refl _, by omega⟩ (RStep.adopt h.inv hr fin (h.conf _ (conf_in h.some_ at_))) (w.way ++ ((nthR w.rs (nodeOf node)).adopt (w.conf at_)).2) (fun m hm => List.mem_append.1 hm)
  exact ⟨s', hs⟩
 rw [if_neg k5]
 by_cases k6 : kind = 6
 ·rw [if_pos k6]
  obtain ⟨s', hs⟩ := h.rep hk (q := ((nthR w.rs (nodeOf node)).new (nodeOf node : Nat), [])) ⟨Int.le_refl _, by omega⟩ (RStep.same h.inv fin (RStep.new h.inv hr) (fun m hm => by cases hm)) w.way (fun m hm => .inl hm)
  exact ⟨s', hs⟩
 rw [if_neg k6]
 by_cases k7 : kind = 7
 ·rw [if_pos k7]; exact h.drops hn _
 rw [if_neg k7]
 by_cases k8 : kind = 8
 ·rw [if_pos k8]; exact h.joins hn hk _
 rw [if_neg k8]
 by_cases k9 : kind = 9
 ·rw [if_pos k9]
  by_cases q : (nthR w.rs (nodeOf node)).complete = true
  ·rw [if_pos q]; exact h.fulls hk q
  ·rw [if_neg q]; exact ⟨s, h.mono⟩
 rw [if_neg k9]
 exact ⟨s, h.mono⟩
theorem begins_pre {row l : List (List D)} (h : l <+: row) : beginsL row l = true := by
 unfold beginsL
 rw [Bool.and_eq_true, decide_eq_true_iff, List.all_eq_true]
 refine ⟨h.length_le, fun i hi => ?_⟩
 rw [List.mem_range] at hi
 obtain ⟨t, rfl⟩ := h
 unfold elem
 rw [List.getD_eq_getElem?_getD, List.getD_eq_getElem?_getD, List.getElem?_append_left hi]
 exact strEq_refl _
theorem see_ok {L : List (List D)} {C : List (List D) → Prop} (hC : ∀ l, C l → l <+: L) : ∀ (rs : List Rep) (best : List (List D)), (∀ r ∈ rs, ∃ c : Nat, r.commit = c ∧ c ≤ r.row.length ∧ C (r.row.take c)) → C best →
  ∃ b, seeG rs best false = (none, b, false) ∧ C b
 | [], best, _, hb => ⟨best, rfl, hb⟩
 | r :: rs, best, hr, hb => by
  obtain ⟨c, h1, h2, h3⟩ := hr r (List.mem_cons_self ..)
  unfold seeG
  rw [if_neg (by omega), show part r.row 0 r.commit.toNat = r.row.take c by rw [h1, Int.toNat_natCast]; rfl]
  have hcmp : (false || !beginsL (r.row.take c) best && !beginsL best (r.row.take c)) = false := by
   rcases Nat.le_total best.length (r.row.take c).length with q | q
   ·rw [begins_pre (List.prefix_of_prefix_length_le (hC _ hb) (hC _ h3) q)]; rfl
   ·rw [begins_pre (List.prefix_of_prefix_length_le (hC _ h3) (hC _ hb) q)]; simp
  rw [hcmp]
  refine see_ok hC rs _ (fun q hq => hr q (List.mem_cons_of_mem _ hq)) ?_
  split
  ·exact h3
  ·exact hb
theorem amiss_ok {rs : List Rep} {best m : List (List D)} {j bad : Bool} : ∀ (xs : List (List D)) (i : Nat), (∀ p x, xs[p]? = some x → (j = true ∧ ((i + p : Nat) : Int) = (m.length : Int) - 1) ∨ memBad rs best (cell 0 x).toInt = false) → amissG rs best m j xs i bad = bad
 | [], _, _ => rfl
 | x :: xs, i, h => by
  unfold amissG
  have h0 := h 0 x rfl
  rw [amiss_ok xs (i + 1) (fun p y hp => by
   have := h (p + 1) y (by simpa using hp)
   rw [show i + (p + 1) = i + 1 + p by omega] at this
   exact this)]
  split
  ·rfl
  ·rename_i q
   rcases h0 with h0 | h0
   ·exact absurd h0 q
   ·rw [h0, Bool.or_false]
theorem SInv.look (h : SInv w s n) : SInv w.look s n := by
 obtain ⟨x, hx⟩ := h.one
 have h5 := h.five
 obtain ⟨b, e1, e2⟩ := see_ok (L := s.H x (s.ep x)) (C := s.comm) (fun l hl => h.inv.safe hl hx) w.rs w.best (fun r hr => by
  obtain ⟨i, hi, rfl⟩ := List.getElem_of_mem hr
  have := (h.reps i (by omega)).com
  rw [nthR_eq hi] at this
  exact this) h.best
 have hlk : lookL w.rs w.best w.bad w.c = (b, false) := by
  unfold lookL
  rw [h.bad, e1]
  simp only
  congr 1
  have htab := h.tab
  have cm : w.c.m = memD (s.mem s.n) := by rw [htab]
  have cj : w.c.j = s.jn s.n := by rw [htab]
  refine amiss_ok _ 0 (fun p y hp => ?_)
  rw [cm] at hp ⊢
  rw [cj, memD_len]
  unfold memD at hp
  rw [List.getElem?_map] at hp
  cases hq : (s.mem s.n)[p]? with
  | none => rw [hq] at hp; cases hp
  | some v =>
   rw [hq] at hp
   injection hp with hp
   subst hp
   have hlt := (List.getElem?_eq_some_iff.1 hq).1
   have hv : v ∈ s.mem s.n := List.mem_of_getElem? hq
   by_cases hf : s.full s.n v
   ·right
    have hv5 := h.lt5 _ _ hv
    unfold memBad
    have hc : (cell 0 ([D.int ((v : Nat) : Int)] : List D)).toInt = (v : Int) := of_eq_true (eq_self _)
    rw [hc, lt_false (by omega), le_false (by omega), Int.toNat_natCast, List.getElem?_eq_getElem (by omega)]
    have hrow := (h.reps v hv5).row
    rw [nthR_eq (by omega)] at hrow
    show (false || (false || !beginsL w.rs[v].row b)) = false
    rw [hrow, begins_pre (h.inv.safe e2 hf)]; rfl
   ·left
    have hnf : ¬ (s.jn s.n = true → (s.mem s.n).getLast? ≠ some v) := fun q => hf ⟨hv, q⟩
    have hj : s.jn s.n = true := by
     apply Classical.byContradiction
     intro q
     exact hnf (fun q2 => absurd q2 q)
    refine ⟨hj, ?_⟩
    have hl : (s.mem s.n).getLast? = some v := by
     apply Classical.byContradiction
     intro q
     exact hnf (fun _ => q)
    rw [List.getLast?_eq_getElem?] at hl
    have := (List.getElem?_inj hlt (h.inv.nd s.n)).1 (hq.trans hl.symm)
    omega
 have : w.look = { w with best := b, bad := false } := by unfold Ward.look; rw [hlk]
 rw [this]
 exact { h with best := e2, bad := rfl }
theorem SInv.does (h : SInv w s n) (hn : n ≤ 900) (kind node at_ : Int) : ∃ s', SInv (w.does kind node at_) s' (n + 1) := by
 obtain ⟨s', hs⟩ := h.op hn kind node at_
 exact ⟨s', hs.look⟩
theorem SInv.all3 : ∀ (l : List (List D)) (w : Ward) (s : Hs) (n : Nat), SInv w s n → n + l.length ≤ 900 → ∃ s', SInv (w.all3 l) s' (n + l.length)
 | [], _, s, _, h, _ => ⟨s, h⟩
 | o :: l, w, s, n, h, hn => by
  rw [List.length_cons] at hn ⊢
  obtain ⟨s', hs⟩ := h.does (by omega) (cell 0 o).toInt (cell 1 o).toInt (cell 2 o).toInt
  have := SInv.all3 l (w.op3 o) s' (n + 1) hs (by omega)
  rw [show n + (l.length + 1) = n + 1 + l.length by omega]
  exact this
def hist0 (m : Nat) : Hs := ⟨1, fun e => if e = 1 then List.range m else [], fun _ => false, fun _ => 0, fun _ _ => [], fun _ _ => False⟩
theorem hist0_mem1 (m : Nat) : (hist0 m).mem 1 = List.range m := rfl
theorem hist0_mem (m : Nat) {e : Nat} (h : e ≠ 1) : (hist0 m).mem e = [] := if_neg h
theorem hist0_Inv (m : Nat) : (hist0 m).Inv where
 nd := fun e => by
  by_cases q : e = 1
  ·subst q; exact List.nodup_range
  ·rw [hist0_mem m q]; exact List.nodup_nil
 out := fun e he => hist0_mem m (by have : 1 < e := he; omega)
 mem0 := rfl
 epn := fun _ => Nat.zero_le _
 stp1 := fun e x y he hs => by
  rw [hist0_mem m (by omega)] at hs
  have := hs.length_le; simp at this
 stp2 := fun e x he hs => by rw [hist0_mem m (by omega)] at hs; cases hs
 jw := fun e x he hj => by cases hj
 F := fun e x he hf => by
  have := hf.1
  rw [hist0_mem m (by omega)] at this; cases this
 M := fun _ _ _ _ _ => List.prefix_refl _
 S := fun _ _ _ => rfl
 H0 := fun _ => rfl
 T := fun _ _ _ => rfl
 A1 := fun _ _ h => h.elim
 A2 := fun x h => by have : 1 ≤ 0 := h; omega
 C := fun _ _ _ h => h.elim
theorem begin_SInv (m : Nat) (h1 : 1 ≤ m) (h4 : m ≤ 4) : SInv (Ward.begin m) (hist0 m) 0 where
 inv := hist0_Inv m
 n1 := Nat.le_refl _
 nl := Nat.le_refl _
 nx0 := Int.le_refl _
 nx := Int.le_refl _
 five := by simp [Ward.begin, reps]
 reps := fun i hi => by
  have hr : nthR (Ward.begin m).rs i = rep0 i := by
   show nthR (reps 5) i = _
   unfold nthR reps
   rw [List.getD_eq_getElem?_getD, List.getElem?_map, List.getElem?_range hi]; rfl
  rw [hr]
  exact {
   id := rfl
   ep := rfl
   mem := rfl
   row := rfl
   live := fun q => by cases q
   com := ⟨0, rfl, Nat.le_refl _, .inl rfl⟩
   ack := ⟨0, rfl, Nat.le_refl _, .inl rfl⟩
   base := fun q => by cases q
   heard := fun q => by cases q }
 rows := fun _ _ => fine_nil _
 lt5 := fun e x hx => by
  by_cases q : e = 1
  ·subst q
   rw [hist0_mem1, List.mem_range] at hx; omega
  ·rw [hist0_mem m q] at hx; cases hx
 jn1 := fun q => by cases q
 conf := fun c hc => by
  rw [show (Ward.begin m).all = [(Cf.first m).d] from rfl, List.mem_singleton] at hc
  subst hc
  exact ⟨1, false, Nat.le_refl _, Nat.le_refl _, rfl, fun _ => rfl, fun q => by cases q⟩
 tab := rfl
 some_ := Nat.lt_succ_self _
 one := ⟨0, by rw [show (hist0 m).n = 1 from rfl]; exact ⟨by rw [hist0_mem1, List.mem_range]; omega, fun q => by cases q⟩⟩
 way := fun m hm => by cases hm
 best := .inl rfl
 bad := rfl
end
end Go.Proofs.Ythlbahcggmbfaaa.V

namespace Go.Proofs.Ythlbahcggmbfaaa.V
variable {R : Type}
theorem d0' (a b c d : D) : cell 0 [a, b, c, d] = a := rfl
theorem d1' (a b c d : D) : cell 1 [a, b, c, d] = b := rfl
theorem d2' (a b c d : D) : cell 2 [a, b, c, d] = c := rfl
theorem ti (n : Int) : (D.int n).toInt = n := rfl
theorem tr (l : List (List D)) : (D.row l).toRows = l := rfl
theorem tb (b : Bool) : (D.bool b).toBool = b := rfl
theorem d3' (a b c d : D) : cell 3 [a, b, c, d] = d := rfl
theorem keeps_adopt (r : Rep) (k : Nat) : ((r.new k).adopt [D.int r.ep, D.row r.mem, D.bool r.join]).1.live = decide (0 ≤ atL r.mem k) ∧
  (((r.new k).adopt [D.int r.ep, D.row r.mem, D.bool r.join]).1.tail = true → ((r.new k).adopt [D.int r.ep, D.row r.mem, D.bool r.join]).1.commit = (((r.new k).adopt [D.int r.ep, D.row r.mem, D.bool r.join]).1.row.length : Nat)) := by
 have h1 : (r.new k).adopt1 [D.int r.ep, D.row r.mem, D.bool r.join] = { r.new k with join := r.join && r.join } := if_neg (Int.lt_irrefl _)
 unfold Rep.adopt
 rw [if_neg (show ¬ (cell 0 [D.int r.ep, D.row r.mem, D.bool r.join]).toInt < (r.new k).ep from Int.lt_irrefl _), h1]
 have h2 : (({ r.new k with join := r.join && r.join } : Rep).adopt2).live = decide (0 ≤ atL r.mem k) := rfl
 cases hb : decide (0 ≤ atL r.mem k) with
 | false =>
  rw [h2, hb, if_neg (by decide)]
  refine ⟨h2.trans hb, fun ht => ?_⟩
  have ht : (({ r.new k with join := r.join && r.join } : Rep).adopt2).tail = true := ht
  unfold Rep.tail at ht
  rw [h2, hb] at ht
  cases ht
 | true =>
  rw [h2, hb, if_pos rfl]
  have hw : ((r.new k).live && decide ((cell 0 [D.int r.ep, D.row r.mem, D.bool r.join]).toInt = (r.new k).ep)) = false := rfl
  rw [hw]
  unfold Rep.adopt3
  cases ht : (({ r.new k with join := r.join && r.join } : Rep).adopt2).tail with
  | true => exact ⟨h2.trans hb, fun _ => rfl⟩
  | false =>
   refine ⟨h2.trans hb, fun q => ?_⟩
   have q : (({ r.new k with join := r.join && r.join } : Rep).adopt2).tail = true := q
   rw [ht] at q; cases q
theorem keeps8 (fu : Nat) (hf : 1001 ≤ fu) (n : Int) (h0 : 0 ≤ n) (h1 : n < 256) (l : List (List D)) (who : Int) (w0 : 0 ≤ who) (w1 : who < 256) (K : Bool → Option R) : F8 fu n l who K = K true := by
 rw [F8_eq]
 unfold Fb8
 by_cases hl : 100 < l.length
 ·rw [lt_true (show (100 : Int) < ofN l.length by unfold ofN; omega), cond_true, awake_ok hf]
 ·rw [lt_false (show ¬ (100 : Int) < ofN l.length by unfold ofN; omega), cond_false, many_ok fu h0 h1]
  obtain ⟨m1, m4⟩ := manyOf_range h0
  rw [begin_ok hf (manyOf n) m1 m4]
  obtain ⟨e1, e2⟩ := who_ok w0 w1
  simp only [e1, Int.toNat_natCast]
  generalize whoOf who = k at e2
  generalize manyOf n = mm at m1 m4
  refine (run_ok (R := R) hf l (by omega) _ (F8_250 fu l (ofN l.length) · · · · · · · · · _) (fun _ _ _ _ _ _ _ _ _ => rfl) fu 0 0 (Ward.begin mm) (begin_Inv mm m4) (by omega) (by omega) (by omega)).trans ?_
  rw [List.drop_zero]
  obtain ⟨s, hs⟩ := SInv.all3 l (Ward.begin mm) (hist0 mm) 0 (begin_SInv mm m1 m4) (by omega)
  obtain ⟨hi, hid⟩ := ran_of mm m4 l
  rw [Nat.zero_add] at hs
  generalize (Ward.begin mm).all3 l = w at hi hid hs
  have h5 := hi.five
  have hk : k < w.rs.length := by omega
  have hok := hi.ok _ (nthR_mem hk)
  have hm := hok.mem
  have hrow := hok.row
  have hro := hs.reps k e2
  have hep := hro.ep
  have hepn := hs.inv.epn k
  have hnl := hs.nl
  rw [within_of (by rw [cellsL_len]; exact hk), cond_true]
  have ha := keeps_adopt (nthR w.rs k) k
  have hx : ((nthR w.rs k).new k).Ok l.length := ⟨hm, hrow, Int.le_refl _, Int.natCast_nonneg _, Int.le_refl _, Int.natCast_nonneg _, Int.le_refl _, Int.natCast_nonneg _⟩
  have hy := adopt_Ok (r := (nthR w.rs k).new k) hx (c := [D.int (nthR w.rs k).ep, D.row (nthR w.rs k).mem, D.bool (nthR w.rs k).join]) hm
  have hL := fun K => live_ok (R := R) (fu := fu) ((nthR w.rs k).new k) K
  have hH := fun K => head_ok (R := R) (fu := fu) (r := (nthR w.rs k).new k) hf (by show (nthR w.rs k).mem.length ≤ 1000; omega) K
  have hT := fun K => tail_ok (R := R) (fu := fu) (r := (nthR w.rs k).new k) hf (by show (nthR w.rs k).mem.length ≤ 1000; omega) K
  have hE := fun K => epoch_ok (R := R) (fu := fu) ((nthR w.rs k).new k) K
  have hC := fun K => commit_ok (R := R) (fu := fu) ((nthR w.rs k).new k) K
  have hR := fun K => row_ok (R := R) (fu := fu) ((nthR w.rs k).new k) (show (nthR w.rs k).row.length ≤ 1000000 by omega) K
  have hO : ∀ (c : ByteArray) (K2 : Int → Int → List (List D) → Int → List (List D) → Option R), F30 fu c (k : Nat) (nthR w.rs k).ep (nthR w.rs k).mem (nthR w.rs k).join (nthR w.rs k).row false 0 0 0 0 false 0 K2 = K2 0 10 (nthR w.rs k).row 0 [] := fun c K2 => by
   have := order_ok (R := R) (fu := fu) (r := (nthR w.rs k).new k) hf hx (by omega) c K2
   rw [if_neg (show ¬ ((nthR w.rs k).new k).head = true from fun q => by have q : false = true := q; cases q)] at this
   exact this
  have hA := fun K => again_ok (R := R) (fu := fu) (r := (nthR w.rs k).new k) hf hx (by omega) K
  have hD := fun c hc K => adopt_ok (R := R) (fu := fu) (r := (nthR w.rs k).new k) hf hx (by omega) c hc K
  have hL2 := fun K => live_ok (R := R) (fu := fu) (((nthR w.rs k).new k).adopt [D.int (nthR w.rs k).ep, D.row (nthR w.rs k).mem, D.bool (nthR w.rs k).join]).1 K
  have hT2 := fun K => tail_ok (R := R) (fu := fu) (r := (((nthR w.rs k).new k).adopt [D.int (nthR w.rs k).ep, D.row (nthR w.rs k).mem, D.bool (nthR w.rs k).join]).1) hf (by have := hy.mem; omega) K
  have hC2 := fun K => commit_ok (R := R) (fu := fu) (((nthR w.rs k).new k).adopt [D.int (nthR w.rs k).ep, D.row (nthR w.rs k).mem, D.bool (nthR w.rs k).join]).1 K
  have hR2 := fun K => row_ok (R := R) (fu := fu) (((nthR w.rs k).new k).adopt [D.int (nthR w.rs k).ep, D.row (nthR w.rs k).mem, D.bool (nthR w.rs k).join]).1 (by have := hy.row; omega) K
  have hid2 : (((nthR w.rs k).new k).adopt [D.int (nthR w.rs k).ep, D.row (nthR w.rs k).mem, D.bool (nthR w.rs k).join]).1.id = (k : Int) := by rw [adopt_same]; rfl
  rw [hid2] at hL2 hT2 hC2 hR2
  have hat := fun K => at_ok (R := R) fu [D.int (nthR w.rs k).ep, D.row (nthR w.rs k).mem, D.bool (nthR w.rs k).join] (k : Int) (show (nthR w.rs k).mem.length ≤ 1000 by omega) hf K
  have hold : ((nthR w.rs k).new k).adopt [D.int (IntKind.i64.wrap ((nthR w.rs k).ep - 1)), D.row [[D.int (k : Nat)]], D.bool false] = ((nthR w.rs k).new k, []) := by
   unfold Rep.adopt
   rw [if_pos (show (cell 0 [D.int (IntKind.i64.wrap ((nthR w.rs k).ep - 1)), D.row [[D.int (k : Nat)]], D.bool false]).toInt < ((nthR w.rs k).new k).ep by
    show IntKind.i64.wrap ((nthR w.rs k).ep - 1) < (nthR w.rs k).ep
    rw [wrap_of (by omega) (by omega)]; omega)]
  dsimp only [Rep.new] at hL hH hT hE hC hR hA hD hL2 hT2 hC2 hR2 hold ha
  simp only [letR, letD, elem_nth hk, c0, c1, c2, c3, c4, c5, c6, c7, c8, c9, c10, c11, keep_ok (nthR w.rs k) hm (show (nthR w.rs k).row.length ≤ 1000000 by omega), nth_same hk, d0', d1', d2', d3', ti, tr, tb, new_ok (R := R) (fu := fu) (nthR w.rs k) (k : Int) hm (show (nthR w.rs k).row.length ≤ 1000000 by omega)]
  rw [hL, hH]
  have q1 : Rep.head ⟨(k : Nat), (nthR w.rs k).ep, (nthR w.rs k).mem, (nthR w.rs k).join, (nthR w.rs k).row, false, 0, 0, 0, 0, false, 0⟩ = false := rfl
  have q2 : Rep.tail ⟨(k : Nat), (nthR w.rs k).ep, (nthR w.rs k).mem, (nthR w.rs k).join, (nthR w.rs k).row, false, 0, 0, 0, 0, false, 0⟩ = false := rfl
  have q3 : Rep.again ⟨(k : Nat), (nthR w.rs k).ep, (nthR w.rs k).mem, (nthR w.rs k).join, (nthR w.rs k).row, false, 0, 0, 0, 0, false, 0⟩ = [] := rfl
  rw [q1, cond_false, hT, q2, cond_false, hE]
  simp only [epoch_ok, commit_ok, row_ok (R := R) (nthR w.rs k) (show (nthR w.rs k).row.length ≤ 1000000 by omega)]
  simp only [decide_true, Bool.not_true, cond_false]
  rw [hC, hR, hR, begins_ok _ _ (by omega) hf, begins_pre (List.prefix_refl _), Bool.not_true, cond_false, hO]
  rw [eq_true (show (10 : Int) = 10 from rfl), Bool.not_true, cond_false, eq_true (show ofN ([] : List (List D)).length = 0 from rfl), Bool.not_true, cond_false, hA, q3, eq_true (show ofN ([] : List (List D)).length = 0 from rfl), Bool.not_true, cond_false]
  rw [hD _ (by show 1 ≤ 100; omega), hold]
  rw [eq_true (show ofN ([] : List (List D)).length = 0 from rfl), Bool.not_true, cond_false, hL, cond_false, hD [D.int (nthR w.rs k).ep, D.row (nthR w.rs k).mem, D.bool (nthR w.rs k).join] hm, hL2, hat]
  have e3 : (cell 1 [D.int (nthR w.rs k).ep, D.row (nthR w.rs k).mem, D.bool (nthR w.rs k).join]).toRows = (nthR w.rs k).mem := rfl
  rw [e3, ← ha.1]
  simp only [BEq.rfl, cond_true]
  rw [hT2]
  cases ht : Rep.tail (Rep.adopt ⟨(k : Nat), (nthR w.rs k).ep, (nthR w.rs k).mem, (nthR w.rs k).join, (nthR w.rs k).row, false, 0, 0, 0, 0, false, 0⟩ [D.int (nthR w.rs k).ep, D.row (nthR w.rs k).mem, D.bool (nthR w.rs k).join]).1 with
  | false => rw [Bool.not_false, cond_true, awake_ok hf]
  | true => rw [Bool.not_true, cond_false, hC2, hR2, eq_true (show _ = ofN _ from ha.2 ht), cond_true, awake_ok hf]
end Go.Proofs.Ythlbahcggmbfaaa.V

namespace Go.Proofs.Ythlbahcggmbfaaa
theorem keeps_holds : Rows.ChainKeepsSaid := keeps_join (V.law8 1001 fun _ _ _ h1 _ h3 => V.keeps8 1001 (Nat.le_refl _) _ (h1.u8).1 (h1.u8).2 _ _ (h3.u8).1 (h3.u8).2 _)
end Go.Proofs.Ythlbahcggmbfaaa

