import Derived.Test.YthlbahcggmbfaaaBase2
import Derived.Laws.Strings
set_option linter.unusedVariables false
set_option linter.unusedSimpArgs false

namespace Go.Proofs.Ythlbahcggmbfaaa.V
section
variable {c c' c1 : Cx} {h h' h1 : A0} {T T1 : Nat -> Prop}
theorem u0.keeps (hL : u0 c h c' h' T) (hT : ∀ f, c.K f -> ¬ T f) : Ae h.get c.K h'.get c'.K :=
 ⟨fun b k hg hK => hL.same b _ hg (hT _ hK), hL.K⟩
theorem RV.O4 {u : UV} {v : VV} (hr : RV c h.get u v) (hL : u0 c h c' h' T) (hT : ∀ f, c.K f -> ¬ T f) : RV c' h'.get u v := by
 have hk := hL.keeps hT
 induction hr with
 | undef v => exact .undef v
 | bool b => exact .bool b
 | int k n => exact .int k n
 | str s => exact .str s
 | I2 => exact .I2
 | ptr o f b ho h => exact .ptr o f b (Nat.lt_of_lt_of_le ho hL.n) (by rw [hL.ρ o ho]; exact h)
 | m7 B0 o g n j f b ho h hj => exact .m7 B0 o g n j f b (Nat.lt_of_lt_of_le ho hL.n) (by rw [hL.ρ o ho]; exact h) hj
 | u7 o i f b i0 n cp z ho h hi => exact .u7 o i f b i0 n cp z (Nat.lt_of_lt_of_le ho hL.n) (by rw [hL.ρ o ho]; exact h) hi
 | AX B0 es i f b i0 n cp z h hi => exact .AX B0 es i f b i0 n cp z (h.keep hk) hi
 | nilslice => exact .nilslice
 | own o v ho h hv => exact .own o v (Nat.lt_of_lt_of_le ho hL.n) (by rw [hL.ρ o ho]; exact h) hv
 | fz B0 es cut v h hc => exact .fz B0 es cut v (h.keep hk) hc
 | nn B0 es v h hv => exact .nn B0 es v (h.keep hk) hv
 | pz B0 d v h => exact .pz B0 d v (h.keep hk)
 | pn B0 ds f b h => exact .pn B0 ds f b (h.keep hk)
 | Bn ts B0 d v h => exact .Bn ts B0 d v (h.keep hk)
 | A3 => exact .A3
 | map o b ho h => exact .map o b (Nat.lt_of_lt_of_le ho hL.n) (by rw [hL.ρ o ho]; exact h)
 | D3 => exact .D3
 | func f => exact .func f
 | I1 => exact .I1
 | X0 o v ps ho h hv => exact .X0 o v ps (Nat.lt_of_lt_of_le ho hL.n) (by rw [hL.ρ o ho]; exact h) hv
 | pe o i b i0 n cp z ps ho h hi => exact .pe o i b i0 n cp z ps (Nat.lt_of_lt_of_le ho hL.n) (by rw [hL.ρ o ho]; exact h) hi
 | pp o i b sv ps ho h hp => exact .pp o i b sv ps (Nat.lt_of_lt_of_le ho hL.n) (by rw [hL.ρ o ho]; exact h) hp
 | iface t u v _ ih => exact .iface t u v ih
 | agg us vs hl _ ih => exact .agg us vs hl ih
 | tuple us vs hl _ ih => exact .tuple us vs hl ih
theorem E4.O4 {us : List UV} {vs : List VV} (hr : E4 c h.get us vs) (hL : u0 c h c' h' T) (hT : ∀ f, c.K f -> ¬ T f) : E4 c' h'.get us vs :=
 ⟨hr.1, fun i u v a b => (hr.2 i u v a b).O4 hL hT⟩
theorem A6.O4 {e : R1} {e' : Env} (hr : A6 c h.get e e') (hL : u0 c h c' h' T) (hT : ∀ f, c.K f -> ¬ T f) : A6 c' h'.get e e' := fun t => (hr t).O4 hL hT
theorem RO.O4 {u : UO} {v : VV} {fm : Nat -> Prop} (hr : RO c h.get u v fm) (hL : u0 c h c' h' T) (hT : ∀ f, c.K f -> ¬ T f) (hf : ∀ f, fm f -> ¬ T f) : RO c' h'.get u v fm := by
 have hk := hL.keeps hT
 cases hr with
 | obj cs b k xs hg P8 hz B2 CU hx hr => exact .obj cs b k xs (hL.same b _ hg (hf _ rfl)) P8 hz B2 CU hx (hr.O4 hL hT)
 | W7 B0 => exact .W7 B0
 | B7 B0 b i z k hg hK hz w6 h0 hi => exact .B7 B0 b i z k (hk.row b k hg hK) (hL.K _ hK) hz w6 h0 hi
 | row B0 es b i n cp z k hg B2 hz w6 h0 hn AV hs => exact .row B0 es b i n cp z k (hL.same b _ hg (hf _ rfl)) B2 hz w6 h0 hn AV (hs.keep hk)
 | old B0 es v h => exact .old B0 es v (h.keep hk)
 | map kf ag B0 es b z8 hg Ze hl h =>
  refine .map kf ag B0 es b z8 (hL.same b _ hg (hf _ rfl)) Ze hl fun i p q a b => ?_
  obtain ⟨h1, xs, h2, h3⟩ := h i p q a b
  exact ⟨h1.keep hk, xs, h2, h3.keep hk⟩
 | B8 B0 => exact .B8 B0
 | p0 B0 es x b i n cp z k ps fs hg B2 hz w6 h0 hn AV U8 hc Yq hE =>
  exact .p0 B0 es x b i n cp z k ps fs (hL.same b _ hg (hf _ (.inl rfl))) B2 hz w6 h0 hn AV U8 hc Yq (hE.keep hk fun j b' k' h1 h2 => hL.same b' _ h2 (hf _ (.inr ⟨j, h1⟩)))
 | X8 v => exact .X8 v
 | gone v hv => exact .gone v hv
theorem u0.refl (c : Cx) (h : A0) (T : Nat -> Prop) : u0 c h c h T :=
 ⟨Nat.le_refl _, fun _ _ => rfl, fun _ h => h, Nat.le_refl _, fun _ _ h _ => h, fun _ k h => ⟨k, h, rfl⟩, fun _ es h => ⟨es, h⟩, fun _ h => .inl h, fun o f h => .inr ⟨o, h⟩, fun _ _ _ h => h⟩
theorem u0.mono (hL : u0 c h c' h' T) (hT : ∀ f, T f -> T1 f) : u0 c h c' h' T1 :=
 ⟨hL.n, hL.ρ, hL.K, hL.next, fun b o hb hn => hL.same b o hb (fun ht => hn (hT _ ht)), hL.Q1, hL.mp, hL.Gf, hL.n8, hL.Aa⟩
theorem u0.trans (hL : u0 c h c1 h1 T) (hM : u0 c1 h1 c' h' T1) (hw : WF h.get h.next) (xx : ∀ f, T1 f -> h.next <= f \/ T f) : u0 c h c' h' T := by
 refine ⟨Nat.le_trans hL.n hM.n, fun o ho => ?_, fun f hf => hM.K f (hL.K f hf), Nat.le_trans hL.next hM.next, ?_, ?_, ?_, ?_, ?_, fun o f ho hf => hL.Aa o f ho (hM.Aa o f (Nat.lt_of_lt_of_le ho hL.n) hf)⟩
 ·rw [hM.ρ o (Nat.lt_of_lt_of_le ho hL.n), hL.ρ o ho]
 ·intro b o hb hn
  refine hM.same b o (hL.same b o hb hn) (fun ht => ?_)
  rcases xx _ ht with h2 | h2
  ·cases o with
   | cells k => have := hw.Q1 b k hb; simp only at h2; omega
   | map es => have := hw.lt b _ hb; simp only at h2; omega
  ·exact hn h2
 ·intro b k hb
  obtain ⟨k1, h2, e1⟩ := hL.Q1 b k hb
  obtain ⟨k2, h3, e2⟩ := hM.Q1 b k1 h2
  exact ⟨k2, h3, e2.trans e1⟩
 ·intro b es hb
  obtain ⟨k1, h2⟩ := hL.mp b es hb
  exact hM.mp b k1 h2
 ·intro f hf
  rcases hM.Gf f hf with h2 | h2 | ⟨o, h2⟩
  ·exact hL.Gf f h2
  ·exact .inr (.inl (Nat.le_trans hL.next h2))
  ·rcases hL.n8 o f h2 with h3 | h3
   ·exact .inr (.inl h3)
   ·exact .inr (.inr h3)
 ·intro o f hf
  rcases hM.n8 o f hf with h2 | ⟨o', h2⟩
  ·exact .inl (Nat.le_trans hL.next h2)
  ·exact hL.n8 o' f h2
theorem u0.trans' (hL : u0 c h c1 h1 c.L7) (hM : u0 c1 h1 c' h' c1.L7) (hw : WF h.get h.next) : u0 c h c' h' c.L7 :=
 hL.trans hM hw fun f ⟨o, ho⟩ => by
  rcases hL.n8 o f ho with h2 | h2
  ·exact .inl h2
  ·exact .inr h2
theorem T3.qO {s : O0} (hs : T3 c h s) : ∀ f, c.K f -> ¬ c.L7 f := fun f hK ⟨o, ho⟩ => hs.EJ o f ho hK
theorem T3.sub {s : O0} (hs : T3 c h s) (hT : ∀ f, T f -> c.L7 f) : ∀ f, c.K f -> ¬ T f := fun f hK ht => hs.qO f hK (hT f ht)
end
theorem O0.V0 (s : O0) (u : UO) (o : Nat) : (s.push u).get o = if o = s.len then u else s.get o := by
 induction s generalizing o with
 | nil => cases o <;> simp [O0.push, O0.get, O0.len]
 | cons x s ih => cases o with
  | zero => simp [O0.push, O0.get, O0.len]
  | succ o => simp only [O0.push, O0.get, O0.len, ih]; simp
theorem O0.CT (s : O0) (u : UO) : (s.push u).len = s.len + 1 := by
 induction s with
 | nil => rfl
 | cons x s ih => simp only [O0.push, O0.len, ih]
theorem O0.V4 (s : O0) (o : Nat) (u : UO) : (s.T8 o u).len = s.len := by
 induction s generalizing o with
 | nil => rfl
 | cons x s ih => cases o <;> simp [O0.T8, O0.len, ih]
theorem O0.C4 (s : O0) (o : Nat) (u : UO) (p : Nat) : (s.T8 o u).get p = if p = o /\ o < s.len then u else s.get p := by
 induction s generalizing o p with
 | nil => simp [O0.T8, O0.len]
 | cons x s ih =>
  cases o with
  | zero => cases p <;> simp [O0.T8, O0.get, O0.len]
  | succ o => cases p with
   | zero => simp [O0.T8, O0.get]
   | succ p => simp only [O0.T8, O0.get, O0.len, ih]; simp
theorem O0.Lf (s : O0) (o : Nat) (h : s.len <= o) : s.get o = .gone := by
 induction s generalizing o with
 | nil => rfl
 | cons x s ih => cases o with
  | zero => simp [O0.len] at h
  | succ o => simp only [O0.get]; exact ih o (by simpa [O0.len] using h)
theorem O0.CR {s : O0} {o : Nat} (h : s.get o ≠ .gone) : o < s.len := by
 rcases Nat.lt_or_ge o s.len with h1 | h1
 ·exact h1
 ·exact absurd (O0.Lf s o h1) h
theorem R1.ER (e : R1) (d t : Nat) (v : UV) : (e.set d v).get t = if t = d then v else e.get t := by
 induction e generalizing d t with
 | nil =>
  induction d generalizing t with
  | zero => cases t <;> simp [R1.set, R1.get]
  | succ d ih => cases t with
   | zero => simp [R1.set, R1.get]
   | succ t => simp only [R1.set, R1.get, ih]; simp
 | cons x e ih => cases d with
  | zero => cases t <;> simp [R1.set, R1.get]
  | succ d => cases t with
   | zero => simp [R1.set, R1.get]
   | succ t => simp only [R1.set, R1.get, ih]; simp
theorem A6.put {c : Cx} {g : VG} {e : R1} {e' : Env} (hr : A6 c g e e') {u : UV} {v : VV} (h : RV c g u v) (d : Option Tmp) : A6 c g (e.put d u) (e'.put d v) := by
 cases d with
 | none => exact hr
 | some d =>
  intro t
  show RV c g (R1.get (R1.set e d u) t) (Env.get (Env.set e' d v) t)
  rw [R1.ER, Env.ER]
  split
  ·exact h
  ·exact hr t
section
variable {c : Cx} {h h' : A0} {s : O0}
def Cx.add (c : Cx) (v : VV) (fm : Nat -> Prop) : Cx := ⟨c.n + 1, fun o => if o = c.n then v else c.ρ o, c.K, fun o => if o = c.n then fm else c.φ o⟩
theorem T3.out (hs : T3 c h s) {o : Nat} (ho : c.n <= o) : c.φ o = BF := by
 have := hs.obj o
 rw [O0.Lf s o (by rw [hs.len]; exact ho)] at this
 generalize c.φ o = fm at this
 cases this
 rfl
theorem T3.s9 (hs : T3 c h s) (v : VV) (fm : Nat -> Prop) (T6 : h.next <= h'.next) (hold : ∀ b o, h.get b = some o -> h'.get b = some o) (w8 : ∀ f, fm f -> h.next <= f) (T : Nat -> Prop) : u0 c h (c.add v fm) h' T := by
 refine ⟨Nat.le_succ _, fun o ho => ?_, fun _ h => h, T6, fun b o hb _ => hold b o hb, fun b k hb => ⟨k, hold _ _ hb, rfl⟩, fun b es hb => ⟨es, hold _ _ hb⟩, fun _ h => .inl h, fun o f hf => ?_, fun o f ho hf => by
  have hf : (if o = c.n then fm else c.φ o) f := hf
  rwa [if_neg (by omega)] at hf⟩
 ·show (if o = c.n then v else c.ρ o) = _
  rw [if_neg (by omega)]
 ·have hf : (if o = c.n then fm else c.φ o) f := hf
  split at hf
  ·exact .inl (w8 f hf)
  ·exact .inr ⟨o, hf⟩
theorem T3.add (hs : T3 c h s) {u : UO} {v : VV} {fm : Nat -> Prop} (hw : WF h'.get h'.next) (T6 : h.next <= h'.next) (hold : ∀ b o, h.get b = some o -> h'.get b = some o)
  (w8 : ∀ f, fm f -> h.next <= f /\ f < h'.next) (B2 : RO (c.add v fm) h'.get u v fm) : T3 (c.add v fm) h' (s.push u) := by
 have hL := hs.s9 v fm T6 hold (fun f hf => (w8 f hf).1) (fun _ => False)
 refine ⟨hw, by rw [O0.CT, hs.len]; rfl, fun o => ?_, ?_, ?_, ?_, fun f hf => Nat.lt_of_lt_of_le (hs.Rc f hf) T6, fun o ho => by
  have ho : c.n + 1 <= o := ho
  show (if o = c.n then v else c.ρ o) = _
  rw [if_neg (by omega)]; exact hs.Xn o (by omega)⟩
 ·rw [O0.V0, hs.len]
  show RO _ _ _ (if o = c.n then v else c.ρ o) (if o = c.n then fm else c.φ o)
  split
  ·exact B2
  ·exact (hs.obj o).O4 hL (fun _ _ h => h) (fun _ _ h => h)
 ·intro o o' f h1 h2
  have h1 : (if o = c.n then fm else c.φ o) f := h1
  have h2 : (if o' = c.n then fm else c.φ o') f := h2
  split at h1 <;> split at h2
  ·omega
  ·have := (w8 f h1).1; have := hs.s8 o' f h2; omega
  ·have := (w8 f h2).1; have := hs.s8 o f h1; omega
  ·exact hs.Ax o o' f h1 h2
 ·intro o f h1 hK
  have h1 : (if o = c.n then fm else c.φ o) f := h1
  split at h1
  ·have := (w8 f h1).1; have := hs.Rc f hK; omega
  ·exact hs.EJ o f h1 hK
 ·intro o f h1
  have h1 : (if o = c.n then fm else c.φ o) f := h1
  split at h1
  ·exact (w8 f h1).2
  ·exact Nat.lt_of_lt_of_le (hs.s8 o f h1) T6
theorem T3.pJ (hs : T3 c h s) {o f : Nat} {u : UO} (ho : c.φ o f) (hw : WF h'.get h'.next) (hL : u0 c h c h' (· = f)) (B2 : RO c h'.get u (c.ρ o) (c.φ o)) : T3 c h' (s.T8 o u) := by
 have R3 : o < s.len := by
  rcases Nat.lt_or_ge o s.len with h1 | h1
  ·exact h1
  ·have := hs.out (o := o) (by rw [<- hs.len]; exact h1); rw [this] at ho; cases ho
 refine ⟨hw, by rw [O0.V4, hs.len], fun p => ?_, hs.Ax, hs.EJ, fun p f' hf => Nat.lt_of_lt_of_le (hs.s8 p f' hf) hL.next, fun f' hf => Nat.lt_of_lt_of_le (hs.Rc f' hf) hL.next, hs.Xn⟩
 rw [O0.C4]
 by_cases hp : p = o
 ·subst hp
  rw [if_pos ⟨rfl, R3⟩]; exact B2
 ·rw [if_neg (fun hh => hp hh.1)]
  exact (hs.obj p).O4 hL (fun f' hK e => hs.EJ o f ho (e ▸ hK)) (fun f' hf e => hp (hs.Ax p o f' hf (by rw [e]; exact ho)))
theorem T3.BK (hs : T3 c h s) {o f : Nat} {u : UO} (ho : c.φ o = one f) (hw : WF h'.get h'.next) (hL : u0 c h c h' (· = f)) (B2 : RO c h'.get u (c.ρ o) (one f)) : T3 c h' (s.T8 o u) :=
 hs.pJ (L5 ho) hw hL (by rw [ho]; exact B2)
def Cx.jL (c : Cx) (o f : Nat) : Cx := ⟨c.n, c.ρ, fun x => c.K x \/ x = f, fun p => if p = o then BF else c.φ p⟩
theorem T3.jL (hs : T3 c h s) {o : Nat} {B0 : List FT} {es : List (List D)} (CU : s.get o = .row B0 es) : ∃ c', T3 c' h (s.T8 o (.old B0 es)) /\ u0 c h c' h (fun _ => False) /\ c'.n = c.n /\ c'.ρ = c.ρ /\ (∀ p f, c'.φ p f -> c.φ p f) := by
 have R3 : o < s.len := O0.CR (by rw [CU]; simp)
 have B2 := hs.obj o
 rw [CU] at B2
 have plain : c.φ o = BF -> RD h.get c.K (.row 0 B0) (.row es) (c.ρ o) -> ∃ c', T3 c' h (s.T8 o (.old B0 es)) /\ u0 c h c' h (fun _ => False) /\ c'.n = c.n /\ c'.ρ = c.ρ /\ (∀ p f, c'.φ p f -> c.φ p f) := by
  intro hn M3
  refine ⟨c, ⟨hs.wf, by rw [O0.V4, hs.len], fun p => ?_, hs.Ax, hs.EJ, hs.s8, hs.Rc, hs.Xn⟩, u0.refl _ _ _, rfl, rfl, fun _ _ h => h⟩
  rw [O0.C4]
  by_cases hp : p = o
  ·subst hp; rw [if_pos ⟨rfl, R3⟩, hn]; exact .old _ _ _ M3
  ·rw [if_neg (fun hh => hp hh.1)]; exact hs.obj p
 generalize hv : c.ρ o = v at B2
 generalize hf : c.φ o = fm at B2
 cases B2 with
 | W7 => exact plain hf (by rw [hv]; exact .P5 0 B0)
 | B7 B0 b i z k hg hK hz w6 h0 hi =>
  exact plain hf (by rw [hv]; exact RD.VH 0 hg hK hz w6 h0 rfl (by intro cp e; cases e; exact Nat.le_refl _) ⟨by simpa using hi, by simp⟩)
 | row B0 es b i n cp z k cU B2 hz w6 h0 hn AV v8 =>
  have hL : u0 c h (c.jL o k.Q1) h (fun _ => False) := by
   refine ⟨Nat.le_refl _, fun _ _ => rfl, fun _ h => .inl h, Nat.le_refl _, fun _ _ h _ => h, fun _ k h => ⟨k, h, rfl⟩, fun _ es h => ⟨es, h⟩, fun f hK => ?_, fun p f hp => ?_, fun p f _ hp => by
    have hp : (if p = o then BF else c.φ p) f := hp
    split at hp
    ·cases hp
    ·exact hp⟩
   ·rcases hK with hK | rfl
    ·exact .inl hK
    ·exact .inr (.inr ⟨o, L5 hf⟩)
   ·have hp : (if p = o then BF else c.φ p) f := hp
    split at hp
    ·cases hp
    ·exact .inr ⟨p, hp⟩
  have Ff := hL.keeps (fun _ _ h => h)
  refine ⟨c.jL o k.Q1, ⟨hs.wf, by rw [O0.V4, hs.len]; rfl, fun p => ?_, fun o1 o2 f h1 h2 => ?_, fun p f hp hK => ?_, fun p f hp => ?_, fun f hK => ?_, hs.Xn⟩, hL, rfl, rfl, fun p f hp => by
   have hp : (if p = o then BF else c.φ p) f := hp
   split at hp
   ·cases hp
   ·exact hp⟩
  ·rw [O0.C4]
   show RO _ _ _ (c.ρ p) (if p = o then BF else c.φ p)
   by_cases hp : p = o
   ·subst hp
    rw [if_pos ⟨rfl, R3⟩, if_pos rfl, hv]
    exact .old _ _ _ (RD.VH 0 cU (.inr rfl) hz w6 h0 hn (fun q hq => (AV q hq).1) (v8.keep Ff))
   ·rw [if_neg (fun hh => hp hh.1), if_neg hp]
    exact (hs.obj p).O4 hL (fun _ _ h => h) (fun _ _ h => h)
  ·have h1 : (if o1 = o then BF else c.φ o1) f := h1
   have h2 : (if o2 = o then BF else c.φ o2) f := h2
   split at h1
   ·cases h1
   ·split at h2
    ·cases h2
    ·exact hs.Ax o1 o2 f h1 h2
  ·have hp : (if p = o then BF else c.φ p) f := hp
   split at hp
   ·cases hp
   ·rename_i Y3
    rcases hK with hK | rfl
    ·exact hs.EJ p f hp hK
    ·exact Y3 (hs.Ax p o _ hp (L5 hf))
  ·have hp : (if p = o then BF else c.φ p) f := hp
   split at hp
   ·cases hp
   ·exact hs.s8 p f hp
  ·rcases hK with hK | rfl
   ·exact hs.Rc f hK
   ·exact hs.wf.Q1 b k cU
end
theorem RD.bytes {g : VG} {K : Nat -> Prop} {a : Nat} (b : Nat) {B0 : List FT} {d : D} {v : VV} (h : RD g K (.row a B0) d v) : RD g K (.row b B0) d v := by
 cases h with
 | nil => exact .nil _ _
 | P5 => exact .P5 _ _
 | row _ B0 rows b i n c z k hg hK hz w6 h0 hn hlen hc hl hr => exact .row _ B0 rows b i n c z k hg hK hz w6 h0 hn hlen hc hl hr
section
variable {P : Program} {c : Cx} {h : A0} {s : O0}
theorem QD {g : VG} {ft : FT} {u : UV} {d : D} {v : VV} (hd : Zy ft u = some d) (hr : RV c g u v) : RD g c.K ft d v := by
 cases hr with
 | bool b => cases ft <;> simp [Zy] at hd; subst hd; exact .bool b
 | int k n =>
  cases ft <;> simp only [Zy] at hd <;> (try (cases hd; done))
  split at hd
  ·rename_i hk; simp only [decide_eq_true_eq] at hk; simp only [U0] at hd; subst hd; subst hk; exact .int _ _
  ·cases hd
 | str x => cases ft <;> simp [Zy] at hd; subst hd; exact .str x
 | pz B0 d' v M3 =>
  cases ft <;> simp only [Zy] at hd <;> (try (cases hd; done))
  split at hd
  ·rename_i hk; simp only [U0] at hd; subst hd
   have := FT.J0 _ _ hk; subst this
   exact M3
  ·cases hd
 | pn B0 ds f b M3 =>
  cases f with
  | succ f => cases ft <;> simp [Zy] at hd
  | zero =>
   cases ft <;> simp only [Zy] at hd <;> (try (cases hd; done))
   split at hd
   ·rename_i hk; simp only [U0] at hd; subst hd
    have := FT.J0 _ _ hk; subst this
    exact M3
   ·cases hd
 | _ => cases ft <;> simp [Zy] at hd
theorem IA {g : VG} {u : UV} {v : VV} {ft : FT} {d : D} (hn : ∀ o, u ≠ .own o) (hr : RV c g u v) (hd : DS s ft u = some d) : RD g c.K ft d v := by
 cases hr with
 | bool b => cases ft <;> simp [DS] at hd; subst hd; exact .bool b
 | int k n =>
  cases ft <;> simp only [DS] at hd <;> (try (cases hd; done))
  split at hd
  ·rename_i hk; simp only [decide_eq_true_eq] at hk; simp only [U0] at hd; subst hd; subst hk; exact .int _ _
  ·cases hd
 | str x => cases ft <;> simp [DS] at hd; subst hd; exact .str x
 | nilslice => cases ft <;> simp [DS] at hd; subst hd; exact .nil _ _
 | fz B0 es cut v M3 hc =>
  cases ft <;> simp only [DS] at hd <;> (try (cases hd; done))
  split at hd
  ·rename_i hk; simp only [U0] at hd; subst hd
   have := FT.J0 _ _ hk; subst this
   exact M3.bytes _
  ·cases hd
 | nn B0 es v M3 hv =>
  cases ft <;> simp only [DS] at hd <;> (try (cases hd; done))
  split at hd
  ·rename_i hk; simp only [U0] at hd; subst hd
   have := FT.J0 _ _ hk; subst this
   exact M3.bytes _
  ·cases hd
 | own o v ho hb hv => exact absurd rfl (hn o)
 | I2 => cases ft <;> simp [DS] at hd; subst hd; exact .YQ _
 | I1 => cases ft <;> simp [DS] at hd; subst hd; exact .OV _ _
 | pz B0 d' v M3 =>
  cases ft <;> simp only [DS] at hd <;> (try (cases hd; done))
  split at hd
  ·rename_i hk; simp only [U0] at hd; subst hd
   have := FT.J0 _ _ hk; subst this
   exact M3
  ·cases hd
 | pn B0 ds f b M3 =>
  cases f with
  | succ f => cases ft <;> simp [DS] at hd
  | zero =>
   cases ft <;> simp only [DS] at hd <;> (try (cases hd; done))
   split at hd
   ·rename_i hk; simp only [U0] at hd; subst hd
    have := FT.J0 _ _ hk; subst this
    exact M3
   ·cases hd
 | Bn ts B0 d' v M3 =>
  cases ft <;> simp only [DS] at hd <;> (try (cases hd; done))
  split at hd
  ·rename_i hk; simp only [U0] at hd; subst hd
   simp only [Bool.and_eq_true] at hk
   have := FT.J0 _ _ hk.2; subst this
   have := GN _ _ hk.1; subst this
   exact M3
  ·cases hd
 | iface t u' v' TB =>
  cases ft <;> simp only [DS] at hd <;> (try (cases hd; done))
  split at hd
  ·rename_i vF hl
   split at hd
   ·rename_i d' hp
    simp only [U0] at hd; subst hd
    exact .EN _ _ t vF d' v' hl (QD hp TB)
   ·cases hd
  ·cases hd
 | _ => cases ft <;> simp [DS] at hd
theorem LL {g : VG} {K : Nat -> Prop} : ∀ {B0 : List FT} {us : List UV} {ds : List D} {vs : List VV}, D8 s B0 us = some ds -> us.length = vs.length ->
  (∀ (i : Nat) u v, us[i]? = some u -> vs[i]? = some v -> ∀ ft d, DS s ft u = some d -> RD g K ft d v) -> Cl g K B0 ds vs
 | [], [], ds, vs, hd, hl, _ => by
  simp only [D8, U0] at hd; subst hd
  cases vs with
  | nil => exact Cl.nil _ _
  | cons => simp at hl
 | ft :: B0, u :: us, ds, vs, hd, hl, hp => by
  simp only [D8] at hd
  split at hd
  ·rename_i d pB h1 h2
   simp only [U0] at hd; subst hd
   cases vs with
   | nil => simp at hl
   | cons v vs => exact Cl.cons (hp 0 u v rfl rfl ft d h1) (LL h2 (by simpa using hl) (fun i a b ha hb => hp (i + 1) a b (by simpa using ha) (by simpa using hb)))
  ·cases hd
 | [], _ :: _, _, _, hd, _, _ => by simp [D8] at hd
 | _ :: _, [], _, _, hd, _, _ => by simp [D8] at hd
theorem Ct : ∀ {B0 : List FT} {rs : List (List UV)} {es : List (List D)}, Bj s B0 rs = some es -> rs.length = es.length /\ ∀ (i : Nat) r d, rs[i]? = some r -> es[i]? = some d -> D8 s B0 r = some d
 | B0, [], es, he => by simp only [Bj, U0] at he; subst he; exact ⟨rfl, by simp⟩
 | B0, r :: rs, es, he => by
  simp only [Bj] at he
  split at he
  ·rename_i d ds h1 h2
   simp only [U0] at he; subst he
   obtain ⟨a, b⟩ := Ct h2
   refine ⟨by simp [a], fun i x y hx hy => ?_⟩
   cases i with
   | zero => simp at hx hy; subst hx; subst hy; exact h1
   | succ i => simp at hx hy; exact b i x y hx hy
  ·cases he
theorem Ly (n : Nat) : ∀ (k : Nat) (us : List UV) (i : Nat), i < k -> (S5 n k us)[i]? = some ((us.drop (i * n)).take n)
 | k + 1, us, 0, _ => by simp [S5]
 | k + 1, us, i + 1, h => by
  simp only [S5, List.getElem?_cons_succ]
  rw [Ly n k (us.drop n) i (by omega), List.drop_drop, Nat.add_mul, Nat.one_mul, Nat.add_comm]
theorem Hv (n : Nat) : ∀ (k : Nat) (us : List UV), (S5 n k us).length = k
 | 0, _ => rfl
 | k + 1, us => by simp only [S5, List.length_cons]; rw [Hv n k]
theorem QM {g : VG} {B0 : List FT} {n j : Nat} {cs : List UV} {vs : List VV} {rows : List (List D)} (F4 : Bj [] B0 (S5 B0.length n cs) = some rows) (hj : j < n) (hr : E4 c g cs vs) :
  Cl g c.K B0 (elem j rows) ((vs.drop (j * B0.length)).take B0.length) := by
 obtain ⟨r1, r2⟩ := Ct F4
 have hc := Ly B0.length n cs j hj
 have R3 : j < rows.length := by rw [<- r1]; exact (List.getElem?_eq_some_iff.1 hc).1
 have hd := r2 j _ _ hc (List.getElem?_eq_getElem R3)
 have vw : E4 c g ((cs.drop (j * B0.length)).take B0.length) ((vs.drop (j * B0.length)).take B0.length) := (hr.drop _).take _
 have he : elem j rows = rows[j] := by unfold elem; rw [List.getD_eq_getElem?_getD, List.getElem?_eq_getElem R3]; rfl
 rw [he]
 refine LL hd vw.1 (fun i u v hu hv ft d h1 => IA (fun o e => ?_) (vw.2 i u v hu hv) h1)
 subst e
 cases ft <;> simp [DS, O0.get, rowOf] at h1
end
section
variable {P : Program} {c : Cx} {h : A0} {s : O0}
theorem Si (c : Cx) (g : VG) : ∀ (d : Nat) (x : VV) (u : UV), p8 d x = some u -> RV c g u x := by
 intro d
 induction d with
 | zero => intro x u h; simp [p8] at h
 | succ d ih =>
  intro x u h
  have go : ∀ (vs : List VV) (us : List UV), p8.go d vs = some us -> E4 c g us vs := by
   intro vs
   induction vs with
   | nil => intro us h; simp only [p8.go, U0] at h; subst h; exact E4.nil c g
   | cons v vs tV =>
    intro us h
    simp only [p8.go] at h
    split at h
    ·rename_i x xs h1 h2
     simp only [U0] at h; subst h
     exact E4.cons (ih v x h1) (tV xs h2)
    ·cases h
  cases x with
  | bool b => simp only [p8, U0] at h; subst h; exact .bool b
  | int k n => simp only [p8, U0] at h; subst h; exact .int k n
  | str s => simp only [p8, U0] at h; subst h; exact .str s
  | I2 => simp only [p8, U0] at h; subst h; exact .I2
  | nilslice => simp only [p8, U0] at h; subst h; exact .nilslice
  | A3 => simp only [p8, U0] at h; subst h; exact .A3
  | D3 => simp only [p8, U0] at h; subst h; exact .D3
  | I1 => simp only [p8, U0] at h; subst h; exact .I1
  | agg cs =>
   simp only [p8, Option.map_eq_some_iff] at h
   obtain ⟨us, h1, rfl⟩ := h
   exact RV.OB (go cs us h1)
  | _ => simp [p8] at h
theorem j1 {e : R1} {e' : Env} {g : VG} (he : A6 c g e e') (x : Operand) : RV c g (F7 e x) (ev e' x) := by
 cases x with
 | tmp t => exact he t
 | const v =>
  show RV c g (match n5 3 v with | some x => (p8 3 x).getD .undef | none => .undef) ((n5 3 v).getD .undef)
  cases hv : n5 3 v with
  | none => exact .undef _
  | some x =>
   simp only [Option.getD_some]
   cases hx : p8 3 x with
   | none => exact .undef _
   | some u => exact Si c g 3 x u hx
 | global _ => exact .undef _
 | func f => exact .func f
theorem Bw {e : R1} {e' : Env} {g : VG} (he : A6 c g e e') (xs : Array Operand) : E4 c g (AZ e xs) (I4 e' xs) := by
 unfold AZ I4
 generalize xs.toList = l
 induction l with
 | nil => exact E4.nil c g
 | cons x l ih => exact E4.cons (j1 he x) ih
theorem Aj {g : VG} {t : TypeId} {us : List UV} {vs : List VV} {u : UV} (hu : DQ P t us = some u) (hr : E4 c g us vs) : ∃ v, B5 P t vs = some v /\ RV c g u v := by
 unfold DQ at hu
 unfold B5
 split at hu
 ·rename_i ht; rw [ht]; simp only [U0] at hu; subst hu; exact ⟨_, rfl, RV.OB hr⟩
 ·rename_i ht; rw [ht]; simp only [U0] at hu; subst hu; exact ⟨_, rfl, RV.OB hr⟩
 ·rename_i d h1 h2 ht
  rw [ht]
  split at hu
  ·simp only [U0] at hu; subst hu
   have := hr.1
   match vs, this, hr with
   | [v], _, hr =>
    refine ⟨v, ?_, hr.head⟩
    cases d with
    | struct fs => exact (h1 fs rfl).elim
    | array n e => exact (h2 n e rfl).elim
    | _ => rfl
  ·cases hu
 ·cases hu
theorem GC {g : VG} {t : TypeId} {us : List UV} {vs : List VV} {off : Nat} {u : UV} (hu : Ou P t us off = some u) (hr : E4 c g us vs) : ∃ v, l9 P t vs off = some v /\ RV c g u v := by
 unfold Ou at hu
 split at hu
 ·rename_i hle
  have hle := Nat.le_of_ble_eq_true hle
  obtain ⟨v, h1, h2⟩ := Aj hu ((hr.drop off).take _)
  exact ⟨v, by unfold l9; rw [if_pos (by rw [<- hr.1]; exact hle)]; exact h1, h2⟩
 ·cases hu
theorem IT {g : VG} {ft : FT} {d : D} {v : VV} (hr : RD g c.K ft d v) : RV c g (ja ft d) v := by
 cases hr with
 | bool b => exact .bool b
 | int k n => exact .int k n
 | str s => exact .str s
 | nil bytes B0 => exact .fz B0 [] false .nilslice (.P5 0 B0) (fun h => by cases h)
 | P5 bytes B0 => exact .fz B0 [] false .nilslice (.P5 0 B0) (fun h => by cases h)
 | row bytes B0 rows b i n cp z k hg hK hz w6 h0 hn hlen hc hl hr =>
  exact .fz B0 rows false _ (.row 0 B0 rows b i n cp z k hg hK hz w6 h0 hn hlen hc hl hr) (fun h => by cases h)
 | YQ B0 => exact .pz B0 _ _ (.YQ B0)
 | ptr B0 ds b k cs hg hK P8 hl Zd hr => exact .pz B0 _ _ (.ptr B0 ds b k cs hg hK P8 hl Zd hr)
 | OV ts B0 => exact .Bn ts B0 _ _ (.OV ts B0)
 | EN ts B0 t ft d v ht h => exact .Bn ts B0 _ _ (.EN ts B0 t ft d v ht h)
theorem Sj (l : List FT) (ds : List D) (j m : Nat) : (L9 j l ds)[m]? = (l[m]?).map fun ft => ja ft (cell (j + m) ds) := by
 induction l generalizing j m with
 | nil => simp [L9]
 | cons ft l ih =>
  cases m with
  | zero => simp [L9]
  | succ m =>
   simp only [L9, List.getElem?_cons_succ, ih]
   rw [show j + 1 + m = j + (m + 1) by omega]
theorem Db (l : List FT) (ds : List D) (j : Nat) : (L9 j l ds).length = l.length := by
 induction l generalizing j with
 | nil => rfl
 | cons ft l ih => simp [L9, ih]
theorem CN {g : VG} {B0 : List FT} {ds : List D} {vs : List VV} (hr : Cl g c.K B0 ds vs) (f n : Nat) (hn : f + n <= B0.length) : E4 c g (L9 f ((B0.drop f).take n) ds) ((vs.drop f).take n) := by
 refine ⟨by rw [Db, List.length_take, List.length_take, List.length_drop, List.length_drop, hr.Ar], fun i u v hu hv => ?_⟩
 rw [Sj, List.getElem?_take, List.getElem?_drop] at hu
 rw [List.getElem?_take, List.getElem?_drop] at hv
 by_cases hi : i < n
 ·rw [if_pos hi] at hu hv
  have h1 : f + i < B0.length := by omega
  have h2 : f + i < ds.length := by rw [hr.len]; exact h1
  rw [List.getElem?_eq_getElem h1] at hu
  simp only [Option.map_some, U0] at hu
  subst hu
  have : cell (f + i) ds = ds[f + i] := by simp [cell, List.getD_eq_getElem?_getD, List.getElem?_eq_getElem h2]
  rw [this]
  exact IT (hr.at_ (f + i) _ _ v (List.getElem?_eq_getElem h1) (List.getElem?_eq_getElem h2) hv)
 ·rw [if_neg hi] at hv; cases hv
theorem GI (hs : T3 c h s) {o : Nat} {B0 : List FT} {es : List (List D)} (hr : rowOf (s.get o) = some (B0, es)) :
  (c.ρ o = .nilslice /\ es = []) \/ ∃ b i n cp z k, c.ρ o = .slice b i n cp z /\ h.get b = some (.cells k) /\ k.L3 = B0.length /\ z = B0.length /\ 0 < B0.length /\ n = es.length /\ (∀ q, cp = some q -> n <= q) /\ Fv h.get c.K B0 es k.es i := by
 have B2 := hs.obj o
 cases hu : s.get o with
 | row W2 Aw =>
  rw [hu] at hr B2
  simp only [rowOf, U0, Prod.mk.injEq] at hr
  obtain ⟨rfl, rfl⟩ := hr
  generalize c.ρ o = v at B2
  generalize c.φ o = fm at B2
  cases B2 with
  | W7 => exact .inl ⟨rfl, rfl⟩
  | B7 B0 b i z k hg hK hz w6 h0 hi => exact .inr ⟨b, i, 0, _, z, k, rfl, hg, hz, w6, h0, rfl, by intro q e; cases e; exact Nat.le_refl _, ⟨by simpa using hi, by simp⟩⟩
  | row B0 es b i n cp z k cU B2 hz w6 h0 hn AV v8 => exact .inr ⟨b, i, n, cp, z, k, rfl, cU, hz, w6, h0, hn, fun q hq => (AV q hq).1, v8⟩
 | old W2 Aw =>
  rw [hu] at hr B2
  simp only [rowOf, U0, Prod.mk.injEq] at hr
  obtain ⟨rfl, rfl⟩ := hr
  generalize c.ρ o = v at B2
  generalize c.φ o = fm at B2
  cases B2 with
  | old B0 es v M3 =>
   cases v with
   | nilslice => cases M3; exact .inl ⟨rfl, rfl⟩
   | slice b i n cp z =>
    obtain ⟨k, h1, h2, h3, h4, h5, h6, h7, h8⟩ := M3.Uq
    exact .inr ⟨b, i, n, cp, z, k, rfl, h1, h3, h4, h5, h6, h7, h8⟩
   | _ => cases M3
 | obj cs => rw [hu] at hr; cases hr
 | map kf f es => rw [hu] at hr; cases hr
 | p0 B0 es x => rw [hu] at hr; cases hr
 | X8 => rw [hu] at hr; cases hr
 | gone => rw [hu] at hr; cases hr
theorem Fv.elem {g : VG} {K : Nat -> Prop} {B0 : List FT} {rows : List (List D)} {es : List (List VV)} {i0 : Nat} (hs : Fv g K B0 rows es i0) {i : Nat} (hi : i < rows.length) :
  ∃ cs, es[i0 + i]? = some cs /\ Cl g K B0 (elem i rows) cs := by
 have h1 : i0 + i < es.length := by have := hs.len; omega
 refine ⟨es[i0 + i], List.getElem?_eq_getElem h1, ?_⟩
 have : Go.Proofs.Ythlbahcggmbfaaa.V.elem i rows = rows[i] := by simp [Go.Proofs.Ythlbahcggmbfaaa.V.elem, List.getD_eq_getElem?_getD, List.getElem?_eq_getElem hi]
 rw [this]
 exact hs.at_ i _ _ (List.getElem?_eq_getElem hi) (List.getElem?_eq_getElem h1)
theorem NM {g : VG} {t : TypeId} {B0 : List FT} {es : List (List D)} {b i0 i f : Nat} {k : Es} {u : UV} (hg : h.get b = some (.cells k)) (hs : Fv g c.K B0 es k.es i0) (hi : i < es.length)
  (hle : f + P.cellsOf t <= B0.length) (hu : DQ P t (L9 f ((B0.drop f).take (P.cellsOf t)) (elem i es)) = some u) : ∃ v, AY P t h (.ptr b (i0 + i) f) = some v /\ RV c g u v := by
 obtain ⟨cs, h1, h2⟩ := hs.elem hi
 obtain ⟨v, h3, h4⟩ := Aj hu (CN h2 f _ hle)
 refine ⟨v, ?_, h4⟩
 simp only [AY, rd, hg, h1]
 rw [if_pos (by rw [h2.Ar]; exact hle)]
 exact h3
theorem Ow (hs : T3 c h s) {t : TypeId} {a u : UV} {a' : VV} (hu : Hy P t s a = some u) (hr : RV c h.get a a') : ∃ v, AY P t h a' = some v /\ RV c h.get u v := by
 cases hr with
 | ptr o f b ho hb =>
  simp only [Hy] at hu
  split at hu
  ·rename_i cs hc
   have B2 := hs.obj o
   rw [hc, hb] at B2
   generalize c.φ o = fm at B2
   cases B2 with
   | obj cs b k xs hg P8 hz B2 CU hx bu =>
    obtain ⟨v, h1, h2⟩ := GC hu bu
    refine ⟨v, ?_, h2⟩
    unfold l9 at h1
    simp only [AY, rd, hg, P8, List.getElem?_cons_zero]
    split at h1
    ·rename_i hle; rw [if_pos hle]; exact h1
    ·cases h1
  ·cases hu
 | u7 o i f b i0 n cp z ho hb hi =>
  simp only [Hy] at hu
  split at hu
  ·rename_i B0 es F4
   split at hu
   ·rename_i hle
    rcases GI hs F4 with ⟨h1, _⟩ | ⟨b', i', n', Ro, z', k, h1, hg, hz, w6, h0, hn, AV, v8⟩
    ·rw [h1] at hb; cases hb
    ·rw [hb] at h1; cases h1
     exact NM hg v8 (by omega) (Nat.le_of_ble_eq_true hle) hu
   ·cases hu
  ·cases hu
 | AX B0 es i f b i0 n cp z M3 hi =>
  simp only [Hy] at hu
  split at hu
  ·rename_i hle
   obtain ⟨k, h1, h2, h3, h4, h5, h6, h7, h8⟩ := M3.Uq
   exact NM h1 h8 (by omega) (Nat.le_of_ble_eq_true hle) hu
  ·cases hu
 | pn B0 ds f b M3 =>
  simp only [Hy] at hu
  split at hu
  ·rename_i hle
   obtain ⟨k, h1, h2, h3⟩ := M3.WT
   have := NM (es := [ds]) (i0 := 0) (i := 0) h1 h3 (by simp) (Nat.le_of_ble_eq_true hle) hu
   simpa using this
  ·cases hu
 | m7 B0 o g n j f b ho hb hj =>
  simp only [Hy] at hu
  split at hu
  ·rename_i cs hc
   split at hu
   ·rename_i rows hle F4
    simp only [Bool.and_eq_true] at hle
    have ia := Nat.le_of_ble_eq_true hle.1
    have qy := Nat.le_of_ble_eq_true hle.2
    have B2 := hs.obj o
    rw [hc, hb] at B2
    generalize c.φ o = fm at B2
    cases B2 with
    | obj cs b k xs hg P8 hz B2 CU hx bu =>
     have M3 := QM F4 hj (bu.drop g)
     obtain ⟨v, h1, h2⟩ := Aj hu (CN M3 f _ ia)
     refine ⟨v, ?_, h2⟩
     have hm : (j + 1) * B0.length <= n * B0.length := Nat.mul_le_mul_right _ hj
     rw [Nat.add_mul, Nat.one_mul] at hm
     have hlen := bu.1
     simp only [AY, rd, hg, P8, List.getElem?_cons_zero]
     rw [if_pos (by omega)]
     rw [List.drop_drop, List.drop_take, List.take_take, Nat.min_eq_left (by omega), List.drop_drop] at h1
     exact h1
   ·cases hu
  ·cases hu
 | _ => simp [Hy] at hu
theorem Nu {g : VG} {K : Nat -> Prop} (x : ByteArray) : Fv g K [.int .u8] (Hf x) (x.data.toList.map fun b => [VV.int .u8 b.toNat]) 0 := by
 refine ⟨by simp [Hf], fun j r cs h1 h2 => ?_⟩
 simp only [Hf, List.getElem?_map, Nat.zero_add] at h1 h2
 cases hb : x.data.toList[j]? with
 | none => rw [hb] at h1; cases h1
 | some b =>
  rw [hb] at h1 h2
  simp only [Option.map_some, U0] at h1 h2
  subst h1; subst h2
  exact Cl.cons (.int .u8 _) (Cl.nil g K)
theorem Oq (hs : T3 c h s) {B0 : List FT} (h0 : 0 < B0.length) {u : UV} {v : VV} {es : List (List D)} (hu : FA s B0 u = some es) (hr : RV c h.get u v) :
  ∃ xs, U5 B0.length h v = some xs /\ xs.length = es.length /\ Fv h.get c.K B0 es xs 0 := by
 have Uq : ∀ {b i n : Nat} {cp : Option Nat} {z : Nat} {k : Es}, h.get b = some (.cells k) -> z = B0.length -> n = es.length -> Fv h.get c.K B0 es k.es i ->
   ∃ xs, U5 B0.length h (.slice b i n cp z) = some xs /\ xs.length = es.length /\ Fv h.get c.K B0 es xs 0 := by
  intro b i n cp z k hg hz hn v8
  have hlen := v8.len
  have hl : ((k.es.drop i).take n).length = es.length := by rw [List.length_take, List.length_drop]; omega
  refine ⟨(k.es.drop i).take n, ?_, hl, ⟨by rw [hl]; omega, fun j r cs h1 h2 => ?_⟩⟩
  ·simp only [U5, hg]; rw [if_pos ⟨hz, by omega⟩]
  ·rw [Nat.zero_add, List.getElem?_take] at h2
   split at h2
   ·rw [List.getElem?_drop] at h2; exact v8.at_ j r cs h1 h2
   ·cases h2
 cases hr with
 | nilslice =>
  simp only [FA, U0] at hu; subst hu
  exact ⟨[], rfl, rfl, ⟨by simp, by simp⟩⟩
 | fz W2 Aw cut v M3 hc =>
  simp only [FA] at hu
  split at hu
  ·rename_i Y6
   simp only [U0] at hu; subst hu
   have := FT.J0 _ _ Y6; subst this
   cases v with
   | nilslice => cases M3; exact ⟨[], rfl, rfl, ⟨by simp, by simp⟩⟩
   | slice b i n cp z =>
    obtain ⟨k, h1, h2, h3, h4, h5, h6, h7, h8⟩ := M3.Uq
    exact Uq h1 h4 h6 h8
   | _ => cases M3
  ·cases hu
 | nn W2 Aw v M3 hv =>
  simp only [FA] at hu
  split at hu
  ·rename_i Y6
   simp only [U0] at hu; subst hu
   have := FT.J0 _ _ Y6; subst this
   obtain ⟨b, i, n, cp, z, rfl⟩ := hv
   obtain ⟨k, h1, h2, h3, h4, h5, h6, h7, h8⟩ := M3.Uq
   exact Uq h1 h4 h6 h8
  ·cases hu
 | own o v ho hb hv =>
  simp only [FA] at hu
  split at hu
  ·rename_i W2 Aw F4
   split at hu
   ·rename_i Y6
    simp only [U0] at hu; subst hu
    have := FT.J0 _ _ Y6; subst this
    rcases GI hs F4 with ⟨h1, h2⟩ | ⟨b', i', n', Ro, z', k, h1, hg, hz, w6, h0, hn, AV, v8⟩
    ·rw [h1] at hb; subst hb; subst h2; exact ⟨[], rfl, rfl, ⟨by simp, by simp⟩⟩
    ·rw [hb] at h1; subst h1
     exact Uq hg w6 hn v8
   ·cases hu
  ·cases hu
 | str x =>
  simp only [FA] at hu
  split at hu
  ·simp only [U0] at hu; subst hu
   refine ⟨_, rfl, by simp [Hf], Nu x⟩
  ·cases hu
 | _ => simp [FA] at hu
theorem Zr (hs : T3 c h s) {u : UV} {v : VV} {n : Int} (hu : Uc s u = some n) (hr : RV c h.get u v) (ji : ∀ x, u ≠ .str x) (hm : u ≠ .A3) (iZ : ∀ o, u ≠ .map o) :
  (v = .nilslice /\ n = 0) \/ ∃ b i m cp z, v = .slice b i m cp z /\ n = (m : Nat) := by
 cases hr with
 | nilslice => simp only [Uc, U0] at hu; exact .inl ⟨rfl, hu.symm⟩
 | fz B0 es cut v M3 hc =>
  simp only [Uc, U0] at hu
  cases v with
  | nilslice => cases M3; exact .inl ⟨rfl, by rw [<- hu]; rfl⟩
  | slice b i m cp z =>
   obtain ⟨k, h1, h2, h3, h4, h5, h6, h7, h8⟩ := M3.Uq
   exact .inr ⟨b, i, m, cp, z, rfl, by rw [<- hu, h6]⟩
  | _ => cases M3
 | nn B0 es v M3 hv =>
  simp only [Uc, U0] at hu
  obtain ⟨b, i, m, cp, z, rfl⟩ := hv
  obtain ⟨k, h1, h2, h3, h4, h5, h6, h7, h8⟩ := M3.Uq
  exact .inr ⟨b, i, m, cp, z, rfl, by rw [<- hu, h6]⟩
 | own o v ho hb hv =>
  simp only [Uc] at hu
  split at hu
  ·rename_i B0 es F4
   simp only [U0] at hu
   rcases GI hs F4 with ⟨h1, h2⟩ | ⟨b', i', n', Ro, z', k, h1, hg, hz, w6, h0, hn, AV, v8⟩
   ·rw [h1] at hb; subst hb; subst h2; exact .inl ⟨rfl, by rw [<- hu]; rfl⟩
   ·rw [hb] at h1; subst h1; exact .inr ⟨b', i', n', Ro, z', rfl, by rw [<- hu, hn]⟩
  ·cases hu
 | str x => exact absurd rfl (ji x)
 | A3 => exact absurd rfl hm
 | map o b ho hb => exact absurd rfl (iZ o)
 | _ => simp [Uc] at hu
end
structure G7 (h h' : A0) (T : Nat -> Prop) : Prop where
 next : h.next <= h'.next
 same : ∀ b o, h.get b = some o -> ¬ T (match o with | .cells k => k.Q1 | .map _ => b) -> h'.get b = some o
 Q1 : ∀ b k, h.get b = some (.cells k) -> ∃ k', h'.get b = some (.cells k') /\ k'.Q1 = k.Q1
 mp : ∀ b es, h.get b = some (.map es) -> ∃ Aw, h'.get b = some (.map Aw)
theorem G7.refl (h : A0) (T : Nat -> Prop) : G7 h h T := ⟨Nat.le_refl _, fun _ _ h _ => h, fun _ k h => ⟨k, h, rfl⟩, fun _ es h => ⟨es, h⟩⟩
theorem G7.O4 {h h' : A0} {T : Nat -> Prop} (hs : G7 h h' T) (c : Cx) : u0 c h c h' T :=
 ⟨Nat.le_refl _, fun _ _ => rfl, fun _ h => h, hs.next, hs.same, hs.Q1, hs.mp, fun _ h => .inl h, fun o f h => .inr ⟨o, h⟩, fun _ _ _ h => h⟩
theorem WF.push {h : A0} (hw : WF h.get h.next) (o : F2) (hf : ∀ k, o = .cells k -> k.Q1 = h.next) : WF (h.push o).get (h.push o).next := by
 refine ⟨?_, ?_, ?_, ?_, ?_⟩
 ·intro b o' hb
  exact A0.E7 hb
 ·intro b k hb
  rw [A0.V0] at hb
  rw [A0.JM]
  split at hb
  ·simp only [U0] at hb; have := hf k hb; omega
  ·have := hw.Q1 b k hb; omega
 ·intro b k hb hs b' k' H3 Y3
  rw [A0.V0] at hb H3
  split at hb
  ·rename_i e; subst e
   simp only [U0] at hb
   rw [if_neg Y3] at H3
   have := hw.Q1 b' k' H3
   have := hf k hb
   omega
  ·split at H3
   ·simp only [U0] at H3
    have := hw.Q1 b k hb
    have := hf k' H3
    omega
   ·exact hw.Q2 b k hb hs b' k' H3 Y3
 ·intro b k hb hs b' k' H3 CW
  rw [A0.V0] at hb H3
  split at hb
  ·rename_i e; subst e
   split at H3
   ·rename_i e'; subst e'
    rw [hb] at H3
    simp only [U0, F2.cells.injEq] at H3; subst H3; exact .inr (Nat.le_refl _)
   ·simp only [U0] at hb
    have := hw.Q1 b' k' H3
    have := hf k hb
    omega
  ·split at H3
   ·simp only [U0] at H3
    have := hw.Q1 b k hb
    have := hf k' H3
    omega
   ·exact hw.last b k hb hs b' k' H3 CW
 ·intro b k hb hs b' k' H3 CW Oa
  rw [A0.V0] at hb H3
  split at hb
  ·rename_i e; subst e
   split at H3
   ·assumption
   ·simp only [U0] at hb
    have := hw.Q1 b' k' H3
    have := hf k hb
    omega
  ·split at H3
   ·simp only [U0] at H3
    have := hw.Q1 b k hb
    have := hf k' H3
    omega
   ·exact hw.Gq b k hb hs b' k' H3 CW Oa
theorem G7.push (h : A0) (o : F2) (T : Nat -> Prop) : G7 h (h.push o) T := by
 have old : ∀ b ob, h.get b = some ob -> (h.push o).get b = some ob := fun b ob hb => by
  rw [A0.V0, if_neg (by have := A0.E7 hb; omega)]; exact hb
 exact ⟨Nat.le_succ _, fun b ob hb _ => old b ob hb, fun b k hb => ⟨k, old _ _ hb, rfl⟩, fun b es hb => ⟨es, old _ _ hb⟩⟩
theorem I8 {h : A0} (o : F2) {b : Nat} {ob : F2} (hb : h.get b = some ob) : (h.push o).get b = some ob := by
 rw [A0.V0, if_neg (by have := A0.E7 hb; omega)]; exact hb
theorem WF.back {h h' : A0} (hw : WF h.get h.next) (hn : h'.next = h.next)
  (hb : ∀ b k, h'.get b = some (.cells k) -> ∃ k0, h.get b = some (.cells k0) /\ k.Q1 = k0.Q1 /\ k.E5 = k0.E5 /\ (k.Q2 = true -> k0.Q2 = true) /\ k.es.length <= k0.es.length /\ (k.last = true -> k0.last = true /\ k.es.length = k0.es.length)) : WF h'.get h'.next := by
 refine ⟨fun b' o' H3 => A0.E7 H3, fun b' k' H3 => ?_, fun b' k' H3 Oa b2 k2 Er Y3 => ?_, fun b' k' H3 cR b2 k2 Er hf => ?_, fun b' k' H3 cR b2 k2 Er hf Iu => ?_⟩
 ·obtain ⟨k0, h0, e, _⟩ := hb b' k' H3
  rw [e, hn]; exact hw.Q1 b' k0 h0
 ·obtain ⟨k0, h0, e, _, es, _⟩ := hb b' k' H3
  obtain ⟨k1, h1, e1, _⟩ := hb b2 k2 Er
  rw [e, e1]
  exact hw.Q2 b' k0 h0 (es Oa) b2 k1 h1 Y3
 ·obtain ⟨k0, h0, e, eo, _, _, el⟩ := hb b' k' H3
  obtain ⟨k1, h1, e1, yI, _, yJ, _⟩ := hb b2 k2 Er
  obtain ⟨PN, cQ⟩ := el cR
  have := hw.last b' k0 h0 PN b2 k1 h1 (by rw [<- e, <- e1]; exact hf)
  omega
 ·obtain ⟨k0, h0, e, _, _, _, el⟩ := hb b' k' H3
  obtain ⟨k1, h1, e1, _, _, _, vL⟩ := hb b2 k2 Er
  exact hw.Gq b' k0 h0 (el cR).1 b2 k1 h1 (by rw [<- e, <- e1]; exact hf) (vL Iu).1
theorem HE {h : A0} (hw : WF h.get h.next) {b : Nat} {k : Es} (hg : h.get b = some (.cells k)) (lo : Nat) (Aw : List (List VV)) (hlen : Aw.length = k.es.length) :
  let h' := (match k.Q2 with | true => h | false => h.kill k.Q1 lo).put b (.cells { k with es := Aw })
  h'.get b = some (.cells { k with es := Aw }) /\ WF h'.get h'.next /\ G7 h h' (· = k.Q1) := by
 intro h'
 have R3 := A0.E7 hg
 have hn : h'.next = h.next := by show A0.next (A0.put _ _ _) = _; cases k.Q2 <;> rfl
 have gb : ∀ b', h'.get b' = if b' = b then some (.cells { k with es := Aw }) else match k.Q2 with | true => h.get b' | false => (h.get b').map (D5 k.Q1 lo) := by
  intro b'
  show A0.get (A0.put _ _ _) b' = _
  rw [A0.Cy _ _ _ (by cases k.Q2 <;> exact R3)]
  split
  ·rfl
  ·cases k.Q2 with
   | true => rfl
   | false => exact A0.Nc h k.Q1 lo b'
 have kill : ∀ k0 : Es, ∃ k1, D5 k.Q1 lo (.cells k0) = .cells k1 /\ k1.Q1 = k0.Q1 /\ k1.E5 = k0.E5 /\ k1.Q2 = k0.Q2 /\ k1.es.length <= k0.es.length /\ (k1.last = true -> k0.last = true /\ k1.es.length = k0.es.length) /\ (k0.Q1 ≠ k.Q1 -> k1 = k0) := by
  intro k0
  simp only [D5]
  split
  ·rename_i hf
   split
   ·exact ⟨_, rfl, rfl, rfl, rfl, Nat.zero_le _, (fun h => by cases h), fun hn => absurd hf hn⟩
   ·exact ⟨_, rfl, rfl, rfl, rfl, Nat.le_refl _, (fun h => by cases h), fun hn => absurd hf hn⟩
  ·exact ⟨k0, rfl, rfl, rfl, rfl, Nat.le_refl _, fun h => ⟨h, rfl⟩, fun _ => rfl⟩
 have fwd : ∀ b' o, h.get b' = some o -> b' ≠ b -> ∃ o', h'.get b' = some o' /\ (match o, o' with | .cells k0, .cells k1 => k1.Q1 = k0.Q1 /\ (k0.Q1 ≠ k.Q1 -> k1 = k0) | .map e, .map e' => e = e' | _, _ => False) := by
  intro b' o hb Y3
  rw [gb, if_neg Y3]
  cases k.Q2 with
  | true => exact ⟨o, hb, by cases o <;> simp⟩
  | false =>
   simp only [hb, Option.map_some]
   cases o with
   | map e => exact ⟨_, rfl, rfl⟩
   | cells k0 =>
    obtain ⟨k1, e, h1, _, _, _, _, h2⟩ := kill k0
    exact ⟨_, rfl, by rw [e]; exact ⟨h1, h2⟩⟩
 refine ⟨by rw [gb, if_pos rfl], hw.back hn fun b' k' H3 => ?_, by rw [hn]; exact Nat.le_refl _, fun b' o H3 TE => ?_, fun b' k0 H3 => ?_, fun b' es H3 => ?_⟩
 ·rw [gb] at H3
  split at H3
  ·rename_i e; subst e
   simp only [U0, F2.cells.injEq] at H3; subst H3
   exact ⟨k, hg, rfl, rfl, id, by simp [hlen], fun hl => ⟨hl, hlen⟩⟩
  ·cases CU : k.Q2 with
   | true => rw [CU] at H3; exact ⟨k', H3, rfl, rfl, id, Nat.le_refl _, fun hl => ⟨hl, rfl⟩⟩
   | false =>
    rw [CU] at H3
    simp only [Option.map_eq_some_iff] at H3
    obtain ⟨o, ho, he⟩ := H3
    cases o with
    | map es => simp [D5] at he
    | cells k0 =>
     obtain ⟨k1, e, h1, h2, h3, h4, h5, _⟩ := kill k0
     rw [e] at he; simp only [F2.cells.injEq] at he; subst he
     exact ⟨k0, ho, h1, h2, fun hs => h3 ▸ hs, h4, h5⟩
 ·by_cases Cw : b' = b
  ·subst Cw; rw [hg] at H3; cases H3; exact absurd rfl TE
  ·obtain ⟨o', h1, h2⟩ := fwd b' o H3 Cw
   rw [h1]
   cases o with
   | cells k0 => cases o' with
    | cells k1 => rw [h2.2 TE]
    | map _ => exact h2.elim
   | map es => cases o' with
    | cells k1 => exact h2.elim
    | map Aw => simp only at h2; rw [h2]
 ·by_cases Cw : b' = b
  ·subst Cw; rw [hg] at H3; cases H3; exact ⟨{ k with es := Aw }, by rw [gb, if_pos rfl], rfl⟩
  ·obtain ⟨o', h1, h2⟩ := fwd b' _ H3 Cw
   cases o' with
   | cells k1 => exact ⟨k1, h1, h2.1⟩
   | map _ => exact h2.elim
 ·by_cases Cw : b' = b
  ·subst Cw; rw [hg] at H3; cases H3
  ·obtain ⟨o', h1, h2⟩ := fwd b' _ H3 Cw
   cases o' with
   | cells k1 => exact h2.elim
   | map Aw => exact ⟨Aw, h1⟩
theorem opened {h : A0} (hw : WF h.get h.next) {b i n z : Nat} {k : Es} (hg : h.get b = some (.cells k)) (U8 : i + n <= k.es.length) (xs : List (List VV)) (h1 : A0)
  (Oh : h1 = match k.last && Nat.beq (i + n) k.es.length with
   | true => h.put b (.cells { k with Q2 := false, last := false })
   | false => (h.put b (.cells { k with Q2 := false, last := false })).kill k.Q1 (k.E5 + (i + n))) :
  let h' := h1.push (.cells { es := (k.es.drop i).take n ++ xs, L3 := z, Q1 := k.Q1, E5 := k.E5 + i, Q2 := false, last := true, ro := false })
  h1.next = h.next /\ WF h'.get h'.next /\ G7 h h' (· = k.Q1) := by
 intro h'
 have R3 := A0.E7 hg
 have T6 : h1.next = h.next := by rw [Oh]; cases (k.last && Nat.beq (i + n) k.es.length) <;> rfl
 obtain ⟨g1, back, _⟩ := JG hw hg h1 Oh
 have uV : ∀ (b2 : Nat) (k0 : Es) (Er : h.get b2 = some (.cells k0)), ∃ k2, h1.get b2 = some (.cells k2) /\ k2.Q1 = k0.Q1 := by
  intro b2 k0 Er
  have key : ∀ (q : Bool) (ka : Es), ∃ k2, (some (F2.cells ka)).map (fun o => if q then o else D5 k.Q1 (k.E5 + (i + n)) o) = some (.cells k2) /\ k2.Q1 = ka.Q1 := by
   intro q ka
   cases q with
   | true => exact ⟨ka, rfl, rfl⟩
   | false =>
    simp only [Option.map_some, D5, Bool.false_eq_true, if_false]
    split
    ·split
     ·exact ⟨_, rfl, rfl⟩
     ·exact ⟨_, rfl, rfl⟩
    ·exact ⟨_, rfl, rfl⟩
  rw [g1]
  split
  ·rename_i e; subst e; rw [hg] at Er; cases Er; exact key _ _
  ·rw [Er]; exact key _ _
 refine ⟨T6, ?_, ?_, ?_, ?_, ?_⟩
 ·show WF (A0.push _ _).get (A0.push _ _).next
  rw [A0.JM, T6]
  refine ⟨fun b2 o2 h2 => ?_, fun b2 k2 h2 => ?_, fun b2 k2 h2 hs b3 k3 h3 Y3 => ?_, fun b2 k2 h2 hl b3 k3 h3 hf => ?_, fun b2 k2 h2 hl b3 k3 h3 hf qz => ?_⟩
  ·have := A0.E7 h2
   simpa [T6] using this
  ·rw [A0.V0, T6] at h2
   split at h2
   ·simp only [U0, F2.cells.injEq] at h2; subst h2
    have := hw.Q1 b k hg
    simp only; omega
   ·obtain ⟨k0, e0, e1, _⟩ := back b2 k2 h2
    have := hw.Q1 b2 k0 e0
    omega
  ·rw [A0.V0, T6] at h2 h3
   split at h2
   ·simp only [U0, F2.cells.injEq] at h2; subst h2; cases hs
   ·obtain ⟨k0, e0, e1, _, _, e4, _⟩ := back b2 k2 h2
    obtain ⟨OZ, qu⟩ := e4 hs
    split at h3
    ·simp only [U0, F2.cells.injEq] at h3; subst h3
     simp only [e1]
     exact hw.Q2 b2 k0 e0 OZ b k hg (Ne.symm qu)
    ·obtain ⟨k1, f0, f1, _⟩ := back b3 k3 h3
     rw [e1, f1]
     exact hw.Q2 b2 k0 e0 OZ b3 k1 f0 Y3
  ·rw [A0.V0, T6] at h2 h3
   split at h2
   ·simp only [U0, F2.cells.injEq] at h2; subst h2
    split at h3
    ·simp only [U0, F2.cells.injEq] at h3; subst h3
     exact .inr (Nat.le_refl _)
    ·obtain ⟨k1, _, _, _, _, _, _, _, f7⟩ := back b3 k3 h3
     rcases f7 hf with h5 | h5
     ·exact .inl h5
     ·refine .inr ?_
      simp only [List.length_append, List.length_take, List.length_drop]
      omega
   ·obtain ⟨k0, e0, e1, e2, _, _, _, e6, _⟩ := back b2 k2 h2
    obtain ⟨PN, P8, TE⟩ := e6 hl
    split at h3
    ·simp only [U0, F2.cells.injEq] at h3; subst h3
     exact absurd hf.symm TE
    ·obtain ⟨k1, f0, f1, f2, _, _, f5, _⟩ := back b3 k3 h3
     rcases hw.last b2 k0 e0 PN b3 k1 f0 (by rw [<- e1, <- f1]; exact hf) with h5 | h5
     ·rcases f5 with f5 | f5
      ·exact .inl f5
      ·exact .inl (by rw [f5]; exact h5)
     ·rcases f5 with f5 | f5
      ·exact .inl f5
      ·exact .inr (by rw [f5, P8, e2, f2]; exact h5)
  ·rw [A0.V0, T6] at h2 h3
   split at h2
   ·rename_i e2
    split at h3
    ·rename_i e3; exact e3.trans e2.symm
    ·simp only [U0, F2.cells.injEq] at h2; subst h2
     obtain ⟨k1, _, _, _, _, _, _, f6, _⟩ := back b3 k3 h3
     exact absurd hf (f6 qz).2.2
   ·obtain ⟨k0, e0, e1, _, _, _, _, e6, _⟩ := back b2 k2 h2
    split at h3
    ·simp only [U0, F2.cells.injEq] at h3; subst h3
     exact absurd hf.symm (e6 hl).2.2
    ·obtain ⟨k1, f0, f1, _, _, _, _, f6, _⟩ := back b3 k3 h3
     exact hw.Gq b2 k0 e0 (e6 hl).1 b3 k1 f0 (by rw [<- e1, <- f1]; exact hf) (f6 qz).1
 ·show h.next <= A0.next (A0.push _ _); rw [A0.JM, T6]; exact Nat.le_succ _
 ·intro b2 o Er TE
  refine I8 _ ?_
  rw [g1]
  by_cases Cw : b2 = b
  ·subst Cw; rw [hg] at Er; cases Er; exact absurd rfl TE
  ·rw [if_neg Cw, Er]
   simp only [Option.map_some]
   split
   ·rfl
   ·cases o with
    | map es => rfl
    | cells k0 => simp only [D5]; rw [if_neg TE]
 ·intro b2 k0 Er
  obtain ⟨k2, e1, e2⟩ := uV b2 k0 Er
  exact ⟨k2, I8 _ e1, e2⟩
 ·intro b2 es Er
  refine ⟨es, I8 _ ?_⟩
  rw [g1, if_neg (fun e => by subst e; rw [hg] at Er; cases Er), Er]
  simp only [Option.map_some]
  split <;> rfl
section
variable {P : Program} {R : Type} {c : Cx} {h : A0} {s : O0}
def j6 (T : Nat -> Prop) (c : Cx) (h : A0) (K : UV -> O0 -> Option R) (r : R) (op : Option (VV × A0)) : Prop :=
 ∃ v h' u s1 c1, op = some (v, h') /\ T3 c1 h' s1 /\ RV c1 h'.get u v /\ u0 c h c1 h' T /\ K u s1 = some r
theorem j6.pure {T : Nat -> Prop} (hs : T3 c h s) {K : UV -> O0 -> Option R} {r : R} {u : UV} {v : VV} (hr : RV c h.get u v) (hk : K u s = some r) : j6 T c h K r (some (v, h)) :=
 ⟨v, h, u, s, c, rfl, hs, hr, u0.refl _ _ _, hk⟩
theorem Gm (s : O0) (u : UV) (p : Nat) : rowOf ((W4 s u).get p) = rowOf (s.get p) := by
 unfold W4
 split
 ·rename_i o
  split
  ·rename_i B0 es hg
   rw [O0.C4]
   split
   ·rename_i hp; rw [hp.1, hg]; rfl
   ·rfl
  ·rfl
 ·rfl
theorem Rx {s s' : O0} (h : ∀ p, rowOf (s'.get p) = rowOf (s.get p)) (ft : FT) (u : UV) : DS s' ft u = DS s ft u := by
 unfold DS
 split <;> first | rfl | (rw [h])
theorem Xr {s s' : O0} (h : ∀ p, rowOf (s'.get p) = rowOf (s.get p)) (B0 : List FT) (us : List UV) : D8 s' B0 us = D8 s B0 us := by
 induction B0 generalizing us with
 | nil => cases us <;> rfl
 | cons ft B0 ih => cases us with
  | nil => rfl
  | cons u us => simp only [D8, ih, Rx h]
theorem W9 (hs : T3 c h s) (u : UV) : ∃ c', T3 c' h (W4 s u) /\ u0 c h c' h (fun _ => False) /\ c'.n = c.n /\ c'.ρ = c.ρ /\ (∀ p f, c'.φ p f -> c.φ p f) /\ (∀ v, RV c h.get u v -> ∀ ft d, DS s ft u = some d -> RD h.get c'.K ft d v) := by
 have none : (∀ o, u ≠ .own o) -> ∀ v, RV c h.get u v -> ∀ ft d, DS s ft u = some d -> RD h.get c.K ft d v := fun hn v hr ft d hd => IA hn hr hd
 have old : ∀ (c' : Cx) (s' : O0) (o : Nat) (B0 : List FT) (es : List (List D)), T3 c' h s' -> s'.get o = .old B0 es -> c'.ρ = c.ρ -> rowOf (s.get o) = some (B0, es) -> u = .own o ->
   ∀ v, RV c h.get u v -> ∀ ft d, DS s ft u = some d -> RD h.get c'.K ft d v := by
  intro c' s' o B0 es Oa hg hρ F4 hu v hr ft d hd
  subst hu
  cases hr with
  | own o v ho hb hv =>
   cases ft <;> simp only [DS] at hd <;> (try (cases hd; done))
   rw [F4] at hd
   simp only at hd
   split at hd
   ·rename_i hk; simp only [U0] at hd; subst hd
    have := FT.J0 _ _ hk; subst this
    have B2 := Oa.obj o
    rw [hg, hρ, hb] at B2
    generalize c'.φ o = fm at B2
    cases B2 with
    | old B0 es v h => exact h.bytes _
   ·cases hd
 cases hu : u with
 | own o =>
  cases hg : s.get o with
  | row B0 es =>
   obtain ⟨c', h1, h2, h3, h4, h5⟩ := hs.jL hg
   have e : W4 s (.own o) = s.T8 o (.old B0 es) := by simp only [W4, hg]
   refine ⟨c', by rw [e]; exact h1, h2, h3, h4, h5, ?_⟩
   have := old c' _ o B0 es h1 (by rw [O0.C4, if_pos ⟨rfl, O0.CR (by rw [hg]; simp)⟩]) h4 (by rw [hg]; rfl) hu
   rwa [hu] at this
  | old B0 es =>
   have e : W4 s (.own o) = s := by simp only [W4, hg]
   refine ⟨c, by rw [e]; exact hs, u0.refl _ _ _, rfl, rfl, fun _ _ h => h, ?_⟩
   have := old c s o B0 es hs hg rfl (by rw [hg]; rfl) hu
   rwa [hu] at this
  | _ =>
   have e : W4 s (.own o) = s := by simp only [W4, hg]
   refine ⟨c, by rw [e]; exact hs, u0.refl _ _ _, rfl, rfl, fun _ _ h => h, fun v hr ft d hd => ?_⟩
   cases ft <;> simp [DS, hg, rowOf] at hd
 | _ =>
  have := none (by rw [hu]; intro o e; cases e)
  rw [hu] at this
  exact ⟨c, hs, u0.refl _ _ _, rfl, rfl, fun _ _ h => h, this⟩
theorem Ca (hs : T3 c h s) (us : List UV) : ∃ c', T3 c' h (freeze s us) /\ u0 c h c' h (fun _ => False) /\ c'.n = c.n /\ c'.ρ = c.ρ /\ (∀ p f, c'.φ p f -> c.φ p f) /\ (∀ vs, E4 c h.get us vs -> ∀ B0 ds, D8 s B0 us = some ds -> Cl h.get c'.K B0 ds vs) := by
 induction us generalizing c s with
 | nil =>
  refine ⟨c, hs, u0.refl _ _ _, rfl, rfl, fun _ _ h => h, fun vs hr B0 ds hd => ?_⟩
  have := hr.1
  cases vs with
  | cons v vs => simp at this
  | nil => cases B0 with
   | nil => simp only [D8, U0] at hd; subst hd; exact Cl.nil _ _
   | cons ft B0 => simp [D8] at hd
 | cons u us ih =>
  obtain ⟨c1, s1, l1, n1, r1, p1, d1⟩ := W9 hs u
  obtain ⟨c2, s2, l2, n2, r2, p2, d2⟩ := ih s1
  have l12 : u0 c h c2 h (fun _ => False) := l1.trans l2 hs.wf (fun _ h => h.elim)
  refine ⟨c2, s2, l12, n2.trans n1, r2.trans r1, fun p f h => p1 p f (p2 p f h), fun vs hr B0 ds hd => ?_⟩
  have := hr.1
  cases vs with
  | nil => simp at this
  | cons v vs => cases B0 with
   | nil => simp [D8] at hd
   | cons ft B0 =>
    simp only [D8] at hd
    split at hd
    ·rename_i d pB h1 h2
     simp only [U0] at hd; subst hd
     refine Cl.cons ((d1 v hr.head ft d h1).keep (l2.keeps (fun _ _ h => h))) (d2 vs (hr.tail.O4 l1 (fun _ _ h => h)) B0 pB ?_)
     rw [Xr (fun p => Gm s u p)]; exact h2
    ·cases hd
theorem Qi {T : Nat -> Prop} (hs : T3 c h s) {B0 : List FT} (h0 : 0 < B0.length) {es : List (List D)} {xs : List (List VV)} {n z : Nat} {cp : Option Nat} (hz : z = B0.length) (hn : n = es.length) (AV : ∀ q, cp = some q -> n <= q /\ q <= xs.length)
  (v8 : Fv h.get c.K B0 es xs 0) : ∃ c', T3 c' (fresh h xs z) (s.push (.row B0 es)) /\ RV c' (fresh h xs z).get (.own s.len) (.slice h.next 0 n cp z) /\ u0 c h c' (fresh h xs z) T := by
 have hL : ∀ T : Nat -> Prop, u0 c h (c.add (.slice h.next 0 n cp z) (one h.next)) (fresh h xs z) T := fun T => hs.s9 _ _ (by simp) (fun b o hb => I8 _ hb) (fun f hf => by cases hf; exact Nat.le_refl _) T
 have hg : (fresh h xs z).get h.next = some (.cells { es := xs, L3 := z, Q1 := h.next, E5 := 0, Q2 := true, last := true, ro := false }) := by
  unfold fresh; rw [A0.V0, if_pos rfl]
 have hρ : (c.add (.slice h.next 0 n cp z) (one h.next)).ρ c.n = .slice h.next 0 n cp z := by show (if c.n = c.n then _ else _) = _; rw [if_pos rfl]
 refine ⟨c.add (.slice h.next 0 n cp z) (one h.next), hs.add ?_ (by simp) (fun b o hb => I8 _ hb) (fun f hf => by cases hf; exact ⟨Nat.le_refl _, by simp⟩) ?_, ?_, hL _⟩
 ·exact hs.wf.push _ (fun k hk => by cases hk; rfl)
 ·exact .row B0 es h.next 0 n cp z _ hg rfl hz hz h0 hn (fun q hq => ⟨(AV q hq).1, by simpa using (AV q hq).2⟩) (v8.keep ((hL (fun _ => False)).keeps (fun _ _ h => h)))
 ·exact .own _ _ (by rw [hs.len]; exact Nat.lt_succ_self _) (by rw [hs.len]; exact hρ) (.inr ⟨_, _, _, _, _, rfl⟩)
theorem Wi {T : Nat -> Prop} (hs : T3 c h s) {us : List UV} {vs : List VV} (hr : E4 c h.get us vs) (h1 : us.all En = true) : ∃ c', T3 c' (fresh h [vs] vs.length) (s.push (.obj us)) /\ RV c' (fresh h [vs] vs.length).get (.ptr s.len 0) (.ptr h.next 0 0) /\ u0 c h c' (fresh h [vs] vs.length) T := by
 have hL : ∀ T : Nat -> Prop, u0 c h (c.add (.ptr h.next 0 0) (one h.next)) (fresh h [vs] vs.length) T := fun T => hs.s9 _ _ (by simp) (fun b o hb => I8 _ hb) (fun f hf => by cases hf; exact Nat.le_refl _) T
 have hg : (fresh h [vs] vs.length).get h.next = some (.cells { es := [vs], L3 := vs.length, Q1 := h.next, E5 := 0, Q2 := true, last := true, ro := false }) := by
  unfold fresh; rw [A0.V0, if_pos rfl]
 have hρ : (c.add (.ptr h.next 0 0) (one h.next)).ρ c.n = .ptr h.next 0 0 := by show (if c.n = c.n then _ else _) = _; rw [if_pos rfl]
 refine ⟨c.add (.ptr h.next 0 0) (one h.next), hs.add ?_ (by simp) (fun b o hb => I8 _ hb) (fun f hf => by cases hf; exact ⟨Nat.le_refl _, by simp⟩) ?_, ?_, hL _⟩
 ·exact hs.wf.push _ (fun k hk => by cases hk; rfl)
 ·exact .obj us h.next _ vs hg rfl hr.1.symm rfl rfl (hr.one h1) (hr.O4 (hL (fun _ => False)) (fun _ _ h => h))
 ·exact .ptr _ _ _ (by rw [hs.len]; exact Nat.lt_succ_self _) (by rw [hs.len]; exact hρ)
theorem E4.su {g : VG} {us ws : List UV} {vs xs : List VV} (hr : E4 c g us vs) (hw : E4 c g ws xs) (f : Nat) : E4 c g (us.take f ++ ws ++ us.drop (f + ws.length)) (vs.take f ++ xs ++ vs.drop (f + xs.length)) := by
 rw [<- hw.1]
 exact ((hr.take f).append hw).append (hr.drop _)
theorem JS {o : Nat} {us : List UV} (h : holds o us = false) : ∀ u ∈ us, u ≠ .own o := by
 induction us with
 | nil => intro u hu; cases hu
 | cons x us ih =>
  have h2 : holds o us = false := by
   cases x <;> simp [holds] at h <;> first | exact h | exact h.2
  intro u hu
  rcases List.mem_cons.1 hu with rfl | hu
  ·rintro rfl; simp [holds] at h
  ·exact ih h2 u hu
theorem Kg {o : Nat} {u : UV} (hu : u ≠ .own o) : (W4 s u).get o = s.get o := by
 unfold W4
 split
 ·rename_i p
  split
  ·rw [O0.C4, if_neg]
   rintro ⟨rfl, _⟩
   exact hu rfl
  ·rfl
 ·rfl
theorem HY {o : Nat} {us : List UV} (hu : ∀ u ∈ us, u ≠ .own o) : (freeze s us).get o = s.get o := by
 induction us generalizing s with
 | nil => rfl
 | cons u us ih =>
  simp only [freeze]
  rw [ih (fun x hx => hu x (by simp [hx])), Kg (hu u (by simp))]
theorem HC (B0 : List FT) (rows : List (List D)) : ∀ (k i : Nat), (Ez B0 rows i k).length = k * B0.length /\ ∀ q r, q < k -> r < B0.length -> (Ez B0 rows i k)[q * B0.length + r]? = (B0[r]?).map fun ft => ja ft (cell r (elem (i + q) rows))
 | 0, i => ⟨by simp [Ez], fun q r hq => absurd hq (Nat.not_lt_zero _)⟩
 | k + 1, i => by
  obtain ⟨h1, h2⟩ := HC B0 rows k (i + 1)
  refine ⟨by simp only [Ez, List.length_append, Db, h1, Nat.add_mul, Nat.one_mul]; omega, fun q r hq hr => ?_⟩
  simp only [Ez]
  cases q with
  | zero =>
   rw [Nat.zero_mul, Nat.zero_add, List.getElem?_append_left (by rw [Db]; exact hr), Sj, Nat.zero_add]; rfl
  | succ q =>
   rw [List.getElem?_append_right (by rw [Db, Nat.add_mul, Nat.one_mul]; omega), Db, show (q + 1) * B0.length + r - B0.length = q * B0.length + r by rw [Nat.add_mul, Nat.one_mul]; omega, h2 q r (by omega) hr, show i + 1 + q = i + (q + 1) by omega]
theorem ZL {g : VG} {B0 : List FT} {rows : List (List D)} {ds : List D} {us : List UV} {xs w : List VV} {g0 n j f : Nat} (hold : E4 c g us xs) (jj : rows.length = n)
  (TA : ∀ q, q < n -> Cl g c.K B0 (elem q rows) ((xs.drop (g0 + q * B0.length)).take B0.length)) (hd : Cl g c.K ((B0.drop f).take w.length) ds w) (hf : f + w.length <= B0.length) (hj : j < n) (hg : g0 + n * B0.length <= us.length) :
  E4 c g (us.take g0 ++ Ez B0 (putAt rows j f ds) 0 n ++ us.drop (g0 + n * B0.length)) (xs.take (g0 + j * B0.length + f) ++ w ++ xs.drop (g0 + j * B0.length + f + w.length)) := by
 have hl := hold.1
 obtain ⟨u1, u2⟩ := HC B0 (putAt rows j f ds) n 0
 have jy : (j + 1) * B0.length <= n * B0.length := Nat.mul_le_mul_right _ hj
 rw [Nat.add_mul, Nat.one_mul] at jy
 have kD : ds.length = w.length := by rw [hd.len, <- hd.Ar]
 have lx : ∀ p, (xs.take (g0 + j * B0.length + f) ++ w ++ xs.drop (g0 + j * B0.length + f + w.length))[p]? = if p < g0 + j * B0.length + f then xs[p]? else if p < g0 + j * B0.length + f + w.length then w[p - (g0 + j * B0.length + f)]? else xs[p]? := by
  intro p
  by_cases p1 : p < g0 + j * B0.length + f
  ·rw [if_pos p1, List.append_assoc, List.getElem?_append_left (by simp; omega), List.getElem?_take, if_pos p1]
  ·rw [if_neg p1]
   by_cases p2 : p < g0 + j * B0.length + f + w.length
   ·rw [if_pos p2, List.append_assoc, List.getElem?_append_right (by simp; omega), List.getElem?_append_left (by simp; omega), List.length_take, Nat.min_eq_left (by omega)]
   ·rw [if_neg p2, List.getElem?_append_right (by simp; omega), List.getElem?_drop]
    congr 1
    simp; omega
 refine ⟨by simp [u1]; omega, fun p u v hu hv => ?_⟩
 rw [lx] at hv
 by_cases p1 : p < g0
 ·rw [if_pos (by omega)] at hv
  rw [List.append_assoc, List.getElem?_append_left (by simp; omega), List.getElem?_take, if_pos p1] at hu
  exact hold.2 p u v hu hv
 ·by_cases p2 : p < g0 + n * B0.length
  ·rw [List.append_assoc, List.getElem?_append_right (by simp; omega), List.getElem?_append_left (by simp [u1]; omega), List.length_take, Nat.min_eq_left (by omega)] at hu
   have hm : 0 < B0.length := by
    rcases Nat.eq_zero_or_pos B0.length with h0 | h0
    ·rw [h0] at p2; omega
    ·exact h0
   have e1 := Nat.div_add_mod' (p - g0) B0.length
   have e2 := Nat.mod_lt (p - g0) hm
   generalize (p - g0) / B0.length = q at e1
   generalize (p - g0) % B0.length = r at e1 e2
   have hq : q < n := by
    apply Nat.lt_of_not_le
    intro hc
    have := Nat.mul_le_mul_right B0.length hc
    omega
   rw [<- e1, u2 q r hq e2, Nat.zero_add] at hu
   have Vc := List.getElem?_eq_getElem e2
   rw [Vc] at hu
   simp only [Option.map_some, U0] at hu
   subst hu
   have vu := TA q hq
   have VY : ∀ x, elem q (putAt rows j f ds) = x -> (q ≠ j -> x = elem q rows) /\ (q = j -> x = (elem j rows).take f ++ ds ++ (elem j rows).drop (f + ds.length)) := by
    rintro x rfl
    unfold putAt elem
    simp only [List.getD_eq_getElem?_getD, List.getElem?_set]
    refine ⟨fun h => by rw [if_neg (fun e => h e.symm)], fun h => ?_⟩
    rw [if_pos h.symm, if_pos (by omega)]; rfl
   have hlen := vu.len
   
   have old : ∀ d, (elem q rows)[r]? = some d -> xs[p]? = some v -> RV c g (ja B0[r] d) v := by
    intro d h1 h2
    refine IT (vu.at_ r _ d v Vc h1 ?_)
    rw [List.getElem?_take, if_pos e2, List.getElem?_drop, show g0 + q * B0.length + r = p by omega]
    exact h2
   have RN : ∀ (l : List D) d, l[r]? = some d -> cell r l = d := by
    intro l d h; unfold cell; rw [List.getD_eq_getElem?_getD, h]; rfl
   obtain ⟨d0, oo⟩ : ∃ d, (elem q rows)[r]? = some d := ⟨_, List.getElem?_eq_getElem (by omega)⟩
   obtain ⟨k1, k2⟩ := VY _ rfl
   by_cases tm : q = j
   ·subst tm
    rw [k2 rfl]
    by_cases r1 : r < f
    ·rw [if_pos (by omega)] at hv
     rw [RN _ d0 (by rw [List.append_assoc, List.getElem?_append_left (by simp; omega), List.getElem?_take, if_pos r1]; exact oo)]
     exact old d0 oo hv
    ·by_cases r2 : r < f + w.length
     ·rw [if_neg (by omega), if_pos (by omega), show p - (g0 + q * B0.length + f) = r - f by omega] at hv
      obtain ⟨d1, sd⟩ : ∃ d, ds[r - f]? = some d := ⟨_, List.getElem?_eq_getElem (by omega)⟩
      rw [RN _ d1 (by rw [List.append_assoc, List.getElem?_append_right (by simp; omega), List.getElem?_append_left (by simp; omega), List.length_take, Nat.min_eq_left (by omega)]; exact sd)]
      refine IT (hd.at_ (r - f) _ d1 v ?_ sd hv)
      rw [List.getElem?_take, if_pos (by omega), List.getElem?_drop, show f + (r - f) = r by omega]
      exact Vc
     ·rw [if_neg (by omega), if_neg (by omega)] at hv
      rw [RN _ d0 (by rw [List.getElem?_append_right (by simp; omega), List.getElem?_drop]; refine Eq.trans ?_ oo; congr 1; simp; omega)]
      exact old d0 oo hv
   ·rw [k1 tm, RN _ d0 oo]
    refine old d0 oo ?_
    rcases Nat.lt_or_gt_of_ne tm with R3 | uS
    ·have := Nat.mul_le_mul_right B0.length (show q + 1 <= j from R3)
     rw [Nat.add_mul, Nat.one_mul] at this
     rw [if_pos (by omega)] at hv; exact hv
    ·have := Nat.mul_le_mul_right B0.length (show j + 1 <= q from uS)
     rw [Nat.add_mul, Nat.one_mul] at this
     rw [if_neg (by omega), if_neg (by omega)] at hv; exact hv
  ·rw [if_neg (by omega), if_neg (by omega)] at hv
   rw [List.getElem?_append_right (by simp [u1]; omega), List.getElem?_drop] at hu
   refine hold.2 p u v (Eq.trans ?_ hu) hv
   congr 1
   simp [u1]; omega
theorem UZ {T : Nat -> Prop} (hs : T3 c h s) {t : TypeId} {a u : UV} {a' v : VV} {s' : O0} (J6 : Pw P t s a u = some s') (ha : RV c h.get a a') (hu : RV c h.get u v) (ZY : u ≠ .undef)
  (hT : ∀ o f, ((∃ g, a = .ptr o g) \/ (∃ i g, a = .u7 o i g) \/ ∃ B0 g n j q, a = .m7 B0 o g n j q) -> c.φ o f -> T f) : ∃ h' c', CE P t h a' v = some h' /\ T3 c' h' s' /\ u0 c h c' h' T := by
 have D2 := hu.cells ZY
 unfold Pw at J6
 simp only at J6
 split at J6
 ·cases J6
 ·rename_i Z6
  simp only [Bool.and_eq_true, Bool.not_eq_true'] at Z6
  obtain ⟨⟨Qz, Kb⟩, xn⟩ := Z6
  have Qz := B6 Qz
  have Kb : P.cellsOf t ≠ 0 := fun e => by rw [e] at Kb; cases Kb
  have C7 := D2.one xn
  have cP : (C1 v).length = P.cellsOf t := D2.1.symm.trans Qz
  cases ha with
  | ptr o f b ho hb =>
   simp only at J6
   split at J6
   ·rename_i old hold
    split at J6
    ·rename_i hle
     have hle := Nat.le_of_ble_eq_true hle
     simp only [U0] at J6; subst J6
     have B2 := hs.obj o
     rw [hold, hb] at B2
     generalize w8 : c.φ o = fm at B2
     cases B2 with
     | obj cs b k xs hg P8 hz B2 CU hx bu =>
      have Yk : old.length = xs.length := bu.1
      have KV : wr h b 0 f (C1 v) = some ((match k.Q2 with | true => h | false => h.kill k.Q1 (k.E5 + 0)).put b (.cells { k with es := [xs.take f ++ C1 v ++ xs.drop (f + (C1 v).length)] })) := by
       simp only [wr, hg, P8, B2, List.getElem?_cons_zero, List.set_cons_zero]
       rw [if_pos (by rw [<- Yk, <- D2.1]; exact hle)]
       cases k.Q2 <;> rfl
      obtain ⟨t1, t2, t3⟩ := HE hs.wf hg (k.E5 + 0) [xs.take f ++ C1 v ++ xs.drop (f + (C1 v).length)] (by rw [P8]; rfl)
      refine ⟨_, c, by simp only [CE]; rw [if_pos ⟨cP, C7, Kb⟩]; exact KV, ?_, (t3.O4 c).mono (fun x e => e ▸ hT o _ (.inl ⟨_, rfl⟩) (L5 w8))⟩
      have hL := t3.O4 c
      refine hs.BK w8 t2 hL ?_
      rw [hb]
      have TB := bu.su D2 f
      refine .obj _ b { k with es := [xs.take f ++ C1 v ++ xs.drop (f + (C1 v).length)] } _ t1 rfl (by rw [hz]; simp; omega) B2 CU ?_ (TB.O4 hL (fun f' hK e => hs.EJ o _ (L5 w8) (e ▸ hK)))
      simp only [List.all_append, Bool.and_eq_true]
      exact ⟨⟨List.all_eq_true.2 fun x hm => List.all_eq_true.1 hx x (List.mem_of_mem_take hm), C7⟩, List.all_eq_true.2 fun x hm => List.all_eq_true.1 hx x (List.mem_of_mem_drop hm)⟩
    ·cases J6
   ·cases J6
  | u7 o i f b i0 n cp z ho hb hi =>
   simp only at J6
   split at J6
   ·rename_i B0 es F4
    split at J6
    ·rename_i ds hle cX
     have hle := Nat.le_of_ble_eq_true hle
     split at J6
     ·rename_i cL
      simp only [U0] at J6; subst J6
      obtain ⟨c1, s1, l1, n1, r1, p1, d1⟩ := Ca hs (I3 u)
      have hd := d1 _ D2 _ _ cX
      have O8 : (freeze s (I3 u)).get o = .row B0 es := by rw [HY (JS cL)]; exact F4
      have B2 := s1.obj o
      rw [O8, r1, hb] at B2
      generalize w8 : c1.φ o = fm at B2
      cases B2 with
      | B7 => omega
      | row B0 es b i0 n cp z k hg B2 hz w6 h0 hn AV v8 =>
       obtain ⟨cs, e1, e2⟩ := v8.elem (i := i) (by omega)
       have fo : cs.length = B0.length := e2.Ar
       have KV : wr h b (i0 + i) f (C1 v) = some ((match k.Q2 with | true => h | false => h.kill k.Q1 (k.E5 + (i0 + i))).put b (.cells { k with es := k.es.set (i0 + i) (cs.take f ++ C1 v ++ cs.drop (f + (C1 v).length)) })) := by
        simp only [wr, hg, e1, B2]
        rw [if_pos (by rw [fo, <- D2.1]; exact hle)]
        cases k.Q2 <;> rfl
       obtain ⟨t1, t2, t3⟩ := HE hs.wf hg (k.E5 + (i0 + i)) (k.es.set (i0 + i) (cs.take f ++ C1 v ++ cs.drop (f + (C1 v).length))) (by simp)
       have hL := t3.O4 c1
       have Ff := hL.keeps (fun f' hK e => s1.EJ o _ (L5 w8) (e ▸ hK))
       refine ⟨_, c1, by simp only [CE]; rw [if_pos ⟨cP, C7, Kb⟩]; exact KV, ?_, ?_⟩
       ·refine s1.BK w8 t2 hL ?_
        rw [r1, hb]
        refine .row B0 _ b i0 n cp z { k with es := k.es.set (i0 + i) (cs.take f ++ C1 v ++ cs.drop (f + (C1 v).length)) } t1 B2 hz w6 h0 (by simp [putAt, hn]) (fun q hq => ⟨(AV q hq).1, by simp; exact (AV q hq).2⟩) ⟨by simp [putAt]; exact v8.len, fun j r Rn h1 h2 => ?_⟩
        simp only [putAt] at h1
        rw [List.getElem?_set] at h1 h2
        by_cases PQ : i = j
        ·subst PQ
         rw [if_pos rfl, if_pos (by omega)] at h1
         rw [if_pos rfl, if_pos (by have := v8.len; omega)] at h2
         simp only [U0] at h1 h2
         subst h1; subst h2
         have kD : ds.length = (C1 v).length := by rw [hd.len, <- hd.Ar]
         have mP : f + (C1 v).length <= B0.length := by rw [<- D2.1]; exact hle
         have wV := e2.keep Ff
         have xm := hd.keep Ff
         refine ⟨by simp [e2.len]; omega, by simp [fo]; omega, fun m ft d x g1 g2 g3 => ?_⟩
         by_cases Zc : m < f
         ·rw [List.append_assoc, List.getElem?_append_left (by simp [e2.len]; omega), List.getElem?_take, if_pos Zc] at g2
          rw [List.append_assoc, List.getElem?_append_left (by simp [fo]; omega), List.getElem?_take, if_pos Zc] at g3
          exact wV.at_ m ft d x g1 g2 g3
         ·by_cases uI : m < f + (C1 v).length
          ·rw [List.append_assoc, List.getElem?_append_right (by simp [e2.len]; omega), List.getElem?_append_left (by simp [e2.len]; omega)] at g2
           rw [List.append_assoc, List.getElem?_append_right (by simp [fo]; omega), List.getElem?_append_left (by simp [fo]; omega)] at g3
           simp only [List.length_take, e2.len, fo, Nat.min_eq_left (show f <= B0.length by omega)] at g2 g3
           refine xm.at_ (m - f) ft d x ?_ g2 g3
           rw [List.getElem?_take, if_pos (by rw [D2.1]; omega), List.getElem?_drop, show f + (m - f) = m by omega]
           exact g1
          ·rw [List.getElem?_append_right (by simp [e2.len]; omega), List.getElem?_drop] at g2
           rw [List.getElem?_append_right (by simp [fo]; omega), List.getElem?_drop] at g3
           simp only [List.length_append, List.length_take, e2.len, fo, Nat.min_eq_left (show f <= B0.length by omega), kD] at g2 g3
           rw [show f + (C1 v).length + (m - (f + (C1 v).length)) = m by omega] at g2 g3
           exact wV.at_ m ft d x g1 g2 g3
        ·rw [if_neg PQ] at h1
         rw [if_neg (by omega)] at h2
         exact (v8.at_ j r Rn h1 h2).keep Ff
       ·have l2 : u0 c h c1 h T := l1.mono (fun _ h => h.elim)
        exact l2.trans hL hs.wf (fun x hx => .inr (hx ▸ hT o _ (.inr (.inl ⟨_, _, rfl⟩)) (p1 _ _ (L5 w8))))
     ·cases J6
    ·cases J6
   ·cases J6
  | m7 B0 o g n j f b ho hb hj =>
   simp only at J6
   split at J6
   ·rename_i old hold
    split at J6
    ·rename_i rows ds hle F4 cX
     simp only [Bool.and_eq_true, Bool.not_eq_true'] at hle
     have ia := Nat.le_of_ble_eq_true hle.1.1
     have qy := Nat.le_of_ble_eq_true hle.1.2
     simp only [U0] at J6; subst J6
     obtain ⟨c1, s1, l1, n1, r1, p1, d1⟩ := Ca hs (I3 u)
     have hd := d1 _ D2 _ _ cX
     have O8 : (freeze s (I3 u)).get o = .obj old := by rw [HY (JS hle.2)]; exact hold
     have B2 := s1.obj o
     rw [O8, r1, hb] at B2
     generalize w8 : c1.φ o = fm at B2
     cases B2 with
     | obj cs b k xs hg P8 hz B2 CU hx bu =>
      have Yk : old.length = xs.length := bu.1
      have hm : (j + 1) * B0.length <= n * B0.length := Nat.mul_le_mul_right _ hj
      rw [Nat.add_mul, Nat.one_mul] at hm
      rw [D2.1] at ia hd
      have Kz := ZL (j := j) (f := f) (g0 := g) (n := n) bu (by obtain ⟨q1, _⟩ := Ct F4; rw [<- q1]; exact (Hv B0.length n (old.drop g))) (fun q hq => by have := QM F4 hq (bu.drop g); rw [List.drop_drop] at this; exact this) hd ia hj qy
      have KV : wr h b 0 (g + j * B0.length + f) (C1 v) = some ((match k.Q2 with | true => h | false => h.kill k.Q1 (k.E5 + 0)).put b (.cells { k with es := [xs.take (g + j * B0.length + f) ++ C1 v ++ xs.drop (g + j * B0.length + f + (C1 v).length)] })) := by
       simp only [wr, hg, P8, B2, List.getElem?_cons_zero, List.set_cons_zero]
       rw [if_pos (by omega)]
       cases k.Q2 <;> rfl
      obtain ⟨t1, t2, t3⟩ := HE hs.wf hg (k.E5 + 0) [xs.take (g + j * B0.length + f) ++ C1 v ++ xs.drop (g + j * B0.length + f + (C1 v).length)] (by rw [P8]; rfl)
      have hL := t3.O4 c1
      refine ⟨_, c1, by simp only [CE]; rw [if_pos ⟨cP, C7, Kb⟩]; exact KV, ?_, ?_⟩
      ·refine s1.BK w8 t2 hL ?_
       rw [r1, hb]
       refine .obj _ b { k with es := [xs.take (g + j * B0.length + f) ++ C1 v ++ xs.drop (g + j * B0.length + f + (C1 v).length)] } _ t1 rfl (by have vn := (HC B0 (putAt rows j f ds) n 0).1; rw [hz]; simp [vn]; omega) B2 CU ?_ (Kz.O4 hL (fun f' hK e => s1.EJ o _ (L5 w8) (e ▸ hK)))
       simp only [List.all_append, Bool.and_eq_true]
       exact ⟨⟨List.all_eq_true.2 fun x hm => List.all_eq_true.1 hx x (List.mem_of_mem_take hm), C7⟩, List.all_eq_true.2 fun x hm => List.all_eq_true.1 hx x (List.mem_of_mem_drop hm)⟩
      ·have l2 : u0 c h c1 h T := l1.mono (fun _ h => h.elim)
       exact l2.trans hL hs.wf (fun x hx => .inr (hx ▸ hT o _ (.inr (.inr ⟨_, _, _, _, _, rfl⟩)) (p1 _ _ (L5 w8))))
    ·cases J6
   ·cases J6
  | _ => simp at J6
end
def Cx.drop (c : Cx) (o : Nat) : Cx := ⟨c.n, c.ρ, c.K, fun p => if p = o then BF else c.φ p⟩
section
variable {P : Program} {R : Type} {c : Cx} {h h' : A0} {s : O0}
theorem u0.RF (hs : T3 c h s) (o : Nat) (v : VV) (fm : Nat -> Prop) {T : Nat -> Prop} (hL : G7 h h' T) (w8 : ∀ f, fm f -> (c.φ o f) \/ (h.next <= f /\ f < h'.next)) : u0 c h ((c.drop o).add v fm) h' T := by
 refine ⟨Nat.le_succ _, fun p hp => ?_, fun _ h => h, hL.next, hL.same, hL.Q1, hL.mp, fun _ h => .inl h, fun p f hf => ?_, fun p f hp hf => by
  have hf : (if p = c.n then fm else if p = o then BF else c.φ p) f := hf
  rw [if_neg (by omega)] at hf
  split at hf
  ·cases hf
  ·exact hf⟩
 ·show (if p = c.n then v else c.ρ p) = _
  rw [if_neg (by omega)]
 ·have hf : (if p = c.n then fm else if p = o then BF else c.φ p) f := hf
  split at hf
  ·rcases w8 f hf with h1 | h1
   ·exact .inr ⟨o, h1⟩
   ·exact .inl h1.1
  ·split at hf
   ·cases hf
   ·exact .inr ⟨p, hf⟩
theorem T3.Ei (hs : T3 c h s) {o : Nat} (Rf : ∀ b i f, c.ρ o ≠ .ptr b i f) {u : UO} {v : VV} {fm : Nat -> Prop} {T : Nat -> Prop} (hL : G7 h h' T) (hT : ∀ f, T f -> c.φ o f) (hw : WF h'.get h'.next) (w8 : ∀ f, fm f -> (c.φ o f) \/ (h.next <= f /\ f < h'.next))
  (B2 : RO ((c.drop o).add v fm) h'.get u v fm) : T3 ((c.drop o).add v fm) h' ((s.T8 o .gone).push u) /\ u0 c h ((c.drop o).add v fm) h' T := by
 have Ic := u0.RF hs o v fm hL w8
 have Ky : ∀ p, ((c.drop o).add v fm).φ p = if p = c.n then fm else if p = o then BF else c.φ p := fun p => rfl
 refine ⟨⟨hw, by rw [O0.CT, O0.V4, hs.len]; rfl, fun p => ?_, fun p q f h1 h2 => ?_, fun p f h1 hK => ?_, fun p f h1 => ?_, fun f hK => Nat.lt_of_lt_of_le (hs.Rc f hK) hL.next, fun p hp => by
  have hp : c.n + 1 <= p := hp
  show (if p = c.n then v else c.ρ p) = _
  rw [if_neg (by omega)]; exact hs.Xn p (by omega)⟩, Ic⟩
 ·rw [O0.V0, O0.V4, hs.len, Ky]
  show RO _ _ _ (if p = c.n then v else c.ρ p) _
  split
  ·exact B2
  ·rename_i Ob
   rw [O0.C4]
   by_cases It : p = o
   ·subst It
    rw [if_pos rfl]
    rcases Nat.lt_or_ge p s.len with h1 | h1
    ·rw [if_pos ⟨rfl, h1⟩]; exact .gone _ Rf
    ·rw [if_neg (by omega), O0.Lf s p h1]; exact .gone _ Rf
   ·rw [if_neg (fun hh => It hh.1), if_neg It]
    exact (hs.obj p).O4 Ic (fun f hK ht => hs.EJ o f (hT f ht) hK) (fun f hf ht => It (hs.Ax p o f hf (hT f ht)))
 ·rw [Ky] at h1 h2
  split at h1 <;> split at h2
  ·omega
  ·split at h2
   ·cases h2
   ·rename_i jk
    rcases w8 f h1 with h3 | h3
    ·exact absurd (hs.Ax q o f h2 h3) jk
    ·have := hs.s8 q f h2; omega
  ·split at h1
   ·cases h1
   ·rename_i It
    rcases w8 f h2 with h3 | h3
    ·exact absurd (hs.Ax p o f h1 h3) It
    ·have := hs.s8 p f h1; omega
  ·split at h1
   ·cases h1
   ·split at h2
    ·cases h2
    ·exact hs.Ax p q f h1 h2
 ·rw [Ky] at h1
  split at h1
  ·rcases w8 f h1 with h3 | h3
   ·exact hs.EJ o f h3 hK
   ·have := hs.Rc f hK; omega
  ·split at h1
   ·cases h1
   ·exact hs.EJ p f h1 hK
 ·rw [Ky] at h1
  split at h1
  ·rcases w8 f h1 with h3 | h3
   ·exact Nat.lt_of_lt_of_le (hs.s8 o f h3) hL.next
   ·exact h3.2
  ·split at h1
   ·cases h1
   ·exact Nat.lt_of_lt_of_le (hs.s8 p f h1) hL.next
theorem Fv.append {g : VG} {K : Nat -> Prop} {B0 : List FT} {a b : List (List D)} {xs ys : List (List VV)} {i : Nat} (h : Fv g K B0 a xs i) (hl : xs.length = i + a.length) (k : Fv g K B0 b ys 0) : Fv g K B0 (a ++ b) (xs ++ ys) i := by
 refine ⟨by simp; have := k.len; omega, fun j r cs h1 h2 => ?_⟩
 by_cases hj : j < a.length
 ·rw [List.getElem?_append_left hj] at h1
  rw [List.getElem?_append_left (by omega)] at h2
  exact h.at_ j r cs h1 h2
 ·rw [List.getElem?_append_right (by omega)] at h1
  rw [List.getElem?_append_right (by omega), show i + j - xs.length = 0 + (j - a.length) by omega] at h2
  exact k.at_ _ r cs h1 h2
theorem Fv.cut {g : VG} {K : Nat -> Prop} {B0 : List FT} {a : List (List D)} {es : List (List VV)} {i n : Nat} (h : Fv g K B0 a es i) (hn : n = a.length) : Fv g K B0 a ((es.drop i).take n) 0 /\ ((es.drop i).take n).length = a.length := by
 have hl : ((es.drop i).take n).length = a.length := by rw [List.length_take, List.length_drop]; have := h.len; omega
 refine ⟨⟨by omega, fun j r cs h1 h2 => ?_⟩, hl⟩
 rw [Nat.zero_add, List.getElem?_take] at h2
 split at h2
 ·rw [List.getElem?_drop] at h2; exact h.at_ j r cs h1 h2
 ·cases h2
theorem Fv.fill {g : VG} {K : Nat -> Prop} {B0 : List FT} {a b : List (List D)} {es xs : List (List VV)} {i n : Nat} (h : Fv g K B0 a es i) (hn : n = a.length) (k : Fv g K B0 b xs 0) (hx : xs.length = b.length) (N8 : i + n + xs.length <= es.length) :
  Fv g K B0 (a ++ b) (es.take (i + n) ++ xs ++ es.drop (i + n + xs.length)) i := by
 have hl := h.len
 refine ⟨by simp; omega, fun j r cs h1 h2 => ?_⟩
 by_cases hj : j < a.length
 ·rw [List.getElem?_append_left hj] at h1
  rw [List.append_assoc, List.getElem?_append_left (by simp; omega), List.getElem?_take, if_pos (by omega)] at h2
  exact h.at_ j r cs h1 h2
 ·rw [List.getElem?_append_right (by omega)] at h1
  have jz : j - a.length < b.length := (List.getElem?_eq_some_iff.1 h1).1
  rw [List.append_assoc, List.getElem?_append_right (by simp; omega), List.getElem?_append_left (by simp; omega)] at h2
  refine k.at_ (j - a.length) r cs h1 ?_
  rw [<- h2]
  congr 1
  simp
  omega
theorem Ig {t : TypeId} {B0 : List FT} {e : TypeId} (ht : P.underlying t = some (.slice e)) (h : Mu P t = some B0) : flat P 20 e = some B0 /\ B0.length = P.cellsOf e /\ 0 < B0.length := by
 unfold Mu at h
 rw [ht] at h
 simp only at h
 split at h
 ·rename_i f hf
  split at h
  ·rename_i hc
   simp only [U0] at h; subst h
   simp only [Bool.and_eq_true, Bool.not_eq_true'] at hc
   refine ⟨hf, B6 hc.1, ?_⟩
   rcases Nat.eq_zero_or_pos f.length with h0 | h0
   ·rw [h0] at hc; cases hc.2
   ·exact h0
  ·cases h
 ·cases h
theorem Du {t : TypeId} {u : UV} (h : Cq P t = some u) : ∃ z, D6 P t = some z /\ p8 3 z = some u := by
 unfold Cq at h
 cases hz : D6 P t with
 | none => rw [hz] at h; cases h
 | some z => rw [hz] at h; exact ⟨z, rfl, h⟩
theorem j3 {α : Type} {b : Bool} {x : Option α} {r : α} (h : cond b x none = some r) : b = true /\ x = some r := by
 cases b with
 | true => exact ⟨rfl, h⟩
 | false => cases h
theorem Cb {n b : Nat} (h : fits n b = true) : n * b <= R2 /\ n <= R2 := by simpa [fits] using h
theorem Th {a b : Nat} (h : a <= b) : Nat.ble a b = true := Nat.ble_eq_true_of_le h
theorem Jg {a b : Nat} (h : ¬ a <= b) : Nat.ble a b = false := by
 cases hb : Nat.ble a b with
 | true => exact absurd (Nat.le_of_ble_eq_true hb) h
 | false => rfl
theorem Lo {t e : TypeId} {zv : VV} {xs : List (List VV)} {b i n z m : Nat} {cp : Option Nat} {k : Es} (ht : P.underlying t = some (.slice e)) (DN : D6 P e = some zv) (Y3 : ¬ P.cellsOf e = 0) (hg : h.get b = some (.cells k))
  (hz : z = P.cellsOf e) (w6 : k.L3 = P.cellsOf e) (hm : xs.length = m + 1) (B2 : k.ro = false) (hle : i + n + (m + 1) <= k.es.length) (AV : ∀ q, cp = some q -> n + (m + 1) <= q) :
  C5 P t (.slice b i n cp z) xs h = some (.slice b i (n + (m + 1)) cp z, (match k.Q2 with | true => h | false => h.kill k.Q1 (k.E5 + (i + n))).put b (.cells { k with es := k.es.take (i + n) ++ xs ++ k.es.drop (i + n + (m + 1)) })) := by
 subst hz
 unfold C5
 simp only [ht, DN, if_neg Y3, hm, hg]
 rw [if_neg (by omega)]
 have lu : ¬ (k.ro = true \/ k.es.length < i + n + (m + 1)) := by rw [B2]; simp; omega
 cases cp with
 | none => simp only [Th hle]; rw [if_neg lu]; cases k.Q2 <;> rfl
 | some q => simp only [Th (AV q rfl)]; rw [if_neg lu]; cases k.Q2 <;> rfl
theorem Js {t e : TypeId} {zv : VV} {xs : List (List VV)} {b i n z m q : Nat} {k : Es} (ht : P.underlying t = some (.slice e)) (DN : D6 P e = some zv) (Y3 : ¬ P.cellsOf e = 0) (hg : h.get b = some (.cells k))
  (hz : z = P.cellsOf e) (w6 : k.L3 = P.cellsOf e) (hm : xs.length = m + 1) (hle : i + n <= k.es.length) (AV : ¬ n + (m + 1) <= q) (hf : ¬ (R2 < (n + (m + 1)) * P.bytesOf e \/ R2 < n + (m + 1))) :
  C5 P t (.slice b i n (some q) z) xs h = some (.slice h.next 0 (n + (m + 1)) none z, fresh h ((k.es.drop i).take n ++ xs) z) := by
 subst hz
 unfold C5
 simp only [ht, DN, if_neg Y3, hm, hg]
 rw [if_neg (by omega)]
 simp only [Jg AV]
 rw [if_neg hf]
theorem Ht {t e : TypeId} {zv : VV} {xs : List (List VV)} {b i n z m : Nat} {k : Es} (ht : P.underlying t = some (.slice e)) (DN : D6 P e = some zv) (Y3 : ¬ P.cellsOf e = 0) (hg : h.get b = some (.cells k))
  (hz : z = P.cellsOf e) (w6 : k.L3 = P.cellsOf e) (hm : xs.length = m + 1) (B2 : k.ro = false) (hle : i + n <= k.es.length) (AV : ¬ i + n + (m + 1) <= k.es.length) (hf : ¬ (R2 < (n + (m + 1)) * P.bytesOf e \/ R2 < n + (m + 1))) (h1 : A0)
  (Oh : h1 = match k.last && Nat.beq (i + n) k.es.length with
   | true => h.put b (.cells { k with Q2 := false, last := false })
   | false => (h.put b (.cells { k with Q2 := false, last := false })).kill k.Q1 (k.E5 + (i + n))) :
  C5 P t (.slice b i n none z) xs h = some (.slice h.next 0 (n + (m + 1)) none z, h1.push (.cells { es := (k.es.drop i).take n ++ xs, L3 := z, Q1 := k.Q1, E5 := k.E5 + i, Q2 := false, last := true, ro := false })) := by
 subst hz
 unfold C5
 simp only [ht, DN, if_neg Y3, hm, hg]
 rw [if_neg (by omega)]
 simp only [Jg AV]
 rw [if_neg hf, if_neg (by rw [B2]; simp), Oh]
 cases k.last <;> cases Nat.beq (i + n) k.es.length <;> rfl
theorem Jy {T0 : Nat -> Prop} (hs : T3 c h s) {t : TypeId} {x y : UV} {x' y' : VV} {K : UV -> O0 -> Option R} {r : R} (hu : GG P t x y s K = some r) (hx : RV c h.get x x') (hy : RV c h.get y y') {e : TypeId} (ht : P.underlying t = some (.slice e))
  (sg : ∀ o f, x = .own o -> c.φ o f -> T0 f) : j6 T0 c h K r ((U5 (P.cellsOf e) h y').bind fun xs => C5 P t x' xs h) := by
 unfold GG at hu
 rw [ht] at hu
 split at hu
 ·rename_i e' B0 qY F4
  simp only [U0, TypeDesc.slice.injEq] at qY; subst qY
  obtain ⟨Wt, D2, h0⟩ := Ig ht F4
  split at hu
  ·rename_i z0 ys sH fc
   obtain ⟨zv, DN, _⟩ := Du sH
   obtain ⟨xs, Dr, bw, v8⟩ := Oq hs h0 fc hy
   rw [<- D2, Dr]
   simp only [Option.bind_some]
   have Wn : P.cellsOf e = B0.length := D2.symm
   have Y3 : ¬ P.cellsOf e = 0 := by omega
   have unf : ∀ v, C5 P t v xs h = C5 P t v xs h := fun _ => rfl
   
   have nil : ∀ (s1 : O0) (o : Option Nat), (∀ (v : VV) (fm : Nat -> Prop) (h' : A0) (T : Nat -> Prop), G7 h h' T -> (∀ f, ¬ T f) -> WF h'.get h'.next -> (∀ f, fm f -> h.next <= f /\ f < h'.next) ->
      (∀ c2 : Cx, c2.K = c.K -> u0 c h c2 h' T -> RO c2 h'.get (.row B0 ys) v fm) -> ∃ c1, T3 c1 h' (s1.push (.row B0 ys)) /\ u0 c h c1 h' T0 /\ c1.ρ c.n = v /\ c1.n = c.n + 1) ->
     fits ys.length (P.bytesOf e) = true -> K (.own s.len) (s1.push (.row B0 ys)) = some r -> j6 T0 c h K r (C5 P t .nilslice xs h) := by
    intro s1 o wD hf hK
    obtain ⟨f1, f2⟩ := Cb hf
    unfold C5
    simp only [ht, DN, if_neg Y3]
    cases hm : xs.length with
    | zero =>
     simp only
     have : ys = [] := List.eq_nil_of_length_eq_zero (by omega)
     subst this
     obtain ⟨c1, h1, h2, h3, h4⟩ := wD .nilslice BF h (fun _ => False) (G7.refl h _) (fun _ h => h) hs.wf (fun f e => by cases e) (fun c2 _ _ => .W7 B0)
     exact ⟨_, h, _, _, c1, rfl, h1, .own _ _ (by rw [h4, hs.len]; exact Nat.lt_succ_self _) (by rw [hs.len]; exact h3) (.inl rfl), h2, hK⟩
    | succ m =>
     simp only
     rw [if_pos ⟨by rw [show m + 1 = ys.length by omega]; exact f1, by rw [show m + 1 = ys.length by omega]; exact f2⟩]
     have hg : (fresh h xs (P.cellsOf e)).get h.next = some (.cells { es := xs, L3 := P.cellsOf e, Q1 := h.next, E5 := 0, Q2 := true, last := true, ro := false }) := by
      unfold fresh; rw [A0.V0, if_pos rfl]
     obtain ⟨c1, h1, h2, h3, h4⟩ := wD (.slice h.next 0 (m + 1) none (P.cellsOf e)) (one h.next) (fresh h xs (P.cellsOf e)) (fun _ => False) (G7.push _ _ _) (fun _ h => h) (hs.wf.push _ (fun k hk => by cases hk; rfl))
      (fun f hf => by cases hf; exact ⟨Nat.le_refl _, by simp⟩)
      (fun c2 fy Gu => .row B0 ys h.next 0 (m + 1) none _ _ hg rfl Wn Wn h0 (by omega) (fun q e => by cases e) (v8.keep (Gu.keeps (fun _ _ h => h))))
     exact ⟨_, _, _, _, c1, rfl, h1, .own _ _ (by rw [h4, hs.len]; exact Nat.lt_succ_self _) (by rw [hs.len]; exact h3) (.inr ⟨_, _, _, _, _, rfl⟩), h2, hK⟩
   have plain : ∀ (v : VV) (fm : Nat -> Prop) (h' : A0) (T : Nat -> Prop), G7 h h' T -> (∀ f, ¬ T f) -> WF h'.get h'.next -> (∀ f, fm f -> h.next <= f /\ f < h'.next) -> ∀ (es : List (List D)),
      (∀ c2 : Cx, c2.K = c.K -> u0 c h c2 h' T -> RO c2 h'.get (.row B0 es) v fm) -> ∃ c1, T3 c1 h' (s.push (.row B0 es)) /\ u0 c h c1 h' T0 /\ c1.ρ c.n = v /\ c1.n = c.n + 1 := by
    intro v fm h' T E3 hT hw w8 es B2
    have hL : u0 c h (c.add v fm) h' T := hs.s9 v fm E3.next (fun b ob hb => E3.same b ob hb (hT _)) (fun f hf => (w8 f hf).1) T
    refine ⟨c.add v fm, hs.add hw E3.next (fun b ob hb => E3.same b ob hb (hT _)) w8 (B2 _ rfl hL), hL.mono (fun f hf => (hT f hf).elim), ?_, rfl⟩
    show (if c.n = c.n then _ else _) = _
    rw [if_pos rfl]
   have Ei : ∀ (o : Nat), (∀ b i f, c.ρ o ≠ .ptr b i f) -> ∀ (v : VV) (fm : Nat -> Prop) (h' : A0) (T : Nat -> Prop), G7 h h' T -> (∀ f, T f -> c.φ o f /\ T0 f) -> WF h'.get h'.next -> (∀ f, fm f -> (c.φ o f) \/ (h.next <= f /\ f < h'.next)) -> ∀ (es : List (List D)),
      (∀ c2 : Cx, c2.K = c.K -> u0 c h c2 h' T -> RO c2 h'.get (.row B0 es) v fm) -> ∃ c1, T3 c1 h' ((s.T8 o .gone).push (.row B0 es)) /\ u0 c h c1 h' T0 /\ c1.ρ c.n = v /\ c1.n = c.n + 1 := by
    intro o Rf v fm h' T E3 hT hw w8 es B2
    obtain ⟨h1, h2⟩ := hs.Ei Rf E3 (fun f ht => (hT f ht).1) hw w8 (B2 _ rfl (u0.RF hs o v fm E3 w8))
    refine ⟨_, h1, h2.mono (fun f ht => (hT f ht).2), ?_, rfl⟩
    show (if c.n = c.n then _ else _) = _
    rw [if_pos rfl]
   have fin : ∀ {c1 : Cx} {h' : A0} {s1 : O0} {v : VV}, T3 c1 h' s1 -> u0 c h c1 h' T0 -> c1.ρ c.n = v -> c1.n = c.n + 1 -> (v = .nilslice \/ ∃ b i n cp z, v = .slice b i n cp z) -> K (.own s.len) s1 = some r -> j6 T0 c h K r (some (v, h')) :=
    fun h1 h2 h3 h4 h5 h6 => ⟨_, _, _, _, _, rfl, h1, .own _ _ (by rw [h4, hs.len]; exact Nat.lt_succ_self _) (by rw [hs.len]; exact h3) h5, h2, h6⟩
   cases hx with
   | nilslice =>
    simp only at hu
    obtain ⟨h1, h2⟩ := j3 hu
    exact nil s none (fun v fm h' T a1 a2 a3 a4 a5 => plain v fm h' T a1 a2 a3 a4 ys a5) h1 h2
   | own o v ho hb hv =>
    simp only at hu
    split at hu
    ·rename_i W2 es CU
     split at hu
     ·rename_i Y6
      have := FT.J0 _ _ Y6; subst this
      obtain ⟨hf, hK⟩ := j3 hu
      have B2 := hs.obj o
      have Rf : ∀ b i f, c.ρ o ≠ .ptr b i f := by
       intro b i f e; rw [hb] at e; subst e
       rcases hv with e | ⟨_, _, _, _, _, e⟩ <;> cases e
      rw [CU, hb] at B2
      generalize w8 : c.φ o = fm at B2
      cases B2 with
      | W7 =>
       simp only [List.nil_append, List.length_nil, Nat.zero_add] at hf hK
       exact nil (s.T8 o .gone) none (fun v fm h' T a1 a2 a3 a4 a5 => Ei o Rf v fm h' T a1 (fun f ht => (a2 f ht).elim) a3 (fun f hf => .inr (a4 f hf)) ys a5) hf hK
      | B7 _ b i z k hg mW hz w6 XC hi =>
       simp only [List.nil_append, List.length_nil, Nat.zero_add] at hf hK
       obtain ⟨f1, f2⟩ := Cb hf
       unfold C5
       simp only [ht, DN, if_neg Y3]
       cases hm : xs.length with
       | zero =>
        simp only
        rw [if_pos (by rw [w6]; exact Wn.symm)]
        have : ys = [] := List.eq_nil_of_length_eq_zero (by omega)
        subst this
        obtain ⟨c1, h1, h2, h3, h4⟩ := Ei o Rf (.slice b i 0 (some 0) z) BF h (fun _ => False) (G7.refl h _) (fun _ h => h.elim) hs.wf (fun f e => by cases e) [] (fun c2 fy _ => .B7 B0 b i z k hg (by rw [fy]; exact mW) hz w6 XC hi)
        exact fin h1 h2 h3 h4 (.inr ⟨_, _, _, _, _, rfl⟩) hK
       | succ m =>
        simp only [hg]
        rw [if_neg (by omega)]
        have : Nat.ble (0 + (m + 1)) 0 = false := by simp [Nat.ble]
        simp only [this]
        rw [if_neg (by rw [show 0 + (m + 1) = ys.length by omega]; omega)]
        have Dt : (fresh h ((k.es.drop i).take 0 ++ xs) (P.cellsOf e)).get h.next = some (.cells { es := (k.es.drop i).take 0 ++ xs, L3 := P.cellsOf e, Q1 := h.next, E5 := 0, Q2 := true, last := true, ro := false }) := by
         unfold fresh; rw [A0.V0, if_pos rfl]
        obtain ⟨c1, h1, h2, h3, h4⟩ := Ei o Rf (.slice h.next 0 (0 + (m + 1)) none (P.cellsOf e)) (one h.next) (fresh h ((k.es.drop i).take 0 ++ xs) (P.cellsOf e)) (fun _ => False) (G7.push _ _ _) (fun _ h => h.elim) (hs.wf.push _ (fun k hk => by cases hk; rfl))
         (fun f hf => by cases hf; exact .inr ⟨Nat.le_refl _, by simp⟩) ys
         (fun c2 fy Gu => .row B0 ys h.next 0 (0 + (m + 1)) none _ _ Dt rfl Wn Wn h0 (by omega) (fun q e => by cases e) (by simpa using v8.keep (Gu.keeps (fun _ _ h => h))))
        exact fin h1 h2 h3 h4 (.inr ⟨_, _, _, _, _, rfl⟩) hK
      | row B0 es b i n cp z k hg B2 hz w6 XC hn AV fh =>
       obtain ⟨f1, f2⟩ := Cb hf
       have hlen := fh.len
       have iT : z = P.cellsOf e := by omega
       cases hm : xs.length with
       | zero =>
        unfold C5
        simp only [ht, DN, if_neg Y3, hm]
        rw [if_pos iT]
        have : ys = [] := List.eq_nil_of_length_eq_zero (by omega)
        subst this
        rw [List.append_nil] at hK
        obtain ⟨c1, h1, h2, h3, h4⟩ := Ei o Rf (.slice b i n cp z) (one k.Q1) h (fun _ => False) (G7.refl h _) (fun _ h => h.elim) hs.wf (fun f e => by cases e; exact .inl (L5 w8)) es
         (fun c2 fy Gu => .row B0 es b i n cp z k hg B2 hz w6 XC hn AV (fh.keep (Gu.keeps (fun _ _ h => h))))
        exact fin h1 h2 h3 h4 (.inr ⟨_, _, _, _, _, rfl⟩) hK
       | succ m =>
        have uJ : ys.length = m + 1 := by omega
        have NQ : i + n + (m + 1) <= k.es.length -> (∀ q, cp = some q -> n + (m + 1) <= q) -> j6 T0 c h K r (C5 P t (.slice b i n cp z) xs h) := by
         intro BV kE
         have hle : (k.es.take (i + n) ++ xs ++ k.es.drop (i + n + (m + 1))).length = k.es.length := by simp; omega
         obtain ⟨t1, t2, t3⟩ := HE hs.wf hg (k.E5 + (i + n)) (k.es.take (i + n) ++ xs ++ k.es.drop (i + n + (m + 1))) hle
         obtain ⟨c1, h1, h2, h3, h4⟩ := Ei o Rf (.slice b i (n + (m + 1)) cp z) (one k.Q1) _ _ t3 (fun f e => by rw [e]; exact ⟨(L5 w8), sg o _ rfl (L5 w8)⟩) t2 (fun f e => by cases e; exact .inl (L5 w8)) (es ++ ys)
          (fun c2 fy Gu => by
           have hk := Gu.keeps (fun f' UK e => hs.EJ o _ (L5 w8) (by rw [e] at UK; exact fy ▸ UK))
           refine .row B0 (es ++ ys) b i (n + (m + 1)) cp z { k with es := k.es.take (i + n) ++ xs ++ k.es.drop (i + n + (m + 1)) } t1 B2 hz w6 XC (by simp; omega) (fun q e => ⟨kE q e, by rw [hle]; exact (AV q e).2⟩) ?_
           have := (fh.keep hk).fill hn (v8.keep hk) bw (by omega)
           rwa [hm] at this)
         rw [Lo ht DN Y3 hg iT (by omega) hm B2 BV kE]
         exact fin h1 h2 h3 h4 (.inr ⟨_, _, _, _, _, rfl⟩) hK
        have e1 : es.length + ys.length = n + (m + 1) := by omega
        rw [e1] at f1 f2
        have Yq : ¬ (R2 < (n + (m + 1)) * P.bytesOf e \/ R2 < n + (m + 1)) := by omega
        obtain ⟨Oj, cZ⟩ := fh.cut hn
        cases cp with
        | some cap =>
         by_cases N8 : n + (m + 1) <= cap
         ·exact NQ (by have h2 := (AV cap rfl).2; omega) (fun q e => by cases e; exact N8)
         ·rw [Js ht DN Y3 hg iT (by omega) hm (by omega) N8 Yq]
          have Dt : (fresh h ((k.es.drop i).take n ++ xs) z).get h.next = some (.cells { es := (k.es.drop i).take n ++ xs, L3 := z, Q1 := h.next, E5 := 0, Q2 := true, last := true, ro := false }) := by
           unfold fresh; rw [A0.V0, if_pos rfl]
          obtain ⟨c1, h1, h2, h3, h4⟩ := Ei o Rf (.slice h.next 0 (n + (m + 1)) none z) (one h.next) (fresh h ((k.es.drop i).take n ++ xs) z) (fun _ => False) (G7.push _ _ _) (fun _ h => h.elim) (hs.wf.push _ (fun k hk => by cases hk; rfl))
           (fun f hf => by cases hf; exact .inr ⟨Nat.le_refl _, by simp⟩) (es ++ ys)
           (fun c2 fy Gu => .row B0 (es ++ ys) h.next 0 (n + (m + 1)) none _ _ Dt rfl w6 w6 h0 (by simp; omega) (fun q e => by cases e)
            ((Oj.keep (Gu.keeps (fun _ _ h => h))).append (by omega) (v8.keep (Gu.keeps (fun _ _ h => h)))))
          exact fin h1 h2 h3 h4 (.inr ⟨_, _, _, _, _, rfl⟩) hK
        | none =>
         by_cases N8 : i + n + (m + 1) <= k.es.length
         ·exact NQ N8 (fun q e => by cases e)
         ·generalize Oh : (match k.last && Nat.beq (i + n) k.es.length with
           | true => h.put b (.cells { k with Q2 := false, last := false })
           | false => (h.put b (.cells { k with Q2 := false, last := false })).kill k.Q1 (k.E5 + (i + n))) = PT
          rw [Ht ht DN Y3 hg iT (by omega) hm B2 (by omega) N8 Yq PT Oh.symm]
          obtain ⟨o1, o2, o3⟩ := opened (z := z) hs.wf hg (by omega : i + n <= k.es.length) xs PT Oh.symm
          have Dt : (PT.push (.cells { es := (k.es.drop i).take n ++ xs, L3 := z, Q1 := k.Q1, E5 := k.E5 + i, Q2 := false, last := true, ro := false })).get h.next =
            some (.cells { es := (k.es.drop i).take n ++ xs, L3 := z, Q1 := k.Q1, E5 := k.E5 + i, Q2 := false, last := true, ro := false }) := by
           rw [A0.V0, o1, if_pos rfl]
          obtain ⟨c1, h1, h2, h3, h4⟩ := Ei o Rf (.slice h.next 0 (n + (m + 1)) none z) (one k.Q1) _ _ o3 (fun f e => by rw [e]; exact ⟨(L5 w8), sg o _ rfl (L5 w8)⟩) o2 (fun f e => by cases e; exact .inl (L5 w8)) (es ++ ys)
           (fun c2 fy Gu => by
            have hk := Gu.keeps (fun f' UK e => hs.EJ o _ (L5 w8) (by rw [e] at UK; exact fy ▸ UK))
            exact .row B0 (es ++ ys) h.next 0 (n + (m + 1)) none _ { es := (k.es.drop i).take n ++ xs, L3 := z, Q1 := k.Q1, E5 := k.E5 + i, Q2 := false, last := true, ro := false } Dt rfl w6 w6 h0 (by simp; omega) (fun q e => by cases e)
             ((Oj.keep hk).append (by omega) (v8.keep hk)))
          exact fin h1 h2 h3 h4 (.inr ⟨_, _, _, _, _, rfl⟩) hK
     ·cases hu
    ·cases hu
   | fz W2 es cut v M3 hc =>
    cases cut with
    | false => cases hu
    | true =>
     simp only at hu
     split at hu
     ·rename_i Y6 Ww
      have := FT.J0 _ _ Y6; subst this
      obtain ⟨hf, hK⟩ := j3 hu
      have Qr : 0 < ys.length := by cases ys with | nil => cases Ww | cons _ _ => simp
      rcases hc rfl with rfl | ⟨b, i, n, z, rfl⟩
      ·cases M3
       simp only [List.nil_append, List.length_nil, Nat.zero_add] at hf hK
       exact nil s none (fun v fm h' T a1 a2 a3 a4 a5 => plain v fm h' T a1 a2 a3 a4 ys a5) hf hK
      ·obtain ⟨k, g1, g2, g3, g4, g5, g6, g7, g8⟩ := M3.Uq
       obtain ⟨f1, f2⟩ := Cb hf
       have hlen := g8.len
       unfold C5
       simp only [ht, DN, if_neg Y3]
       cases hm : xs.length with
       | zero => omega
       | succ m =>
        simp only [g1]
        rw [if_neg (by omega)]
        have : Nat.ble (n + (m + 1)) n = false := by
         cases hb : Nat.ble (n + (m + 1)) n with
         | true => have := Nat.le_of_ble_eq_true hb; omega
         | false => rfl
        simp only [this]
        have e1 : es.length + ys.length = n + (m + 1) := by omega
        rw [e1] at f1 f2
        rw [if_neg (by omega)]
        obtain ⟨Oj, cZ⟩ := g8.cut g6
        have Dt : (fresh h ((k.es.drop i).take n ++ xs) (P.cellsOf e)).get h.next = some (.cells { es := (k.es.drop i).take n ++ xs, L3 := P.cellsOf e, Q1 := h.next, E5 := 0, Q2 := true, last := true, ro := false }) := by
         unfold fresh; rw [A0.V0, if_pos rfl]
        obtain ⟨c1, h1, h2, h3, h4⟩ := plain (.slice h.next 0 (n + (m + 1)) none (P.cellsOf e)) (one h.next) (fresh h ((k.es.drop i).take n ++ xs) (P.cellsOf e)) (fun _ => False) (G7.push _ _ _) (fun _ h => h) (hs.wf.push _ (fun k hk => by cases hk; rfl))
         (fun f hf => by cases hf; exact ⟨Nat.le_refl _, by simp⟩) (es ++ ys)
         (fun c2 fy Gu => .row B0 (es ++ ys) h.next 0 (n + (m + 1)) none _ _ Dt rfl Wn Wn h0 (by simp; omega) (fun q e => by cases e)
          ((Oj.keep (Gu.keeps (fun _ _ h => h))).append (by omega) (v8.keep (Gu.keeps (fun _ _ h => h)))))
        exact fin h1 h2 h3 h4 (.inr ⟨_, _, _, _, _, rfl⟩) hK
     ·cases hu
   | _ => simp at hu
  ·cases hu
 ·cases hu
end
section
variable {P : Program} {R : Type} {c : Cx} {h h' : A0} {s : O0}
theorem Jc {α : Type} {b : Bool} {x : Option α} {r : α} (h : cond b none x = some r) : b = false /\ x = some r := by
 cases b with
 | false => exact ⟨rfl, h⟩
 | true => cases h
theorem Zt {op : BinOp} {k : IntKind} {x y : Int} {K : UV -> Option R} {r : R} (hu : uint op k x y K = some r) (K0 : op ≠ .shl /\ op ≠ .shr) : ∃ v u, Xj op k x y = some v /\ RV c h.get u v /\ K u = some r := by
 cases op <;> simp only [uint] at hu <;> (try (cases hu; done))
 case quo =>
  obtain ⟨h1, h2⟩ := Jc hu
  simp only [decide_eq_false_iff_not] at h1
  exact ⟨_, _, by simp only [Xj]; rw [if_neg h1], .int _ _, h2⟩
 case rem =>
  obtain ⟨h1, h2⟩ := Jc hu
  simp only [decide_eq_false_iff_not] at h1
  exact ⟨_, _, by simp only [Xj]; rw [if_neg h1], .int _ _, h2⟩
 case eql => exact ⟨_, _, rfl, by rw [show (x == y) = decide (x = y) by rw [Bool.eq_iff_iff]; simp]; exact .bool _, hu⟩
 case neq => exact ⟨_, _, rfl, by rw [show (x != y) = !decide (x = y) by rw [Bool.eq_iff_iff]; simp]; exact .bool _, hu⟩
 all_goals first | exact ⟨_, _, rfl, .int _ _, hu⟩ | exact ⟨_, _, rfl, .bool _, hu⟩
theorem Lp {op : BinOp} {k : IntKind} {x y : Int} {K : UV -> Option R} {r : R} (hu : Ub op k x y K = some r) : ∃ v u, Ln op k x y = some v /\ RV c h.get u v /\ K u = some r := by
 unfold Ub at hu
 obtain ⟨h1, h2⟩ := Jc hu
 simp only [decide_eq_false_iff_not] at h1
 unfold Ln
 rw [if_neg h1]
 cases op <;> simp only at h2 ⊢ <;> (try (cases h2; done)) <;> exact ⟨_, _, rfl, .int _ _, h2⟩
theorem Zn {op : BinOp} {x y : ByteArray} {K : UV -> Option R} {r : R} (hu : kS op x y K = some r) : ∃ v u, gC op x y = some v /\ RV c h.get u v /\ K u = some r := by
 cases op <;> simp only [kS] at hu <;> (try (cases hu; done))
 case add =>
  obtain ⟨h1, h2⟩ := j3 hu
  simp only [decide_eq_true_eq] at h1
  exact ⟨_, _, by simp only [gC]; rw [if_neg (by omega)], .str _, h2⟩
 all_goals exact ⟨_, _, rfl, .bool _, hu⟩
theorem aj (x y : ByteArray) : (x == y) = Bi x y := by
 unfold Bi
 rw [ByteArray.toList_eq, ByteArray.toList_eq]
 obtain ⟨⟨x⟩⟩ := x
 obtain ⟨⟨y⟩⟩ := y
 show ((⟨x⟩ : Array UInt8) == ⟨y⟩) = (x == y)
 rw [Bool.eq_iff_iff]
 simp
theorem WI : ∀ (d : Nat) (t : TypeId) (x y : UV) (x' y' : VV) (b : Bool), kT P d t x y = some b -> RV c h.get x x' -> RV c h.get y y' -> Ee P d t x' y' = some b := by
 intro d
 induction d with
 | zero => intro t x y x' y' b hu; simp [kT] at hu
 | succ d ih =>
  intro t x y x' y' b hu hx hy
  unfold kT at hu
  split at hu
  ·rename_i ht; cases hx; cases hy; simp only [Ee, ht]; exact hu
  ·rename_i ht
   split at hu
   ·rename_i hk; simp only [decide_eq_true_eq] at hk
    cases hx; cases hy; simp only [Ee, ht]; rw [if_pos hk, <- hu]
    congr 1
   ·cases hu
  ·rename_i ht; cases hx; cases hy; simp only [Ee, ht]; rw [<- hu, aj]
  ·rename_i ht; cases hx; cases hy; simp only [Ee, ht]; exact hu
  ·rename_i ht; cases hx; cases hy; simp only [Ee, ht]; exact hu
  ·rename_i ht; cases hx; cases hy; simp only [Ee, ht]; exact hu
  ·rename_i ht; cases hx with | pz _ _ _ M3 => cases hy; simp only [Ee, ht]; cases M3 <;> exact hu
  ·rename_i ht; cases hy with | pz _ _ _ M3 => cases hx; simp only [Ee, ht]; cases M3 <;> exact hu
  ·rename_i ht; cases hx; cases hy; simp only [Ee, ht]; exact hu
  ·rename_i ht; cases hy with | Bn _ _ _ _ M3 => cases hx; simp only [Ee, ht]; cases M3 <;> exact hu
  ·rename_i ht; cases hx with | Bn _ _ _ _ M3 => cases hy; simp only [Ee, ht]; cases M3 <;> exact hu
  ·rename_i ht; cases hx; cases hy; simp only [Ee, ht]; exact hu
  ·rename_i ht; cases hx; cases hy; simp only [Ee, ht]; exact hu
  ·rename_i ht; cases hx; cases hy; simp only [Ee, ht]; exact hu
  ·rename_i tx vx ty vy ht
   cases hx with | iface _ _ vx' th => cases hy with | iface _ _ vy' tg =>
   simp only [Ee, ht]
   split at hu
   ·rename_i Y3
    rw [if_pos (by intro e; subst e; rw [Nat.beq_refl] at Y3; cases Y3)]; exact hu
   ·rename_i heq
    have := B6 heq; subst this
    simp only [ne_eq, not_true_eq_false, if_false]
    split at hu
    ·rename_i hi
     simp only [Option.map_eq_some_iff] at hi
     obtain ⟨i, h1, h2⟩ := hi
     rw [h1]; simp only [h2, if_true]
     exact ih _ _ _ _ _ _ hu th tg
    ·cases hu
  ·rename_i fs xs ys ht
   cases hx with | agg _ kP mH h1 => cases hy with | agg _ vS Iu h2 =>
   simp only [Ee, ht]
   split at hu
   ·cases hu
   ·rename_i J6
    rw [if_neg (by rw [J6]; simp)]
    generalize fs.toList = l at hu ⊢
    induction l generalizing b with
    | nil => exact hu
    | cons f l vd =>
     simp only [List.foldr_cons] at hu ⊢
     split at hu
     ·rename_i hn; simp only [decide_eq_true_eq] at hn
      rw [if_pos hn]; exact vd _ hu
     ·rename_i hn; simp only [decide_eq_false_iff_not] at hn
      rw [if_neg hn]
      split at hu
      ·rename_i a b' q ha hb hq
       simp only [Option.map_eq_some_iff] at hu
       obtain ⟨p, hp, rfl⟩ := hu
       obtain ⟨a', Vi, qh⟩ := GC ha ⟨mH, h1⟩
       obtain ⟨b'', H3, xK⟩ := GC hb ⟨Iu, h2⟩
       rw [Vi, H3]
       simp only [ih _ _ _ _ _ _ hp qh xK]
       cases p with
       | true => simp only [Bool.true_and]; exact vd _ hq
       | false => rfl
      ·cases hu
  ·rename_i ht; cases hx; cases hy; simp only [Ee, ht]; exact hu
  ·rename_i ht; cases hx with | nn _ _ _ _ hv => obtain ⟨b, i, n, cp, z, rfl⟩ := hv; cases hy; simp only [Ee, ht]; exact hu
  ·rename_i ht; cases hy with | nn _ _ _ _ hv => obtain ⟨b, i, n, cp, z, rfl⟩ := hv; cases hx; simp only [Ee, ht]; exact hu
  ·rename_i ht; cases hx; cases hy; simp only [Ee, ht]; exact hu
  ·rename_i ht; cases hx; cases hy; simp only [Ee, ht]; exact hu
  ·rename_i ht; cases hx; cases hy; simp only [Ee, ht]; exact hu
  ·cases hu
theorem Ss {g : VG} {u : UV} (hr : RV c g u .I1) (h1 : En u = true) : la u = true := by
 cases hr with
 | I1 => rfl
 | own o v ho hb hv => rcases hv with e | ⟨b, i, n, cp, z, e⟩ <;> cases e
 | X0 o v ps ho hb hv => rcases hv with e | ⟨b, i, n, cp, z, e⟩ <;> cases e
 | fz B0 es cut v M3 hc => cases M3
 | nn B0 es v M3 hv => cases M3
 | pz B0 d v M3 => cases M3
 | Bn => rfl
 | undef => cases h1
theorem Xp {t : TypeId} {ox oy : Operand} {x y : UV} {x' y' : VV} (hu : Jx P t ox oy x y = true) (hx : RV c h.get x x') (hy : RV c h.get y y') : LF P t ox oy x' y' = true := by
 unfold Jx at hu
 split at hu
 ·cases hx; cases hy; exact hu
 ·simp only [Bool.and_eq_true, Bool.or_eq_true, Bool.not_eq_true', Bool.and_eq_false_iff] at hu
  obtain ⟨⟨h1, h2⟩, h3⟩ := hu
  have o1 := hx.one h1
  have o2 := hy.one h2
  unfold LF
  split
  ·have q1 := Ss hx h1
   have q2 := Ss hy h2
   rw [q1, q2] at h3
   simp only [Bool.or_eq_true]
   rcases h3 with (h3 | h3) | h3
   ·simp at h3
   ·exact .inl h3
   ·exact .inr h3
  ·cases o1
  ·cases o1
  ·cases o2
  ·rfl
theorem UX {op : BinOp} {t : TypeId} {ox oy : Operand} {x y : VV} (h1 : ∀ k a k' b, x = .int k a -> y = .int k' b -> False) (h2 : ∀ a b, x = .str a -> y = .str b -> False) :
  Kt P op t ox oy x y = match op, LF P t ox oy x y with
   | .eql, true => (Ee P 100 t x y).map .bool
   | .neq, true => (Ee P 100 t x y).map fun b => .bool !b
   | _, _ => none := by
 unfold Kt
 split
 ·exact (h1 _ _ _ _ rfl rfl).elim
 ·exact (h2 _ _ rfl rfl).elim
 ·rfl
theorem RV.Wl {g : VG} {u : UV} {k : IntKind} {n : Int} (hr : RV c g u (.int k n)) (h1 : u ≠ .undef) : u = .int k n := by
 cases hr with
 | int => rfl
 | undef => exact absurd rfl h1
 | own o v ho hb hv => rcases hv with e | ⟨b, i, n, cp, z, e⟩ <;> cases e
 | X0 o v ps ho hb hv => rcases hv with e | ⟨b, i, n, cp, z, e⟩ <;> cases e
 | fz B0 es cut v M3 hc => cases M3
 | nn B0 es v M3 hv => cases M3
 | pz B0 d v M3 => cases M3
 | Bn ts B0 d v M3 => cases M3
theorem RV.LN {g : VG} {u : UV} {s : ByteArray} (hr : RV c g u (.str s)) (h1 : u ≠ .undef) : u = .str s := by
 cases hr with
 | str => rfl
 | undef => exact absurd rfl h1
 | own o v ho hb hv => rcases hv with e | ⟨b, i, n, cp, z, e⟩ <;> cases e
 | X0 o v ps ho hb hv => rcases hv with e | ⟨b, i, n, cp, z, e⟩ <;> cases e
 | fz B0 es cut v M3 hc => cases M3
 | nn B0 es v M3 hv => cases M3
 | pz B0 d v M3 => cases M3
 | Bn ts B0 d v M3 => cases M3
theorem Oy {t : TypeId} {ox oy : Operand} {x y : UV} (hu : Jx P t ox oy x y = true) : x ≠ .undef /\ y ≠ .undef := by
 constructor
 ·rintro rfl; simp [Jx, En] at hu
 ·rintro rfl; cases x <;> simp [Jx, En] at hu
theorem Zw {op : BinOp} {t : TypeId} {ox oy : Operand} {x y : UV} {x' y' : VV} {K : UV -> Option R} {r : R} (hu : kU P op t ox oy x y K = some r) (hx : RV c h.get x x') (hy : RV c h.get y y') :
  ∃ v u, Kt P op t ox oy x' y' = some v /\ RV c h.get u v /\ K u = some r := by
 unfold kU at hu
 split at hu
 ·rename_i k a k' b
  cases hx; cases hy
  unfold Kt
  simp only
  cases op <;> simp only at hu ⊢
  case shl => exact Lp hu
  case shr => exact Lp hu
  all_goals
   split at hu
   ·rename_i hk; simp only [decide_eq_true_eq] at hk
    rw [if_pos hk]
    exact Zt hu ⟨by simp, by simp⟩
   ·cases hu
 ·cases hx; cases hy
  exact Zn hu
 ·rename_i n1 n2
  have n1 : ∀ k a k' b, x = .int k a -> y = .int k' b -> False := fun k a k' b e1 e2 => n1 k a k' b e1 e2
  have n2 : ∀ a b, x = .str a -> y = .str b -> False := fun a b e1 e2 => n2 a b e1 e2
  have oN := fun (I5 : Jx P t ox oy x y = true) => UX (P := P) (op := op) (t := t) (ox := ox) (oy := oy) (x := x') (y := y')
   (fun k a k' b e1 e2 => by obtain ⟨d1, d2⟩ := Oy I5; subst e1; subst e2; exact n1 _ _ _ _ (hx.Wl d1) (hy.Wl d2))
   (fun a b e1 e2 => by obtain ⟨d1, d2⟩ := Oy I5; subst e1; subst e2; exact n2 _ _ (hx.LN d1) (hy.LN d2))
  cases I5 : Jx P t ox oy x y with
  | false => rw [I5] at hu; cases op <;> cases hu
  | true =>
   rw [I5] at hu
   have oN := oN I5
   rw [Xp I5 hx hy] at oN
   cases op <;> simp only at hu oN <;> (try (cases hu; done))
   ·split at hu
    ·rename_i b hb
     refine ⟨.bool b, _, ?_, .bool b, hu⟩
     rw [oN, WI 100 t x y x' y' b hb hx hy]; rfl
    ·cases hu
   ·split at hu
    ·rename_i b hb
     refine ⟨.bool (!b), _, ?_, .bool (!b), hu⟩
     rw [oN, WI 100 t x y x' y' b hb hx hy]; rfl
    ·cases hu
theorem gE {op : UnOp} {x u : UV} {x' : VV} (hu : sq op x = some u) (hx : RV c h.get x x') : ∃ v, pI op x' = some v /\ RV c h.get u v := by
 unfold sq at hu
 split at hu
 ·simp only [U0] at hu; subst hu; cases hx; exact ⟨_, rfl, .int _ _⟩
 ·simp only [U0] at hu; subst hu; cases hx; exact ⟨_, rfl, .int _ _⟩
 ·simp only [U0] at hu; subst hu; cases hx; exact ⟨_, rfl, .bool _⟩
 ·cases hu
theorem GF {g : VG} {place : Nat -> Option (Nat × Nat)} : ∀ {parts : List (Nat × UV)} {o8 : List (Nat × VV)} {cells out : List UV} {RM : List VV}, Lx place cells parts = some out -> E4 c g cells RM ->
  parts.length = o8.length -> (∀ (i : Nat) p p', parts[i]? = some p -> o8[i]? = some p' -> p.1 = p'.1 /\ RV c g p.2 p'.2) -> ∃ qG, DA place RM o8 = some qG /\ E4 c g out qG
 | [], [], cells, out, RM, hu, hc, _, _ => by simp only [Lx, U0] at hu; subst hu; exact ⟨_, rfl, hc⟩
 | (i, v) :: rest, (i', v') :: rest', cells, out, RM, hu, hc, hl, hp => by
  obtain ⟨h1, h2⟩ := hp 0 _ _ rfl rfl
  simp only at h1 h2; subst h1
  simp only [Lx] at hu
  split at hu
  ·cases hu
  ·rename_i off size KX
   split at hu
   ·rename_i Z6
    simp only [Bool.and_eq_true] at Z6
    obtain ⟨⟨q1, q2⟩, q3⟩ := Z6
    have q1 := B6 q1
    have q2 := Nat.le_of_ble_eq_true q2
    have ZY : v ≠ .undef := by rintro rfl; simp [I3, En] at q3
    have D2 := h2.cells ZY
    have C7 := D2.one q3
    simp only [DA, KX]
    rw [if_neg (by rw [<- D2.1, <- hc.1, C7]; simp; omega)]
    refine GF hu ?_ (by simpa using hl) (fun j p p' a b => hp (j + 1) p p' (by simpa using a) (by simpa using b))
    exact ((hc.take off).append D2).append (hc.drop _)
   ·cases hu
 | [], _ :: _, _, _, _, _, _, hl, _ => by simp at hl
 | _ :: _, [], _, _, _, _, _, hl, _ => by simp at hl
theorem HD {g : VG} {e : R1} {e' : Env} (he : A6 c g e e') (parts : Array (Nat × Operand)) :
  (parts.toList.map fun (i, x) => (i, F7 e x)).length = (parts.toList.map fun (i, x) => (i, ev e' x)).length /\
  ∀ (i : Nat) p p', (parts.toList.map fun (i, x) => (i, F7 e x))[i]? = some p -> (parts.toList.map fun (i, x) => (i, ev e' x))[i]? = some p' -> p.1 = p'.1 /\ RV c g p.2 p'.2 := by
 refine ⟨by simp, fun i p p' h1 h2 => ?_⟩
 simp only [List.getElem?_map, Option.map_eq_some_iff] at h1 h2
 obtain ⟨a, ha, rfl⟩ := h1
 obtain ⟨b, hb, rfl⟩ := h2
 rw [ha] at hb; simp only [U0] at hb; subst hb
 exact ⟨rfl, j1 he _⟩
theorem Bu (g : VG) {t : TypeId} {u : UV} (hu : Cq P t = some u) : ∃ z, D6 P t = some z /\ RV c g u z /\ E4 c g (I3 u) (C1 z) /\ (C1 z).length = P.cellsOf t /\ (C1 z).all H2 = true := by
 obtain ⟨z, h1, h2⟩ := Du hu
 have hr := Si c g 3 z u h2
 have hz : (C1 z).all H2 = true /\ (C1 z).length = P.cellsOf t := by
  unfold D6 at h1
  split at h1
  ·split at h1
   ·rename_i hc; simp only [U0] at h1; subst h1; exact hc
   ·cases h1
  ·cases h1
 refine ⟨z, h1, hr, hr.cells ?_, hz.2, hz.1⟩
 rintro rfl
 cases z with
 | agg cs => simp [p8] at h2
 | _ => simp [p8] at h2
theorem Ud {g : VG} {t : TypeId} {u : UV} {parts : List (Nat × UV)} {o8 : List (Nat × VV)} (hu : Ue P t parts = some u) (hl : parts.length = o8.length)
  (hp : ∀ (i : Nat) p p', parts[i]? = some p -> o8[i]? = some p' -> p.1 = p'.1 /\ RV c g p.2 p'.2) : ∃ v, Ix P t o8 = some v /\ RV c g u v := by
 unfold Ue at hu
 split at hu
 ·rename_i z hz
  obtain ⟨zv, h1, h2, h3, _⟩ := Bu (c := c) g hz
  unfold Ix
  simp only [h1]
  split at hu
  ·rename_i fs ht
   simp only [ht]
   split at hu
   ·rename_i X7
    simp only [Option.map_eq_some_iff] at hu
    obtain ⟨us, hf, rfl⟩ := hu
    obtain ⟨vs, e1, e2⟩ := GF hf h3 hl hp
    rw [if_pos X7, e1]
    exact ⟨_, rfl, RV.OB e2⟩
   ·cases hu
  ·rename_i n el ht
   simp only [ht]
   split at hu
   ·cases hu
   ·rename_i Y3
    simp only [Option.map_eq_some_iff] at hu
    obtain ⟨us, hf, rfl⟩ := hu
    obtain ⟨vs, e1, e2⟩ := GF hf h3 hl hp
    rw [if_neg (by intro e; rw [e] at Y3; cases Y3), e1]
    exact ⟨_, rfl, RV.OB e2⟩
  ·cases hu
 ·cases hu
theorem FE {g : VG} (n : Nat) : ∀ (k : Nat) (us : List UV) (vs : List VV), E4 c g us vs -> (S5 n k us).length = (chunks n k vs).length /\ ∀ (i : Nat) a b, (S5 n k us)[i]? = some a -> (chunks n k vs)[i]? = some b -> E4 c g a b
 | 0, _, _, _ => ⟨rfl, by simp [S5]⟩
 | k + 1, us, vs, hr => by
  obtain ⟨h1, h2⟩ := FE n k (us.drop n) (vs.drop n) (hr.drop n)
  refine ⟨by simp [S5, chunks, h1], fun i a b ha hb => ?_⟩
  cases i with
  | zero => simp only [S5, chunks, List.getElem?_cons_zero, U0] at ha hb; subst ha; subst hb; exact hr.take n
  | succ i => simp only [S5, chunks, List.getElem?_cons_succ] at ha hb; exact h2 i a b ha hb
theorem EY (n : Nat) : ∀ (k : Nat) (vs : List VV), (chunks n k vs).length = k
 | 0, _ => rfl
 | k + 1, vs => by simp [chunks, EY n k]
end
theorem KR : ∀ x : List Nat, EK x x = true
 | [] => rfl
 | a :: x => by simp only [EK, Nat.beq_refl, KR x, Bool.and_self]
mutual
theorem FT.YA : ∀ a : FT, FT.same a a = true
 | .bool => rfl
 | .int k => by simp [FT.same]
 | .str => rfl
 | .row a x => by simp only [FT.same, Nat.beq_refl, FT.P6 x, Bool.and_self]
 | .ptr x => by simp only [FT.same, FT.P6 x]
 | .EN t x => by simp only [FT.same, KR t, FT.P6 x, Bool.and_self]
theorem FT.P6 : ∀ x : List FT, FT.F0 x x = true
 | [] => rfl
 | a :: x => by simp only [FT.F0, FT.YA a, FT.P6 x, Bool.and_self]
end
section
variable {P : Program} {R : Type} {c : Cx} {h h' : A0} {s : O0}
theorem Au (s : O0) (us : List UV) : (freeze s us).len = s.len := by
 induction us generalizing s with
 | nil => rfl
 | cons u us ih =>
  simp only [freeze]; rw [ih]
  unfold W4
  split
  ·split
   ·exact O0.V4 _ _ _
   ·rfl
  ·rfl
theorem PW (hs : T3 c h s) (us : List UV) : ∃ c', T3 c' h (freeze s us) /\ u0 c h c' h (fun _ => False) /\ c'.n = c.n /\ c'.ρ = c.ρ /\ (∀ p f, c'.φ p f -> c.φ p f) /\ (∀ (i : Nat) u v, us[i]? = some u -> RV c h.get u v -> ∀ ft d, DS s ft u = some d -> RD h.get c'.K ft d v) := by
 induction us generalizing c s with
 | nil => exact ⟨c, hs, u0.refl _ _ _, rfl, rfl, fun _ _ h => h, by simp⟩
 | cons u us ih =>
  obtain ⟨c1, s1, l1, n1, r1, p1, d1⟩ := W9 hs u
  obtain ⟨c2, s2, l2, n2, r2, p2, d2⟩ := ih s1
  refine ⟨c2, s2, l1.trans l2 hs.wf (fun _ h => h.elim), n2.trans n1, r2.trans r1, fun p f h => p1 p f (p2 p f h), fun i a v ha hr ft d hd => ?_⟩
  cases i with
  | zero =>
   simp only [List.getElem?_cons_zero, U0] at ha; subst ha
   exact (d1 v hr ft d hd).keep (l2.keeps (fun _ _ h => h))
  | succ i =>
   simp only [List.getElem?_cons_succ] at ha
   refine d2 i a v ha (hr.O4 l1 (fun _ _ h => h)) ft d ?_
   rw [Rx (fun p => Gm s u p)]; exact hd
theorem Pe {α : Type} (n : Nat) (ch : Nat -> List α -> List (List α)) (h0 : ∀ l, ch 0 l = []) (hs : ∀ k l, ch (k + 1) l = l.take n :: ch k (l.drop n)) : ∀ (k : Nat) (l : List α) (i : Nat) (r : List α), (ch k l)[i]? = some r -> r = (l.drop (i * n)).take n
 | 0, l, i, r, h => by rw [h0] at h; simp at h
 | k + 1, l, i, r, h => by
  rw [hs] at h
  cases i with
  | zero => simp at h; simp [h]
  | succ i =>
   simp only [List.getElem?_cons_succ] at h
   rw [Pe n ch h0 hs k _ i r h, List.drop_drop]
   congr 2
   rw [Nat.add_mul]; omega
theorem Ku {T : Nat -> Prop} (hs : T3 c h s) {t e : TypeId} (ht : P.underlying t = some (.slice e)) {len : Nat} {parts : List (Nat × UV)} {o8 : List (Nat × VV)} {B0 : List FT} {es : List (List D)} {cs : List UV} {K : UV -> O0 -> Option R} {r : R}
  (hu : BJ P t len parts s = some (B0, es, cs)) (hl : parts.length = o8.length) (hp : ∀ (i : Nat) p p', parts[i]? = some p -> o8[i]? = some p' -> p.1 = p'.1 /\ RV c h.get p.2 p'.2)
  (hK : K (.own s.len) ((freeze s cs).push (.row B0 es)) = some r) : j6 T c h K r (u6 P t len o8 h) := by
 unfold BJ at hu
 rw [ht] at hu
 split at hu
 ·rename_i e' W2 qY F4
  simp only [U0, TypeDesc.slice.injEq] at qY; subst qY
  obtain ⟨Wt, D2, h0⟩ := Ig ht F4
  split at hu
  ·rename_i z hz
   obtain ⟨zv, z1, z2, z3, z4, z5⟩ := Bu (c := c) h.get hz
   simp only at hu
   split at hu
   ·cases hu
   ·rename_i EO
    simp only [Bool.or_eq_false_iff, Bool.not_eq_false'] at EO
    have fl : P.cellsOf e ≠ 0 := by omega
    have hsz2 := Nat.le_of_ble_eq_true EO.2
    split at hu
    ·rename_i kK Q3
     split at hu
     ·rename_i vK C7 P8
      simp only [U0, Prod.mk.injEq] at hu
      obtain ⟨rfl, rfl, rfl⟩ := hu
      have qg : E4 c h.get (List.flatten (List.replicate len (I3 z))) (List.flatten (List.replicate len (C1 zv))) := by
       induction len with
       | zero => exact E4.nil _ _
       | succ n ve =>
        simp only [List.replicate_succ, List.flatten_cons]
        have : ∀ n, E4 c h.get (List.flatten (List.replicate n (I3 z))) (List.flatten (List.replicate n (C1 zv))) := by
         intro n
         induction n with
         | zero => exact E4.nil _ _
         | succ n wo => simp only [List.replicate_succ, List.flatten_cons]; exact z3.append wo
        exact z3.append (this n)
      obtain ⟨Rn, f1, f2⟩ := GF Q3 qg hl hp
      obtain ⟨c1, s1, l1, n1, r1, p1, d1⟩ := PW hs kK
      obtain ⟨g1, g2⟩ := Ct P8
      have vn : (S5 (P.cellsOf e) len kK).length = len := by
       rw [(FE (g := h.get) (c := c) (P.cellsOf e) len kK Rn f2).1, EY]
      have v8 : Fv h.get c1.K W2 vK (chunks (P.cellsOf e) len Rn) 0 := by
       refine ⟨by rw [EY]; omega, fun j rr ccs q1 q2 => ?_⟩
       rw [Nat.zero_add] at q2
       have hj : j < (S5 (P.cellsOf e) len kK).length := by rw [g1]; exact (List.getElem?_eq_some_iff.1 q1).1
       have lh : (S5 (P.cellsOf e) len kK)[j]? = some (S5 (P.cellsOf e) len kK)[j] := List.getElem?_eq_getElem hj
       have wM := (FE (g := h.get) (c := c) (P.cellsOf e) len kK Rn f2).2 j _ _ lh q2
       refine LL (g2 j _ _ lh q1) wM.1 (fun i u v a b ft d hd => ?_)
       have hm := Pe (P.cellsOf e) (S5 (P.cellsOf e)) (fun _ => rfl) (fun _ _ => rfl) len kK j _ lh
       rw [hm, List.getElem?_take] at a
       split at a
       ·rw [List.getElem?_drop] at a
        exact d1 _ u v a (wM.2 i u v (by rw [hm, List.getElem?_take, if_pos (by assumption), List.getElem?_drop]; exact a) b) ft d hd
       ·cases a
      obtain ⟨c2, m1, m2, m3⟩ := Qi (T := fun _ => False) s1 h0 (n := len) (z := P.cellsOf e) (cp := some len) D2.symm (by omega) (fun q e => by cases e; exact ⟨Nat.le_refl _, by rw [EY]; exact Nat.le_refl _⟩) v8
      rw [Au] at m2
      refine ⟨_, _, _, _, c2, ?_, m1, m2, (l1.trans m3 hs.wf (fun f h => h.elim)).mono (fun _ h => h.elim), hK⟩
      unfold u6
      simp only [ht, z1]
      rw [if_neg (by omega), f1]
      simp only
      rw [if_pos (f2.one C7)]
     ·cases hu
    ·cases hu
  ·cases hu
 ·cases hu
theorem K9 {g : VG} {e : R1} {e' : Env} (he : A6 c g e e') {d : Nat} {lo : Option Operand} {l : Int} (hl : EH (d : Nat) (lo.map (F7 e)) = some l) (h0 : 0 <= l) : ((lo.map (ev e')).map Y4).getD (some d) = some l.toNat := by
 cases lo with
 | none => simp only [Option.map_none, EH, U0] at hl; subst hl; simp
 | some x =>
  simp only [Option.map_some, EH] at hl
  have hr := j1 he x
  cases hu : F7 e x <;> rw [hu] at hl <;> simp only [Iz] at hl <;> (try (cases hl; done))
  rw [hu] at hr
  simp only [U0] at hl; subst hl
  generalize hv : ev e' x = v at hr
  cases hr
  simp only [Option.map_some, hv, Y4, Option.getD_some]
  rw [if_pos h0]
theorem Sb {es : List (List D)} {l g : Nat} (h1 : l <= g) (h2 : g <= es.length) : (part es l g).length = g - l := by simp [part]; omega
theorem Fv.part {g : VG} {K : Nat -> Prop} {B0 : List FT} {rows : List (List D)} {es : List (List VV)} {i l m : Nat} (hs : Fv g K B0 rows es i) (h1 : l <= m) (h2 : m <= rows.length) : Fv g K B0 (part rows l m) es (i + l) := by
 refine ⟨by rw [Sb h1 h2]; have := hs.len; omega, fun j r cs a b => ?_⟩
 simp only [Go.Proofs.Ythlbahcggmbfaaa.V.part, List.getElem?_drop, List.getElem?_take] at a
 split at a
 ·exact hs.at_ (l + j) r cs a (by rw [<- b]; congr 1; omega)
 ·cases a
theorem RD.Xy {g : VG} {K : Nat -> Prop} {B0 : List FT} {es : List (List D)} {x : VV} (M3 : RD g K (.row 0 B0) (.row es) x) {z l gg : Nat} (hz : z = B0.length) (h1 : l <= gg) (h2 : gg <= es.length) (lo hi mx : Option VV)
  (hl : (lo.map Y4).getD (some 0) = some l) (hg : (hi.map Y4).getD (some es.length) = some gg) (hm : mx = none \/ ∃ m, mx = some m /\ Y4 m = some gg /\ hi.isSome = true) :
  ∃ v, (match x with | .nilslice => R4 0 .nilslice lo hi mx | x => R4 z x lo hi mx) = some v /\ RD g K (.row 0 B0) (.row (part es l gg)) v /\ (mx ≠ none -> v = .nilslice \/ ∃ b i n z, v = .slice b i n (some n) z) := by
 cases x with
 | nilslice =>
  cases M3
  simp only [List.length_nil] at h2 hg
  have : gg = 0 := by omega
  subst this
  have : l = 0 := by omega
  subst this
  refine ⟨.nilslice, ?_, by simp [part]; exact .P5 _ _, fun _ => .inl rfl⟩
  simp only [R4, hl, hg]
  rcases hm with rfl | ⟨m, rfl, hm, hh⟩
  ·simp
  ·simp [hm, hh]
 | slice b i n cp z' =>
  obtain ⟨k, g1, g2, g3, g4, g5, g6, g7, g8⟩ := M3.Uq
  have iT : z' = z := by omega
  subst iT
  have hlen := g8.len
  have KX := Sb h1 h2
  have sub : ∀ (i' : Nat) (Ro : Option Nat), (i' = i + l \/ (gg = l /\ i' = i)) -> (∀ q, Ro = some q -> gg - l <= q) -> RD g K (.row 0 B0) (.row (part es l gg)) (.slice b i' (gg - l) Ro z') := by
   intro i' Ro Ri hq
   refine RD.VH 0 g1 g2 g3 g4 g5 KX.symm hq ?_
   rcases Ri with rfl | ⟨e1, rfl⟩
   ·exact g8.part h1 h2
   ·have : part es l gg = [] := List.eq_nil_of_length_eq_zero (by omega)
    rw [this]; exact ⟨by simp; omega, by simp⟩
  cases cp with
  | none =>
   rcases hm with rfl | ⟨m, rfl, hm, hh⟩
   ·refine ⟨.slice b (i + l) (gg - l) none z', ?_, sub _ _ (.inl rfl) (by simp), fun h => absurd rfl h⟩
    simp only [R4, hl]
    rw [show n = es.length from g6, hg]
    simp only
    rw [if_pos ⟨trivial, h1, h2⟩]
   ·refine ⟨.slice b (if gg = l then i else i + l) (gg - l) (some (gg - l)) z', ?_, sub _ _ (by split <;> simp_all) (fun q e => by cases e; exact Nat.le_refl _), fun _ => .inr ⟨_, _, _, _, rfl⟩⟩
    simp only [R4, hl]
    rw [show n = es.length from g6, hg]
    simp only [hm]
    rw [if_pos ⟨trivial, h1, Nat.le_refl _, h2, hh⟩]
  | some cap =>
   have TL := g7 cap rfl
   rcases hm with rfl | ⟨m, rfl, hm, hh⟩
   ·refine ⟨.slice b (if cap = l then i else i + l) (gg - l) (some (cap - l)) z', ?_, sub _ _ (by split <;> simp_all; omega) (fun q e => by cases e; omega), fun h => absurd rfl h⟩
    simp only [R4, hl]
    rw [show n = es.length from g6, hg]
    simp only [Option.map_none, Option.getD_none]
    rw [if_pos ⟨trivial, h1, by omega, Nat.le_refl _, by simp⟩]
   ·refine ⟨.slice b (if gg = l then i else i + l) (gg - l) (some (gg - l)) z', ?_, sub _ _ (by split <;> simp_all) (fun q e => by cases e; exact Nat.le_refl _), fun _ => .inr ⟨_, _, _, _, rfl⟩⟩
    simp only [R4, hl]
    rw [show n = es.length from g6, hg]
    simp only [Option.map_some, Option.getD_some, hm]
    rw [if_pos ⟨trivial, h1, Nat.le_refl _, by omega, by simp [hh]⟩]
 | _ => cases M3
theorem Rs (hs : T3 c h s) {x : UV} {x' : VV} {B0 : List FT} {es : List (List D)} (hu : Ua s x = some (B0, es)) (hx : RV c h.get x x') :
  ∃ c', T3 c' h (W4 s x) /\ u0 c h c' h (fun _ => False) /\ c'.n = c.n /\ c'.ρ = c.ρ /\ RD h.get c'.K (.row 0 B0) (.row es) x' := by
 obtain ⟨c1, s1, l1, n1, r1, p1, d1⟩ := W9 hs x
 refine ⟨c1, s1, l1, n1, r1, d1 x' hx (.row 0 B0) (.row es) ?_⟩
 cases x with
 | fz W2 Aw cut => simp only [Ua, U0, Prod.mk.injEq] at hu; obtain ⟨rfl, rfl⟩ := hu; simp only [DS, FT.P6]
 | nn W2 Aw => simp only [Ua, U0, Prod.mk.injEq] at hu; obtain ⟨rfl, rfl⟩ := hu; simp only [DS, FT.P6]
 | own o => simp only [Ua] at hu; simp only [DS, hu, FT.P6]
 | _ => cases hu
theorem Ko {g : VG} {K : Nat -> Prop} : ∀ {es : List (List D)} {xs : List (List VV)}, xs.length = es.length -> Fv g K [.int .u8] es xs 0 -> N5 xs = some (es.map byteOf)
 | [], [], _, _ => rfl
 | r :: es, x :: xs, hl, hs => by
  have h1 := hs.at_ 0 r x rfl rfl
  have h2 : Fv g K [.int .u8] es xs 0 := ⟨by have := hs.len; simp at this ⊢; exact this, fun j a b ha hb => hs.at_ (j + 1) a b (by simpa using ha) (by rw [Nat.zero_add] at hb ⊢; simpa using hb)⟩
  have l1 := h1.len
  have l2 := h1.Ar
  match r, l1, x, l2, h1 with
  | [d], _, [v], _, h1 =>
   have := h1.head
   cases this
   simp only [N5, Ko (by simpa using hl) h2, Option.map_some]
   rfl
 | [], _ :: _, hl, _ => by simp at hl
 | _ :: _, [], hl, _ => by simp at hl
theorem Xq {T : Nat -> Prop} (hs : T3 c h s) {src dst : TypeId} {x : UV} {x' : VV} {K : UV -> O0 -> Option R} {r : R} (hu : Zv P src dst x s K = some r) (hx : RV c h.get x x') :
  j6 T c h K r (match P.underlying src, P.underlying dst with
  | some (.slice _), some .string => (Q9 P src dst x' h).map fun v => (v, h)
  | some .string, some (.slice _) => CJ P src dst x' h
  | _, _ => (Ey P src dst x').map fun v => (v, h)) := by
 unfold Zv at hu
 split at hu
 ·rename_i e x0 h1 h2
  rw [h1, h2]
  simp only
  split at hu
  ·rename_i h3 h4
   obtain ⟨Wt, D2, h0⟩ := Ig h1 h4
   have key : ∀ u es, RV c h.get u x' -> FA s [.int .u8] u = some es -> K (.str (strOf es)) s = some r -> (∀ y, u ≠ .str y) -> j6 T c h K r ((Q9 P src dst x' h).map fun v => (v, h)) := by
    intro u es hx he hk qp
    obtain ⟨xs, e1, e2, e3⟩ := Oq hs h0 he hx
    have hb := Ko e2 e3
    simp only [Q9, h1, h2, h3]
    cases x' with
    | nilslice =>
     simp only [U5, U0] at e1; subst e1
     have : es = [] := List.eq_nil_of_length_eq_zero (by rw [<- e2]; rfl)
     subst this
     exact j6.pure hs (.str _) hk
    | slice b i n cp z =>
     simp only
     rw [show (1 : Nat) = [FT.int .u8].length from rfl, e1]
     simp only [Option.bind_some, hb, Option.map_some]
     exact j6.pure hs (.str _) hk
    | str y => exact absurd (hx.LN (by rintro rfl; simp [FA] at he)) (qp y)
    | _ => simp [U5] at e1
   split at hu
   ·cases hx
    simp only [Q9, h1, h2, h3, Option.map_some]
    exact j6.pure hs (.str _) hu
   ·split at hu
    ·rename_i es he; exact key _ es hx he hu (by intro y e; cases e)
    ·cases hu
   ·split at hu
    ·rename_i es he; exact key _ es hx he hu (by intro y e; cases e)
    ·cases hu
   ·cases hu
  ·cases hu
 ·rename_i e y h1 h2
  rw [h1, h2]
  simp only
  split at hu
  ·rename_i h3 h4
   obtain ⟨Wt, D2, h0⟩ := Ig h2 h4
   obtain ⟨q1, hK⟩ := j3 hu
   simp only [decide_eq_true_eq] at q1
   cases hx
   simp only [CJ, h1, h2, h3]
   have Qz : P.cellsOf e = 1 := D2.symm
   rw [if_neg (by rw [Qz]; simp; omega)]
   obtain ⟨c2, m1, m2, m3⟩ := Qi hs (n := y.size) (z := 1) (cp := none) h0 rfl (by simp [Hf]) (fun q e => by cases e) (Nu y)
   exact ⟨_, _, _, _, c2, rfl, m1, m2, m3, hK⟩
  ·cases hu
 ·rename_i d1 k k1 n h1 h2
  cases hx
  have e : Ey P src dst (.int k1 n) = some (.int k (k.wrap n)) := by simp only [Ey, h1, h2]
  rw [h1, h2, e]
  cases d1 <;> exact j6.pure hs (.int _ _) hu
 ·rename_i d1 y n1 h1 h2
  cases hx
  have e : Ey P src dst (.str y) = some (.str y) := by simp only [Ey, h1, h2]
  rw [h1, h2, e]
  cases d1 with
  | slice e => exact (n1 e rfl).elim
  | _ => exact j6.pure hs (.str _) hu
 ·rename_i k k1 n h1 h2
  cases hx
  have e : Ey P src dst (.int k1 n) = some (.str (Utf8.encode n)) := by simp only [Ey, h1, h2]
  rw [h1, h2, e]
  exact j6.pure hs (.str _) hu
 ·cases hu
end
section
variable {P : Program} {R : Type} {c : Cx} {h : A0} {s : O0}
structure AS (g : VG) (K : Nat -> Prop) (kf : FT) (ag : Bool) (B0 : List FT) (es : List (D × List D)) (z8 : List (VV × VV)) : Prop where
 len : z8.length = es.length
 at_ : ∀ (i : Nat) p q, es[i]? = some p -> z8[i]? = some q -> RD g K kf p.1 q.1 /\ ∃ xs, WG ag q.2 xs /\ Cl g K B0 p.2 xs
theorem AS.nil (g : VG) (K : Nat -> Prop) (kf : FT) (ag : Bool) (B0 : List FT) : AS g K kf ag B0 [] [] := ⟨rfl, by simp⟩
theorem AS.cons {g : VG} {K : Nat -> Prop} {kf : FT} {ag : Bool} {B0 : List FT} {k : D} {ds : List D} {es : List (D × List D)} {x v : VV} {z8 : List (VV × VV)} {xs : List VV} (hk : RD g K kf k x) (hv : WG ag v xs) (hd : Cl g K B0 ds xs) (h : AS g K kf ag B0 es z8) :
  AS g K kf ag B0 ((k, ds) :: es) ((x, v) :: z8) := by
 refine ⟨by simp [h.len], fun i p q h1 h2 => ?_⟩
 cases i with
 | zero => simp at h1 h2; subst h1; subst h2; exact ⟨hk, xs, hv, hd⟩
 | succ i => exact h.at_ i p q (by simpa using h1) (by simpa using h2)
theorem AS.inv {g : VG} {K : Nat -> Prop} {kf : FT} {ag : Bool} {B0 : List FT} {k : D} {ds : List D} {es : List (D × List D)} {z8 : List (VV × VV)} (h : AS g K kf ag B0 ((k, ds) :: es) z8) :
  ∃ x v xs CI, z8 = (x, v) :: CI /\ RD g K kf k x /\ WG ag v xs /\ Cl g K B0 ds xs /\ AS g K kf ag B0 es CI := by
 have := h.len
 match z8, this, h with
 | (x, v) :: CI, _, h =>
  obtain ⟨h1, xs, h2, h3⟩ := h.at_ 0 _ _ rfl rfl
  exact ⟨x, v, xs, CI, rfl, h1, h2, h3, ⟨by have := h.len; simpa using this, fun i p q a b => h.at_ (i + 1) p q (by simpa using a) (by simpa using b)⟩⟩
theorem AS.ld {g : VG} {K : Nat -> Prop} {kf : FT} {ag : Bool} {B0 : List FT} {z8 : List (VV × VV)} (h : AS g K kf ag B0 [] z8) : z8 = [] := by
 have := h.len; cases z8 with
 | nil => rfl
 | cons a b => simp at this
theorem AS.keep {g g' : VG} {K K' : Nat -> Prop} (hk : Ae g K g' K') {kf : FT} {ag : Bool} {B0 : List FT} {es : List (D × List D)} {z8 : List (VV × VV)} (h : AS g K kf ag B0 es z8) : AS g' K' kf ag B0 es z8 := by
 refine ⟨h.len, fun i p q a b => ?_⟩
 obtain ⟨h1, xs, h2, h3⟩ := h.at_ i p q a b
 exact ⟨h1.keep hk, xs, h2, h3.keep hk⟩
theorem LY (hs : T3 c h s) {o : Nat} {kf : FT} {ag : Bool} {B0 : List FT} {es : List (D × List D)} (ho : s.get o = .map kf ag B0 es) :
  ∃ b z8, c.ρ o = .map b /\ c.φ o = one b /\ h.get b = some (.map z8) /\ isKey kf = true /\ AS h.get c.K kf ag B0 es z8 := by
 have B2 := hs.obj o
 rw [ho] at B2
 generalize hf : c.φ o = fm at B2
 generalize hv : c.ρ o = v at B2
 cases B2 with
 | map _ _ _ _ b z8 hg hk hl hh => exact ⟨b, z8, rfl, rfl, hg, hk, ⟨hl, hh⟩⟩
theorem VS {g g' : VG} {K K' : Nat -> Prop} {kf : FT} (hk : isKey kf = true) {a b : D} {x y : VV} (h1 : RD g K kf a x) (h2 : RD g' K' kf b y) :
  (∃ k n m, x = .int k n /\ y = .int k m /\ (D.U7 a b = true ↔ n = m)) \/ (∃ n m, x = .str n /\ y = .str m /\ (D.U7 a b = true ↔ n.toList = m.toList)) := by
 cases kf <;> simp only [isKey] at hk <;> (try (cases hk; done))
 ·cases h1; cases h2
  exact .inl ⟨_, _, _, rfl, rfl, by simp [D.U7]⟩
 ·cases h1; cases h2
  exact .inr ⟨_, _, rfl, rfl, by simp [D.U7]⟩
theorem Ih {g g' : VG} {K K' : Nat -> Prop} {kf : FT} {ag : Bool} {B0 : List FT} (hk : isKey kf = true) {kd : D} {key : VV} (D7 : RD g' K' kf kd key) : ∀ {es : List (D × List D)} {z8 : List (VV × VV)}, AS g K kf ag B0 es z8 ->
  (X2 key z8 = some none /\ JN es kd = false /\ ∀ z, W3 es kd z = z) \/ (∃ v xs ds, X2 key z8 = some (some v) /\ JN es kd = true /\ (∀ z, W3 es kd z = ds) /\ WG ag v xs /\ Cl g K B0 ds xs)
 | [], z8, h => by
  rw [h.ld]; exact .inl ⟨rfl, rfl, fun _ => rfl⟩
 | (k, ds) :: es, z8, h => by
  obtain ⟨x, v, xs, CI, rfl, h1, h2, h3, h4⟩ := h.inv
  have ih := Ih hk D7 h4
  rcases VS hk D7 h1 with ⟨kk, n, m, rfl, rfl, hq⟩ | ⟨n, m, rfl, rfl, hq⟩
  ·by_cases he : n = m
   ·have : D.U7 kd k = true := hq.2 he
    exact .inr ⟨v, xs, ds, by simp [X2, he], by simp [JN, this], fun z => by simp [W3, this], h2, h3⟩
   ·have : D.U7 kd k = false := by cases hb : D.U7 kd k with | false => rfl | true => exact absurd (hq.1 hb) he
    have e1 : X2 (.int kk n) ((.int kk m, v) :: CI) = X2 (.int kk n) CI := by simp [X2, he]
    simp only [e1, JN, W3, this, cond_false]
    exact ih
  ·by_cases he : n.toList = m.toList
   ·have : D.U7 kd k = true := hq.2 he
    exact .inr ⟨v, xs, ds, by simp [X2, he], by simp [JN, this], fun z => by simp [W3, this], h2, h3⟩
   ·have : D.U7 kd k = false := by cases hb : D.U7 kd k with | false => rfl | true => exact absurd (hq.1 hb) he
    have e1 : X2 (.str n) ((.str m, v) :: CI) = X2 (.str n) CI := by simp [X2, he]
    simp only [e1, JN, W3, this, cond_false]
    exact ih
theorem WQ {g : VG} {K : Nat -> Prop} {kf : FT} {ag : Bool} {B0 : List FT} (hk : isKey kf = true) {kd : D} {key : VV} (D7 : RD g K kf kd key) {wW : List D} {v0 : VV} {sn : List VV} (hv : WG ag v0 sn) (hd : Cl g K B0 wW sn) : ∀ {es : List (D × List D)} {z8 : List (VV × VV)}, AS g K kf ag B0 es z8 ->
  AS g K kf ag B0 (CQ es kd wW) (H8 key v0 z8)
 | [], z8, h => by
  rw [h.ld]; exact AS.cons D7 hv hd (AS.nil ..)
 | (k, ds) :: es, z8, h => by
  obtain ⟨x, v, xs, CI, rfl, h1, h2, h3, h4⟩ := h.inv
  have ih := WQ hk D7 hv hd h4
  rcases VS hk D7 h1 with ⟨kk, n, m, rfl, rfl, hq⟩ | ⟨n, m, rfl, rfl, hq⟩
  ·by_cases he : n = m
   ·have : D.U7 kd k = true := hq.2 he
    simp only [CQ, H8, this, cond_true, if_pos he]
    exact AS.cons D7 hv hd h4
   ·have : D.U7 kd k = false := by cases hb : D.U7 kd k with | false => rfl | true => exact absurd (hq.1 hb) he
    simp only [CQ, H8, this, cond_false, if_neg he]
    exact AS.cons h1 h2 h3 ih
  ·by_cases he : n.toList = m.toList
   ·have : D.U7 kd k = true := hq.2 he
    simp only [CQ, H8, this, cond_true, if_pos he]
    exact AS.cons D7 hv hd h4
   ·have : D.U7 kd k = false := by cases hb : D.U7 kd k with | false => rfl | true => exact absurd (hq.1 hb) he
    simp only [CQ, H8, this, cond_false, if_neg he]
    exact AS.cons h1 h2 h3 ih
theorem XG {g g' : VG} {K K' : Nat -> Prop} {kf : FT} {ag : Bool} {B0 : List FT} (hk : isKey kf = true) {kd : D} {key : VV} (D7 : RD g' K' kf kd key) : ∀ {es : List (D × List D)} {z8 : List (VV × VV)}, AS g K kf ag B0 es z8 ->
  AS g K kf ag B0 (VQ es kd) (l7 key z8)
 | [], z8, h => by
  rw [h.ld]; exact AS.nil ..
 | (k, ds) :: es, z8, h => by
  obtain ⟨x, v, xs, CI, rfl, h1, h2, h3, h4⟩ := h.inv
  have ih := XG hk D7 h4
  rcases VS hk D7 h1 with ⟨kk, n, m, rfl, rfl, hq⟩ | ⟨n, m, rfl, rfl, hq⟩
  ·by_cases he : n = m
   ·have : D.U7 kd k = true := hq.2 he
    simp only [VQ, l7, this, cond_true, if_pos he]
    exact h4
   ·have : D.U7 kd k = false := by cases hb : D.U7 kd k with | false => rfl | true => exact absurd (hq.1 hb) he
    simp only [VQ, l7, this, cond_false, if_neg he]
    exact AS.cons h1 h2 h3 ih
  ·by_cases he : n.toList = m.toList
   ·have : D.U7 kd k = true := hq.2 he
    simp only [VQ, l7, this, cond_true, if_pos he]
    exact h4
   ·have : D.U7 kd k = false := by cases hb : D.U7 kd k with | false => rfl | true => exact absurd (hq.1 hb) he
    simp only [VQ, l7, this, cond_false, if_neg he]
    exact AS.cons h1 h2 h3 ih
theorem FZ {t et : TypeId} {kf : FT} {ag : Bool} {B0 : List FT} {zd : List D} (ht : Yc P t = some (et, kf, ag, B0, zd)) :
  ∃ kt z, P.underlying t = some (.map kt et) /\ isKey kf = true /\ (∀ (g : VG) (K : Nat -> Prop) (d : D) (v : VV), RD g K kf d v -> Ab P kt v = true) /\ Cq P et = some z /\ D8 [] B0 (I3 z) = some zd /\ isAgg z = ag /\
   (∀ xs : List VV, (ag = true -> B5 P et xs = some (.agg xs)) /\ (ag = false -> ∀ v, xs = [v] -> B5 P et xs = some v)) := by
 unfold Yc at ht
 split at ht
 ·rename_i kt yF hu
  split at ht
  ·rename_i bo Qt
   split at ht
   ·rename_i W2 z hf hz
    split at ht
    ·rename_i zd' br
     have D7 : isKey bo = true /\ ∀ (g : VG) (K : Nat -> Prop) (d : D) (v : VV), RD g K bo d v -> Ab P kt v = true := by
      split at Qt
      ·rename_i k hk
       cases Qt
       refine ⟨rfl, fun g K d v h => ?_⟩
       cases h; unfold Ab; rw [hk]; simp
      ·rename_i hk
       cases Qt
       refine ⟨rfl, fun g K d v h => ?_⟩
       cases h; unfold Ab; rw [hk]
      ·cases Qt
     split at ht
     ·rename_i fs hs cd
      simp only [U0, Prod.mk.injEq] at ht
      obtain ⟨rfl, rfl, rfl, rfl, rfl⟩ := ht
      exact ⟨kt, z, hu, D7.1, D7.2, hz, br, cd, fun xs => ⟨fun _ => by unfold B5; rw [hs], fun h => by cases h⟩⟩
     ·rename_i n e hs cd
      simp only [U0, Prod.mk.injEq] at ht
      obtain ⟨rfl, rfl, rfl, rfl, rfl⟩ := ht
      exact ⟨kt, z, hu, D7.1, D7.2, hz, br, cd, fun xs => ⟨fun _ => by unfold B5; rw [hs], fun h => by cases h⟩⟩
     ·cases ht
     ·cases ht
     ·rename_i d h1 h2 hs cd
      simp only [U0, Prod.mk.injEq] at ht
      obtain ⟨rfl, rfl, rfl, rfl, rfl⟩ := ht
      refine ⟨kt, z, hu, D7.1, D7.2, hz, br, cd, fun xs => ⟨fun h => (nomatch h), fun _ v e => ?_⟩⟩
      subst e
      unfold B5
      rw [hs]
      cases d with
      | struct fs => exact (h1 fs rfl).elim
      | array n e => exact (h2 n e rfl).elim
      | _ => rfl
     ·cases ht
    ·cases ht
   ·cases ht
  ·cases ht
 ·cases ht
theorem Qm {g : VG} {kf : FT} (hk : isKey kf = true) {key : UV} {kd : D} {HU : VV} (hd : DS s kf key = some kd) (hr : RV c g key HU) : RD g c.K kf kd HU := by
 refine IA (fun o e => ?_) hr hd
 subst e
 cases kf <;> simp only [isKey] at hk <;> (try (cases hk; done)) <;> simp [DS] at hd
theorem HA {g : VG} {ok is : Bool} {u : UV} {v : VV} (hr : RV c g u v) : RV c g (UY ok u is) (if ok then .tuple [v, .bool is] else v) := by
 cases ok with
 | true => exact RV.tuple' (E4.cons hr (E4.cons (.bool is) (E4.nil _ _)))
 | false => exact hr
theorem Xl {t : TypeId} (hz : Cq P t = some .undef) : False := by
 obtain ⟨z, h1, h2⟩ := Du hz
 cases z with
 | agg cs => simp [p8] at h2
 | _ => simp [p8] at h2
theorem UM {g : VG} {et : TypeId} {z : UV} {B0 : List FT} {zd : List D} (hz : Cq P et = some z) (br : D8 [] B0 (I3 z) = some zd) : ∃ zv, D6 P et = some zv /\ RV c g z zv /\ Cl g c.K B0 zd (C1 zv) := by
 obtain ⟨zv, h1, h2, h3, h4, h5⟩ := Bu (c := c) g hz
 refine ⟨zv, h1, h2, ?_⟩
 have key : ∀ (B0 : List FT) (us : List UV) (vs : List VV) (ds : List D), D8 [] B0 us = some ds -> E4 c g us vs -> Cl g c.K B0 ds vs := by
  intro B0
  induction B0 with
  | nil =>
   intro us vs ds hd hr
   cases us with
   | nil =>
    simp only [D8, U0] at hd; subst hd
    have := hr.1
    cases vs with
    | nil => exact Cl.nil _ _
    | cons _ _ => simp at this
   | cons _ _ => simp [D8] at hd
  | cons ft B0 ih =>
   intro us vs ds hd hr
   cases us with
   | nil => simp [D8] at hd
   | cons u us =>
    have hl := hr.1
    cases vs with
    | nil => simp at hl
    | cons v vs =>
     simp only [D8] at hd
     split at hd
     ·rename_i d pB e1 e2
      simp only [U0] at hd; subst hd
      refine Cl.cons (IA (fun o e => ?_) hr.head e1) (ih us vs pB e2 hr.tail)
      subst e
      cases ft <;> simp [DS, O0.get, rowOf] at e1
     ·cases hd
 exact key B0 _ _ zd br h3
theorem Rt {T : Nat -> Prop} (hs : T3 c h s) {t : TypeId} {m key : UV} {ok : Bool} {m' HU : VV} {K : UV -> O0 -> Option R} {r : R} (hu : QA P t m key ok s K = some r) (hm : RV c h.get m m') (hk : RV c h.get key HU) :
  j6 T c h K r ((Hr P t m' HU ok h).map fun v => (v, h)) := by
 unfold QA at hu
 split at hu
 ·rename_i et kf ag B0 zd ht
  obtain ⟨kt, z, cC, Qt, I5, hz, br, cd, sa⟩ := FZ ht
  split at hu
  ·rename_i kd Qu
   have Za := Qm Qt Qu hk
   obtain ⟨zv, DN, qT, oQ⟩ := UM (c := c) (g := h.get) hz br
   unfold Hr
   simp only [cC, I5 _ _ _ _ Za, if_true]
   split at hu
   ·cases hm
    rw [hz] at hu
    simp only [IV, Option.bind_some, X2, DN]
    exact j6.pure hs (HA qT) hu
   ·rename_i o
    split at hu
    ·rename_i bo rq W2 es ho
     split at hu
     ·rename_i hc
      simp only [Bool.and_eq_true, beq_iff_eq] at hc
      obtain ⟨c1, rfl, c2⟩ := hc
      have c1 := FT.Cu _ _ c1; subst c1
      have c2 := FT.J0 _ _ c2; subst c2
      obtain ⟨b, z8, hρ, hφ, hg, _, cN⟩ := LY hs ho
      have OM : m' = .map b := by
       cases hm with
       | map _ b' _ hb => rw [hρ] at hb; exact hb.symm ▸ rfl
      subst OM
      simp only [IV, hg, Option.bind_some]
      split at hu
      ·rename_i v hv
       rcases Ih Qt Za cN with ⟨f1, f2, f3⟩ | ⟨w, xs, ds, f1, f2, f3, f4, f5⟩
       ·rw [f1]
        simp only [DN, Option.getD_none, Option.isSome_none]
        rw [f3] at hv
        rw [f2] at hu
        have D2 := CN oQ 0 B0.length (by omega)
        rw [List.drop_zero, List.take_length] at D2
        rw [List.drop_zero, show (C1 zv).take B0.length = C1 zv by rw [<- oQ.Ar, List.take_length]] at D2
        obtain ⟨v', g1, g2⟩ := Aj hv D2
        have : v' = zv := by
         obtain ⟨p1, p2⟩ := sa (C1 zv)
         cases ag with
         | true =>
          rw [p1 rfl] at g1
          simp only [U0] at g1
          rw [<- g1]
          cases z <;> simp only [isAgg] at cd <;> (try (cases cd; done))
          cases qT; rfl
         | false =>
          have C7 : C1 zv = [zv] := by
           cases qT with
           | agg => cases cd
           | own o v ho h hv => rcases hv with rfl | ⟨b, i, n, cp, z, rfl⟩ <;> rfl
           | X0 o v ps ho h hv => rcases hv with rfl | ⟨b, i, n, cp, z, rfl⟩ <;> rfl
           | fz B0 es cut v h hc => cases h <;> rfl
           | nn B0 es v h hv => cases h <;> rfl
           | pz B0 d v h => cases h <;> rfl
           | Bn ts B0 d v h => cases h <;> rfl
           | undef v => exact (Xl hz).elim
           | _ => rfl
          rw [p2 rfl zv C7] at g1
          simp only [U0] at g1
          exact g1.symm
        rw [this] at g2
        exact j6.pure hs (HA g2) hu
       ·rw [f1]
        simp only [DN, Option.getD_some, Option.isSome_some]
        rw [f3] at hv
        rw [f2] at hu
        have D2 := CN f5 0 B0.length (by omega)
        rw [List.drop_zero, List.take_length] at D2
        rw [List.drop_zero, show xs.take B0.length = xs by rw [<- f5.Ar, List.take_length]] at D2
        obtain ⟨v', g1, g2⟩ := Aj hv D2
        have : v' = w := by
         obtain ⟨p1, p2⟩ := sa xs
         cases ag with
         | true =>
          rw [p1 rfl] at g1
          simp only [U0] at g1
          rw [<- g1]; exact (show w = .agg xs from f4).symm
         | false =>
          rw [p2 rfl w f4] at g1
          simp only [U0] at g1
          exact g1.symm
        rw [this] at g2
        exact j6.pure hs (HA g2) hu
      ·cases hu
     ·cases hu
    ·cases hu
   ·cases hu
  ·cases hu
 ·cases hu
theorem WR (hs : T3 c h s) {o b : Nat} {kf : FT} {ag : Bool} {B0 : List FT} {es Aw : List (D × List D)} {z8 CI : List (VV × VV)} (hρ : c.ρ o = .map b) (hφ : c.φ o = one b) (hg : h.get b = some (.map z8)) (hk : isKey kf = true)
  (hm : AS h.get c.K kf ag B0 Aw CI) : T3 c (h.put b (.map CI)) (s.T8 o (.map kf ag B0 Aw)) /\ u0 c h c (h.put b (.map CI)) (· = b) := by
 have R3 := A0.E7 hg
 have gp : ∀ b', (h.put b (.map CI)).get b' = if b' = b then some (.map CI) else h.get b' := fun b' => A0.Cy h b _ R3 b'
 have T6 : (h.put b (.map CI)).next = h.next := rfl
 have cells : ∀ b' k, (h.put b (.map CI)).get b' = some (.cells k) -> h.get b' = some (.cells k) := by
  intro b' k hb
  rw [gp] at hb
  split at hb
  ·cases hb
  ·exact hb
 have hL : u0 c h c (h.put b (.map CI)) (· = b) := by
  refine ⟨Nat.le_refl _, fun _ _ => rfl, fun _ h => h, Nat.le_refl _, fun b' o' hb hn => ?_, fun b' k hb => ⟨k, ?_, rfl⟩, fun b' vK hb => ?_, fun _ h => .inl h, fun o' f h => .inr ⟨o', h⟩, fun _ _ _ h => h⟩
  ·rw [gp]
   split
   ·rename_i e
    subst e
    rw [hg] at hb; simp only [U0] at hb; subst hb
    exact (hn rfl).elim
   ·exact hb
  ·rw [gp]
   split
   ·rename_i e; subst e; rw [hg] at hb; cases hb
   ·exact hb
  ·rw [gp]
   split
   ·exact ⟨_, rfl⟩
   ·exact ⟨vK, hb⟩
 have qU : WF (h.put b (.map CI)).get (h.put b (.map CI)).next := by
  have hw := hs.wf
  refine ⟨fun b' o' hb => ?_, fun b' k hb => hw.Q1 b' k (cells b' k hb), fun b' k hb Gs b2 k2 Er Y3 => hw.Q2 b' k (cells b' k hb) Gs b2 k2 (cells b2 k2 Er) Y3, fun b' k hb hl b2 k2 Er hf => hw.last b' k (cells b' k hb) hl b2 k2 (cells b2 k2 Er) hf,
   fun b' k hb hl b2 k2 Er hf Iu => hw.Gq b' k (cells b' k hb) hl b2 k2 (cells b2 k2 Er) hf Iu⟩
  rw [gp] at hb
  split at hb
  ·rename_i e; subst e; exact R3
  ·exact hw.lt b' o' hb
 refine ⟨hs.BK hφ qU hL ?_, hL⟩
 rw [hρ]
 have uJ := hm.keep (hL.keeps (fun f hK e => hs.EJ o _ (L5 hφ) (e ▸ hK)))
 exact .map kf ag B0 Aw b CI (by rw [gp, if_pos rfl]) hk uJ.len uJ.at_
theorem FD {T : Nat -> Prop} (hs : T3 c h s) {t : TypeId} {m key val : UV} {m' HU Xk : VV} {K : UV -> O0 -> Option R} {r : R} (hu : Dv P t m key val s K = some r) (hm : RV c h.get m m') (hk : RV c h.get key HU) (hv : RV c h.get val Xk)
  (hT : ∀ o f, m = .map o -> c.φ o f -> T f) : j6 T c h K r ((CH P t m' HU Xk h).map fun h' => (.undef, h')) := by
 unfold Dv at hu
 split at hu
 ·rename_i et kf ag B0 zd o ht
  obtain ⟨kt, z, cC, Qt, I5, hz, br, cd, sa⟩ := FZ ht
  split at hu
  ·rename_i bo rq W2 es kd ds ho Qu cX
   split at hu
   ·rename_i hc
    simp only [Bool.and_eq_true, beq_iff_eq] at hc
    obtain ⟨⟨c1, rfl, c2⟩, mV, C7⟩ := hc
    have c1 := FT.Cu _ _ c1; subst c1
    have c2 := FT.J0 _ _ c2; subst c2
    have Za := Qm Qt Qu hk
    obtain ⟨b, z8, hρ, hφ, hg, _, cN⟩ := LY hs ho
    have OM : m' = .map b := by
     cases hm with
     | map _ b' _ hb => rw [hρ] at hb; exact hb.symm ▸ rfl
    subst OM
    have ZY : val ≠ .undef := by rintro rfl; simp [I3, En] at C7
    have D2 := hv.cells ZY
    obtain ⟨c1, s1, l1, n1, r1, p1, d1⟩ := Ca hs (I3 val)
    have hd := d1 _ D2 _ _ cX
    have Ff := l1.keeps (fun _ _ h => h)
    have O8 : (freeze s (I3 val)).get o = .map kf ag B0 es := by
     have key : ∀ (us : List UV) (s : O0), s.get o = .map kf ag B0 es -> (freeze s us).get o = .map kf ag B0 es := by
      intro us
      induction us with
      | nil => intro s h; exact h
      | cons u us ih =>
       intro s h
       refine ih _ ?_
       cases u with
       | own q =>
        unfold W4
        simp only
        split
        ·rename_i hq
         rw [O0.C4]
         split
         ·rename_i e; rw [<- e.1, h] at hq; cases hq
         ·exact h
        ·exact h
       | _ => exact h
     exact key _ _ ho
    have tW : c1.φ o = one b := by
     have B2 := s1.obj o
     rw [O8, r1, hρ] at B2
     generalize hf : c1.φ o = fm at B2
     cases B2 with
     | map => rfl
    have cB : WG ag Xk (C1 Xk) := by
     cases ag with
     | true =>
      cases val <;> simp only [isAgg] at mV <;> (try (cases mV; done))
      cases hv; rfl
     | false =>
      show C1 Xk = [Xk]
      cases hv with
      | agg => cases mV
      | own o v ho h hv => rcases hv with rfl | ⟨b, i, n, cp, z, rfl⟩ <;> rfl
      | X0 o v ps ho h hv => rcases hv with rfl | ⟨b, i, n, cp, z, rfl⟩ <;> rfl
      | fz B0 es cut v h hc => cases h <;> rfl
      | nn B0 es v h hv => cases h <;> rfl
      | pz B0 d v h => cases h <;> rfl
      | Bn ts B0 d v h => cases h <;> rfl
      | undef v => exact (ZY rfl).elim
      | _ => rfl
    have VY := WQ Qt (Za.keep Ff) cB hd (cN.keep Ff)
    obtain ⟨q1, q2⟩ := WR s1 (es := es) (by rw [r1]; exact hρ) tW hg Qt VY
    unfold CH
    simp only [cC, I5 _ _ _ _ Za, if_true, hg]
    have NY : ∃ w, X2 HU z8 = some w := by
     rcases Ih Qt Za cN with ⟨f1, _⟩ | ⟨w, xs, pB, f1, _⟩
     ·exact ⟨_, f1⟩
     ·exact ⟨_, f1⟩
    obtain ⟨w, hw⟩ := NY
    rw [hw]
    have l2 : u0 c h c1 h T := l1.mono (fun _ h => h.elim)
    exact ⟨_, _, _, _, c1, rfl, q1, .undef _, l2.trans q2 hs.wf (fun x hx => .inr (hx ▸ hT o _ rfl (L5 hφ))), hu⟩
   ·cases hu
  ·cases hu
 ·cases hu
theorem Ru {T : Nat -> Prop} (hs : T3 c h s) {t kt et : TypeId} (cC : P.underlying t = some (.map kt et)) {m key : UV} {m' HU : VV} {K : UV -> O0 -> Option R} {r : R} (hu : LK P t m key s K = some r) (hm : RV c h.get m m') (hk : RV c h.get key HU)
  (hT : ∀ o f, m = .map o -> c.φ o f -> T f) : ∃ b, m' = .map b /\ Ab P kt HU = true /\ ∃ z8 w, h.get b = some (.map z8) /\ X2 HU z8 = some w /\ j6 T c h K r (some (.tuple [], h.put b (.map (l7 HU z8)))) := by
 unfold LK at hu
 split at hu
 ·rename_i yF kf ag0 fts0 zd o ht
  obtain ⟨kt', z, lj, Qt, I5, hz, br, cd, sa⟩ := FZ ht
  rw [cC] at lj
  simp only [U0, TypeDesc.map.injEq] at lj
  obtain ⟨rfl, rfl⟩ := lj
  split at hu
  ·rename_i bo ag B0 es kd ho Qu
   split at hu
   ·rename_i hc
    have hc := FT.Cu _ _ hc; subst hc
    have Za := Qm Qt Qu hk
    obtain ⟨b, z8, hρ, hφ, hg, _, cN⟩ := LY hs ho
    have OM : m' = .map b := by
     cases hm with
     | map _ b' _ hb => rw [hρ] at hb; exact hb.symm ▸ rfl
    subst OM
    have uc := XG Qt Za cN
    obtain ⟨q1, q2⟩ := WR hs (es := es) hρ hφ hg Qt uc
    have NY : ∃ w, X2 HU z8 = some w := by
     rcases Ih Qt Za cN with ⟨f1, _⟩ | ⟨w, xs, pB, f1, _⟩
     ·exact ⟨_, f1⟩
     ·exact ⟨_, f1⟩
    obtain ⟨w, hw⟩ := NY
    exact ⟨b, rfl, I5 _ _ _ _ Za, z8, w, hg, hw, _, _, _, _, c, rfl, q1, RV.tuple' (E4.nil _ _), q2.mono (fun x hx => hx ▸ hT o _ rfl (L5 hφ)), hu⟩
   ·cases hu
  ·cases hu
 ·cases hu
theorem iG {T : Nat -> Prop} (hs : T3 c h s) (kf : FT) (ag : Bool) (B0 : List FT) (hk : isKey kf = true) : ∃ c', T3 c' (h.push (.map [])) (s.push (.map kf ag B0 [])) /\ RV c' (h.push (.map [])).get (.map s.len) (.map h.next) /\ u0 c h c' (h.push (.map [])) T := by
 have hg : (h.push (.map [])).get h.next = some (.map []) := by rw [A0.V0, if_pos rfl]
 have hL : ∀ T : Nat -> Prop, u0 c h (c.add (.map h.next) (one h.next)) (h.push (.map [])) T := fun T => hs.s9 _ _ (by simp) (fun b o hb => I8 _ hb) (fun f hf => by cases hf; exact Nat.le_refl _) T
 have hρ : (c.add (.map h.next) (one h.next)).ρ c.n = .map h.next := by show (if c.n = c.n then _ else _) = _; rw [if_pos rfl]
 refine ⟨c.add (.map h.next) (one h.next), hs.add ?_ (by simp) (fun b o hb => I8 _ hb) (fun f hf => by cases hf; exact ⟨Nat.le_refl _, by simp⟩) ?_, ?_, hL _⟩
 ·exact hs.wf.push _ (fun k hk => by cases hk)
 ·exact .map kf ag B0 [] h.next [] hg hk rfl (by simp)
 ·exact .map _ _ (by rw [hs.len]; exact Nat.lt_succ_self _) (by rw [hs.len]; exact hρ)
end
section
variable {P : Program} {R : Type} {c : Cx} {h : A0} {s : O0}
def gD (L3 : Nat) (x : VV) (lo hi mx : Option VV) : Option VV :=
  match x with
  | .nilslice => R4 0 .nilslice lo hi mx
  | .str b => R4 0 (.str b) lo hi mx
  | x => R4 L3 x lo hi mx
theorem HB {T : Nat -> Prop} (hs : T3 c h s) {e : R1} {e' : Env} (he : A6 c h.get e e') {L3 : Nat} {x : UV} {x' : VV} {lo hi mx : Option Operand} {K : UV -> O0 -> Option R} {r : R} (hu : Iy L3 x (lo.map (F7 e)) (hi.map (F7 e)) (mx.map (F7 e)) s K = some r) (hx : RV c h.get x x') :
    j6 T c h K r ((gD L3 x' (lo.map (ev e')) (hi.map (ev e')) (mx.map (ev e'))).map fun v => (v, h)) := by
  unfold Iy at hu
  split at hu
  · cases hu
  · rename_i l hl
    split at hu
    · 
      cases hx
      split at hu
      · rename_i x0 g hg hm
        obtain ⟨q, hK⟩ := j3 hu
        simp only [Bool.and_eq_true, decide_eq_true_eq, H9] at q
        have hm : mx = none := by cases mx with | none => rfl | some _ => cases hm
        subst hm
        have a1 := K9 he (d := 0) hl q.1.1
        have a2 := K9 he hg q.2.1
        simp only [gD, R4, a1, a2, Option.map_none]
        rw [if_pos ⟨by omega, q.2.2⟩]
        exact j6.pure hs (.str _) hK
      · cases hu
    · cases hx
      split at hu
      · rename_i x0 x1 x2 g m hg hm I5
        obtain ⟨q, hK⟩ := j3 hu
        simp only [decide_eq_true_eq] at q
        obtain ⟨rfl, rfl, rfl⟩ := q
        have a1 := K9 he (d := 0) hl (Int.le_refl _)
        have a2 := K9 he (d := 0) hg (Int.le_refl _)
        have a3 := K9 he (d := 0) hm (Int.le_refl _)
        simp only [Int.toNat_zero] at a1 a2 a3
        simp only [gD, R4, a1, a2, a3]
        rw [if_pos ⟨trivial, by simpa using I5⟩]
        exact j6.pure hs .nilslice hK
      · cases hu
    · rename_i x0 n1 n2
      split at hu
      · cases hu
      · rename_i B0 es cE
        obtain ⟨c1, s1, l1, m1, r1, M3⟩ := Rs hs cE hx
        split at hu
        · rename_i x1 x2 g hz hg
          have hz := B6 hz
          have fin : ∀ (cut : Bool) (gg : Int), EH (es.length : Nat) (hi.map (F7 e)) = some gg -> 0 <= l -> l <= gg -> 0 <= gg -> gg.toNat <= es.length -> (mx = none /\ cut = false \/ ∃ m, mx = some m /\ Y4 (ev e' m) = some gg.toNat /\ hi.isSome = true) ->
              K (.fz B0 (part es l.toNat gg.toNat) cut) (W4 s x) = some r -> j6 T c h K r ((gD L3 x' (lo.map (ev e')) (hi.map (ev e')) (mx.map (ev e'))).map fun v => (v, h)) := by
            intro cut gg xZ q1 q2 q3 q4 q5 hK
            have a1 := K9 he (d := 0) hl q1
            have a2 := K9 he xZ q3
            obtain ⟨v, v1, v2, v3⟩ := M3.Xy (z := L3) hz (l := l.toNat) (gg := gg.toNat) (by omega) q4 (lo.map (ev e')) (hi.map (ev e')) (mx.map (ev e')) a1 a2 (by
              rcases q5 with ⟨rfl, _⟩ | ⟨m, rfl, q6, q7⟩
              · exact .inl rfl
              · exact .inr ⟨_, rfl, q6, by simpa using q7⟩)
            have wa : (gD L3 x' (lo.map (ev e')) (hi.map (ev e')) (mx.map (ev e'))) = some v := by
              cases x' <;> first | exact v1 | (cases M3)
            rw [wa]
            refine ⟨v, h, _, _, c1, rfl, s1, .fz B0 _ cut v v2 (fun hc => v3 ?_), l1.mono (fun _ h => h.elim), hK⟩
            rcases q5 with ⟨_, rfl⟩ | ⟨m, rfl, _⟩
            · cases hc
            · simp
          split at hu
          · rename_i hm
            obtain ⟨q, hK⟩ := j3 hu
            simp only [Bool.and_eq_true, decide_eq_true_eq, H9] at q
            exact fin false g hg q.1.1 q.1.2 q.2.1 q.2.2 (.inl ⟨(by cases mx with | none => rfl | some _ => cases hm), rfl⟩) hK
          · rename_i um hm
            split at hu
            · rename_i y1 y2 m hh iZ
              obtain ⟨q, hK⟩ := j3 hu
              simp only [Bool.and_eq_true, decide_eq_true_eq, H9] at q
              obtain ⟨⟨⟨q1, q2⟩, q3, q4⟩, q5⟩ := q
              subst q5
              cases mx with
              | none => cases hm
              | some mo =>
                simp only [Option.map_some, U0] at hm
                have hr := j1 he mo
                rw [hm] at hr
                have hn : Y4 (ev e' mo) = some m.toNat := by
                  cases um <;> simp only [Iz] at iZ <;> (try (cases iZ; done))
                  simp only [U0] at iZ; subst iZ
                  generalize hv : ev e' mo = v at hr
                  cases hr
                  simp only [Y4]; rw [if_pos q3]
                refine fin true m hg q1 q2 q3 q4 (.inr ⟨mo, rfl, hn, ?_⟩) hK
                cases hi with
                | none => cases hh
                | some _ => rfl
            · cases hu
        · cases hu
theorem within_iff {i : Int} {n : Nat} (h : within i n = true) : 0 <= i /\ i.toNat < n := by simpa [within] using h
theorem A9 {g : VG} {u : UV} {v : VV} {j : Int} (hj : Iz u = some j) (hr : RV c g u v) (h0 : 0 <= j) : Y4 v = some j.toNat := by
  cases u <;> simp only [Iz] at hj <;> (try (cases hj; done))
  simp only [U0] at hj; subst hj
  cases hr
  simp only [Y4]; rw [if_pos h0]
theorem E4.inv1 {g : VG} {x : UV} {xs : List VV} (h : E4 c g [x] xs) : ∃ x', xs = [x'] /\ RV c g x x' := by
  have := h.1
  match xs, this, h with
  | [x'], _, h => exact ⟨x', rfl, h.head⟩
theorem E4.inv2 {g : VG} {x y : UV} {xs : List VV} (h : E4 c g [x, y] xs) : ∃ x' y', xs = [x', y'] /\ RV c g x x' /\ RV c g y y' := by
  have := h.1
  match xs, this, h with
  | [x', y'], _, h => exact ⟨x', y', rfl, h.head, h.tail.head⟩
theorem Xo {T : Nat -> Prop} (hs : T3 c h s) {b : Builtin} {t : Option TypeId} {xs : List UV} {kP : List VV} {K : UV -> O0 -> Option R} {r : R} (hu : Zs P b t xs s K = some r) (hx : E4 c h.get xs kP) :
    (b = .len /\ ∃ x', kP = [x'] /\ j6 T c h K r (match t.bind P.underlying, x' with
      | some .string, .str s => some (.int .i64 s.size, h)
      | some (.slice _), .nilslice => some (.int .i64 0, h)
      | some (.slice _), .slice _ _ n _ _ => some (.int .i64 n, h)
      | some (.map _ _), m => (IV h m).map fun es => (.int .i64 es.length, h)
      | some (.array n _), _ => some (.int .i64 n, h)
      | _, _ => none)) \/
    (∃ k a j d, kP = [.int k a, .int j d] /\ ((b = .max /\ j6 T c h K r (some (.int k (if d > a then d else a), h))) \/ (b = .min /\ j6 T c h K r (some (.int k (if d < a then d else a), h))))) := by
  unfold Zs at hu
  split at hu
  · rename_i x
    refine .inl ⟨rfl, ?_⟩
    obtain ⟨x', rfl, hr⟩ := hx.inv1
    refine ⟨x', rfl, ?_⟩
    split at hu
    · rename_i b ht
      rw [ht]
      cases hr
      exact j6.pure hs (.int _ _) hu
    · rename_i el ht
      rw [ht]
      split at hu
      · rename_i n Yh hn
        rcases Zr hs hn hr (fun b e1 => by rw [e1] at Yh; cases Yh) (fun e1 => by rw [e1] at Yh; cases Yh) (fun o e1 => by rw [e1] at Yh; cases Yh) with ⟨e1, rfl⟩ | ⟨b, i, m, cp, z, e1, rfl⟩
        · rw [e1]; exact j6.pure hs (.int _ _) hu
        · rw [e1]; exact j6.pure hs (.int _ _) hu
      · cases hu
    · rename_i n el ht
      rw [ht]
      exact j6.pure hs (.int _ _) hu
    · rename_i ka el ht
      rw [ht]
      cases hr
      exact j6.pure hs (.int _ _) hu
    · rename_i ka el o ht
      rw [ht]
      split at hu
      · rename_i kf ag B0 es ho
        obtain ⟨b, z8, hρ, hφ, hg, _, cN⟩ := LY hs ho
        have OM : x' = .map b := by
          cases hr with
          | map _ b' _ hb => rw [hρ] at hb; exact hb.symm ▸ rfl
        subst OM
        simp only [IV, hg, Option.map_some]
        have hl : (z8.length : Int) = (es.length : Nat) := by rw [cN.len]
        rw [hl]
        exact j6.pure hs (.int _ _) hu
      · cases hu
    · cases hu
  · rename_i k a j d
    obtain ⟨x', y', rfl, h1, h2⟩ := hx.inv2
    cases h1; cases h2
    exact .inr ⟨_, _, _, _, rfl, .inl ⟨rfl, j6.pure hs (.int _ _) hu⟩⟩
  · rename_i k a j d
    obtain ⟨x', y', rfl, h1, h2⟩ := hx.inv2
    cases h1; cases h2
    exact .inr ⟨_, _, _, _, rfl, .inr ⟨rfl, j6.pure hs (.int _ _) hu⟩⟩
  · cases hu
theorem QB {T : Nat -> Prop} (hs : T3 c h s) {cl : Call} {xs : List UV} {e' : Env} {K : UV -> O0 -> Option R} {r : R} (hu : Lz P cl xs s K = some r) (hx : E4 c h.get xs (I4 e' cl.args)) (hT : cl.callee = .builtin .append -> ∀ o f, xs.head? = some (.own o) -> c.φ o f -> T f) (xw : cl.callee = .builtin .delete -> ∀ o f, xs.head? = some (.map o) -> c.φ o f -> T f) : j6 T c h K r (F8 P CP cl e' h) := by
  obtain ⟨callee, args, pD⟩ := cl
  unfold Lz at hu
  split at hu
  · rename_i hc
    simp only at hc hu hx
    subst hc
    split at hu
    · rename_i x y t u ht Sy
      obtain ⟨x', y', e1, h1, h2⟩ := hx.inv2
      unfold F8
      simp only [e1, ht, Sy]
      have iP : GG P t x y s K = some r -> ∃ e, P.underlying t = some (.slice e) := by
        intro ot
        unfold GG at ot
        split at ot
        · rename_i el B0 ht F4; exact ⟨el, ht⟩
        · cases ot
      split at hu
      · rename_i q hq
        obtain ⟨el, Ka⟩ := iP hu
        rw [Ka, hq]
        exact Jy hs hu h1 h2 Ka (fun o f e => hT rfl o f (by rw [e]; rfl))
      · rename_i hq
        obtain ⟨el, Ka⟩ := iP hu
        rw [Ka, hq]
        exact Jy hs hu h1 h2 Ka (fun o f e => hT rfl o f (by rw [e]; rfl))
      · cases hu
    · cases hu
  · rename_i hc
    simp only at hc hu hx
    subst hc
    split at hu
    · rename_i m k t Ad
      obtain ⟨x', y', e1, h1, h2⟩ := hx.inv2
      unfold F8
      simp only [e1, Ad, Option.bind_some]
      have wi : ∃ kt et, P.underlying t = some (.map kt et) := by
        unfold LK at hu
        split at hu
        · rename_i et kf ag B0 zd o ht
          obtain ⟨kt, z, cC, _⟩ := FZ ht
          exact ⟨_, _, cC⟩
        · cases hu
      obtain ⟨kt, et, cC⟩ := wi
      obtain ⟨b, rfl, I5, z8, w, hg, hf, Gg⟩ := Ru (T := T) hs cC hu h1 h2 (fun o f e => xw rfl o f (by rw [e]; rfl))
      simp only [cC, I5, if_true, hg, hf]
      exact Gg
    · cases hu
  · rename_i b hb Er hc
    simp only at hc hu hx
    subst hc
    unfold F8
    simp only
    rcases Xo hs hu hx with ⟨rfl, x', e1, Gg⟩ | ⟨k, a, j, d, e1, ⟨rfl, Gg⟩ | ⟨rfl, Gg⟩⟩
    · rw [e1]; exact Gg
    · rw [e1]; exact Gg
    · rw [e1]; exact Gg
  · cases hu
theorem RD.SG {g : VG} {K' : Nat -> Prop} {B0 : List FT} {d : D} {v : VV} (hd : RD g K' (.ptr B0) d v) (hs : d.IJ = true) : ∃ b, v = .ptr b 0 0 /\ RD g K' (.ptr B0) (.row [Vl d]) (.ptr b 0 0) := by
  cases hd with
  | YQ => cases hs
  | ptr B0 ds b k cs hg hK P8 hl Zd hr => exact ⟨b, rfl, .ptr B0 ds b k cs hg hK P8 hl Zd hr⟩
theorem RD.aq {g : VG} {K' : Nat -> Prop} {ts : List Nat} {B0 : List FT} {d : D} {v : VV} (hd : RD g K' (.EN ts B0) d v) (hs : d.IJ = true) : ∃ t ft d' v', v = .iface t v' /\ d = .row [[.int t, d']] /\ Fa ts B0 t = some ft /\ RD g K' ft d' v' := by
  cases hd with
  | OV => cases hs
  | EN ts B0 t ft d' v' ht h => exact ⟨t, ft, d', v', rfl, rfl, ht, h⟩
theorem Bv {T : Nat -> Prop} (hs : T3 c h s) {t : TypeId} {ok : Bool} {K : UV -> O0 -> Option R} {r : R} (hu : Ox P t ok s K = some r) : j6 T c h K r (if ok then (D6 P t).map fun z => (.tuple [z, .bool false], h) else none) := by
  unfold Ox at hu
  split at hu
  · split at hu
    · rename_i z hz
      obtain ⟨zv, h1, h2, _⟩ := Bu (c := c) h.get hz
      rw [h1]
      exact j6.pure hs (RV.tuple' (E4.cons h2 (E4.cons (.bool false) (E4.nil _ _)))) hu
    · cases hu
  · cases hu
theorem Ot {g : VG} {ok : Bool} {u : UV} {v : VV} (hr : RV c g u v) : RV c g (Zo ok u) (if ok then .tuple [v, .bool true] else v) := by
  cases ok with
  | true => exact RV.tuple' (E4.cons hr (E4.cons (.bool true) (E4.nil _ _)))
  | false => exact hr
theorem Rv {T : Nat -> Prop} (hs : T3 c h s) {t : TypeId} {ok : Bool} {x : UV} {x' : VV} {K : UV -> O0 -> Option R} {r : R} (hu : QC P t ok x s K = some r) (hx : RV c h.get x x') :
    j6 T c h K r (match (generalizing := false) P.underlying t, x' with
    | some (.interface _), _ => none
    | some _, .iface t' v =>
      if t' = t then some (if ok then .tuple [v, .bool true] else v, h)
      else if ok then (D6 P t).map fun z => (.tuple [z, .bool false], h) else none
    | some _, .I1 => if ok then (D6 P t).map fun z => (.tuple [z, .bool false], h) else none
    | _, _ => none) := by
  unfold QC at hu
  split at hu
  · cases hu
  · rename_i d oY ht
    rw [ht]
    have go : ∀ {x' : VV}, j6 T c h K r (match (generalizing := false) x' with
        | .iface t' v => if t' = t then some (if ok then .tuple [v, .bool true] else v, h) else if ok then (D6 P t).map fun z => (.tuple [z, .bool false], h) else none
        | .I1 => if ok then (D6 P t).map fun z => (.tuple [z, .bool false], h) else none
        | _ => none) -> j6 T c h K r (match (generalizing := false) some d, x' with
        | some (.interface _), _ => none
        | some _, .iface t' v => if t' = t then some (if ok then .tuple [v, .bool true] else v, h) else if ok then (D6 P t).map fun z => (.tuple [z, .bool false], h) else none
        | some _, .I1 => if ok then (D6 P t).map fun z => (.tuple [z, .bool false], h) else none
        | _, _ => none) := by
      intro x' hh
      cases d with
      | interface ms => exact (oY ms rfl).elim
      | _ => cases x' <;> exact hh
    refine go ?_
    split at hu
    · rename_i t' v
      cases hx with
      | iface _ _ v' hv =>
        simp only
        split at hu
        · rename_i hb
          have := B6 hb; subst this
          rw [if_pos rfl]
          exact j6.pure hs (Ot hv) hu
        · rename_i hb
          rw [if_neg (by rintro rfl; rw [Nat.beq_refl] at hb; cases hb)]
          exact Bv hs hu
    · cases hx
      exact Bv hs hu
    · rename_i ts B0 d'
      cases hx with
      | Bn _ _ _ _ M3 =>
        split at hu
        · rename_i ft hl
          cases M3 with
          | OV =>
            simp only [KB, cond_false] at hu
            exact Bv hs hu
          | EN _ _ t' vF d2 v2 ZZ h2 =>
            simp only [KB] at hu
            by_cases he : t' = t
            · subst he
              rw [hl] at ZZ; cases ZZ
              simp only [decide_true, cond_true] at hu
              simp only [if_true]
              exact j6.pure hs (Ot (IT h2)) hu
            · rw [decide_eq_false (by omega), cond_false] at hu
              simp only [if_neg he]
              exact Bv hs hu
        · rename_i hl
          cases M3 with
          | OV => exact Bv hs hu
          | EN _ _ t' vF d2 v2 ZZ h2 =>
            simp only
            rw [if_neg (by rintro rfl; rw [hl] at ZZ; cases ZZ)]
            exact Bv hs hu
    · cases hu
  · cases hu
def Cr (o : Oper) (e : R1) : List Nat :=
  match o.op with
  | .store _ a _ => match F7 e a with
    | .ptr o _ => [o]
    | .u7 o _ _ => [o]
    | .m7 _ o _ _ _ _ => [o]
    | _ => []
  | .call { callee := .builtin .append, args, .. } => match AZ e args with
    | .own o :: _ => [o]
    | _ => []
  | .call { callee := .builtin .delete, args, .. } => match AZ e args with
    | .map o :: _ => [o]
    | _ => []
  | .mapUpdate _ m _ _ => match F7 e m with
    | .map o => [o]
    | _ => []
  | .insert _ m _ _ => match F7 e m with
    | .map o => [o]
    | _ => []
  | _ => []
theorem Zx {g : VG} {el : TypeId} {B0 : List FT} {n j : Nat} {cs : List UV} {vs : List VV} {rows : List (List D)} {u : UV} (ha : kV P el n cs = some (B0, rows)) (hv : DQ P el (L9 0 B0 (elem j rows)) = some u) (hj : j < n) (hr : E4 c g cs vs) :
    ∃ v, l9 P el vs (j * P.cellsOf el) = some v /\ RV c g u v := by
  unfold kV at ha
  split at ha
  · rename_i W2 Qw
    split at ha
    · rename_i rows' hb F4
      simp only [U0, Prod.mk.injEq] at ha
      obtain ⟨rfl, rfl⟩ := ha
      simp only [Bool.and_eq_true] at hb
      have hm := B6 hb.1
      have hl := B6 hb.2
      have kD := QM F4 hj hr
      have D2 := CN kD 0 W2.length (by omega)
      rw [List.drop_zero, List.take_length, List.drop_zero, show (((vs.drop (j * W2.length)).take W2.length).take W2.length) = (vs.drop (j * W2.length)).take W2.length by rw [List.take_take, Nat.min_self]] at D2
      obtain ⟨v', g1, g2⟩ := Aj hv D2
      refine ⟨v', ?_, g2⟩
      unfold l9
      rw [<- hm, if_pos, g1]
      rw [<- hr.1, hl]
      calc j * W2.length + W2.length = (j + 1) * W2.length := by rw [Nat.add_mul, Nat.one_mul]
        _ <= n * W2.length := Nat.mul_le_mul_right _ hj
    · cases ha
  · cases ha
theorem E9 {T : Nat -> Prop} (hs : T3 c h s) {o : Oper} {e : R1} {e' : Env} (he : A6 c h.get e e') {K : UV -> O0 -> Option R} {r : R} (hu : ZU P o e s K = some r) (hT : ∀ p f, p ∈ Cr o e -> c.φ p f -> T f) : j6 T c h K r (CG P CP o e' h) := by
  obtain ⟨dst, op, ty, pos, after, guard⟩ := o
  unfold ZU at hu
  simp only at hu
  split at hu
  · exact j6.pure hs (j1 he _) hu
  · exact j6.pure hs (j1 he _) hu
  · 
    rename_i cc a b
    rw [iA]
    have hr := j1 he cc
    split at hu
    · rename_i p hp
      rw [hp] at hr
      generalize ev e' cc = v at hr
      cases hr
      cases p with
      | true => exact j6.pure hs (j1 he _) hu
      | false => exact j6.pure hs (j1 he _) hu
    · cases hu
  · 
    rename_i t
    rw [bT]
    split at hu
    · rename_i z hz hn
      obtain ⟨zv, z1, z2, z3, z4, z5⟩ := Bu (c := c) h.get hz
      have hn : P.cellsOf t ≠ 0 := by intro e; rw [e] at hn; cases hn
      rw [z1]
      simp only
      rw [if_neg hn]
      have C7 : (I3 z).all En = true := by
        rw [List.all_eq_true]
        intro u lh
        obtain ⟨m, hm⟩ := List.getElem?_of_mem lh
        have R3 : m < (C1 zv).length := by rw [<- z3.1]; exact (List.getElem?_eq_some_iff.1 hm).1
        have hv := List.all_eq_true.1 z5 _ (List.getElem_mem R3)
        have sM := z3.2 m u _ hm (List.getElem?_eq_getElem R3)
        generalize (C1 zv)[m] = vv at sM hv
        cases sM with
        | undef =>
          
          obtain ⟨z', w1, w2⟩ := Du hz
          exfalso
          have key : ∀ (d : Nat) (x : VV) (u : UV), p8 d x = some u -> UV.undef ∉ I3 u := by
            intro d
            induction d with
            | zero => intro x u h; simp [p8] at h
            | succ d ih =>
              intro x u h
              cases x <;> simp only [p8] at h <;> (try (cases h; done)) <;> (try (simp only [U0] at h; subst h; simp [I3]; done))
              rename_i cs
              simp only [Option.map_eq_some_iff] at h
              obtain ⟨us, g1, rfl⟩ := h
              simp only [I3]
              clear ih
              have : ∀ (d : Nat) (x : VV), p8 d x ≠ some .undef := by
                intro d x hx
                cases d with
                | zero => simp [p8] at hx
                | succ d => cases x <;> simp [p8] at hx
              induction cs generalizing us with
              | nil => simp only [p8.go, U0] at g1; subst g1; simp
              | cons v vs tV =>
                simp only [p8.go] at g1
                split at g1
                · rename_i a b h1 h2
                  simp only [U0] at g1; subst g1
                  intro hm
                  rcases List.mem_cons.1 hm with hm | hm
                  · subst hm; exact this d v h1
                  · exact tV b h2 hm
                · cases g1
          exact key 3 z' z w2 (List.mem_of_getElem? hm)
        | agg => cases hv
        | tuple => cases hv
        | _ => rfl
      obtain ⟨c1, s1, v1, l1⟩ := Wi (T := T) hs z3 C7
      rw [z4] at s1 v1 l1
      exact ⟨_, _, _, _, c1, rfl, s1, v1, l1, hu⟩
    · cases hu
  · 
    rename_i t x
    rw [lH]
    split at hu
    · rename_i hc
      simp only [Bool.and_eq_true, Bool.not_eq_true'] at hc
      obtain ⟨⟨q1, q2⟩, q3⟩ := hc
      have q1 := B6 q1
      have q2 : P.cellsOf t ≠ 0 := by intro e; rw [e] at q2; cases q2
      have ZY : F7 e x ≠ .undef := by intro e1; rw [e1] at q3; simp [I3, En] at q3
      have D2 := (j1 he x).cells ZY
      obtain ⟨c1, s1, v1, l1⟩ := Wi (T := T) hs D2 q3
      rw [if_pos ⟨D2.1.symm.trans q1, q2, D2.one q3⟩]
      rw [<- D2.1, q1] at s1 v1 l1
      exact ⟨_, _, _, _, c1, rfl, s1, v1, l1, hu⟩
    · cases hu
  · 
    rename_i t parts
    rw [bS]
    split at hu
    · rename_i v hv
      obtain ⟨p1, p2⟩ := HD he parts
      obtain ⟨v', e1, e2⟩ := Ud hv p1 p2
      rw [e1]
      exact j6.pure hs e2 hu
    · cases hu
  · 
    rename_i t len parts
    rw [Gp]
    split at hu
    · rename_i B0 es cs hb
      obtain ⟨p1, p2⟩ := HD he parts
      cases ht : P.underlying t with
      | none => simp [BJ, ht] at hb
      | some d =>
        cases d with
        | slice el => exact Ku hs ht hb p1 p2 hu
        | _ => simp [BJ, ht] at hb
    · cases hu
  · 
    rename_i t a
    rw [LV]
    split at hu
    · rename_i v hv
      obtain ⟨v', e1, e2⟩ := Ow hs hv (j1 he a)
      rw [e1]
      exact j6.pure hs e2 hu
    · cases hu
  · 
    rename_i t a x
    rw [Sf]
    split at hu
    · rename_i s' J6
      have ZY : F7 e x ≠ .undef := by intro e1; rw [e1] at J6; simp [Pw, I3, En] at J6
      obtain ⟨h', c', e1, e2, e3⟩ := UZ (T := T) hs J6 (j1 he a) (j1 he x) ZY (fun o f ha => hT o f (by
        simp only [Cr]
        rcases ha with ⟨g, ha⟩ | ⟨i, g, ha⟩ | ⟨q1, q2, q3, q4, q5, ha⟩ <;> rw [ha] <;> simp))
      rw [e1]
      exact ⟨_, _, _, _, c', rfl, e2, .undef _, e3, hu⟩
    · cases hu
  · 
    rename_i x
    rw [FU]
    have hr := j1 he x
    split at hu <;> (try (cases hu; done))
    all_goals
      rename_i hx
      rw [hx] at hr
      generalize ev e' x = v at hr
      have TB := hr
      cases hr
      first
        | exact j6.pure hs TB hu
        | (rename_i M3
           obtain ⟨q, hK⟩ := j3 hu
           first
             | (obtain ⟨b, rfl, h2⟩ := M3.SG q
                exact j6.pure hs (.pn _ _ _ b h2) hK)
             | (obtain ⟨t, ft, d', v', rfl, rfl, h3, h4⟩ := M3.aq q
                exact j6.pure hs TB hK))
  · 
    rename_i op t x y u
    rw [Sg]
    obtain ⟨v, w, e1, e2, e3⟩ := Zw (c := c) (h := h) hu (j1 he x) (j1 he y)
    rw [e1]
    exact j6.pure hs e2 e3
  · 
    rename_i op t x
    rw [hY]
    split at hu
    · rename_i v hv
      obtain ⟨v', e1, e2⟩ := gE hv (j1 he x)
      rw [e1]
      exact j6.pure hs e2 hu
    · cases hu
  · 
    rw [VE]
    exact Xq hs hu (j1 he _)
  · 
    rename_i t x
    have key : CG P CP ⟨dst, .makeInterface t x, ty, pos, after, guard⟩ e' h = (match P.underlying t with
      | some (.interface _) => none
      | some _ => some (.iface t (ev e' x), h)
      | none => none) := rfl
    rw [key]
    split at hu
    · cases hu
    · rename_i d Y3 ht
      rw [ht]
      have : j6 T c h K r (some (.iface t (ev e' x), h)) := j6.pure hs (.iface t _ _ (j1 he x)) hu
      cases d with
      | interface m => exact (Y3 m rfl).elim
      | _ => exact this
    · cases hu
  · 
    rename_i t
    have key : CG P CP ⟨dst, .makeMap t none, ty, pos, after, guard⟩ e' h = some (.map h.next, h.push (.map [])) := rfl
    rw [key]
    split at hu
    · rename_i et kf ag B0 zd ht
      obtain ⟨kt, z, cC, Qt, _⟩ := FZ ht
      obtain ⟨c1, s1, v1, l1⟩ := iG (T := T) hs kf ag B0 Qt
      exact ⟨_, _, _, _, c1, rfl, s1, v1, l1, hu⟩
    · cases hu
  · 
    rename_i t m k ok
    exact Rt hs hu (j1 he m) (j1 he k)
  · 
    rename_i t m k x
    exact FD hs hu (j1 he m) (j1 he k) (j1 he x) (fun o f e1 hf => hT o f (by simp [Cr, e1]) hf)
  · 
    rename_i t m k x
    exact FD hs hu (j1 he m) (j1 he k) (j1 he x) (fun o f e1 hf => hT o f (by simp [Cr, e1]) hf)
  · 
    rename_i t l cc
    have key : CG P CP ⟨dst, .makeSlice t l cc, ty, pos, after, guard⟩ e' h = (match P.underlying t, Y4 (ev e' l), Y4 (ev e' cc) with
      | some (.slice el), some l, some c => match D6 P el with
        | some z =>
          if l <= c /\ c * P.bytesOf el <= R2 /\ c <= R2 /\ P.cellsOf el ≠ 0 then
            some (.slice h.next 0 l (some c) (P.cellsOf el), fresh h (List.replicate c (C1 z)) (P.cellsOf el))
          else none
        | none => none
      | _, _, _ => none) := rfl
    rw [key]
    split at hu
    · rename_i x0 x1 x2 x3 el B0 l' c' ht F4 hl hc
      obtain ⟨Wt, D2, h0⟩ := Ig ht F4
      split at hu
      · rename_i z hz
        obtain ⟨zv, z1, z2, z3, z4, z5⟩ := Bu (c := c) h.get hz
        split at hu
        · rename_i zd br
          obtain ⟨q, hK⟩ := j3 hu
          simp only [Bool.and_eq_true, decide_eq_true_eq] at q
          obtain ⟨⟨q1, q2⟩, q3⟩ := q
          obtain ⟨f1, f2⟩ := Cb q3
          rw [ht, A9 hl (j1 he l) q1, A9 hc (j1 he cc) (by omega)]
          simp only [z1]
          rw [if_pos ⟨by omega, f1, f2, by omega⟩]
          obtain ⟨c1, s1, l1, n1, r1, p1, d1⟩ := Ca hs (I3 z)
          have hd := d1 _ z3 _ _ br
          obtain ⟨c2, m1, m2, m3⟩ := Qi (T := fun _ => False) s1 h0 (n := l'.toNat) (z := P.cellsOf el) (cp := some c'.toNat) (es := List.replicate l'.toNat zd) (xs := List.replicate c'.toNat (C1 zv)) D2.symm (by simp) (fun q e => by cases e; simp; omega)
            ⟨by simp; omega, fun j rr cs g1 g2 => by
              rw [List.getElem?_replicate] at g1 g2
              split at g1 <;> (try (cases g1; done))
              split at g2 <;> (try (cases g2; done))
              cases g1; cases g2; exact hd⟩
          rw [Au] at m2
          exact ⟨_, _, _, _, c2, rfl, m1, m2, (l1.trans m3 hs.wf (fun f h => h.elim)).mono (fun _ h => h.elim), hK⟩
        · cases hu
      · cases hu
    · cases hu
  · 
    rename_i t x lo hi mx
    rw [bQ]
    have hx := j1 he x
    split at hu
    · rename_i x0 b ht hb
      rw [hb] at hx
      have := HB (T := T) hs he hu hx
      rw [ht]
      generalize ev e' x = v at hx this
      cases hx
      exact this
    · cases hu
    · rename_i x0 x1 el ht sS
      rw [ht]
      split at hu
      · cases hu
      · rename_i hn
        have hn : P.cellsOf el ≠ 0 := by intro e; rw [e] at hn; cases hn
        have VK : F7 e x ≠ .undef -> ∀ b, ev e' x ≠ .str b := by
          intro ZY b e1
          rw [e1] at hx
          exact sS b (hx.LN ZY)
        have main : ∀ (q : Option (VV × A0)), (gD (P.cellsOf el) (ev e' x) (lo.map (ev e')) (hi.map (ev e')) (mx.map (ev e'))).map (fun v => (v, h)) = q ->
            (∀ b, ev e' x ≠ .str b) -> j6 T c h K r q -> j6 T c h K r (match some (TypeDesc.slice el), ev e' x with
              | some .string, .str s => (R4 0 (.str s) (lo.map (ev e')) (hi.map (ev e')) (mx.map (ev e'))).map fun v => (v, h)
              | some (.slice el), .slice b i n c z => if P.cellsOf el = 0 then none else (R4 (P.cellsOf el) (.slice b i n c z) (lo.map (ev e')) (hi.map (ev e')) (mx.map (ev e'))).map fun v => (v, h)
              | some (.slice el), .nilslice => if P.cellsOf el = 0 then none else (R4 0 .nilslice (lo.map (ev e')) (hi.map (ev e')) (mx.map (ev e'))).map fun v => (v, h)
              | _, _ => none) := by
          intro q hq qb Gg
          subst hq
          generalize ev e' x = v at Gg qb
          cases v with
          | slice b i n cp z => simp only; rw [if_neg hn]; exact Gg
          | nilslice => simp only; rw [if_neg hn]; exact Gg
          | str b => exact absurd rfl (qb b)
          | _ =>
            obtain ⟨_, _, _, _, _, hh, _⟩ := Gg
            simp [gD, R4] at hh
            try (split at hh <;> simp at hh)
        split at hu
        · rename_i gh gm B0 es Yp UE cE
          split at hu
          · rename_i hz
            have hz := B6 hz
            have iU : F7 e x ≠ .undef := by intro e1; rw [e1] at cE; cases cE
            have Wy : (∃ b, (decide (_ = (0 : Int)) && decide (_ = (0 : Int))) = b /\ cond b _ _ = some r) := ⟨_, rfl, hu⟩
            clear hu
            obtain ⟨bz, wN, hu⟩ := Wy
            cases bz with
            | false => exact main _ rfl (VK iU) (HB hs he hu hx)
            | true =>
            simp only [cond_true] at hu
            simp only [Bool.and_eq_true, decide_eq_true_eq] at wN
            obtain ⟨rfl, rfl⟩ := wN
            obtain ⟨c1, s1, l1, n1, r1, M3⟩ := Rs hs cE hx
            simp only [Option.bind_eq_some_iff, Option.map_eq_some_iff] at Yp UE
            obtain ⟨_, ⟨oh, rfl, rfl⟩, Wn⟩ := Yp
            obtain ⟨_, ⟨om, rfl, rfl⟩, ZW⟩ := UE
            have nh : Y4 (ev e' oh) = some 0 := by simpa using A9 (j := 0) Wn (j1 he oh) (Int.le_refl _)
            have nm : Y4 (ev e' om) = some 0 := by simpa using A9 (j := 0) ZW (j1 he om) (Int.le_refl _)
            refine main _ rfl (VK iU) ?_
            have push : ∀ (v : VV), RO (c1.add v BF) h.get (.row B0 []) v BF -> (v = .nilslice \/ ∃ b i n cp z, v = .slice b i n cp z) -> j6 T c h K r (some (v, h)) := by
              intro v B2 hv
              have ha := s1.add s1.wf (Nat.le_refl _) (fun _ _ h => h) (fun f e => by cases e) B2
              have hL := s1.s9 v BF (h' := h) (Nat.le_refl _) (fun _ _ h => h) (fun f e => by cases e) (fun _ => False)
              refine ⟨v, h, _, _, c1.add v BF, rfl, ha, ?_, (l1.trans hL hs.wf (fun f h => h.elim)).mono (fun _ h => h.elim), hu⟩
              refine .own _ _ ?_ ?_ hv
              · show s.len < c1.n + 1; rw [hs.len, n1]; exact Nat.lt_succ_self _
              · show (if s.len = c1.n then v else c1.ρ s.len) = v
                rw [if_pos (by rw [hs.len, n1])]
            generalize hv : ev e' x = v at M3
            cases v with
            | nilslice =>
              simp only [Option.map_none, Option.map_some, gD, R4, Option.getD_none, Option.getD_some, nh, nm, Option.isSome_some, true_or, and_true, if_true]
              exact push .nilslice (.W7 _) (.inl rfl)
            | slice b i n cp z =>
              obtain ⟨k, g1, g2, g3, g4, g5, g6, g7, g8⟩ := M3.Uq
              have iT : z = P.cellsOf el := by omega
              have hr : R4 (P.cellsOf el) (.slice b i n cp z) none (some (ev e' oh)) (some (ev e' om)) = some (.slice b i 0 (some 0) z) := by
                cases cp with
                | none => simp [R4, nh, nm, iT]
                | some cap => simp [R4, nh, nm, iT]
              simp only [Option.map_none, Option.map_some, gD, hr]
              have hL := s1.s9 (.slice b i 0 (some 0) z) BF (h' := h) (Nat.le_refl _) (fun _ _ h => h) (fun f e => by cases e) (fun _ => False)
              exact push _ (.B7 B0 b i z k g1 (hL.K _ g2) g3 g4 g5 (by have := g8.len; omega)) (.inr ⟨_, _, _, _, _, rfl⟩)
            | _ => cases M3
          · cases hu
        · have iU : F7 e x ≠ .undef := by
            intro e1; rw [e1] at hu
            unfold Iy at hu
            split at hu
            · cases hu
            · simp [Ua] at hu
          exact main _ rfl (VK iU) (HB hs he hu hx)
    · cases hu
  · 
    rename_i st x f
    rw [QX]
    have hr := j1 he x
    split at hu
    · rename_i x0 x1 fs ht
      rw [ht]
      split at hu
      · rename_i fd hf
        split at hu
        · cases hu
        · rename_i hn
          have hn : P.cellsOf fd.type ≠ 0 := by intro e; rw [e] at hn; cases hn
          split at hu <;> (try (cases hu; done))
          · rename_i o g hx
            rw [hx] at hr
            generalize ev e' x = v at hr
            cases hr with
            | ptr _ _ b ho hb => simp only [hf]; rw [if_neg hn]; exact j6.pure hs (.ptr _ _ b ho hb) hu
          · rename_i o i g hx
            rw [hx] at hr
            generalize ev e' x = v at hr
            cases hr with
            | u7 _ _ _ b i0 n cp z ho hb hi => simp only [hf]; rw [if_neg hn]; exact j6.pure hs (.u7 _ _ _ b i0 n cp z ho hb hi) hu
          · rename_i B0 o g n j g2 hx
            rw [hx] at hr
            generalize ev e' x = v at hr
            cases hr with
            | m7 _ _ _ _ _ _ b ho hb hj =>
              simp only [hf]; rw [if_neg hn]
              exact j6.pure hs (show RV c h.get (.m7 B0 o g n j (g2 + fd.offset)) (.ptr b 0 (g + j * B0.length + g2 + fd.offset)) by rw [Nat.add_assoc]; exact .m7 B0 o g n j _ b ho hb hj) hu
          · rename_i B0 es i g hx
            rw [hx] at hr
            generalize ev e' x = v at hr
            cases hr with
            | AX _ _ _ _ b i0 n cp z hb hi => simp only [hf]; rw [if_neg hn]; exact j6.pure hs (.AX _ _ _ _ b i0 n cp z hb hi) hu
          · rename_i B0 d hx
            rw [hx] at hr
            generalize ev e' x = v at hr
            cases hr with
            | pz _ _ _ M3 =>
              obtain ⟨q, hK⟩ := j3 hu
              obtain ⟨b, rfl, h2⟩ := M3.SG q
              simp only [hf]; rw [if_neg hn]
              refine j6.pure hs ?_ hK
              rw [Nat.zero_add]
              exact .pn _ _ _ b h2
          · rename_i B0 ds g hx
            rw [hx] at hr
            generalize ev e' x = v at hr
            cases hr with
            | pn _ _ _ b M3 => simp only [hf]; rw [if_neg hn]; exact j6.pure hs (.pn _ _ _ b M3) hu
      · cases hu
    · cases hu
  · 
    rename_i st x f
    rw [bR]
    have hr := j1 he x
    split at hu
    · rename_i x0 x1 fs cs ht hx
      rw [ht]
      rw [hx] at hr
      generalize ev e' x = v at hr
      cases hr with
      | agg _ vs hl hp =>
        split at hu
        · rename_i fd hf
          split at hu
          · rename_i u xG
            obtain ⟨v', e1, e2⟩ := GC xG ⟨hl, hp⟩
            simp only [hf, e1]
            exact j6.pure hs e2 hu
          · cases hu
        · cases hu
    · cases hu
  · 
    rename_i t x ix
    rw [IS]
    have hr := j1 he x
    have lv := j1 he ix
    split at hu
    · rename_i x0 x1 x2 el o j ht hx hj
      rw [ht]
      rw [hx] at hr
      split at hu
      · rename_i B0 es F4
        split at hu
        · rename_i hz
          have hz := B6 hz
          obtain ⟨q, hK⟩ := j3 hu
          obtain ⟨q1, q2⟩ := within_iff q
          rw [A9 hj lv q1]
          rcases GI hs F4 with ⟨_, h2⟩ | ⟨b, i, n, cp, z, k, g1, g2, g3, g4, g5, g6, g7, g8⟩
          · subst h2; simp at q2
          · generalize ev e' x = v at hr
            cases hr with
            | own _ _ ho hb hv =>
              rw [g1] at hb; subst hb
              simp only
              rw [if_pos ⟨by omega, by omega, by omega⟩]
              exact j6.pure hs (.u7 o _ 0 b i n cp z ho g1 (by omega)) hK
        · cases hu
      · cases hu
    · rename_i x0 x1 x2 el B0 es cut j ht hx hj
      rw [ht]
      rw [hx] at hr
      split at hu
      · rename_i hz
        have hz := B6 hz
        obtain ⟨q, hK⟩ := j3 hu
        obtain ⟨q1, q2⟩ := within_iff q
        rw [A9 hj lv q1]
        generalize ev e' x = v at hr
        cases hr with
        | fz _ _ _ _ M3 hc =>
          cases v with
          | nilslice => cases M3; simp at q2
          | slice b i n cp z =>
            obtain ⟨k, g1, g2, g3, g4, g5, g6, g7, g8⟩ := M3.Uq
            simp only
            rw [if_pos ⟨by omega, by omega, by omega⟩]
            exact j6.pure hs (.AX B0 es _ 0 b i n cp z M3 (by omega)) hK
          | _ => cases M3
      · cases hu
    · rename_i x0 x1 x2 n el o f j ht hx hj
      rw [ht]
      rw [hx] at hr
      split at hu
      · rename_i B0 hn Qw
        have hn : P.cellsOf el ≠ 0 := by intro e; rw [e] at hn; cases hn
        split at hu
        · rename_i hm
          have hm := B6 hm
          obtain ⟨q, hK⟩ := j3 hu
          obtain ⟨q1, q2⟩ := within_iff q
          rw [A9 hj lv q1]
          generalize ev e' x = v at hr
          cases hr with
          | ptr _ _ b ho hb =>
            simp only
            rw [if_pos ⟨q2, hn⟩, <- hm]
            exact j6.pure hs (.m7 B0 o f n _ 0 b ho hb q2) hK
        · cases hu
      · cases hu
    · cases hu
  · 
    rename_i t x ix
    have key : CG P CP ⟨dst, .index t x ix, ty, pos, after, guard⟩ e' h = (match P.underlying t, ev e' x, Y4 (ev e' ix) with
      | some (.array n el), .agg cs, some j => if j < n then (l9 P el cs (j * P.cellsOf el)).map fun v => (v, h) else none
      | some .string, .str s, some j => match s.data.toList[j]? with
        | some c => some (.int .u8 c.toNat, h)
        | none => none
      | _, _, _ => none) := rfl
    rw [key]
    have hr := j1 he x
    split at hu
    · rename_i x0 x1 x2 b j ht hx hj
      obtain ⟨q, hK⟩ := j3 hu
      obtain ⟨q1, q2⟩ := within_iff q
      rw [ht, A9 hj (j1 he ix) q1]
      rw [hx] at hr
      generalize ev e' x = v at hr
      cases hr
      have R3 : j.toNat < b.data.toList.length := by simpa using q2
      have : Vr b j.toNat = ((b.data.toList[j.toNat]).toNat : Int) := by simp only [Vr, List.getD_eq_getElem?_getD, List.getElem?_eq_getElem R3, Option.getD_some]
      rw [this] at hK
      simp only [List.getElem?_eq_getElem R3]
      exact j6.pure hs (.int _ _) hK
    · rename_i x0 x1 x2 n el cs j ht hx hj
      split at hu
      · rename_i B0 rows ha
        split at hu
        · rename_i v hv
          obtain ⟨q, hK⟩ := j3 hu
          obtain ⟨q1, q2⟩ := within_iff q
          rw [ht, A9 hj (j1 he ix) q1]
          rw [hx] at hr
          generalize ev e' x = w at hr
          cases hr with
          | agg us vs hl hp =>
            obtain ⟨v', g1, g2⟩ := Zx ha hv q2 ⟨hl, hp⟩
            simp only
            rw [if_pos q2, g1]
            exact j6.pure hs g2 hK
        · cases hu
      · cases hu
    · cases hu
  · 
    rename_i x _ t ok
    exact Rv (T := T) hs hu (j1 he x)
  · 
    rename_i x i
    rw [VD]
    have hr := j1 he x
    split at hu
    · rename_i vs hx
      rw [hx] at hr
      generalize ev e' x = v at hr
      cases hr with
      | tuple _ so hl hp =>
        split at hu
        · rename_i u hi
          have R3 : i < so.length := by rw [<- hl]; exact (List.getElem?_eq_some_iff.1 hi).1
          simp only [List.getElem?_eq_getElem R3]
          exact j6.pure hs (hp i u _ hi (List.getElem?_eq_getElem R3)) hu
        · cases hu
    · cases hu
  · 
    rename_i cl
    exact QB hs hu (Bw he _) (fun hb o f ha => hT o f (by
      obtain ⟨callee, args, pD⟩ := cl
      simp only at hb ha
      subst hb
      simp only [Cr]
      cases hl : AZ e args with
      | nil => rw [hl] at ha; cases ha
      | cons x xs => rw [hl] at ha; simp only [List.head?_cons, U0] at ha; subst ha; simp))
      (fun hb o f ha => hT o f (by
      obtain ⟨callee, args, pD⟩ := cl
      simp only at hb ha
      subst hb
      simp only [Cr]
      cases hl : AZ e args with
      | nil => rw [hl] at ha; cases ha
      | cons x xs => rw [hl] at ha; simp only [List.head?_cons, U0] at ha; subst ha; simp))
  · cases hu
end
abbrev setAt (es : List (List D)) (i : Nat) (ds : List D) : List (List D) := es.set i ds
def S7 {R : Type} (x : List (List D)) (k : List (List D) -> Option R) : Option R := k x
def R7 {R : Type} (x : List D) (k : List D -> Option R) : Option R := k x
def EC (s : O0) (o : Nat) : Option (List FT × List (List D)) := match s.get o with
 | .p0 B0 es none => some (B0, es)
 | _ => none
def QN (o n : Nat) : UV -> UV
 | .X0 p => match Nat.beq p o with
  | true => .X0 n
  | false => .X0 p
 | v => v
def IM (o n : Nat) : List UV -> List UV
 | [] => []
 | v :: vs => QN o n v :: IM o n vs
def UO.Bc (o n : Nat) : UO -> UO
 | .obj cs => .obj (IM o n cs)
 | u => u
def O0.Bc (o n : Nat) : O0 -> O0
 | [] => []
 | u :: s => u.Bc o n :: O0.Bc o n s
section
variable (P : Program) {R : Type}
def QT (t : TypeId) : Option (TypeId × List FT) :=
 match P.underlying t with
 | some (.slice e) => match P.underlying e with
  | some (.pointer te) => match flat P 20 te with
   | some B0 => match Nat.beq (P.cellsOf e) 1 && !Nat.beq B0.length 0, D6 P e with
    | true, some .I2 => some (e, B0)
    | _, _ => none
   | none => none
  | _ => none
 | _ => none
def Lr (t : TypeId) (len : Nat) (parts : List (Nat × UV)) (s : O0) (K : UV -> O0 -> Option R) : Option R :=
 match QT P t, parts, Nat.beq len 1 with
 | some (_, B0), [(0, .ptr o 0)], true => match s.get o with
  | .obj cs => match D8 s B0 cs, holds o cs with
   | some ds, false => K (.X0 s.len) (((freeze s cs).T8 o .X8).push (.p0 B0 [ds] none))
   | _, _ => none
  | _ => none
 | _, _, _ => none
def Hx (t : TypeId) (x : UV) (q : Nat) (s : O0) (K : UV -> O0 -> Option R) : Option R :=
 match QT P t, EC s q with
 | some (e, B0), some (mY, ys) => match FT.F0 B0 mY, bp ys with
  | true, true => match x with
   | .nilslice => cond (fits ys.length (P.bytesOf e)) (K (.X0 s.len) ((s.T8 q .gone).push (.p0 B0 ys none))) none
   | .X0 p => match EC s p with
    | some (re, es) => match FT.F0 B0 re && !Nat.beq p q with
     | true => cond (fits (es.length + ys.length) (P.bytesOf e)) (K (.X0 s.len) (((s.T8 q .gone).T8 p .gone).push (.p0 B0 (es ++ ys) none))) none
     | false => none
    | none => none
   | _ => none
  | _, _ => none
 | _, _ => none
def Lq (t : TypeId) (p i : Nat) (x : UV) (s : O0) (K : UV -> O0 -> Option R) : Option R :=
 match Nat.beq (P.cellsOf t) 1, EC s p, x with
 | true, some (B0, es), .ptr o 0 => match s.get o with
  | .obj cs => match D8 s B0 cs, holds o cs with
   | some ds, false => K .undef (((((freeze s cs).T8 p .gone).T8 o .X8).push (.p0 B0 (setAt es i ds) none)).Bc p s.len)
   | _, _ => none
  | _ => none
 | _, _, _ => none
def Zq (o : Oper) (e : R1) (s : O0) (K : UV -> O0 -> Option R) : Option R :=
 match o.op with
 | .nilCheck x => match F7 e x with
  | .pe p i => K (.pe p i) s
  | .pp p i => K (.pp p i) s
  | _ => ZU P o e s K
 | .load t a => match F7 e a with
  | .pe p i => match EC s p, P.underlying t, Nat.beq (P.cellsOf t) 1 with
   | some _, some (.pointer _), true => K (.pp p i) s
   | _, _, _ => none
  | _ => ZU P o e s K
 | .indexAddr t x ix => match F7 e x with
  | .X0 p => match P.underlying t, EC s p, Iz (F7 e ix) with
   | some (.slice el), some (_, es), some j => match Nat.beq (P.cellsOf el) 1 with
    | true => cond (within j es.length) (K (.pe p j.toNat) s) none
    | false => none
   | _, _, _ => none
  | _ => ZU P o e s K
 | .binOp op t x y _ => match F7 e x, F7 e y with
  | .pp _ _, .I2 => match P.underlying t, op with
   | some (.pointer _), .eql => K (.bool false) s
   | some (.pointer _), .neq => K (.bool true) s
   | _, _ => none
  | _, _ => ZU P o e s K
 | .buildSlice t len parts => match (parts.toList.map fun (i, x) => (i, F7 e x) : List (Nat × UV)) with
  | [(0, .ptr p 0)] => Lr P t len [(0, .ptr p 0)] s K
  | _ => ZU P o e s K
 | .store t a x => match F7 e a with
  | .pe p i => Lq P t p i (F7 e x) s K
  | _ => ZU P o e s K
 | .call cl => match cl.callee with
  | .builtin .append => match AZ e cl.args with
   | [x, .X0 q] => match cl.argTypes[0]?, cl.argTypes[1]? with
    | some t, some u => match P.underlying u with
     | some (.slice _) => Hx P t x q s K
     | _ => none
    | _, _ => none
   | _ => ZU P o e s K
  | .builtin .len => match AZ e cl.args with
   | [.X0 p] => match cl.argTypes[0]?.bind P.underlying, EC s p with
    | some (.slice _), some (_, es) => K (.int .i64 (es.length : Nat)) s
    | _, _ => none
   | _ => ZU P o e s K
  | _ => ZU P o e s K
 | _ => ZU P o e s K
def BL (o : Oper) (e : R1) : List Nat :=
 match o.op with
 | .store _ a x => match F7 e a with
  | .ptr o _ => [o]
  | .u7 o _ _ => [o]
  | .m7 _ o _ _ _ _ => [o]
  | .pe o _ => match F7 e x with
   | .ptr q _ => [o, q]
   | _ => [o]
  | _ => []
 | .call { callee := .builtin .append, args, .. } => match AZ e args with
  | [.X0 p, .X0 q] => [p, q]
  | [_, .X0 q] => [q]
  | .own o :: _ => [o]
  | _ => []
 | .call { callee := .builtin .delete, args, .. } => match AZ e args with
  | .map o :: _ => [o]
  | _ => []
 | .mapUpdate _ m _ _ => match F7 e m with
  | .map o => [o]
  | _ => []
 | .insert _ m _ _ => match F7 e m with
  | .map o => [o]
  | _ => []
 | _ => []
end
def Cx.Kk (c : Cx) (L : List Nat) : Cx := ⟨c.n, c.ρ, c.K, fun p => if p ∈ L then BF else c.φ p⟩
section
variable {P : Program} {R : Type} {c : Cx} {h h' : A0} {s : O0}
theorem T3.RB (hs : T3 c h s) {L : List Nat} (R3 : ∀ o ∈ L, o < c.n) {u : UO} {v : VV} {fm : Nat -> Prop} {T : Nat -> Prop} (hL : G7 h h' T) (hT : ∀ f, T f -> ∃ o, o ∈ L /\ c.φ o f) (hw : WF h'.get h'.next)
  (w8 : ∀ f, fm f -> (∃ o, o ∈ L /\ c.φ o f) \/ (h.next <= f /\ f < h'.next)) {s' : O0} (hlen : s'.len = s.len) (O8 : ∀ p, p ∉ L -> s'.get p = s.get p) (hd : ∀ o ∈ L, s'.get o = .X8 \/ (s'.get o = .gone /\ ∀ b i f, c.ρ o ≠ .ptr b i f))
  (B2 : u0 c h ((c.Kk L).add v fm) h' T -> RO ((c.Kk L).add v fm) h'.get u v fm) : T3 ((c.Kk L).add v fm) h' (s'.push u) /\ u0 c h ((c.Kk L).add v fm) h' T := by
 have Ky : ∀ p, ((c.Kk L).add v fm).φ p = if p = c.n then fm else if p ∈ L then BF else c.φ p := fun p => rfl
 have Ic : u0 c h ((c.Kk L).add v fm) h' T := by
  refine ⟨Nat.le_succ _, fun p hp => ?_, fun _ h => h, hL.next, hL.same, hL.Q1, hL.mp, fun _ h => .inl h, fun p f hf => ?_, fun p f hp hf => ?_⟩
  ·show (if p = c.n then v else c.ρ p) = _
   rw [if_neg (by omega)]
  ·rw [Ky] at hf
   split at hf
   ·rcases w8 f hf with ⟨o, _, h1⟩ | h1
    ·exact .inr ⟨o, h1⟩
    ·exact .inl h1.1
   ·split at hf
    ·cases hf
    ·exact .inr ⟨p, hf⟩
  ·rw [Ky, if_neg (by omega)] at hf
   split at hf
   ·cases hf
   ·exact hf
 have B2 := B2 Ic
 refine ⟨⟨hw, by rw [O0.CT, hlen, hs.len]; rfl, fun p => ?_, fun p q f h1 h2 => ?_, fun p f h1 hK => ?_, fun p f h1 => ?_, fun f hK => Nat.lt_of_lt_of_le (hs.Rc f hK) hL.next, fun p hp => by
  have hp : c.n + 1 <= p := hp
  show (if p = c.n then v else c.ρ p) = _
  rw [if_neg (by omega)]; exact hs.Xn p (by omega)⟩, Ic⟩
 ·rw [O0.V0, hlen, hs.len, Ky]
  show RO _ _ _ (if p = c.n then v else c.ρ p) _
  split
  ·exact B2
  ·rename_i Ob
   by_cases It : p ∈ L
   ·rw [if_pos It]
    rcases hd p It with e | ⟨e, hv⟩
    ·rw [e]; exact .X8 _
    ·rw [e]; exact .gone _ hv
   ·rw [if_neg It, O8 p It]
    exact (hs.obj p).O4 Ic (fun f hK ht => by obtain ⟨o, _, ho⟩ := hT f ht; exact hs.EJ o f ho hK) (fun f hf ht => by obtain ⟨o, xS, ho⟩ := hT f ht; exact It (hs.Ax p o f hf ho ▸ xS))
 ·rw [Ky] at h1 h2
  split at h1 <;> split at h2
  ·omega
  ·split at h2
   ·cases h2
   ·rename_i jk
    rcases w8 f h1 with ⟨o, ho, h3⟩ | h3
    ·exact absurd (hs.Ax q o f h2 h3 ▸ ho) jk
    ·have := hs.s8 q f h2; omega
  ·split at h1
   ·cases h1
   ·rename_i It
    rcases w8 f h2 with ⟨o, ho, h3⟩ | h3
    ·exact absurd (hs.Ax p o f h1 h3 ▸ ho) It
    ·have := hs.s8 p f h1; omega
  ·split at h1
   ·cases h1
   ·split at h2
    ·cases h2
    ·exact hs.Ax p q f h1 h2
 ·rw [Ky] at h1
  split at h1
  ·rcases w8 f h1 with ⟨o, _, h3⟩ | h3
   ·exact hs.EJ o f h3 hK
   ·have := hs.Rc f hK; omega
  ·split at h1
   ·cases h1
   ·exact hs.EJ p f h1 hK
 ·rw [Ky] at h1
  split at h1
  ·rcases w8 f h1 with ⟨o, _, h3⟩ | h3
   ·exact Nat.lt_of_lt_of_le (hs.s8 o f h3) hL.next
   ·exact h3.2
  ·split at h1
   ·cases h1
   ·exact Nat.lt_of_lt_of_le (hs.s8 p f h1) hL.next
theorem BP (hs : T3 c h s) {o : Nat} {B0 : List FT} {es : List (List D)} {x : Option Nat} (ho : s.get o = .p0 B0 es x) :
  (c.ρ o = .tuple [.nilslice] /\ c.φ o = BF /\ es = [] /\ x = none) \/ ∃ b i n cp z k ps fs, c.ρ o = .tuple (.slice b i n cp z :: ps) /\ (c.φ o = fun f => f = k.Q1 \/ ∃ j, fs j = some f) /\ h.get b = some (.cells k) /\ k.ro = false /\ k.L3 = 1 /\ z = 1 /\ 0 < B0.length /\ n = es.length /\
   (∀ q, cp = some q -> n <= q /\ i + q <= k.es.length) /\ i + n <= k.es.length /\ (∀ (j : Nat) p, ps[j]? = some p -> k.es[i + j]? = some [p]) /\ (∀ j f, fs j = some f -> f ≠ k.Q1) /\ Af h.get c.K B0 es x ps fs := by
 have B2 := hs.obj o
 rw [ho] at B2
 generalize c.ρ o = v at B2
 generalize c.φ o = fm at B2
 cases B2 with
 | B8 => exact .inl ⟨rfl, rfl, rfl, rfl⟩
 | p0 _ _ _ b i n cp z k ps fs hg B2 hz w6 h0 hn AV U8 hc hf hE => exact .inr ⟨b, i, n, cp, z, k, ps, fs, rfl, rfl, hg, B2, hz, w6, h0, hn, AV, U8, hc, hf, hE⟩
theorem J8 {o : Nat} {B0 : List FT} {es : List (List D)} (hp : EC s o = some (B0, es)) : s.get o = .p0 B0 es none := by
 unfold EC at hp
 split at hp
 ·rename_i h1; simp only [U0, Prod.mk.injEq] at hp; obtain ⟨rfl, rfl⟩ := hp; exact h1
 ·cases hp
theorem FP {t e : TypeId} {B0 : List FT} (hp : QT P t = some (e, B0)) : P.underlying t = some (.slice e) /\ P.cellsOf e = 1 /\ 0 < B0.length /\ D6 P e = some .I2 := by
 unfold QT at hp
 split at hp
 ·rename_i e' ht
  split at hp
  ·split at hp
   ·rename_i W2 hf
    split at hp
    ·rename_i hc hz
     simp only [U0, Prod.mk.injEq] at hp; obtain ⟨rfl, rfl⟩ := hp
     simp only [Bool.and_eq_true, Bool.not_eq_true'] at hc
     refine ⟨ht, B6 hc.1, ?_, hz⟩
     rcases Nat.eq_zero_or_pos W2.length with h0 | h0
     ·rw [h0] at hc; cases hc.2
     ·exact h0
    ·cases hp
   ·cases hp
  ·cases hp
 ·cases hp
theorem Vj {o : Nat} {cs us : List UV} (Ds : holds o us = false) (ho : s.get o = .obj cs) : (freeze s us).get o = .obj cs := by
 rw [HY (JS Ds)]; exact ho
theorem Kf {us : List UV} {o : Nat} {B0 : List FT} {es : List (List D)} {x : Option Nat} (ho : s.get o = .p0 B0 es x) : (freeze s us).get o = .p0 B0 es x := by
 induction us generalizing s with
 | nil => exact ho
 | cons u us ih =>
  simp only [freeze]
  refine ih ?_
  cases u <;> simp only [W4] <;> (try exact ho)
  rename_i p
  split
  ·rename_i W2 Aw hp
   rw [O0.C4]
   split
   ·rename_i e; rw [<- e.1, ho] at hp; cases hp
   ·exact ho
  ·exact ho
theorem NF (hs : T3 c h s) {o : Nat} {cs : List UV} {B0 : List FT} {ds : List D} (ho : s.get o = .obj cs) (hd : D8 s B0 cs = some ds) (Ds : holds o cs = false) :
  ∃ c1 b k xs, T3 c1 h (freeze s cs) /\ u0 c h c1 h (fun _ => False) /\ c1.n = c.n /\ c1.ρ = c.ρ /\ (∀ p f, c1.φ p f -> c.φ p f) /\ c.ρ o = .ptr b 0 0 /\ c1.φ o = one k.Q1 /\ h.get b = some (.cells k) /\ k.es = [xs] /\ k.L3 = B0.length /\ k.ro = false /\ k.Q2 = true /\ xs.all H2 = true /\ Cl h.get c1.K B0 ds xs := by
 obtain ⟨c1, s1, l1, n1, r1, p1, d1⟩ := Ca hs cs
 have O8 := Vj Ds ho
 have B2 := s1.obj o
 have Qp := hs.obj o
 rw [O8, r1] at B2
 rw [ho] at Qp
 generalize hv : c.ρ o = v at B2 Qp
 generalize hf : c1.φ o = fm at B2
 generalize c.φ o = fm0 at Qp
 cases B2 with
 | obj _ b k xs hg P8 hz lp CU hx hr =>
  cases Qp with
  | obj _ _ k0 sn Rj mR sH hrok0 hso0 lg Gi =>
   rw [hg] at Rj; cases Rj
   rw [P8] at mR
   simp only [List.cons.injEq, and_true] at mR; subst mR
   have M3 := d1 xs Gi B0 ds hd
   exact ⟨c1, b, k, xs, s1, l1, n1, r1, p1, rfl, hf, hg, P8, by rw [hz, Gi.1, M3.Ar], lp, CU, hx, M3⟩
theorem Af.single {g : VG} {K : Nat -> Prop} {B0 : List FT} {ds : List D} {b : Nat} {k : Es} {xs : List VV} (hg : g b = some (.cells k)) (P8 : k.es = [xs]) (hz : k.L3 = B0.length) (B2 : k.ro = false) (CU : k.Q2 = true) (hx : xs.all H2 = true) (hr : Cl g K B0 ds xs) :
  Af g K B0 [ds] none [.ptr b 0 0] (fun j => if j = 0 then some k.Q1 else none) := by
 refine ⟨rfl, fun j p hp => ?_, fun j j' f h1 h2 => ?_, fun j hj => ?_, fun j hj => (by cases hj), fun j r b' h1 h2 _ => ?_⟩
 ·cases j with
  | zero => simp at hp; exact ⟨b, hp.symm⟩
  | succ j => simp at hp
 ·split at h1
  ·split at h2
   ·omega
   ·cases h2
  ·cases h1
 ·rw [if_neg (by simp at hj; omega)]
 ·cases j with
  | zero =>
   simp at h1 h2; subst h1; subst h2
   exact ⟨k, xs, hg, rfl, P8, hz, B2, CU, hx, hr⟩
  | succ j => simp at h1
theorem Af.append {g : VG} {K : Nat -> Prop} {B0 : List FT} {a b : List (List D)} {ps qs : List VV} {fs gs : Nat -> Option Nat} (h : Af g K B0 a none ps fs) (k : Af g K B0 b none qs gs) (ik : ∀ j j' f, fs j = some f -> gs j' = some f -> False) :
  Af g K B0 (a ++ b) none (ps ++ qs) (fun j => if j < a.length then fs j else gs (j - a.length)) := by
 refine ⟨by simp [h.len, k.len], fun j p hp => ?_, fun j j' f h1 h2 => ?_, fun j hj => ?_, fun j hj => (by cases hj), fun j r b' h1 h2 _ => ?_⟩
 ·by_cases hj : j < ps.length
  ·rw [List.getElem?_append_left hj] at hp; exact h.ptr j p hp
  ·rw [List.getElem?_append_right (by omega)] at hp; exact k.ptr _ p hp
 ·split at h1 <;> split at h2
  ·exact h.inj j j' f h1 h2
  ·exact (ik _ _ f h1 h2).elim
  ·exact (ik _ _ f h2 h1).elim
  ·have := k.inj _ _ f h1 h2; omega
 ·simp only [List.length_append] at hj
  rw [if_neg (by omega)]; exact k.out _ (by omega)
 ·by_cases hj : j < a.length
  ·rw [List.getElem?_append_left hj] at h1
   rw [List.getElem?_append_left (by rw [h.len]; exact hj)] at h2
   simp only [if_pos hj]
   exact h.at_ j r b' h1 h2 (by simp)
  ·rw [List.getElem?_append_right (by omega)] at h1
   rw [List.getElem?_append_right (by rw [h.len]; omega), h.len] at h2
   simp only [if_neg hj]
   exact k.at_ _ r b' h1 h2 (by simp)
theorem Af.set {g : VG} {K : Nat -> Prop} {B0 : List FT} {es : List (List D)} {x : Option Nat} {ps : List VV} {fs : Nat -> Option Nat} (h : Af g K B0 es x ps fs) {i : Nat} (xA : ∀ j, x = some j -> j = i) (hi : i < es.length) {ds : List D} {b : Nat} {k : Es} {xs : List VV}
  (hg : g b = some (.cells k)) (P8 : k.es = [xs]) (hz : k.L3 = B0.length) (B2 : k.ro = false) (CU : k.Q2 = true) (hx : xs.all H2 = true) (hr : Cl g K B0 ds xs) (Kz : ∀ j, j ≠ i -> fs j ≠ some k.Q1) :
  Af g K B0 (es.set i ds) none (ps.set i (.ptr b 0 0)) (fun j => if j = i then some k.Q1 else fs j) := by
 refine ⟨by simp [h.len], fun j p hp => ?_, fun j j' f h1 h2 => ?_, fun j hj => ?_, fun j hj => (by cases hj), fun j r b' h1 h2 _ => ?_⟩
 ·rw [List.getElem?_set] at hp
  split at hp
  ·split at hp
   ·simp only [U0] at hp; exact ⟨b, hp.symm⟩
   ·cases hp
  ·exact h.ptr j p hp
 ·split at h1 <;> split at h2
  ·omega
  ·rename_i a1 a2; simp only [U0] at h1; subst h1; exact (Kz _ a2 h2).elim
  ·rename_i a1 a2; simp only [U0] at h2; subst h2; exact (Kz _ a1 h1).elim
  ·exact h.inj _ _ f h1 h2
 ·simp only [List.length_set] at hj
  rw [if_neg (by omega)]; exact h.out j hj
 ·rw [List.getElem?_set] at h1 h2
  by_cases PQ : i = j
  ·subst PQ
   rw [if_pos rfl, if_pos hi] at h1
   rw [if_pos rfl, if_pos (by rw [h.len]; exact hi)] at h2
   simp only [U0, VV.ptr.injEq, and_self, and_true] at h1 h2
   subst h1; subst h2
   exact ⟨k, xs, hg, if_pos rfl, P8, hz, B2, CU, hx, hr⟩
  ·rw [if_neg PQ] at h1 h2
   simp only [if_neg (Ne.symm PQ)]
   exact h.at_ j r b' h1 h2 (fun e => PQ (xA j e).symm)
end
section
variable {P : Program} {R : Type} {c : Cx} {h h' : A0} {s : O0}
theorem Py {T : Nat -> Prop} (hs : T3 c h s) {t : TypeId} {len : Nat} {parts : List (Nat × UV)} {o8 : List (Nat × VV)} {K : UV -> O0 -> Option R} {r : R} (hu : Lr P t len parts s K = some r) (hl : parts.length = o8.length)
  (hp : ∀ (i : Nat) p p', parts[i]? = some p -> o8[i]? = some p' -> p.1 = p'.1 /\ RV c h.get p.2 p'.2) : j6 T c h K r (u6 P t len o8 h) := by
 unfold Lr at hu
 split at hu
 ·rename_i e B0 o Vc hlen
  obtain ⟨ht, Ys, h0, hz⟩ := FP Vc
  have hlen := B6 hlen
  subst hlen
  split at hu
  ·rename_i cs ho
   split at hu
   ·rename_i ds hd Ds
    obtain ⟨c1, b, k, xs, s1, l1, n1, r1, p1, hρ, hφ, hg, P8, Ep, B2, CU, C7, M3⟩ := NF hs ho hd Ds
    match o8, hl with
    | [(j, v)], _ =>
     obtain ⟨hj, hv⟩ := hp 0 _ _ rfl rfl
     have hj : 0 = j := hj
     subst hj
     have hv : RV c h.get (.ptr o 0) v := hv
     cases hv with
     | ptr _ _ b' CV H3 =>
      rw [hρ] at H3; cases H3
      have xC : u6 P t 1 [(0, .ptr b 0 0)] h = some (.slice h.next 0 1 (some 1) 1, fresh h [[.ptr b 0 0]] 1) := by
       unfold u6
       simp only [ht, hz, Ys, DA, C1, H2]
       simp [chunks, DA, C1, H2]
      rw [xC]
      have cJ : o < c1.n := by rw [n1]; exact CV
      have uU : (fresh h [[VV.ptr b 0 0]] 1).get h.next = some (.cells { es := [[.ptr b 0 0]], L3 := 1, Q1 := h.next, E5 := 0, Q2 := true, last := true, ro := false }) := by
       unfold fresh; rw [A0.V0, if_pos rfl]
      have Yl : k.Q1 < h.next := s1.s8 o _ (L5 hφ)
      obtain ⟨g1, g2⟩ := s1.RB (h' := fresh h [[.ptr b 0 0]] 1) (L := [o]) (fun p hp => by rw [List.mem_singleton] at hp; subst hp; exact cJ) (u := .p0 B0 [ds] none) (v := .tuple [.slice h.next 0 1 (some 1) 1, .ptr b 0 0]) (fm := fun f => f = h.next \/ ∃ j, (fun j : Nat => if j = 0 then some k.Q1 else none) j = some f)
       (T := fun _ => False) (G7.push h _ _) (fun f hf => hf.elim) (hs.wf.push _ (fun k hk => by cases hk; rfl))
       (fun f hf => by
        rcases hf with rfl | ⟨j, hj⟩
        ·exact .inr ⟨Nat.le_refl _, by simp⟩
        ·simp only at hj
         split at hj
         ·simp only [U0] at hj; subst hj; exact .inl ⟨o, List.mem_singleton.2 rfl, L5 hφ⟩
         ·cases hj)
       (s' := (freeze s cs).T8 o .X8) (O0.V4 _ _ _) (fun p hp => by rw [O0.C4, if_neg (fun hh => hp (by rw [hh.1]; exact List.mem_singleton.2 rfl))])
       (fun p hp => by rw [List.mem_singleton] at hp; subst hp; exact .inl (by rw [O0.C4, if_pos ⟨rfl, by rw [s1.len]; exact cJ⟩]))
       (fun Ic => by
        refine .p0 B0 [ds] none h.next 0 1 (some 1) 1 _ [.ptr b 0 0] (fun j => if j = 0 then some k.Q1 else none) uU rfl rfl rfl h0 rfl (fun q hq => by cases hq; exact ⟨Nat.le_refl _, Nat.le_refl _⟩) (Nat.le_refl _) (fun j p hp => ?_) (fun j f hf => ?_) ?_
        ·cases j with
         | zero => simp at hp; subst hp; rfl
         | succ j => simp at hp
        ·split at hf
         ·simp only [U0] at hf; subst hf; exact fun e => by simp only at e; omega
         ·cases hf
        ·exact Af.single (I8 _ hg) P8 Ep B2 CU C7 (M3.keep (Ic.keeps (fun _ _ h => h))))
      have Qw : (freeze s cs).len = s.len := Au _ _
      refine ⟨_, _, _, _, _, rfl, g1, ?_, (l1.trans g2 hs.wf (fun f h => h.elim)).mono (fun _ h => h.elim), hu⟩
      refine .X0 s.len _ [.ptr b 0 0] ?_ ?_ (.inr ⟨_, _, _, _, _, rfl⟩)
      ·show s.len < c1.n + 1; rw [n1, hs.len]; exact Nat.lt_succ_self _
      ·show (if s.len = c1.n then _ else _) = _
       rw [if_pos (by rw [n1, hs.len])]
   ·cases hu
  ·cases hu
 ·cases hu
theorem Pz {T0 : Nat -> Prop} (hs : T3 c h s) {t : TypeId} {x : UV} {q : Nat} {x' y' : VV} {K : UV -> O0 -> Option R} {r : R} (hu : Hx P t x q s K = some r) (hx : RV c h.get x x') (hy : RV c h.get (.X0 q) y') {e : TypeId} (ht : P.underlying t = some (.slice e))
  (sg : ∀ o f, x = .X0 o -> c.φ o f -> T0 f) : j6 T0 c h K r ((U5 (P.cellsOf e) h y').bind fun xs => C5 P t x' xs h) := by
 unfold Hx at hu
 split at hu
 ·rename_i e' B0 mY ys Vc hq
  obtain ⟨ZZ, Ys, h0, hz⟩ := FP Vc
  rw [ht] at ZZ
  simp only [U0, TypeDesc.slice.injEq] at ZZ
  subst ZZ
  have hq := J8 hq
  split at hu
  ·rename_i Y6 Ww
   have := FT.J0 _ _ Y6; subst this
   have Qr : 0 < ys.length := by cases ys with | nil => cases Ww | cons _ _ => simp
   rcases BP hs hq with ⟨_, _, rfl, _⟩ | ⟨b, i, n, cp, z, k, ps, fs, hρ, hφ, hg, B2, Ep, Wn, _, hn, AV, U8, hc, Yq, hE⟩
   ·cases Ww
   cases hy with
   | X0 _ _ kq qk lf hv =>
    rw [hρ] at lf
    simp only [VV.tuple.injEq, List.cons.injEq] at lf
    obtain ⟨rfl, rfl⟩ := lf
    subst Wn
    rw [Ys]
    simp only [U5, hg]
    rw [if_pos (⟨by trivial, U8⟩ : _ /\ _)]
    simp only [Option.bind_some]
    have CW : ∀ j f, fs j = some f -> c.φ q f := fun j f hf => by rw [hφ]; exact .inr ⟨j, hf⟩
    have Dr : (k.es.drop i).take n = ps.map fun p => [p] := by
     apply List.ext_getElem?
     intro j
     rw [List.getElem?_take, List.getElem?_map]
     split
     ·rename_i hj
      have rF : j < ps.length := by rw [hE.len]; omega
      rw [List.getElem?_drop, hc j _ (List.getElem?_eq_getElem rF), List.getElem?_eq_getElem rF]; rfl
     ·rw [List.getElem?_eq_none (by rw [hE.len]; omega)]; rfl
    rw [Dr]
    have KX : (ps.map fun p => [p]).length = ys.length := by simp [hE.len]
    obtain ⟨m, hm⟩ : ∃ m, ys.length = m + 1 := ⟨ys.length - 1, by omega⟩
    have Y3 : ¬ P.cellsOf e = 0 := by omega
    
    have ct : ∀ (L : List Nat) (es : List (List D)) (qs : List VV) (gs : Nat -> Option Nat) (s' : O0), (∀ o ∈ L, o < c.n) -> s'.len = s.len -> (∀ p, p ∉ L -> s'.get p = s.get p) -> (∀ o ∈ L, s'.get o = .gone /\ ∀ b i f, c.ρ o ≠ .ptr b i f) ->
      (∀ j f, gs j = some f -> ∃ o, o ∈ L /\ c.φ o f) -> (∀ (g : VG) (K : Nat -> Prop), Ae h.get c.K g K -> (∀ b k, h.get b = some (.cells k) -> g b = some (.cells k)) -> Af g K B0 es none qs gs) -> es.length = qs.length ->
      K (.X0 s.len) (s'.push (.p0 B0 es none)) = some r -> j6 T0 c h K r (some (.slice h.next 0 es.length none 1, fresh h (qs.map fun p => [p]) 1)) := by
     intro L es qs gs s' hL hlen O8 hd wF vC Ka hK
     have uU : (fresh h (qs.map fun p => [p]) 1).get h.next = some (.cells { es := qs.map fun p => [p], L3 := 1, Q1 := h.next, E5 := 0, Q2 := true, last := true, ro := false }) := by
      unfold fresh; rw [A0.V0, if_pos rfl]
     obtain ⟨g1, g2⟩ := hs.RB (h' := fresh h (qs.map fun p => [p]) 1) (L := L) hL (u := .p0 B0 es none) (v := .tuple (.slice h.next 0 es.length none 1 :: qs)) (fm := fun f => f = h.next \/ ∃ j, gs j = some f)
      (T := fun _ => False) (G7.push h _ _) (fun f hf => hf.elim) (hs.wf.push _ (fun k hk => by cases hk; rfl))
      (fun f hf => by
       rcases hf with rfl | ⟨j, hj⟩
       ·exact .inr ⟨Nat.le_refl _, by simp⟩
       ·exact .inl (wF j f hj))
      (s' := s') hlen O8 (fun o ho => .inr (hd o ho))
      (fun Ic => by
       refine .p0 B0 es none h.next 0 es.length none 1 _ qs gs uU rfl rfl rfl h0 rfl (fun q hq => by cases hq) (by simp [Ka]) (fun j p hp => ?_) (fun j f hf => ?_) ?_
       ·simp [List.getElem?_map, hp]
       ·obtain ⟨o, _, ho⟩ := wF j f hf
        have := hs.s8 o f ho
        exact fun e => by simp only at e; omega
       ·exact vC _ _ (Ic.keeps (fun _ _ h => h)) (fun b k hb => I8 _ hb))
     refine ⟨_, _, _, _, _, rfl, g1, ?_, g2.mono (fun _ h => h.elim), hK⟩
     refine .X0 s.len _ qs ?_ ?_ (.inr ⟨_, _, _, _, _, rfl⟩)
     ·show s.len < c.n + 1; rw [hs.len]; exact Nat.lt_succ_self _
     ·show (if s.len = c.n then _ else _) = _
      rw [if_pos hs.len]
    have sz : ∀ b i f, c.ρ q ≠ .ptr b i f := fun b i f e => by rw [hρ] at e; cases e
    have sy : ∀ (g : VG) (K : Nat -> Prop), Ae h.get c.K g K -> (∀ b k, h.get b = some (.cells k) -> g b = some (.cells k)) -> Af g K B0 ys none ps fs := fun g K hk hold => hE.keep hk fun j b k _ hb => hold b k hb
    have XE : fits ys.length (P.bytesOf e) = true -> ∀ (L : List Nat) (s' : O0), q ∈ L -> (∀ o ∈ L, o < c.n) -> s'.len = s.len -> (∀ p, p ∉ L -> s'.get p = s.get p) -> (∀ o ∈ L, s'.get o = .gone /\ ∀ b i f, c.ρ o ≠ .ptr b i f) ->
      K (.X0 s.len) (s'.push (.p0 B0 ys none)) = some r -> j6 T0 c h K r (C5 P t .nilslice (ps.map fun p => [p]) h) := by
     intro hf L s' xM hL hlen O8 hd hK
     obtain ⟨f1, f2⟩ := Cb hf
     have xD : C5 P t .nilslice (ps.map fun p => [p]) h = some (.slice h.next 0 ys.length none 1, fresh h (ps.map fun p => [p]) 1) := by
      unfold C5
      simp only [ht, hz, if_neg Y3, KX, hm]
      rw [if_pos ⟨by rw [<- hm]; exact f1, by rw [<- hm]; exact f2⟩, Ys]
     rw [xD]
     exact ct L ys ps fs s' hL hlen O8 hd (fun j f hf => ⟨q, xM, CW j f hf⟩) sy (by rw [hE.len]) hK
    split at hu
    · 
     cases hx
     obtain ⟨hf, hK⟩ := j3 hu
     exact XE hf [q] _ (List.mem_singleton.2 rfl) (fun o ho => by rw [List.mem_singleton] at ho; subst ho; exact qk) (O0.V4 _ _ _) (fun p hp => by rw [O0.C4, if_neg (fun hh => hp (by rw [hh.1]; exact List.mem_singleton.2 rfl))])
      (fun o ho => by rw [List.mem_singleton] at ho; subst ho; exact ⟨by rw [O0.C4, if_pos ⟨rfl, by rw [hs.len]; exact qk⟩], sz⟩) hK
    ·rename_i p
     split at hu
     ·rename_i re es hp
      have hp := J8 hp
      split at hu
      ·rename_i Zb
       simp only [Bool.and_eq_true, Bool.not_eq_true'] at Zb
       have := FT.J0 _ _ Zb.1; subst this
       have Bb : p ≠ q := fun e => by rw [e, Nat.beq_refl] at Zb; cases Zb.2
       obtain ⟨hf, hK⟩ := j3 hu
       have Ob : p < c.n := by rw [<- hs.len]; exact O0.CR (by rw [hp]; simp)
       have KY : ((s.T8 q .gone).T8 p .gone).len = s.len := by rw [O0.V4, O0.V4]
       have cT : ∀ o, o ∉ [p, q] -> ((s.T8 q .gone).T8 p .gone).get o = s.get o := fun o ho => by
        simp only [List.mem_cons, List.not_mem_nil, or_false, not_or] at ho
        rw [O0.C4, if_neg (fun hh => ho.1 hh.1), O0.C4, if_neg (fun hh => ho.2 hh.1)]
       have kB : ∀ o ∈ [p, q], ((s.T8 q .gone).T8 p .gone).get o = .gone := fun o ho => by
        rw [O0.C4, O0.V4]
        split
        ·rfl
        ·rename_i uC
         rcases List.mem_cons.1 ho with rfl | ho
         ·exact absurd ⟨rfl, by rw [hs.len]; exact Ob⟩ uC
         ·rw [List.mem_singleton] at ho; subst ho
          rw [O0.C4, if_pos ⟨rfl, by rw [hs.len]; exact qk⟩]
       have mE : ∀ o ∈ [p, q], o < c.n := fun o ho => by
        rcases List.mem_cons.1 ho with rfl | ho
        ·exact Ob
        ·rw [List.mem_singleton] at ho; subst ho; exact qk
       cases hx with
       | X0 _ _ ps1 _ Yg oT =>
        rcases BP hs hp with ⟨O9, HV, rfl, _⟩ | ⟨b2, i2, n2, sl, z2, k2, WU, ow, O9, HV, Oi, BV, Gt, ZW, _, TF, LC, Qv, Kb, JV, Lc⟩
        ·rw [O9] at Yg
         simp only [VV.tuple.injEq, List.cons.injEq] at Yg
         obtain ⟨rfl, rfl⟩ := Yg
         have iX : ∀ o ∈ [p, q], ((s.T8 q .gone).T8 p .gone).get o = .gone /\ ∀ b i f, c.ρ o ≠ .ptr b i f := fun o ho => ⟨kB o ho, by
          rcases List.mem_cons.1 ho with rfl | ho
          ·intro b i f e; rw [O9] at e; cases e
          ·rw [List.mem_singleton] at ho; subst ho; exact sz⟩
         exact XE (by simpa using hf) [p, q] _ (by simp) mE KY cT iX (by simpa using hK)
        ·rw [O9] at Yg
         simp only [VV.tuple.injEq, List.cons.injEq] at Yg
         obtain ⟨rfl, rfl⟩ := Yg
         subst ZW
         have iX : ∀ o ∈ [p, q], ((s.T8 q .gone).T8 p .gone).get o = .gone /\ ∀ b i f, c.ρ o ≠ .ptr b i f := fun o ho => ⟨kB o ho, by
          rcases List.mem_cons.1 ho with rfl | ho
          ·intro b i f e; rw [O9] at e; cases e
          ·rw [List.mem_singleton] at ho; subst ho; exact sz⟩
         have TJ : ∀ j f, ow j = some f -> c.φ p f := fun j f hf => by rw [HV]; exact .inr ⟨j, hf⟩
         have JU : c.φ p k2.Q1 := by rw [HV]; exact .inl rfl
         obtain ⟨f1, f2⟩ := Cb hf
         have ik : ∀ j j' f, ow j = some f -> fs j' = some f -> False := fun j j' f a b => Bb (hs.Ax p q f (TJ j f a) (CW j' f b))
         have both : ∀ (g : VG) (K : Nat -> Prop), Ae h.get c.K g K -> (∀ j b k, ow j = some k.Q1 -> h.get b = some (.cells k) -> g b = some (.cells k)) -> (∀ j b k, fs j = some k.Q1 -> h.get b = some (.cells k) -> g b = some (.cells k)) ->
           Af g K B0 (es ++ ys) none (WU ++ ps) (fun j => if j < es.length then ow j else fs (j - es.length)) := fun g K hk a b => (Lc.keep hk a).append (hE.keep hk b) ik
         have rZ : ∀ j f, (if j < es.length then ow j else fs (j - es.length)) = some f -> ∃ o, o ∈ [p, q] /\ c.φ o f := fun j f hj => by
          split at hj
          ·exact ⟨p, by simp, TJ _ f hj⟩
          ·exact ⟨q, by simp, CW _ f hj⟩
         have hps2l : WU.length = n2 := by rw [Lc.len, TF]
         have Oj : (k2.es.drop i2).take n2 = WU.map fun p => [p] := by
          apply List.ext_getElem?
          intro j
          rw [List.getElem?_take, List.getElem?_map]
          split
          ·rename_i hj
           have rF : j < WU.length := by omega
           rw [List.getElem?_drop, Kb j _ (List.getElem?_eq_getElem rF), List.getElem?_eq_getElem rF]; rfl
          ·rw [List.getElem?_eq_none (by omega)]; rfl
         have rK : ¬ (R2 < (n2 + (m + 1)) * P.bytesOf e \/ R2 < n2 + (m + 1)) := by
          rw [show es.length + ys.length = n2 + (m + 1) by omega] at f1 f2
          omega
         have qa : n2 + (m + 1) = (es ++ ys).length := by simp; omega
         
         have put : ∀ (i' : Nat) (Ro : Option Nat) (b' : Nat) (h' : A0) (k' : Es), G7 h h' (· = k2.Q1) -> WF h'.get h'.next -> h'.get b' = some (.cells k') -> k'.ro = false -> k'.L3 = 1 -> k'.Q1 = k2.Q1 -> (∀ q, Ro = some q -> n2 + (m + 1) <= q /\ i' + q <= k'.es.length) ->
           i' + (n2 + (m + 1)) <= k'.es.length -> (∀ (j : Nat) p, (WU ++ ps)[j]? = some p -> k'.es[i' + j]? = some [p]) -> j6 T0 c h K r (some (.slice b' i' (n2 + (m + 1)) Ro 1, h')) := by
          intro i' Ro b' h' k' J6 hw cU Za wv wH uf uO rR
          obtain ⟨g1, g2⟩ := hs.RB (L := [p, q]) mE (u := .p0 B0 (es ++ ys) none) (v := .tuple (.slice b' i' (n2 + (m + 1)) Ro 1 :: (WU ++ ps))) (fm := fun f => f = k'.Q1 \/ ∃ j, (fun j => if j < es.length then ow j else fs (j - es.length)) j = some f)
           (T := (· = k2.Q1)) J6 (fun f hf => ⟨p, by simp, by rw [hf]; exact JU⟩) hw
           (fun f hf => by
            rcases hf with rfl | ⟨j, hj⟩
            ·exact .inl ⟨p, by simp, by rw [wH]; exact JU⟩
            ·exact .inl (rZ j f hj))
           (s' := (s.T8 q .gone).T8 p .gone) KY cT (fun o ho => .inr (iX o ho))
           (fun Ic => by
            have hk := Ic.keeps (fun f' UK e => by rw [e] at UK; exact hs.EJ p _ JU UK)
            refine .p0 B0 (es ++ ys) none b' i' (n2 + (m + 1)) Ro 1 k' (WU ++ ps) _ cU Za wv rfl h0 qa uf uO rR (fun j f hf => ?_) ?_
            ·rw [wH]
             split at hf
             ·exact JV _ f hf
             ·intro e; exact Bb (hs.Ax p q f (by rw [e]; exact JU) (CW _ f hf))
            ·exact both _ _ hk (fun j b k hj hb => J6.same b _ hb (fun e => JV j _ hj e)) (fun j b k hj hb => J6.same b _ hb (fun e => Bb (hs.Ax p q _ (show c.φ p k.Q1 from by have e : k.Q1 = k2.Q1 := e; rw [e]; exact JU) (CW j _ hj)))))
          refine ⟨_, _, _, _, _, rfl, g1, ?_, g2.mono (fun f e => by rw [e]; exact sg p _ rfl JU), hK⟩
          refine .X0 s.len _ (WU ++ ps) ?_ ?_ (.inr ⟨_, _, _, _, _, rfl⟩)
          ·show s.len < c.n + 1; rw [hs.len]; exact Nat.lt_succ_self _
          ·show (if s.len = c.n then _ else _) = _
           rw [if_pos hs.len]
         have NQ : i2 + n2 + (m + 1) <= k2.es.length -> (∀ q, sl = some q -> n2 + (m + 1) <= q) -> j6 T0 c h K r (C5 P t (.slice b2 i2 n2 sl 1) (ps.map fun p => [p]) h) := by
          intro N8 TL
          have hle : (k2.es.take (i2 + n2) ++ (ps.map fun p => [p]) ++ k2.es.drop (i2 + n2 + (m + 1))).length = k2.es.length := by simp [hE.len]; omega
          obtain ⟨t1, t2, t3⟩ := HE hs.wf Oi (k2.E5 + (i2 + n2)) (k2.es.take (i2 + n2) ++ (ps.map fun p => [p]) ++ k2.es.drop (i2 + n2 + (m + 1))) hle
          rw [Lo ht hz Y3 Oi Ys.symm (by omega) (KX.trans hm) BV N8 TL]
          refine put i2 sl b2 _ _ t3 t2 t1 BV Gt rfl (fun q hq => ⟨TL q hq, by simp only [hle]; exact (LC q hq).2⟩) (by simp only [hle]; omega) (fun j p hp => ?_)
          simp only
          by_cases hj : j < WU.length
          ·rw [List.getElem?_append_left hj] at hp
           rw [List.append_assoc, List.getElem?_append_left (by simp; omega), List.getElem?_take, if_pos (by omega)]
           exact Kb j p hp
          ·rw [List.getElem?_append_right (by omega)] at hp
           have hjl : j - WU.length < ps.length := (List.getElem?_eq_some_iff.1 hp).1
           rw [List.append_assoc, List.getElem?_append_right (by simp; omega), List.getElem?_append_left (by simp; omega), List.getElem?_map, show i2 + j - (k2.es.take (i2 + n2)).length = j - WU.length by simp; omega, hp]; rfl
         have rN : ∀ (j : Nat) p, (WU ++ ps)[j]? = some p -> ((WU.map fun p => [p]) ++ (ps.map fun p => [p]))[0 + j]? = some [p] := fun j p hp => by
          rw [Nat.zero_add, <- List.map_append, List.getElem?_map, hp]; rfl
         cases rM : sl with
         | some cap =>
          subst rM
          by_cases N8 : n2 + (m + 1) <= cap
          ·exact NQ (by have h2 := (LC cap rfl).2; omega) (fun q e => by cases e; exact N8)
          ·rw [Js ht hz Y3 Oi Ys.symm (by omega) (KX.trans hm) (by omega) N8 rK, Oj, <- List.map_append, qa]
           exact ct [p, q] (es ++ ys) (WU ++ ps) _ _ mE KY cT iX rZ (fun g K hk hold => both g K hk (fun _ b k _ hb => hold b k hb) (fun _ b k _ hb => hold b k hb)) (by simp [hE.len, Lc.len]) hK
         | none =>
          subst rM
          by_cases N8 : i2 + n2 + (m + 1) <= k2.es.length
          ·exact NQ N8 (fun q e => by cases e)
          ·generalize Oh : (match k2.last && Nat.beq (i2 + n2) k2.es.length with
            | true => h.put b2 (.cells { k2 with Q2 := false, last := false })
            | false => (h.put b2 (.cells { k2 with Q2 := false, last := false })).kill k2.Q1 (k2.E5 + (i2 + n2))) = PT
           rw [Ht ht hz Y3 Oi Ys.symm (by omega) (KX.trans hm) BV (by omega) N8 rK PT Oh.symm]
           obtain ⟨o1, o2, o3⟩ := opened (z := 1) hs.wf Oi (by omega : i2 + n2 <= k2.es.length) (ps.map fun p => [p]) PT Oh.symm
           have Dt : (PT.push (.cells { es := (k2.es.drop i2).take n2 ++ (ps.map fun p => [p]), L3 := 1, Q1 := k2.Q1, E5 := k2.E5 + i2, Q2 := false, last := true, ro := false })).get h.next =
             some (.cells { es := (k2.es.drop i2).take n2 ++ (ps.map fun p => [p]), L3 := 1, Q1 := k2.Q1, E5 := k2.E5 + i2, Q2 := false, last := true, ro := false }) := by
            rw [A0.V0, o1, if_pos rfl]
           refine put 0 none h.next _ _ o3 o2 Dt rfl rfl rfl (fun q e => by cases e) ?_ ?_
           ·simp only [Oj]; simp [hE.len, Lc.len]; omega
           ·intro j p hp; simp only [Oj]; exact rN j p hp
      ·cases hu
     ·cases hu
    ·cases hu
  ·cases hu
 ·cases hu
end
end Go.Proofs.Ythlbahcggmbfaaa.V
