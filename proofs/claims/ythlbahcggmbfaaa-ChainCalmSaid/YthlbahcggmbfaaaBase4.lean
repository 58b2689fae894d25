import Derived.Test.YthlbahcggmbfaaaBase3
import Derived.KernelRfl
import Derived.Lib.Bytealg
import Derived.Lib.IndexLaws
import Derived.Laws.AppendOwn
import Derived.Maps.Own
import Derived.Sort.KeysCollected
import Derived.Sort.Walk0
import Derived.Lib.SlKeysI
import Derived.Sort.Row
import Derived.Test.YthlbahcggmbfaaaChecked
import Derived.Shelf.SlGeneric
import Derived.Shelf.Slices.Delete
import Derived.WalkKit
set_option linter.unusedVariables false
set_option linter.unusedSimpArgs false

namespace Go.Proofs.Ythlbahcggmbfaaa.V
section
variable {P : Program} {R : Type} {c : Cx} {h h' : A0} {s : O0}
theorem SP {g : VG} {o n : Nat} {v0 : VV} {ps qs : List VV} (ho : c.ρ o = .tuple (v0 :: ps)) (hn : n < c.n) (iY : c.ρ n = .tuple (v0 :: qs)) {u : UV} {v : VV} (hr : RV c g u v) : RV c g (QN o n u) v := by
 cases u <;> simp only [QN] <;> (try exact hr)
 rename_i p
 split
 ·rename_i hb
  have := B6 hb; subst this
  cases hr with
  | X0 _ _ kq hp hρ hv =>
   rw [ho] at hρ
   simp only [VV.tuple.injEq, List.cons.injEq] at hρ
   obtain ⟨rfl, _⟩ := hρ
   exact .X0 n _ qs hn iY hv
 ·exact hr
theorem SO (o n : Nat) (us : List UV) : (IM o n us).length = us.length := by
 induction us with
 | nil => rfl
 | cons u us ih => simp [IM, ih]
theorem KG {g : VG} {o n : Nat} {v0 : VV} {ps qs : List VV} (ho : c.ρ o = .tuple (v0 :: ps)) (hn : n < c.n) (iY : c.ρ n = .tuple (v0 :: qs)) : ∀ {us : List UV} {vs : List VV}, E4 c g us vs -> E4 c g (IM o n us) vs
 | [], vs, h => h
 | u :: us, vs, h => by
  have := h.1
  match vs, this, h with
  | v :: vs, _, h => exact E4.cons (SP ho hn iY h.head) (KG ho hn iY h.tail)
theorem Ut (o n : Nat) (s : O0) (p : Nat) : (s.Bc o n).get p = (s.get p).Bc o n := by
 induction s generalizing p with
 | nil => rfl
 | cons u s ih => cases p with
  | zero => rfl
  | succ p => simp only [O0.Bc, O0.get, ih]
theorem Us (o n : Nat) (s : O0) : (s.Bc o n).len = s.len := by
 induction s with
 | nil => rfl
 | cons u s ih => simp only [O0.Bc, O0.len, ih]
theorem T3.Bc (hs : T3 c h s) {o n : Nat} {v0 : VV} {ps qs : List VV} (ho : c.ρ o = .tuple (v0 :: ps)) (hn : n < c.n) (iY : c.ρ n = .tuple (v0 :: qs)) : T3 c h (s.Bc o n) := by
 refine ⟨hs.wf, by rw [Us, hs.len], fun p => ?_, hs.Ax, hs.EJ, hs.s8, hs.Rc, hs.Xn⟩
 rw [Ut]
 have B2 := hs.obj p
 generalize s.get p = u at B2 ⊢
 generalize c.ρ p = v at B2 ⊢
 generalize c.φ p = fm at B2 ⊢
 cases B2 with
 | obj cs b k xs hg P8 hz B2 CU hx hr => exact .obj _ b k xs hg P8 (by rw [SO]; exact hz) B2 CU hx (KG ho hn iY hr)
 | W7 B0 => exact .W7 B0
 | B7 B0 b i z k hg hK hz w6 h0 hi => exact .B7 B0 b i z k hg hK hz w6 h0 hi
 | row B0 es b i n cp z k hg B2 hz w6 h0 hn AV hs => exact .row B0 es b i n cp z k hg B2 hz w6 h0 hn AV hs
 | old B0 es v h => exact .old B0 es v h
 | map kf ag B0 es b z8 hg hk hl h => exact .map kf ag B0 es b z8 hg hk hl h
 | B8 B0 => exact .B8 B0
 | p0 B0 es x b i n cp z k ps fs hg B2 hz w6 h0 hn AV U8 hc Yq hE => exact .p0 B0 es x b i n cp z k ps fs hg B2 hz w6 h0 hn AV U8 hc Yq hE
 | X8 v => exact .X8 v
 | gone v hv => exact .gone v hv
theorem Px {T : Nat -> Prop} (hs : T3 c h s) {t : TypeId} {p i : Nat} {x : UV} {a' x' : VV} {K : UV -> O0 -> Option R} {r : R} (hu : Lq P t p i x s K = some r) (ha : RV c h.get (.pe p i) a') (hx : RV c h.get x x')
  (hT : ∀ f, c.φ p f -> T f) : j6 T c h K r ((CE P t h a' x').map fun h' => (.undef, h')) := by
 unfold Lq at hu
 split at hu
 ·rename_i B0 es o mT hp
  have mT := B6 mT
  have hp := J8 hp
  split at hu
  ·rename_i cs ho
   split at hu
   ·rename_i ds hd Ds
    obtain ⟨c1, b, k, xs, s1, l1, n1, r1, p1, hρ, hφ, hg, P8, Ep, B2, CU, C7, M3⟩ := NF hs ho hd Ds
    have jq : (freeze s cs).get p = .p0 B0 es none := Kf hp
    cases ha with
    | pe _ _ bm i0 n cp z ps Ob iS hi =>
     cases hx with
     | ptr _ _ b' CV H3 =>
      rw [hρ] at H3; cases H3
      rcases BP s1 jq with ⟨e1, _⟩ | ⟨bm', i', n', Ro, z', km, kq, fs, O9, HV, Oi, BV, Gt, ZW, h0, TF, LC, Qv, Kb, JV, Lc⟩
      ·rw [r1, iS] at e1; cases e1
      ·rw [r1, iS] at O9
       simp only [VV.tuple.injEq, List.cons.injEq, VV.slice.injEq] at O9
       obtain ⟨⟨rfl, rfl, rfl, rfl, rfl⟩, rfl⟩ := O9
       have It : p ≠ o := fun e => by subst e; rw [ho] at hp; cases hp
       have cJ : o < c1.n := by rw [n1]; exact CV
       have KX : p < c1.n := by rw [n1]; exact Ob
       have ic : i < ps.length := by rw [Lc.len]; omega
       have hold := Kb i _ (List.getElem?_eq_getElem ic)
       have IZ : c1.φ p km.Q1 := by rw [HV]; exact .inl rfl
       have TJ : ∀ j f, fs j = some f -> c1.φ p f := fun j f hf => by rw [HV]; exact .inr ⟨j, hf⟩
       have tw : c1.φ o k.Q1 := L5 hφ
       have UG : k.Q1 ≠ km.Q1 := fun e => It (s1.Ax p o _ (by rw [e]; exact IZ) tw)
       obtain ⟨t1, t2, t3⟩ := HE hs.wf Oi (km.E5 + (i0 + i)) (km.es.set (i0 + i) [.ptr b 0 0]) (by simp)
       have Gr : CE P t h (.ptr bm (i0 + i) 0) (.ptr b 0 0) = some ((match km.Q2 with | true => h | false => h.kill km.Q1 (km.E5 + (i0 + i))).put bm (.cells { km with es := km.es.set (i0 + i) [.ptr b 0 0] })) := by
        simp only [CE, C1, mT]
        rw [if_pos ⟨rfl, rfl, by omega⟩]
        simp only [wr, Oi, hold, BV]
        rw [if_pos (by simp)]
        cases km.Q2 <;> simp
       rw [Gr]
       have KY : (((freeze s cs).T8 p .gone).T8 o .X8).len = (freeze s cs).len := by rw [O0.V4, O0.V4]
       obtain ⟨g1, g2⟩ := s1.RB (L := [p, o]) (fun q hq => by
         rcases List.mem_cons.1 hq with rfl | hq
         ·exact KX
         ·rw [List.mem_singleton] at hq; subst hq; exact cJ) (u := .p0 B0 (es.set i ds) none) (v := .tuple (.slice bm i0 n cp z :: ps.set i (.ptr b 0 0))) (fm := fun f => f = km.Q1 \/ ∃ j, (fun j => if j = i then some k.Q1 else fs j) j = some f)
        (T := (· = km.Q1)) t3 (fun f hf => ⟨p, by simp, by rw [hf]; exact IZ⟩) t2
        (fun f hf => by
         rcases hf with rfl | ⟨j, hj⟩
         ·exact .inl ⟨p, by simp, IZ⟩
         ·simp only at hj
          split at hj
          ·simp only [U0] at hj; subst hj; exact .inl ⟨o, by simp, tw⟩
          ·exact .inl ⟨p, by simp, TJ j f hj⟩)
        (s' := ((freeze s cs).T8 p .gone).T8 o .X8) KY
        (fun q hq => by
         simp only [List.mem_cons, List.not_mem_nil, or_false, not_or] at hq
         rw [O0.C4, if_neg (fun hh => hq.2 hh.1), O0.C4, if_neg (fun hh => hq.1 hh.1)])
        (fun q hq => by
         rcases List.mem_cons.1 hq with rfl | hq
         ·exact .inr ⟨by rw [O0.C4, if_neg (fun hh => It hh.1), O0.C4, if_pos ⟨rfl, by rw [s1.len]; exact KX⟩], fun b i f e => by rw [r1, iS] at e; cases e⟩
         ·rw [List.mem_singleton] at hq; subst hq
          exact .inl (by rw [O0.C4, if_pos ⟨rfl, by rw [O0.V4, s1.len]; exact cJ⟩]))
        (fun Ic => by
         have hk := Ic.keeps (fun f' UK e => by rw [e] at UK; exact s1.EJ p _ IZ UK)
         refine .p0 B0 (es.set i ds) none bm i0 n cp z { km with es := km.es.set (i0 + i) [.ptr b 0 0] } (ps.set i (.ptr b 0 0)) _ t1 BV Gt ZW h0 (by simp [TF]) (fun q hq => ⟨(LC q hq).1, by simp; exact (LC q hq).2⟩) (by simp; exact Qv) (fun j pp hj => ?_) (fun j f hf => ?_) ?_
         ·simp only
          rw [List.getElem?_set] at hj ⊢
          by_cases PQ : i = j
          ·subst PQ
           rw [if_pos rfl, if_pos ic] at hj
           simp only [U0] at hj; subst hj
           rw [if_pos rfl, if_pos (by omega)]
          ·rw [if_neg PQ] at hj
           rw [if_neg (by omega)]
           exact Kb j pp hj
         ·simp only
          split at hf
          ·simp only [U0] at hf; subst hf; exact UG
          ·exact JV j f hf
         ·refine (Lc.keep hk (fun j b2 k2 hj hb => t3.same b2 _ hb (fun e => JV j _ hj e))).set (fun j hj => by cases hj) (by omega) (t3.same b _ hg (fun e => UG e)) P8 Ep B2 CU C7 (M3.keep hk) (fun j _ hj => ?_)
          exact It (s1.Ax p o _ (TJ j _ hj) tw))
       have Qw : (freeze s cs).len = s.len := Au _ _
       have rO : s.len = c1.n := by rw [n1, hs.len]
       have tY : ((c1.Kk [p, o]).add (.tuple (.slice bm i0 n cp z :: ps.set i (.ptr b 0 0))) (fun f => f = km.Q1 \/ ∃ j, (fun j => if j = i then some k.Q1 else fs j) j = some f)).ρ s.len = .tuple (.slice bm i0 n cp z :: ps.set i (.ptr b 0 0)) := by
        show (if s.len = c1.n then _ else _) = _
        rw [if_pos rO]
       have tX : ((c1.Kk [p, o]).add (.tuple (.slice bm i0 n cp z :: ps.set i (.ptr b 0 0))) (fun f => f = km.Q1 \/ ∃ j, (fun j => if j = i then some k.Q1 else fs j) j = some f)).ρ p = .tuple (.slice bm i0 n cp z :: ps) := by
        show (if p = c1.n then _ else c1.ρ p) = _
        rw [if_neg (by omega), r1]; exact iS
       have g3 := g1.Bc tX (n := s.len) (by show s.len < c1.n + 1; omega) tY
       exact ⟨_, _, _, _, _, rfl, g3, .undef _, (l1.mono (fun _ h => h.elim) : u0 c h c1 h T).trans g2 hs.wf (fun f hf => .inr (hf ▸ hT _ (p1 p _ IZ))), hu⟩
   ·cases hu
  ·cases hu
 ·cases hu
theorem Zp {T : Nat -> Prop} (hs : T3 c h s) {o : Oper} {e : R1} {e' : Env} (he : A6 c h.get e e') {K : UV -> O0 -> Option R} {r : R} (hu : Zq P o e s K = some r) (hT : ∀ p f, p ∈ BL o e -> c.φ p f -> T f) : j6 T c h K r (CG P CP o e' h) := by
 obtain ⟨dst, op, ty, pos, after, guard⟩ := o
 unfold Zq at hu
 simp only at hu
 split at hu
 · 
  rename_i x
  have hr := j1 he x
  split at hu
  ·rename_i p i hx
   rw [FU]
   rw [hx] at hr
   generalize ev e' x = v at hr
   have TB := hr
   cases hr
   exact j6.pure hs TB hu
  ·rename_i p i hx
   rw [FU]
   rw [hx] at hr
   generalize ev e' x = v at hr
   have TB := hr
   cases hr
   exact j6.pure hs TB hu
  ·exact E9 hs he hu (fun p f hp => by cases hp)
 · 
  rename_i t a
  have hr := j1 he a
  split at hu
  ·rename_i p i ha
   split at hu
   ·rename_i x0 x1 fe te hp ht mT
    have mT := B6 mT
    have hp := J8 hp
    rw [LV]
    rw [ha] at hr
    generalize ev e' a = v at hr
    cases hr with
    | pe _ _ b i0 n cp z ps Ob hρ hi =>
     rcases BP hs hp with ⟨e1, _⟩ | ⟨bm, i', n', Ro, z', k, kq, fs, O9, HV, Oi, BV, Gt, ZW, h0, TF, LC, Qv, Kb, JV, Lc⟩
     ·rw [hρ] at e1; cases e1
     ·rw [hρ] at O9
      simp only [VV.tuple.injEq, List.cons.injEq, VV.slice.injEq] at O9
      obtain ⟨⟨rfl, rfl, rfl, rfl, rfl⟩, rfl⟩ := O9
      have ic : i < ps.length := by rw [Lc.len]; omega
      have Qs := List.getElem?_eq_getElem ic
      obtain ⟨b', H3⟩ := Lc.ptr i _ Qs
      rw [H3] at Qs
      have hv : AY P t h (.ptr b (i0 + i) 0) = some (.ptr b' 0 0) := by
       simp only [AY, rd, Oi, Kb i _ Qs, mT]
       simp [B5, ht]
      rw [hv]
      exact j6.pure hs (.pp p i b' _ ps Ob hρ Qs) hu
   ·cases hu
  ·exact E9 hs he hu (fun p f hp => by cases hp)
 · 
  rename_i t x ix
  have hr := j1 he x
  split at hu
  ·rename_i p hx
   split at hu
   ·rename_i x0 x1 x2 el B0 es j ht hp hj
    split at hu
    ·rename_i Ys
     have Ys := B6 Ys
     obtain ⟨q, hK⟩ := j3 hu
     obtain ⟨q1, q2⟩ := within_iff q
     have hp := J8 hp
     rw [IS, ht, A9 hj (j1 he ix) q1]
     rw [hx] at hr
     generalize ev e' x = v at hr
     cases hr with
     | X0 _ _ ps Ob hρ hv =>
      rcases BP hs hp with ⟨_, _, e1, _⟩ | ⟨bm, i', n', Ro, z', k, kq, fs, O9, HV, Oi, BV, Gt, ZW, h0, TF, LC, Qv, Kb, JV, Lc⟩
      ·subst e1; simp at q2
      ·rw [hρ] at O9
       simp only [VV.tuple.injEq, List.cons.injEq] at O9
       obtain ⟨rfl, rfl⟩ := O9
       simp only
       rw [if_pos ⟨by omega, by omega, by omega⟩]
       exact j6.pure hs (.pe p _ bm i' n' Ro z' ps Ob hρ (by omega)) hK
    ·cases hu
   ·cases hu
  ·exact E9 hs he hu (fun p f hp => by cases hp)
 · 
  rename_i op t x y u
  have hx := j1 he x
  have hy := j1 he y
  split at hu
  ·rename_i x0 x1 p i h1 h2
   rw [Sg]
   rw [h1] at hx
   rw [h2] at hy
   generalize ev e' x = v at hx
   generalize ev e' y = w at hy
   cases hx with
   | pp _ _ b sv ps Ob hρ Qs =>
    cases hy with
    | I2 =>
     split at hu
     ·rename_i x0 te ht
      have hv : Kt P .eql t x y (.ptr b 0 0) .I2 = some (.bool false) := by simp [Kt, Ee, ht, LF]
      rw [hv]; exact j6.pure hs (.bool _) hu
     ·rename_i x0 te ht
      have hv : Kt P .neq t x y (.ptr b 0 0) .I2 = some (.bool true) := by simp [Kt, Ee, ht, LF]
      rw [hv]; exact j6.pure hs (.bool _) hu
     ·cases hu
  ·exact E9 hs he hu (fun p f hp => by cases hp)
 · 
  rename_i t len parts
  obtain ⟨p1, p2⟩ := HD he parts
  split at hu
  ·rename_i p hx
   rw [Gp]
   exact Py hs hu (by rw [<- hx]; exact p1) (by rw [<- hx]; exact p2)
  ·exact E9 hs he hu (fun p f hp => by cases hp)
 · 
  rename_i t a x
  have ha := j1 he a
  split at hu
  ·rename_i p i hx
   rw [Sf]
   rw [hx] at ha
   refine Px hs hu ha (j1 he x) (fun f hf => hT p f ?_ hf)
   simp only [BL, hx]
   split <;> simp
  ·rename_i Y3
   refine E9 hs he hu (fun p f hp => hT p f ?_)
   simp only [Cr] at hp
   simp only [BL]
   split at hp
   ·rename_i q g hq; rw [hq]; exact hp
   ·rename_i q i g hq; rw [hq]; exact hp
   ·rename_i q1 q2 q3 q4 q5 q6 hq; rw [hq]; exact hp
   ·cases hp
 · 
  rename_i cl
  obtain ⟨callee, args, pD⟩ := cl
  cases callee with
  | value f => exact E9 hs he hu (fun p f hp => by cases hp)
  | invoke f n => exact E9 hs he hu (fun p f hp => by cases hp)
  | builtin b =>
   cases b with
   | append =>
    simp only at hu
    split at hu
    ·rename_i x q V6
     split at hu
     ·rename_i t u ht Sy
      split at hu
      ·rename_i us xF
       obtain ⟨x', y', e1, h1, h2⟩ := (show E4 c h.get [x, .X0 q] (I4 e' args) from by rw [<- V6]; exact Bw he args).inv2
       have iP : ∃ e, P.underlying t = some (.slice e) := by
        unfold Hx at hu
        split at hu
        ·rename_i el B0 _ _ Vc _; exact ⟨el, (FP Vc).1⟩
        ·cases hu
       obtain ⟨el, vp⟩ := iP
       have := Pz (T0 := T) hs hu h1 h2 vp (fun o f ho => hT o f (by
        simp only [BL, V6, ho]; simp))
       show j6 T c h K r (F8 P CP ⟨.builtin .append, args, pD⟩ e' h)
       unfold F8
       simp only [e1, ht, Sy, vp, xF]
       exact this
      ·cases hu
     ·cases hu
    ·rename_i Y3
     refine E9 hs he hu (fun p f hp => hT p f ?_)
     simp only [Cr] at hp
     simp only [BL]
     split at hp
     ·rename_i o l ho
      rw [ho]
      split
      ·rename_i e1; cases e1
      ·rename_i x p' e1; exact absurd (ho.trans e1) (Y3 _ _)
      ·rename_i e1; simp only [List.cons.injEq, UV.own.injEq] at e1; rw [<- e1.1]; exact hp
      ·rename_i e1 e2 e3; exact absurd rfl (e3 o l)
     ·cases hp
   | len =>
    simp only at hu
    split at hu
    ·rename_i p V6
     split at hu
     ·rename_i x0 x1 el B0 es ht hp
      have hp := J8 hp
      have hr : E4 c h.get [.X0 p] (I4 e' args) := by rw [<- V6]; exact Bw he args
      have hl := hr.1
      show j6 T c h K r (F8 P CP ⟨.builtin .len, args, pD⟩ e' h)
      unfold F8
      generalize I4 e' args = vs at hr hl
      match vs, hl, hr with
      | [v], _, hr =>
       cases hr.head with
       | X0 _ _ ps Ob hρ hv =>
        rcases BP hs hp with ⟨e1, _, rfl, _⟩ | ⟨bm, i', n', Ro, z', k, kq, fs, O9, HV, Oi, BV, Gt, ZW, h0, TF, LC, Qv, Kb, JV, Lc⟩
        ·rw [hρ] at e1
         simp only [VV.tuple.injEq, List.cons.injEq] at e1
         obtain ⟨rfl, _⟩ := e1
         simp only [ht]
         exact j6.pure hs (.int _ _) hu
        ·rw [hρ] at O9
         simp only [VV.tuple.injEq, List.cons.injEq] at O9
         obtain ⟨rfl, rfl⟩ := O9
         simp only [ht]
         rw [TF]
         exact j6.pure hs (.int _ _) hu
     ·cases hu
    ·exact E9 hs he hu (fun p f hp => by cases hp)
   | _ => exact E9 hs he hu (fun p f hp => hT p f hp)
 ·rename_i h1 h2 h3 h4 h5 h6 h7
  refine E9 hs he hu (fun p f hp => hT p f ?_)
  cases op with
  | store t a x => exact (h6 t a x rfl).elim
  | call cl => exact (h7 cl rfl).elim
  | _ => exact hp
end
def nO (g : List VV -> A0 -> Option (VV × A0)) : Prop := ∀ args h v h', g args h = some (v, h') -> ∀ b o, h.get b = some o -> h'.get b = some o
def Qn : List VV -> Bool
 | [.int .i64 _] => true
 | _ => false
def Fx : List VV -> A0 -> Option (VV × A0)
 | [.slice b i n c 1, .int .i64 lo, .int .i64 hi], h => match h.get b with
  | some (.cells k) =>
   if 0 <= lo /\ lo < hi /\ hi.toNat <= n /\ i + n <= k.es.length /\ k.L3 = 1 /\ ((k.es.drop i).take n).all Qn = true then
    (overwrite h b i (((k.es.drop i).take n).take lo.toNat ++ ((k.es.drop i).take n).drop hi.toNat ++ List.replicate (hi.toNat - lo.toNat) [.int .i64 0])).map fun h' => (.slice b i (n - (hi.toNat - lo.toNat)) c 1, h')
   else none
  | _ => none
 | _, _ => none
def m5 : Ext := fun f => match Nat.beq f 58 with
 | true => some Fx
 | false => none
def WM : FuncId -> Bool := fun f => Nat.beq f 58
theorem SK {f : FuncId} {g : List VV -> A0 -> Option (VV × A0)} (h : m5 f = some g) (ht : WM f = false) : nO g := by
 unfold m5 at h
 unfold WM at ht
 split at h
 ·rename_i hb; rw [ht] at hb; cases hb
 ·cases h
def oM (P : Program) (g : FuncId) : Option Func := match m5 g with
 | none => P.funcs[g]?
 | some _ => none
theorem Zu {P : Program} {g : FuncId} {fn : Func} (h : oM P g = some fn) : m5 g = none /\ P.funcs[g]? = some fn := by
 unfold oM at h
 split at h
 ·rename_i hx; exact ⟨hx, h⟩
 ·cases h
mutual
def UV.refs : UV -> List Nat
 | .ptr o _ => [o]
 | .u7 o _ _ => [o]
 | .m7 _ o _ _ _ _ => [o]
 | .own o => [o]
 | .X0 o => [o]
 | .pe o _ => [o]
 | .pp o _ => [o]
 | .map o => [o]
 | .iface _ v => UV.refs v
 | .agg cs => UV.Mv cs
 | .tuple cs => UV.Mv cs
 | _ => []
def UV.Mv : List UV -> List Nat
 | [] => []
 | v :: vs => UV.refs v ++ UV.Mv vs
end
def UO.refs : UO -> List Nat
 | .obj cs => UV.Mv cs
 | _ => []
def AW : List Nat -> Nat -> Bool
 | [], _ => false
 | a :: l, o => Nat.beq a o || AW l o
def EI : List Nat -> Bool
 | [] => true
 | a :: l => !AW l a && EI l
def reach (s : O0) : Nat -> List Nat -> List Nat -> List Nat
 | 0, _, acc => acc
 | _ + 1, [], acc => acc
 | k + 1, o :: todo, acc => match AW acc o with
  | true => reach s k todo acc
  | false => reach s k (todo ++ (s.get o).refs) (acc ++ [o])
def idx : List Nat -> Nat -> Option Nat
 | [], _ => none
 | a :: l, o => match Nat.beq a o with
  | true => some 0
  | false => (idx l o).map Nat.succ
mutual
def UV.pick (ids : List Nat) : UV -> UV
 | .ptr o f => match idx ids o with | some j => .ptr j f | none => .undef
 | .u7 o i f => match idx ids o with | some j => .u7 j i f | none => .undef
 | .m7 B0 o g n j f => match idx ids o with | some p => .m7 B0 p g n j f | none => .undef
 | .own o => match idx ids o with | some j => .own j | none => .undef
 | .X0 o => match idx ids o with | some j => .X0 j | none => .undef
 | .pe o i => match idx ids o with | some j => .pe j i | none => .undef
 | .pp o i => match idx ids o with | some j => .pp j i | none => .undef
 | .map o => match idx ids o with | some j => .map j | none => .undef
 | .iface t v => .iface t (UV.pick ids v)
 | .agg cs => .agg (UV.E6 ids cs)
 | .tuple cs => .tuple (UV.E6 ids cs)
 | v => v
def UV.E6 (ids : List Nat) : List UV -> List UV
 | [] => []
 | v :: vs => UV.pick ids v :: UV.E6 ids vs
end
def UO.pick (ids : List Nat) : UO -> UO
 | .obj cs => .obj (UV.E6 ids cs)
 | u => u
def O0.pick (s : O0) (ids : List Nat) : List Nat -> O0
 | [] => []
 | o :: l => (s.get o).pick ids :: O0.pick s ids l
mutual
def UV.QP (f : Nat -> Nat) : UV -> UV
 | .ptr o g => .ptr (f o) g
 | .u7 o i g => .u7 (f o) i g
 | .m7 B0 o g n j q => .m7 B0 (f o) g n j q
 | .own o => .own (f o)
 | .X0 o => .X0 (f o)
 | .pe o i => .pe (f o) i
 | .pp o i => .pp (f o) i
 | .map o => .map (f o)
 | .iface t v => .iface t (UV.QP f v)
 | .agg cs => .agg (UV.Kx f cs)
 | .tuple cs => .tuple (UV.Kx f cs)
 | v => v
def UV.Kx (f : Nat -> Nat) : List UV -> List UV
 | [] => []
 | v :: vs => UV.QP f v :: UV.Kx f vs
end
def UO.QP (f : Nat -> Nat) : UO -> UO
 | .obj cs => .obj (UV.Kx f cs)
 | u => u
def nth : List Nat -> Nat -> Nat
 | [], _ => 0
 | a :: _, 0 => a
 | _ :: l, n + 1 => nth l n
def bl : List Nat -> Nat
 | [] => 0
 | _ :: l => Nat.succ (bl l)
def Hi (ids : List Nat) (n : Nat) (j : Nat) : Nat := match Nat.ble (bl ids) j with
 | true => n + (j - bl ids)
 | false => nth ids j
def O0.EB (s : O0) (f : Nat -> Nat) : O0 -> O0
 | [] => s
 | u :: us => O0.EB (s.push (u.QP f)) f us
def Ah (f : Nat -> Nat) : O0 -> List Nat -> O0 -> Option O0
 | s, [], rest => some (s.EB f rest)
 | _, _ :: _, [] => none
 | s, o :: ids, u :: us => Ah f (s.T8 o (u.QP f)) ids us
mutual
def UV.FL : UV -> Bool
 | .bool _ | .int _ _ | .str _ | .I2 | .nilslice | .A3 | .D3 | .I1 => true
 | .agg cs => UV.SL cs
 | .tuple cs => UV.SL cs
 | .iface _ v => UV.FL v
 | _ => false
def UV.SL : List UV -> Bool
 | [] => true
 | v :: vs => UV.FL v && UV.SL vs
end
def Sp (s : O0) : UV -> UV
 | .own o => match rowOf (s.get o) with
  | some (B0, es) => .fz B0 es false
  | none => .undef
 | v => v
def lX (s : O0) : UV -> UV
 | .agg cs => .agg (cs.map (Sp s))
 | v => Sp s v
def Lh : Code -> Bool -> Option Code
 | .seq a b, right => some (match right with | true => b | false => a)
 | .cond _ a b, right => some (match right with | true => b | false => a)
 | .block _ c, false => some c
 | .loop c, false => some c
 | _, _ => none
def j8 : Nat -> Nat -> List Bool -> List Bool
 | 0, _, acc => acc
 | k + 1, p, acc => match Nat.ble p 1 with
  | true => acc
  | false => j8 k (p / 2) (Nat.beq (p % 2) 1 :: acc)
def HZ : Code -> List Bool -> Option Code
 | c, [] => some c
 | c, b :: l => match Lh c b with
  | some d => HZ d l
  | none => none
def N0 (c : Code) (p : Nat) : Option Code := HZ c (j8 p p [])
abbrev J1 := (R : Type) -> List UV -> O0 -> (UV -> O0 -> Option R) -> Option R
abbrev M1 := (R : Type) -> R1 -> O0 -> (Y2 -> R1 -> O0 -> Option R) -> Option R
structure Fw where
 F : FuncId -> Option (Bool × J1)
 Pc : Nat -> Option M1
section
variable (P : Program) {R : Type}
def Iq : List Nat -> Nat -> Bool
 | [], _ => true
 | a :: l, n => Nat.ble (a + 1) n && Iq l n
def lZ : List Nat -> Bool
 | [] => true
 | _ => false
def Cs (own : Bool) (args : List UV) (s : O0) : List Nat :=
 match own with
 | true => reach s 200 (UV.Mv args) []
 | false => reach s 200 (UV.Mv (args.map (lX s))) []
def Rw (own : Bool) (args : List UV) (s : O0) : List UV :=
 match own with
 | true => args
 | false => args.map (lX s)
def JA (own : Bool) (args : List UV) : List UV :=
 match own with
 | true => []
 | false => (args.map I3).flatten
def Jt (own : Bool) (told : J1) (args : List UV) (s : O0) (K : UV -> O0 -> Option R) : Option R :=
 let ids := Cs own args s
 let s1 := freeze s (JA own args)
 match EI ids && Iq ids s.len with
 | true => told R (UV.E6 ids (Rw own args s)) (s1.pick ids ids) fun v st =>
   match lZ ids && v.FL with
   | true => K v s
   | false => match Ah (Hi ids s.len) s1 ids st with
    | some s2 => K (v.QP (Hi ids s.len)) s2
    | none => none
 | false => none
def WH (e : R1) (s : O0) : ResultVar -> Option UV
 | .tmp t => some (e.get t)
 | .cell a t => Hy P t s (e.get a)
def DP (e : R1) (s : O0) : List ResultVar -> Option (List UV)
 | [] => some []
 | r :: rs => match WH P e s r, DP e s rs with
  | some v, some vs => some (v :: vs)
  | _, _ => none
def FB (fn : Func) (e : R1) (s : O0) : Option UV :=
 match DP P e s fn.results.toList with
 | some [v] => some v
 | some vs => some (.tuple vs)
 | none => none
def HT : List UV -> Nat -> Bool
 | [], _ => true
 | _ :: _, 0 => false
 | _ :: l, n + 1 => HT l n
def Hu : UV := .tuple []
def GD (call : FuncId -> List UV -> O0 -> (UV -> O0 -> Option R) -> Option R) (name : String) (args : List UV) (d : D) (s : O0) (K : UV -> O0 -> Option R) : List Nat -> List FT -> Option R
 | t :: ts, ft :: B0 => cond (KB t d) (match Cp P t name with
  | some g => match plainFunc P g with
   | true => call g (ja ft (qE d) :: args) s K
   | false => none
  | none => none) (GD call name args d s K ts B0)
 | _, _ => none
def DO (call : FuncId -> List UV -> O0 -> (UV -> O0 -> Option R) -> Option R) (o : Oper) (e : R1) (s : O0) (K : UV -> O0 -> Option R) : Option R :=
 match o.op with
 | .call c => match c.callee with
  | .builtin _ => Zq P o e s K
  | .value f => match F7 e f with
   | .func g => match plainFunc P g with
    | true => call g (AZ e c.args) s K
    | false => none
   | _ => none
  | .invoke r name => match F7 e r with
   | .iface t v => match Cp P t name with
    | some g => match plainFunc P g with
     | true => call g (v :: AZ e c.args) s K
     | false => none
    | none => none
   | .Bn ts B0 d => GD P call name (AZ e c.args) d s K ts B0
   | _ => none
 | _ => Zq P o e s K
def Nb (ops : Array Oper) (j : Nat) : Option Tmp := (ops[j]?).bind (·.dst)
def Lt (call : FuncId -> List UV -> O0 -> (UV -> O0 -> Option R) -> Option R) (ops : Array Oper) : List Oper -> R1 -> O0 -> (R1 -> O0 -> Option R) -> Option R
 | [], e, s, K => K e s
 | o :: l, e, s, K =>
  match o.guard with
  | none => DO P call o e s fun v s => Lt call ops l (e.put o.dst v) s K
  | some (j, want) => match Nb ops j with
   | none => none
   | some t => match e.get t with
    | .bool p => cond p
      (match want with
       | true => DO P call o (e.set t (.bool true)) s fun v s => Lt call ops l ((e.set t (.bool true)).put o.dst v) s K
       | false => Lt call ops l ((e.set t (.bool true)).put o.dst Hu) s K)
      (match want with
       | false => DO P call o (e.set t (.bool false)) s fun v s => Lt call ops l ((e.set t (.bool false)).put o.dst v) s K
       | true => Lt call ops l ((e.set t (.bool false)).put o.dst Hu) s K)
    | .tuple [] => Lt call ops l (e.put o.dst Hu) s K
    | _ => none
inductive Src where
 | var (o : Nat)
 | row (o : Nat)
 | data
 | other
def KD (o : Oper) (e : R1) (s : O0) : Src :=
 match o.op with
 | .load _ a => match F7 e a with
  | .ptr o _ => match s.get o with
   | .obj _ => .var o
   | _ => .other
  | .m7 _ o _ _ _ _ => match s.get o with
   | .obj _ => .var o
   | _ => .other
  | .u7 o _ _ => match s.get o with
   | .row _ _ => .row o
   | _ => .other
  | .AX _ _ _ _ => .data
  | .pn _ _ _ => .data
  | _ => .other
 | _ => .other
def Src.log : Src -> Src
 | .row _ => .other
 | x => x
structure Bt where
 at_ : Nat
 src : Src
 IG : Bool
structure ZT where
 at_ : Nat
 BD : List Nat
 n : Nat
def reads (Q7 : Nat) : Src -> List Nat -> List ZT -> Bool
 | _, _, [] => true
 | .row o, acc, l :: ls => (Q7.testBit l.at_ || (Nat.blt o l.n && !AW (l.BD ++ acc) o)) && reads Q7 (.row o) (l.BD ++ acc) ls
 | .var o, acc, l :: ls => (Q7.testBit l.at_ || (Nat.blt o l.n && !AW (l.BD ++ acc) o)) && reads Q7 (.var o) (l.BD ++ acc) ls
 | x, acc, l :: ls => Q7.testBit l.at_ && reads Q7 x (l.BD ++ acc) ls
def Bt.BK (t : List Nat) (l : Bt) : Bt :=
 match l.src with
 | .var o => { l with IG := l.IG || AW t o }
 | .row _ => { l with IG := true }
 | .data => l
 | .other => { l with IG := true }
def writes (Q7 : Nat) : List Bt -> Bool
 | [] => true
 | l :: ls => (Q7.testBit l.at_ || !l.IG) && writes Q7 ls
def FM : Nat -> List Nat
 | 0 => []
 | n + 1 => n :: FM n
def M7 (T : Fw) (f : FuncId) (args : List UV) (s : O0) : List Nat :=
 match m5 f, WM f with
 | some _, false => []
 | _, _ => match T.F f with
  | some (own, _) => Cs own args s
  | none => FM s.len
def L4 (T : Fw) (o : Oper) (e : R1) (s : O0) : List Nat :=
 match o.op with
 | .call c => match c.callee with
  | .builtin _ => BL o e
  | .value f => match F7 e f with
   | .func g => M7 T g (AZ e c.args) s
   | _ => []
  | .invoke r name => match F7 e r with
   | .iface t v => match Cp P t name with
    | some g => M7 T g (v :: AZ e c.args) s
    | none => []
   | .Bn _ _ _ => FM s.len
   | _ => []
 | _ => BL o e
mutual
def UV.Nn : UV -> Bool
 | .undef => false
 | .func _ => false
 | .iface _ v => UV.Nn v
 | .agg cs => UV.Ta cs
 | .tuple cs => UV.Ta cs
 | _ => true
def UV.Ta : List UV -> Bool
 | [] => true
 | v :: vs => UV.Nn v && UV.Ta vs
end
def As (t : List Nat) : Nat -> O0 -> O0 -> Bool
 | i, u :: s, v :: s' => (match v with
  | .X8 => match u with
   | .X8 => true
   | _ => AW t i
  | _ => true) && As t (i + 1) s s'
 | _, _, _ => true
def CK (T : Fw) (call : FuncId -> List UV -> O0 -> (UV -> O0 -> Option R) -> Option R) (ops : Array Oper) (Q7 : Array Nat) : Nat -> List Oper -> R1 -> O0 -> List Bt -> List ZT -> (R1 -> O0 -> Option R) -> Option R
 | _, [], e, s, _, _, K => K e s
 | i, o :: l, e, s, rs, es, K =>
  let run (e : R1) : Option R := match Y1 P o with
   | .read => match reads (Q7.getD i 0) (KD o e s) [] es with
    | true => DO P call o e s fun v s' => match v.Nn && As [] 0 s s' with
     | true => CK T call ops Q7 (i + 1) l (e.put o.dst v) s' (⟨i, KD o e s, false⟩ :: rs) es K
     | false => none
    | false => none
   | .EV =>
    let t := L4 P T o e s
    let QL := rs.map (Bt.BK t)
    match writes (Q7.getD i 0) QL with
    | true => DO P call o e s fun v s' => match As t 0 s s' with
     | true => CK T call ops Q7 (i + 1) l (e.put o.dst v) s' QL (⟨i, t, s.len⟩ :: es) K
     | false => none
    | false => none
   | _ => DO P call o e s fun v s' => match As [] 0 s s' with
    | true => CK T call ops Q7 (i + 1) l (e.put o.dst v) s' rs es K
    | false => none
  match o.guard with
  | none => run e
  | some (j, want) => match Nb ops j with
   | none => none
   | some t => match e.get t with
    | .bool p => cond p
      (match want with
       | true => run (e.set t (.bool true))
       | false => CK T call ops Q7 (i + 1) l ((e.set t (.bool true)).put o.dst Hu) s rs es K)
      (match want with
       | false => run (e.set t (.bool false))
       | true => CK T call ops Q7 (i + 1) l ((e.set t (.bool false)).put o.dst Hu) s rs es K)
    | .tuple [] => CK T call ops Q7 (i + 1) l (e.put o.dst Hu) s rs es K
    | _ => none
def n4 (F : FuncId -> Option (Bool × J1)) : Nat -> (Nat -> Option M1) -> Nat -> Code -> R1 -> O0 -> (Y2 -> R1 -> O0 -> Option R) -> Option R
 | 0, _, _, _, _, _, _ => none
 | k + 1, Pc, p, c, e, s, K =>
  match Pc p with
  | some told => told R e s K
  | none =>
   match c with
   | .skip => K .normal e s
   | .label _ => K .normal e s
   | .region _ ops draw =>
    let call : FuncId -> List UV -> O0 -> (UV -> O0 -> Option R) -> Option R := fun g args s K =>
     match F g with
     | some (own, told) => Jt own told args s K
     | none => match oM P g with
      | some fn => match fn.body with
       | some c => match HT args fn.ntmps with
        | true => n4 F k (fun _ => none) 1 c args s fun x e s => match x with
         | .exit _ => none
         | _ => match FB P fn e s with
          | some v => K v s
          | none => none
        | false => none
       | none => none
      | none => none
    match draw with
    | false => Lt P call ops ops.toList e s fun e s => K .normal e s
    | true => match AM P ops with
     | true => CK P ⟨F, fun _ => none⟩ call ops (Region.before ops) 0 ops.toList e s [] [] fun e s => K .normal e s
     | false => none
   | .seq a b => n4 F k Pc (2 * p) a e s fun x e s => match x with
    | .normal => n4 F k Pc (2 * p + 1) b e s K
    | x => K x e s
   | .cond c a b => match F7 e c with
    | .bool q => cond q (n4 F k Pc (2 * p) a e s K) (n4 F k Pc (2 * p + 1) b e s K)
    | _ => none
   | .block id c => n4 F k Pc (2 * p) c e s fun x e s => match x with
    | .exit jf => match Nat.beq jf id with
     | true => K .normal e s
     | false => K (.exit jf) e s
    | x => K x e s
   | .loop c => n4 F k Pc (2 * p) c e s fun x e s => match x with
    | .normal => n4 F k Pc p (.loop c) e s K
    | x => K x e s
   | .exit id => K (.exit id) e s
   | .ret => K .ret e s
   | _ => none
def I6 (T : Fw) (k : Nat) (f : FuncId) (args : List UV) (s : O0) (K : UV -> O0 -> Option R) : Option R :=
 match oM P f with
 | some fn => match fn.body with
  | some c => match HT args fn.ntmps with
   | true => n4 P T.F k T.Pc 1 c args s fun x e s => match x with
    | .exit _ => none
    | _ => match FB P fn e s with
     | some v => K v s
     | none => none
   | false => none
  | none => none
 | none => none
end
section
variable {P : Program}
def N3 (P : Program) (f : FuncId) (told : J1) : Prop :=
 ∀ (R : Type) args st (K : UV -> O0 -> Option R) r, told R args st K = some r -> ∀ (c : Cx) (h : A0) J4, T3 c h st -> E4 c h.get args J4 ->
  VC P m5 f J4 h fun v h' => ∃ u s1 c1, T3 c1 h' s1 /\ RV c1 h'.get u v /\ u0 c h c1 h' c.L7 /\ K u s1 = some r
structure K3 (m : Nat) (c : Cx) (h : A0) (c' : Cx) (h' : A0) (T : Nat -> Prop) : Prop where
 n : m <= c'.n
 ρ : ∀ o, o < m -> c'.ρ o = c.ρ o
 K : ∀ f, c.K f -> c'.K f
 next : h.next <= h'.next
 same : ∀ b o, h.get b = some o -> ¬ T (match o with | .cells k => k.Q1 | .map _ => b) -> h'.get b = some o
 Q1 : ∀ b k, h.get b = some (.cells k) -> ∃ k', h'.get b = some (.cells k') /\ k'.Q1 = k.Q1
 mp : ∀ b es, h.get b = some (.map es) -> ∃ Aw, h'.get b = some (.map Aw)
 Gf : ∀ f, c'.K f -> c.K f \/ h.next <= f \/ ∃ o, c.φ o f
 n8 : ∀ o f, c'.φ o f -> h.next <= f \/ ∃ o, c.φ o f
 Aa : ∀ o f, o < m -> c'.φ o f -> c.φ o f
theorem u0.Ug {m : Nat} {c c' : Cx} {h h' : A0} {T : Nat -> Prop} (hL : u0 c h c' h' T) (hm : m <= c.n) : K3 m c h c' h' T :=
 ⟨Nat.le_trans hm hL.n, fun o ho => hL.ρ o (Nat.lt_of_lt_of_le ho hm), hL.K, hL.next, hL.same, hL.Q1, hL.mp, hL.Gf, hL.n8, fun o f ho => hL.Aa o f (Nat.lt_of_lt_of_le ho hm)⟩
theorem K3.full {c c' : Cx} {h h' : A0} {T : Nat -> Prop} (hL : K3 c.n c h c' h' T) : u0 c h c' h' T := ⟨hL.n, hL.ρ, hL.K, hL.next, hL.same, hL.Q1, hL.mp, hL.Gf, hL.n8, hL.Aa⟩
theorem K3.refl {m : Nat} {c : Cx} (hm : m <= c.n) (h : A0) (T : Nat -> Prop) : K3 m c h c h T := (u0.refl c h T).Ug hm
theorem K3.trans {m : Nat} {c c1 c' : Cx} {h h1 h' : A0} (hL : K3 m c h c1 h1 c.L7) (hM : K3 m c1 h1 c' h' c1.L7) (hw : WF h.get h.next) : K3 m c h c' h' c.L7 := by
 refine ⟨hM.n, fun o ho => (hM.ρ o ho).trans (hL.ρ o ho), fun f hf => hM.K f (hL.K f hf), Nat.le_trans hL.next hM.next, ?_, ?_, ?_, ?_, ?_, fun o f ho hf => hL.Aa o f ho (hM.Aa o f ho hf)⟩
 ·intro b o hb hn
  refine hM.same b o (hL.same b o hb hn) (fun ⟨p, ht⟩ => ?_)
  rcases hL.n8 p _ ht with h2 | h2
  ·cases o with
   | cells k => have := hw.Q1 b k hb; simp only at h2; omega
   | map es => have := hw.lt b _ hb; simp only at h2; omega
  ·exact hn h2
 ·intro b k hb
  obtain ⟨k1, h2, e1⟩ := hL.Q1 b k hb
  obtain ⟨k2, h3, e2⟩ := hM.Q1 b k1 h2
  exact ⟨k2, h3, e2.trans e1⟩
 ·intro b es hb
  obtain ⟨k1, h2⟩ := hL.mp b es hb
  exact hM.mp b k1 h2
 ·intro f hf
  rcases hM.Gf f hf with h2 | h2 | ⟨o, h2⟩
  ·exact hL.Gf f h2
  ·exact .inr (.inl (Nat.le_trans hL.next h2))
  ·rcases hL.n8 o f h2 with h3 | h3
   ·exact .inr (.inl h3)
   ·exact .inr (.inr h3)
 ·intro o f hf
  rcases hM.n8 o f hf with h2 | ⟨o', h2⟩
  ·exact .inl (Nat.le_trans hL.next h2)
  ·exact hL.n8 o' f h2
def l4 (P : Program) (m : Nat) (code : Code) (told : M1) : Prop :=
 ∀ (R : Type) e st (K : Y2 -> R1 -> O0 -> Option R) r, told R e st K = some r -> ∀ (c : Cx) (h : A0) e', m <= c.n -> T3 c h st -> A6 c h.get e e' ->
  WP P m5 code e' h fun x e1 h1 => ∃ u1 s1 c1, T3 c1 h1 s1 /\ A6 c1 h1.get u1 e1 /\ K3 m c h c1 h1 c.L7 /\ K x u1 s1 = some r
theorem Fi {l : List Nat} {o : Nat} : AW l o = true ↔ o ∈ l := by
 induction l with
 | nil => simp [AW]
 | cons a l ih =>
  simp only [AW, Bool.or_eq_true, ih, List.mem_cons]
  constructor
  ·rintro (h | h)
   ·exact .inl (B6 h).symm
   ·exact .inr h
  ·rintro (rfl | h)
   ·exact .inl (Nat.beq_refl _)
   ·exact .inr h
theorem CO {l : List Nat} (h : EI l = true) : l.Nodup := by
 induction l with
 | nil => exact List.nodup_nil
 | cons a l ih =>
  simp only [EI, Bool.and_eq_true, Bool.not_eq_true'] at h
  refine List.nodup_cons.2 ⟨fun hm => ?_, ih h.2⟩
  rw [Fi.2 hm] at h; cases h.1
theorem iL (l : List Nat) : bl l = l.length := by
 induction l with
 | nil => rfl
 | cons a l ih => simp [bl, ih]
theorem S6 {l : List Nat} {o j : Nat} (h : idx l o = some j) : l[j]? = some o := by
 induction l generalizing j with
 | nil => cases h
 | cons a l ih =>
  simp only [idx] at h
  split at h
  ·rename_i hb; simp only [U0] at h; subst h; simp [B6 hb]
  ·simp only [Option.map_eq_some_iff] at h
   obtain ⟨k, hk, rfl⟩ := h
   simpa using ih hk
theorem lV {l : List Nat} {j o : Nat} (h : l[j]? = some o) : nth l j = o := by
 induction l generalizing j with
 | nil => cases h
 | cons a l ih => cases j with
  | zero => simp at h; simp [nth, h]
  | succ j => simp at h; simp [nth, ih h]
theorem bY {l : List Nat} (IY : l.Nodup) {j k o : Nat} (hj : l[j]? = some o) (hk : l[k]? = some o) : j = k := by
 induction l generalizing j k with
 | nil => cases hj
 | cons a l ih =>
  obtain ⟨sU, IY⟩ := List.nodup_cons.1 IY
  cases j with
  | zero => cases k with
   | zero => rfl
   | succ k => simp at hj hk; subst hj; exact absurd (List.mem_of_getElem? hk) sU
  | succ j => cases k with
   | zero => simp at hj hk; subst hk; exact absurd (List.mem_of_getElem? hj) sU
   | succ k => simp at hj hk; rw [ih IY hj hk]
def Cx.pick (c : Cx) (ids : List Nat) : Cx := ⟨ids.length, fun j => match ids[j]? with | some o => c.ρ o | none => .undef, c.K, fun j => match ids[j]? with | some o => c.φ o | none => BF⟩
section
variable {c : Cx} {h : A0} {s : O0} {ids : List Nat}
theorem Cx.F9 {j o : Nat} (h : ids[j]? = some o) : (c.pick ids).ρ j = c.ρ o := by simp only [Cx.pick, h]
mutual
theorem RV.pick {g : VG} : ∀ {u : UV} {v : VV}, RV c g u v -> RV (c.pick ids) g (u.pick ids) v
 | .undef, _, _ => .undef _
 | .bool b, _, h => by cases h; exact .bool b
 | .int k n, _, h => by cases h; exact .int k n
 | .str x, _, h => by cases h; exact .str x
 | .I2, _, h => by cases h; exact .I2
 | .ptr o f, _, h => by
  cases h with
  | ptr _ _ b ho hb =>
   simp only [UV.pick]
   split
   ·rename_i j hj
    have := S6 hj
    exact .ptr j f b (List.getElem?_eq_some_iff.1 this).1 (by rw [Cx.F9 this]; exact hb)
   ·exact .undef _
 | .m7 B0 o g n q f, _, h => by
  cases h with
  | m7 _ _ _ _ _ _ b ho hb hj =>
   simp only [UV.pick]
   split
   ·rename_i j hq
    have := S6 hq
    exact .m7 B0 j g n q f b (List.getElem?_eq_some_iff.1 this).1 (by rw [Cx.F9 this]; exact hb) hj
   ·exact .undef _
 | .u7 o i f, _, h => by
  cases h with
  | u7 _ _ _ b i0 n cp z ho hb hi =>
   simp only [UV.pick]
   split
   ·rename_i j hj
    have := S6 hj
    exact .u7 j i f b i0 n cp z (List.getElem?_eq_some_iff.1 this).1 (by rw [Cx.F9 this]; exact hb) hi
   ·exact .undef _
 | .AX B0 es i f, _, h => by
  cases h with
  | AX _ _ _ _ b i0 n cp z hb hi => exact .AX _ _ _ _ b i0 n cp z hb hi
 | .nilslice, _, h => by cases h; exact .nilslice
 | .own o, _, h => by
  cases h with
  | own _ _ ho hb hv =>
   simp only [UV.pick]
   split
   ·rename_i j hj
    have := S6 hj
    exact .own j _ (List.getElem?_eq_some_iff.1 this).1 (by rw [Cx.F9 this]; exact hb) hv
   ·exact .undef _
 | .fz B0 es cut, _, h => by
  cases h with
  | fz _ _ _ _ M3 hc => exact .fz _ _ _ _ M3 hc
 | .nn B0 es, _, h => by
  cases h with
  | nn _ _ _ M3 hv => exact .nn _ _ _ M3 hv
 | .X0 o, _, h => by
  cases h with
  | X0 _ _ ps ho hb hv =>
   simp only [UV.pick]
   split
   ·rename_i j hj
    have := S6 hj
    exact .X0 j _ ps (List.getElem?_eq_some_iff.1 this).1 (by rw [Cx.F9 this]; exact hb) hv
   ·exact .undef _
 | .pe o i, _, h => by
  cases h with
  | pe _ _ b i0 n cp z ps ho hb hi =>
   simp only [UV.pick]
   split
   ·rename_i j hj
    have := S6 hj
    exact .pe j i b i0 n cp z ps (List.getElem?_eq_some_iff.1 this).1 (by rw [Cx.F9 this]; exact hb) hi
   ·exact .undef _
 | .pp o i, _, h => by
  cases h with
  | pp _ _ b sv ps ho hb hp =>
   simp only [UV.pick]
   split
   ·rename_i j hj
    have := S6 hj
    exact .pp j i b sv ps (List.getElem?_eq_some_iff.1 this).1 (by rw [Cx.F9 this]; exact hb) hp
   ·exact .undef _
 | .A3, _, h => by cases h; exact .A3
 | .map o, _, h => by
  cases h with
  | map _ b ho hb =>
   simp only [UV.pick]
   split
   ·rename_i j hj
    have := S6 hj
    exact .map j b (List.getElem?_eq_some_iff.1 this).1 (by rw [Cx.F9 this]; exact hb)
   ·exact .undef _
 | .D3, _, h => by cases h; exact .D3
 | .func f, _, h => by cases h; exact .func f
 | .pz _ _, _, h => by
  cases h with
  | pz _ _ _ M3 => exact .pz _ _ _ M3
 | .pn _ _ _, _, h => by
  cases h with
  | pn _ _ _ b M3 => exact .pn _ _ _ b M3
 | .Bn _ _ _, _, h => by
  cases h with
  | Bn _ _ _ _ M3 => exact .Bn _ _ _ _ M3
 | .I1, _, h => by cases h; exact .I1
 | .iface t u, _, h => by
  cases h with
  | iface _ _ v hv => exact .iface t _ v (RV.pick hv)
 | .agg us, _, h => by
  cases h with
  | agg _ vs hl hp => exact RV.OB (E4.E6 ⟨hl, hp⟩)
 | .tuple us, _, h => by
  cases h with
  | tuple _ vs hl hp => exact RV.tuple' (E4.E6 ⟨hl, hp⟩)
theorem E4.E6 {g : VG} : ∀ {us : List UV} {vs : List VV}, E4 c g us vs -> E4 (c.pick ids) g (UV.E6 ids us) vs
 | [], vs, h => by
  have := h.1
  match vs, this with
  | [], _ => exact E4.nil _ _
 | u :: us, vs, h => by
  have := h.1
  match vs, this, h with
  | v :: vs, _, h => exact E4.cons (RV.pick h.head) (E4.E6 h.tail)
end
theorem PE (us : List UV) : (UV.E6 ids us).length = us.length := by
 induction us with
 | nil => rfl
 | cons u us ih => simp [UV.E6, ih]
theorem RO.pick {g : VG} {u : UO} {v : VV} {fm : Nat -> Prop} (hr : RO c g u v fm) : RO (c.pick ids) g (u.pick ids) v fm := by
 cases hr with
 | obj cs b k xs hg P8 hz B2 CU hx hr => exact .obj _ b k xs hg P8 (by rw [PE]; exact hz) B2 CU hx hr.E6
 | W7 B0 => exact .W7 B0
 | B7 B0 b i z k hg hK hz w6 h0 hi => exact .B7 B0 b i z k hg hK hz w6 h0 hi
 | row B0 es b i n cp z k hg B2 hz w6 h0 hn AV hs => exact .row B0 es b i n cp z k hg B2 hz w6 h0 hn AV hs
 | old B0 es v h => exact .old B0 es v h
 | map kf ag B0 es b z8 hg hk hl h => exact .map kf ag B0 es b z8 hg hk hl h
 | B8 B0 => exact .B8 B0
 | p0 B0 es x b i n cp z k ps fs hg B2 hz w6 h0 hn AV U8 hc Yq hE => exact .p0 B0 es x b i n cp z k ps fs hg B2 hz w6 h0 hn AV U8 hc Yq hE
 | X8 v => exact .X8 v
 | gone v hv => exact .gone v hv
theorem SS (l : List Nat) (j : Nat) : O0.get (s.pick ids l) j = match l[j]? with | some o => (s.get o).pick ids | none => .gone := by
 induction l generalizing j with
 | nil => rfl
 | cons a l ih => cases j with
  | zero => rfl
  | succ j => simp only [O0.pick, O0.get, ih, List.getElem?_cons_succ]
theorem bI (l : List Nat) : O0.len (s.pick ids l) = l.length := by
 induction l with
 | nil => rfl
 | cons a l ih => simp [O0.pick, O0.len, ih]
theorem T3.pick (hs : T3 c h s) (IY : ids.Nodup) : T3 (c.pick ids) h (s.pick ids ids) := by
 refine ⟨hs.wf, bI ids, fun j => ?_, fun j k f h1 h2 => ?_, fun j f h1 hK => ?_, fun j f h1 => ?_, hs.Rc, fun j hj => ?_⟩
 ·rw [SS]
  show RO _ _ _ (match ids[j]? with | some o => c.ρ o | none => .undef) (match ids[j]? with | some o => c.φ o | none => BF)
  cases ids[j]? with
  | none => exact .gone _ (by intro b i f e; cases e)
  | some o => exact (hs.obj o).pick
 ·simp only [Cx.pick] at h1 h2
  cases hj : ids[j]? with
  | none => rw [hj] at h1; cases h1
  | some o =>
   cases hk : ids[k]? with
   | none => rw [hk] at h2; cases h2
   | some p =>
    rw [hj] at h1; rw [hk] at h2
    have := hs.Ax o p f h1 h2
    subst this
    exact bY IY hj hk
 ·simp only [Cx.pick] at h1
  cases hj : ids[j]? with
  | none => rw [hj] at h1; cases h1
  | some o => rw [hj] at h1; exact hs.EJ o f h1 hK
 ·simp only [Cx.pick] at h1
  cases hj : ids[j]? with
  | none => rw [hj] at h1; cases h1
  | some o => rw [hj] at h1; exact hs.s8 o f h1
 ·have hj : ids.length <= j := hj
  simp only [Cx.pick, List.getElem?_eq_none hj]
theorem Cx.An {f : Nat} (hf : (c.pick ids).L7 f) : ∃ o, o ∈ ids /\ c.φ o f := by
 obtain ⟨j, hj⟩ := hf
 simp only [Cx.pick] at hj
 cases ho : ids[j]? with
 | none => rw [ho] at hj; cases hj
 | some o => rw [ho] at hj; exact ⟨o, List.mem_of_getElem? ho, hj⟩
mutual
theorem RV.QP {c2 : Cx} {g : VG} {f : Nat -> Nat} (hf : ∀ j, j < c2.n -> f j < c.n /\ c.ρ (f j) = c2.ρ j) (hK : c.K = c2.K) : ∀ {u : UV} {v : VV}, RV c2 g u v -> RV c g (u.QP f) v
 | .undef, _, _ => .undef _
 | .bool b, _, h => by cases h; exact .bool b
 | .int k n, _, h => by cases h; exact .int k n
 | .str x, _, h => by cases h; exact .str x
 | .I2, _, h => by cases h; exact .I2
 | .ptr o q, _, h => by
  cases h with
  | ptr _ _ b ho hb => exact .ptr _ _ b (hf o ho).1 ((hf o ho).2.trans hb)
 | .m7 B0 o g n j q, _, h => by
  cases h with
  | m7 _ _ _ _ _ _ b ho hb hj => exact .m7 B0 _ g n j q b (hf o ho).1 ((hf o ho).2.trans hb) hj
 | .u7 o i q, _, h => by
  cases h with
  | u7 _ _ _ b i0 n cp z ho hb hi => exact .u7 _ _ _ b i0 n cp z (hf o ho).1 ((hf o ho).2.trans hb) hi
 | .AX B0 es i q, _, h => by
  cases h with
  | AX _ _ _ _ b i0 n cp z hb hi => exact .AX _ _ _ _ b i0 n cp z (by rw [hK]; exact hb) hi
 | .nilslice, _, h => by cases h; exact .nilslice
 | .own o, _, h => by
  cases h with
  | own _ _ ho hb hv => exact .own _ _ (hf o ho).1 ((hf o ho).2.trans hb) hv
 | .X0 o, _, h => by
  cases h with
  | X0 _ _ ps ho hb hv => exact .X0 _ _ ps (hf o ho).1 ((hf o ho).2.trans hb) hv
 | .pe o i, _, h => by
  cases h with
  | pe _ _ b i0 n cp z ps ho hb hi => exact .pe _ _ b i0 n cp z ps (hf o ho).1 ((hf o ho).2.trans hb) hi
 | .pp o i, _, h => by
  cases h with
  | pp _ _ b sv ps ho hb hp => exact .pp _ _ b sv ps (hf o ho).1 ((hf o ho).2.trans hb) hp
 | .fz B0 es cut, _, h => by
  cases h with
  | fz _ _ _ _ M3 hc => exact .fz _ _ _ _ (by rw [hK]; exact M3) hc
 | .nn B0 es, _, h => by
  cases h with
  | nn _ _ _ M3 hv => exact .nn _ _ _ (by rw [hK]; exact M3) hv
 | .A3, _, h => by cases h; exact .A3
 | .map o, _, h => by
  cases h with
  | map _ b ho hb => exact .map _ b (hf o ho).1 ((hf o ho).2.trans hb)
 | .D3, _, h => by cases h; exact .D3
 | .func q, _, h => by cases h; exact .func q
 | .pz _ _, _, h => by
  cases h with
  | pz _ _ _ M3 => exact .pz _ _ _ (by rw [hK]; exact M3)
 | .pn _ _ _, _, h => by
  cases h with
  | pn _ _ _ b M3 => exact .pn _ _ _ b (by rw [hK]; exact M3)
 | .Bn _ _ _, _, h => by
  cases h with
  | Bn _ _ _ _ M3 => exact .Bn _ _ _ _ (by rw [hK]; exact M3)
 | .I1, _, h => by cases h; exact .I1
 | .iface t u, _, h => by
  cases h with
  | iface _ _ v hv => exact .iface t _ v (RV.QP hf hK hv)
 | .agg us, _, h => by
  cases h with
  | agg _ vs hl hp => exact RV.OB (E4.Kx hf hK ⟨hl, hp⟩)
 | .tuple us, _, h => by
  cases h with
  | tuple _ vs hl hp => exact RV.tuple' (E4.Kx hf hK ⟨hl, hp⟩)
theorem E4.Kx {c2 : Cx} {g : VG} {f : Nat -> Nat} (hf : ∀ j, j < c2.n -> f j < c.n /\ c.ρ (f j) = c2.ρ j) (hK : c.K = c2.K) : ∀ {us : List UV} {vs : List VV}, E4 c2 g us vs -> E4 c g (UV.Kx f us) vs
 | [], vs, h => by
  have := h.1
  match vs, this with
  | [], _ => exact E4.nil _ _
 | u :: us, vs, h => by
  have := h.1
  match vs, this, h with
  | v :: vs, _, h => exact E4.cons (RV.QP hf hK h.head) (E4.Kx hf hK h.tail)
end
theorem bE (f : Nat -> Nat) (us : List UV) : (UV.Kx f us).length = us.length := by
 induction us with
 | nil => rfl
 | cons u us ih => simp [UV.Kx, ih]
theorem RO.QP {c2 : Cx} {g : VG} {f : Nat -> Nat} (hf : ∀ j, j < c2.n -> f j < c.n /\ c.ρ (f j) = c2.ρ j) (hK : c.K = c2.K) {u : UO} {v : VV} {fm : Nat -> Prop} (hr : RO c2 g u v fm) : RO c g (u.QP f) v fm := by
 cases hr with
 | obj cs b k xs hg P8 hz B2 CU hx hr => exact .obj _ b k xs hg P8 (by rw [bE]; exact hz) B2 CU hx (hr.Kx hf hK)
 | W7 B0 => exact .W7 B0
 | B7 B0 b i z k hg mW hz w6 h0 hi => exact .B7 B0 b i z k hg (by rw [hK]; exact mW) hz w6 h0 hi
 | row B0 es b i n cp z k hg B2 hz w6 h0 hn AV hs => exact .row B0 es b i n cp z k hg B2 hz w6 h0 hn AV (by rw [hK]; exact hs)
 | old B0 es v h => exact .old B0 es v (by rw [hK]; exact h)
 | map kf ag B0 es b z8 hg hk hl h => exact .map kf ag B0 es b z8 hg hk hl (by rw [hK]; exact h)
 | B8 B0 => exact .B8 B0
 | p0 B0 es x b i n cp z k ps fs hg B2 hz w6 h0 hn AV U8 hc Yq hE => exact .p0 B0 es x b i n cp z k ps fs hg B2 hz w6 h0 hn AV U8 hc Yq (by rw [hK]; exact hE)
 | X8 v => exact .X8 v
 | gone v hv => exact .gone v hv
theorem SR (f : Nat -> Nat) (rest : O0) (s : O0) : (s.EB f rest).len = s.len + rest.len := by
 induction rest generalizing s with
 | nil => rfl
 | cons u us ih => simp only [O0.EB, ih, O0.CT, O0.len]; omega
theorem KL (f : Nat -> Nat) (rest : O0) (s : O0) (o : Nat) : (s.EB f rest).get o = if o < s.len then s.get o else (rest.get (o - s.len)).QP f := by
 induction rest generalizing s with
 | nil =>
  simp only [O0.EB, O0.get]
  split
  ·rfl
  ·exact O0.Lf s o (by omega)
 | cons u us ih =>
  simp only [O0.EB]
  rw [ih, O0.CT]
  by_cases h1 : o < s.len
  ·rw [if_pos (by omega), if_pos h1, O0.V0, if_neg (by omega)]
  ·by_cases h2 : o = s.len
   ·subst h2; rw [if_pos (by omega), if_neg (by omega), O0.V0, if_pos rfl, Nat.sub_self]; rfl
   ·rw [if_neg (by omega), if_neg (by omega), show o - s.len = (o - (s.len + 1)) + 1 by omega]; rfl
theorem DD (f : Nat -> Nat) : ∀ (ids : List Nat) (s st s2 : O0), Ah f s ids st = some s2 -> ids.Nodup -> (∀ o ∈ ids, o < s.len) ->
  ids.length <= st.len /\ s2.len = s.len + (st.len - ids.length) /\ (∀ o, o < s.len -> o ∉ ids -> s2.get o = s.get o) /\ (∀ j o, ids[j]? = some o -> s2.get o = (st.get j).QP f) /\
  (∀ o, s.len <= o -> s2.get o = (st.get (ids.length + (o - s.len))).QP f)
 | [], s, st, s2, h, _, _ => by
  simp only [Ah, U0] at h; subst h
  refine ⟨Nat.zero_le _, by rw [SR]; simp, fun o ho _ => by rw [KL, if_pos ho], by simp, fun o ho => by rw [KL, if_neg (by omega)]; simp⟩
 | _ :: _, s, [], s2, h, _, _ => by simp [Ah] at h
 | a :: ids, s, u :: us, s2, h, IY, R3 => by
  simp only [Ah] at h
  obtain ⟨sU, IY⟩ := List.nodup_cons.1 IY
  obtain ⟨h1, h2, h3, h4, h5⟩ := DD f ids _ us s2 h IY (fun o ho => by rw [O0.V4]; exact R3 o (by simp [ho]))
  rw [O0.V4] at h2 h3 h5
  refine ⟨by simp [O0.len]; omega, by simp [O0.len]; omega, fun o ho hn => ?_, fun j o hj => ?_, fun o ho => ?_⟩
  ·simp only [List.mem_cons, not_or] at hn
   rw [h3 o ho hn.2, O0.C4, if_neg (fun hh => hn.1 hh.1)]
  ·cases j with
   | zero =>
    simp only [List.getElem?_cons_zero, U0] at hj; subst hj
    rw [h3 a (R3 a (by simp)) sU, O0.C4, if_pos ⟨rfl, R3 a (by simp)⟩]; rfl
   | succ j =>
    simp only [List.getElem?_cons_succ] at hj
    rw [h4 j o hj]; rfl
  ·rw [h5 o ho, List.length_cons, show ids.length + 1 + (o - s.len) = (ids.length + (o - s.len)) + 1 by omega]; rfl
end
end
section
variable {P : Program} {R : Type} {c : Cx} {h h' : A0} {s : O0} {ids : List Nat}
def Cx.back (c : Cx) (ids : List Nat) (c2 : Cx) : Cx :=
 ⟨c.n + (c2.n - ids.length), fun o => if o < c.n then c.ρ o else c2.ρ (ids.length + (o - c.n)), c2.K, fun o => match idx ids o with | some j => c2.φ j | none => if o < c.n then c.φ o else c2.φ (ids.length + (o - c.n))⟩
theorem iR {l : List Nat} {o : Nat} (h : o ∈ l) : ∃ j, idx l o = some j := by
 induction l with
 | nil => cases h
 | cons a l ih =>
  simp only [idx]
  split
  ·exact ⟨0, rfl⟩
  ·rename_i hb
   rcases List.mem_cons.1 h with rfl | h
   ·rw [Nat.beq_refl] at hb; cases hb
   ·obtain ⟨j, hj⟩ := ih h; exact ⟨j + 1, by rw [hj]; rfl⟩
theorem Dh {l : List Nat} {o : Nat} (h : idx l o = none) : o ∉ l := fun hm => by
 obtain ⟨j, hj⟩ := iR hm; rw [hj] at h; cases h
theorem Cx.Hh (hs : T3 c h s) {c2 : Cx} {st : O0} (h2 : T3 c2 h' st) (hL : u0 (c.pick ids) h c2 h' (c.pick ids).L7) (UI : ∀ o ∈ ids, o < c.n) : u0 c h (c.back ids c2) h' (fun f => ∃ o, o ∈ ids /\ c.φ o f) := by
 refine ⟨Nat.le_add_right _ _, fun o ho => ?_, hL.K, hL.next, fun b o hb hn => hL.same b o hb (fun ht => hn (Cx.An ht)), hL.Q1, hL.mp, fun f hf => ?_, fun o f hf => ?_, fun o f ho hf => ?_⟩
 ·show (if o < c.n then _ else _) = _
  rw [if_pos ho]
 ·rcases hL.Gf f hf with h3 | h3 | h3
  ·exact .inl h3
  ·exact .inr (.inl h3)
  ·obtain ⟨o, _, ho⟩ := Cx.An h3
   exact .inr (.inr ⟨o, ho⟩)
 ·have key : ∀ j, c2.φ j f -> h.next <= f \/ ∃ o, c.φ o f := fun j hj => by
   rcases hL.n8 j f hj with h3 | h3
   ·exact .inl h3
   ·obtain ⟨o, _, ho⟩ := Cx.An h3
    exact .inr ⟨o, ho⟩
  have hf : (match idx ids o with | some j => c2.φ j | none => if o < c.n then c.φ o else c2.φ (ids.length + (o - c.n))) f := hf
  cases hi : idx ids o with
  | some j => rw [hi] at hf; exact key _ hf
  | none =>
   rw [hi] at hf; simp only at hf
   split at hf
   ·exact .inr ⟨o, hf⟩
   ·exact key _ hf
 ·have hf : (match idx ids o with | some j => c2.φ j | none => if o < c.n then c.φ o else c2.φ (ids.length + (o - c.n))) f := hf
  cases hi : idx ids o with
  | some j =>
   rw [hi] at hf
   have hj := S6 hi
   have := hL.Aa j f (List.getElem?_eq_some_iff.1 hj).1 hf
   simpa only [Cx.pick, hj] using this
  | none => rw [hi] at hf; simp only at hf; rwa [if_pos ho] at hf
theorem Tl (hs : T3 c h s) {c2 : Cx} {st s2 : O0} (h2 : T3 c2 h' st) (hL : u0 (c.pick ids) h c2 h' (c.pick ids).L7) (IY : ids.Nodup) (UI : ∀ o ∈ ids, o < c.n)
  (hw : Ah (Hi ids s.len) s ids st = some s2) : T3 (c.back ids c2) h' s2 /\ ∀ {u : UV} {v : VV}, RV c2 h'.get u v -> RV (c.back ids c2) h'.get (u.QP (Hi ids s.len)) v := by
 obtain ⟨w1, w2, w3, w4, w5⟩ := DD _ ids s st s2 hw IY (fun o ho => by rw [hs.len]; exact UI o ho)
 have Og := Cx.Hh hs h2 hL UI
 have xv : ∀ f, c.K f -> ¬ (∃ o, o ∈ ids /\ c.φ o f) := fun f hK ⟨o, _, ho⟩ => hs.EJ o f ho hK
 have rO : ids.length <= c2.n := by rw [<- h2.len]; exact w1
 have hf : ∀ j, j < c2.n -> Hi ids s.len j < (c.back ids c2).n /\ (c.back ids c2).ρ (Hi ids s.len j) = c2.ρ j := by
  intro j hj
  unfold Hi
  rw [iL]
  cases hb : Nat.ble ids.length j with
  | true =>
   have := Nat.le_of_ble_eq_true hb
   simp only
   rw [hs.len]
   refine ⟨by show c.n + (j - ids.length) < c.n + (c2.n - ids.length); omega, ?_⟩
   show (if c.n + (j - ids.length) < c.n then _ else c2.ρ (ids.length + (c.n + (j - ids.length) - c.n))) = _
   rw [if_neg (by omega), show ids.length + (c.n + (j - ids.length) - c.n) = j by omega]
  | false =>
   have R3 : j < ids.length := by
    rcases Nat.lt_or_ge j ids.length with h3 | h3
    ·exact h3
    ·rw [Nat.ble_eq_true_of_le h3] at hb; cases hb
   have ib : ids[j]? = some ids[j] := List.getElem?_eq_getElem R3
   simp only
   rw [lV ib]
   have hm := UI _ (List.mem_of_getElem? ib)
   refine ⟨Nat.lt_of_lt_of_le hm (Nat.le_add_right _ _), ?_⟩
   show (if ids[j] < c.n then c.ρ ids[j] else _) = _
   rw [if_pos hm, hL.ρ j R3, Cx.F9 ib]
 have hK : (c.back ids c2).K = c2.K := rfl
 have Ky : ∀ o, (c.back ids c2).φ o = match idx ids o with | some j => c2.φ j | none => if o < c.n then c.φ o else c2.φ (ids.length + (o - c.n)) := fun _ => rfl
 have small : ∀ j f, c2.φ j f -> h.next <= f \/ ∃ o, o ∈ ids /\ c.φ o f := fun j f hj => by
  rcases hL.n8 j f hj with h3 | h3
  ·exact .inl h3
  ·exact .inr (Cx.An h3)
 
 have other : ∀ o f, o ∉ ids -> c.φ o f -> ∀ j, c2.φ j f -> False := by
  intro o f Ds ho j hj
  rcases small j f hj with h3 | ⟨p, hp, h3⟩
  ·have := hs.s8 o f ho; omega
  ·exact Ds (hs.Ax o p f ho h3 ▸ hp)
 refine ⟨⟨h2.wf, ?_, fun o => ?_, fun o p f g1 g2 => ?_, fun o f g1 mW => ?_, fun o f g1 => ?_, h2.Rc, fun o ho => ?_⟩, fun hr => hr.QP hf hK⟩
 ·rw [w2, hs.len, h2.len]; rfl
 ·rw [Ky]
  cases hi : idx ids o with
  | some j =>
   have hj := S6 hi
   have hm := UI o (List.mem_of_getElem? hj)
   rw [w4 j o hj]
   show RO _ _ _ (if o < c.n then c.ρ o else _) _
   rw [if_pos hm]
   have hr := (h2.obj j).QP hf hK
   rwa [hL.ρ j (List.getElem?_eq_some_iff.1 hj).1, Cx.F9 hj] at hr
  | none =>
   have Ds := Dh hi
   simp only
   by_cases R3 : o < c.n
   ·rw [if_pos R3, w3 o (by rw [hs.len]; exact R3) Ds]
    show RO _ _ _ (if o < c.n then c.ρ o else _) _
    rw [if_pos R3]
    exact (hs.obj o).O4 Og xv (fun f xc ⟨p, hp, h3⟩ => Ds (hs.Ax o p f xc h3 ▸ hp))
   ·rw [if_neg R3, w5 o (by rw [hs.len]; omega), show o - s.len = o - c.n by rw [hs.len]]
    show RO _ _ _ (if o < c.n then c.ρ o else _) _
    rw [if_neg R3]
    exact (h2.obj _).QP hf hK
 ·rw [Ky] at g1 g2
  cases hi : idx ids o with
  | some j =>
   rw [hi] at g1
   cases hk : idx ids p with
   | some k =>
    rw [hk] at g2
    have := h2.Ax j k f g1 g2
    subst this
    have a := S6 hi
    have b := S6 hk
    rw [a] at b; simpa using b
   | none =>
    rw [hk] at g2
    simp only at g1 g2
    split at g2
    ·exact (other p f (Dh hk) g2 j g1).elim
    ·have e := h2.Ax j _ f g1 g2
     have a := (List.getElem?_eq_some_iff.1 (S6 hi)).1
     omega
  | none =>
   rw [hi] at g1
   cases hk : idx ids p with
   | some k =>
    rw [hk] at g2
    simp only at g1 g2
    split at g1
    ·exact (other o f (Dh hi) g1 k g2).elim
    ·have e := h2.Ax _ k f g1 g2
     have a := (List.getElem?_eq_some_iff.1 (S6 hk)).1
     omega
   | none =>
    rw [hk] at g2
    simp only at g1 g2
    split at g1 <;> split at g2
    ·exact hs.Ax o p f g1 g2
    ·exact (other o f (Dh hi) g1 _ g2).elim
    ·exact (other p f (Dh hk) g2 _ g1).elim
    ·have e := h2.Ax _ _ f g1 g2
     omega
 ·rw [Ky] at g1
  split at g1
  ·exact h2.EJ _ f g1 mW
  ·rename_i hi
   split at g1
   ·rcases hL.Gf f mW with h3 | h3 | h3
    ·exact hs.EJ o f g1 h3
    ·have := hs.s8 o f g1; omega
    ·obtain ⟨p, hp, h4⟩ := Cx.An h3
     exact Dh hi (hs.Ax o p f g1 h4 ▸ hp)
   ·exact h2.EJ _ f g1 mW
 ·rw [Ky] at g1
  split at g1
  ·exact h2.s8 _ f g1
  ·split at g1
   ·exact Nat.lt_of_lt_of_le (hs.s8 o f g1) hL.next
   ·exact h2.s8 _ f g1
 ·have ho : c.n + (c2.n - ids.length) <= o := ho
  show (if o < c.n then c.ρ o else c2.ρ (ids.length + (o - c.n))) = _
  rw [if_neg (by omega)]
  exact h2.Xn _ (by omega)
mutual
theorem IK {c1 c2 : Cx} {g1 g2 : VG} : ∀ {u : UV} {v : VV}, RV c1 g1 u v -> u.FL = true -> RV c2 g2 u v
 | .bool b, _, h, _ => by cases h; exact .bool b
 | .int k n, _, h, _ => by cases h; exact .int k n
 | .str x, _, h, _ => by cases h; exact .str x
 | .I2, _, h, _ => by cases h; exact .I2
 | .nilslice, _, h, _ => by cases h; exact .nilslice
 | .A3, _, h, _ => by cases h; exact .A3
 | .D3, _, h, _ => by cases h; exact .D3
 | .I1, _, h, _ => by cases h; exact .I1
 | .iface t u, _, h, hs => by
  cases h with
  | iface _ _ v hv => exact .iface t _ v (IK hv (by simpa [UV.FL] using hs))
 | .agg us, _, h, hs => by
  cases h with
  | agg _ vs hl hp => exact RV.OB (JE ⟨hl, hp⟩ (by simpa [UV.FL] using hs))
 | .tuple us, _, h, hs => by
  cases h with
  | tuple _ vs hl hp => exact RV.tuple' (JE ⟨hl, hp⟩ (by simpa [UV.FL] using hs))
 | .undef, _, _, hs => by simp [UV.FL] at hs
 | .ptr _ _, _, _, hs => by simp [UV.FL] at hs
 | .u7 _ _ _, _, _, hs => by simp [UV.FL] at hs
 | .m7 _ _ _ _ _ _, _, _, hs => by simp [UV.FL] at hs
 | .AX _ _ _ _, _, _, hs => by simp [UV.FL] at hs
 | .own _, _, _, hs => by simp [UV.FL] at hs
 | .fz _ _ _, _, _, hs => by simp [UV.FL] at hs
 | .nn _ _, _, _, hs => by simp [UV.FL] at hs
 | .map _, _, _, hs => by simp [UV.FL] at hs
 | .func _, _, _, hs => by simp [UV.FL] at hs
theorem JE {c1 c2 : Cx} {g1 g2 : VG} : ∀ {us : List UV} {vs : List VV}, E4 c1 g1 us vs -> UV.SL us = true -> E4 c2 g2 us vs
 | [], vs, h, _ => by
  have := h.1
  match vs, this with
  | [], _ => exact E4.nil _ _
 | u :: us, vs, h, hs => by
  have := h.1
  simp only [UV.SL, Bool.and_eq_true] at hs
  match vs, this, h with
  | v :: vs, _, h => exact E4.cons (IK h.head hs.1) (JE h.tail hs.2)
end
theorem PK {c1 : Cx} (hs : T3 c h s) {u : UV} {v : VV} (hr : RV c h.get u v) (hL : u0 c h c1 h (fun _ => False)) (hd : ∀ ft d, DS s ft u = some d -> RD h.get c1.K ft d v) : RV c1 h.get (Sp s u) v := by
 cases u with
 | own o =>
  simp only [Sp]
  split
  ·rename_i B0 es F4
   exact .fz B0 es false v (hd (.row 0 B0) (.row es) (by simp only [DS, F4, FT.P6])) (fun e => by cases e)
  ·exact .undef _
 | _ => exact hr.O4 hL (fun _ _ h => h)
theorem bk {args : List UV} {J4 : List VV} (hs : T3 c h s) (hr : E4 c h.get args J4) :
  ∃ c1, T3 c1 h (freeze s (args.map I3).flatten) /\ u0 c h c1 h (fun _ => False) /\ c1.n = c.n /\ c1.ρ = c.ρ /\ (∀ p f, c1.φ p f -> c.φ p f) /\ E4 c1 h.get (args.map (lX s)) J4 := by
 obtain ⟨c1, s1, l1, n1, r1, p1, d1⟩ := PW hs (args.map I3).flatten
 refine ⟨c1, s1, l1, n1, r1, p1, by rw [List.length_map]; exact hr.1, fun i u v hu hv => ?_⟩
 rw [List.getElem?_map] at hu
 cases ha : args[i]? with
 | none => rw [ha] at hu; cases hu
 | some a =>
  rw [ha] at hu
  simp only [Option.map_some, U0] at hu
  subst hu
  have qh := hr.2 i a v ha hv
  have mem : ∀ x, x ∈ I3 a -> ∃ m, (args.map I3).flatten[m]? = some x := fun x hx =>
   List.getElem?_of_mem (List.mem_flatten.2 ⟨I3 a, List.mem_map.2 ⟨a, List.mem_of_getElem? ha, rfl⟩, hx⟩)
  cases a with
  | agg cs =>
   cases qh with
   | agg _ vs hl hp =>
    show RV c1 h.get (.agg (cs.map (Sp s))) (.agg vs)
    refine RV.OB ⟨by rw [List.length_map]; exact hl, fun j x y hx hy => ?_⟩
    rw [List.getElem?_map] at hx
    cases hc : cs[j]? with
    | none => rw [hc] at hx; cases hx
    | some q =>
     rw [hc] at hx
     simp only [Option.map_some, U0] at hx
     subst hx
     have hq := hp j q y hc hy
     obtain ⟨m, hm⟩ := mem q (List.mem_of_getElem? hc)
     exact PK hs hq l1 (fun ft d hd => d1 m q y hm hq ft d hd)
  | _ =>
   obtain ⟨m, hm⟩ := mem _ (List.mem_cons_self ..)
   exact PK hs qh l1 (fun ft d hd => d1 m _ v hm qh ft d hd)
theorem Pk {l : List Nat} {n : Nat} (h : Iq l n = true) : ∀ o ∈ l, o < n := by
 induction l with
 | nil => intro o ho; cases ho
 | cons a l ih =>
  simp only [Iq, Bool.and_eq_true] at h
  intro o ho
  rcases List.mem_cons.1 ho with rfl | ho
  ·have := Nat.le_of_ble_eq_true h.1; omega
  ·exact ih h.2 o ho
theorem GA {f : FuncId} {own : Bool} {told : J1} (ht : N3 P f told) {args : List UV} {J4 : List VV} {K : UV -> O0 -> Option R} {r : R} (hu : Jt own told args s K = some r) (hs : T3 c h s) (hr : E4 c h.get args J4) :
  VC P m5 f J4 h fun v h' => ∃ u s1 c1, T3 c1 h' s1 /\ RV c1 h'.get u v /\ u0 c h c1 h' (fun f => ∃ o, o ∈ Cs own args s /\ c.φ o f) /\ K u s1 = some r := by
 unfold Jt at hu
 simp only at hu
 split at hu
 ·rename_i I5
  simp only [Bool.and_eq_true] at I5
  have IY := CO I5.1
  have R3 := Pk I5.2
  generalize uQ : Cs own args s = ids at hu IY R3 ⊢
  
  have qx : ∃ c1, T3 c1 h (freeze s (JA own args)) /\ u0 c h c1 h (fun _ => False) /\ c1.n = c.n /\ c1.ρ = c.ρ /\ (∀ p f, c1.φ p f -> c.φ p f) /\ E4 c1 h.get (Rw own args s) J4 := by
   cases own with
   | true => exact ⟨c, hs, u0.refl _ _ _, rfl, rfl, fun _ _ h => h, hr⟩
   | false => exact bk hs hr
  obtain ⟨c1, s1, l1, n1, r1, p1, a1⟩ := qx
  have Yl : ∀ o ∈ ids, o < c1.n := fun o ho => by rw [n1, <- hs.len]; exact R3 o ho
  have cG := s1.pick IY
  obtain ⟨k, v, h', j4, u, st, c2, q1, q2, q3, q4⟩ := ht R _ _ _ r hu (c1.pick ids) h J4 cG a1.E6
  refine ⟨k, v, h', j4, ?_⟩
  have cf : ∀ f, (∃ o, o ∈ ids /\ c1.φ o f) -> h.next <= f \/ ∃ o, o ∈ ids /\ c.φ o f := fun f ⟨o, ho, hf⟩ => .inr ⟨o, ho, p1 o f hf⟩
  split at q4
  · 
   rename_i ll
   simp only [Bool.and_eq_true] at ll
   have Bf : ids = [] := by cases ids with | nil => rfl | cons _ _ => cases ll.1
   subst Bf
   have hH : G7 h h' (fun _ => False) := ⟨q3.next, fun b o hb _ => q3.same b o hb (fun ⟨j, hj⟩ => by simp [Cx.pick] at hj; exact hj), q3.Q1, q3.mp⟩
   have hL := hH.O4 c
   refine ⟨u, s, c, ⟨q1.wf, hs.len, fun o => (hs.obj o).O4 hL (fun _ _ h => h) (fun _ _ h => h), hs.Ax, hs.EJ, fun o f hf => Nat.lt_of_lt_of_le (hs.s8 o f hf) hL.next, fun f hf => Nat.lt_of_lt_of_le (hs.Rc f hf) hL.next, hs.Xn⟩,
    IK q2 ll.2, hL.mono (fun _ h => h.elim), q4⟩
  ·split at q4
   ·rename_i s2 hw
    have hlen : (freeze s (JA own args)).len = s.len := Au _ _
    rw [<- hlen] at hw q4
    obtain ⟨b1, b2⟩ := Tl s1 q1 q3 IY Yl hw
    have Og := Cx.Hh s1 q1 q3 Yl
    exact ⟨_, s2, _, b1, b2 q2, (l1.mono (fun _ h => h.elim)).trans Og hs.wf cf, q4⟩
   ·cases q4
 ·cases hu
theorem Xm {f : FuncId} {told : J1} (ht : N3 P f told) {args : List UV} {J4 : List VV} {K : UV -> O0 -> Option R} {r : R} (hu : Jt true told args s K = some r) (hs : T3 c h s) (hr : E4 c h.get args J4) :
  VC P m5 f J4 h fun v h' => ∃ u s1 c1, T3 c1 h' s1 /\ RV c1 h'.get u v /\ u0 c h c1 h' (fun f => ∃ o, o ∈ Cs true args s /\ c.φ o f) /\ (∀ o, o < s.len -> o ∉ Cs true args s -> s1.get o = s.get o) /\ K u s1 = some r := by
 unfold Jt at hu
 simp only at hu
 split at hu
 ·rename_i I5
  simp only [Bool.and_eq_true] at I5
  have IY := CO I5.1
  have R3 := Pk I5.2
  generalize uQ : Cs true args s = ids at hu IY R3 ⊢
  
  obtain ⟨c1, s1, l1, n1, r1, p1, a1⟩ := (⟨c, hs, u0.refl _ _ _, rfl, rfl, fun _ _ h => h, hr⟩ : ∃ c1, T3 c1 h s /\ u0 c h c1 h (fun _ => False) /\ c1.n = c.n /\ c1.ρ = c.ρ /\ (∀ p f, c1.φ p f -> c.φ p f) /\ E4 c1 h.get args J4)
  have Yl : ∀ o ∈ ids, o < c1.n := fun o ho => by rw [n1, <- hs.len]; exact R3 o ho
  have cG := s1.pick IY
  obtain ⟨k, v, h', j4, u, st, c2, q1, q2, q3, q4⟩ := ht R _ _ _ r hu (c1.pick ids) h J4 cG a1.E6
  refine ⟨k, v, h', j4, ?_⟩
  have cf : ∀ f, (∃ o, o ∈ ids /\ c1.φ o f) -> h.next <= f \/ ∃ o, o ∈ ids /\ c.φ o f := fun f ⟨o, ho, hf⟩ => .inr ⟨o, ho, p1 o f hf⟩
  split at q4
  · 
   rename_i ll
   simp only [Bool.and_eq_true] at ll
   have Bf : ids = [] := by cases ids with | nil => rfl | cons _ _ => cases ll.1
   subst Bf
   have hH : G7 h h' (fun _ => False) := ⟨q3.next, fun b o hb _ => q3.same b o hb (fun ⟨j, hj⟩ => by simp [Cx.pick] at hj; exact hj), q3.Q1, q3.mp⟩
   have hL := hH.O4 c
   refine ⟨u, s, c, ⟨q1.wf, hs.len, fun o => (hs.obj o).O4 hL (fun _ _ h => h) (fun _ _ h => h), hs.Ax, hs.EJ, fun o f hf => Nat.lt_of_lt_of_le (hs.s8 o f hf) hL.next, fun f hf => Nat.lt_of_lt_of_le (hs.Rc f hf) hL.next, hs.Xn⟩,
    IK q2 ll.2, hL.mono (fun _ h => h.elim), fun _ _ _ => rfl, q4⟩
  ·split at q4
   ·rename_i s2 hw
    obtain ⟨w1, w2, w3, w4, w5⟩ := DD _ ids s st s2 hw IY R3
    obtain ⟨b1, b2⟩ := Tl s1 q1 q3 IY Yl hw
    have Og := Cx.Hh s1 q1 q3 Yl
    exact ⟨_, s2, _, b1, b2 q2, (l1.mono (fun _ h => h.elim)).trans Og hs.wf cf, w3, q4⟩
   ·cases q4
 ·cases hu
end
section
variable {P : Program} {X : Ext}
theorem jU {o : Oper} {c : Call} (ho : o.op = .call c) {name : String} {rr : Operand} (hc : c.callee = .invoke rr name) {t : TypeId} {v : VV} {e : Env} {h : A0} (hf : ev e rr = .iface t v) {g : FuncId} (hm : Cp P t name = some g) (hp : plainFunc P g = true) {Q : VV -> A0 -> Prop}
  (hw : VC P X g (v :: I4 e c.args) h Q) : WO P X o e h Q := by
 obtain ⟨k, w, h1, r1, q1⟩ := hw
 refine ⟨k, w, h1, ?_, q1⟩
 obtain ⟨dst, op, ty, pos, after, guard⟩ := o
 simp only at ho
 subst ho
 show F8 P _ c e h = _
 unfold F8
 rw [hc]
 simp only [hf, hm, hp, if_true]
 exact r1
theorem WD.nil {ops : Array Oper} {Q7 : Array Nat} {i : Nat} {e : Env} {h : A0} {rs : List (Nat × Oper × Env × VV)} {es : List (Nat × A0)} {Q : Env -> A0 -> Prop} (hq : Q e h) : WD P X ops Q7 i [] e h rs es Q := ⟨0, e, h, by simp [BI], hq⟩
theorem WD.skip {ops : Array Oper} {Q7 : Array Nat} {i : Nat} {o : Oper} {l : List Oper} {e : Env} {h : A0} {rs : List (Nat × Oper × Env × VV)} {es : List (Nat × A0)} {Q : Env -> A0 -> Prop} (hg : l5 ops o e = some false)
  (hw : WD P X ops Q7 (i + 1) l (e.put o.dst Bk) h rs es Q) : WD P X ops Q7 i (o :: l) e h rs es Q := by
 obtain ⟨k, e1, h1, r1, q1⟩ := hw
 exact ⟨k, e1, h1, by unfold BI; simp only [hg, r1], q1⟩
theorem WD.cons {ops : Array Oper} {Q7 : Array Nat} {i : Nat} {o : Oper} {l : List Oper} {e : Env} {h : A0} {rs : List (Nat × Oper × Env × VV)} {es : List (Nat × A0)} {Q : Env -> A0 -> Prop} (hg : l5 ops o e = some true)
  (hw : WO P X o e h fun v h' =>
   (Y1 P o = .read -> (es.all fun (j, hb) => (Q7.getD i 0).testBit j || R6 P o e v hb) = true) /\ (Y1 P o = .EV -> (rs.all fun (j, p, d, u) => (Q7.getD i 0).testBit j || R6 P p d u h') = true) /\
   WD P X ops Q7 (i + 1) l (e.put o.dst v) h' (match Y1 P o with | .read => (i, o, e, v) :: rs | _ => rs) (match Y1 P o with | .EV => (i, h) :: es | _ => es) Q) : WD P X ops Q7 i (o :: l) e h rs es Q := by
 obtain ⟨k, v, h1, r1, c1, c2, j, e2, h2, r2, q2⟩ := hw
 refine ⟨max k j, e2, h2, ?_, q2⟩
 unfold BI
 simp only [hg, Ev (GS (Nat.le_max_left k j)) r1]
 have jV := Ai (GS (P := P) (X := X) (Nat.le_max_right k j)) r2
 cases hk : Y1 P o with
 | read => simp only [hk] at c1 jV ⊢; rw [if_pos (c1 trivial)]; exact jV
 | EV => simp only [hk] at c2 jV ⊢; rw [if_pos (c2 trivial)]; exact jV
 | pure => simp only [hk] at jV ⊢; exact jV
 | alloc => simp only [hk] at jV ⊢; exact jV
end
def C2 (P : Program) (F : FuncId -> Option (Bool × J1)) : Prop := ∀ f own told, F f = some (own, told) -> N3 P f told
def R0 (P : Program) (m : Nat) (body : Code) (Pc : Nat -> Option M1) : Prop := ∀ p told, Pc p = some told -> ∀ b, N0 body p = some b -> l4 P m b told
theorem R0.none (P : Program) (m : Nat) (body : Code) : R0 P m body (fun _ => none) := fun _ _ h => by cases h
section
variable {P : Program} {R : Type} {c : Cx} {h : A0} {s : O0}
theorem Ju {call : FuncId -> List UV -> O0 -> (UV -> O0 -> Option R) -> Option R} {name : String} {args : List UV} {K : UV -> O0 -> Option R} {r : R} {t : Nat} {d : D} :
  ∀ {ts : List Nat} {B0 : List FT} {ft : FT}, Fa ts B0 t = some ft -> GD P call name args (.row [[.int t, d]]) s K ts B0 = some r -> ∃ g, Cp P t name = some g /\ plainFunc P g = true /\ call g (ja ft d :: args) s K = some r
 | [], _, _, h, _ => by simp [Fa] at h
 | _ :: _, [], _, h, _ => by simp [Fa] at h
 | a :: ts, f :: B0, ft, h, hu => by
  unfold GD at hu
  simp only [Fa] at h
  by_cases ha : a = t
  ·subst ha
   rw [Nat.beq_refl] at h
   simp only [U0] at h; subst h
   simp only [KB, decide_true, cond_true] at hu
   split at hu
   ·rename_i g hm
    split at hu
    ·rename_i hp; exact ⟨g, hm, hp, hu⟩
    ·cases hu
   ·cases hu
  ·have hb : Nat.beq a t = false := by
    cases hb : Nat.beq a t with
    | false => rfl
    | true => exact absurd (B6 hb) ha
   rw [hb] at h
   have ht : KB a (.row [[.int t, d]]) = false := by simp only [KB]; exact decide_eq_false (by omega)
   rw [ht, cond_false] at hu
   exact Ju h hu
theorem Jv {call : FuncId -> List UV -> O0 -> (UV -> O0 -> Option R) -> Option R} {name : String} {args : List UV} {K : UV -> O0 -> Option R} :
  ∀ (ts : List Nat) (B0 : List FT), GD P call name args .nil s K ts B0 = none
 | [], _ => rfl
 | _ :: _, [] => rfl
 | a :: ts, f :: B0 => by
  unfold GD
  simp only [KB, cond_false]
  exact Jv ts B0
theorem Mw : ∀ {n o : Nat}, o < n -> o ∈ FM n
 | n + 1, o, h => by
  simp only [FM, List.mem_cons]
  by_cases ho : o = n
  ·exact .inl ho
  ·exact .inr (Mw (by omega))
def DF (P : Program) (T : Fw) (c : Cx) (o : Oper) (e : R1) (s : O0) (f : Nat) : Prop := ∃ p, p ∈ L4 P T o e s /\ c.φ p f
theorem GB {T : Fw} {call : FuncId -> List UV -> O0 -> (UV -> O0 -> Option R) -> Option R}
  (U6 : ∀ g args s (K : UV -> O0 -> Option R) r, call g args s K = some r -> ∀ (c : Cx) (h : A0) J4, T3 c h s -> E4 c h.get args J4 ->
   VC P m5 g J4 h fun v h' => ∃ u s1 c1, T3 c1 h' s1 /\ RV c1 h'.get u v /\ u0 c h c1 h' (fun f => ∃ o, o ∈ M7 T g args s /\ c.φ o f) /\ K u s1 = some r)
  (hs : T3 c h s) {o : Oper} {e : R1} {e' : Env} (he : A6 c h.get e e') {K : UV -> O0 -> Option R} {r : R} (hu : DO P call o e s K = some r) :
  WO P m5 o e' h fun v h' => ∃ u s1 c1, T3 c1 h' s1 /\ RV c1 h'.get u v /\ u0 c h c1 h' (DF P T c o e s) /\ K u s1 = some r := by
 have plain : Zq P o e s K = some r -> L4 P T o e s = BL o e -> WO P m5 o e' h fun v h' => ∃ u s1 c1, T3 c1 h' s1 /\ RV c1 h'.get u v /\ u0 c h c1 h' (DF P T c o e s) /\ K u s1 = some r := by
  intro hu ht
  obtain ⟨v, h', u, s1, c1, e1, e2, e3, e4, e5⟩ := Zp (T := DF P T c o e s) hs he hu (fun p f hp hf => ⟨p, by rw [ht]; exact hp, hf⟩)
  exact WO.of e1 ⟨u, s1, c1, e2, e3, e4, e5⟩
 unfold DO at hu
 split at hu
 ·rename_i cl K0
  split at hu
  ·rename_i b hb
   exact plain hu (by simp only [L4, K0, hb])
  ·rename_i f hf
   split at hu
   ·rename_i g hg
    have hr := j1 he f
    rw [hg] at hr
    split at hu
    ·rename_i hp
     have J6 : L4 P T o e s = M7 T g (AZ e cl.args) s := by simp only [L4, K0, hf, hg]
     generalize hv : ev e' f = v at hr
     cases hr
     refine WO.call K0 hf hv hp ?_
     simp only [List.nil_append, List.append_nil]
     refine (U6 g _ s K r hu c h _ hs (Bw he cl.args)).mono ?_
     rintro v h' ⟨u, s1, c1, q1, q2, q3, q4⟩
     exact ⟨u, s1, c1, q1, q2, q3.mono (fun f hf => by unfold DF; rw [J6]; exact hf), q4⟩
    ·cases hu
   ·cases hu
  ·rename_i rr name hc
   split at hu
   ·rename_i t v hv
    have hr := j1 he rr
    rw [hv] at hr
    split at hu
    ·rename_i g hm
     split at hu
     ·rename_i hp
      have J6 : L4 P T o e s = M7 T g (v :: AZ e cl.args) s := by simp only [L4, K0, hc, hv, hm]
      generalize KW : ev e' rr = v' at hr
      cases hr with
      | iface _ _ w hw =>
       refine jU K0 hc KW hm hp ?_
       refine (U6 g _ s K r hu c h _ hs (E4.cons hw (Bw he cl.args))).mono ?_
       rintro v h' ⟨u, s1, c1, q1, q2, q3, q4⟩
       exact ⟨u, s1, c1, q1, q2, q3.mono (fun f hf => by unfold DF; rw [J6]; exact hf), q4⟩
     ·cases hu
    ·cases hu
   ·rename_i ts B0 d hv
    have hr := j1 he rr
    rw [hv] at hr
    generalize KW : ev e' rr = v' at hr
    cases hr with
    | Bn _ _ _ _ M3 =>
     cases M3 with
     | OV => rw [Jv] at hu; cases hu
     | EN _ _ t ft d' w hl hw =>
      obtain ⟨g, hm, hp, hk⟩ := Ju hl hu
      have J6 : L4 P T o e s = FM s.len := by simp only [L4, K0, hc, hv]
      refine jU K0 hc KW hm hp ?_
      refine (U6 g _ s K r hk c h _ hs (E4.cons (IT hw) (Bw he cl.args))).mono ?_
      rintro v h' ⟨u, s1, c1, q1, q2, q3, q4⟩
      refine ⟨u, s1, c1, q1, q2, q3.mono (fun f ⟨o2, _, hf⟩ => ?_), q4⟩
      unfold DF; rw [J6]
      refine ⟨o2, Mw ?_, hf⟩
      rcases Nat.lt_or_ge o2 s.len with h1 | h1
      ·exact h1
      ·rw [hs.out (by rw [<- hs.len]; exact h1)] at hf; cases hf
   ·cases hu
 ·rename_i uD
  exact plain hu (by
   unfold L4
   split
   ·rename_i cl K0; exact absurd K0 (uD cl)
   ·rfl)
theorem Hq {ops : Array Oper} {o : Oper} {e : Env} (h : o.guard = none) : l5 ops o e = some true := by unfold l5; rw [h]
theorem PU {ops : Array Oper} {o : Oper} {j : Nat} {want : Bool} (hg : o.guard = some (j, want)) {t : Tmp} (ht : Nb ops j = some t) {e : R1} {e' : Env} {g : VG} (he : A6 c g e e') :
  (∀ p, e.get t = .bool p -> l5 ops o e' = some (p == want) /\ A6 c g (e.set t (.bool p)) e') /\ (e.get t = .tuple [] -> l5 ops o e' = some false) := by
 have ht : (ops[j]?).bind (·.dst) = some t := ht
 constructor
 ·intro p hp
  have hr := he t
  rw [hp] at hr
  generalize hv : Env.get e' t = v at hr
  cases hr
  refine ⟨by simp only [l5, hg, Hp, ht, hv], fun q => ?_⟩
  rw [R1.ER]
  split
  ·rename_i hq; subst hq; rw [hv]; exact .bool p
  ·exact he q
 ·intro hp
  have hr := he t
  rw [hp] at hr
  generalize hv : Env.get e' t = v at hr
  cases hr with
  | tuple _ vs hl hpp =>
   have : vs = [] := List.eq_nil_of_length_eq_zero hl.symm
   subst this
   simp only [l5, hg, Hp, ht, hv]
theorem SI (c : Cx) (g : VG) : RV c g Hu Bk := RV.tuple' (E4.nil c g)
theorem Ls {T : Fw} {call : FuncId -> List UV -> O0 -> (UV -> O0 -> Option R) -> Option R}
  (U6 : ∀ g args s (K : UV -> O0 -> Option R) r, call g args s K = some r -> ∀ (c : Cx) (h : A0) J4, T3 c h s -> E4 c h.get args J4 ->
   VC P m5 g J4 h fun v h' => ∃ u s1 c1, T3 c1 h' s1 /\ RV c1 h'.get u v /\ u0 c h c1 h' (fun f => ∃ o, o ∈ M7 T g args s /\ c.φ o f) /\ K u s1 = some r)
  {ops : Array Oper} : ∀ (l : List Oper) (e : R1) (s : O0) (K : R1 -> O0 -> Option R) (r : R), Lt P call ops l e s K = some r -> ∀ (c : Cx) (h : A0) (e' : Env), T3 c h s -> A6 c h.get e e' ->
   WS P m5 ops l e' h fun e1 h1 => ∃ u1 s1 c1, T3 c1 h1 s1 /\ A6 c1 h1.get u1 e1 /\ u0 c h c1 h1 c.L7 /\ K u1 s1 = some r
 | [], e, s, K, r, hu, c, h, e', hs, he => WS.nil ⟨e, s, c, hs, he, u0.refl _ _ _, hu⟩
 | o :: l, e, s, K, r, hu, c, h, e', hs, he => by
  have run : ∀ (e0 : R1), A6 c h.get e0 e' -> l5 ops o e' = some true -> (DO P call o e0 s fun v s => Lt P call ops l (e0.put o.dst v) s K) = some r -> WS P m5 ops (o :: l) e' h fun e1 h1 => ∃ u1 s1 c1, T3 c1 h1 s1 /\ A6 c1 h1.get u1 e1 /\ u0 c h c1 h1 c.L7 /\ K u1 s1 = some r := by
   intro e0 Qy hw hu
   refine WS.cons hw ?_
   obtain ⟨k, v, h', e1, u, s1, c1, q1, q2, q3, q4⟩ := GB U6 hs Qy hu
   refine ⟨k, v, h', e1, ?_⟩
   have hT : ∀ f, c.K f -> ¬ DF P T c o e0 s f := fun f hK ⟨p, _, hp⟩ => hs.EJ p f hp hK
   have hL : u0 c h c1 h' c.L7 := q3.mono (fun f ⟨p, _, hp⟩ => ⟨p, hp⟩)
   obtain ⟨k2, e2, h2, e3, u2, s2, c2, p1, p2, p3, p4⟩ := Ls U6 l _ s1 K r q4 c1 h' _ q1 ((Qy.O4 q3 hT).put q2 o.dst)
   exact ⟨k2, e2, h2, e3, u2, s2, c2, p1, p2, hL.trans' p3 hs.wf, p4⟩
  have skip : ∀ (e0 : R1), A6 c h.get e0 e' -> l5 ops o e' = some false -> Lt P call ops l (e0.put o.dst Hu) s K = some r -> WS P m5 ops (o :: l) e' h fun e1 h1 => ∃ u1 s1 c1, T3 c1 h1 s1 /\ A6 c1 h1.get u1 e1 /\ u0 c h c1 h1 c.L7 /\ K u1 s1 = some r := by
   intro e0 Qy hw hu
   exact WS.skip hw (Ls U6 l _ s K r hu c h _ hs (Qy.put (SI c h.get) o.dst))
  unfold Lt at hu
  split at hu
  ·rename_i hg
   exact run e he (Hq hg) hu
  ·rename_i j want hg
   split at hu
   ·cases hu
   ·rename_i t ht
    obtain ⟨g1, g2⟩ := PU hg ht he
    split at hu
    ·rename_i p hp
     obtain ⟨w1, w2⟩ := g1 p hp
     cases p with
     | true =>
      simp only [cond_true] at hu
      cases want with
      | true => exact run _ w2 w1 hu
      | false => exact skip _ w2 w1 hu
     | false =>
      simp only [cond_false] at hu
      cases want with
      | true => exact skip _ w2 w1 hu
      | false => exact run _ w2 w1 hu
    ·rename_i hp
     exact skip e he (g2 hp) hu
    ·cases hu
theorem BX : ∀ (k p : Nat) (acc : List Bool), j8 k p acc = j8 k p [] ++ acc
 | 0, p, acc => rfl
 | k + 1, p, acc => by
  simp only [j8]
  split
  ·rfl
  ·rw [BX k _ (_ :: acc), BX k _ [_], List.append_assoc]; rfl
theorem Ik : ∀ (k j p : Nat), p <= k -> p <= j -> j8 k p [] = j8 j p []
 | 0, j, p, hk, _ => by
  have : p = 0 := by omega
  subst this
  cases j with
  | zero => rfl
  | succ j => simp [j8, Nat.ble]
 | k + 1, 0, p, _, hj => by
  have : p = 0 := by omega
  subst this
  simp [j8, Nat.ble]
 | k + 1, j + 1, p, hk, hj => by
  simp only [j8]
  split
  ·rfl
  ·rename_i hb
   have hp : ¬ p <= 1 := fun h => by rw [Nat.ble_eq_true_of_le h] at hb; cases hb
   rw [BX k, BX j, Ik k j (p / 2) (by omega) (by omega)]
theorem RL (p : Nat) (hp : 1 <= p) (b : Bool) : j8 (2 * p + b.toNat) (2 * p + b.toNat) [] = j8 p p [] ++ [b] := by
 obtain ⟨k, hk⟩ : ∃ k, 2 * p + b.toNat = k + 1 := ⟨2 * p + b.toNat - 1, by omega⟩
 have Rk : b.toNat <= 1 := by cases b <;> simp
 rw [hk]
 simp only [j8]
 have Y3 : Nat.ble (k + 1) 1 = false := Jg (by omega)
 rw [Y3]
 simp only
 have h2 : (k + 1) / 2 = p := by omega
 have h3 : Nat.beq ((k + 1) % 2) 1 = b := by
  cases b with
  | true => rw [show (k + 1) % 2 = 1 by simp at hk; omega]; rfl
  | false => rw [show (k + 1) % 2 = 0 by simp at hk; omega]; rfl
 rw [h2, h3, BX, Ik k p p (by omega) (Nat.le_refl _)]
theorem Gx : ∀ (l m : List Bool) (c : Code), HZ c (l ++ m) = (HZ c l).bind fun d => HZ d m
 | [], m, c => rfl
 | b :: l, m, c => by
  simp only [List.cons_append, HZ]
  cases Lh c b with
  | none => rfl
  | some d => exact Gx l m d
theorem Kl {c d d' : Code} {p : Nat} (hp : 1 <= p) (h : N0 c p = some d) (b : Bool) (hd : Lh d b = some d') : N0 c (2 * p + b.toNat) = some d' := by
 unfold N0 at h ⊢
 rw [RL p hp b, Gx, h]
 simp only [Option.bind_some, HZ, hd]
end
section
variable {P : Program} {R : Type} {c c1 : Cx} {h h1 : A0} {s : O0}
def Xb (P : Program) (c : Cx) (h : A0) (src : Src) (p : Oper) (d : Env) (u : VV) : Prop :=
 match src with
 | .var o => ∃ b k, h.get b = some (.cells k) /\ (∀ h2 : A0, h2.get b = some (.cells k) -> R6 P p d u h2 = true) /\ o < c.n /\ c.ρ o = .ptr b 0 0 /\ c.φ o k.Q1
 | .row o => ∃ b k i n cp z, h.get b = some (.cells k) /\ (∀ h2 : A0, h2.get b = some (.cells k) -> R6 P p d u h2 = true) /\ o < c.n /\ c.ρ o = .slice b i n cp z /\ c.φ o k.Q1
 | .data => ∃ b k, h.get b = some (.cells k) /\ (∀ h2 : A0, h2.get b = some (.cells k) -> R6 P p d u h2 = true) /\ c.K k.Q1
 | .other => True
def LH (P : Program) (c : Cx) (h : A0) : List Bt -> List (Nat × Oper × Env × VV) -> Prop
 | [], [] => True
 | l :: ls, (i, p, d, u) :: rs => l.at_ = i /\ (l.IG = false -> Xb P c h l.src.log p d u) /\ LH P c h ls rs
 | _, _ => False
def UB (c : Cx) (h : A0) : List ZT -> List (Nat × A0) -> List Nat -> Prop
 | [], [], _ => True
 | l :: ls, (j, hb) :: es, acc => l.at_ = j /\ l.n <= c.n /\ (∀ o b k, o < l.n -> AW (l.BD ++ acc) o = false -> c.ρ o = .ptr b 0 0 -> c.φ o k.Q1 -> h.get b = some (.cells k) -> hb.get b = some (.cells k)) /\
   (∀ o b i n cp z k, o < l.n -> AW (l.BD ++ acc) o = false -> c.ρ o = .slice b i n cp z -> c.φ o k.Q1 -> h.get b = some (.cells k) -> hb.get b = some (.cells k)) /\ UB c h ls es (l.BD ++ acc)
 | _, _, _ => False
theorem NN {t : List Nat} : ∀ {i : Nat} {s s' : O0}, As t i s s' = true -> ∀ o, o < s.len -> s'.get o = .X8 -> s.get o = .X8 \/ AW t (i + o) = true
 | _, [], _, _, o, ho, _ => by simp [O0.len] at ho
 | _, _ :: _, [], _, o, _, hl => by simp [O0.get] at hl
 | i, u :: s, v :: s', h, o, ho, hl => by
  simp only [As, Bool.and_eq_true] at h
  cases o with
  | zero =>
   have hl : v = .X8 := hl
   subst hl
   have h1 := h.1
   cases u with
   | X8 => exact .inl rfl
   | _ => exact .inr h1
  | succ o =>
   have := NN h.2 o (by simpa [O0.len] using ho) hl
   rwa [show i + 1 + o = i + (o + 1) by omega] at this
theorem LJ (hs : T3 c h s) {o b : Nat} (hb : c.ρ o = .ptr b 0 0) (hl : s.get o ≠ .X8) : ∃ k, h.get b = some (.cells k) /\ c.φ o = one k.Q1 := by
 have B2 := hs.obj o
 rw [hb] at B2
 generalize w8 : c.φ o = fm at B2
 generalize hu : s.get o = u at B2 hl
 cases B2 with
 | obj cs b k xs hg P8 hz B2 CU hx hr => exact ⟨k, hg, rfl⟩
 | old B0 es v h => cases h
 | X8 => exact absurd rfl hl
 | gone v hv => exact absurd rfl (hv b 0 0)
theorem TS (hs : T3 c h s) {o f : Nat} (hf : c.φ o f) : s.get o ≠ .X8 := by
 intro e
 have B2 := hs.obj o
 rw [e] at B2
 generalize w8 : c.φ o = fm at B2
 cases B2
 exact NK w8 hf
theorem Kc {a b : List Nat} {o : Nat} : AW (a ++ b) o = false ↔ AW a o = false /\ AW b o = false := by
 induction a with
 | nil => simp [AW]
 | cons x a ih =>
  simp only [List.cons_append, AW, Bool.or_eq_false_iff, ih]
  constructor
  ·rintro ⟨h1, h2, h3⟩; exact ⟨⟨h1, h2⟩, h3⟩
  ·rintro ⟨⟨h1, h2⟩, h3⟩; exact ⟨h1, h2, h3⟩
theorem Rr (hs : T3 c h s) {T : Nat -> Prop} (hL : u0 c h c1 h1 T) {t : List Nat} (hT : ∀ f, T f -> ∃ p, p ∈ t /\ c.φ p f) {o b : Nat} {k : Es} (R3 : o < c.n) (ho : AW t o = false) (hb : c1.ρ o = .ptr b 0 0) (hf : c1.φ o k.Q1) (hg : h1.get b = some (.cells k)) :
  c.ρ o = .ptr b 0 0 /\ c.φ o k.Q1 /\ h.get b = some (.cells k) := by
 have PT : c.ρ o = .ptr b 0 0 := by rw [<- hL.ρ o R3]; exact hb
 have h2 := hL.Aa o _ R3 hf
 refine ⟨PT, h2, ?_⟩
 obtain ⟨k0, g1, g2⟩ := LJ hs PT (TS hs h2)
 have : h1.get b = some (.cells k0) := hL.same b _ g1 (fun ht => by
  obtain ⟨p, hp, jm⟩ := hT _ ht
  have := hs.Ax o p _ (L5 g2) jm
  subst this
  rw [Fi.2 hp] at ho; cases ho)
 rw [hg] at this
 simp only [U0, F2.cells.injEq] at this
 rw [this]; exact g1
theorem Zm (hs : T3 c h s) {T : Nat -> Prop} (hL : u0 c h c1 h1 T) {s1 : O0} (Rd : T3 c1 h1 s1) {t : List Nat} (hT : ∀ f, T f -> ∃ p, p ∈ t /\ c.φ p f) (Dk : As t 0 s s1 = true) {o b : Nat} {k : Es} (R3 : o < c.n) (ho : AW t o = false) (hb : c.ρ o = .ptr b 0 0) (hf : c.φ o k.Q1) (hg : h.get b = some (.cells k)) :
  h1.get b = some (.cells k) /\ c1.ρ o = .ptr b 0 0 /\ c1.φ o k.Q1 := by
 have PT : c1.ρ o = .ptr b 0 0 := by rw [hL.ρ o R3]; exact hb
 have Ws : s1.get o ≠ .X8 := fun e => by
  rcases NN Dk o (by rw [hs.len]; exact R3) e with h2 | h2
  ·exact TS hs hf h2
  ·rw [Nat.zero_add, ho] at h2; cases h2
 have Y6 : h1.get b = some (.cells k) := hL.same b _ hg (fun ht => by
  obtain ⟨p, hp, jm⟩ := hT _ ht
  have := hs.Ax o p _ hf jm
  subst this
  rw [Fi.2 hp] at ho; cases ho)
 obtain ⟨k1, g1, g2⟩ := LJ Rd PT Ws
 rw [Y6] at g1
 simp only [U0, F2.cells.injEq] at g1
 subst g1
 exact ⟨Y6, PT, L5 g2⟩
theorem SN (hs : T3 c h s) {T : Nat -> Prop} (hL : u0 c h c1 h1 T) {t : List Nat} (hT : ∀ f, T f -> ∃ p, p ∈ t /\ c.φ p f) {o b i n z : Nat} {cp : Option Nat} {k : Es} (R3 : o < c.n) (ho : AW t o = false) (hb : c1.ρ o = .slice b i n cp z) (hf : c1.φ o k.Q1) (hg : h1.get b = some (.cells k)) :
  c.ρ o = .slice b i n cp z /\ c.φ o k.Q1 /\ h.get b = some (.cells k) := by
 have PT : c.ρ o = .slice b i n cp z := by rw [<- hL.ρ o R3]; exact hb
 have h2 := hL.Aa o _ R3 hf
 refine ⟨PT, h2, ?_⟩
 have B2 := hs.obj o
 rw [PT] at B2
 generalize w8 : c.φ o = fm at B2
 generalize s.get o = u at B2
 cases B2 with
 | row B0 es b i n cp z k0 Rj B2 hz w6 h0 hn AV v8 =>
  have : h1.get b = some (.cells k0) := hL.same b _ Rj (fun ht => by
   obtain ⟨p, hp, jm⟩ := hT _ ht
   have := hs.Ax o p _ (L5 w8) jm
   subst this
   rw [Fi.2 hp] at ho; cases ho)
  rw [hg] at this
  simp only [U0, F2.cells.injEq] at this
  rw [this]; exact Rj
 | B7 => exact (NK w8 h2).elim
 | old => exact (NK w8 h2).elim
 | X8 => exact (NK w8 h2).elim
 | gone => exact (NK w8 h2).elim
theorem LH.step (hs : T3 c h s) {T : Nat -> Prop} (hL : u0 c h c1 h1 T) {s1 : O0} (Rd : T3 c1 h1 s1) {t : List Nat} (hT : ∀ f, T f -> ∃ p, p ∈ t /\ c.φ p f) (Dk : As t 0 s s1 = true) : ∀ {rs : List Bt} {rv : List (Nat × Oper × Env × VV)}, LH P c h rs rv -> LH P c1 h1 (rs.map (Bt.BK t)) rv
 | [], [], _ => trivial
 | l :: ls, (i, p, d, u) :: rv, hr => by
  obtain ⟨e1, e2, e3⟩ := hr
  refine ⟨?_, ?_, LH.step hs hL Rd hT Dk e3⟩
  ·unfold Bt.BK; split <;> exact e1
  ·obtain ⟨at_, src, IG⟩ := l
   cases src with
   | var o =>
    simp only [Bt.BK, Bool.or_eq_false_iff]
    rintro ⟨g1, g2⟩
    obtain ⟨b, k, q1, q2, q3, q4, q5⟩ := e2 g1
    obtain ⟨w1, w2, w3⟩ := Zm hs hL Rd hT Dk q3 g2 q4 q5 q1
    exact ⟨b, k, w1, q2, Nat.lt_of_lt_of_le q3 hL.n, w2, w3⟩
   | row o => simp [Bt.BK]
   | data =>
    simp only [Bt.BK]
    intro g1
    obtain ⟨b, k, q1, q2, q3⟩ := e2 g1
    exact ⟨b, k, hL.same b _ q1 (fun ht => by obtain ⟨p, _, hf⟩ := hT _ ht; exact hs.EJ p _ hf q3), q2, hL.K _ q3⟩
   | other => intro _; exact trivial
 | [], _ :: _, hr => hr.elim
 | _ :: _, [], hr => hr.elim
theorem LH.still (hs : T3 c h s) {T : Nat -> Prop} (hL : u0 c h c1 h1 T) {s1 : O0} (Rd : T3 c1 h1 s1) (hT : ∀ f, ¬ T f) (Dk : As [] 0 s s1 = true) : ∀ {rs : List Bt} {rv : List (Nat × Oper × Env × VV)}, LH P c h rs rv -> LH P c1 h1 rs rv
 | [], [], _ => trivial
 | l :: ls, (i, p, d, u) :: rv, hr => by
  obtain ⟨e1, e2, e3⟩ := hr
  refine ⟨e1, fun g1 => ?_, LH.still hs hL Rd hT Dk e3⟩
  have := e2 g1
  obtain ⟨at_, src, IG⟩ := l
  cases src with
  | var o =>
   obtain ⟨b, k, q1, q2, q3, q4, q5⟩ := this
   obtain ⟨w1, w2, w3⟩ := Zm hs hL Rd (t := []) (fun f hf => absurd hf (hT f)) Dk q3 rfl q4 q5 q1
   exact ⟨b, k, w1, q2, Nat.lt_of_lt_of_le q3 hL.n, w2, w3⟩
  | row o => trivial
  | data =>
   obtain ⟨b, k, q1, q2, q3⟩ := this
   exact ⟨b, k, hL.same b _ q1 (hT _), q2, hL.K _ q3⟩
  | other => trivial
 | [], _ :: _, hr => hr.elim
 | _ :: _, [], hr => hr.elim
theorem UB.step (hs : T3 c h s) {T : Nat -> Prop} (hL : u0 c h c1 h1 T) {t : List Nat} (hT : ∀ f, T f -> ∃ p, p ∈ t /\ c.φ p f) : ∀ {es : List ZT} {ev : List (Nat × A0)} {acc jT : List Nat}, (∀ o, AW jT o = false -> AW acc o = false /\ AW t o = false) -> UB c h es ev acc -> UB c1 h1 es ev jT
 | [], [], _, _, _, _ => trivial
 | l :: ls, (j, hb) :: ev, acc, jT, ha, hr => by
  obtain ⟨e1, e2, e3, e5, e4⟩ := hr
  have Vi : ∀ o, AW (l.BD ++ jT) o = false -> AW (l.BD ++ acc) o = false /\ AW t o = false := fun o ho => by
   obtain ⟨g1, g2⟩ := Kc.1 ho
   obtain ⟨g3, g4⟩ := ha o g2
   exact ⟨Kc.2 ⟨g1, g3⟩, g4⟩
  refine ⟨e1, Nat.le_trans e2 hL.n, fun o b k ho hn H3 hf hg => ?_, fun o b i n cp z k ho hn H3 hf hg => ?_, UB.step hs hL hT Vi e4⟩
  ·obtain ⟨g1, g2⟩ := Vi o hn
   obtain ⟨w1, w2, w3⟩ := Rr hs hL hT (by omega) g2 H3 hf hg
   exact e3 o b k ho g1 w1 w2 w3
  ·obtain ⟨g1, g2⟩ := Vi o hn
   obtain ⟨w1, w2, w3⟩ := SN hs hL hT (by omega) g2 H3 hf hg
   exact e5 o b i n cp z k ho g1 w1 w2 w3
 | [], _ :: _, _, _, _, hr => hr.elim
 | _ :: _, [], _, _, _, hr => hr.elim
theorem RD.same {g : VG} {K : Nat -> Prop} {ft : FT} {d : D} {v : VV} (h : RD g K ft d v) : VV.same v v = true := by
 induction h with
 | EN ts B0 t ft d v ht h ih => simp only [VV.same, Nat.beq_refl, Bool.true_and]; exact ih
 | _ => simp [VV.same]
mutual
theorem Nm {c : Cx} {g : VG} : ∀ {u : UV} {v : VV}, RV c g u v -> u.Nn = true -> VV.same v v = true
 | .bool b, _, h, _ => by cases h; simp [VV.same]
 | .int k n, _, h, _ => by cases h; simp [VV.same]
 | .str x, _, h, _ => by cases h; simp [VV.same]
 | .I2, _, h, _ => by cases h; rfl
 | .ptr _ _, _, h, _ => by cases h; simp [VV.same]
 | .u7 _ _ _, _, h, _ => by cases h; simp [VV.same]
 | .m7 _ _ _ _ _ _, _, h, _ => by cases h; simp [VV.same]
 | .AX _ _ _ _, _, h, _ => by cases h; simp [VV.same]
 | .nilslice, _, h, _ => by cases h; rfl
 | .own _, _, h, _ => by
  cases h with
  | own _ _ ho hb hv => rcases hv with rfl | ⟨b, i, n, cp, z, rfl⟩ <;> simp [VV.same]
 | .fz _ _ _, _, h, _ => by
  cases h with
  | fz _ _ _ _ M3 hc => cases M3 <;> simp [VV.same]
 | .nn _ _, _, h, _ => by
  cases h with
  | nn _ _ _ M3 hc => cases M3 <;> simp [VV.same]
 | .X0 _, _, h, _ => by
  cases h with
  | X0 _ _ _ ho hb hv => rcases hv with rfl | ⟨b, i, n, cp, z, rfl⟩ <;> simp [VV.same]
 | .pe _ _, _, h, _ => by cases h; simp [VV.same]
 | .pp _ _, _, h, _ => by cases h; simp [VV.same]
 | .A3, _, h, _ => by cases h; rfl
 | .map _, _, h, _ => by cases h; simp [VV.same]
 | .D3, _, h, _ => by cases h; rfl
 | .pz _ _, _, h, _ => by
  cases h with
  | pz _ _ _ M3 => cases M3 <;> simp [VV.same]
 | .pn _ _ _, _, h, _ => by cases h; simp [VV.same]
 | .Bn _ _ _, _, h, _ => by
  cases h with
  | Bn _ _ _ _ M3 => exact M3.same
 | .I1, _, h, _ => by cases h; rfl
 | .iface t u, _, h, hd => by
  cases h with
  | iface _ _ v hv => simp only [VV.same, Nat.beq_refl, Bool.true_and]; exact Nm hv (by simpa [UV.Nn] using hd)
 | .agg us, _, h, hd => by
  cases h with
  | agg _ vs hl hp => exact Jb ⟨hl, hp⟩ (by simpa [UV.Nn] using hd)
 | .tuple us, _, h, hd => by
  cases h with
  | tuple _ vs hl hp => exact Jb ⟨hl, hp⟩ (by simpa [UV.Nn] using hd)
 | .undef, _, _, hd => by simp [UV.Nn] at hd
 | .func _, _, _, hd => by simp [UV.Nn] at hd
theorem Jb {c : Cx} {g : VG} : ∀ {us : List UV} {vs : List VV}, E4 c g us vs -> UV.Ta us = true -> VV.F0 vs vs = true
 | [], vs, h, _ => by
  have := h.1
  match vs, this with
  | [], _ => rfl
 | u :: us, vs, h, hd => by
  have := h.1
  simp only [UV.Ta, Bool.and_eq_true] at hd
  match vs, this, h with
  | v :: vs, _, h => simp only [VV.F0, Bool.and_eq_true]; exact ⟨Nm h.head hd.1, Jb h.tail hd.2⟩
end
theorem BN {dst : Option Tmp} {t : TypeId} {a : Operand} {ty : TypeId} {pos : String} {after : Array Edge} {guard : Option (Nat × Bool)} {e : Env} {b i f : Nat} {ob : F2} {v : VV} (ha : ev e a = .ptr b i f)
  (hg : h.get b = some ob) (hv : AY P t h (.ptr b i f) = some v) (Y6 : VV.same v v = true) : ∀ h2 : A0, h2.get b = some ob -> R6 P ⟨dst, .load t a, ty, pos, after, guard⟩ e v h2 = true := by
 intro h2 hb
 unfold R6
 rw [LV, ha]
 have : AY P t h2 (.ptr b i f) = some v := by
  rw [<- hv]
  simp only [AY, rd, hg, hb]
 rw [this]
 exact Y6
theorem Ew {t : TypeId} {b i f : Nat} {v : VV} (hv : AY P t h (.ptr b i f) = some v) : ∃ k, h.get b = some (.cells k) := by
 simp only [AY, rd] at hv
 cases hg : h.get b with
 | none => rw [hg] at hv; cases hv
 | some o => cases o with
  | cells k => exact ⟨k, rfl⟩
  | map _ => rw [hg] at hv; cases hv
theorem an (hs : T3 c h s) {o : Oper} {e : R1} {e' : Env} (he : A6 c h.get e e') {v : VV} {h' : A0} {call : O5} (K0 : CG P call o e' h = some (v, h')) {u : UV} {c1 : Cx} (hr : RV c1 h'.get u v) (hd : u.Nn = true) : Xb P c h (KD o e s) o e' v := by
 obtain ⟨dst, op, ty, pos, after, guard⟩ := o
 unfold KD Xb
 cases op with
 | load t a =>
  simp only
  rw [LV] at K0
  simp only [Option.map_eq_some_iff, Prod.mk.injEq] at K0
  obtain ⟨v', hv, rfl, rfl⟩ := K0
  have Y6 := Nm hr hd
  have ha := j1 he a
  cases hu : F7 e a <;> simp only <;> (try trivial)
  ·rename_i o f
   rw [hu] at ha
   generalize hx : ev e' a = x at ha
   cases ha with
   | ptr _ _ b ho hb =>
    rw [hx] at hv
    obtain ⟨k, hk⟩ := Ew hv
    cases Oa : s.get o with
    | obj cs =>
     obtain ⟨k0, g1, g2⟩ := LJ hs hb (by rw [Oa]; simp)
     rw [hk] at g1
     simp only [U0, F2.cells.injEq] at g1
     subst g1
     exact ⟨b, k, hk, BN hx hk hv Y6, ho, hb, L5 g2⟩
    | _ => trivial
  ·rename_i o i f
   rw [hu] at ha
   generalize hx : ev e' a = x at ha
   cases ha with
   | u7 _ _ _ b i0 n cp z ho hb hi =>
    rw [hx] at hv
    obtain ⟨k, hk⟩ := Ew hv
    cases Oa : s.get o with
    | row B0 es =>
     have B2 := hs.obj o
     rw [Oa, hb] at B2
     generalize w8 : c.φ o = fm at B2
     cases B2 with
     | B7 => omega
     | row _ _ _ _ _ _ _ k0 Rj B2 hz w6 h0 hn AV v8 =>
      rw [hk] at Rj
      simp only [U0, F2.cells.injEq] at Rj
      subst Rj
      exact ⟨b, k, i0, n, cp, z, hk, BN hx hk hv Y6, ho, hb, L5 w8⟩
    | _ => trivial
  ·rename_i B0 o g n j f
   rw [hu] at ha
   generalize hx : ev e' a = x at ha
   cases ha with
   | m7 _ _ _ _ _ _ b ho hb hj =>
    rw [hx] at hv
    obtain ⟨k, hk⟩ := Ew hv
    cases Oa : s.get o with
    | obj cs =>
     obtain ⟨k0, g1, g2⟩ := LJ hs hb (by rw [Oa]; simp)
     rw [hk] at g1
     simp only [U0, F2.cells.injEq] at g1
     subst g1
     exact ⟨b, k, hk, BN hx hk hv Y6, ho, hb, L5 g2⟩
    | _ => trivial
  ·rename_i B0 es i f
   rw [hu] at ha
   generalize hx : ev e' a = x at ha
   cases ha with
   | AX _ _ _ _ b i0 n cp z M3 hi =>
    rw [hx] at hv
    obtain ⟨k, g1, g2, _⟩ := M3.Uq
    exact ⟨b, k, g1, BN hx g1 hv Y6, g2⟩
  ·rename_i B0 ds f
   rw [hu] at ha
   generalize hx : ev e' a = x at ha
   cases ha with
   | pn _ _ _ b M3 =>
    rw [hx] at hv
    obtain ⟨k, g1, g2, _⟩ := M3.WT
    exact ⟨b, k, g1, BN hx g1 hv Y6, g2⟩
 | _ => trivial
theorem DZ {Q7 : Nat} {o : Oper} {e : Env} {v : VV} {src : Src} (J6 : Xb P c h src o e v) : ∀ {es : List ZT} {ev : List (Nat × A0)} {acc : List Nat}, UB c h es ev acc -> reads Q7 src acc es = true -> (ev.all fun (j, hb) => Q7.testBit j || R6 P o e v hb) = true
 | [], [], _, _, _ => rfl
 | l :: ls, (j, hb) :: ev, acc, hE, hr => by
  obtain ⟨e1, e2, e3, e5, e4⟩ := hE
  cases src with
  | row p =>
   simp only [reads, Bool.and_eq_true, Bool.or_eq_true] at hr
   obtain ⟨h1, h2⟩ := hr
   simp only [List.all_cons, Bool.and_eq_true, Bool.or_eq_true]
   refine ⟨?_, DZ J6 e4 h2⟩
   rw [<- e1]
   rcases h1 with h1 | ⟨h1, h3⟩
   ·exact .inl h1
   ·right
    obtain ⟨b, k, i, n, cp, z, q1, q2, q3, q4, q5⟩ := J6
    exact q2 hb (e5 p b i n cp z k (Nat.le_of_ble_eq_true h1) (by simpa using h3) q4 q5 q1)
  | var p =>
   simp only [reads, Bool.and_eq_true, Bool.or_eq_true] at hr
   obtain ⟨h1, h2⟩ := hr
   simp only [List.all_cons, Bool.and_eq_true, Bool.or_eq_true]
   refine ⟨?_, DZ J6 e4 h2⟩
   rw [<- e1]
   rcases h1 with h1 | ⟨h1, h3⟩
   ·exact .inl h1
   ·right
    obtain ⟨b, k, q1, q2, q3, q4, q5⟩ := J6
    exact q2 hb (e3 p b k (Nat.le_of_ble_eq_true h1) (by simpa using h3) q4 q5 q1)
  | data =>
   simp only [reads, Bool.and_eq_true] at hr
   simp only [List.all_cons, Bool.and_eq_true, Bool.or_eq_true]
   exact ⟨.inl (by rw [<- e1]; exact hr.1), DZ J6 e4 hr.2⟩
  | other =>
   simp only [reads, Bool.and_eq_true] at hr
   simp only [List.all_cons, Bool.and_eq_true, Bool.or_eq_true]
   exact ⟨.inl (by rw [<- e1]; exact hr.1), DZ J6 e4 hr.2⟩
 | [], _ :: _, _, hE, _ => hE.elim
 | _ :: _, [], _, hE, _ => hE.elim
theorem Lk {Q7 : Nat} {t : List Nat} : ∀ {rs : List Bt} {rv : List (Nat × Oper × Env × VV)}, LH P c h (rs.map (Bt.BK t)) rv -> writes Q7 (rs.map (Bt.BK t)) = true -> (rv.all fun (j, p, d, u) => Q7.testBit j || R6 P p d u h) = true
 | [], [], _, _ => rfl
 | l :: ls, (i, p, d, u) :: rv, hR, hw => by
  simp only [List.map_cons] at hR hw
  obtain ⟨e1, e2, e3⟩ := hR
  simp only [writes, Bool.and_eq_true, Bool.or_eq_true, Bool.not_eq_true'] at hw
  simp only [List.all_cons, Bool.and_eq_true, Bool.or_eq_true]
  refine ⟨?_, Lk e3 hw.2⟩
  rw [<- e1]
  rcases hw.1 with h1 | h1
  ·exact .inl h1
  ·right
   have := e2 h1
   have Ds : (Bt.BK t l).src = l.src := by unfold Bt.BK; split <;> rfl
   rw [Ds] at this
   obtain ⟨at_, src, IG⟩ := l
   cases src with
   | var o => obtain ⟨b, k, q1, q2, _⟩ := this; exact q2 h q1
   | row o => simp [Bt.BK] at h1
   | data => obtain ⟨b, k, q1, q2, _⟩ := this; exact q2 h q1
   | other => simp [Bt.BK] at h1
 | [], _ :: _, hR, _ => hR.elim
 | _ :: _, [], hR, _ => hR.elim
theorem SD {T : Fw} {o : Oper} {e : R1} (hk : Y1 P o ≠ .EV) : L4 P T o e s = [] := by
 obtain ⟨dst, op, ty, pos, after, guard⟩ := o
 cases op with
 | store => exact absurd rfl hk
 | mapUpdate => exact absurd rfl hk
 | insert => exact absurd rfl hk
 | call cl =>
  obtain ⟨callee, args, pD⟩ := cl
  cases callee with
  | builtin b => cases b <;> first | rfl | exact absurd rfl hk
  | value f => exact absurd rfl hk
  | invoke r n => exact absurd rfl hk
 | _ => rfl
theorem DR {T : Fw} {call : FuncId -> List UV -> O0 -> (UV -> O0 -> Option R) -> Option R}
  (U6 : ∀ g args s (K : UV -> O0 -> Option R) r, call g args s K = some r -> ∀ (c : Cx) (h : A0) J4, T3 c h s -> E4 c h.get args J4 ->
   VC P m5 g J4 h fun v h' => ∃ u s1 c1, T3 c1 h' s1 /\ RV c1 h'.get u v /\ u0 c h c1 h' (fun f => ∃ o, o ∈ M7 T g args s /\ c.φ o f) /\ K u s1 = some r)
  {ops : Array Oper} {Q7 : Array Nat} : ∀ (l : List Oper) (i : Nat) (e : R1) (s : O0) (rs : List Bt) (es : List ZT) (K : R1 -> O0 -> Option R) (r : R), CK P T call ops Q7 i l e s rs es K = some r ->
   ∀ (c : Cx) (h : A0) (e' : Env) (rv : List (Nat × Oper × Env × VV)) (ev : List (Nat × A0)), T3 c h s -> A6 c h.get e e' -> LH P c h rs rv -> UB c h es ev [] ->
   WD P m5 ops Q7 i l e' h rv ev fun e1 h1 => ∃ u1 s1 c1, T3 c1 h1 s1 /\ A6 c1 h1.get u1 e1 /\ u0 c h c1 h1 c.L7 /\ K u1 s1 = some r
 | [], i, e, s, rs, es, K, r, hu, c, h, e', rv, ev, hs, he, hR, hE => WD.nil ⟨e, s, c, hs, he, u0.refl _ _ _, by unfold CK at hu; exact hu⟩
 | o :: l, i, e, s, rs, es, K, r, hu, c, h, e', rv, ev, hs, he, hR, hE => by
  have run : ∀ (e0 : R1), A6 c h.get e0 e' -> l5 ops o e' = some true -> (match Y1 P o with
    | .read => match reads (Q7.getD i 0) (KD o e0 s) [] es with
     | true => DO P call o e0 s fun v s' => match v.Nn && As [] 0 s s' with
      | true => CK P T call ops Q7 (i + 1) l (e0.put o.dst v) s' (⟨i, KD o e0 s, false⟩ :: rs) es K
      | false => none
     | false => none
    | .EV => match writes (Q7.getD i 0) (rs.map (Bt.BK (L4 P T o e0 s))) with
     | true => DO P call o e0 s fun v s' => match As (L4 P T o e0 s) 0 s s' with
      | true => CK P T call ops Q7 (i + 1) l (e0.put o.dst v) s' (rs.map (Bt.BK (L4 P T o e0 s))) (⟨i, L4 P T o e0 s, s.len⟩ :: es) K
      | false => none
     | false => none
    | _ => DO P call o e0 s fun v s' => match As [] 0 s s' with
     | true => CK P T call ops Q7 (i + 1) l (e0.put o.dst v) s' rs es K
     | false => none) = some r ->
    WD P m5 ops Q7 i (o :: l) e' h rv ev fun e1 h1 => ∃ u1 s1 c1, T3 c1 h1 s1 /\ A6 c1 h1.get u1 e1 /\ u0 c h c1 h1 c.L7 /\ K u1 s1 = some r := by
   intro e0 Qy hw hu
   refine WD.cons hw ?_
   have hT : ∀ f, c.K f -> ¬ DF P T c o e0 s f := fun f hK ⟨p, _, hp⟩ => hs.EJ p f hp hK
   have still : Y1 P o ≠ .EV -> ∀ f, ¬ DF P T c o e0 s f := fun hk f ⟨p, hp, _⟩ => by rw [SD hk] at hp; cases hp
   have quiet : Y1 P o ≠ .EV -> Y1 P o ≠ .read -> (DO P call o e0 s fun v s' => match As [] 0 s s' with
     | true => CK P T call ops Q7 (i + 1) l (e0.put o.dst v) s' rs es K
     | false => none) = some r ->
     WO P m5 o e' h fun v h' => (Y1 P o = .read -> (ev.all fun (j, hb) => (Q7.getD i 0).testBit j || R6 P o e' v hb) = true) /\ (Y1 P o = .EV -> (rv.all fun (j, p, d, u) => (Q7.getD i 0).testBit j || R6 P p d u h') = true) /\
      WD P m5 ops Q7 (i + 1) l (e'.put o.dst v) h' (match Y1 P o with | .read => (i, o, e', v) :: rv | _ => rv) (match Y1 P o with | .EV => (i, h) :: ev | _ => ev)
       fun e1 h1 => ∃ u1 s1 c1, T3 c1 h1 s1 /\ A6 c1 h1.get u1 e1 /\ u0 c h c1 h1 c.L7 /\ K u1 s1 = some r := by
    intro El U9 hu
    obtain ⟨k, v, h', e1, u, s1, c1, q1, q2, q3, q4⟩ := GB U6 hs Qy hu
    split at q4 <;> (try (cases q4; done))
    rename_i Dk
    refine ⟨k, v, h', e1, fun hk => absurd hk U9, fun hk => absurd hk El, ?_⟩
    have hL : u0 c h c1 h' c.L7 := q3.mono (fun f ⟨p, _, hp⟩ => ⟨p, hp⟩)
    have e3 : (match Y1 P o with | .read => (i, o, e', v) :: rv | _ => rv) = rv := by cases hk : Y1 P o <;> first | rfl | exact absurd hk U9
    have e4 : (match Y1 P o with | .EV => (i, h) :: ev | _ => ev) = ev := by cases hk : Y1 P o <;> first | rfl | exact absurd hk El
    rw [e3, e4]
    obtain ⟨k2, e2, h2, e5, u2, s2, c2, p1, p2, p3, p4⟩ := DR U6 l _ _ s1 rs es K r q4 c1 h' _ rv ev q1 ((Qy.O4 q3 hT).put q2 o.dst) (hR.still hs q3 q1 (still El) Dk) (hE.step (t := []) hs q3 (fun f hf => absurd hf (still El f)) (fun o ho => ⟨ho, rfl⟩))
    exact ⟨k2, e2, h2, e5, u2, s2, c2, p1, p2, hL.trans' p3 hs.wf, p4⟩
   cases hk : Y1 P o with
   | pure => rw [hk] at hu; have := quiet (by rw [hk]; simp) (by rw [hk]; simp) hu; rwa [hk] at this
   | alloc => rw [hk] at hu; have := quiet (by rw [hk]; simp) (by rw [hk]; simp) hu; rwa [hk] at this
   | read =>
    rw [hk] at hu
    simp only at hu
    split at hu
    ·rename_i M3
     obtain ⟨k, v, h', e1, u, s1, c1, q1, q2, q3, q4⟩ := GB U6 hs Qy hu
     split at q4
     ·rename_i il
      simp only [Bool.and_eq_true] at il
      obtain ⟨il, Dk⟩ := il
      have J6 := an hs Qy e1 q2 il
      refine ⟨k, v, h', e1, fun _ => DZ J6 hE M3, (fun hk => by cases hk), ?_⟩
      have sS := still (by rw [hk]; simp)
      have hL : u0 c h c1 h' c.L7 := q3.mono (fun f ⟨p, _, hp⟩ => ⟨p, hp⟩)
      simp only
      have sk : LH P c h (⟨i, KD o e0 s, false⟩ :: rs) ((i, o, e', v) :: rv) := ⟨rfl, fun _ => by
       revert J6
       cases KD o e0 s <;> intro J6 <;> first | exact J6 | exact trivial, hR⟩
      obtain ⟨k2, e2, h2, e5, u2, s2, c2, p1, p2, p3, p4⟩ := DR U6 l _ _ s1 _ es K r q4 c1 h' _ ((i, o, e', v) :: rv) ev q1 ((Qy.O4 q3 hT).put q2 o.dst) (sk.still hs q3 q1 sS Dk) (hE.step (t := []) hs q3 (fun f hf => absurd hf (sS f)) (fun o ho => ⟨ho, rfl⟩))
      exact ⟨k2, e2, h2, e5, u2, s2, c2, p1, p2, hL.trans' p3 hs.wf, p4⟩
     ·cases q4
    ·cases hu
   | EV =>
    rw [hk] at hu
    simp only at hu
    split at hu
    ·rename_i KV
     obtain ⟨k, v, h', e1, u, s1, c1, q1, q2, q3, q4⟩ := GB U6 hs Qy hu
     have sf : ∀ f, DF P T c o e0 s f -> ∃ p, p ∈ L4 P T o e0 s /\ c.φ p f := fun f hf => hf
     split at q4 <;> (try (cases q4; done))
     rename_i Dk
     have sk := hR.step (t := L4 P T o e0 s) hs q3 q1 sf Dk
     refine ⟨k, v, h', e1, fun hk => (by cases hk), fun _ => Lk sk KV, ?_⟩
     have hL : u0 c h c1 h' c.L7 := q3.mono (fun f ⟨p, _, hp⟩ => ⟨p, hp⟩)
     simp only
     have vC : UB c1 h' (⟨i, L4 P T o e0 s, s.len⟩ :: es) ((i, h) :: ev) [] := by
      refine ⟨rfl, by rw [hs.len]; exact q3.n, fun o2 b k ho hn hb hf hg => ?_, fun o2 b i n cp z k ho hn hb hf hg => ?_, hE.step hs q3 sf (fun o2 ho => ⟨rfl, by simpa using ho⟩)⟩
      ·rw [hs.len] at ho
       exact (Rr hs q3 sf ho (by simpa using hn) hb hf hg).2.2
      ·rw [hs.len] at ho
       exact (SN hs q3 sf ho (by simpa using hn) hb hf hg).2.2
     obtain ⟨k2, e2, h2, e5, u2, s2, c2, p1, p2, p3, p4⟩ := DR U6 l _ _ s1 _ _ K r q4 c1 h' _ rv ((i, h) :: ev) q1 ((Qy.O4 q3 hT).put q2 o.dst) sk vC
     exact ⟨k2, e2, h2, e5, u2, s2, c2, p1, p2, hL.trans' p3 hs.wf, p4⟩
    ·cases hu
  have skip : ∀ (e0 : R1), A6 c h.get e0 e' -> l5 ops o e' = some false -> CK P T call ops Q7 (i + 1) l (e0.put o.dst Hu) s rs es K = some r -> WD P m5 ops Q7 i (o :: l) e' h rv ev fun e1 h1 => ∃ u1 s1 c1, T3 c1 h1 s1 /\ A6 c1 h1.get u1 e1 /\ u0 c h c1 h1 c.L7 /\ K u1 s1 = some r := by
   intro e0 Qy hw hu
   exact WD.skip hw (DR U6 l _ _ s rs es K r hu c h _ rv ev hs (Qy.put (SI c h.get) o.dst) hR hE)
  unfold CK at hu
  simp only at hu
  split at hu
  ·rename_i hg
   exact run e he (Hq hg) hu
  ·rename_i j want hg
   split at hu
   ·cases hu
   ·rename_i t ht
    obtain ⟨g1, g2⟩ := PU hg ht he
    split at hu
    ·rename_i p hp
     obtain ⟨w1, w2⟩ := g1 p hp
     cases p with
     | true =>
      simp only [cond_true] at hu
      cases want with
      | true => exact run _ w2 w1 hu
      | false => exact skip _ w2 w1 hu
     | false =>
      simp only [cond_false] at hu
      cases want with
      | true => exact skip _ w2 w1 hu
      | false => exact run _ w2 w1 hu
    ·rename_i hp
     exact skip e he (g2 hp) hu
    ·cases hu
end
section
variable {P : Program} {R : Type}
theorem NP : ∀ {l : List UV} {n : Nat}, HT l n = true -> l.length <= n
 | [], _, _ => Nat.zero_le _
 | _ :: l, 0, h => by simp [HT] at h
 | _ :: l, n + 1, h => by simp only [HT] at h; have := NP h; simp; omega
theorem Nz {c : Cx} {g : VG} {us : List UV} {vs : List VV} (h : E4 c g us vs) : A6 c g us vs := by
 intro t
 have key : ∀ (us : List UV) (t : Nat), R1.get us t = us.getD t .undef := by
  intro us
  induction us with
  | nil => intro t; simp [R1.get]
  | cons u us ih => intro t; cases t with
   | zero => simp [R1.get]
   | succ t => simp [R1.get, ih]
 rw [key]
 show RV c g _ (vs.getD t .undef)
 rw [List.getD_eq_getElem?_getD, List.getD_eq_getElem?_getD]
 by_cases ht : t < us.length
 ·have ZZ : t < vs.length := by rw [<- h.1]; exact ht
  rw [List.getElem?_eq_getElem ht, List.getElem?_eq_getElem ZZ]
  exact h.2 t _ _ (List.getElem?_eq_getElem ht) (List.getElem?_eq_getElem ZZ)
 ·rw [List.getElem?_eq_none (by omega)]
  exact .undef _
theorem DE {c : Cx} {h : A0} {s : O0} (hs : T3 c h s) {e : R1} {e' : Env} (he : A6 c h.get e e') : ∀ {rs : List ResultVar} {us : List UV}, DP P e s rs = some us -> ∃ vs, rs.mapM (Fy P e' h) = some vs /\ E4 c h.get us vs
 | [], us, hu => by simp only [DP, U0] at hu; subst hu; exact ⟨[], rfl, E4.nil _ _⟩
 | r :: rs, us, hu => by
  simp only [DP] at hu
  split at hu
  ·rename_i v vs h1 h2
   simp only [U0] at hu; subst hu
   obtain ⟨ws, e1, e2⟩ := DE hs he h2
   have : ∃ w, Fy P e' h r = some w /\ RV c h.get v w := by
    cases r with
    | tmp t => simp only [WH, U0] at h1; subst h1; exact ⟨_, rfl, he t⟩
    | cell a t => exact Ow hs h1 (he a)
   obtain ⟨w, e3, e4⟩ := this
   exact ⟨w :: ws, by simp [List.mapM_cons, e3, e1], E4.cons e4 e2⟩
  ·cases hu
theorem Hw {c : Cx} {h : A0} {s : O0} (hs : T3 c h s) {e : R1} {e' : Env} (he : A6 c h.get e e') {fn : Func} {u : UV} (hu : FB P fn e s = some u) : ∃ v, CF P fn e' h = some v /\ RV c h.get u v := by
 unfold FB at hu
 unfold CF
 split at hu
 ·rename_i v h1
  simp only [U0] at hu; subst hu
  obtain ⟨vs, e1, e2⟩ := DE hs he h1
  have := e2.1
  match vs, this, e1, e2 with
  | [w], _, e1, e2 => rw [e1]; exact ⟨w, rfl, e2.head⟩
 ·rename_i vs Y3 h1
  simp only [U0] at hu; subst hu
  obtain ⟨ws, e1, e2⟩ := DE hs he h1
  rw [e1]
  have hl := e2.1
  match ws, hl, e2 with
  | [], _, e2 => exact ⟨_, rfl, RV.tuple' e2⟩
  | [w], hl, e2 =>
   have : vs.length = 1 := hl
   match vs, this with
   | [v], _ => exact absurd rfl (Y3 v)
  | w :: w2 :: ws, _, e2 => exact ⟨_, rfl, RV.tuple' e2⟩
 ·cases hu
def Hz (P : Program) (F : FuncId -> Option (Bool × J1)) (Pc : Nat -> Option M1) (k : Nat) (g : FuncId) (args : List UV) (s : O0) (K : UV -> O0 -> Option R) : Option R :=
 match oM P g with
 | some fn => match fn.body with
  | some c => match HT args fn.ntmps with
   | true => n4 P F k Pc 1 c args s fun x e s => match x with
    | .exit _ => none
    | _ => match FB P fn e s with
     | some v => K v s
     | none => none
   | false => none
  | none => none
 | none => none
def eU (P : Program) (F : FuncId -> Option (Bool × J1)) (k : Nat) : Prop :=
 ∀ (R : Type) (Pc : Nat -> Option M1) (m p : Nat) (body code : Code) (e : R1) (s : O0) (K : Y2 -> R1 -> O0 -> Option R) (r : R), n4 P F k Pc p code e s K = some r -> 1 <= p -> N0 body p = some code -> R0 P m body Pc ->
  ∀ (c : Cx) (h : A0) (e' : Env), m <= c.n -> T3 c h s -> A6 c h.get e e' ->
  WP P m5 code e' h fun x e1 h1 => ∃ u1 s1 c1, T3 c1 h1 s1 /\ A6 c1 h1.get u1 e1 /\ K3 m c h c1 h1 c.L7 /\ K x u1 s1 = some r
theorem Jw {F : FuncId -> Option (Bool × J1)} {Pc : Nat -> Option M1} {k : Nat} (hE : eU P F k) {g : FuncId} {args : List UV} {s : O0} {K : UV -> O0 -> Option R} {r : R} (hu : Hz P F Pc k g args s K = some r) {c : Cx} {h : A0} {J4 : List VV}
  (Rm : ∀ fn body, P.funcs[g]? = some fn -> fn.body = some body -> R0 P c.n body Pc) (hs : T3 c h s) (hr : E4 c h.get args J4) :
  VC P m5 g J4 h fun v h' => ∃ u s1 c1, T3 c1 h' s1 /\ RV c1 h'.get u v /\ u0 c h c1 h' c.L7 /\ K u s1 = some r := by
 unfold Hz at hu
 split at hu
 ·rename_i fn xe
  obtain ⟨lg, hf⟩ := Zu xe
  split at hu
  ·rename_i code hb
   split at hu
   ·rename_i hle
    refine VC.of lg hf hb (by rw [<- hr.1]; exact NP hle) ?_
    refine (hE R Pc c.n 1 code code args s _ r hu (Nat.le_refl _) rfl (Rm fn code hf hb) c h J4 (Nat.le_refl _) hs (Nz hr)).mono ?_
    rintro x e1 h1 ⟨u1, s1, c1, q1, q2, q3, q4⟩
    cases x with
    | exit n => cases q4
    | normal =>
     simp only at q4
     split at q4
     ·rename_i v hv
      obtain ⟨w, w1, w2⟩ := Hw q1 q2 hv
      exact ⟨trivial, w, w1, v, s1, c1, q1, w2, q3.full, q4⟩
     ·cases q4
    | ret =>
     simp only at q4
     split at q4
     ·rename_i v hv
      obtain ⟨w, w1, w2⟩ := Hw q1 q2 hv
      exact ⟨trivial, w, w1, v, s1, c1, q1, w2, q3.full, q4⟩
     ·cases q4
   ·cases hu
  ·cases hu
 ·cases hu
theorem Uw {n o : Nat} (h : o < n) : o ∈ FM n := by
 induction n with
 | zero => omega
 | succ n ih =>
  simp only [FM, List.mem_cons]
  by_cases he : o = n
  ·exact .inl he
  ·exact .inr (ih (by omega))
theorem Nj {F : FuncId -> Option (Bool × J1)} (hF : C2 P F) : ∀ k, eU P F k := by
 intro k
 induction k with
 | zero => intro R Pc m p body code e s K r hu; simp [n4] at hu
 | succ k ih =>
  intro R Pc m p body code e s K r hu hp Ad Rm c h e' hm hs he
  unfold n4 at hu
  split at hu
  ·rename_i told qW
   exact Rm p told qW code Ad R e s K r hu c h e' hm hs he
  ·have sub : ∀ (b : Bool) (d : Code), Lh code b = some d -> N0 body (2 * p + b.toNat) = some d := fun b d hd => Kl hp Ad b hd
   cases code with
   | skip => exact WP.skip ⟨e, s, c, hs, he, K3.refl hm _ _, hu⟩
   | label n => exact WP.label ⟨e, s, c, hs, he, K3.refl hm _ _, hu⟩
   | exit n => exact WP.exit ⟨e, s, c, hs, he, K3.refl hm _ _, hu⟩
   | ret => exact WP.ret ⟨e, s, c, hs, he, K3.refl hm _ _, hu⟩
   | region pp ops draw =>
    simp only at hu
    have U6 : ∀ g args s (K : UV -> O0 -> Option R) r, (match F g with
      | some (own, told) => Jt own told args s K
      | none => Hz P F (fun _ => none) k g args s K) = some r -> ∀ (c : Cx) (h : A0) J4, T3 c h s -> E4 c h.get args J4 ->
      VC P m5 g J4 h fun v h' => ∃ u s1 c1, T3 c1 h' s1 /\ RV c1 h'.get u v /\ u0 c h c1 h' (fun f => ∃ o, o ∈ M7 ⟨F, fun _ => none⟩ g args s /\ c.φ o f) /\ K u s1 = some r := by
     intro g args s K r hu c h J4 hs hr
     split at hu
     ·rename_i own told mX
      cases hX : m5 g with
      | none =>
       refine (GA (hF g own told mX) hu hs hr).mono ?_
       rintro v h' ⟨u, s1, c1, q1, q2, q3, q4⟩
       exact ⟨u, s1, c1, q1, q2, q3.mono (fun f ⟨o, ho, hf⟩ => ⟨o, by simp only [M7, hX, mX]; exact ho, hf⟩), q4⟩
      | some x =>
       cases hT : WM g with
       | true =>
        refine (GA (hF g own told mX) hu hs hr).mono ?_
        rintro v h' ⟨u, s1, c1, q1, q2, q3, q4⟩
        exact ⟨u, s1, c1, q1, q2, q3.mono (fun f ⟨o, ho, hf⟩ => ⟨o, by simp only [M7, hX, hT, mX]; exact ho, hf⟩), q4⟩
       | false =>
       obtain ⟨k2, v, h', j4, u, s1, c1, q1, q2, q3, q4⟩ := GA (hF g own told mX) hu hs hr
       have hq : x J4 h = some (v, h') := by
        have := j4
        unfold Zl Ge at this
        rw [hX] at this
        exact this
       exact ⟨k2, v, h', j4, u, s1, c1, q1, q2, ⟨q3.n, q3.ρ, q3.K, q3.next, fun b o hb _ => SK hX hT _ _ _ _ hq b o hb, q3.Q1, q3.mp, q3.Gf, q3.n8, q3.Aa⟩, q4⟩
     ·rename_i mX
      have hX : m5 g = none := by
       cases hX : m5 g with
       | none => rfl
       | some x =>
        have Sy : Hz P F (fun _ => none) k g args s K = some r := hu
        unfold Hz oM at Sy
        rw [hX] at Sy
        cases Sy
      refine (Jw ih hu (fun _ _ _ _ => R0.none _ _ _) hs hr).mono ?_
      rintro v h' ⟨u, s1, c1, q1, q2, q3, q4⟩
      refine ⟨u, s1, c1, q1, q2, q3.mono (fun f ⟨o, hf⟩ => ⟨o, ?_, hf⟩), q4⟩
      simp only [M7, hX, mX]
      refine Uw ?_
      rcases Nat.lt_or_ge o s.len with h1 | h1
      ·exact h1
      ·have := hs.out (o := o) (by rw [<- hs.len]; exact h1); rw [this] at hf; cases hf
    cases draw with
    | false =>
     simp only at hu
     refine WP.region ?_
     obtain ⟨k2, e2, h2, a1, u2, s2, c2, p1, p2, p3, p4⟩ := Ls (T := ⟨F, fun _ => none⟩) U6 ops.toList e s _ r hu c h e' hs he
     exact ⟨k2, e2, h2, a1, u2, s2, c2, p1, p2, p3.Ug hm, p4⟩
    | true =>
     simp only at hu
     split at hu
     ·rename_i hd
      refine WP.draw hd ?_
      obtain ⟨k2, e2, h2, a1, u2, s2, c2, p1, p2, p3, p4⟩ := DR (T := ⟨F, fun _ => none⟩) U6 ops.toList 0 e s [] [] _ r hu c h e' [] [] hs he trivial trivial
      exact ⟨k2, e2, h2, a1, u2, s2, c2, p1, p2, p3.Ug hm, p4⟩
     ·cases hu
   | seq a b =>
    simp only at hu
    refine WP.seq ((ih R Pc m (2 * p) body a e s _ r hu (by omega) (sub false a rfl) Rm c h e' hm hs he).mono ?_)
    rintro x e1 h1 ⟨u1, s1, c1, q1, q2, q3, q4⟩
    cases x with
    | normal =>
     simp only at q4
     refine (ih R Pc m (2 * p + 1) body b u1 s1 K r q4 (by omega) (sub true b rfl) Rm c1 h1 e1 q3.n q1 q2).mono ?_
     rintro x e2 h2 ⟨u2, s2, c2, p1, p2, p3, p4⟩
     exact ⟨u2, s2, c2, p1, p2, q3.trans p3 hs.wf, p4⟩
    | exit n => exact ⟨u1, s1, c1, q1, q2, q3, q4⟩
    | ret => exact ⟨u1, s1, c1, q1, q2, q3, q4⟩
   | cond q a b =>
    simp only at hu
    split at hu
    ·rename_i t ht
     have hr := j1 he q
     rw [ht] at hr
     have hv : ev e' q = .bool t := by generalize ev e' q = v at hr; cases hr; rfl
     refine WP.cond t hv (fun e1 => ?_) (fun e1 => ?_)
     ·subst e1; simp only [cond_true] at hu; exact ih R Pc m (2 * p) body a e s K r hu (by omega) (sub false a rfl) Rm c h e' hm hs he
     ·subst e1; simp only [cond_false] at hu; exact ih R Pc m (2 * p + 1) body b e s K r hu (by omega) (sub true b rfl) Rm c h e' hm hs he
    ·cases hu
   | block id b =>
    simp only at hu
    refine WP.block ((ih R Pc m (2 * p) body b e s _ r hu (by omega) (sub false b rfl) Rm c h e' hm hs he).mono ?_)
    rintro x e1 h1 ⟨u1, s1, c1, q1, q2, q3, q4⟩
    cases x with
    | normal => exact ⟨u1, s1, c1, q1, q2, q3, q4⟩
    | ret => exact ⟨u1, s1, c1, q1, q2, q3, q4⟩
    | exit n =>
     simp only at q4
     unfold Out
     simp only
     split at q4
     ·rename_i hb; rw [hb]; exact ⟨u1, s1, c1, q1, q2, q3, q4⟩
     ·rename_i hb; rw [hb]; exact ⟨u1, s1, c1, q1, q2, q3, q4⟩
   | loop b =>
    simp only at hu
    refine WP.bg ((ih R Pc m (2 * p) body b e s _ r hu (by omega) (sub false b rfl) Rm c h e' hm hs he).mono ?_)
    rintro x e1 h1 ⟨u1, s1, c1, q1, q2, q3, q4⟩
    cases x with
    | normal =>
     simp only at q4
     refine (ih R Pc m p body (.loop b) u1 s1 K r q4 hp Ad Rm c1 h1 e1 q3.n q1 q2).mono ?_
     rintro x e2 h2 ⟨u2, s2, c2, p1, p2, p3, p4⟩
     exact ⟨u2, s2, c2, p1, p2, q3.trans p3 hs.wf, p4⟩
    | exit n => exact ⟨u1, s1, c1, q1, q2, q3, q4⟩
    | ret => exact ⟨u1, s1, c1, q1, q2, q3, q4⟩
   | _ => cases hu
theorem Lw {T : Fw} (hF : C2 P T.F) {k : Nat} {g : FuncId} {args : List UV} {s : O0} {K : UV -> O0 -> Option R} {r : R} (hu : I6 P T k g args s K = some r) (Rm : ∀ fn body, P.funcs[g]? = some fn -> fn.body = some body -> R0 P s.len body T.Pc)
  {c : Cx} {h : A0} {J4 : List VV} (hs : T3 c h s) (hr : E4 c h.get args J4) :
  VC P m5 g J4 h fun v h' => ∃ u s1 c1, T3 c1 h' s1 /\ RV c1 h'.get u v /\ u0 c h c1 h' c.L7 /\ K u s1 = some r :=
 Jw (Nj hF k) hu (by rw [<- hs.len]; exact Rm) hs hr
end
inductive Gh where
 | live (m : List Bool)
 | keep (ids : List Nat)
 | qF (t : Nat) (B0 : List FT)
 | X3 (o f : Nat) (B0 : List FT)
 | wR (t : Nat) (B0 : List FT)
 | S3 (o f : Nat) (B0 : List FT)
 | gc
 | j9 (t : Nat) (p : List Nat) (B0 : List FT)
 | V9 (t : Nat) (p : List Nat) (B0 : List FT)
 | vh (o f : Nat) (ts : List Nat) (B0 : List FT)
 | vf (t : Nat) (p : List Nat) (ts : List Nat) (B0 : List FT)
 | FN (o f : Nat) (B0 : List FT)
 | bb (o f : Nat)
def FY : List Bool -> R1 -> R1
 | true :: m, v :: e => v :: FY m e
 | false :: m, _ :: e => .undef :: FY m e
 | _ :: m, [] => .undef :: FY m []
 | [], _ => []
def BE : Nat -> Nat -> List Nat -> Bool
 | 0, _, _ => true
 | m + 1, i, a :: l => Nat.beq a i && BE m (i + 1) l
 | _ + 1, _, [] => false
def p9 : List UV -> Nat -> UV
 | [], _ => .undef
 | v :: _, 0 => v
 | _ :: l, n + 1 => p9 l n
def FK : List UV -> Nat -> UV -> List UV
 | [], _, _ => []
 | _ :: l, 0, v => v :: l
 | x :: l, n + 1, v => x :: FK l n v
def Vu : UV -> List Nat -> UV
 | v, [] => v
 | .agg cs, i :: p => Vu (p9 cs i) p
 | .tuple cs, i :: p => Vu (p9 cs i) p
 | _, _ :: _ => .undef
def HN : UV -> List Nat -> UV -> UV
 | _, [], u => u
 | .agg cs, i :: p, u => .agg (FK cs i (HN (p9 cs i) p u))
 | .tuple cs, i :: p, u => .tuple (FK cs i (HN (p9 cs i) p u))
 | v, _ :: _, _ => v
def LP : Nat -> Nat -> List Nat
 | 0, _ => []
 | n + 1, i => i :: LP n (i + 1)
def refsOf (s : O0) : List Nat -> List Nat
 | [] => []
 | o :: l => (s.get o).refs ++ refsOf s l
def PV (m : Nat) (e : R1) (s : O0) : List Nat := reach s 500 (refsOf s (LP m 0) ++ UV.Mv e) (LP m 0)
def KP : List UV -> Bool
 | [] => true
 | .own _ :: _ => false
 | _ :: l => KP l
def Uh (m : Nat) (s : O0) (ts : List Nat) (B0 : List FT) : UV -> Option (D × Option Nat)
 | .I1 => some (.nil, none)
 | .Bn sr W2 d => match EK ts sr && FT.F0 B0 W2 with
  | true => some (d, none)
  | false => none
 | .iface t u => match Fa ts B0 t with
  | some (.ptr W2) => match u with
   | .ptr p 0 => match s.get p with
    | .obj cs => match D8 s W2 cs, Nat.ble m p && KP cs with
     | some ds, true => some (.row [[.int t, .row [ds]]], some p)
     | _, _ => none
    | _ => none
   | u => match Zy (.ptr W2) u with
    | some d => some (.row [[.int t, d]], none)
    | none => none
  | some ft => match Zy ft u with
   | some d => some (.row [[.int t, d]], none)
   | none => none
  | none => none
 | _ => none
def TV (p : Nat) : List Nat -> List Nat
 | [] => []
 | a :: l => match Nat.beq a p with
  | true => TV p l
  | false => a :: TV p l
def N7 (s : O0) (p : Nat) : List Nat := TV p (LP s.len 0)
def CX (m : Nat) : Gh -> R1 × O0 -> Option (R1 × O0)
 | .live k, (e, s) => some (FY k e, s)
 | .keep ids, (e, s) => match EI ids && Iq ids s.len && BE m 0 ids with
  | true => some (UV.E6 ids e, s.pick ids ids)
  | false => none
 | .gc, (e, s) => match EI (PV m e s) && Iq (PV m e s) s.len && BE m 0 (PV m e s) with
  | true => some (UV.E6 (PV m e s) e, s.pick (PV m e s) (PV m e s))
  | false => none
 | .qF t B0, (e, s) => match e.get t with
  | .nilslice => some (e.set t (.own s.len), s.push (.row B0 []))
  | _ => some (e, s)
 | .X3 o f B0, (e, s) => match s.get o with
  | .obj cs => match p9 cs f with
   | .nilslice => some (e, (s.push (.row B0 [])).T8 o (.obj (FK cs f (.own s.len))))
   | _ => some (e, s)
  | _ => some (e, s)
 | .wR t B0, (e, s) => match e.get t with
  | .nilslice => some (e.set t (.fz B0 [] false), s)
  | .fz W2 es _ => some (e.set t (.fz W2 es false), s)
  | .own o => match rowOf (s.get o) with
   | some (W2, es) => some (e.set t (.fz W2 es false), W4 s (.own o))
   | none => none
  | _ => some (e, s)
 | .S3 o f B0, (e, s) => match s.get o with
  | .obj cs => match p9 cs f with
   | .nilslice => some (e, s.T8 o (.obj (FK cs f (.fz B0 [] false))))
   | .fz W2 es _ => some (e, s.T8 o (.obj (FK cs f (.fz W2 es false))))
   | .own p => match rowOf (s.get p) with
    | some (W2, es) => some (e, (W4 s (.own p)).T8 o (.obj (FK cs f (.fz W2 es false))))
    | none => none
   | _ => some (e, s)
  | _ => some (e, s)
 | .j9 t p B0, (e, s) => match Vu (e.get t) p with
  | .nilslice => some (e.set t (HN (e.get t) p (.own s.len)), s.push (.row B0 []))
  | _ => some (e, s)
 | .V9 t p B0, (e, s) => match Vu (e.get t) p with
  | .nilslice => some (e.set t (HN (e.get t) p (.fz B0 [] false)), s)
  | .fz W2 es _ => some (e.set t (HN (e.get t) p (.fz W2 es false)), s)
  | .nn W2 es => some (e.set t (HN (e.get t) p (.fz W2 es false)), s)
  | .own o => match rowOf (s.get o) with
   | some (W2, es) => some (e.set t (HN (e.get t) p (.fz W2 es false)), W4 s (.own o))
   | none => none
  | _ => some (e, s)
 | .vh o f ts B0, (e, s) => match s.get o with
  | .obj cs => match Uh m s ts B0 (p9 cs f) with
   | some (d, none) => some (e, s.T8 o (.obj (FK cs f (.Bn ts B0 d))))
   | some (d, some p) =>
    match EI (N7 s p) && Iq (N7 s p) s.len && BE m 0 (N7 s p), idx (N7 s p) o with
    | true, some o2 => some (UV.E6 (N7 s p) e, (s.pick (N7 s p) (N7 s p)).T8 o2 (.obj (FK (UV.E6 (N7 s p) cs) f (.Bn ts B0 d))))
    | _, _ => none
   | none => none
  | _ => none
 | .FN o f B0, (e, s) => match s.get o with
  | .obj cs => match p9 cs f with
   | .nilslice => some (e, (s.push (.p0 B0 [] none)).T8 o (.obj (FK cs f (.X0 s.len))))
   | _ => some (e, s)
  | _ => some (e, s)
 | .bb o f, (e, s) => match s.get o with
  | .obj cs => match p9 cs f with
   | .own p => match Nat.blt p m, s.get p with
    | true, .row B0 es => some (e, ((s.T8 p .gone).push (.row B0 es)).T8 o (.obj (FK cs f (.own s.len))))
    | _, _ => some (e, s)
   | .X0 p => match Nat.blt p m, s.get p with
    | true, .p0 B0 es x => some (e, ((s.T8 p .gone).push (.p0 B0 es x)).T8 o (.obj (FK cs f (.X0 s.len))))
    | _, _ => some (e, s)
   | _ => some (e, s)
  | _ => some (e, s)
 | .vf t q ts B0, (e, s) => match Uh m s ts B0 (Vu (e.get t) q) with
  | some (d, none) => some (e.set t (HN (e.get t) q (.Bn ts B0 d)), s)
  | some (d, some p) =>
   match EI (N7 s p) && Iq (N7 s p) s.len && BE m 0 (N7 s p) with
   | true => some (R1.set (UV.E6 (N7 s p) e) t (HN ((e.get t).pick (N7 s p)) q (.Bn ts B0 d)), s.pick (N7 s p) (N7 s p))
   | false => none
  | none => none
def Fj (m : Nat) : List Gh -> R1 × O0 -> Option (R1 × O0)
 | [], q => some q
 | g :: gs, q => match CX m g q with
  | some q => Fj m gs q
  | none => none
def D0 : Nat -> Nat -> List Bool
 | 0, _ => []
 | k + 1, b => Nat.beq (b % 2) 1 :: D0 k (b / 2)
def BQ : List Bool -> R1 -> List UV
 | [], _ => []
 | true :: m, v :: e => v :: BQ m e
 | true :: m, [] => .undef :: BQ m []
 | false :: m, _ :: e => BQ m e
 | false :: m, [] => BQ m []
def I0 : List Bool -> List UV -> R1
 | [], _ => []
 | true :: m, v :: vs => v :: I0 m vs
 | true :: m, [] => .undef :: I0 m []
 | false :: m, vs => .undef :: I0 m vs
def E8 (m : List Bool) (told : M1) : M1 := fun R e s K => told R (BQ m e) s K
section
variable {P : Program} {c : Cx} {h : A0} {s : O0}
theorem LW (l : List UV) (n : Nat) : p9 l n = l.getD n .undef := by
 induction l generalizing n with
 | nil => simp [p9]
 | cons v l ih => cases n with
  | zero => simp [p9]
  | succ n => simp [p9, ih]
theorem G8 {g : VG} {us : List UV} {vs : List VV} (hr : E4 c g us vs) (n : Nat) {u : UV} (hu : ∀ v, vs[n]? = some v -> RV c g u v) : E4 c g (FK us n u) vs := by
 induction us generalizing vs n with
 | nil => exact hr
 | cons x us ih =>
  have := hr.1
  match vs, this, hr with
  | v :: vs, _, hr =>
   cases n with
   | zero => exact E4.cons (hu v rfl) hr.tail
   | succ n => exact E4.cons hr.head (ih hr.tail n (fun w hw => hu w (by simpa using hw)))
theorem G9 {g : VG} {us : List UV} {vs : List VV} (hr : E4 c g us vs) {n : Nat} {v : VV} (hv : vs[n]? = some v) : RV c g (p9 us n) v := by
 rw [LW]
 have : n < us.length := by rw [hr.1]; exact (List.getElem?_eq_some_iff.1 hv).1
 rw [List.getD_eq_getElem?_getD, List.getElem?_eq_getElem this]
 exact hr.2 n _ v (List.getElem?_eq_getElem this) hv
theorem m9 (l : List UV) (n : Nat) (u : UV) : (FK l n u).length = l.length := by
 induction l generalizing n with
 | nil => rfl
 | cons v l ih => cases n <;> simp [FK, ih]
theorem KM : ∀ (m i : Nat) (l : List Nat), BE m i l = true -> m <= l.length /\ ∀ j, j < m -> l[j]? = some (i + j)
 | 0, _, _, _ => ⟨Nat.zero_le _, fun j hj => by omega⟩
 | m + 1, i, a :: l, h => by
  simp only [BE, Bool.and_eq_true] at h
  obtain ⟨h1, h2⟩ := KM m (i + 1) l h.2
  refine ⟨by simp; omega, fun j hj => ?_⟩
  cases j with
  | zero => simp [B6 h.1]
  | succ j => simp only [List.getElem?_cons_succ]; rw [h2 j (by omega)]; congr 1; omega
 | m + 1, _, [], h => by simp [BE] at h
theorem WV {m : Nat} {ids : List Nat} (hm : BE m 0 ids = true) : K3 m c h (c.pick ids) h (fun _ => False) := by
 obtain ⟨h1, h2⟩ := KM m 0 ids hm
 refine ⟨h1, fun o ho => ?_, fun _ h => h, Nat.le_refl _, fun _ _ h _ => h, fun _ k h => ⟨k, h, rfl⟩, fun _ es h => ⟨es, h⟩, fun _ h => .inl h, fun o f hf => ?_, fun o f ho hf => by
  have := h2 o ho
  rw [Nat.zero_add] at this
  simpa only [Cx.pick, this] using hf⟩
 ·have := h2 o ho
  rw [Nat.zero_add] at this
  exact Cx.F9 this
 ·obtain ⟨p, _, hp⟩ := Cx.An ⟨o, hf⟩
  exact .inr ⟨p, hp⟩
theorem GP (ids : List Nat) (e : R1) (t : Nat) : R1.get (UV.E6 ids e) t = (R1.get e t).pick ids := by
 induction e generalizing t with
 | nil => simp [UV.E6, R1.get, UV.pick]
 | cons v e ih => cases t with
  | zero => simp [UV.E6, R1.get]
  | succ t => simp [UV.E6, R1.get, ih]
theorem Fk : ∀ (k : List Bool) (e : R1) (t : Nat), R1.get (FY k e) t = R1.get e t \/ R1.get (FY k e) t = .undef
 | [], e, t => by cases e <;> exact .inr (by simp [FY, R1.get])
 | true :: k, [], 0 => .inr rfl
 | false :: k, [], 0 => .inr rfl
 | true :: k, [], t + 1 => by simpa [FY, R1.get] using Fk k [] t
 | false :: k, [], t + 1 => by simpa [FY, R1.get] using Fk k [] t
 | true :: k, v :: e, 0 => .inl rfl
 | false :: k, v :: e, 0 => .inr rfl
 | true :: k, v :: e, t + 1 => by simpa [FY, R1.get] using Fk k e t
 | false :: k, v :: e, t + 1 => by simpa [FY, R1.get] using Fk k e t
theorem K3.mono {m : Nat} {c' : Cx} {h' : A0} {T T1 : Nat -> Prop} (hL : K3 m c h c' h' T) (hT : ∀ f, T f -> T1 f) : K3 m c h c' h' T1 :=
 ⟨hL.n, hL.ρ, hL.K, hL.next, fun b o hb hn => hL.same b o hb (fun ht => hn (hT _ ht)), hL.Q1, hL.mp, hL.Gf, hL.n8, hL.Aa⟩
theorem A6.Mp {g : VG} {e : R1} {e' : Env} (he : A6 c g e e') (t : Nat) {u : UV} (hu : RV c g u (Env.get e' t)) : A6 c g (e.set t u) e' := by
 intro q
 rw [R1.ER]
 split
 ·rename_i hq; subst hq; exact hu
 ·exact he q
theorem RT (hs : T3 c h s) (B0 : List FT) (T : Nat -> Prop) : T3 (c.add .nilslice BF) h (s.push (.row B0 [])) /\ u0 c h (c.add .nilslice BF) h T /\ RV (c.add .nilslice BF) h.get (.own s.len) .nilslice := by
 refine ⟨hs.add hs.wf (Nat.le_refl _) (fun _ _ h => h) (fun f e => by cases e) (.W7 B0), hs.s9 _ _ (Nat.le_refl _) (fun _ _ h => h) (fun f e => by cases e) T, .own _ _ ?_ ?_ (.inl rfl)⟩
 ·show s.len < c.n + 1; rw [hs.len]; exact Nat.lt_succ_self _
 ·show (if s.len = c.n then _ else _) = _; rw [if_pos hs.len]
theorem jS (hs : T3 c h s) (B0 : List FT) (T : Nat -> Prop) : T3 (c.add (.tuple [.nilslice]) BF) h (s.push (.p0 B0 [] none)) /\ u0 c h (c.add (.tuple [.nilslice]) BF) h T /\ RV (c.add (.tuple [.nilslice]) BF) h.get (.X0 s.len) .nilslice := by
 refine ⟨hs.add hs.wf (Nat.le_refl _) (fun _ _ h => h) (fun f e => by cases e) (.B8 B0), hs.s9 _ _ (Nat.le_refl _) (fun _ _ h => h) (fun f e => by cases e) T, .X0 _ _ [] ?_ ?_ (.inl rfl)⟩
 ·show s.len < c.n + 1; rw [hs.len]; exact Nat.lt_succ_self _
 ·show (if s.len = c.n then _ else _) = _; rw [if_pos hs.len]
theorem I9 (hs : T3 c h s) {o : Nat} {cs Rn : List UV} (ho : s.get o = .obj cs) (hl : Rn.length = cs.length) (hc : ∀ vs, E4 c h.get cs vs -> E4 c h.get Rn vs) : T3 c h (s.T8 o (.obj Rn)) := by
 have B2 := hs.obj o
 rw [ho] at B2
 generalize hv : c.ρ o = v at B2
 generalize hf : c.φ o = fm at B2
 cases B2 with
 | obj _ b k xs hg P8 hz B2 CU hx hr =>
  refine hs.BK hf hs.wf (u0.refl _ _ _) ?_
  rw [hv]
  exact .obj Rn b k xs hg P8 (by rw [hl]; exact hz) B2 CU hx (hc xs hr)
theorem bN (hs : T3 c h s) {p : Nat} {B0 : List FT} {es : List (List D)} (F4 : rowOf (s.get p) = some (B0, es)) {v : VV} (hr : RV c h.get (.own p) v) :
  ∃ c1, T3 c1 h (W4 s (.own p)) /\ u0 c h c1 h (fun _ => False) /\ RV c1 h.get (.fz B0 es false) v := by
 obtain ⟨c1, s1, l1, n1, r1, p1, d1⟩ := W9 hs (.own p)
 exact ⟨c1, s1, l1, .fz B0 es false v (d1 v hr (.row 0 B0) (.row es) (by simp only [DS, F4, FT.P6])) (fun e => by cases e)⟩
theorem DX {c2 : Cx} {g g2 : VG} (TG : ∀ {u : UV} {v : VV}, RV c g u v -> RV c2 g2 u v) : ∀ (p : List Nat) {v : UV} {x : VV}, RV c g v x -> ∃ y, RV c g (Vu v p) y /\ (Vu v p ≠ .undef -> ∀ u, RV c2 g2 u y -> RV c2 g2 (HN v p u) x) := by
 intro p
 induction p with
 | nil => intro v x hr; exact ⟨x, hr, fun _ u hu => hu⟩
 | cons i p ih =>
  intro v x hr
  have lists : ∀ (cs : List UV) (vs : List VV), E4 c g cs vs -> ∃ y, RV c g (Vu (p9 cs i) p) y /\ (Vu (p9 cs i) p ≠ .undef -> ∀ u, RV c2 g2 u y -> E4 c2 g2 (FK cs i (HN (p9 cs i) p u)) vs) := by
   intro cs vs hl
   have Iu : E4 c2 g2 cs vs := ⟨hl.1, fun j a b ha hb => TG (hl.2 j a b ha hb)⟩
   cases hv : vs[i]? with
   | none =>
    have hn : p9 cs i = .undef := by
     rw [LW, List.getD_eq_getElem?_getD, List.getElem?_eq_none (by rw [hl.1]; exact List.getElem?_eq_none_iff.1 hv)]; rfl
    rw [hn]
    exact ⟨.I2, by cases p <;> exact .undef _, fun h => absurd (by cases p <;> rfl) h⟩
   | some w =>
    obtain ⟨y, y1, y2⟩ := ih (G9 hl hv)
    exact ⟨y, y1, fun Y3 u hu => G8 Iu i (fun v' KW => by rw [hv] at KW; cases KW; exact y2 Y3 u hu)⟩
  cases v with
  | agg cs =>
   cases hr with
   | agg _ vs hl hp =>
    obtain ⟨y, y1, y2⟩ := lists cs vs ⟨hl, hp⟩
    exact ⟨y, y1, fun Y3 u hu => RV.OB (y2 Y3 u hu)⟩
  | tuple cs =>
   cases hr with
   | tuple _ vs hl hp =>
    obtain ⟨y, y1, y2⟩ := lists cs vs ⟨hl, hp⟩
    exact ⟨y, y1, fun Y3 u hu => RV.tuple' (y2 Y3 u hu)⟩
  | _ => exact ⟨.I2, .undef _, fun h => absurd rfl h⟩
theorem Ja {p x : Nat} : ∀ {l : List Nat}, x ∈ TV p l -> x ∈ l /\ x ≠ p
 | [], h => by cases h
 | a :: l, h => by
  unfold TV at h
  split at h
  ·obtain ⟨h1, h2⟩ := Ja h
   exact ⟨List.mem_cons_of_mem _ h1, h2⟩
  ·rename_i hb
   rcases List.mem_cons.1 h with rfl | h
   ·exact ⟨List.mem_cons_self, by rintro rfl; rw [Nat.beq_refl] at hb; cases hb⟩
   ·obtain ⟨h1, h2⟩ := Ja h
    exact ⟨List.mem_cons_of_mem _ h1, h2⟩
def Cx.more (c : Cx) (f : Nat) : Cx := ⟨c.n, c.ρ, fun x => c.K x \/ x = f, c.φ⟩
theorem RV.az {c c2 : Cx} {g : VG} (hn : c.n = c2.n) (hρ : c.ρ = c2.ρ) (hK : ∀ f, c.K f -> c2.K f) {u : UV} {v : VV} (hr : RV c g u v) : RV c2 g u v := by
 have hk : Ae g c.K g c2.K := ⟨fun _ _ h _ => h, hK⟩
 induction hr with
 | undef v => exact .undef v
 | bool b => exact .bool b
 | int k n => exact .int k n
 | str s => exact .str s
 | I2 => exact .I2
 | ptr o f b ho h => exact .ptr o f b (by rw [<- hn]; exact ho) (by rw [<- hρ]; exact h)
 | m7 B0 o g n j f b ho h hj => exact .m7 B0 o g n j f b (by rw [<- hn]; exact ho) (by rw [<- hρ]; exact h) hj
 | u7 o i f b i0 n cp z ho h hi => exact .u7 o i f b i0 n cp z (by rw [<- hn]; exact ho) (by rw [<- hρ]; exact h) hi
 | AX B0 es i f b i0 n cp z h hi => exact .AX B0 es i f b i0 n cp z (h.keep hk) hi
 | nilslice => exact .nilslice
 | own o v ho h hv => exact .own o v (by rw [<- hn]; exact ho) (by rw [<- hρ]; exact h) hv
 | fz B0 es cut v h hc => exact .fz B0 es cut v (h.keep hk) hc
 | nn B0 es v h hv => exact .nn B0 es v (h.keep hk) hv
 | A3 => exact .A3
 | map o b ho h => exact .map o b (by rw [<- hn]; exact ho) (by rw [<- hρ]; exact h)
 | D3 => exact .D3
 | func f => exact .func f
 | pz B0 d v h => exact .pz B0 d v (h.keep hk)
 | pn B0 ds f b h => exact .pn B0 ds f b (h.keep hk)
 | Bn ts B0 d v h => exact .Bn ts B0 d v (h.keep hk)
 | I1 => exact .I1
 | X0 o v ps ho h hv => exact .X0 o v ps (by rw [<- hn]; exact ho) (by rw [<- hρ]; exact h) hv
 | pe o i b i0 n cp z ps ho h hi => exact .pe o i b i0 n cp z ps (by rw [<- hn]; exact ho) (by rw [<- hρ]; exact h) hi
 | pp o i b sv ps ho h hp => exact .pp o i b sv ps (by rw [<- hn]; exact ho) (by rw [<- hρ]; exact h) hp
 | iface t u v _ ih => exact .iface t u v ih
 | agg us vs hl _ ih => exact .agg us vs hl ih
 | tuple us vs hl _ ih => exact .tuple us vs hl ih
theorem RO.jd {c c2 : Cx} {g : VG} (hn : c.n = c2.n) (hρ : c.ρ = c2.ρ) (hK : ∀ f, c.K f -> c2.K f) {u : UO} {v : VV} {fm : Nat -> Prop} (hr : RO c g u v fm) : RO c2 g u v fm := by
 have hk : Ae g c.K g c2.K := ⟨fun _ _ h _ => h, hK⟩
 cases hr with
 | obj cs b k xs hg P8 hz B2 CU hx hr => exact .obj cs b k xs hg P8 hz B2 CU hx ⟨hr.1, fun i u v a b => (hr.2 i u v a b).az hn hρ hK⟩
 | W7 B0 => exact .W7 B0
 | B7 B0 b i z k hg UK hz w6 h0 hi => exact .B7 B0 b i z k hg (hK _ UK) hz w6 h0 hi
 | row B0 es b i n cp z k hg B2 hz w6 h0 hn AV hs => exact .row B0 es b i n cp z k hg B2 hz w6 h0 hn AV (hs.keep hk)
 | old B0 es v h => exact .old B0 es v (h.keep hk)
 | map kf ag B0 es b z8 hg Ze hl h =>
  refine .map kf ag B0 es b z8 hg Ze hl fun i p q a b => ?_
  obtain ⟨h1, xs, h2, h3⟩ := h i p q a b
  exact ⟨h1.keep hk, xs, h2, h3.keep hk⟩
 | B8 B0 => exact .B8 B0
 | p0 B0 es x b i n cp z k ps fs hg B2 hz w6 h0 hn AV U8 hc Yq hE => exact .p0 B0 es x b i n cp z k ps fs hg B2 hz w6 h0 hn AV U8 hc Yq (hE.keep hk fun _ _ _ _ h => h)
 | X8 v => exact .X8 v
 | gone v hv => exact .gone v hv
theorem T3.more (hs : T3 c h s) {f : Nat} (hf : ∀ o, ¬ c.φ o f) (R3 : f < h.next) : T3 (c.more f) h s :=
 ⟨hs.wf, hs.len, fun o => RO.jd (c := c) (c2 := c.more f) rfl rfl (fun x (h : c.K x) => (Or.inl h : c.K x \/ x = f)) (hs.obj o), hs.Ax, fun o x ho hK => by
  rcases hK with hK | rfl
  ·exact hs.EJ o x ho hK
  ·exact hf o ho, hs.s8, fun x hx => by
  rcases hx with hx | rfl
  ·exact hs.Rc x hx
  ·exact R3, hs.Xn⟩
theorem YZ {us : List UV} (hn : KP us = true) : ∀ o, UV.own o ∉ us := by
 induction us with
 | nil => intro o h; cases h
 | cons u us ih =>
  have h2 : KP us = true /\ ∀ o, u ≠ .own o := by
   cases u <;> simp [KP] at hn ⊢ <;> exact hn
  intro o h
  rcases List.mem_cons.1 h with h | h
  ·exact h2.2 o h.symm
  ·exact ih h2.1 o h
theorem Xs {us : List UV} {vs : List VV} {B0 : List FT} {ds : List D} (hn : KP us = true) (hr : E4 c h.get us vs) (hd : D8 s B0 us = some ds) : Cl h.get c.K B0 ds vs := by
 refine LL hd hr.1 (fun i u v hu hv ft d hd => ?_)
 have Ds : ∀ o, u ≠ .own o := fun o e => YZ hn o (e ▸ List.mem_of_getElem? hu)
 exact IA Ds (hr.2 i u v hu hv) hd
theorem PB {g : VG} {m : Nat} {ts : List Nat} {B0 : List FT} {u : UV} {d : D} {v : VV} (h : Uh m s ts B0 u = some (d, none)) (hr : RV c g u v) : RD g c.K (.EN ts B0) d v := by
 unfold Uh at h
 split at h
 ·simp only [U0, Prod.mk.injEq, and_true] at h; subst h; cases hr; exact .OV _ _
 ·split at h
  ·rename_i hk
   simp only [U0, Prod.mk.injEq, and_true] at h; subst h
   simp only [Bool.and_eq_true] at hk
   have := FT.J0 _ _ hk.2; subst this
   have := GN _ _ hk.1; subst this
   cases hr with
   | Bn _ _ _ _ M3 => exact M3
  ·cases h
 ·rename_i t u'
  cases hr with
  | iface _ _ v' TB =>
   split at h
   ·rename_i W2 hl
    split at h
    ·split at h
     ·split at h
      ·simp at h
      ·cases h
     ·cases h
    ·split at h
     ·rename_i d' hp
      simp only [U0, Prod.mk.injEq, and_true] at h; subst h
      exact .EN _ _ t _ d' v' hl (QD hp TB)
     ·cases h
   ·rename_i ft _ hl
    split at h
    ·rename_i d' hp
     simp only [U0, Prod.mk.injEq, and_true] at h; subst h
     exact .EN _ _ t _ d' v' hl (QD hp TB)
    ·cases h
   ·cases h
 ·cases h
theorem PA {m p : Nat} {ts : List Nat} {B0 : List FT} {u : UV} {d : D} (h : Uh m s ts B0 u = some (d, some p)) :
  ∃ t W2 cs ds, u = .iface t (.ptr p 0) /\ Fa ts B0 t = some (.ptr W2) /\ s.get p = .obj cs /\ D8 s W2 cs = some ds /\ KP cs = true /\ d = .row [[.int t, .row [ds]]] := by
 unfold Uh at h
 split at h
 ·simp at h
 ·split at h <;> simp at h
 ·rename_i t u'
  split at h
  ·rename_i W2 hl
   split at h
   ·rename_i q
    split at h
    ·rename_i cs Q3
     split at h
     ·rename_i ds cX hb
      simp only [U0, Prod.mk.injEq] at h
      obtain ⟨rfl, rfl⟩ := h
      simp only [Bool.and_eq_true] at hb
      exact ⟨t, W2, cs, ds, rfl, hl, Q3, cX, hb.2, rfl⟩
     ·cases h
    ·cases h
   ·split at h <;> simp at h
  ·split at h <;> simp at h
  ·cases h
 ·cases h
theorem NJ (ids : List Nat) (us : List UV) (n : Nat) : p9 (UV.E6 ids us) n = (p9 us n).pick ids := by
 induction us generalizing n with
 | nil => simp [UV.E6, p9, UV.pick]
 | cons v us ih => cases n with
  | zero => simp [UV.E6, p9]
  | succ n => simp [UV.E6, p9, ih]
theorem Xz {c2 : Cx} {g : VG} {ids : List Nat} (TG : ∀ {u : UV} {v : VV}, RV c g u v -> RV c2 g (u.pick ids) v) : ∀ (p : List Nat) {v : UV} {x : VV}, RV c g v x -> ∃ y, RV c g (Vu v p) y /\ (Vu v p ≠ .undef -> ∀ u, RV c2 g u y -> RV c2 g (HN (v.pick ids) p u) x) := by
 intro p
 induction p with
 | nil => intro v x hr; exact ⟨x, hr, fun _ u hu => by cases hv : v.pick ids <;> exact hu⟩
 | cons i p ih =>
  intro v x hr
  have lists : ∀ (cs : List UV) (vs : List VV), E4 c g cs vs -> ∃ y, RV c g (Vu (p9 cs i) p) y /\ (Vu (p9 cs i) p ≠ .undef -> ∀ u, RV c2 g u y -> E4 c2 g (FK (UV.E6 ids cs) i (HN (p9 (UV.E6 ids cs) i) p u)) vs) := by
   intro cs vs hl
   have Iu : E4 c2 g (UV.E6 ids cs) vs := by
    refine ⟨by rw [PE]; exact hl.1, fun j a b ha hb => ?_⟩
    have hj : j < cs.length := by rw [hl.1]; exact (List.getElem?_eq_some_iff.1 hb).1
    have e1 : p9 (UV.E6 ids cs) j = a := by rw [LW, List.getD_eq_getElem?_getD, ha]; rfl
    rw [<- e1, NJ]
    exact TG (G9 hl hb)
   cases hv : vs[i]? with
   | none =>
    have hn : p9 cs i = .undef := by
     rw [LW, List.getD_eq_getElem?_getD, List.getElem?_eq_none (by rw [hl.1]; exact List.getElem?_eq_none_iff.1 hv)]; rfl
    rw [hn]
    exact ⟨.I2, by cases p <;> exact .undef _, fun h => absurd (by cases p <;> rfl) h⟩
   | some w =>
    obtain ⟨y, y1, y2⟩ := ih (G9 hl hv)
    exact ⟨y, y1, fun Y3 u hu => G8 Iu i (fun v' KW => by rw [hv] at KW; cases KW; rw [NJ]; exact y2 Y3 u hu)⟩
  cases v with
  | agg cs =>
   cases hr with
   | agg _ vs hl hp =>
    obtain ⟨y, y1, y2⟩ := lists cs vs ⟨hl, hp⟩
    exact ⟨y, y1, fun Y3 u hu => by simp only [UV.pick, HN]; exact RV.OB (y2 Y3 u hu)⟩
  | tuple cs =>
   cases hr with
   | tuple _ vs hl hp =>
    obtain ⟨y, y1, y2⟩ := lists cs vs ⟨hl, hp⟩
    exact ⟨y, y1, fun Y3 u hu => by simp only [UV.pick, HN]; exact RV.tuple' (y2 Y3 u hu)⟩
  | _ => exact ⟨.I2, .undef _, fun h => absurd rfl h⟩
theorem WL (hs : T3 c h s) {m p : Nat} (hm : m <= c.n) {ids : List Nat} (I5 : (EI ids && Iq ids s.len && BE m 0 ids) = true) (hp : p ∉ ids) {cs : List UV} {B0 : List FT} {ds : List D} (Q3 : s.get p = .obj cs) (hn : KP cs = true) (hd : D8 s B0 cs = some ds) :
  ∃ c2, T3 c2 h (s.pick ids ids) /\ K3 m c h c2 h c.L7 /\ (∀ {u : UV} {v : VV}, RV c h.get u v -> RV c2 h.get (u.pick ids) v) /\ (∀ v, RV c h.get (.ptr p 0) v -> RD h.get c2.K (.ptr B0) (.row [ds]) v) /\
   (∀ j o, ids[j]? = some o -> c2.ρ j = c.ρ o) /\ (∀ f, c.K f -> c2.K f) := by
 simp only [Bool.and_eq_true] at I5
 have IY := CO I5.1.1
 have B2 := hs.obj p
 rw [Q3] at B2
 generalize hv : c.ρ p = v at B2
 generalize hf : c.φ p = fm at B2
 cases B2 with
 | obj _ b k xs hg P8 hz B2 CU hx hr =>
  have UD := hs.pick IY
  have Ds : ∀ o, ¬ (c.pick ids).φ o k.Q1 := by
   intro o ho
   obtain ⟨q, hq, xL⟩ := Cx.An ⟨o, ho⟩
   have := hs.Ax q p _ xL (L5 hf)
   subst this
   exact hp hq
  have TG : ∀ {u : UV} {v : VV}, RV c h.get u v -> RV ((c.pick ids).more k.Q1) h.get (u.pick ids) v := fun hr => RV.az (c := c.pick ids) (c2 := (c.pick ids).more k.Q1) rfl rfl (fun f (hf : (c.pick ids).K f) => (Or.inl hf : (c.pick ids).K f \/ f = k.Q1)) hr.pick
  refine ⟨(c.pick ids).more k.Q1, UD.more Ds (hs.s8 p _ (L5 hf)), ?_, TG, ?_, fun j o hj => Cx.F9 hj, fun f hf => Or.inl hf⟩
  ·have h1 : K3 m c h (c.pick ids) h c.L7 := (WV I5.2).mono (fun _ h => h.elim)
   refine ⟨h1.n, h1.ρ, fun f hf => Or.inl (h1.K f hf), h1.next, h1.same, h1.Q1, h1.mp, fun f hf => ?_, h1.n8, h1.Aa⟩
   rcases hf with hf | rfl
   ·exact h1.Gf f hf
   ·exact .inr (.inr ⟨p, L5 hf⟩)
  ·intro w hw
   cases hw with
   | ptr _ _ b' ho H3 =>
    rw [hv] at H3; cases H3
    have VX := Xs hn hr hd
    have hk : Ae h.get c.K h.get ((c.pick ids).more k.Q1).K := ⟨fun _ _ h _ => h, fun f hf => Or.inl hf⟩
    have VX := VX.keep hk
    exact .ptr B0 ds b k xs hg (Or.inr rfl) P8 VX.len VX.Ar VX.at_
theorem OA (s : O0) (p : Nat) : p ∉ N7 s p := fun h => (Ja h).2 rfl
theorem Yu {m : Nat} {g : Gh} {e e2 : R1} {s2 : O0} {e' : Env} (hm : m <= c.n) (hs : T3 c h s) (he : A6 c h.get e e') (hg : CX m g (e, s) = some (e2, s2)) : ∃ c2, T3 c2 h s2 /\ A6 c2 h.get e2 e' /\ K3 m c h c2 h c.L7 := by
 have base : ∃ c2, T3 c2 h s /\ A6 c2 h.get e e' /\ K3 m c h c2 h c.L7 := ⟨c, hs, he, K3.refl hm _ _⟩
 cases g with
 | live k =>
  simp only [CX, U0, Prod.mk.injEq] at hg
  obtain ⟨rfl, rfl⟩ := hg
  refine ⟨c, hs, fun t => ?_, K3.refl hm _ _⟩
  rcases Fk k e t with h1 | h1 <;> rw [h1]
  ·exact he t
  ·exact .undef _
 | keep ids =>
  simp only [CX] at hg
  split at hg
  ·rename_i I5
   simp only [Bool.and_eq_true] at I5
   simp only [U0, Prod.mk.injEq] at hg
   obtain ⟨rfl, rfl⟩ := hg
   exact ⟨c.pick ids, hs.pick (CO I5.1.1), fun t => by rw [GP]; exact (he t).pick, (WV I5.2).mono (fun _ h => h.elim)⟩
  ·cases hg
 | gc =>
  simp only [CX] at hg
  split at hg
  ·rename_i I5
   simp only [Bool.and_eq_true] at I5
   simp only [U0, Prod.mk.injEq] at hg
   obtain ⟨rfl, rfl⟩ := hg
   exact ⟨c.pick _, hs.pick (CO I5.1.1), fun t => by rw [GP]; exact (he t).pick, (WV I5.2).mono (fun _ h => h.elim)⟩
  ·cases hg
 | qF t B0 =>
  simp only [CX] at hg
  split at hg
  ·rename_i ht
   simp only [U0, Prod.mk.injEq] at hg
   obtain ⟨rfl, rfl⟩ := hg
   obtain ⟨a1, a2, a3⟩ := RT hs B0 (fun _ => False)
   refine ⟨_, a1, (he.O4 a2 (fun _ _ h => h)).Mp t ?_, (a2.mono (fun _ h => h.elim)).Ug hm⟩
   have := he t
   rw [ht] at this
   generalize Env.get e' t = v at this ⊢
   cases this
   exact a3
  ·simp only [U0, Prod.mk.injEq] at hg; obtain ⟨rfl, rfl⟩ := hg; exact base
 | FN o f B0 =>
  simp only [CX] at hg
  split at hg
  ·rename_i cs Q3
   split at hg
   ·rename_i hf
    simp only [U0, Prod.mk.injEq] at hg
    obtain ⟨rfl, rfl⟩ := hg
    obtain ⟨a1, a2, a3⟩ := jS hs B0 (fun _ => False)
    have R3 : o < s.len := O0.CR (by rw [Q3]; simp)
    have O8 : (s.push (.p0 B0 [] none)).get o = .obj cs := by rw [O0.V0, if_neg (by omega)]; exact Q3
    refine ⟨_, I9 a1 O8 (m9 _ _ _) (fun vs Gr => ?_), he.O4 a2 (fun _ _ h => h), (a2.mono (fun _ h => h.elim)).Ug hm⟩
    refine G8 Gr f (fun v hv => ?_)
    have := G9 Gr hv
    rw [hf] at this
    cases this
    exact a3
   ·simp only [U0, Prod.mk.injEq] at hg; obtain ⟨rfl, rfl⟩ := hg; exact base
  ·simp only [U0, Prod.mk.injEq] at hg; obtain ⟨rfl, rfl⟩ := hg; exact base
 | bb o f =>
  simp only [CX] at hg
  split at hg
  ·rename_i cs Q3
   split at hg
   ·rename_i p hf
    split at hg
    ·rename_i B0 es uk F4
     simp only [U0, Prod.mk.injEq] at hg
     obtain ⟨rfl, rfl⟩ := hg
     have B2 := hs.obj p
     rw [F4] at B2
     have Rf : ∀ b i f, c.ρ p ≠ .ptr b i f := by
      intro b i f e
      rw [e] at B2
      cases B2
     have BV : RO ((c.drop p).add (c.ρ p) (c.φ p)) h.get (.row B0 es) (c.ρ p) (c.φ p) := by
      generalize Kb : (c.drop p).add (c.ρ p) (c.φ p) = c2
      have hK : c2.K = c.K := by rw [<- Kb]; rfl
      clear Kb
      generalize c.ρ p = v at B2 ⊢
      generalize c.φ p = fm at B2 ⊢
      cases B2 with
      | W7 => exact .W7 B0
      | B7 _ b i z k hg xy hz w6 h0 hi => exact .B7 B0 b i z k hg (by rw [hK]; exact xy) hz w6 h0 hi
      | row _ _ b i n cp z k hg B2 hz w6 h0 hn AV fh => exact .row B0 es b i n cp z k hg B2 hz w6 h0 hn AV (by rw [hK]; exact fh)
     obtain ⟨a1, a2⟩ := hs.Ei (T := fun _ => False) Rf (G7.refl h _) (fun _ q => q.elim) hs.wf (fun f hf => .inl hf) BV
     have R3 : o < s.len := O0.CR (by rw [Q3]; simp)
     have It : ¬ o = p := by intro e; subst e; rw [Q3] at F4; cases F4
     have O8 : ((s.T8 p .gone).push (.row B0 es)).get o = .obj cs := by
      rw [O0.V0, O0.V4, if_neg (by omega), O0.C4, if_neg (fun q => It q.1)]; exact Q3
     refine ⟨_, I9 a1 O8 (m9 _ _ _) (fun vs Gr => ?_), he.O4 a2 (fun _ _ h => h), (a2.mono (fun _ h => h.elim)).Ug hm⟩
     refine G8 Gr f (fun v hv => ?_)
     have := G9 Gr hv
     rw [hf] at this
     cases this with
     | own _ _ ho hρ hv =>
      have KX : p < c.n := by
       rw [<- hs.len]; exact O0.CR (by rw [F4]; simp)
      have e1 : ((c.drop p).add (c.ρ p) (c.φ p)).ρ p = c.ρ p := by
       show (if p = c.n then c.ρ p else c.ρ p) = _
       split <;> rfl
      refine .own _ _ ?_ ?_ hv
      ·show s.len < c.n + 1; rw [hs.len]; exact Nat.lt_succ_self _
      ·rw [<- hρ, e1]
       show (if s.len = c.n then c.ρ p else _) = _
       rw [if_pos hs.len]
    ·simp only [U0, Prod.mk.injEq] at hg; obtain ⟨rfl, rfl⟩ := hg; exact base
   ·rename_i p hf
    split at hg
    ·rename_i B0 es x uk F4
     simp only [U0, Prod.mk.injEq] at hg
     obtain ⟨rfl, rfl⟩ := hg
     have B2 := hs.obj p
     rw [F4] at B2
     have Rf : ∀ b i f, c.ρ p ≠ .ptr b i f := by
      intro b i f e
      rw [e] at B2
      cases B2
     have BV : RO ((c.drop p).add (c.ρ p) (c.φ p)) h.get (.p0 B0 es x) (c.ρ p) (c.φ p) := by
      generalize Kb : (c.drop p).add (c.ρ p) (c.φ p) = c2
      have hK : c2.K = c.K := by rw [<- Kb]; rfl
      clear Kb
      generalize c.ρ p = v at B2 ⊢
      generalize c.φ p = fm at B2 ⊢
      cases B2 with
      | B8 => exact .B8 B0
      | p0 _ _ _ b i n cp z k ps fs hg B2 hz w6 h0 hn AV U8 hc hf hE => exact .p0 B0 es x b i n cp z k ps fs hg B2 hz w6 h0 hn AV U8 hc hf (by rw [hK]; exact hE)
     obtain ⟨a1, a2⟩ := hs.Ei (T := fun _ => False) Rf (G7.refl h _) (fun _ q => q.elim) hs.wf (fun f hf => .inl hf) BV
     have R3 : o < s.len := O0.CR (by rw [Q3]; simp)
     have It : ¬ o = p := by intro e; subst e; rw [Q3] at F4; cases F4
     have O8 : ((s.T8 p .gone).push (.p0 B0 es x)).get o = .obj cs := by
      rw [O0.V0, O0.V4, if_neg (by omega), O0.C4, if_neg (fun q => It q.1)]; exact Q3
     refine ⟨_, I9 a1 O8 (m9 _ _ _) (fun vs Gr => ?_), he.O4 a2 (fun _ _ h => h), (a2.mono (fun _ h => h.elim)).Ug hm⟩
     refine G8 Gr f (fun v hv => ?_)
     have := G9 Gr hv
     rw [hf] at this
     cases this with
     | X0 _ _ ps ho hρ hv =>
      have e1 : ((c.drop p).add (c.ρ p) (c.φ p)).ρ p = c.ρ p := by
       show (if p = c.n then c.ρ p else c.ρ p) = _
       split <;> rfl
      refine .X0 _ _ ps ?_ ?_ hv
      ·show s.len < c.n + 1; rw [hs.len]; exact Nat.lt_succ_self _
      ·rw [<- hρ, e1]
       show (if s.len = c.n then c.ρ p else _) = _
       rw [if_pos hs.len]
    ·simp only [U0, Prod.mk.injEq] at hg; obtain ⟨rfl, rfl⟩ := hg; exact base
   ·simp only [U0, Prod.mk.injEq] at hg; obtain ⟨rfl, rfl⟩ := hg; exact base
  ·simp only [U0, Prod.mk.injEq] at hg; obtain ⟨rfl, rfl⟩ := hg; exact base
 | X3 o f B0 =>
  simp only [CX] at hg
  split at hg
  ·rename_i cs Q3
   split at hg
   ·rename_i hf
    simp only [U0, Prod.mk.injEq] at hg
    obtain ⟨rfl, rfl⟩ := hg
    obtain ⟨a1, a2, a3⟩ := RT hs B0 (fun _ => False)
    have R3 : o < s.len := O0.CR (by rw [Q3]; simp)
    have O8 : (s.push (.row B0 [])).get o = .obj cs := by rw [O0.V0, if_neg (by omega)]; exact Q3
    refine ⟨_, I9 a1 O8 (m9 _ _ _) (fun vs Gr => ?_), he.O4 a2 (fun _ _ h => h), (a2.mono (fun _ h => h.elim)).Ug hm⟩
    refine G8 Gr f (fun v hv => ?_)
    have := G9 Gr hv
    rw [hf] at this
    cases this
    exact a3
   ·simp only [U0, Prod.mk.injEq] at hg; obtain ⟨rfl, rfl⟩ := hg; exact base
  ·simp only [U0, Prod.mk.injEq] at hg; obtain ⟨rfl, rfl⟩ := hg; exact base
 | wR t B0 =>
  simp only [CX] at hg
  split at hg
  ·rename_i ht
   simp only [U0, Prod.mk.injEq] at hg
   obtain ⟨rfl, rfl⟩ := hg
   refine ⟨c, hs, he.Mp t ?_, K3.refl hm _ _⟩
   have := he t
   rw [ht] at this
   generalize Env.get e' t = v at this ⊢
   cases this
   exact .fz B0 [] false _ (.P5 0 B0) (fun e => by cases e)
  ·rename_i W2 es cut ht
   simp only [U0, Prod.mk.injEq] at hg
   obtain ⟨rfl, rfl⟩ := hg
   refine ⟨c, hs, he.Mp t ?_, K3.refl hm _ _⟩
   have := he t
   rw [ht] at this
   cases this with
   | fz _ _ _ _ M3 hc => exact .fz W2 es false _ M3 (fun e => by cases e)
  ·rename_i o ht
   split at hg
   ·rename_i W2 es F4
    simp only [U0, Prod.mk.injEq] at hg
    obtain ⟨rfl, rfl⟩ := hg
    have := he t
    rw [ht] at this
    obtain ⟨c1, a1, a2, a3⟩ := bN hs F4 this
    exact ⟨c1, a1, (he.O4 a2 (fun _ _ h => h)).Mp t a3, (a2.mono (fun _ h => h.elim)).Ug hm⟩
   ·cases hg
  ·simp only [U0, Prod.mk.injEq] at hg; obtain ⟨rfl, rfl⟩ := hg; exact base
 | S3 o f B0 =>
  simp only [CX] at hg
  split at hg
  ·rename_i cs Q3
   split at hg
   ·rename_i hf
    simp only [U0, Prod.mk.injEq] at hg
    obtain ⟨rfl, rfl⟩ := hg
    refine ⟨c, I9 hs Q3 (m9 _ _ _) (fun vs Gr => G8 Gr f (fun v hv => ?_)), he, K3.refl hm _ _⟩
    have := G9 Gr hv
    rw [hf] at this
    cases this
    exact .fz B0 [] false _ (.P5 0 B0) (fun e => by cases e)
   ·rename_i W2 es cut hf
    simp only [U0, Prod.mk.injEq] at hg
    obtain ⟨rfl, rfl⟩ := hg
    refine ⟨c, I9 hs Q3 (m9 _ _ _) (fun vs Gr => G8 Gr f (fun v hv => ?_)), he, K3.refl hm _ _⟩
    have := G9 Gr hv
    rw [hf] at this
    cases this with
    | fz _ _ _ _ M3 hc => exact .fz W2 es false _ M3 (fun e => by cases e)
   ·rename_i p hf
    split at hg
    ·rename_i W2 es F4
     simp only [U0, Prod.mk.injEq] at hg
     obtain ⟨rfl, rfl⟩ := hg
     
     have B2 := hs.obj o
     rw [Q3] at B2
     obtain ⟨c1, s1, l1, n1, r1, p1, d1⟩ := W9 hs (.own p)
     have O8 : (W4 s (.own p)).get o = .obj cs := by
      by_cases It : p = o
      ·subst It; rw [Q3] at F4; cases F4
      ·rw [Kg (by intro e; cases e; exact It rfl)]; exact Q3
     generalize hv : c.ρ o = v at B2
     generalize w8 : c.φ o = fm at B2
     cases B2 with
     | obj _ b k xs cU P8 hz lp CU hx hr =>
      refine ⟨c1, ?_, he.O4 l1 (fun _ _ h => h), (l1.mono (fun _ h => h.elim)).Ug hm⟩
      have lq := s1.obj o
      rw [O8, r1, hv] at lq
      generalize uY : c1.φ o = fm1 at lq
      cases lq with
      | obj _ _ k1 xs1 mL mQ Wn hrok1 hso1 JP UC =>
       rw [cU] at mL
       simp only [U0, F2.cells.injEq] at mL
       subst mL
       rw [P8] at mQ
       simp only [List.cons.injEq, and_true] at mQ
       subst mQ
       refine s1.BK uY s1.wf (u0.refl _ _ _) ?_
       rw [r1, hv]
       refine .obj _ b k xs cU P8 (by rw [m9]; exact hz) lp CU hx (G8 UC f (fun w hw => ?_))
       have h2 := G9 hr hw
       rw [hf] at h2
       exact .fz W2 es false w (d1 w h2 (.row 0 W2) (.row es) (by simp only [DS, F4, FT.P6])) (fun e => by cases e)
    ·cases hg
   ·simp only [U0, Prod.mk.injEq] at hg; obtain ⟨rfl, rfl⟩ := hg; exact base
  ·simp only [U0, Prod.mk.injEq] at hg; obtain ⟨rfl, rfl⟩ := hg; exact base
 | j9 t p B0 =>
  simp only [CX] at hg
  split at hg
  ·rename_i ht
   simp only [U0, Prod.mk.injEq] at hg
   obtain ⟨rfl, rfl⟩ := hg
   obtain ⟨a1, a2, a3⟩ := RT hs B0 (fun _ => False)
   obtain ⟨y, y1, y2⟩ := DX (g := h.get) (g2 := h.get) (fun hr => hr.O4 a2 (fun _ _ h => h)) p (he t)
   rw [ht] at y1 y2
   cases y1
   exact ⟨_, a1, (he.O4 a2 (fun _ _ h => h)).Mp t (y2 (by simp) _ a3), (a2.mono (fun _ h => h.elim)).Ug hm⟩
  ·simp only [U0, Prod.mk.injEq] at hg; obtain ⟨rfl, rfl⟩ := hg; exact base
 | V9 t p B0 =>
  simp only [CX] at hg
  split at hg
  ·rename_i ht
   simp only [U0, Prod.mk.injEq] at hg
   obtain ⟨rfl, rfl⟩ := hg
   obtain ⟨y, y1, y2⟩ := DX (c2 := c) (g := h.get) (g2 := h.get) (fun hr => hr) p (he t)
   rw [ht] at y1 y2
   cases y1
   exact ⟨c, hs, he.Mp t (y2 (by simp) _ (.fz B0 [] false _ (.P5 0 B0) (fun e => by cases e))), K3.refl hm _ _⟩
  ·rename_i W2 es cut ht
   simp only [U0, Prod.mk.injEq] at hg
   obtain ⟨rfl, rfl⟩ := hg
   obtain ⟨y, y1, y2⟩ := DX (c2 := c) (g := h.get) (g2 := h.get) (fun hr => hr) p (he t)
   rw [ht] at y1 y2
   cases y1 with
   | fz _ _ _ _ M3 hc => exact ⟨c, hs, he.Mp t (y2 (by simp) _ (.fz W2 es false _ M3 (fun e => by cases e))), K3.refl hm _ _⟩
  ·rename_i W2 es ht
   simp only [U0, Prod.mk.injEq] at hg
   obtain ⟨rfl, rfl⟩ := hg
   obtain ⟨y, y1, y2⟩ := DX (c2 := c) (g := h.get) (g2 := h.get) (fun hr => hr) p (he t)
   rw [ht] at y1 y2
   cases y1 with
   | nn _ _ _ M3 hv => exact ⟨c, hs, he.Mp t (y2 (by simp) _ (.fz W2 es false _ M3 (fun e => by cases e))), K3.refl hm _ _⟩
  ·rename_i o ht
   split at hg
   ·rename_i W2 es F4
    simp only [U0, Prod.mk.injEq] at hg
    obtain ⟨rfl, rfl⟩ := hg
    obtain ⟨c1, s1, l1, n1, r1, p1, d1⟩ := W9 hs (.own o)
    obtain ⟨y, y1, y2⟩ := DX (g := h.get) (g2 := h.get) (fun hr => hr.O4 l1 (fun _ _ h => h)) p (he t)
    rw [ht] at y1 y2
    exact ⟨c1, s1, (he.O4 l1 (fun _ _ h => h)).Mp t (y2 (by simp) _ (.fz W2 es false y (d1 y y1 (.row 0 W2) (.row es) (by simp only [DS, F4, FT.P6])) (fun e => by cases e))), (l1.mono (fun _ h => h.elim)).Ug hm⟩
   ·cases hg
  ·simp only [U0, Prod.mk.injEq] at hg; obtain ⟨rfl, rfl⟩ := hg; exact base
 | vh o f ts B0 =>
  simp only [CX] at hg
  split at hg
  ·rename_i cs Q3
   split at hg
   ·rename_i d hd
    simp only [U0, Prod.mk.injEq] at hg
    obtain ⟨rfl, rfl⟩ := hg
    refine ⟨c, I9 hs Q3 (m9 _ _ _) (fun vs Gr => ?_), he, K3.refl hm _ _⟩
    exact G8 Gr f (fun v hv => .Bn _ _ _ _ (PB hd (G9 Gr hv)))
   ·rename_i d p hd
    split at hg
    ·rename_i o2 I5 mJ
     simp only [U0, Prod.mk.injEq] at hg
     obtain ⟨rfl, rfl⟩ := hg
     obtain ⟨t, W2, ps, ds, hu, hl, tp, cX, Ds, rfl⟩ := PA hd
     obtain ⟨c2, r1, r2, r3, r4, r5, r6⟩ := WL hs hm I5 (OA s p) tp Ds cX
     have hj := S6 mJ
     have O8 : (s.pick (N7 s p) (N7 s p)).get o2 = .obj (UV.E6 (N7 s p) cs) := by
      rw [SS, hj]; simp only [Q3, UO.pick]
     have B2 := hs.obj o
     rw [Q3] at B2
     generalize hv : c.ρ o = v at B2
     generalize hf : c.φ o = fm at B2
     cases B2 with
     | obj _ b k xs hg P8 hz B2 CU hx hr =>
      refine ⟨c2, ?_, fun q => by rw [GP]; exact r3 (he q), r2⟩
      have BV := r1.obj o2
      rw [O8, r5 o2 o hj, hv] at BV
      generalize mP : c2.φ o2 = fm2 at BV
      cases BV with
      | obj _ b' k' kP Dt mS w6 lu hso' sI TB =>
       rw [hg] at Dt; cases Dt
       rw [P8] at mS
       simp only [List.cons.injEq, and_true] at mS; subst mS
       refine r1.BK mP r1.wf (u0.refl _ _ _) ?_
       rw [r5 o2 o hj, hv]
       refine .obj _ b k xs hg P8 (by rw [m9]; exact w6) B2 CU hx (G8 TB f (fun w hw => ?_))
       have ZX := G9 hr hw
       rw [hu] at ZX
       cases ZX with
       | iface _ _ w' oR => exact .Bn _ _ _ _ (.EN ts B0 t (.ptr W2) _ w' hl (r4 w' oR))
    ·cases hg
   ·cases hg
  ·cases hg
 | vf t q ts B0 =>
  simp only [CX] at hg
  split at hg
  ·rename_i d hd
   simp only [U0, Prod.mk.injEq] at hg
   obtain ⟨rfl, rfl⟩ := hg
   obtain ⟨y, y1, y2⟩ := DX (c2 := c) (g := h.get) (g2 := h.get) (fun hr => hr) q (he t)
   have Y3 : Vu (e.get t) q ≠ .undef := by intro e1; rw [e1] at hd; simp [Uh] at hd
   exact ⟨c, hs, he.Mp t (y2 Y3 _ (.Bn _ _ _ _ (PB hd y1))), K3.refl hm _ _⟩
  ·rename_i d p hd
   split at hg
   ·rename_i I5
    simp only [U0, Prod.mk.injEq] at hg
    obtain ⟨rfl, rfl⟩ := hg
    obtain ⟨t', W2, ps, ds, hu, hl, tp, cX, Ds, rfl⟩ := PA hd
    obtain ⟨c2, r1, r2, r3, r4, r5, r6⟩ := WL hs hm I5 (OA s p) tp Ds cX
    have Y3 : Vu (e.get t) q ≠ .undef := by intro e1; rw [e1] at hu; cases hu
    obtain ⟨y, y1, y2⟩ := Xz (g := h.get) r3 q (he t)
    rw [hu] at y1
    have xi : A6 c2 h.get (UV.E6 (N7 s p) e) e' := fun q => by rw [GP]; exact r3 (he q)
    cases y1 with
    | iface _ _ w hw => exact ⟨c2, r1, xi.Mp t (y2 Y3 _ (.Bn _ _ _ _ (.EN ts B0 t' (.ptr W2) _ w hl (r4 w hw)))), r2⟩
   ·cases hg
  ·cases hg
theorem At {m : Nat} : ∀ {gs : List Gh} {c : Cx} {h : A0} {s : O0} {e e2 : R1} {s2 : O0} {e' : Env}, m <= c.n -> T3 c h s -> A6 c h.get e e' -> Fj m gs (e, s) = some (e2, s2) -> ∃ c2, T3 c2 h s2 /\ A6 c2 h.get e2 e' /\ K3 m c h c2 h c.L7
 | [], c, h, s, e, e2, s2, e', hm, hs, he, hg => by
  simp only [Fj, U0, Prod.mk.injEq] at hg
  obtain ⟨rfl, rfl⟩ := hg
  exact ⟨c, hs, he, K3.refl hm _ _⟩
 | g :: gs, c, h, s, e, e2, s2, e', hm, hs, he, hg => by
  simp only [Fj] at hg
  split at hg
  ·rename_i q hq
   obtain ⟨e1, s1⟩ := q
   obtain ⟨c1, a1, a2, a3⟩ := Yu hm hs he hq
   obtain ⟨c2, b1, b2, b3⟩ := At a3.n a1 a2 hg
   exact ⟨c2, b1, b2, a3.trans b3 hs.wf⟩
  ·cases hg
def V1 : Option Code -> Code
 | some (.loop b) => b
 | _ => .skip
def Ie (m : Nat) (gin : List Gh) (told : M1) : M1 := fun R e s K => match Fj m gin (e, s) with
 | some (e, s) => told R e s K
 | none => none
def UL {R : Type} (m : Nat) (gout : List Gh) (K : Y2 -> R1 -> O0 -> Option R) : Y2 -> R1 -> O0 -> Option R := fun x e s => match Fj m gout (e, s) with
 | some (e, s) => K x e s
 | none => none
def BU {R : Type} (m : Nat) (gin gout : List Gh) (told : M1) (K : Y2 -> R1 -> O0 -> Option R) : Y2 -> R1 -> O0 -> Option R := fun x e s => match x with
 | .normal => Ie m gin told R e s K
 | x => UL m gout K x e s
theorem C3 {m : Nat} {gin : List Gh} {b : Code} {told : M1} (h : l4 P m b told) : l4 P m b (Ie m gin told) := by
 intro R e s K r hu c h' e' hm hs he
 unfold Ie at hu
 split at hu
 ·rename_i e1 s1 hg
  obtain ⟨c1, a1, a2, a3⟩ := At hm hs he hg
  refine (h R e1 s1 K r hu c1 h' e' a3.n a1 a2).mono ?_
  rintro x e2 h2 ⟨u2, s2, c2, p1, p2, p3, p4⟩
  exact ⟨u2, s2, c2, p1, p2, a3.trans p3 hs.wf, p4⟩
 ·cases hu
def G3 : Option Code -> Code
 | some b => b
 | _ => .skip
theorem CY : ∀ (m : List Bool) (e : R1) (t : Nat), R1.get (I0 m (BQ m e)) t = R1.get e t \/ R1.get (I0 m (BQ m e)) t = .undef
 | [], e, t => .inr (by simp [BQ, I0, R1.get])
 | true :: m, v :: e, 0 => .inl rfl
 | true :: m, v :: e, t + 1 => by simpa [BQ, I0, R1.get] using CY m e t
 | true :: m, [], 0 => .inr rfl
 | true :: m, [], t + 1 => by simpa [BQ, I0, R1.get] using CY m [] t
 | false :: m, v :: e, 0 => .inr (by simp [BQ, I0, R1.get])
 | false :: m, v :: e, t + 1 => by simpa [BQ, I0, R1.get] using CY m e t
 | false :: m, [], 0 => .inr (by simp [BQ, I0, R1.get])
 | false :: m, [], t + 1 => by simpa [BQ, I0, R1.get] using CY m [] t
theorem A6.unpack {g : VG} {e : R1} {e' : Env} (he : A6 c g e e') (m : List Bool) : A6 c g (I0 m (BQ m e)) e' := by
 intro t
 rcases CY m e t with h1 | h1 <;> rw [h1]
 ·exact he t
 ·exact .undef _
theorem H4 {F : FuncId -> Option (Bool × J1)} (hF : C2 P F) {m : Nat} {mk : List Bool} {gin gout : List Gh} {told : Nat -> M1} {Pc : Nat -> Option M1} {body : Code} (Rm : R0 P m body Pc) {k p : Nat} (hp : 1 <= p) (Ad : N0 body p = some (.loop (V1 (N0 body p))))
  (h0 : ∀ R e s K, told 0 R e s K = none)
  (E3 : ∀ n (R : Type) vs s (K : Y2 -> R1 -> O0 -> Option R) r, told (n + 1) R vs s K = some r -> n4 P F k Pc (2 * p) (V1 (N0 body p)) (I0 mk vs) s (BU m gin gout (E8 mk (told n)) K) = some r) :
  ∀ n, l4 P m (.loop (V1 (N0 body p))) (E8 mk (told n)) := by
 have sub : N0 body (2 * p) = some (V1 (N0 body p)) := Kl hp Ad false rfl
 intro n
 induction n with
 | zero => intro R e s K r hu; unfold E8 at hu; rw [h0] at hu; cases hu
 | succ n ih =>
  intro R e s K r hu c h e' hm hs he
  refine WP.bg ((Nj hF k R Pc m (2 * p) body _ _ s _ r (E3 n R (BQ mk e) s K r hu) (by omega) sub Rm c h e' hm hs (he.unpack mk)).mono ?_)
  rintro x e2 h2 ⟨u2, s2, c2, p1, p2, p3, p4⟩
  have back : ∀ {x : Y2}, x ≠ .normal -> BU m gin gout (E8 mk (told n)) K x u2 s2 = some r -> ∃ u1 s1 c1, T3 c1 h2 s1 /\ A6 c1 h2.get u1 e2 /\ K3 m c h c1 h2 c.L7 /\ K x u1 s1 = some r := by
   intro x hx hk
   have hk : UL m gout K x u2 s2 = some r := by cases x <;> first | exact absurd rfl hx | exact hk
   unfold UL at hk
   split at hk
   ·rename_i e3 s3 uW
    obtain ⟨c3, b1, b2, b3⟩ := At p3.n p1 p2 uW
    exact ⟨e3, s3, c3, b1, b2, p3.trans b3 hs.wf, hk⟩
   ·cases hk
  cases x with
  | normal =>
   refine ((C3 ih) R u2 s2 K r p4 c2 h2 e2 p3.n p1 p2).mono ?_
   rintro x e4 h4 ⟨u4, s4, c4, d1, d2, d3, d4⟩
   exact ⟨u4, s4, c4, d1, d2, p3.trans d3 hs.wf, d4⟩
  | exit i => exact back (by simp) p4
  | ret => exact back (by simp) p4
theorem J5 {F : FuncId -> Option (Bool × J1)} (hF : C2 P F) {m : Nat} {mk : List Bool} {gout : List Gh} {told : M1} {Pc : Nat -> Option M1} {body : Code} (Rm : R0 P m body Pc) {k p : Nat} (hp : 1 <= p) (Ad : N0 body p = some (G3 (N0 body p)))
  (E3 : ∀ (R : Type) vs s (K : Y2 -> R1 -> O0 -> Option R) r, told R vs s K = some r -> n4 P F k Pc p (G3 (N0 body p)) (I0 mk vs) s (UL m gout K) = some r) : l4 P m (G3 (N0 body p)) (E8 mk told) := by
 intro R e s K r hu c h e' hm hs he
 refine (Nj hF k R Pc m p body _ _ s _ r (E3 R (BQ mk e) s K r hu) hp Ad Rm c h e' hm hs (he.unpack mk)).mono ?_
 rintro x e2 h2 ⟨u2, s2, c2, p1, p2, p3, p4⟩
 unfold UL at p4
 split at p4
 ·rename_i e3 s3 uW
  obtain ⟨c3, b1, b2, b3⟩ := At p3.n p1 p2 uW
  exact ⟨e3, s3, c3, b1, b2, p3.trans b3 hs.wf, p4⟩
 ·cases p4
def LO : List UV -> List UV -> Bool
 | [], [] => true
 | _ :: a, _ :: b => LO a b
 | _, _ => false
theorem KE : ∀ {a b : List UV}, LO a b = true -> a.length = b.length
 | [], [], _ => rfl
 | _ :: a, _ :: b, h => by simp only [LO] at h; simp [KE h]
 | [], _ :: _, h => by cases h
 | _ :: _, [], h => by cases h
theorem A6.args {g : VG} {us : List UV} {vs : List VV} (he : A6 c g us vs) (hl : us.length = vs.length) : E4 c g us vs := by
 refine ⟨hl, fun i u v hu hv => ?_⟩
 have h1 := he i
 have e1 : R1.get us i = u := by
  have key : ∀ (us : List UV) (t : Nat), R1.get us t = us.getD t .undef := by
   intro us
   induction us with
   | nil => intro t; simp [R1.get]
   | cons u us ih => intro t; cases t with
    | zero => simp [R1.get]
    | succ t => simp [R1.get, ih]
  rw [key, List.getD_eq_getElem?_getD, hu]; rfl
 have e2 : Env.get vs i = v := by simp [Env.get, List.getD_eq_getElem?_getD, hv]
 rw [e1, e2] at h1
 exact h1
def W6 {R : Type} (m : Nat) (gout : List Gh) (K : UV -> O0 -> Option R) : UV -> O0 -> Option R := fun v s => match Fj m gout ([v], s) with
 | some ([v], s) => K v s
 | _ => none
theorem K3.less {m n : Nat} {c' : Cx} {h' : A0} {T : Nat -> Prop} (hL : K3 m c h c' h' T) (hn : n <= m) : K3 n c h c' h' T :=
 ⟨Nat.le_trans hn hL.n, fun o ho => hL.ρ o (Nat.lt_of_lt_of_le ho hn), hL.K, hL.next, hL.same, hL.Q1, hL.mp, hL.Gf, hL.n8, fun o f ho => hL.Aa o f (Nat.lt_of_lt_of_le ho hn)⟩
theorem y0 {T : Fw} (hF : C2 P T.F) {m : Nat} {gout : List Gh} {told : J1} {g : FuncId} {k : Nat} (Rm : ∀ fn body, P.funcs[g]? = some fn -> fn.body = some body -> R0 P m body T.Pc) (hlen : ∀ (R : Type) args s (K : UV -> O0 -> Option R) r, told R args s K = some r -> s.len = m)
  (E3 : ∀ (R : Type) args s (K : UV -> O0 -> Option R) r, told R args s K = some r -> I6 P T k g args s (W6 m gout K) = some r) : N3 P g told := by
 intro R args s K r hu c h J4 hs hr
 have hl := hlen _ _ _ _ _ hu
 refine (Lw hF (E3 _ _ _ _ _ hu) (by rw [hl]; exact Rm) hs hr).mono ?_
 rintro v h' ⟨u, s1, c1, q1, q2, q3, q4⟩
 unfold W6 at q4
 split at q4
 ·rename_i w s2 hg
  have hm : m = c.n := by rw [<- hl, hs.len]
  have he : A6 c1 h'.get [u] [v] := Nz (E4.cons q2 (E4.nil _ _))
  obtain ⟨c2, b1, b2, b3⟩ := At (m := m) (by rw [hm]; exact q3.n) q1 he hg
  have h3 : K3 m c h c2 h' c.L7 := (q3.Ug (by rw [hm]; exact Nat.le_refl _)).trans b3 hs.wf
  exact ⟨w, s2, c2, b1, b2 0, by subst hm; exact h3.full, q4⟩
 ·cases q4
def Bx (B0 : List FT) (bytes : Nat) : J1 := fun R args s K => match args, s with
 | [.fz W2 es _], [] => match FT.F0 B0 W2 with
  | true => cond (fits es.length bytes) (K (.own 0) [.row B0 es]) none
  | false => none
 | [.nilslice], [] => K (.own 0) [.row B0 []]
 | _, _ => none
theorem Km {F : FuncId -> Option (Bool × J1)} (hF : C2 P F) {g : FuncId} {B0 : List FT} {bytes k : Nat} (h1 : ∀ (R : Type) (K : UV -> O0 -> Option R), I6 P ⟨F, fun _ => none⟩ k g [.nilslice] [] K = K .nilslice [])
  (h2 : ∀ (R : Type) (K : UV -> O0 -> Option R) (es : List (List D)), I6 P ⟨F, fun _ => none⟩ k g [.nn B0 es] [] K = cond (fits (([] : List (List D)).length + es.length) bytes) (K (.own 1) [.gone, .row B0 ([] ++ es)]) none) : N3 P g (Bx B0 bytes) := by
 have Wg : ∀ {R : Type} {K : UV -> O0 -> Option R} {r : R}, K (.own 0) [.row B0 []] = some r -> ∀ (c : Cx) (h : A0) v, T3 c h [] -> v = .nilslice -> VC P m5 g [v] h fun v h' => ∃ u s1 c1, T3 c1 h' s1 /\ RV c1 h'.get u v /\ u0 c h c1 h' c.L7 /\ K u s1 = some r := by
  intro R K r hK c h v hs hv
  subst hv
  have hr : E4 c h.get [.nilslice] [.nilslice] := E4.cons .nilslice (E4.nil _ _)
  have hu := h1 (UV × O0) (fun u s => some (u, s))
  refine (Lw (T := ⟨F, fun _ => none⟩) hF hu (fun _ _ _ _ => R0.none _ _ _) hs hr).mono ?_
  rintro v h' ⟨u, s1, c1, q1, q2, q3, q4⟩
  simp only [U0, Prod.mk.injEq] at q4
  obtain ⟨rfl, rfl⟩ := q4
  cases q2
  obtain ⟨a1, a2, a3⟩ := RT q1 B0 c1.L7
  exact ⟨.own 0, [.row B0 []], _, a1, a3, q3.trans' a2 hs.wf, hK⟩
 intro R args s K r hu c h J4 hs hr
 unfold Bx at hu
 split at hu
 ·rename_i W2 es cut
  split at hu
  ·rename_i Y6
   have := FT.J0 _ _ Y6; subst this
   obtain ⟨hf, hK⟩ := j3 hu
   obtain ⟨v, rfl, hv⟩ := hr.inv1
   cases hv with
   | fz _ _ _ _ M3 hc =>
    cases v with
    | nilslice => cases M3; exact Wg hK c h _ hs rfl
    | slice b i n cp z =>
     have TB : E4 c h.get [.nn B0 es] [.slice b i n cp z] := E4.cons (.nn B0 es _ M3 ⟨b, i, n, cp, z, rfl⟩) (E4.nil _ _)
     have vo := h2 (UV × O0) (fun u s => some (u, s)) es
     rw [List.nil_append, List.length_nil, Nat.zero_add, hf, cond_true] at vo
     refine (Lw (T := ⟨F, fun _ => none⟩) hF vo (fun _ _ _ _ => R0.none _ _ _) hs TB).mono ?_
     rintro v h' ⟨u, s1, c1, q1, q2, q3, q4⟩
     simp only [U0, Prod.mk.injEq] at q4
     obtain ⟨rfl, rfl⟩ := q4
     have hp := q1.pick (ids := [1]) (by simp)
     have hv := q2.pick (ids := [1])
     have hL : K3 0 c1 h' (c1.pick [1]) h' (fun _ => False) := WV rfl
     have hn : c.n = 0 := hs.len.symm
     have h3 : K3 0 c h (c1.pick [1]) h' c.L7 := (q3.Ug (Nat.zero_le _)).trans (hL.mono (fun _ h => h.elim)) hs.wf
     rw [<- hn] at h3
     exact ⟨.own 0, [.row B0 es], _, hp, hv, h3.full, hK⟩
    | _ => cases M3
  ·cases hu
 ·obtain ⟨v, rfl, hv⟩ := hr.inv1
  cases hv
  exact Wg hu c h _ hs rfl
 ·cases hu
inductive Xa : FT -> D -> Prop
 | bool (b : Bool) : Xa .bool (.bool b)
 | int (k : IntKind) (n : Int) (h : (Lit.int k n).wf = true) : Xa (.int k) (.int n)
 | str (s : ByteArray) (h : s.size <= reachBytes) : Xa .str (.str s)
 | nil (bytes : Nat) (B0 : List FT) : Xa (.row bytes B0) .nil
 | row (bytes : Nat) (B0 : List FT) (rows : List (List D)) (hb : rows.length * bytes <= reachBytes) (hl : ∀ r ∈ rows, r.length = B0.length)
   (hr : ∀ r ∈ rows, ∀ (j : Nat) ft d, B0[j]? = some ft -> r[j]? = some d -> Xa ft d) : Xa (.row bytes B0) (.row rows)
structure Tz (B0 : List FT) (ds : List D) : Prop where
 len : ds.length = B0.length
 at_ : ∀ (j : Nat) ft d, B0[j]? = some ft -> ds[j]? = some d -> Xa ft d
theorem Has.wZ {g : VG} {ft : FT} {d : D} {v : VV} (h : Has g ft d v) : Xa ft d := by
 induction h with
 | bool b => exact .bool b
 | int k n h => exact .int k n h
 | str s h => exact .str s h
 | nil bytes B0 => exact .nil bytes B0
 | row bytes B0 rows b k hg B2 hz h0 hlen hb jj hr ih =>
  have key : ∀ r ∈ rows, ∃ (i : Nat) (cs : List VV), rows[i]? = some r /\ k.es[i]? = some cs := fun r hm => by
   obtain ⟨i, hi⟩ := List.getElem?_of_mem hm
   have R3 : i < k.es.length := by rw [hlen]; exact (List.getElem?_eq_some_iff.1 hi).1
   exact ⟨i, k.es[i], hi, List.getElem?_eq_getElem R3⟩
  refine .row bytes B0 rows hb (fun r hm => ?_) (fun r hm j ft d hf hd => ?_)
  ·obtain ⟨i, cs, h1, h2⟩ := key r hm
   exact (jj i r cs h1 h2).1
  ·obtain ⟨i, cs, h1, h2⟩ := key r hm
   have h3 := (jj i r cs h1 h2).2
   have hj : j < cs.length := by rw [h3]; exact (List.getElem?_eq_some_iff.1 hf).1
   exact ih i r cs h1 h2 j ft d cs[j] hf hd (List.getElem?_eq_getElem hj)
theorem Has.rd {h : A0} (hs : Still h) {ft : FT} {d : D} {v : VV} (hh : Has h.get ft d v) : RD h.get (· < h.next) ft d v := by
 induction hh with
 | bool b => exact .bool b
 | int k n h => exact .int k n
 | str s h => exact .str s
 | nil bytes B0 => exact .nil bytes B0
 | row bytes B0 rows b k hg B2 hz h0 hlen hb jj hr ih =>
  refine .row bytes B0 rows b 0 rows.length none B0.length k hg (hs.wf.Q1 b k hg) hz rfl h0 rfl (by omega) (fun cp e => by cases e) ?_ ?_
  ·intro j r cs h1 h2
   rw [Nat.zero_add] at h2
   exact jj j r cs h1 h2
  ·intro j r cs h1 h2 m ft d v g1 g2 g3
   rw [Nat.zero_add] at h2
   exact ih j r cs h1 h2 m ft d v g1 g2 g3
def Cx.start (h : A0) : Cx := ⟨0, fun _ => .undef, (· < h.next), fun _ => BF⟩
theorem T3.start {h : A0} (hs : Still h) : T3 (Cx.start h) h [] :=
 ⟨hs.wf, rfl, fun o => .gone _ (by intro b i f e; cases e),
  (fun o o' f h => by cases h), (fun o f h => by cases h), (fun o f h => by cases h), fun f h => h, fun o _ => rfl⟩
def Pj (P : Program) : List TypeId -> List (List D) -> List UV
 | t :: ts, ds :: Ij => match flat P 20 t with
  | some B0 => (DQ P t (L9 0 B0 ds)).getD .undef :: Pj P ts Ij
  | none => []
 | _, _ => []
inductive OG (P : Program) : List TypeId -> List (List D) -> Prop
 | nil : OG P [] []
 | cons (t : TypeId) (ts : List TypeId) (B0 : List FT) (ds : List D) (Ij : List (List D)) (hf : flat P 20 t = some B0) (hd : Tz B0 ds) (hr : OG P ts Ij) : OG P (t :: ts) (ds :: Ij)
theorem eA {h : A0} (hs : Still h) {ts : List TypeId} {Ij : List (List D)} {vs : List VV} (ha : GY P h.get ts Ij vs) : OG P ts Ij /\ E4 (Cx.start h) h.get (Pj P ts Ij) vs := by
 induction ha with
 | nil => exact ⟨.nil, E4.nil _ _⟩
 | cons t ts B0 ds Ij xs v vs hf hx hv hr ih =>
  have VX : Cl h.get (Cx.start h).K B0 ds xs := ⟨hx.len, hx.Ar, fun m ft d v a b e => (hx.at_ m ft d v a b e).rd hs⟩
  refine ⟨.cons t ts B0 ds Ij hf ⟨hx.len, fun j ft d a b => ?_⟩ ih.1, ?_⟩
  ·have hj : j < xs.length := by rw [hx.Ar]; exact (List.getElem?_eq_some_iff.1 a).1
   exact (hx.at_ j ft d xs[j] a b (List.getElem?_eq_getElem hj)).wZ
  ·simp only [Pj, hf]
   refine E4.cons ?_ ih.2
   have h1 := CN (c := Cx.start h) VX 0 B0.length (by omega)
   simp only [List.drop_zero, List.take_length] at h1
   rw [<- hx.Ar, List.take_length] at h1
   cases hu : DQ P t (L9 0 B0 ds) with
   | none => exact .undef _
   | some u =>
    obtain ⟨w, w1, w2⟩ := Aj hu h1
    rw [hv] at w1
    simp only [U0] at w1
    subst w1
    exact w2
def XL : UV -> O0 -> Option Bool := fun v _ => match v with
 | .bool b => some b
 | _ => none
end
theorem Sq {P : Program} (Oe : P.follows .mixedOrders = true) (JW : QR P = true) (hX : RU P m5) {f : FuncId} {ts : List TypeId} {told : J1} (ht : N3 P f told) (H : ∀ Ij, OG P ts Ij -> told Bool (Pj P ts Ij) [] XL = some true) : pE P f ts := by
 intro h Ij args hs V6
 obtain ⟨hw, hr⟩ := eA hs V6
 obtain ⟨n, v, h', j4, u, s1, c1, q1, q2, q3, q4⟩ := ht Bool (Pj P ts Ij) [] XL true (H Ij hw) _ _ _ (T3.start hs) hr
 refine ⟨h', ?_⟩
 have hv : v = .bool true := by
  unfold XL at q4
  split at q4
  ·simp only [U0] at q4; subst q4; cases q2; rfl
  ·cases q4
 subst hv
 exact YF Oe JW (X := m5) hX j4
def CA (gin : List Gh) (told : J1) : J1 := fun R args s K => match Fj s.len gin (args, s) with
 | some (e, s1) => match LO e args with
  | true => Jt true told e s1 K
  | false => none
 | none => none
section
variable {P : Program} {c : Cx} {h : A0} {s : O0}
theorem O1 {gin : List Gh} {g : FuncId} {told : J1} (ht : N3 P g told) : N3 P g (CA gin told) := by
 intro R args s K r hu c h J4 hs hr
 unfold CA at hu
 split at hu
 ·rename_i e0 s0 Rj
  obtain ⟨c0, a1, a2, a3⟩ := At (m := s.len) (by rw [hs.len]; exact Nat.le_refl _) hs (Nz hr) Rj
  split at hu
  ·rename_i ji
   have Gi : E4 c0 h.get e0 J4 := a2.args (by rw [KE ji]; exact hr.1)
   refine (GA ht hu a1 Gi).mono ?_
   rintro v h' ⟨u, s1, c1, q1, q2, q3, q4⟩
   have tA : u0 c0 h c1 h' c0.L7 := q3.mono (fun f ⟨o, _, ho⟩ => ⟨o, ho⟩)
   have h5 : K3 s.len c h c1 h' c.L7 := a3.trans ((tA.Ug (Nat.le_refl _)).less a3.n) hs.wf
   rw [hs.len] at h5
   exact ⟨u, s1, c1, q1, q2, h5.full, q4⟩
  ·cases hu
 ·cases hu
end
open Go.RowKit
section
variable {P : Program}
theorem P2.iB {ρ : Ren} {v : VV} {ms : List Value} (h : P2 ρ [v] ms) : ∃ m, ms = [m] /\ Y0 ρ v m := by
 obtain ⟨m, x, rfl, h1, h2⟩ := h.of_cons
 rw [h2.of_nil]; exact ⟨m, rfl, h1⟩
theorem P2.gF {ρ : Ren} {u v : VV} {ms : List Value} (h : P2 ρ [u, v] ms) : ∃ m n, ms = [m, n] /\ Y0 ρ u m /\ Y0 ρ v n := by
 obtain ⟨m, x, rfl, h1, h2⟩ := h.of_cons
 obtain ⟨n, rfl, h3⟩ := h2.iB
 exact ⟨m, n, rfl, h1, h3⟩
end
end Go.Proofs.Ythlbahcggmbfaaa.V
namespace Go.Proofs.Ythlbahcggmbfaaa.V
open Go.RowKit Go.Maps Go.Sort
section
variable {P : Program}
end
end Go.Proofs.Ythlbahcggmbfaaa.V
namespace Go.Proofs.Ythlbahcggmbfaaa.V
open Go.RowKit Go.Maps Go.Sort
section
variable {P : Program}
theorem Sv : ∀ {l : List (List VV)}, l.all Qn = true -> ∃ zs : List Int, l = zs.map fun z => [VV.int .i64 z]
 | [], _ => ⟨[], rfl⟩
 | v :: l, h => by
  simp only [List.all_cons, Bool.and_eq_true] at h
  obtain ⟨zs, rfl⟩ := Sv h.2
  have hv : ∃ z, v = [.int .i64 z] := by
   have h1 := h.1
   unfold Qn at h1
   split at h1
   ·exact ⟨_, rfl⟩
   ·cases h1
  obtain ⟨z, rfl⟩ := hv
  exact ⟨z :: zs, rfl⟩
theorem OQ {f : FuncId} (rQ : ∀ (Zi off cap i j : Nat) (zs : List Int) (w : World), Holds (Value.int .i64) w Zi off zs.toArray -> zs.length <= cap -> cap <= 9223372036854775807 -> i <= j -> j <= zs.length ->
   Calls P f #[.slice (some ⟨Zi, off, none⟩) zs.length cap, .int .i64 i, .int .i64 j] w fun e w' => e = .returned (.slice (some ⟨Zi, off, none⟩) (zs.length - (j - i)) cap) /\ ∃ q, w' = putRow (Value.int .i64) (Sort.ahead w q) Zi off (zs.take i ++ zs.drop j ++ List.replicate (j - i) 0).toArray)
  {args : List VV} {h h' : A0} {v : VV} (K0 : Fx args h = some (v, h')) : OI P f args h v h' := by
 intro ρ w Cv hR hw U3 _hG
 unfold Fx at K0
 split at K0
 ·rename_i b i n c lo hi
  split at K0
  ·rename_i k hg
   split at K0
   ·rename_i hc
    obtain ⟨q1, q2, q3, q4, q5, q6⟩ := hc
    obtain ⟨zs, tZ⟩ := Sv q6
    simp only [Option.map_eq_some_iff] at K0
    obtain ⟨h1, fk, K0⟩ := K0
    simp only [Prod.mk.injEq] at K0
    obtain ⟨rfl, rfl⟩ := K0
    have hn : zs.length = n := by
     have := congrArg List.length tZ
     simp only [List.length_take, List.length_drop, List.length_map] at this
     omega
    rw [tZ] at fk
    have Dr : (zs.map fun z => [VV.int .i64 z]).take lo.toNat ++ (zs.map fun z => [VV.int .i64 z]).drop hi.toNat ++ List.replicate (hi.toNat - lo.toNat) [VV.int .i64 0] = (zs.take lo.toNat ++ zs.drop hi.toNat ++ List.replicate (hi.toNat - lo.toNat) 0).map fun z => [VV.int .i64 z] := by
     simp [List.map_append, List.map_take, List.map_drop, List.map_replicate]
    rw [Dr] at fk
    generalize fc : zs.take lo.toNat ++ zs.drop hi.toNat ++ List.replicate (hi.toNat - lo.toNat) (0 : Int) = ys at fk
    have vi : ys.length = n := by rw [<- fc]; simp; omega
    unfold overwrite at fk
    rw [hg] at fk
    simp only at fk
    split at fk
    ·cases fk
    ·rename_i Qp
     have B2 : k.ro = false := by
      cases hb : k.ro with
      | false => rfl
      | true => exact absurd (.inl hb) Qp
     simp only [U0] at fk
     obtain ⟨m1, ms, rfl, r1, U3⟩ := U3.of_cons
     obtain ⟨m2, m3, rfl, r2, r3⟩ := U3.gF
     cases r2; cases r3
     cases r1 with
     | slice _ _ _ _ _ l a o5 hb hz oa hm UJ ho ha =>
      have ou : a = addrAt l i 0 := by
       rcases ha with ha | ⟨ha, _⟩
       ·exact ha
       ·omega
      subst ou
      obtain ⟨o, TD, BV⟩ := hR.obj b l hb
      rw [hg] at TD; simp only [U0] at TD; subst TD
      generalize TH : w.heap[l.mb]? = mo at BV
      cases BV with
      | cells _ cs t fr hr hs he h0 U8 Ib D2 =>
       have Ep : l.L3 = 1 := by rw [<- he]; exact q5
       have hle : (k.es.take i ++ (ys.map fun z => [VV.int .i64 z]) ++ k.es.drop (i + (ys.map fun z => [VV.int .i64 z]).length)).length = k.es.length := by simp; omega
       have hin1 : l.l6 + k.es.length <= l.iI := by rw [Ep] at U8; omega
       have Ka : ∀ j (hj : j < zs.length), k.es[i + j]? = some [VV.int .i64 zs[j]] := by
        intro j hj
        have : ((k.es.drop i).take n)[j]? = some [VV.int .i64 zs[j]] := by rw [tZ, List.getElem?_map, List.getElem?_eq_getElem hj]; rfl
        rw [List.getElem?_take, if_pos (by omega), List.getElem?_drop] at this
        exact this
       have hH : Holds (Value.int .i64) w l.mb (l.l6 + i * l.L3 + 0) zs.toArray := by
        intro j hj
        have ib : j < zs.length := by simpa using hj
        obtain ⟨_, _, a3⟩ := D2 (i + j) _ (Ka j ib)
        obtain ⟨mv, m1, m2⟩ := a3 0 _ rfl
        have hx : l.l6 + (i + j) * l.L3 + 0 = l.l6 + i * l.L3 + 0 + j := by rw [Ep]; omega
        rw [hx] at m1
        cases m2
        refine ⟨?_, ?_⟩
        ·rw [cell_of_row w l.mb _ cs t fr TH, m1]
         simp [ib]
        ·have TE := Ib B2 (l.l6 + i * l.L3 + 0 + j) (by rw [Ep]; omega)
         unfold World.frozen?
         rw [TH]
         obtain ⟨f1, f2⟩ := fr
         simp only [Bool.and_eq_false_iff, decide_eq_false_iff_not]
         simp only [not_and] at TE
         by_cases hh : f1 <= l.l6 + i * l.L3 + 0 + j
         ·exact .inr (TE hh)
         ·exact .inl hh
       obtain ⟨LZ, rfl⟩ : ∃ x : Nat, lo = (x : Int) := ⟨lo.toNat, by omega⟩
       obtain ⟨Ri, rfl⟩ : ∃ x : Nat, hi = (x : Int) := ⟨hi.toNat, by omega⟩
       simp only [Int.toNat_natCast] at fc q3
       subst hn
       refine (rQ l.mb (l.l6 + i * l.L3 + 0) o5 LZ Ri zs w hH oa (by unfold maxLen at hm; omega) (by omega) (by omega)).mono ?_
       rintro e w' ⟨rfl, q, rfl⟩
       rw [fc]
       simp only [Int.toNat_natCast]
       refine ⟨_, ρ, rfl, ?_, ?_⟩
       ·rw [<- fk]
        have ZX : (putRow (Value.int .i64) (Sort.ahead w q) l.mb (l.l6 + i * l.L3 + 0) ys.toArray).heap[l.mb]? = some (.cells (putCells (Value.int .i64) (l.l6 + i * l.L3 + 0) ys.toArray cs) t fr) := by
         show (w.heap.modify l.mb (onCells _))[l.mb]? = _
         rw [Array.getElem?_modify, if_pos rfl, TH]; rfl
        have O8 : ∀ x, (putCells (Value.int .i64) (l.l6 + i * l.L3 + 0) ys.toArray cs)[x]? = if l.l6 + i * l.L3 + 0 <= x /\ x < l.l6 + i * l.L3 + 0 + ys.length then (cs[x]?).map (fun _ => Value.int .i64 (ys.toArray[x - (l.l6 + i * l.L3 + 0)]!)) else cs[x]? := by
         intro x
         unfold putCells
         rw [Array.getElem?_mapIdx]
         simp only [List.size_toArray]
         split
         ·rfl
         ·cases cs[x]? <;> rfl
        refine HM (c := cs) (c' := putCells (Value.int .i64) (l.l6 + i * l.L3 + 0) ys.toArray cs) (t := t) (fr := fr) hR hw hb hg B2 i _ hle TH (by unfold putCells; simp) (fun x hx => ?_) (fun j cz Yr => ?_) ZX ⟨by show (w.heap.modify _ _).size = _; simp, rfl, rfl, rfl, fun k2 U9 => by show (w.heap.modify _ _)[k2]? = _; rw [Array.getElem?_modify, if_neg (fun e => U9 e.symm)]⟩
        ·rw [O8, if_neg (by omega)]
        ·have Yr : (k.es.take i ++ (ys.map fun z => [VV.int .i64 z]) ++ k.es.drop (i + (ys.map fun z => [VV.int .i64 z]).length))[j]? = some cz := Yr
         have qX : (k.es.take i).length = i := by simp; omega
         rw [List.append_assoc] at Yr
         by_cases sX : j < i
         ·rw [List.getElem?_append_left (by omega), List.getElem?_take, if_pos sX] at Yr
          obtain ⟨a1, a2, a3⟩ := D2 j cz Yr
          refine ⟨a1, a2, fun m v hv => ?_⟩
          have uF : m < 1 := by rw [<- Ep, <- a1]; exact (List.getElem?_eq_some_iff.1 hv).1
          obtain ⟨mv, b1, b2⟩ := a3 m v hv
          refine ⟨mv, ?_, b2⟩
          rw [O8, if_neg (by rw [Ep]; omega)]; exact b1
         ·rw [List.getElem?_append_right (by omega), qX] at Yr
          by_cases jz : j - i < ys.length
          ·rw [List.getElem?_append_left (by simpa using jz), List.getElem?_map, List.getElem?_eq_getElem jz] at Yr
           simp only [Option.map_some, U0] at Yr
           subst Yr
           refine ⟨by rw [Ep]; rfl, rfl, fun m v hv => ?_⟩
           cases m with
           | succ m => simp at hv
           | zero =>
            simp at hv; subst hv
            have R3 : l.l6 + j * l.L3 + 0 < cs.size := by rw [hs, Ep]; omega
            refine ⟨Value.int .i64 ys[j - i], ?_, .int _ _⟩
            rw [O8, if_pos (by rw [Ep]; omega), Array.getElem?_eq_getElem R3]
            simp only [Option.map_some, U0, Value.int.injEq, true_and]
            have e1 : l.l6 + j * l.L3 + 0 - (l.l6 + i * l.L3 + 0) = j - i := by rw [Ep]; omega
            rw [e1]
            simp [jz]
          ·rw [List.getElem?_append_right (by simp; omega), List.getElem?_drop] at Yr
           have Yr : k.es[j]? = some cz := by
            rw [<- Yr]; congr 1; simp; omega
           obtain ⟨a1, a2, a3⟩ := D2 j cz Yr
           refine ⟨a1, a2, fun m v hv => ?_⟩
           have uF : m < 1 := by rw [<- Ep, <- a1]; exact (List.getElem?_eq_some_iff.1 hv).1
           obtain ⟨mv, b1, b2⟩ := a3 m v hv
           refine ⟨mv, ?_, b2⟩
           rw [O8, if_neg (by rw [Ep]; omega)]; exact b1
       ·exact .slice _ _ _ _ _ l _ o5 hb hz (by omega) hm UJ ho (.inl (by rw [Nat.add_zero]; rfl))
   ·cases K0
  ·cases K0
 ·cases K0
end
end Go.Proofs.Ythlbahcggmbfaaa.V
namespace Go.Proofs
open Go.RowKit Go.Shelf
def Ythlbahcggmbfaaa.TZ : Go.Shelf.Ren := ⟨fun | 23 => 58 | n => n, fun | 22 => 40 | 3 => 3 | 4 => 4 | 0 => 0 | n => n, fun | n => n⟩
theorem Ythlbahcggmbfaaa.jK : Go.Proofs.Lays2.n23 Try.prog Ythlbahcggmbfaaa.TZ := {
 mixed := by kernel_rfl
 f23 := Try.func58.trans (congrArg some (by kernel_rfl))
 t0 := Try.underlying0
 a0 := Try.isAgg0
 z0 := Try.sizeOf0
 v0 := Try.zeroValue0
 t3 := Try.underlying3
 a3 := Try.isAgg3
 z3 := Try.sizeOf3
 v3 := Try.zeroValue3
 t4 := Try.underlying4
 a4 := Try.isAgg4
 z4 := Try.sizeOf4
 v4 := Try.zeroValue4
 t22 := Try.underlying40
 a22 := Try.isAgg40
 z22 := Try.sizeOf40
 v22 := Try.zeroValue40
 i3 := by kernel_rfl }
end Go.Proofs
namespace Go.Proofs
open Go.RowKit Go.Sort Go.Shelf
theorem Ythlbahcggmbfaaa.TY (Zi off cap i j : Nat) (zs : List Int) (w : World) (hH : Holds (Value.int .i64) w Zi off zs.toArray) (TL : zs.length <= cap) (hm : cap <= 9223372036854775807) (PQ : i <= j) (hj : j <= zs.length) :
  Calls Try.prog 58 #[.slice (some ⟨Zi, off, none⟩) zs.length cap, .int .i64 i, .int .i64 j] w fun e w' => e = .returned (.slice (some ⟨Zi, off, none⟩) (zs.length - (j - i)) cap) /\ ∃ q, w' = putRow (Value.int .i64) (Sort.ahead w q) Zi off (zs.take i ++ zs.drop j ++ List.replicate (j - i) 0).toArray :=
 Any.slices_Delete_int Ythlbahcggmbfaaa.jK Zi off cap i j zs w hH TL hm PQ hj
end Go.Proofs
namespace Go.Proofs.Ythlbahcggmbfaaa.V
open Go.RowKit Go.Maps Go.Sort
theorem SJ : RU Try.prog m5 := by
 intro f g hg args h v h' K0
 unfold m5 at hg
 split at hg
 ·rename_i hb
  have := B6 hb; subst this
  cases hg
  exact OQ (fun Zi off cap i j zs w h1 h2 h3 h4 h5 => Ythlbahcggmbfaaa.TY Zi off cap i j zs w h1 h2 h3 h4 h5) K0
 ·cases hg
end Go.Proofs.Ythlbahcggmbfaaa.V
namespace Go.Proofs.Ythlbahcggmbfaaa.V
section
variable {P : Program} {c : Cx} {h : A0} {s : O0}
end
open Go.RowKit
section
variable {P : Program}
end
section
variable {P : Program}
end
end Go.Proofs.Ythlbahcggmbfaaa.V
namespace Go.Proofs.Ythlbahcggmbfaaa.V
def v7 (es : List (List D)) (lo hi : Nat) : List (List D) := es.take lo ++ es.drop hi
def Fp (es : List (List D)) (lo hi : Int) : Bool := decide (0 <= lo /\ lo < hi) && H9 hi es.length
def HF : J1 := fun _ args s K => match args, s with
 | [.own 0, .int .i64 lo, .int .i64 hi], [.row B0 es] => match FT.F0 B0 [.int .i64] with
  | true => cond (Fp es lo hi) (K (.own 1) [.gone, .row B0 (v7 es lo.toNat hi.toNat)]) none
  | false => none
 | _, _ => none
section
variable {P : Program} {c : Cx} {h : A0} {s : O0}
theorem Su {g : VG} {K : Nat -> Prop} : ∀ {es : List (List D)} {xs : List (List VV)}, xs.length = es.length -> Fv g K [.int .i64] es xs 0 -> xs.all Qn = true
 | [], [], _, _ => rfl
 | e :: es, x :: xs, hl, hs => by
  have h0 := hs.at_ 0 e x rfl rfl
  have hx : ∃ n, x = [.int .i64 n] := by
   have l1 := h0.len; have l2 := h0.Ar
   match e, x, l1, l2, h0 with
   | [d], [v], _, _, h0 =>
    have := h0.head
    cases this
    exact ⟨_, rfl⟩
  obtain ⟨n, rfl⟩ := hx
  have tk : Fv g K [.int .i64] es xs 0 := ⟨by simp at hl; omega, fun j r cs h1 h2 => hs.at_ (j + 1) r cs (by simpa using h1) (by rw [Nat.zero_add] at h2 ⊢; simpa using h2)⟩
  simp only [List.all_cons, Su (by simpa using hl) tk, Bool.and_true]; rfl
 | [], _ :: _, hl, _ => by simp at hl
 | _ :: _, [], hl, _ => by simp at hl
theorem RJ {g : FuncId} (hX : m5 g = some Fx) : N3 P g HF := by
 intro R args st K r hu c h J4 hs hr
 unfold HF at hu
 split at hu
 ·rename_i lo hi B0 es
  split at hu
  ·rename_i Vc
   have Vc := FT.J0 _ _ Vc
   subst Vc
   obtain ⟨q, hK⟩ := j3 hu
   unfold Fp H9 at q
   simp only [Bool.and_eq_true, decide_eq_true_eq] at q
   obtain ⟨v, v1, v2, rfl, hv, oT, oS⟩ : ∃ v v1 v2, J4 = [v, v1, v2] /\ RV c h.get (.own 0) v /\ RV c h.get (.int .i64 lo) v1 /\ RV c h.get (.int .i64 hi) v2 := by
    have hl := hr.1
    match J4, hl, hr with
    | [v, v1, v2], _, hr => exact ⟨v, v1, v2, rfl, hr.head, hr.tail.head, hr.tail.tail.head⟩
   cases oT; cases oS
   cases hv with
   | own _ v ho hb hv =>
   have Rf : ∀ b i f, c.ρ 0 ≠ .ptr b i f := by
    intro b i f e; rw [hb] at e; subst e
    rcases hv with e | ⟨_, _, _, _, _, e⟩ <;> cases e
   have B2 := hs.obj 0
   rw [show (O0.get [UO.row [FT.int .i64] es] 0) = .row [.int .i64] es from rfl, hb] at B2
   generalize w8 : c.φ 0 = fm at B2
   cases B2 with
   | W7 => simp at q; omega
   | B7 => simp at q; omega
   | row _ _ b i n cp z k hg B2 hz w6 XC hn AV fh =>
    have hlen := fh.len
    have Wn : z = 1 := w6
    subst Wn
    obtain ⟨Oj, cZ⟩ := fh.cut hn
    have hint := Su cZ Oj
    generalize Dr : ((k.es.drop i).take n).take lo.toNat ++ ((k.es.drop i).take n).drop hi.toNat ++ List.replicate (hi.toNat - lo.toNat) [VV.int .i64 0] = xs
    have bw : xs.length = n := by rw [<- Dr]; simp; omega
    have hle : (k.es.take i ++ xs ++ k.es.drop (i + xs.length)).length = k.es.length := by simp; omega
    obtain ⟨t1, t2, t3⟩ := HE hs.wf hg (k.E5 + i) (k.es.take i ++ xs ++ k.es.drop (i + xs.length)) hle
    have K0 : Fx [.slice b i n cp 1, .int .i64 lo, .int .i64 hi] h = some (.slice b i (n - (hi.toNat - lo.toNat)) cp 1, (match k.Q2 with | true => h | false => h.kill k.Q1 (k.E5 + i)).put b (.cells { k with es := k.es.take i ++ xs ++ k.es.drop (i + xs.length) })) := by
     simp only [Fx, hg]
     rw [if_pos ⟨q.1.1, q.1.2, by omega, by omega, hz, hint⟩, Dr]
     unfold overwrite
     simp only [hg]
     rw [if_neg (by rw [B2]; simp; omega)]
     rfl
    have kD : (v7 es lo.toNat hi.toNat).length = n - (hi.toNat - lo.toNat) := by unfold v7; simp; omega
    obtain ⟨m1, m2⟩ := hs.Ei (o := 0) (u := .row [.int .i64] (v7 es lo.toNat hi.toNat)) (v := .slice b i (n - (hi.toNat - lo.toNat)) cp 1) (fm := one k.Q1) Rf t3 (fun f e => by rw [e]; exact L5 w8) t2 (fun f e => by cases e; exact .inl (L5 w8)) (by
     have Gu := u0.RF hs 0 (.slice b i (n - (hi.toNat - lo.toNat)) cp 1) (one k.Q1) t3 (fun f e => by cases e; exact .inl (L5 w8))
     have hk := Gu.keeps (fun f' UK e => hs.EJ 0 _ (L5 w8) (by rw [e] at UK; exact UK))
     refine .row [.int .i64] _ b i _ cp 1 { k with es := k.es.take i ++ xs ++ k.es.drop (i + xs.length) } t1 B2 hz w6 XC kD.symm (fun q e => ⟨by have := (AV q e).1; omega, by rw [hle]; exact (AV q e).2⟩) ?_
     have vq := fh.keep hk
     refine ⟨by rw [kD]; show _ <= (k.es.take i ++ xs ++ k.es.drop (i + xs.length)).length; rw [hle]; omega, fun j r cs h1 h2 => ?_⟩
     have hj : j < n - (hi.toNat - lo.toNat) := by rw [<- kD]; exact (List.getElem?_eq_some_iff.1 h1).1
     have qX : (k.es.take i).length = i := by simp; omega
     have h2 : (k.es.take i ++ xs ++ k.es.drop (i + xs.length))[i + j]? = some cs := h2
     rw [List.append_assoc, List.getElem?_append_right (by omega), qX, List.getElem?_append_left (by omega), show i + j - i = j by omega, <- Dr] at h2
     unfold v7 at h1
     by_cases LA : j < lo.toNat
     ·rw [List.getElem?_append_left (by simp; omega), List.getElem?_take, if_pos LA] at h1
      rw [List.append_assoc, List.getElem?_append_left (by simp; omega), List.getElem?_take, if_pos LA, List.getElem?_take, if_pos (by omega), List.getElem?_drop] at h2
      exact vq.at_ j r cs h1 h2
     ·have e1 : (es.take lo.toNat).length = lo.toNat := by simp; omega
      have e2 : (((k.es.drop i).take n).take lo.toNat).length = lo.toNat := by simp; omega
      rw [List.getElem?_append_right (by omega), e1, List.getElem?_drop] at h1
      rw [List.append_assoc, List.getElem?_append_right (by omega), e2, List.getElem?_append_left (by simp; omega), List.getElem?_drop, List.getElem?_take, if_pos (by omega), List.getElem?_drop] at h2
      exact vq.at_ _ r cs h1 h2)
    have uD : c.n = 1 := by rw [<- hs.len]; rfl
    refine VC.told hX K0 ?_
    refine ⟨_, _, _, m1, .own 1 _ ?_ ?_ (.inr ⟨_, _, _, _, _, rfl⟩), m2.mono (fun f e => ⟨0, by rw [e]; exact L5 w8⟩), hK⟩
    ·show 1 < c.n + 1; omega
    ·show (if 1 = c.n then _ else _) = _
     rw [if_pos uD.symm]
  ·cases hu
 ·cases hu
end
section
variable {P : Program} {c : Cx} {h : A0} {s : O0}
end
noncomputable def sC (fu : Nat) : FuncId -> Option (Bool × J1) := fun f => match Nat.beq f 58 with
 | true => some (true, HF)
 | false => none
theorem PC (fu : Nat) : C2 Try.prog (sC fu) := by
 intro f own told h
 unfold sC at h
 split at h
 ·rename_i hb
  cases h
  have := B6 hb; subst this
  exact RJ rfl
 ·cases h
def My {R : Type} (p : Nat) (B0 : List FT) (es : List (List D)) (i o : Nat) (s : O0) (K : O0 -> Option R) : Option R := match s.get o with
 | .obj cs => match D8 s B0 cs, holds o cs with
  | some ds, false => S7 (setAt es i ds) fun vH => K (((freeze s cs).T8 p (.p0 B0 vH none)).T8 o .X8)
  | _, _ => none
 | _ => none
def OS (told : J1) : J1 := fun R args s K => match args with
 | .pp p i :: rest => match EC s p with
  | some (B0, es) => R7 (elem i es) fun row => match AW (Cs true (.ptr s.len 0 :: rest) ((s.T8 p (.p0 B0 es (some i))).push (.obj (L9 0 B0 row)))) p with
   | false => Jt true told (.ptr s.len 0 :: rest) ((s.T8 p (.p0 B0 es (some i))).push (.obj (L9 0 B0 row))) fun v s2 => My p B0 es i s.len s2 fun s3 => K v s3
   | true => none
  | none => none
 | _ => told R args s K
section
variable {P : Program} {c : Cx} {h : A0} {s : O0}
def Cx.split (c : Cx) (p : Nat) (A : Nat -> Prop) (v : VV) (B : Nat -> Prop) : Cx := ⟨c.n + 1, fun o => if o = c.n then v else c.ρ o, c.K, fun q => if q = c.n then B else if q = p then A else c.φ q⟩
theorem YO (hs : T3 c h s) {p i : Nat} {B0 : List FT} {es : List (List D)} (hp : s.get p = .p0 B0 es none) {v : VV} (hv : RV c h.get (.pp p i) v) :
  ∃ c1 f, T3 c1 h ((s.T8 p (.p0 B0 es (some i))).push (.obj (L9 0 B0 (elem i es)))) /\ u0 c h c1 h (fun _ => False) /\ c1.n = c.n + 1 /\ c1.ρ c.n = v /\ c1.φ c.n = one f /\ c.φ p f /\ (∀ g, c1.φ p g -> c.φ p g) := by
 cases hv with
 | pp _ _ b sv ps Ob hρ Qs =>
  rcases BP hs hp with ⟨e1, _⟩ | ⟨bm, i0, n, cp, z, k, kq, fs, O9, HV, Oi, BV, Gt, ZW, h0, TF, LC, Qv, Kb, JV, Lc⟩
  ·rw [hρ] at e1
   simp only [VV.tuple.injEq, List.cons.injEq] at e1
   rw [e1.2] at Qs; cases Qs
  ·rw [hρ] at O9
   simp only [VV.tuple.injEq, List.cons.injEq] at O9
   obtain ⟨rfl, rfl⟩ := O9
   have oe : i < es.length := by rw [<- Lc.len]; exact (List.getElem?_eq_some_iff.1 Qs).1
   have xg : es[i]? = some (elem i es) := by
    rw [List.getElem?_eq_getElem oe]
    unfold Go.Proofs.Ythlbahcggmbfaaa.V.elem
    rw [List.getD_eq_getElem?_getD, List.getElem?_eq_getElem oe]; rfl
   obtain ⟨kb, xs, g1, g2, g3, g4, g5, g6, g7, g8⟩ := Lc.at_ i _ b xg Qs (by simp)
   have cW : ∀ j f, fs j = some f -> c.φ p f := fun j f hf => by rw [HV]; exact .inr ⟨j, hf⟩
   have KX : p < s.len := by rw [hs.len]; exact Ob
   have Ky : ∀ q, (c.split p (fun f => f = k.Q1 \/ ∃ j, (fun j => if j = i then none else fs j) j = some f) (.ptr b 0 0) (one kb.Q1)).φ q = if q = c.n then one kb.Q1 else if q = p then (fun f => f = k.Q1 \/ ∃ j, (fun j => if j = i then none else fs j) j = some f) else c.φ q := fun _ => rfl
   have hA : ∀ f, (f = k.Q1 \/ ∃ j, (fun j => if j = i then none else fs j) j = some f) -> c.φ p f /\ f ≠ kb.Q1 := fun f hf => by
    rcases hf with rfl | ⟨j, hj⟩
    ·exact ⟨by rw [HV]; exact .inl rfl, fun e => JV i _ g2 e.symm⟩
    ·simp only at hj
     split at hj
     ·cases hj
     ·rename_i Rh; exact ⟨cW j f hj, fun e => Rh (Lc.inj j i f hj (by rw [e]; exact g2))⟩
   have Og : u0 c h (c.split p (fun f => f = k.Q1 \/ ∃ j, (fun j => if j = i then none else fs j) j = some f) (.ptr b 0 0) (one kb.Q1)) h (fun _ => False) := by
    refine ⟨Nat.le_succ _, fun q hq => ?_, fun _ h => h, Nat.le_refl _, fun _ _ h _ => h, fun _ k h => ⟨k, h, rfl⟩, fun _ es h => ⟨es, h⟩, fun _ h => .inl h, fun q f hf => ?_, fun q f hq hf => ?_⟩
    ·show (if q = c.n then _ else c.ρ q) = _
     rw [if_neg (by omega)]
    ·rw [Ky] at hf
     split at hf
     ·have e : f = kb.Q1 := hf
      exact .inr ⟨p, by rw [e]; exact cW i _ g2⟩
     ·split at hf
      ·exact .inr ⟨p, (hA f hf).1⟩
      ·exact .inr ⟨q, hf⟩
    ·rw [Ky, if_neg (by omega)] at hf
     split at hf
     ·rename_i e; subst e; exact (hA f hf).1
     ·exact hf
   refine ⟨c.split p (fun f => f = k.Q1 \/ ∃ j, (fun j => if j = i then none else fs j) j = some f) (.ptr b 0 0) (one kb.Q1), kb.Q1, ⟨hs.wf, by rw [O0.CT, O0.V4, hs.len]; rfl, fun q => ?_, fun q q' f h1 h2 => ?_, fun q f h1 hK => ?_, fun q f h1 => ?_, hs.Rc, fun q hq => ?_⟩, Og, rfl, ?_, ?_, cW i _ g2, fun g hg => ?_⟩
   ·rw [O0.V0, O0.V4, hs.len, Ky]
    show RO _ _ _ (if q = c.n then _ else c.ρ q) _
    split
    ·refine .obj _ b kb xs g1 g3 (by rw [Db, g4]) g5 g6 g7 ?_
     have := CN (c := c) g8 0 B0.length (by omega)
     simp only [List.drop_zero] at this
     rw [List.take_of_length_le (Nat.le_refl _), List.take_of_length_le (by rw [g8.Ar]; exact Nat.le_refl _)] at this
     exact this.O4 Og (fun _ _ h => h)
    ·rename_i qk
     rw [O0.C4]
     by_cases ly : q = p
     ·subst ly
      rw [if_pos ⟨rfl, KX⟩, if_pos rfl, hρ]
      refine .p0 B0 es (some i) bm i0 n cp z k ps _ Oi BV Gt ZW h0 TF LC Qv Kb (fun j f hf => ?_) ⟨Lc.len, Lc.ptr, fun j j' f h1 h2 => ?_, fun j hj => ?_, fun j hj => ?_, fun j r b' h1 h2 h3 => ?_⟩
      ·split at hf
       ·cases hf
       ·exact JV j f hf
      ·split at h1
       ·cases h1
       ·split at h2
        ·cases h2
        ·exact Lc.inj j j' f h1 h2
      ·split
       ·rfl
       ·exact Lc.out j hj
      ·simp only [U0] at hj; subst hj; exact if_pos rfl
      ·rw [if_neg (fun e => h3 (by rw [e]))]
       obtain ⟨k', kP, a1, a2, a3, a4, a5, a6, a7, a8⟩ := Lc.at_ j r b' h1 h2 (by simp)
       exact ⟨k', kP, a1, a2, a3, a4, a5, a6, a7, a8.keep (Og.keeps (fun _ _ h => h))⟩
     ·rw [if_neg (fun hh => ly hh.1), if_neg ly]
      exact (hs.obj q).O4 Og (fun _ _ h => h) (fun _ _ h => h)
   ·rw [Ky] at h1 h2
    split at h1 <;> split at h2
    ·omega
    ·have e1 : f = kb.Q1 := h1
     split at h2
     ·exact absurd e1 (hA f h2).2
     ·rename_i hq; exact absurd (hs.Ax q' p f h2 (by rw [e1]; exact cW i _ g2)) hq
    ·have e1 : f = kb.Q1 := h2
     split at h1
     ·exact absurd e1 (hA f h1).2
     ·rename_i hq; exact absurd (hs.Ax q p f h1 (by rw [e1]; exact cW i _ g2)) hq
    ·split at h1 <;> split at h2
     ·omega
     ·rename_i e1 _; rw [e1]; exact hs.Ax p q' f (hA f h1).1 h2
     ·rename_i _ e2; rw [e2]; exact hs.Ax q p f h1 (hA f h2).1
     ·exact hs.Ax q q' f h1 h2
   ·rw [Ky] at h1
    split at h1
    ·have e1 : f = kb.Q1 := h1
     exact hs.EJ p f (by rw [e1]; exact cW i _ g2) hK
    ·split at h1
     ·exact hs.EJ p f (hA f h1).1 hK
     ·exact hs.EJ q f h1 hK
   ·rw [Ky] at h1
    split at h1
    ·have e1 : f = kb.Q1 := h1
     exact hs.s8 p f (by rw [e1]; exact cW i _ g2)
    ·split at h1
     ·exact hs.s8 p f (hA f h1).1
     ·exact hs.s8 q f h1
   ·have hq : c.n + 1 <= q := hq
    show (if q = c.n then _ else c.ρ q) = _
    rw [if_neg (by omega)]; exact hs.Xn q (by omega)
   ·show (if c.n = c.n then _ else _) = _
    rw [if_pos rfl]
   ·rw [Ky, if_pos rfl]
   ·rw [Ky, if_neg (by omega), if_pos rfl] at hg
    exact (hA g hg).1
theorem YP {c2 : Cx} {h' : A0} {s2 : O0} (hs : T3 c2 h' s2) {p i o : Nat} {B0 : List FT} {es : List (List D)} (hp : s2.get p = .p0 B0 es (some i)) {sv v : VV} {ps : List VV} (hρ : c2.ρ p = .tuple (sv :: ps)) (Qs : ps[i]? = some v) (ho : c2.ρ o = v) {R : Type} {K : O0 -> Option R} {r : R} (hb : My p B0 es i o s2 K = some r) :
  ∃ c4 s3, K s3 = some r /\ T3 c4 h' s3 /\ c4.n = c2.n /\ c4.ρ = c2.ρ /\ (∀ f, c2.K f -> c4.K f) /\ (∀ f, c4.K f -> c2.K f \/ ∃ q, c2.φ q f) /\ (∀ q f, c4.φ q f -> if q = p then c2.φ p f \/ c2.φ o f else c2.φ q f) := by
 unfold My at hb
 split at hb
 ·rename_i cs Q3
  split at hb
  ·rename_i ds hd Ds
   have hb : K (((freeze s2 cs).T8 p (.p0 B0 (setAt es i ds) none)).T8 o .X8) = some r := hb
   obtain ⟨c3, b, k, xs, s3, l3, n3, r3, p3, xR, hφ, hg, P8, Ep, B2, CU, C7, M3⟩ := NF hs Q3 hd Ds
   have jq : (freeze s2 cs).get p = .p0 B0 es (some i) := Kf hp
   have It : p ≠ o := fun e => by subst e; rw [Q3] at hp; cases hp
   have KX : p < (freeze s2 cs).len := O0.CR (by rw [jq]; simp)
   have cJ : o < (freeze s2 cs).len := by rw [Au]; exact O0.CR (by rw [Q3]; simp)
   have sb : c3.φ o k.Q1 := L5 hφ
   rcases BP s3 jq with ⟨_, _, _, e1⟩ | ⟨bm, i0, n, cp, z, km, kq, fs, O9, HV, Oi, BV, Gt, ZW, h0, TF, LC, Qv, Kb, JV, Lc⟩
   ·cases e1
   ·rw [r3, hρ] at O9
    simp only [VV.tuple.injEq, List.cons.injEq] at O9
    obtain ⟨rfl, rfl⟩ := O9
    have IZ : c3.φ p km.Q1 := by rw [HV]; exact .inl rfl
    have cW : ∀ j f, fs j = some f -> c3.φ p f := fun j f hf => by rw [HV]; exact .inr ⟨j, hf⟩
    have oe : i < es.length := by rw [<- Lc.len]; exact (List.getElem?_eq_some_iff.1 Qs).1
    have hv : v = .ptr b 0 0 := ho.symm.trans xR
    subst hv
    have qm : ps.set i (.ptr b 0 0) = ps := by
     apply List.ext_getElem?
     intro j
     rw [List.getElem?_set]
     split
     ·rename_i e; subst e
      rw [if_pos (List.getElem?_eq_some_iff.1 Qs).1, Qs]
     ·rfl
    have UG : k.Q1 ≠ km.Q1 := fun e => It (s3.Ax p o _ (by rw [e]; exact IZ) sb)
    have wP := Lc.set (fun j hj => by simp only [U0] at hj; exact hj.symm) oe hg P8 Ep B2 CU C7 M3 (fun j _ hj => It (s3.Ax p o _ (cW j _ hj) sb))
    rw [qm] at wP
    refine ⟨⟨c3.n, c3.ρ, c3.K, fun q => if q = o then BF else if q = p then (fun f => f = km.Q1 \/ ∃ j, (fun j => if j = i then some k.Q1 else fs j) j = some f) else c3.φ q⟩, _, hb, ?_, n3, r3, l3.K, fun f hf => ?_, fun q f hf => ?_⟩
    ·have hA : ∀ f, (f = km.Q1 \/ ∃ j, (fun j => if j = i then some k.Q1 else fs j) j = some f) -> c3.φ p f \/ c3.φ o f := fun f hf => by
      rcases hf with rfl | ⟨j, hj⟩
      ·exact .inl IZ
      ·simp only at hj
       split at hj
       ·simp only [U0] at hj; subst hj; exact .inr sb
       ·exact .inl (cW j f hj)
     refine ⟨hs.wf, by rw [O0.V4, O0.V4]; exact s3.len, fun q => ?_, fun q q' f h1 h2 => ?_, fun q f h1 hK => ?_, fun q f h1 => ?_, s3.Rc, s3.Xn⟩
     ·rw [O0.C4, O0.V4, O0.C4]
      show RO _ _ _ (c3.ρ q) (if q = o then BF else if q = p then _ else c3.φ q)
      by_cases jk : q = o
      ·rw [if_pos ⟨jk, cJ⟩, if_pos jk]; exact .X8 _
      ·rw [if_neg (fun hh => jk hh.1), if_neg jk]
       by_cases ly : q = p
       ·subst ly
        rw [if_pos ⟨rfl, KX⟩, if_pos rfl, r3, hρ]
        refine .p0 B0 (es.set i ds) none bm i0 n cp z km ps _ Oi BV Gt ZW h0 (by simp [TF]) LC Qv Kb (fun j f hf => ?_) wP
        split at hf
        ·simp only [U0] at hf; subst hf; exact UG
        ·exact JV j f hf
       ·rw [if_neg (fun hh => ly hh.1), if_neg ly]
        refine RO.jd ?_ ?_ ?_ (s3.obj q)
        ·rfl
        ·rfl
        ·exact fun _ h => h
     ·have h1 : (if q = o then BF else if q = p then (fun f => f = km.Q1 \/ ∃ j, (fun j => if j = i then some k.Q1 else fs j) j = some f) else c3.φ q) f := h1
      have h2 : (if q' = o then BF else if q' = p then (fun f => f = km.Q1 \/ ∃ j, (fun j => if j = i then some k.Q1 else fs j) j = some f) else c3.φ q') f := h2
      by_cases a1 : q = o
      ·rw [if_pos a1] at h1; cases h1
      by_cases a2 : q' = o
      ·rw [if_pos a2] at h2; cases h2
      rw [if_neg a1] at h1
      rw [if_neg a2] at h2
      by_cases b1 : q = p <;> by_cases b2 : q' = p
      ·omega
      ·rw [if_pos b1] at h1; rw [if_neg b2] at h2
       rcases hA f h1 with h3 | h3
       ·exact absurd (s3.Ax q' p f h2 h3) b2
       ·exact absurd (s3.Ax q' o f h2 h3) a2
      ·rw [if_neg b1] at h1; rw [if_pos b2] at h2
       rcases hA f h2 with h3 | h3
       ·exact absurd (s3.Ax q p f h1 h3) b1
       ·exact absurd (s3.Ax q o f h1 h3) a1
      ·rw [if_neg b1] at h1; rw [if_neg b2] at h2; exact s3.Ax q q' f h1 h2
     ·have h1 : (if q = o then BF else if q = p then (fun f => f = km.Q1 \/ ∃ j, (fun j => if j = i then some k.Q1 else fs j) j = some f) else c3.φ q) f := h1
      split at h1
      ·cases h1
      ·split at h1
       ·rcases hA f h1 with h3 | h3
        ·exact s3.EJ p f h3 hK
        ·exact s3.EJ o f h3 hK
       ·exact s3.EJ q f h1 hK
     ·have h1 : (if q = o then BF else if q = p then (fun f => f = km.Q1 \/ ∃ j, (fun j => if j = i then some k.Q1 else fs j) j = some f) else c3.φ q) f := h1
      split at h1
      ·cases h1
      ·split at h1
       ·rcases hA f h1 with h3 | h3
        ·exact s3.s8 p f h3
        ·exact s3.s8 o f h3
       ·exact s3.s8 q f h1
    ·rcases l3.Gf f hf with h1 | h1 | h1
     ·exact .inl h1
     ·have := s3.Rc f hf; omega
     ·exact .inr h1
    ·have hf : (if q = o then BF else if q = p then (fun f => f = km.Q1 \/ ∃ j, (fun j => if j = i then some k.Q1 else fs j) j = some f) else c3.φ q) f := hf
     split at hf
     ·cases hf
     ·split at hf
      ·rename_i e
       rw [if_pos e]
       rcases hf with rfl | ⟨j, hj⟩
       ·exact .inl (p3 p _ IZ)
       ·simp only at hj
        split at hj
        ·simp only [U0] at hj; subst hj; exact .inr (p3 o _ sb)
        ·exact .inl (p3 p _ (cW j f hj))
      ·rename_i e
       rw [if_neg e]; exact p3 q f hf
  ·cases hb
 ·cases hb
theorem M4 {g : FuncId} {told : J1} (ht : N3 P g told) : N3 P g (OS told) := by
 intro R args s K r hu c h J4 hs hr
 unfold OS at hu
 split at hu
 ·rename_i p i rest
  split at hu
  ·rename_i B0 es hp
   have hp := J8 hp
   simp only [R7] at hu
   split at hu
   ·rename_i Ds
    match J4, hr.1, hr with
    | v :: vs, _, hr =>
     have hv := hr.head
     obtain ⟨sv, ps, hρ, Qs⟩ : ∃ sv ps, c.ρ p = .tuple (sv :: ps) /\ ps[i]? = some v := by
      cases hv with
      | pp _ _ b sv ps Ob hρ Qs => exact ⟨sv, ps, hρ, Qs⟩
     have Ob : p < c.n := by rw [<- hs.len]; exact O0.CR (by rw [hp]; simp)
     obtain ⟨c1, f0, s1, l1, n1, v1, f1, f2, f3⟩ := YO hs hp hv
     have UC : E4 c1 h.get (.ptr s.len 0 :: rest) (v :: vs) := by
      refine E4.cons ?_ (hr.tail.O4 l1 (fun _ _ h => h))
      cases hv with
      | pp _ _ b sv ps Ob hρ Qs => exact .ptr _ _ b (by rw [n1, hs.len]; exact Nat.lt_succ_self _) (by rw [hs.len]; exact v1)
     refine (Xm ht hu s1 UC).mono ?_
     rintro w h' ⟨u, s2, c2, q1, q2, q3, q5, q4⟩
     ·have mH : ((s.T8 p (.p0 B0 es (some i))).push (.obj (L9 0 B0 (elem i es)))).len = c.n + 1 := by rw [O0.CT, O0.V4, hs.len]
      have oX : s2.get p = .p0 B0 es (some i) := by
       rw [q5 p (by rw [mH]; omega) (fun hm => by rw [Fi.2 hm] at Ds; cases Ds), O0.V0, O0.V4, if_neg (by rw [hs.len]; omega), O0.C4, if_pos ⟨rfl, by rw [hs.len]; exact Ob⟩]
      have O9 : c2.ρ p = .tuple (sv :: ps) := by rw [q3.ρ p (by rw [n1]; omega), l1.ρ p Ob]; exact hρ
      have Od : c2.ρ s.len = v := by rw [q3.ρ s.len (by rw [n1, hs.len]; exact Nat.lt_succ_self _), hs.len]; exact v1
      obtain ⟨c4, s3, q4, r1, r2, r3, r4, r5, r6⟩ := YP q1 oX O9 Qs Od q4
      have Gu : u0 c h c2 h' c.L7 := by
       have tA : u0 c1 h c2 h' c1.L7 := q3.mono (fun f ⟨o, _, ho⟩ => ⟨o, ho⟩)
       exact (l1.mono (fun _ h => h.elim)).trans' tA hs.wf
      have hold : ∀ o f, o < c.n -> c4.φ o f -> c.φ o f := fun o f ho hf => by
       have h6 := r6 o f hf
       split at h6
       ·rename_i e; subst e
        rcases h6 with h7 | h7
        ·exact Gu.Aa o f ho h7
        ·have h8 := q3.Aa s.len f (by rw [n1, hs.len]; exact Nat.lt_succ_self _) h7
         rw [hs.len] at h8
         rw [oneOf f1 h8]; exact f2
       ·exact Gu.Aa o f ho h6
      refine ⟨u, s3, c4, r1, q2.az r2.symm r3.symm r4, ⟨by rw [r2]; exact Gu.n, fun o ho => by rw [r3]; exact Gu.ρ o ho, fun f hf => r4 f (Gu.K f hf), Gu.next, Gu.same, Gu.Q1, Gu.mp, fun f hf => ?_, fun o f hf => ?_, hold⟩, q4⟩
      ·rcases r5 f hf with h6 | ⟨q, h6⟩
       ·exact Gu.Gf f h6
       ·rcases Gu.n8 q f h6 with h7 | h7
        ·exact .inr (.inl h7)
        ·exact .inr (.inr h7)
      ·have h6 := r6 o f hf
       split at h6
       ·rcases h6 with h7 | h7
        ·exact Gu.n8 p f h7
        ·exact Gu.n8 s.len f h7
       ·exact Gu.n8 o f h6
   ·cases hu
  ·cases hu
 ·exact ht R args s K r hu c h J4 hs hr
end
universe u
noncomputable def shut {α : Sort u} (a : α) : α := Classical.choose (⟨a, rfl⟩ : ∃ b, b = a)
theorem O2 {α : Sort u} (a : α) : shut a = a := Classical.choose_spec (⟨a, rfl⟩ : ∃ b, b = a)
end Go.Proofs.Ythlbahcggmbfaaa.V
