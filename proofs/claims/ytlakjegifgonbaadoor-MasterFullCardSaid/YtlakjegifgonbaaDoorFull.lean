/- WHAT IS PROVED: the call of MasterFull answers true, and leaves its arguments as they were, at every input that the given row takes; the card ties the row's package variables to the program's text. No condition of its own. -/
import Derived.Test.YtlakjegifgonbaaDoorMid1
import Derived.Test.YtlakjegifgonbaaDoorRows
import Derived.Test.YtlakjegifgonbaaDoorChecked
import Derived.ProofKit
import Derived.Test.YtlakjegifgonbaaDoorTie
import Derived.Test.YtlakjegifgonbaaDoorCards
import Derived.SevenTiedAt
set_option linter.unusedVariables false
set_option linter.unusedSimpArgs false

/- Where V's law of function 7 stands, the given row stands. -/
namespace Go.Proofs.YtlakjegifgonbaaDoor
open Go.ChangeShapes Go.WideShapes Go.ChangeAt Go.RowKit

set_option maxRecDepth 100000 in
theorem full_lifted (law : V.Law Tryd.prog 7 Tryd.f7.params.toList) (os : Os) (started : os.Started) (H : Type) (enc : TypeId × Value → H) :
    ReturnsInHanded {} Tryd.checked os 7 .any (fun w args => (Rows.masterFullSpec.pre enc Tryd.prog Tryd.f7 Rows.masterFullRow.domain false w args ∧ laidMetH Tryd.prog Rows.masterFullRow.laid w) ∧ sizedMet enc Tryd.prog Tryd.f7 (OpenSpec.ofChange Rows.masterFullSpec) false w args) (Rows.masterFullSpec.post enc Tryd.prog Tryd.f7 false true false false) := by
  refine V.lift_and (C := Tryd.checked) (X := fun w _ => laidMetH Tryd.prog Rows.masterFullRow.laid w) enc Tryd.own started (by kernel_rfl) Tryd.func7
    (ChangeSpec.witness_at (enc := enc) (C := Tryd.checked) (X := fun w _ => laidMetH Tryd.prog Rows.masterFullRow.laid w) false (laidWorld os) #[.int .i64 0, .int .i64 0, .bool false] 8 rfl (by kernel_rfl) (by kernel_rfl) (by kernel_rfl) (by kernel_rfl) (by kernel_rfl) (laid_met os _)) rfl (fun ds h => ?_) rfl (by kernel_rfl) Tryd.laidOut (by kernel_rfl) law
  have h : ds.length = 3 := h
  match ds, h with
  | [d1, d2, d3], _ => rfl

theorem full_join (law : V.Law Tryd.prog 7 Tryd.f7.params.toList) : Rows.MasterFullSaid :=
  OpenClaim.holds_of_wide 7 Tryd.f7 rfl rfl rfl rfl rfl rfl rfl ⟨rfl, rfl, rfl, rfl, rfl⟩ rfl rfl rfl rfl rfl (by kernel_rfl) Tryd.func7 (by kernel_rfl)
    (of_decide_eq_true (by kernel_rfl)) (by unfold Func.isWrapper; first | (rw [if_pos (by decide +kernel)]; kernel_rfl) | (rw [if_neg (by decide +kernel)]; exact ⟨rfl, rfl⟩))
    (fun os started H enc _ => full_lifted law os started H enc)

end Go.Proofs.YtlakjegifgonbaaDoor

/- Printed by ugen: daisychain/daisychainlaw13.MasterBeside -/
namespace Go.Proofs.YtlakjegifgonbaaDoor.V
set_option maxRecDepth 100000
set_option maxHeartbeats 4000000


noncomputable def code8 : Code := match Tryd.f8.body with | some c => c | none => .skip
theorem a8_58 : codeAt code8 58 = some (.loop (loopBody (codeAt code8 58))) := by kernel_rfl
noncomputable def F8_58 {R : Type} (fu : Nat) (l : List (List D)) (x : List (List D)) (x1 : Int) : Nat → Int → (Option R) → (Option R) → Option R
  | 0, _, _, _ => none
  | n + 1, x2, k0, k1 => bif decide (x2 < x1) then bif within x2 x.length then bif decide ((cell 0 (elem x2.toNat x)).toInt < 0) then F10 fu ((k0)) else F21 fu l (cell 0 (elem x2.toNat x)).toInt fun o_0 => bif !decide (o_0 = x2) then F10 fu ((k0)) else (F8_58 fu l x x1 n (IntKind.i64.wrap (x2 + 1)) k0 k1) else none else (k1)

noncomputable def t8_58 (fu n : Nat) : ToldP := fun _ e s K => match e, s with
  | [.fz zq0 l false, .int .i64 node, .fz zq1 x false, .int .i64 x1, .int .i64 x2], [] => (match FT.sames zq0 ft0 with | true => (match FT.sames zq1 ft0 with | true => F8_58 fu l x x1 n x2 (K .ret (unpackM (bitsM 5 0x13) [.fz ft0 (l) false, .int .i64 (node), .bool (true)]) []) (K (.exit 0) (unpackM (bitsM 5 0x3) [.fz ft0 (l) false, .int .i64 (node)]) []) | false => none) | false => none)
  | _, _ => none

noncomputable def pc8_58 (fu : Nat) : Nat → Option ToldP := fun _ => none
theorem e8_58 (fu n : Nat) (R : Type) (K : VExit → UEnv → USt → Option R) (l : List (List D)) (node : Int) (x : List (List D)) (x1 : Int) (x2 : Int) :
    F8_58 fu l x x1 (n + 1) x2 (K .ret (unpackM (bitsM 5 0x13) [.fz ft0 (l) false, .int .i64 (node), .bool (true)]) []) (K (.exit 0) (unpackM (bitsM 5 0x3) [.fz ft0 (l) false, .int .i64 (node)]) []) = uexec Tryd.prog (tb10 fu) 300 (pc8_58 fu) 116 (loopBody (codeAt code8 58)) (unpackM (bitsM 18 0x38003) [.fz ft0 l false, .int .i64 node, .fz ft0 x false, .int .i64 x1, .int .i64 x2]) [] (loopK 0 [.live (bitsM 18 0x38003), .fzP 0 [] ft0, .fzP 15 [] ft0, .gc] [.live (bitsM 5 0x13), .gc] (pkP (bitsM 18 0x38003) (t8_58 fu n)) K) := by kernel_rfl

theorem p8_58 (fu : Nat) : SoundPc Tryd.prog 0 code8 (pc8_58 fu) := SoundPc.none _ _ _
theorem s8_58 (fu : Nat) : ∀ n, SoundP Tryd.prog 0 (.loop (loopBody (codeAt code8 58))) (pkP (bitsM 18 0x38003) (t8_58 fu n)) := by
  refine loopP_sound (gin := [.live (bitsM 18 0x38003), .fzP 0 [] ft0, .fzP 15 [] ft0, .gc]) (gout := [.live (bitsM 5 0x13), .gc]) (k := 300) (tb10_sound fu) (p8_58 fu) (by decide) a8_58 (fun R e s K => ?_) (fun n R e s K r h => ?_)
  · unfold t8_58; repeat' split
    all_goals rfl
  · unfold t8_58 at h; split at h
    case h_2 => cases h
    split at h
    case h_2 => cases h
    rename_i hq
    have hq := FT.sames_eq _ _ hq
    subst hq
    split at h
    case h_2 => cases h
    rename_i hq
    have hq := FT.sames_eq _ _ hq
    subst hq
    exact (e8_58 fu n R K _ _ _ _ _).symm.trans h


noncomputable def Fb8 {R : Type} (fu : Nat) (l : List (List D)) (node : Int) (k0 : Bool → Option R) : Option R :=
  bif decide (20 < ofN l.length) then F10 fu ((k0 true)) else F8_58 fu l l (ofN l.length) fu 0 ((k0 true)) (F21 fu l node fun o_0 => bif decide (0 ≤ o_0) then bif decide (IntKind.i64.wrap (o_0 + 1) < ofN l.length) then bif within (IntKind.i64.wrap (o_0 + 1)) l.length then bif decide (0 < o_0) then bif within (IntKind.i64.wrap (o_0 - 1)) l.length then F18 fu [D.int 0, D.row l, D.bool false] node fun o_1 => bif decide (o_1 = o_0) then F22 fu [D.int 0, D.row l, D.bool false] node fun o_2 => bif decide (o_2 = (cell 0 (elem (IntKind.i64.wrap (o_0 + 1)).toNat l)).toInt) then F23 fu [D.int 0, D.row l, D.bool false] node fun o_3 => bif decide (o_3 = (cell 0 (elem (IntKind.i64.wrap (o_0 - 1)).toNat l)).toInt) then F10 fu ((k0 true)) else (k0 false) else (k0 false) else (k0 false) else none else F18 fu [D.int 0, D.row l, D.bool false] node fun o_4 => bif decide (o_4 = o_0) then F22 fu [D.int 0, D.row l, D.bool false] node fun o_5 => bif decide (o_5 = (cell 0 (elem (IntKind.i64.wrap (o_0 + 1)).toNat l)).toInt) then F23 fu [D.int 0, D.row l, D.bool false] node fun o_6 => bif decide (o_6 = -1) then F10 fu ((k0 true)) else (k0 false) else (k0 false) else (k0 false) else none else bif decide (0 < o_0) then bif within (IntKind.i64.wrap (o_0 - 1)) l.length then F18 fu [D.int 0, D.row l, D.bool false] node fun o_7 => bif decide (o_7 = o_0) then F22 fu [D.int 0, D.row l, D.bool false] node fun o_8 => bif decide (o_8 = -1) then F23 fu [D.int 0, D.row l, D.bool false] node fun o_9 => bif decide (o_9 = (cell 0 (elem (IntKind.i64.wrap (o_0 - 1)).toNat l)).toInt) then F10 fu ((k0 true)) else (k0 false) else (k0 false) else (k0 false) else none else F18 fu [D.int 0, D.row l, D.bool false] node fun o_10 => bif decide (o_10 = o_0) then F22 fu [D.int 0, D.row l, D.bool false] node fun o_11 => bif decide (o_11 = -1) then F23 fu [D.int 0, D.row l, D.bool false] node fun o_12 => bif decide (o_12 = -1) then F10 fu ((k0 true)) else (k0 false) else (k0 false) else (k0 false) else bif decide (0 < o_0) then bif within (IntKind.i64.wrap (o_0 - 1)) l.length then F18 fu [D.int 0, D.row l, D.bool false] node fun o_13 => bif decide (o_13 = o_0) then F22 fu [D.int 0, D.row l, D.bool false] node fun o_14 => bif decide (o_14 = -1) then F23 fu [D.int 0, D.row l, D.bool false] node fun o_15 => bif decide (o_15 = (cell 0 (elem (IntKind.i64.wrap (o_0 - 1)).toNat l)).toInt) then F10 fu ((k0 true)) else (k0 false) else (k0 false) else (k0 false) else none else F18 fu [D.int 0, D.row l, D.bool false] node fun o_16 => bif decide (o_16 = o_0) then F22 fu [D.int 0, D.row l, D.bool false] node fun o_17 => bif decide (o_17 = -1) then F23 fu [D.int 0, D.row l, D.bool false] node fun o_18 => bif decide (o_18 = -1) then F10 fu ((k0 true)) else (k0 false) else (k0 false) else (k0 false))

noncomputable def F8 {R : Type} (fu : Nat) (l : List (List D)) (node : Int) (k0 : Bool → Option R) : Option R := shut (@Fb8 R) fu l node k0
theorem F8_eq {R : Type} (fu : Nat) (l : List (List D)) (node : Int) (k0 : Bool → Option R) : F8 fu l node k0 = Fb8 fu l node k0 := by unfold F8; rw [shut_eq]

noncomputable def pc8 (fu : Nat) : Nat → Option ToldP := fun p => match Nat.beq p 58 with | true => some (ghP 0 [.live (bitsM 18 0x38003), .fzP 0 [] ft0, .fzP 15 [] ft0, .gc] (pkP (bitsM 18 0x38003) (t8_58 fu fu))) | false => none
noncomputable def t8 (fu : Nat) : ToldF := fun _ args s K => match args, s with
  | [.fz zq0 l false, .int .i64 node], [] => (match FT.sames zq0 ft0 with | true => F8 fu l node (fun o_ => K (.bool o_) []) | false => none)
  | _, _ => none

theorem e8 (R : Type) (K : UV → USt → Option R) (fu : Nat) (l : List (List D)) (node : Int) :
    F8 fu l node (fun o_ => K (.bool o_) []) = ufun Tryd.prog ⟨(tb10 fu), pc8 fu⟩ 300 8 [.fz ft0 l false, .int .i64 node] [] (funK 0 [.gc] K) := (F8_eq fu _ _ _).trans (by kernel_rfl)

theorem s8 (fu : Nat) : Tells Tryd.prog 8 (t8 fu) := by
  refine ufun_sound (T := ⟨(tb10 fu), pc8 fu⟩) (m := 0) (gout := [.gc]) (k := 300) (tb10_sound fu) (fun fn body hf hb => ?_) (fun R args s K r h => ?_) (fun R args s K r h => ?_)
  · have hc : body = code8 := by
      have h1 : Tryd.prog.funcs[8]? = some Tryd.f8 := rfl
      rw [h1] at hf; cases hf
      have h2 : Tryd.f8.body = some code8 := rfl
      rw [h2] at hb; cases hb; rfl
    subst hc
    exact fun p told h b hb => by
      replace h : pc8 fu p = some told := h
      unfold pc8 at h
      split at h
      · rename_i hp
        cases h
        have := Nat.eq_of_beq_eq_true hp
        subst this
        rw [a8_58] at hb
        cases hb
        exact ghP_sound (s8_58 fu _)
      ·
        cases h

  · unfold t8 at h; split at h
    · rfl
    · cases h
  · unfold t8 at h; split at h
    case h_2 => cases h
    split at h
    case h_2 => cases h
    rename_i hq
    have hq := FT.sames_eq _ _ hq
    subst hq
    exact (e8 R K fu _ _).symm.trans h

noncomputable def tb8 (fu : Nat) : FuncId → Option (Bool × ToldF) := fun f => match Nat.beq f 8 with
  | true => some (false, ghG [.fzP 0 [] ft0] (t8 fu))
  | false => (tb10 fu) f
theorem tb8_sound (fu : Nat) : SoundF' Tryd.prog (tb8 fu) := by
  intro f own told h
  unfold tb8 at h
  split at h
  · rename_i hb
    cases h
    have := Nat.eq_of_beq_eq_true hb
    subst this
    exact ghG_sound (s8 fu)
  · exact (tb10_sound fu) f own told h

end Go.Proofs.YtlakjegifgonbaaDoor.V

/- Printed by ugen: daisychain/daisychainlaw13.MasterFull -/
namespace Go.Proofs.YtlakjegifgonbaaDoor.V
set_option maxRecDepth 100000
set_option maxHeartbeats 4000000


noncomputable def code7 : Code := match Tryd.f7.body with | some c => c | none => .skip

noncomputable def Fb7 {R : Type} (fu : Nat) (first : Int) (next : Int) (full : Bool) (k0 : Bool → Option R) : Option R :=
  F11 fu (bif decide (first < 0) then F10 fu ((k0 true)) else bif decide (99 < first) then F10 fu ((k0 true)) else bif decide (next < 0) then F10 fu ((k0 true)) else bif decide (99 < next) then F10 fu ((k0 true)) else bif decide (first = next) then F10 fu ((k0 true)) else F14 fu [D.int 0, D.int 0, D.int 0, D.int 0, D.row [[D.int first]]] [] fun o_0 o_1 => F14 fu [D.int 2, D.int 0, D.int 1, D.int next, D.row []] o_1 fun o_2 o_3 => bif full then F14 fu [D.int 3, D.int 0, D.int 2, D.int next, D.row []] o_3 fun o_4 o_5 => bif !decide (o_4 = 0) then (k0 false) else F14 fu [D.int 1, D.int 0, D.int 2, D.int first, D.row []] o_5 fun o_6 o_7 => F16 fu 0 o_7 fun o_8 o_9 => bif full then bif decide (o_0 = 0) then bif decide (o_2 = 0) then bif decide (o_6 = 0) then bif decide ((cell 0 o_8).toInt = 3) then bif decide (ofN (cell 1 o_8).toRows.length = 1) then bif within 0 (cell 1 o_8).toRows.length then bif decide ((cell 0 (elem 0 (cell 1 o_8).toRows)).toInt = next) then bif !(cell 2 o_8).toBool then F10 fu ((k0 true)) else (k0 false) else (k0 false) else none else (k0 false) else (k0 false) else (k0 false) else (k0 false) else (k0 false) else bif decide (o_0 = 0) then bif decide (o_2 = 0) then bif decide (o_6 = 9) then bif decide ((cell 0 o_8).toInt = 2) then bif (cell 2 o_8).toBool then F10 fu ((k0 true)) else (k0 false) else (k0 false) else (k0 false) else (k0 false) else (k0 false) else F14 fu [D.int 1, D.int 0, D.int 2, D.int first, D.row []] o_3 fun o_10 o_11 => F16 fu 0 o_11 fun o_12 o_13 => bif full then bif decide (o_0 = 0) then bif decide (o_2 = 0) then bif decide (o_10 = 0) then bif decide ((cell 0 o_12).toInt = 3) then bif decide (ofN (cell 1 o_12).toRows.length = 1) then bif within 0 (cell 1 o_12).toRows.length then bif decide ((cell 0 (elem 0 (cell 1 o_12).toRows)).toInt = next) then bif !(cell 2 o_12).toBool then F10 fu ((k0 true)) else (k0 false) else (k0 false) else none else (k0 false) else (k0 false) else (k0 false) else (k0 false) else (k0 false) else bif decide (o_0 = 0) then bif decide (o_2 = 0) then bif decide (o_10 = 9) then bif decide ((cell 0 o_12).toInt = 2) then bif (cell 2 o_12).toBool then F10 fu ((k0 true)) else (k0 false) else (k0 false) else (k0 false) else (k0 false) else (k0 false))

noncomputable def F7 {R : Type} (fu : Nat) (first : Int) (next : Int) (full : Bool) (k0 : Bool → Option R) : Option R := shut (@Fb7 R) fu first next full k0
theorem F7_eq {R : Type} (fu : Nat) (first : Int) (next : Int) (full : Bool) (k0 : Bool → Option R) : F7 fu first next full k0 = Fb7 fu first next full k0 := by unfold F7; rw [shut_eq]

noncomputable def pc7 (fu : Nat) : Nat → Option ToldP := fun _ => none
noncomputable def t7 (fu : Nat) : ToldF := fun _ args s K => match args, s with
  | [.int .i64 first, .int .i64 next, .bool full], [] => F7 fu first next full (fun o_ => K (.bool o_) [])
  | _, _ => none

theorem e7 (R : Type) (K : UV → USt → Option R) (fu : Nat) (first : Int) (next : Int) (full : Bool) :
    F7 fu first next full (fun o_ => K (.bool o_) []) = ufun Tryd.prog ⟨(tb8 fu), pc7 fu⟩ 300 7 [.int .i64 first, .int .i64 next, .bool full] [] (funK 0 [.gc] K) := (F7_eq fu _ _ _ _).trans (by kernel_rfl)

theorem s7 (fu : Nat) : Tells Tryd.prog 7 (t7 fu) := by
  refine ufun_sound (T := ⟨(tb8 fu), pc7 fu⟩) (m := 0) (gout := [.gc]) (k := 300) (tb8_sound fu) (fun fn body hf hb => ?_) (fun R args s K r h => ?_) (fun R args s K r h => ?_)
  · have hc : body = code7 := by
      have h1 : Tryd.prog.funcs[7]? = some Tryd.f7 := rfl
      rw [h1] at hf; cases hf
      have h2 : Tryd.f7.body = some code7 := rfl
      rw [h2] at hb; cases hb; rfl
    subst hc
    exact SoundPc.none _ _ _
  · unfold t7 at h; split at h
    · rfl
    · cases h
  · unfold t7 at h; split at h
    case h_2 => cases h
    exact (e7 R K fu _ _ _).symm.trans h

noncomputable def tb7 (fu : Nat) : FuncId → Option (Bool × ToldF) := fun f => match Nat.beq f 7 with
  | true => some (false, ghG [] (t7 fu))
  | false => (tb8 fu) f
theorem tb7_sound (fu : Nat) : SoundF' Tryd.prog (tb7 fu) := by
  intro f own told h
  unfold tb7 at h
  split at h
  · rename_i hb
    cases h
    have := Nat.eq_of_beq_eq_true hb
    subst this
    exact ghG_sound (s7 fu)
  · exact (tb8_sound fu) f own told h

end Go.Proofs.YtlakjegifgonbaaDoor.V

/- From the plain law of function 7 to V's. -/
namespace Go.Proofs.YtlakjegifgonbaaDoor.V

theorem law7 (fu : Nat) (H : ∀ (ds1 ds2 ds3 : List D), WFDs [FT.int IntKind.i64] ds1 → WFDs [FT.int IntKind.i64] ds2 → WFDs [FT.bool] ds3 → F7 fu ((cell 0 ds1).toInt) ((cell 0 ds2).toInt) ((cell 0 ds3).toBool) (fun o => some o) = some true) : Law Tryd.prog 7 Tryd.f7.params.toList := by
  refine law_of_told (by kernel_rfl) (by kernel_rfl) seatX_sound (s7 fu) (fun dss hw => ?_)
  have hts : Tryd.f7.params.toList = [3, 3, 4] := rfl
  rw [hts] at hw
  cases hw with
  | cons t1 ts1 fts1 ds1 dss1 hf1 hd1 hr1 =>
    have e1 : flat Tryd.prog 20 3 = some [FT.int IntKind.i64] := by kernel_rfl
    rw [e1] at hf1; cases hf1
    cases hr1 with
    | cons t2 ts2 fts2 ds2 dss2 hf2 hd2 hr2 =>
      have e2 : flat Tryd.prog 20 3 = some [FT.int IntKind.i64] := by kernel_rfl
      rw [e2] at hf2; cases hf2
      cases hr2 with
      | cons t3 ts3 fts3 ds3 dss3 hf3 hd3 hr3 =>
        have e3 : flat Tryd.prog 20 4 = some [FT.bool] := by kernel_rfl
        rw [e3] at hf3; cases hf3
        cases hr3
        have h1 : t7 fu Bool (argsU Tryd.prog Tryd.f7.params.toList [ds1, ds2, ds3]) [] boolK = F7 fu ((cell 0 ds1).toInt) ((cell 0 ds2).toInt) ((cell 0 ds3).toBool) (fun o => some o) := by kernel_rfl
        exact h1.trans (H ds1 ds2 ds3 hd1 hd2 hd3)
end Go.Proofs.YtlakjegifgonbaaDoor.V

/- master: MasterFull's plain law. -/
namespace Go.Proofs.YtlakjegifgonbaaDoor.V
variable {R : Type}

theorem aDo_some {T : Tb} {kd ep nd : Int} {s : Nat} {mb : List (List D)} {c : Cf} (hk : 1 ≤ kd ∧ kd ≤ 3) (hs : s < 10) (hT : T s = some c) (he : c.e = ep) : aDo T kd (s : Nat) ep nd mb = aOne T s c kd nd := by
  unfold aDo
  rw [if_neg (by omega), if_neg (by omega), Int.toNat_natCast, hT]
  simp only [if_pos he]

theorem upd_same (T : Tb) (k : Nat) (c : Cf) : upd T k c k = some c := by unfold upd; rw [if_pos rfl]

theorem full7 {fu : Nat} (hf : 1100 ≤ fu) (first next : Int) (full : Bool) : F7 fu first next full (fun o => some o) = some true := by
  rw [F7_eq, Fb7, F11_ok]
  by_cases a1 : first < 0
  · rw [lt_true a1, cond_true, F10_ok]
  by_cases a2 : 99 < first
  · rw [lt_false a1, cond_false, lt_true a2, cond_true, F10_ok]
  by_cases a3 : next < 0
  · rw [lt_false a1, cond_false, lt_false a2, cond_false, lt_true a3, cond_true, F10_ok]
  by_cases a4 : 99 < next
  · rw [lt_false a1, cond_false, lt_false a2, cond_false, lt_false a3, cond_false, lt_true a4, cond_true, F10_ok]
  by_cases a5 : first = next
  · rw [lt_false a1, cond_false, lt_false a2, cond_false, lt_false a3, cond_false, lt_false a4, cond_false, eq_true a5, cond_true, F10_ok]
  rw [lt_false a1, cond_false, lt_false a2, cond_false, lt_false a3, cond_false, lt_false a4, cond_false, eq_false a5, cond_false]
  -- the first order
  let m1 : List (List D) := [[D.int first]]
  let m2 : List (List D) := [[D.int first], [D.int next]]
  let T0 : Tb := fun _ => none
  let T1 : Tb := upd T0 0 ⟨1, m1, false⟩
  let T2 : Tb := upd T1 0 ⟨2, m2, true⟩
  have hm1 : memOK (vals m1) = true := (memOK_iff _).2 ⟨⟨by show [first].Nodup; simp, by intro n hn; have hn : n ∈ [first] := hn; simp only [List.mem_singleton] at hn; omega⟩, by show 1 ≤ 1; omega, by show 1 ≤ 7; omega⟩
  have d1 : aDo T0 0 0 0 0 m1 = (0, T1) := by
    unfold aDo
    rw [if_neg (by omega), if_pos rfl]
    show (if memOK (vals m1) = true then ((0, T1) : Int × Tb) else (1, T0)) = _
    rw [if_pos hm1]
  have d2 : aDo T1 2 0 1 next [] = (0, T2) := by
    refine (aDo_some (s := 0) (c := ⟨1, m1, false⟩) (by omega) (by omega) (upd_same _ _ _) rfl).trans ?_
    unfold aOne
    rw [if_neg (by omega), if_pos rfl, if_neg (by omega), if_neg (by show next ∉ [first]; simp; omega), if_neg (by show ¬ (false = true ∨ 7 ≤ 1); simp)]
    rfl
  obtain ⟨es1, r1, k1⟩ := F14_ok hf Rep.nil Good.nil (by omega) 0 0 0 0 m1 (by show 1 ≤ 1000; omega)
  have g1 := good_aDo Good.nil 0 0 0 0 m1
  rw [show aDo (fun _ => none) 0 0 0 0 m1 = (0, T1) from d1] at r1 k1 g1
  obtain ⟨es2, r2, k2⟩ := F14_ok hf r1 g1 (by omega) 2 0 1 next [] (by show 0 ≤ 1000; omega)
  have g2 := good_aDo g1 2 0 1 next []
  rw [show aDo (0, T1).2 2 0 1 next [] = (0, T2) from d2] at r2 k2 g2
  have hv2 : vals m2 = [first, next] := rfl
  rw [k1, k2]
  cases full with
  | true =>
    rw [cond_true]
    let T3 : Tb := upd T2 0 ⟨2, m2, false⟩
    let T4 : Tb := upd T3 0 ⟨3, [[D.int next]], false⟩
    have hn : atI [first, next] next = 1 := by unfold atI ix; rw [if_neg a5]; unfold ix; rw [if_pos rfl]; rfl
    have d3 : aDo T2 3 0 2 next [] = (0, T3) := by
      refine (aDo_some (s := 0) (c := ⟨2, m2, true⟩) (by omega) (by omega) (upd_same _ _ _) rfl).trans ?_
      unfold aOne
      rw [if_neg (by omega), if_neg (by omega), if_neg (by rw [hv2, hn]; show ¬ ¬ (true = true ∧ (1 : Int) = (2 : Nat) - 1); simp)]
    have d4 : aDo T3 1 0 2 first [] = (0, T4) := by
      refine (aDo_some (s := 0) (c := ⟨2, m2, false⟩) (by omega) (by omega) (upd_same _ _ _) rfl).trans ?_
      unfold aOne
      rw [if_pos rfl]
      have hx : ix (vals m2) first = some 0 := by rw [hv2]; unfold ix; rw [if_pos rfl]
      rw [hx]
      simp only
      rw [if_neg (by show ¬ (¬ (false = true ∧ 0 + 1 = 2) ∧ (2 : Nat) < 2); simp)]
      rfl
    obtain ⟨es3, r3, k3⟩ := F14_ok hf r2 g2 (by omega) 3 0 2 next [] (by show 0 ≤ 1000; omega)
    have g3 := good_aDo g2 3 0 2 next []
    rw [show aDo (0, T2).2 3 0 2 next [] = (0, T3) from d3] at r3 k3 g3
    obtain ⟨es4, r4, k4⟩ := F14_ok hf r3 g3 (by omega) 1 0 2 first [] (by show 0 ≤ 1000; omega)
    have g4 := good_aDo g3 1 0 2 first []
    rw [show aDo (0, T3).2 1 0 2 first [] = (0, T4) from d4] at r4 k4 g4
    rw [k3]
    show (bif !decide ((0 : Int) = 0) then some false else _) = _
    rw [decide_eq_true rfl, Bool.not_true, cond_false, k4, show (0 : Int) = ((0 : Nat) : Int) from rfl, F16_ok r4 g4 0, show ((0, T4) : Int × Tb).2 0 = some ⟨3, [[D.int next]], false⟩ from upd_same T3 0 _]
    simp only [cd0, cd1, cd2, F10_ok]
    show (bif decide ((0 : Int) = 0) then bif decide ((0 : Int) = 0) then bif decide ((0 : Int) = 0) then bif decide ((3 : Int) = 3) then bif decide (ofN 1 = 1) then bif within 0 1 then bif decide (next = next) then bif !false then some true else some false else some false else none else some false else some false else some false else some false else some false) = some true
    rw [decide_eq_true (show next = next from rfl), show within 0 1 = true from within_int (by omega) (by omega), decide_eq_true (show ofN 1 = 1 from rfl)]; rfl
  | false =>
    rw [cond_false]
    have d3 : aDo T2 1 0 2 first [] = (9, T2) := by
      refine (aDo_some (s := 0) (c := ⟨2, m2, true⟩) (by omega) (by omega) (upd_same _ _ _) rfl).trans ?_
      unfold aOne
      rw [if_pos rfl]
      have hx : ix (vals m2) first = some 0 := by rw [hv2]; unfold ix; rw [if_pos rfl]
      rw [hx]
      simp only
      have hl2 : m2.length = 2 := rfl
      rw [if_pos (by simp [hl2])]
    obtain ⟨es3, r3, k3⟩ := F14_ok hf r2 g2 (by omega) 1 0 2 first [] (by show 0 ≤ 1000; omega)
    have g3 := good_aDo g2 1 0 2 first []
    rw [show aDo (0, T2).2 1 0 2 first [] = (9, T2) from d3] at r3 k3 g3
    rw [k3, show (0 : Int) = ((0 : Nat) : Int) from rfl, F16_ok r3 g3 0, show ((9, T2) : Int × Tb).2 0 = some ⟨2, m2, true⟩ from upd_same T1 0 _]
    simp only [cd0, cd1, cd2, F10_ok]
    rfl
end Go.Proofs.YtlakjegifgonbaaDoor.V

namespace Go.Proofs.YtlakjegifgonbaaDoor
open Go

theorem full_said : Rows.MasterFullSaid := full_join (V.law7 5000 fun _ _ _ _ _ _ => V.full7 (by omega) _ _ _)

theorem full_holds : Rows.MasterFullCardSaid :=
  Claim7.holds_tied_plain_at .later [] [.data, .data, .data] true (true, "b87f22f0dd4db3f55605e32eef86dd7d0f36a471cf3b4545ddf744cde23c2131") false
    full_said (fun _ h => by cases h) (by kernel_rfl) (fun _ h => by cases h) masterFull_row_tie rfl ⟨rfl, rfl⟩ (by kernel_rfl) rfl
    (fun f fn hf hfn => by
      obtain rfl : f = 7 := Option.some.inj ((show Tryd.prog.funcNamed "daisychain/daisychainlaw13.MasterFull" = some 7 by kernel_rfl).symm.trans hf) |>.symm
      obtain rfl : fn = Tryd.f7 := (Option.some.inj (Tryd.func7.symm.trans hfn)).symm
      exact ⟨by kernel_rfl, fun j t ht => by
        rw [Tryd.params7] at ht
        match j, ht with
        | 0, ht =>
          obtain rfl : 3 = t := Option.some.inj ht
          exact (show Tryd.prog.wantsStandIn 3 = false by kernel_rfl)
        | 1, ht =>
          obtain rfl : 3 = t := Option.some.inj ht
          exact (show Tryd.prog.wantsStandIn 3 = false by kernel_rfl)
        | 2, ht =>
          obtain rfl : 4 = t := Option.some.inj ht
          exact (show Tryd.prog.wantsStandIn 4 = false by kernel_rfl)
        | j + 3, ht => simp at ht⟩)
    (by kernel_rfl)

end Go.Proofs.YtlakjegifgonbaaDoor

