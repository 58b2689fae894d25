/- WHAT IS PROVED: the call of MasterBeside answers true, and leaves its arguments as they were, at every input that the given row takes; the card ties the row's package variables to the program's text. No condition of its own. -/
import Derived.Test.YtlakjegifgonbaaDoorMid1
import Derived.Test.YtlakjegifgonbaaDoorRows
import Derived.Test.YtlakjegifgonbaaDoorChecked
import Derived.ProofKit
import Derived.Test.YtlakjegifgonbaaDoorTie
import Derived.Test.YtlakjegifgonbaaDoorCards
import Derived.SevenTiedAt
set_option linter.unusedVariables false
set_option linter.unusedSimpArgs false

/- Where V's law of function 8 stands, the given row stands. -/
namespace Go.Proofs.YtlakjegifgonbaaDoor
open Go.ChangeShapes Go.WideShapes Go.ChangeAt Go.RowKit

set_option maxRecDepth 100000 in
theorem beside_lifted (law : V.Law Tryd.prog 8 Tryd.f8.params.toList) (os : Os) (started : os.Started) (H : Type) (enc : TypeId × Value → H) :
    ReturnsInHanded {} Tryd.checked os 8 .any (fun w args => (Rows.masterBesideSpec.pre enc Tryd.prog Tryd.f8 Rows.masterBesideRow.domain false w args ∧ laidMetH Tryd.prog Rows.masterBesideRow.laid w) ∧ sizedMet enc Tryd.prog Tryd.f8 (OpenSpec.ofChange Rows.masterBesideSpec) false w args) (Rows.masterBesideSpec.post enc Tryd.prog Tryd.f8 false true false false) := by
  refine V.lift_and (C := Tryd.checked) (X := fun w _ => laidMetH Tryd.prog Rows.masterBesideRow.laid w) enc Tryd.own started (by kernel_rfl) Tryd.func8
    (ChangeSpec.witness_at (enc := enc) (C := Tryd.checked) (X := fun w _ => laidMetH Tryd.prog Rows.masterBesideRow.laid w) false (laidWorld os) #[.slice none 0 0, .int .i64 0] 8 rfl (by kernel_rfl) (by kernel_rfl) (by kernel_rfl) (by kernel_rfl) (by kernel_rfl) (laid_met os _)) rfl (fun ds h => ?_) rfl (by kernel_rfl) Tryd.laidOut (by kernel_rfl) law
  have h : ds.length = 2 := h
  match ds, h with
  | [d1, d2], _ => rfl

theorem beside_join (law : V.Law Tryd.prog 8 Tryd.f8.params.toList) : Rows.MasterBesideSaid :=
  OpenClaim.holds_of_wide 8 Tryd.f8 rfl rfl rfl rfl rfl rfl rfl ⟨rfl, rfl, rfl, rfl, rfl⟩ rfl rfl rfl rfl rfl (by kernel_rfl) Tryd.func8 (by kernel_rfl)
    (of_decide_eq_true (by kernel_rfl)) (by unfold Func.isWrapper; first | (rw [if_pos (by decide +kernel)]; kernel_rfl) | (rw [if_neg (by decide +kernel)]; exact ⟨rfl, rfl⟩))
    (fun os started H enc _ => beside_lifted law os started H enc)

end Go.Proofs.YtlakjegifgonbaaDoor

/- Printed by ugen: daisychain/daisychainlaw13.MasterBeside -/
namespace Go.Proofs.YtlakjegifgonbaaDoor.V
set_option maxRecDepth 100000
set_option maxHeartbeats 4000000


noncomputable def code8 : Code := match Tryd.f8.body with | some c => c | none => .skip
theorem a8_58 : codeAt code8 58 = some (.loop (loopBody (codeAt code8 58))) := by kernel_rfl
noncomputable def F8_58 {R : Type} (fu : Nat) (l : List (List D)) (x : List (List D)) (x1 : Int) : Nat → Int → (Option R) → (Option R) → Option R
  | 0, _, _, _ => none
  | n + 1, x2, k0, k1 => bif decide (x2 < x1) then bif within x2 x.length then bif decide ((cell 0 (elem x2.toNat x)).toInt < 0) then F10 fu ((k0)) else F21 fu l (cell 0 (elem x2.toNat x)).toInt fun o_0 => bif !decide (o_0 = x2) then F10 fu ((k0)) else (F8_58 fu l x x1 n (IntKind.i64.wrap (x2 + 1)) k0 k1) else none else (k1)

noncomputable def t8_58 (fu n : Nat) : ToldP := fun _ e s K => match e, s with
  | [.fz zq0 l false, .int .i64 node, .fz zq1 x false, .int .i64 x1, .int .i64 x2], [] => (match FT.sames zq0 ft0 with | true => (match FT.sames zq1 ft0 with | true => F8_58 fu l x x1 n x2 (K .ret (unpackM (bitsM 5 0x13) [.fz ft0 (l) false, .int .i64 (node), .bool (true)]) []) (K (.exit 0) (unpackM (bitsM 5 0x3) [.fz ft0 (l) false, .int .i64 (node)]) []) | false => none) | false => none)
  | _, _ => none

noncomputable def pc8_58 (fu : Nat) : Nat → Option ToldP := fun _ => none
theorem e8_58 (fu n : Nat) (R : Type) (K : VExit → UEnv → USt → Option R) (l : List (List D)) (node : Int) (x : List (List D)) (x1 : Int) (x2 : Int) :
    F8_58 fu l x x1 (n + 1) x2 (K .ret (unpackM (bitsM 5 0x13) [.fz ft0 (l) false, .int .i64 (node), .bool (true)]) []) (K (.exit 0) (unpackM (bitsM 5 0x3) [.fz ft0 (l) false, .int .i64 (node)]) []) = uexec Tryd.prog (tb10 fu) 300 (pc8_58 fu) 116 (loopBody (codeAt code8 58)) (unpackM (bitsM 18 0x38003) [.fz ft0 l false, .int .i64 node, .fz ft0 x false, .int .i64 x1, .int .i64 x2]) [] (loopK 0 [.live (bitsM 18 0x38003), .fzP 0 [] ft0, .fzP 15 [] ft0, .gc] [.live (bitsM 5 0x13), .gc] (pkP (bitsM 18 0x38003) (t8_58 fu n)) K) := by kernel_rfl

theorem p8_58 (fu : Nat) : SoundPc Tryd.prog 0 code8 (pc8_58 fu) := SoundPc.none _ _ _
theorem s8_58 (fu : Nat) : ∀ n, SoundP Tryd.prog 0 (.loop (loopBody (codeAt code8 58))) (pkP (bitsM 18 0x38003) (t8_58 fu n)) := by
  refine loopP_sound (gin := [.live (bitsM 18 0x38003), .fzP 0 [] ft0, .fzP 15 [] ft0, .gc]) (gout := [.live (bitsM 5 0x13), .gc]) (k := 300) (tb10_sound fu) (p8_58 fu) (by decide) a8_58 (fun R e s K => ?_) (fun n R e s K r h => ?_)
  · unfold t8_58; repeat' split
    all_goals rfl
  · unfold t8_58 at h; split at h
    case h_2 => cases h
    split at h
    case h_2 => cases h
    rename_i hq
    have hq := FT.sames_eq _ _ hq
    subst hq
    split at h
    case h_2 => cases h
    rename_i hq
    have hq := FT.sames_eq _ _ hq
    subst hq
    exact (e8_58 fu n R K _ _ _ _ _).symm.trans h


noncomputable def Fb8 {R : Type} (fu : Nat) (l : List (List D)) (node : Int) (k0 : Bool → Option R) : Option R :=
  bif decide (20 < ofN l.length) then F10 fu ((k0 true)) else F8_58 fu l l (ofN l.length) fu 0 ((k0 true)) (F21 fu l node fun o_0 => bif decide (0 ≤ o_0) then bif decide (IntKind.i64.wrap (o_0 + 1) < ofN l.length) then bif within (IntKind.i64.wrap (o_0 + 1)) l.length then bif decide (0 < o_0) then bif within (IntKind.i64.wrap (o_0 - 1)) l.length then F18 fu [D.int 0, D.row l, D.bool false] node fun o_1 => bif decide (o_1 = o_0) then F22 fu [D.int 0, D.row l, D.bool false] node fun o_2 => bif decide (o_2 = (cell 0 (elem (IntKind.i64.wrap (o_0 + 1)).toNat l)).toInt) then F23 fu [D.int 0, D.row l, D.bool false] node fun o_3 => bif decide (o_3 = (cell 0 (elem (IntKind.i64.wrap (o_0 - 1)).toNat l)).toInt) then F10 fu ((k0 true)) else (k0 false) else (k0 false) else (k0 false) else none else F18 fu [D.int 0, D.row l, D.bool false] node fun o_4 => bif decide (o_4 = o_0) then F22 fu [D.int 0, D.row l, D.bool false] node fun o_5 => bif decide (o_5 = (cell 0 (elem (IntKind.i64.wrap (o_0 + 1)).toNat l)).toInt) then F23 fu [D.int 0, D.row l, D.bool false] node fun o_6 => bif decide (o_6 = -1) then F10 fu ((k0 true)) else (k0 false) else (k0 false) else (k0 false) else none else bif decide (0 < o_0) then bif within (IntKind.i64.wrap (o_0 - 1)) l.length then F18 fu [D.int 0, D.row l, D.bool false] node fun o_7 => bif decide (o_7 = o_0) then F22 fu [D.int 0, D.row l, D.bool false] node fun o_8 => bif decide (o_8 = -1) then F23 fu [D.int 0, D.row l, D.bool false] node fun o_9 => bif decide (o_9 = (cell 0 (elem (IntKind.i64.wrap (o_0 - 1)).toNat l)).toInt) then F10 fu ((k0 true)) else (k0 false) else (k0 false) else (k0 false) else none else F18 fu [D.int 0, D.row l, D.bool false] node fun o_10 => bif decide (o_10 = o_0) then F22 fu [D.int 0, D.row l, D.bool false] node fun o_11 => bif decide (o_11 = -1) then F23 fu [D.int 0, D.row l, D.bool false] node fun o_12 => bif decide (o_12 = -1) then F10 fu ((k0 true)) else (k0 false) else (k0 false) else (k0 false) else bif decide (0 < o_0) then bif within (IntKind.i64.wrap (o_0 - 1)) l.length then F18 fu [D.int 0, D.row l, D.bool false] node fun o_13 => bif decide (o_13 = o_0) then F22 fu [D.int 0, D.row l, D.bool false] node fun o_14 => bif decide (o_14 = -1) then F23 fu [D.int 0, D.row l, D.bool false] node fun o_15 => bif decide (o_15 = (cell 0 (elem (IntKind.i64.wrap (o_0 - 1)).toNat l)).toInt) then F10 fu ((k0 true)) else (k0 false) else (k0 false) else (k0 false) else none else F18 fu [D.int 0, D.row l, D.bool false] node fun o_16 => bif decide (o_16 = o_0) then F22 fu [D.int 0, D.row l, D.bool false] node fun o_17 => bif decide (o_17 = -1) then F23 fu [D.int 0, D.row l, D.bool false] node fun o_18 => bif decide (o_18 = -1) then F10 fu ((k0 true)) else (k0 false) else (k0 false) else (k0 false))

noncomputable def F8 {R : Type} (fu : Nat) (l : List (List D)) (node : Int) (k0 : Bool → Option R) : Option R := shut (@Fb8 R) fu l node k0
theorem F8_eq {R : Type} (fu : Nat) (l : List (List D)) (node : Int) (k0 : Bool → Option R) : F8 fu l node k0 = Fb8 fu l node k0 := by unfold F8; rw [shut_eq]

noncomputable def pc8 (fu : Nat) : Nat → Option ToldP := fun p => match Nat.beq p 58 with | true => some (ghP 0 [.live (bitsM 18 0x38003), .fzP 0 [] ft0, .fzP 15 [] ft0, .gc] (pkP (bitsM 18 0x38003) (t8_58 fu fu))) | false => none
noncomputable def t8 (fu : Nat) : ToldF := fun _ args s K => match args, s with
  | [.fz zq0 l false, .int .i64 node], [] => (match FT.sames zq0 ft0 with | true => F8 fu l node (fun o_ => K (.bool o_) []) | false => none)
  | _, _ => none

theorem e8 (R : Type) (K : UV → USt → Option R) (fu : Nat) (l : List (List D)) (node : Int) :
    F8 fu l node (fun o_ => K (.bool o_) []) = ufun Tryd.prog ⟨(tb10 fu), pc8 fu⟩ 300 8 [.fz ft0 l false, .int .i64 node] [] (funK 0 [.gc] K) := (F8_eq fu _ _ _).trans (by kernel_rfl)

theorem s8 (fu : Nat) : Tells Tryd.prog 8 (t8 fu) := by
  refine ufun_sound (T := ⟨(tb10 fu), pc8 fu⟩) (m := 0) (gout := [.gc]) (k := 300) (tb10_sound fu) (fun fn body hf hb => ?_) (fun R args s K r h => ?_) (fun R args s K r h => ?_)
  · have hc : body = code8 := by
      have h1 : Tryd.prog.funcs[8]? = some Tryd.f8 := rfl
      rw [h1] at hf; cases hf
      have h2 : Tryd.f8.body = some code8 := rfl
      rw [h2] at hb; cases hb; rfl
    subst hc
    exact fun p told h b hb => by
      replace h : pc8 fu p = some told := h
      unfold pc8 at h
      split at h
      · rename_i hp
        cases h
        have := Nat.eq_of_beq_eq_true hp
        subst this
        rw [a8_58] at hb
        cases hb
        exact ghP_sound (s8_58 fu _)
      ·
        cases h

  · unfold t8 at h; split at h
    · rfl
    · cases h
  · unfold t8 at h; split at h
    case h_2 => cases h
    split at h
    case h_2 => cases h
    rename_i hq
    have hq := FT.sames_eq _ _ hq
    subst hq
    exact (e8 R K fu _ _).symm.trans h

noncomputable def tb8 (fu : Nat) : FuncId → Option (Bool × ToldF) := fun f => match Nat.beq f 8 with
  | true => some (false, ghG [.fzP 0 [] ft0] (t8 fu))
  | false => (tb10 fu) f
theorem tb8_sound (fu : Nat) : SoundF' Tryd.prog (tb8 fu) := by
  intro f own told h
  unfold tb8 at h
  split at h
  · rename_i hb
    cases h
    have := Nat.eq_of_beq_eq_true hb
    subst this
    exact ghG_sound (s8 fu)
  · exact (tb10_sound fu) f own told h

end Go.Proofs.YtlakjegifgonbaaDoor.V

/- From the plain law of function 8 to V's. -/
namespace Go.Proofs.YtlakjegifgonbaaDoor.V

theorem law8 (fu : Nat) (H : ∀ (ds1 ds2 : List D), WFDs [FT.row 8 [FT.int IntKind.i64]] ds1 → WFDs [FT.int IntKind.i64] ds2 → F8 fu ((cell 0 ds1).toRows) ((cell 0 ds2).toInt) (fun o => some o) = some true) : Law Tryd.prog 8 Tryd.f8.params.toList := by
  refine law_of_told (by kernel_rfl) (by kernel_rfl) seatX_sound (s8 fu) (fun dss hw => ?_)
  have hts : Tryd.f8.params.toList = [27, 3] := rfl
  rw [hts] at hw
  cases hw with
  | cons t1 ts1 fts1 ds1 dss1 hf1 hd1 hr1 =>
    have e1 : flat Tryd.prog 20 27 = some [FT.row 8 [FT.int IntKind.i64]] := by kernel_rfl
    rw [e1] at hf1; cases hf1
    cases hr1 with
    | cons t2 ts2 fts2 ds2 dss2 hf2 hd2 hr2 =>
      have e2 : flat Tryd.prog 20 3 = some [FT.int IntKind.i64] := by kernel_rfl
      rw [e2] at hf2; cases hf2
      cases hr2
      have h1 : t8 fu Bool (argsU Tryd.prog Tryd.f8.params.toList [ds1, ds2]) [] boolK = F8 fu ((cell 0 ds1).toRows) ((cell 0 ds2).toInt) (fun o => some o) := by kernel_rfl
      exact h1.trans (H ds1 ds2 hd1 hd2)
end Go.Proofs.YtlakjegifgonbaaDoor.V

/- master: beside. -/
namespace Go.Proofs.YtlakjegifgonbaaDoor.V
variable {R : Type}


/-- The loop: it goes to its end, or says true. -/
theorem loop8 (fu : Nat) (hf : 1100 ≤ fu) (l : List (List D)) (hl : l.length ≤ 20) (k1 : Option Bool) (h1 : k1 = some true) : ∀ (r p : List (List D)) (n : Nat), r.length < n → l = p ++ r →
    F8_58 fu l l (ofN l.length) n p.length (some true) k1 = some true
  | [], p, n + 1, _, e => by
    subst e
    rw [F8_58, natge (by simp)]; exact h1
  | x :: r, p, n + 1, hn, e => by
    have h2 : p.length < l.length := by rw [e]; simp
    rw [F8_58, natlt h2, cond_true, within_of h2, cond_true]
    cases decide ((cell 0 (elem (p.length : Int).toNat l)).toInt < 0) with
    | true => rw [cond_true, F10_ok]
    | false =>
      rw [cond_false, F21_ok hf (by omega)]
      cases decide (atI (vals l) (cell 0 (elem (p.length : Int).toNat l)).toInt = (p.length : Int)) with
      | false => rw [Bool.not_false, cond_true, F10_ok]
      | true =>
        rw [Bool.not_true, cond_false, wrap_succ (by omega)]
        have := loop8 fu hf l hl k1 h1 r (p ++ [x]) n (by simp at hn; omega) (by rw [e]; simp)
        rwa [show (p ++ [x]).length = p.length + 1 by simp] at this

theorem beside8 {fu : Nat} (hf : 1100 ≤ fu) (l : List (List D)) (node : Int) : F8 fu l node (fun o => some o) = some true := by
  rw [F8_eq, Fb8]
  by_cases h : (20 : Int) < ofN l.length
  · rw [lt_true h, cond_true, F10_ok]
  · rw [lt_false h, cond_false]
    have hl : l.length ≤ 20 := by unfold ofN at h; omega
    refine loop8 fu hf l hl _ ?_ l [] fu (by omega) rfl
    have hb := atI_lt (vals l) node
    rw [vals_len] at hb
    have hlen : ofN l.length = (l.length : Int) := rfl
    rw [F21_ok hf (by omega)]
    simp only [F18_ok hf (show l.length ≤ 1000 by omega), F22_ok hf (show l.length ≤ 1000 by omega), F23_ok hf (show l.length ≤ 1000 by omega), F10_ok]
    rw [hlen]
    rcases atI_cases (vals l) node with ⟨h1, _, _⟩ | ⟨i, h1, _, h2, h3⟩
    · have b1 : besI (vals l) node 1 = -1 := by unfold besI; rw [if_pos (by omega)]
      have b2 : besI (vals l) node (-1) = -1 := by unfold besI; rw [if_pos (by omega)]
      rw [b1, b2, h1]
      rfl
    · rw [vals_len] at h2
      rw [h1, le_true (show (0 : Int) ≤ (i : Int) by omega), cond_true, wrap_of (by omega) (by omega), wrap_of (by omega) (by omega)]
      have b1 : besI (vals l) node 1 = ((vals l)[i + 1]?).getD (-1) := by
        unfold besI; rw [if_neg (by omega), if_neg (by omega), h1]; congr 2
      by_cases c1 : (i : Int) + 1 < l.length
      · have hlt : i + 1 < (vals l).length := by rw [vals_len]; omega
        rw [lt_true c1, cond_true, within_int (by omega) c1, cond_true, show ((i : Int) + 1).toNat = i + 1 by omega, elem_val hlt]
        rw [List.getElem?_eq_getElem hlt] at b1
        rw [b1]
        by_cases c2 : (0 : Int) < (i : Int)
        · have hlt2 : i - 1 < (vals l).length := by rw [vals_len]; omega
          have b2 : besI (vals l) node (-1) = (vals l)[i - 1] := by
            unfold besI; rw [if_neg (by omega), if_neg (by omega), h1, show ((i : Int) + -1).toNat = i - 1 by omega, List.getElem?_eq_getElem hlt2]; rfl
          rw [lt_true c2, cond_true, within_int (by omega) (by omega), cond_true, show ((i : Int) - 1).toNat = i - 1 by omega, elem_val hlt2, b2]
          simp
        · have b2 : besI (vals l) node (-1) = -1 := by unfold besI; rw [if_neg (by omega), if_pos (by omega)]
          rw [lt_false c2, cond_false, b2]
          simp
      · have hn : (vals l)[i + 1]? = none := List.getElem?_eq_none (by rw [vals_len]; omega)
        rw [hn] at b1
        rw [lt_false c1, cond_false, b1]
        by_cases c2 : (0 : Int) < (i : Int)
        · have hlt2 : i - 1 < (vals l).length := by rw [vals_len]; omega
          have b2 : besI (vals l) node (-1) = (vals l)[i - 1] := by
            unfold besI; rw [if_neg (by omega), if_neg (by omega), h1, show ((i : Int) + -1).toNat = i - 1 by omega, List.getElem?_eq_getElem hlt2]; rfl
          rw [lt_true c2, cond_true, within_int (by omega) (by omega), cond_true, show ((i : Int) - 1).toNat = i - 1 by omega, elem_val hlt2, b2]
          simp
        · have b2 : besI (vals l) node (-1) = -1 := by unfold besI; rw [if_neg (by omega), if_pos (by omega)]
          rw [lt_false c2, cond_false, b2]
          simp
end Go.Proofs.YtlakjegifgonbaaDoor.V

namespace Go.Proofs.YtlakjegifgonbaaDoor
open Go

theorem beside_said : Rows.MasterBesideSaid := beside_join (V.law8 5000 fun _ _ _ _ => V.beside8 (by omega) _ _)

theorem beside_holds : Rows.MasterBesideCardSaid :=
  Claim7.holds_tied_plain_at .later [] [.data, .data, .data] true (true, "b87f22f0dd4db3f55605e32eef86dd7d0f36a471cf3b4545ddf744cde23c2131") false
    beside_said (fun _ h => by cases h) (by kernel_rfl) (fun _ h => by cases h) masterBeside_row_tie rfl ⟨rfl, rfl⟩ (by kernel_rfl) rfl
    (fun f fn hf hfn => by
      obtain rfl : f = 8 := Option.some.inj ((show Tryd.prog.funcNamed "daisychain/daisychainlaw13.MasterBeside" = some 8 by kernel_rfl).symm.trans hf) |>.symm
      obtain rfl : fn = Tryd.f8 := (Option.some.inj (Tryd.func8.symm.trans hfn)).symm
      exact ⟨by kernel_rfl, fun j t ht => by
        rw [Tryd.params8] at ht
        match j, ht with
        | 0, ht =>
          obtain rfl : 27 = t := Option.some.inj ht
          exact (show Tryd.prog.wantsStandIn 27 = false by kernel_rfl)
        | 1, ht =>
          obtain rfl : 3 = t := Option.some.inj ht
          exact (show Tryd.prog.wantsStandIn 3 = false by kernel_rfl)
        | j + 2, ht => simp at ht⟩)
    (by kernel_rfl)

end Go.Proofs.YtlakjegifgonbaaDoor

