/- WHAT IS PROVED: the call of CoilBack answers true, and leaves its arguments as they were, at every input that the given row takes. No condition of its own. -/
import Derived.Test.YtdoikghgblohjaaBase4
import Derived.Test.YtdoikghgblohjaaChecked
import Derived.ProofKit
import Derived.KernelRfl
import Derived.Test.YtdoikghgblohjaaRows
set_option linter.unusedVariables false
set_option linter.unusedSimpArgs false

/- What all joins use. -/
namespace Go.Proofs.Ytdoikghgblohjaa
theorem Try.own : ownKnob Try.prog.godebug = none := by kernel_rfl
theorem Try.laidOut : laidOutB Try.prog = true := by kernel_rfl
end Go.Proofs.Ytdoikghgblohjaa

/- Where V's law of function 11 stands, the given row stands. -/
namespace Go.Proofs.Ytdoikghgblohjaa
open Go.ChangeShapes Go.WideShapes Go.ChangeAt Go.RowKit

set_option maxRecDepth 100000 in
theorem back_lifted (law : V.Law Try.prog 11 Try.f11.params.toList) (os : Os) (started : os.Started) (H : Type) (enc : TypeId × Value → H) :
    ReturnsInHanded {} Try.checked os 11 .any (Rows.coilBackSpec.pre6 enc Try.prog Try.f11 Rows.coilBackRow.domain false) (Rows.coilBackSpec.post enc Try.prog Try.f11 false true false false) := by
  refine V.lift (C := Try.checked) enc Try.own started (by kernel_rfl) Try.func11
    (ChangeSpec.witness6 (enc := enc) (C := Try.checked) false ⟨#[], #[.int .i64 0, .string .empty, .slice none 0 0], []⟩ 8 (by kernel_rfl) (by kernel_rfl) (by kernel_rfl) (by kernel_rfl)) rfl (fun ds h => ?_) rfl (by kernel_rfl) Try.laidOut (by kernel_rfl) law
  have h : ds.length = 3 := h
  match ds, h with
  | [d1, d2, d3], _ => rfl

theorem back_join (law : V.Law Try.prog 11 Try.f11.params.toList) : Rows.CoilBackSaid :=
  OpenClaim.holds_of_wide 11 Try.f11 rfl rfl rfl rfl rfl rfl rfl ⟨rfl, rfl, rfl, rfl, rfl⟩ rfl rfl rfl rfl rfl (by kernel_rfl) Try.func11 (by kernel_rfl)
    (of_decide_eq_true (by kernel_rfl)) (by unfold Func.isWrapper; first | (rw [if_pos (by decide +kernel)]; kernel_rfl) | (rw [if_neg (by decide +kernel)]; exact ⟨rfl, rfl⟩))
    (fun os started H enc _ => back_lifted law os started H enc)

end Go.Proofs.Ytdoikghgblohjaa

/- Printed by ugen: slices.Clone[[]byte,byte] -/
namespace Go.Proofs.Ytdoikghgblohjaa.V
set_option maxRecDepth 100000
set_option maxHeartbeats 4000000

abbrev ft0 : List FT := [FT.int IntKind.u8]

noncomputable def code68 : Code := match Try.f68.body with | some c => c | none => .skip

theorem s68 (fu : Nat) : Tells Try.prog 68 (toldClone ft0 1) :=
  clone_tells (F := (fun _ => none)) (k := 300) (fun _ _ _ h => by cases h) (fun R K => by kernel_rfl) (fun R K es => by kernel_rfl)

noncomputable def tb68 (fu : Nat) : FuncId → Option (Bool × ToldF) := fun f => match Nat.beq f 68 with
  | true => some (false, ghG [.fzP 0 [] ft0] (toldClone ft0 1))
  | false => (fun _ => none) f
theorem tb68_sound (fu : Nat) : SoundF' Try.prog (tb68 fu) := by
  intro f own told h
  unfold tb68 at h
  split at h
  · rename_i hb
    cases h
    have := Nat.eq_of_beq_eq_true hb
    subst this
    exact ghG_sound (s68 fu)
  · exact (fun _ _ _ h => by cases h) f own told h

end Go.Proofs.Ytdoikghgblohjaa.V

/- Printed by ugen: bytes.Equal -/
namespace Go.Proofs.Ytdoikghgblohjaa.V
set_option maxRecDepth 100000
set_option maxHeartbeats 4000000


noncomputable def code31 : Code := match Try.f31.body with | some c => c | none => .skip

noncomputable def F31 {R : Type} (fu : Nat) (a : List (List D)) (b : List (List D)) (k0 : Bool → Option R) : Option R :=
  (k0 (strEq (strOf a) (strOf b)))

noncomputable def pc31 (fu : Nat) : Nat → Option ToldP := fun _ => none
noncomputable def t31 (fu : Nat) : ToldF := fun _ args s K => match args, s with
  | [.fz zq0 a false, .fz zq1 b false], [] => (match FT.sames zq0 ft0 with | true => (match FT.sames zq1 ft0 with | true => F31 fu a b (fun o_ => K (.bool o_) []) | false => none) | false => none)
  | _, _ => none

theorem e31 (R : Type) (K : UV → USt → Option R) (fu : Nat) (a : List (List D)) (b : List (List D)) :
    F31 fu a b (fun o_ => K (.bool o_) []) = ufun Try.prog ⟨(tb68 fu), pc31 fu⟩ 300 31 [.fz ft0 a false, .fz ft0 b false] [] (funK 0 [.gc] K) := by kernel_rfl

theorem s31 (fu : Nat) : Tells Try.prog 31 (t31 fu) := by
  refine ufun_sound (T := ⟨(tb68 fu), pc31 fu⟩) (m := 0) (gout := [.gc]) (k := 300) (tb68_sound fu) (fun fn body hf hb => ?_) (fun R args s K r h => ?_) (fun R args s K r h => ?_)
  · have hc : body = code31 := by
      have h1 : Try.prog.funcs[31]? = some Try.f31 := rfl
      rw [h1] at hf; cases hf
      have h2 : Try.f31.body = some code31 := rfl
      rw [h2] at hb; cases hb; rfl
    subst hc
    exact SoundPc.none _ _ _
  · unfold t31 at h; split at h
    · rfl
    · cases h
  · unfold t31 at h; split at h
    case h_2 => cases h
    split at h
    case h_2 => cases h
    rename_i hq
    have hq := FT.sames_eq _ _ hq
    subst hq
    split at h
    case h_2 => cases h
    rename_i hq
    have hq := FT.sames_eq _ _ hq
    subst hq
    exact (e31 R K fu _ _).symm.trans h

noncomputable def tb31 (fu : Nat) : FuncId → Option (Bool × ToldF) := fun f => match Nat.beq f 31 with
  | true => some (false, ghG [.fzP 0 [] ft0, .fzP 1 [] ft0] (t31 fu))
  | false => (tb68 fu) f
theorem tb31_sound (fu : Nat) : SoundF' Try.prog (tb31 fu) := by
  intro f own told h
  unfold tb31 at h
  split at h
  · rename_i hb
    cases h
    have := Nat.eq_of_beq_eq_true hb
    subst this
    exact ghG_sound (s31 fu)
  · exact (tb68_sound fu) f own told h

end Go.Proofs.Ytdoikghgblohjaa.V

/- Printed by ugen: daisychain/coil.Num -/
namespace Go.Proofs.Ytdoikghgblohjaa.V
set_option maxRecDepth 100000
set_option maxHeartbeats 4000000


noncomputable def code32 : Code := match Try.f32.body with | some c => c | none => .skip
theorem a32_58 : codeAt code32 58 = some (.loop (loopBody (codeAt code32 58))) := by kernel_rfl
noncomputable def F32_58 {R : Type} (fu : Nat) : Nat → Int → (List (List D)) → (Int → (List (List D)) → Option R) → Option R
  | 0, _, _, _ => none
  | n + 1, n_, out, k0 => bif decide (128 ≤ n_) then bif fits (out.length + 1) 1 then (F32_58 fu n (n_.fdiv (2 ^ min (Int.toNat 7) IntKind.i64.bits)) (out ++ [[D.int (IntKind.u8.wrap ↑(BitVec.ofInt IntKind.u8.bits (IntKind.u8.wrap n_) ||| BitVec.ofInt IntKind.u8.bits 128).toNat)]]) k0) else none else (k0 n_ out)

noncomputable def t32_58 (fu n : Nat) : ToldP := fun _ e s K => match e, s with
  | [.int .i64 n_, .own 0], [.row zq0 out] => (match FT.sames zq0 ft0 with | true => F32_58 fu n n_ out (fun o_ o_1 => K (.exit 0) (unpackM (bitsM 6 0x22) [.int .i64 o_, .own 0]) [.row ft0 o_1]) | false => none)
  | _, _ => none

noncomputable def pc32_58 (fu : Nat) : Nat → Option ToldP := fun _ => none
theorem e32_58 (fu n : Nat) (R : Type) (K : VExit → UEnv → USt → Option R) (n_ : Int) (out : List (List D)) :
    F32_58 fu (n + 1) n_ out (fun o_ o_1 => K (.exit 0) (unpackM (bitsM 6 0x22) [.int .i64 o_, .own 0]) [.row ft0 o_1]) = uexec Try.prog (tb31 fu) 300 (pc32_58 fu) 116 (loopBody (codeAt code32 58)) (unpackM (bitsM 6 0x22) [.int .i64 n_, .own 0]) [.row ft0 out] (loopK 0 [.live (bitsM 6 0x22), .ownP 5 [] ft0, .gc] [.live (bitsM 6 0x32), .gc] (pkP (bitsM 6 0x22) (t32_58 fu n)) K) := by kernel_rfl

theorem p32_58 (fu : Nat) : SoundPc Try.prog 0 code32 (pc32_58 fu) := SoundPc.none _ _ _
theorem s32_58 (fu : Nat) : ∀ n, SoundP Try.prog 0 (.loop (loopBody (codeAt code32 58))) (pkP (bitsM 6 0x22) (t32_58 fu n)) := by
  refine loopP_sound (gin := [.live (bitsM 6 0x22), .ownP 5 [] ft0, .gc]) (gout := [.live (bitsM 6 0x32), .gc]) (k := 300) (tb31_sound fu) (p32_58 fu) (by decide) a32_58 (fun R e s K => ?_) (fun n R e s K r h => ?_)
  · unfold t32_58; repeat' split
    all_goals rfl
  · unfold t32_58 at h; split at h
    case h_2 => cases h
    split at h
    case h_2 => cases h
    rename_i hq
    have hq := FT.sames_eq _ _ hq
    subst hq
    exact (e32_58 fu n R K _ _).symm.trans h


noncomputable def F32 {R : Type} (fu : Nat) (b : List (List D)) (n_ : Int) (k0 : (List (List D)) → Option R) : Option R :=
  bif fits b.length 1 then F32_58 fu fu (if 0 > n_ then 0 else n_) b fun o_0 o_1 => bif fits (o_1.length + 1) 1 then (k0 (o_1 ++ [[D.int (IntKind.u8.wrap o_0)]])) else none else none

noncomputable def pc32 (fu : Nat) : Nat → Option ToldP := fun p => match Nat.beq p 58 with | true => some (ghP 0 [.live (bitsM 6 0x22), .ownP 5 [] ft0, .gc] (pkP (bitsM 6 0x22) (t32_58 fu fu))) | false => none
noncomputable def t32 (fu : Nat) : ToldF := fun _ args s K => match args, s with
  | [.fz zq0 b false, .int .i64 n_], [] => (match FT.sames zq0 ft0 with | true => F32 fu b n_ (fun o_ => K (.own 0) [.row ft0 o_]) | false => none)
  | _, _ => none

theorem e32 (R : Type) (K : UV → USt → Option R) (fu : Nat) (b : List (List D)) (n_ : Int) :
    F32 fu b n_ (fun o_ => K (.own 0) [.row ft0 o_]) = ufun Try.prog ⟨(tb31 fu), pc32 fu⟩ 300 32 [.fz ft0 b false, .int .i64 n_] [] (funK 0 [.gc] K) := by kernel_rfl

theorem s32 (fu : Nat) : Tells Try.prog 32 (t32 fu) := by
  refine ufun_sound (T := ⟨(tb31 fu), pc32 fu⟩) (m := 0) (gout := [.gc]) (k := 300) (tb31_sound fu) (fun fn body hf hb => ?_) (fun R args s K r h => ?_) (fun R args s K r h => ?_)
  · have hc : body = code32 := by
      have h1 : Try.prog.funcs[32]? = some Try.f32 := rfl
      rw [h1] at hf; cases hf
      have h2 : Try.f32.body = some code32 := rfl
      rw [h2] at hb; cases hb; rfl
    subst hc
    exact fun p told h b hb => by
      replace h : pc32 fu p = some told := h
      unfold pc32 at h
      split at h
      · rename_i hp
        cases h
        have := Nat.eq_of_beq_eq_true hp
        subst this
        rw [a32_58] at hb
        cases hb
        exact ghP_sound (s32_58 fu _)
      ·
        cases h

  · unfold t32 at h; split at h
    · rfl
    · cases h
  · unfold t32 at h; split at h
    case h_2 => cases h
    split at h
    case h_2 => cases h
    rename_i hq
    have hq := FT.sames_eq _ _ hq
    subst hq
    exact (e32 R K fu _ _).symm.trans h

noncomputable def tb32 (fu : Nat) : FuncId → Option (Bool × ToldF) := fun f => match Nat.beq f 32 with
  | true => some (false, ghG [.fzP 0 [] ft0] (t32 fu))
  | false => (tb31 fu) f
theorem tb32_sound (fu : Nat) : SoundF' Try.prog (tb32 fu) := by
  intro f own told h
  unfold tb32 at h
  split at h
  · rename_i hb
    cases h
    have := Nat.eq_of_beq_eq_true hb
    subst this
    exact ghG_sound (s32 fu)
  · exact (tb31_sound fu) f own told h

end Go.Proofs.Ytdoikghgblohjaa.V

/- Printed by ugen: daisychain/coil.Text -/
namespace Go.Proofs.Ytdoikghgblohjaa.V
set_option maxRecDepth 100000
set_option maxHeartbeats 4000000


noncomputable def code33 : Code := match Try.f33.body with | some c => c | none => .skip

noncomputable def F33 {R : Type} (fu : Nat) (b : List (List D)) (s : ByteArray) (k0 : (List (List D)) → Option R) : Option R :=
  F32 fu b (ofN s.size) fun o_0 => bif fits (o_0.length + (bytesD s).length) 1 then (k0 (o_0 ++ bytesD s)) else none

noncomputable def pc33 (fu : Nat) : Nat → Option ToldP := fun _ => none
noncomputable def t33 (fu : Nat) : ToldF := fun _ args s K => match args, s with
  | [.fz zq0 b false, .str s], [] => (match FT.sames zq0 ft0 with | true => F33 fu b s (fun o_ => K (.own 0) [.row ft0 o_]) | false => none)
  | _, _ => none

theorem e33 (R : Type) (K : UV → USt → Option R) (fu : Nat) (b : List (List D)) (s : ByteArray) :
    F33 fu b s (fun o_ => K (.own 0) [.row ft0 o_]) = ufun Try.prog ⟨(tb32 fu), pc33 fu⟩ 300 33 [.fz ft0 b false, .str s] [] (funK 0 [.gc] K) := by kernel_rfl

theorem s33 (fu : Nat) : Tells Try.prog 33 (t33 fu) := by
  refine ufun_sound (T := ⟨(tb32 fu), pc33 fu⟩) (m := 0) (gout := [.gc]) (k := 300) (tb32_sound fu) (fun fn body hf hb => ?_) (fun R args s K r h => ?_) (fun R args s K r h => ?_)
  · have hc : body = code33 := by
      have h1 : Try.prog.funcs[33]? = some Try.f33 := rfl
      rw [h1] at hf; cases hf
      have h2 : Try.f33.body = some code33 := rfl
      rw [h2] at hb; cases hb; rfl
    subst hc
    exact SoundPc.none _ _ _
  · unfold t33 at h; split at h
    · rfl
    · cases h
  · unfold t33 at h; split at h
    case h_2 => cases h
    split at h
    case h_2 => cases h
    rename_i hq
    have hq := FT.sames_eq _ _ hq
    subst hq
    exact (e33 R K fu _ _).symm.trans h

noncomputable def tb33 (fu : Nat) : FuncId → Option (Bool × ToldF) := fun f => match Nat.beq f 33 with
  | true => some (false, ghG [.fzP 0 [] ft0] (t33 fu))
  | false => (tb32 fu) f
theorem tb33_sound (fu : Nat) : SoundF' Try.prog (tb33 fu) := by
  intro f own told h
  unfold tb33 at h
  split at h
  · rename_i hb
    cases h
    have := Nat.eq_of_beq_eq_true hb
    subst this
    exact ghG_sound (s33 fu)
  · exact (tb32_sound fu) f own told h

end Go.Proofs.Ytdoikghgblohjaa.V

/- Printed by ugen: daisychain/coil.Nums -/
namespace Go.Proofs.Ytdoikghgblohjaa.V
set_option maxRecDepth 100000
set_option maxHeartbeats 4000000

abbrev ft1 : List FT := [FT.int IntKind.i64]

noncomputable def code36 : Code := match Try.f36.body with | some c => c | none => .skip
theorem a36_58 : codeAt code36 58 = some (.loop (loopBody (codeAt code36 58))) := by kernel_rfl
noncomputable def F36_58 {R : Type} (fu : Nat) (x : List (List D)) (x1 : Int) : Nat → Int → (List (List D)) → ((List (List D)) → Option R) → Option R
  | 0, _, _, _ => none
  | n + 1, x2, out, k0 => bif decide (x2 < x1) then bif within x2 x.length then F32 fu out (cell 0 (elem x2.toNat x)).toInt fun o_0 => (F36_58 fu x x1 n (IntKind.i64.wrap (x2 + 1)) o_0 k0) else none else (k0 out)

noncomputable def t36_58 (fu n : Nat) : ToldP := fun _ e s K => match e, s with
  | [.own 0, .fz zq0 x false, .int .i64 x1, .int .i64 x2], [.row zq1 out] => (match FT.sames zq0 ft1 with | true => (match FT.sames zq1 ft0 with | true => F36_58 fu x x1 n x2 out (fun o_ => K (.exit 0) (unpackM (bitsM 6 0x20) [.own 0]) [.row ft0 o_]) | false => none) | false => none)
  | _, _ => none

noncomputable def pc36_58 (fu : Nat) : Nat → Option ToldP := fun _ => none
theorem e36_58 (fu n : Nat) (R : Type) (K : VExit → UEnv → USt → Option R) (x : List (List D)) (x1 : Int) (x2 : Int) (out : List (List D)) :
    F36_58 fu x x1 (n + 1) x2 out (fun o_ => K (.exit 0) (unpackM (bitsM 6 0x20) [.own 0]) [.row ft0 o_]) = uexec Try.prog (tb33 fu) 300 (pc36_58 fu) 116 (loopBody (codeAt code36 58)) (unpackM (bitsM 15 0x7020) [.own 0, .fz ft1 x false, .int .i64 x1, .int .i64 x2]) [.row ft0 out] (loopK 0 [.live (bitsM 15 0x7020), .ownP 5 [] ft0, .fzP 12 [] ft1, .gc] [.live (bitsM 6 0x30), .gc] (pkP (bitsM 15 0x7020) (t36_58 fu n)) K) := by kernel_rfl

theorem p36_58 (fu : Nat) : SoundPc Try.prog 0 code36 (pc36_58 fu) := SoundPc.none _ _ _
theorem s36_58 (fu : Nat) : ∀ n, SoundP Try.prog 0 (.loop (loopBody (codeAt code36 58))) (pkP (bitsM 15 0x7020) (t36_58 fu n)) := by
  refine loopP_sound (gin := [.live (bitsM 15 0x7020), .ownP 5 [] ft0, .fzP 12 [] ft1, .gc]) (gout := [.live (bitsM 6 0x30), .gc]) (k := 300) (tb33_sound fu) (p36_58 fu) (by decide) a36_58 (fun R e s K => ?_) (fun n R e s K r h => ?_)
  · unfold t36_58; repeat' split
    all_goals rfl
  · unfold t36_58 at h; split at h
    case h_2 => cases h
    split at h
    case h_2 => cases h
    rename_i hq
    have hq := FT.sames_eq _ _ hq
    subst hq
    split at h
    case h_2 => cases h
    rename_i hq
    have hq := FT.sames_eq _ _ hq
    subst hq
    exact (e36_58 fu n R K _ _ _ _).symm.trans h


noncomputable def F36 {R : Type} (fu : Nat) (b : List (List D)) (l : List (List D)) (k0 : (List (List D)) → Option R) : Option R :=
  F32 fu b (ofN l.length) fun o_0 => F36_58 fu l (ofN l.length) fu 0 o_0 fun o_1 => (k0 o_1)

noncomputable def pc36 (fu : Nat) : Nat → Option ToldP := fun p => match Nat.beq p 58 with | true => some (ghP 0 [.live (bitsM 15 0x7020), .ownP 5 [] ft0, .fzP 12 [] ft1, .gc] (pkP (bitsM 15 0x7020) (t36_58 fu fu))) | false => none
noncomputable def t36 (fu : Nat) : ToldF := fun _ args s K => match args, s with
  | [.fz zq0 b false, .fz zq1 l false], [] => (match FT.sames zq0 ft0 with | true => (match FT.sames zq1 ft1 with | true => F36 fu b l (fun o_ => K (.own 0) [.row ft0 o_]) | false => none) | false => none)
  | _, _ => none

theorem e36 (R : Type) (K : UV → USt → Option R) (fu : Nat) (b : List (List D)) (l : List (List D)) :
    F36 fu b l (fun o_ => K (.own 0) [.row ft0 o_]) = ufun Try.prog ⟨(tb33 fu), pc36 fu⟩ 300 36 [.fz ft0 b false, .fz ft1 l false] [] (funK 0 [.gc] K) := by kernel_rfl

theorem s36 (fu : Nat) : Tells Try.prog 36 (t36 fu) := by
  refine ufun_sound (T := ⟨(tb33 fu), pc36 fu⟩) (m := 0) (gout := [.gc]) (k := 300) (tb33_sound fu) (fun fn body hf hb => ?_) (fun R args s K r h => ?_) (fun R args s K r h => ?_)
  · have hc : body = code36 := by
      have h1 : Try.prog.funcs[36]? = some Try.f36 := rfl
      rw [h1] at hf; cases hf
      have h2 : Try.f36.body = some code36 := rfl
      rw [h2] at hb; cases hb; rfl
    subst hc
    exact fun p told h b hb => by
      replace h : pc36 fu p = some told := h
      unfold pc36 at h
      split at h
      · rename_i hp
        cases h
        have := Nat.eq_of_beq_eq_true hp
        subst this
        rw [a36_58] at hb
        cases hb
        exact ghP_sound (s36_58 fu _)
      ·
        cases h

  · unfold t36 at h; split at h
    · rfl
    · cases h
  · unfold t36 at h; split at h
    case h_2 => cases h
    split at h
    case h_2 => cases h
    rename_i hq
    have hq := FT.sames_eq _ _ hq
    subst hq
    split at h
    case h_2 => cases h
    rename_i hq
    have hq := FT.sames_eq _ _ hq
    subst hq
    exact (e36 R K fu _ _).symm.trans h

noncomputable def tb36 (fu : Nat) : FuncId → Option (Bool × ToldF) := fun f => match Nat.beq f 36 with
  | true => some (false, ghG [.fzP 0 [] ft0, .fzP 1 [] ft1] (t36 fu))
  | false => (tb33 fu) f
theorem tb36_sound (fu : Nat) : SoundF' Try.prog (tb36 fu) := by
  intro f own told h
  unfold tb36 at h
  split at h
  · rename_i hb
    cases h
    have := Nat.eq_of_beq_eq_true hb
    subst this
    exact ghG_sound (s36 fu)
  · exact (tb33_sound fu) f own told h

end Go.Proofs.Ytdoikghgblohjaa.V

/- Printed by ugen: daisychain/daisychainref01.Num -/
namespace Go.Proofs.Ytdoikghgblohjaa.V
set_option maxRecDepth 100000
set_option maxHeartbeats 4000000


noncomputable def code34 : Code := match Try.f34.body with | some c => c | none => .skip

noncomputable def F34 {R : Type} (fu : Nat) : Nat → Int → ((List (List D)) → Option R) → Option R
  | 0, _, _ => none
  | n + 1, n_, k0 => bif decide (n_ < 0) then (k0 ([[D.int 0]])) else bif decide (n_ < 128) then (k0 ([[D.int (IntKind.u8.wrap n_)]])) else F34 fu n (IntKind.i64.wrap (n_.tdiv 128)) fun o_0 => bif fits (1 + o_0.length) 1 then (k0 ([[D.int (IntKind.u8.wrap (IntKind.i64.wrap (128 + n_.tmod 128)))]] ++ o_0)) else none

noncomputable def pc34 (fu : Nat) : Nat → Option ToldP := fun _ => none
noncomputable def t34 (fu n : Nat) : ToldF := fun _ args s K => match args, s with
  | [.int .i64 n_], [] => F34 fu n n_ (fun o_ => K (.own 0) [.row ft0 o_])
  | _, _ => none

noncomputable def tbs34 (fu n : Nat) : FuncId → Option (Bool × ToldF) := fun f => match Nat.beq f 34 with
  | true => some (false, ghG [] (t34 fu n))
  | false => (tb36 fu) f
theorem tbs34_sound (fu n : Nat) (ih : Tells Try.prog 34 (t34 fu n)) : SoundF' Try.prog (tbs34 fu n) := by
  intro f own told h
  unfold tbs34 at h
  split at h
  · rename_i hb
    cases h
    have := Nat.eq_of_beq_eq_true hb
    subst this
    exact ghG_sound ih
  · exact (tb36_sound fu) f own told h
theorem e34 (R : Type) (K : UV → USt → Option R) (fu n : Nat) (n_ : Int) :
    F34 fu (n + 1) n_ (fun o_ => K (.own 0) [.row ft0 o_]) = ufun Try.prog ⟨(tbs34 fu n), pc34 fu⟩ 300 34 [.int .i64 n_] [] (funK 0 [.gc] K) := by kernel_rfl

theorem s34 (fu : Nat) : ∀ n, Tells Try.prog 34 (t34 fu n) := by
  intro n
  induction n with
  | zero =>
    intro R args s K r h
    unfold t34 at h
    repeat' split at h
    all_goals first | cases h | (unfold F34 at h; cases h)
  | succ n ih =>
    refine ufun_sound (T := ⟨(tbs34 fu n), pc34 fu⟩) (m := 0) (gout := [.gc]) (k := 300) (tbs34_sound fu n ih) (fun fn body hf hb => ?_) (fun R args s K r h => ?_) (fun R args s K r h => ?_)
    · have hc : body = code34 := by
        have h1 : Try.prog.funcs[34]? = some Try.f34 := rfl
        rw [h1] at hf; cases hf
        have h2 : Try.f34.body = some code34 := rfl
        rw [h2] at hb; cases hb; rfl
      subst hc
      exact SoundPc.none _ _ _
    · unfold t34 at h; split at h
      · rfl
      · cases h
    · unfold t34 at h; split at h
      case h_2 => cases h
      exact (e34 R K fu n _).symm.trans h

noncomputable def tb34 (fu : Nat) : FuncId → Option (Bool × ToldF) := fun f => match Nat.beq f 34 with
  | true => some (false, ghG [] (t34 fu fu))
  | false => (tb36 fu) f
theorem tb34_sound (fu : Nat) : SoundF' Try.prog (tb34 fu) := by
  intro f own told h
  unfold tb34 at h
  split at h
  · rename_i hb
    cases h
    have := Nat.eq_of_beq_eq_true hb
    subst this
    exact ghG_sound (s34 fu fu)
  · exact (tb36_sound fu) f own told h

end Go.Proofs.Ytdoikghgblohjaa.V

/- Printed by ugen: daisychain/daisychainref01.Text -/
namespace Go.Proofs.Ytdoikghgblohjaa.V
set_option maxRecDepth 100000
set_option maxHeartbeats 4000000


noncomputable def code35 : Code := match Try.f35.body with | some c => c | none => .skip

noncomputable def F35 {R : Type} (fu : Nat) (s : ByteArray) (k0 : (List (List D)) → Option R) : Option R :=
  F34 fu fu (ofN s.size) fun o_0 => bif fits (o_0.length + (bytesD s).length) 1 then (k0 (o_0 ++ bytesD s)) else none

noncomputable def pc35 (fu : Nat) : Nat → Option ToldP := fun _ => none
noncomputable def t35 (fu : Nat) : ToldF := fun _ args s K => match args, s with
  | [.str s], [] => F35 fu s (fun o_ => K (.own 0) [.row ft0 o_])
  | _, _ => none

theorem e35 (R : Type) (K : UV → USt → Option R) (fu : Nat) (s : ByteArray) :
    F35 fu s (fun o_ => K (.own 0) [.row ft0 o_]) = ufun Try.prog ⟨(tb34 fu), pc35 fu⟩ 300 35 [.str s] [] (funK 0 [.gc] K) := by kernel_rfl

theorem s35 (fu : Nat) : Tells Try.prog 35 (t35 fu) := by
  refine ufun_sound (T := ⟨(tb34 fu), pc35 fu⟩) (m := 0) (gout := [.gc]) (k := 300) (tb34_sound fu) (fun fn body hf hb => ?_) (fun R args s K r h => ?_) (fun R args s K r h => ?_)
  · have hc : body = code35 := by
      have h1 : Try.prog.funcs[35]? = some Try.f35 := rfl
      rw [h1] at hf; cases hf
      have h2 : Try.f35.body = some code35 := rfl
      rw [h2] at hb; cases hb; rfl
    subst hc
    exact SoundPc.none _ _ _
  · unfold t35 at h; split at h
    · rfl
    · cases h
  · unfold t35 at h; split at h
    case h_2 => cases h
    exact (e35 R K fu _).symm.trans h

noncomputable def tb35 (fu : Nat) : FuncId → Option (Bool × ToldF) := fun f => match Nat.beq f 35 with
  | true => some (false, ghG [] (t35 fu))
  | false => (tb34 fu) f
theorem tb35_sound (fu : Nat) : SoundF' Try.prog (tb35 fu) := by
  intro f own told h
  unfold tb35 at h
  split at h
  · rename_i hb
    cases h
    have := Nat.eq_of_beq_eq_true hb
    subst this
    exact ghG_sound (s35 fu)
  · exact (tb34_sound fu) f own told h

end Go.Proofs.Ytdoikghgblohjaa.V

/- Printed by ugen: daisychain/daisychainref01.Nums -/
namespace Go.Proofs.Ytdoikghgblohjaa.V
set_option maxRecDepth 100000
set_option maxHeartbeats 4000000


noncomputable def code37 : Code := match Try.f37.body with | some c => c | none => .skip
theorem a37_58 : codeAt code37 58 = some (.loop (loopBody (codeAt code37 58))) := by kernel_rfl
noncomputable def F37_58 {R : Type} (fu : Nat) (l : List (List D)) : Nat → Int → (List (List D)) → ((List (List D)) → Option R) → Option R
  | 0, _, _, _ => none
  | n + 1, i, out, k0 => bif decide (i < ofN l.length) then bif within i l.length then F34 fu fu (cell 0 (elem i.toNat l)).toInt fun o_0 => bif fits (out.length + o_0.length) 1 then (F37_58 fu l n (IntKind.i64.wrap (i + 1)) (out ++ o_0) k0) else none else none else (k0 out)

noncomputable def t37_58 (fu n : Nat) : ToldP := fun _ e s K => match e, s with
  | [.fz zq0 l false, .own 0, .int .i64 i], [.row zq1 out] => (match FT.sames zq0 ft1 with | true => (match FT.sames zq1 ft0 with | true => F37_58 fu l n i out (fun o_ => K (.exit 0) (unpackM (bitsM 4 0x8) [.own 0]) [.row ft0 o_]) | false => none) | false => none)
  | _, _ => none

noncomputable def pc37_58 (fu : Nat) : Nat → Option ToldP := fun _ => none
theorem e37_58 (fu n : Nat) (R : Type) (K : VExit → UEnv → USt → Option R) (l : List (List D)) (i : Int) (out : List (List D)) :
    F37_58 fu l (n + 1) i out (fun o_ => K (.exit 0) (unpackM (bitsM 4 0x8) [.own 0]) [.row ft0 o_]) = uexec Try.prog (tb35 fu) 300 (pc37_58 fu) 116 (loopBody (codeAt code37 58)) (unpackM (bitsM 5 0x19) [.fz ft1 l false, .own 0, .int .i64 i]) [.row ft0 out] (loopK 0 [.live (bitsM 5 0x19), .fzP 0 [] ft1, .ownP 3 [] ft0, .gc] [.live (bitsM 4 0xc), .gc] (pkP (bitsM 5 0x19) (t37_58 fu n)) K) := by kernel_rfl

theorem p37_58 (fu : Nat) : SoundPc Try.prog 0 code37 (pc37_58 fu) := SoundPc.none _ _ _
theorem s37_58 (fu : Nat) : ∀ n, SoundP Try.prog 0 (.loop (loopBody (codeAt code37 58))) (pkP (bitsM 5 0x19) (t37_58 fu n)) := by
  refine loopP_sound (gin := [.live (bitsM 5 0x19), .fzP 0 [] ft1, .ownP 3 [] ft0, .gc]) (gout := [.live (bitsM 4 0xc), .gc]) (k := 300) (tb35_sound fu) (p37_58 fu) (by decide) a37_58 (fun R e s K => ?_) (fun n R e s K r h => ?_)
  · unfold t37_58; repeat' split
    all_goals rfl
  · unfold t37_58 at h; split at h
    case h_2 => cases h
    split at h
    case h_2 => cases h
    rename_i hq
    have hq := FT.sames_eq _ _ hq
    subst hq
    split at h
    case h_2 => cases h
    rename_i hq
    have hq := FT.sames_eq _ _ hq
    subst hq
    exact (e37_58 fu n R K _ _ _).symm.trans h


noncomputable def F37 {R : Type} (fu : Nat) (l : List (List D)) (k0 : (List (List D)) → Option R) : Option R :=
  F34 fu fu (ofN l.length) fun o_0 => F37_58 fu l fu 0 o_0 fun o_1 => (k0 o_1)

noncomputable def pc37 (fu : Nat) : Nat → Option ToldP := fun p => match Nat.beq p 58 with | true => some (ghP 0 [.live (bitsM 5 0x19), .fzP 0 [] ft1, .ownP 3 [] ft0, .gc] (pkP (bitsM 5 0x19) (t37_58 fu fu))) | false => none
noncomputable def t37 (fu : Nat) : ToldF := fun _ args s K => match args, s with
  | [.fz zq0 l false], [] => (match FT.sames zq0 ft1 with | true => F37 fu l (fun o_ => K (.own 0) [.row ft0 o_]) | false => none)
  | _, _ => none

theorem e37 (R : Type) (K : UV → USt → Option R) (fu : Nat) (l : List (List D)) :
    F37 fu l (fun o_ => K (.own 0) [.row ft0 o_]) = ufun Try.prog ⟨(tb35 fu), pc37 fu⟩ 300 37 [.fz ft1 l false] [] (funK 0 [.gc] K) := by kernel_rfl

theorem s37 (fu : Nat) : Tells Try.prog 37 (t37 fu) := by
  refine ufun_sound (T := ⟨(tb35 fu), pc37 fu⟩) (m := 0) (gout := [.gc]) (k := 300) (tb35_sound fu) (fun fn body hf hb => ?_) (fun R args s K r h => ?_) (fun R args s K r h => ?_)
  · have hc : body = code37 := by
      have h1 : Try.prog.funcs[37]? = some Try.f37 := rfl
      rw [h1] at hf; cases hf
      have h2 : Try.f37.body = some code37 := rfl
      rw [h2] at hb; cases hb; rfl
    subst hc
    exact fun p told h b hb => by
      replace h : pc37 fu p = some told := h
      unfold pc37 at h
      split at h
      · rename_i hp
        cases h
        have := Nat.eq_of_beq_eq_true hp
        subst this
        rw [a37_58] at hb
        cases hb
        exact ghP_sound (s37_58 fu _)
      ·
        cases h

  · unfold t37 at h; split at h
    · rfl
    · cases h
  · unfold t37 at h; split at h
    case h_2 => cases h
    split at h
    case h_2 => cases h
    rename_i hq
    have hq := FT.sames_eq _ _ hq
    subst hq
    exact (e37 R K fu _).symm.trans h

noncomputable def tb37 (fu : Nat) : FuncId → Option (Bool × ToldF) := fun f => match Nat.beq f 37 with
  | true => some (false, ghG [.fzP 0 [] ft1] (t37 fu))
  | false => (tb35 fu) f
theorem tb37_sound (fu : Nat) : SoundF' Try.prog (tb37 fu) := by
  intro f own told h
  unfold tb37 at h
  split at h
  · rename_i hb
    cases h
    have := Nat.eq_of_beq_eq_true hb
    subst this
    exact ghG_sound (s37 fu)
  · exact (tb35_sound fu) f own told h

end Go.Proofs.Ytdoikghgblohjaa.V

/- Printed by ugen: daisychain/daisychainlaw01.awake -/
namespace Go.Proofs.Ytdoikghgblohjaa.V
set_option maxRecDepth 100000
set_option maxHeartbeats 4000000


noncomputable def code30 : Code := match Try.f30.body with | some c => c | none => .skip

noncomputable def F30 {R : Type} (fu : Nat) (k0 : Option R) : Option R :=
  (k0)

noncomputable def pc30 (fu : Nat) : Nat → Option ToldP := fun _ => none
noncomputable def t30 (fu : Nat) : ToldF := fun _ args s K => match args, s with
  | [], [] => F30 fu  (K (.bool (true)) [])
  | _, _ => none

theorem e30 (R : Type) (K : UV → USt → Option R) (fu : Nat) :
    F30 fu  (K (.bool (true)) []) = ufun Try.prog ⟨(tb68 fu), pc30 fu⟩ 300 30 [] [] (funK 0 [.gc] K) := by kernel_rfl

theorem s30 (fu : Nat) : Tells Try.prog 30 (t30 fu) := by
  refine ufun_sound (T := ⟨(tb68 fu), pc30 fu⟩) (m := 0) (gout := [.gc]) (k := 300) (tb68_sound fu) (fun fn body hf hb => ?_) (fun R args s K r h => ?_) (fun R args s K r h => ?_)
  · have hc : body = code30 := by
      have h1 : Try.prog.funcs[30]? = some Try.f30 := rfl
      rw [h1] at hf; cases hf
      have h2 : Try.f30.body = some code30 := rfl
      rw [h2] at hb; cases hb; rfl
    subst hc
    exact SoundPc.none _ _ _
  · unfold t30 at h; split at h
    · rfl
    · cases h
  · unfold t30 at h; split at h
    case h_2 => cases h
    exact (e30 R K fu).symm.trans h

noncomputable def tb30 (fu : Nat) : FuncId → Option (Bool × ToldF) := fun f => match Nat.beq f 30 with
  | true => some (false, ghG [] (t30 fu))
  | false => (tb37 fu) f
theorem tb30_sound (fu : Nat) : SoundF' Try.prog (tb30 fu) := by
  intro f own told h
  unfold tb30 at h
  split at h
  · rename_i hb
    cases h
    have := Nat.eq_of_beq_eq_true hb
    subst this
    exact ghG_sound (s30 fu)
  · exact (tb37_sound fu) f own told h

end Go.Proofs.Ytdoikghgblohjaa.V

/- Printed by ugen: daisychain/coil.Of -/
namespace Go.Proofs.Ytdoikghgblohjaa.V
set_option maxRecDepth 100000
set_option maxHeartbeats 4000000

abbrev ft2 : List FT := [FT.ptr [FT.int IntKind.i64, FT.ifc [36] [FT.int IntKind.i64]]]

noncomputable def code47 : Code := match Try.f47.body with | some c => c | none => .skip

noncomputable def F47 {R : Type} (fu : Nat) (b : List (List D)) (k0 : D → Option R) : Option R :=
  bif fits b.length 1 then (k0 D.nil) else none

noncomputable def pc47 (fu : Nat) : Nat → Option ToldP := fun _ => none
noncomputable def t47 (fu : Nat) : ToldF := fun _ args s K => match args, s with
  | [.fz zq0 b false], [] => (match FT.sames zq0 ft0 with | true => F47 fu b (fun o_ => K (.ptr 0 0) [.obj [.int .i64 (0), .ifz [147] ft2 o_, .fz ft0 (b) false]]) | false => none)
  | _, _ => none

theorem e47 (R : Type) (K : UV → USt → Option R) (fu : Nat) (b : List (List D)) :
    F47 fu b (fun o_ => K (.ptr 0 0) [.obj [.int .i64 (0), .ifz [147] ft2 o_, .fz ft0 (b) false]]) = ufun Try.prog ⟨(tb30 fu), pc47 fu⟩ 300 47 [.fz ft0 b false] [] (funK 0 [.gc, .ifC 0 1 [147] ft2, .fzC 0 2 ft0, .gc] K) := by kernel_rfl

theorem s47 (fu : Nat) : Tells Try.prog 47 (t47 fu) := by
  refine ufun_sound (T := ⟨(tb30 fu), pc47 fu⟩) (m := 0) (gout := [.gc, .ifC 0 1 [147] ft2, .fzC 0 2 ft0, .gc]) (k := 300) (tb30_sound fu) (fun fn body hf hb => ?_) (fun R args s K r h => ?_) (fun R args s K r h => ?_)
  · have hc : body = code47 := by
      have h1 : Try.prog.funcs[47]? = some Try.f47 := rfl
      rw [h1] at hf; cases hf
      have h2 : Try.f47.body = some code47 := rfl
      rw [h2] at hb; cases hb; rfl
    subst hc
    exact SoundPc.none _ _ _
  · unfold t47 at h; split at h
    · rfl
    · cases h
  · unfold t47 at h; split at h
    case h_2 => cases h
    split at h
    case h_2 => cases h
    rename_i hq
    have hq := FT.sames_eq _ _ hq
    subst hq
    exact (e47 R K fu _).symm.trans h

noncomputable def tb47 (fu : Nat) : FuncId → Option (Bool × ToldF) := fun f => match Nat.beq f 47 with
  | true => some (false, ghG [.fzP 0 [] ft0] (t47 fu))
  | false => (tb30 fu) f
theorem tb47_sound (fu : Nat) : SoundF' Try.prog (tb47 fu) := by
  intro f own told h
  unfold tb47 at h
  split at h
  · rename_i hb
    cases h
    have := Nat.eq_of_beq_eq_true hb
    subst this
    exact ghG_sound (s47 fu)
  · exact (tb30_sound fu) f own told h

end Go.Proofs.Ytdoikghgblohjaa.V

/- Printed by ugen: (*daisychain/coil.Reader).Err -/
namespace Go.Proofs.Ytdoikghgblohjaa.V
set_option maxRecDepth 100000
set_option maxHeartbeats 4000000


noncomputable def code65 : Code := match Try.f65.body with | some c => c | none => .skip

noncomputable def F65 {R : Type} (fu : Nat) (r_place_at : Int) (r_place_err : D) (r_b : List (List D)) (k0 : Option R) : Option R :=
  (k0)

noncomputable def pc65 (fu : Nat) : Nat → Option ToldP := fun _ => none
noncomputable def t65 (fu : Nat) : ToldF := fun _ args s K => match args, s with
  | [.ptr 0 0], [.obj [.int .i64 r_place_at, .ifz zq0 zq1 r_place_err, .fz zq2 r_b false]] => (match natsEq zq0 [147] with | true => (match FT.sames zq1 ft2 with | true => (match FT.sames zq2 ft0 with | true => F65 fu r_place_at r_place_err r_b (K (.ifz [147] ft2 (r_place_err)) [.obj [.int .i64 (r_place_at), .ifz [147] ft2 (r_place_err), .fz ft0 (r_b) false]]) | false => none) | false => none) | false => none)
  | _, _ => none

theorem e65 (R : Type) (K : UV → USt → Option R) (fu : Nat) (r_place_at : Int) (r_place_err : D) (r_b : List (List D)) :
    F65 fu r_place_at r_place_err r_b (K (.ifz [147] ft2 (r_place_err)) [.obj [.int .i64 (r_place_at), .ifz [147] ft2 (r_place_err), .fz ft0 (r_b) false]]) = ufun Try.prog ⟨(tb47 fu), pc65 fu⟩ 300 65 [.ptr 0 0] [.obj [.int .i64 r_place_at, .ifz [147] ft2 r_place_err, .fz ft0 r_b false]] (funK 1 [.gc, .ifC 0 1 [147] ft2, .fzC 0 2 ft0, .gc] K) := by kernel_rfl

theorem s65 (fu : Nat) : Tells Try.prog 65 (t65 fu) := by
  refine ufun_sound (T := ⟨(tb47 fu), pc65 fu⟩) (m := 1) (gout := [.gc, .ifC 0 1 [147] ft2, .fzC 0 2 ft0, .gc]) (k := 300) (tb47_sound fu) (fun fn body hf hb => ?_) (fun R args s K r h => ?_) (fun R args s K r h => ?_)
  · have hc : body = code65 := by
      have h1 : Try.prog.funcs[65]? = some Try.f65 := rfl
      rw [h1] at hf; cases hf
      have h2 : Try.f65.body = some code65 := rfl
      rw [h2] at hb; cases hb; rfl
    subst hc
    exact SoundPc.none _ _ _
  · unfold t65 at h; split at h
    · rfl
    · cases h
  · unfold t65 at h; split at h
    case h_2 => cases h
    split at h
    case h_2 => cases h
    rename_i hq
    have hq := natsEq_eq _ _ hq
    subst hq
    split at h
    case h_2 => cases h
    rename_i hq
    have hq := FT.sames_eq _ _ hq
    subst hq
    split at h
    case h_2 => cases h
    rename_i hq
    have hq := FT.sames_eq _ _ hq
    subst hq
    exact (e65 R K fu _ _ _).symm.trans h

noncomputable def tb65 (fu : Nat) : FuncId → Option (Bool × ToldF) := fun f => match Nat.beq f 65 with
  | true => some (false, ghG [.gc, .ifC 0 1 [147] ft2, .fzC 0 2 ft0, .gc] (t65 fu))
  | false => (tb47 fu) f
theorem tb65_sound (fu : Nat) : SoundF' Try.prog (tb65 fu) := by
  intro f own told h
  unfold tb65 at h
  split at h
  · rename_i hb
    cases h
    have := Nat.eq_of_beq_eq_true hb
    subst this
    exact ghG_sound (s65 fu)
  · exact (tb47_sound fu) f own told h

end Go.Proofs.Ytdoikghgblohjaa.V

/- Printed by ugen: (*daisychain/coil.Reader).At -/
namespace Go.Proofs.Ytdoikghgblohjaa.V
set_option maxRecDepth 100000
set_option maxHeartbeats 4000000


noncomputable def code66 : Code := match Try.f66.body with | some c => c | none => .skip

noncomputable def F66 {R : Type} (fu : Nat) (r_place_at : Int) (r_place_err : D) (r_b : List (List D)) (k0 : Option R) : Option R :=
  (k0)

noncomputable def pc66 (fu : Nat) : Nat → Option ToldP := fun _ => none
noncomputable def t66 (fu : Nat) : ToldF := fun _ args s K => match args, s with
  | [.ptr 0 0], [.obj [.int .i64 r_place_at, .ifz zq0 zq1 r_place_err, .fz zq2 r_b false]] => (match natsEq zq0 [147] with | true => (match FT.sames zq1 ft2 with | true => (match FT.sames zq2 ft0 with | true => F66 fu r_place_at r_place_err r_b (K (.int .i64 (r_place_at)) [.obj [.int .i64 (r_place_at), .ifz [147] ft2 (r_place_err), .fz ft0 (r_b) false]]) | false => none) | false => none) | false => none)
  | _, _ => none

theorem e66 (R : Type) (K : UV → USt → Option R) (fu : Nat) (r_place_at : Int) (r_place_err : D) (r_b : List (List D)) :
    F66 fu r_place_at r_place_err r_b (K (.int .i64 (r_place_at)) [.obj [.int .i64 (r_place_at), .ifz [147] ft2 (r_place_err), .fz ft0 (r_b) false]]) = ufun Try.prog ⟨(tb65 fu), pc66 fu⟩ 300 66 [.ptr 0 0] [.obj [.int .i64 r_place_at, .ifz [147] ft2 r_place_err, .fz ft0 r_b false]] (funK 1 [.gc, .ifC 0 1 [147] ft2, .fzC 0 2 ft0, .gc] K) := by kernel_rfl

theorem s66 (fu : Nat) : Tells Try.prog 66 (t66 fu) := by
  refine ufun_sound (T := ⟨(tb65 fu), pc66 fu⟩) (m := 1) (gout := [.gc, .ifC 0 1 [147] ft2, .fzC 0 2 ft0, .gc]) (k := 300) (tb65_sound fu) (fun fn body hf hb => ?_) (fun R args s K r h => ?_) (fun R args s K r h => ?_)
  · have hc : body = code66 := by
      have h1 : Try.prog.funcs[66]? = some Try.f66 := rfl
      rw [h1] at hf; cases hf
      have h2 : Try.f66.body = some code66 := rfl
      rw [h2] at hb; cases hb; rfl
    subst hc
    exact SoundPc.none _ _ _
  · unfold t66 at h; split at h
    · rfl
    · cases h
  · unfold t66 at h; split at h
    case h_2 => cases h
    split at h
    case h_2 => cases h
    rename_i hq
    have hq := natsEq_eq _ _ hq
    subst hq
    split at h
    case h_2 => cases h
    rename_i hq
    have hq := FT.sames_eq _ _ hq
    subst hq
    split at h
    case h_2 => cases h
    rename_i hq
    have hq := FT.sames_eq _ _ hq
    subst hq
    exact (e66 R K fu _ _ _).symm.trans h

noncomputable def tb66 (fu : Nat) : FuncId → Option (Bool × ToldF) := fun f => match Nat.beq f 66 with
  | true => some (false, ghG [.gc, .ifC 0 1 [147] ft2, .fzC 0 2 ft0, .gc] (t66 fu))
  | false => (tb65 fu) f
theorem tb66_sound (fu : Nat) : SoundF' Try.prog (tb66 fu) := by
  intro f own told h
  unfold tb66 at h
  split at h
  · rename_i hb
    cases h
    have := Nat.eq_of_beq_eq_true hb
    subst this
    exact ghG_sound (s66 fu)
  · exact (tb65_sound fu) f own told h

end Go.Proofs.Ytdoikghgblohjaa.V

/- Printed by ugen: (*daisychain/coil.Reader).Left -/
namespace Go.Proofs.Ytdoikghgblohjaa.V
set_option maxRecDepth 100000
set_option maxHeartbeats 4000000


noncomputable def code67 : Code := match Try.f67.body with | some c => c | none => .skip

noncomputable def F67 {R : Type} (fu : Nat) (r_place_at : Int) (r_place_err : D) (r_b : List (List D)) (k0 : Int → Option R) : Option R :=
  (k0 (IntKind.i64.wrap (ofN r_b.length - r_place_at)))

noncomputable def pc67 (fu : Nat) : Nat → Option ToldP := fun _ => none
noncomputable def t67 (fu : Nat) : ToldF := fun _ args s K => match args, s with
  | [.ptr 0 0], [.obj [.int .i64 r_place_at, .ifz zq0 zq1 r_place_err, .fz zq2 r_b false]] => (match natsEq zq0 [147] with | true => (match FT.sames zq1 ft2 with | true => (match FT.sames zq2 ft0 with | true => F67 fu r_place_at r_place_err r_b (fun o_ => K (.int .i64 o_) [.obj [.int .i64 (r_place_at), .ifz [147] ft2 (r_place_err), .fz ft0 (r_b) false]]) | false => none) | false => none) | false => none)
  | _, _ => none

theorem e67 (R : Type) (K : UV → USt → Option R) (fu : Nat) (r_place_at : Int) (r_place_err : D) (r_b : List (List D)) :
    F67 fu r_place_at r_place_err r_b (fun o_ => K (.int .i64 o_) [.obj [.int .i64 (r_place_at), .ifz [147] ft2 (r_place_err), .fz ft0 (r_b) false]]) = ufun Try.prog ⟨(tb66 fu), pc67 fu⟩ 300 67 [.ptr 0 0] [.obj [.int .i64 r_place_at, .ifz [147] ft2 r_place_err, .fz ft0 r_b false]] (funK 1 [.gc, .ifC 0 1 [147] ft2, .fzC 0 2 ft0, .gc] K) := by kernel_rfl

theorem s67 (fu : Nat) : Tells Try.prog 67 (t67 fu) := by
  refine ufun_sound (T := ⟨(tb66 fu), pc67 fu⟩) (m := 1) (gout := [.gc, .ifC 0 1 [147] ft2, .fzC 0 2 ft0, .gc]) (k := 300) (tb66_sound fu) (fun fn body hf hb => ?_) (fun R args s K r h => ?_) (fun R args s K r h => ?_)
  · have hc : body = code67 := by
      have h1 : Try.prog.funcs[67]? = some Try.f67 := rfl
      rw [h1] at hf; cases hf
      have h2 : Try.f67.body = some code67 := rfl
      rw [h2] at hb; cases hb; rfl
    subst hc
    exact SoundPc.none _ _ _
  · unfold t67 at h; split at h
    · rfl
    · cases h
  · unfold t67 at h; split at h
    case h_2 => cases h
    split at h
    case h_2 => cases h
    rename_i hq
    have hq := natsEq_eq _ _ hq
    subst hq
    split at h
    case h_2 => cases h
    rename_i hq
    have hq := FT.sames_eq _ _ hq
    subst hq
    split at h
    case h_2 => cases h
    rename_i hq
    have hq := FT.sames_eq _ _ hq
    subst hq
    exact (e67 R K fu _ _ _).symm.trans h

noncomputable def tb67 (fu : Nat) : FuncId → Option (Bool × ToldF) := fun f => match Nat.beq f 67 with
  | true => some (false, ghG [.gc, .ifC 0 1 [147] ft2, .fzC 0 2 ft0, .gc] (t67 fu))
  | false => (tb66 fu) f
theorem tb67_sound (fu : Nat) : SoundF' Try.prog (tb67 fu) := by
  intro f own told h
  unfold tb67 at h
  split at h
  · rename_i hb
    cases h
    have := Nat.eq_of_beq_eq_true hb
    subst this
    exact ghG_sound (s67 fu)
  · exact (tb66_sound fu) f own told h

end Go.Proofs.Ytdoikghgblohjaa.V

/- Printed by ugen: (*daisychain/coil.Reader).number -/
namespace Go.Proofs.Ytdoikghgblohjaa.V
set_option maxRecDepth 100000
set_option maxHeartbeats 4000000


noncomputable def code75 : Code := match Try.f75.body with | some c => c | none => .skip
theorem a75_58 : codeAt code75 58 = some (.loop (loopBody (codeAt code75 58))) := by kernel_rfl
noncomputable def F75_58 {R : Type} (fu : Nat) (from_ : Int) (r1 : D) (r2 : List (List D)) : Nat → Int → Int → Int → (Int → Int → D → Option R) → (Int → Option R) → Option R
  | 0, _, _, _, _, _ => none
  | n + 1, n_, k_, r, k0, k1 => bif !r1.some? then bif decide (9 ≤ k_) then (k0 0 from_ (D.row [[D.int 147, D.row [[D.int from_, D.row [[D.int 36, D.int 2]]]]]])) else bif decide (ofN r2.length ≤ r) then (k0 0 from_ (D.row [[D.int 147, D.row [[D.int from_, D.row [[D.int 36, D.int 3]]]]]])) else bif within r r2.length then bif decide (IntKind.i64.wrap (7 * k_) < 0) then none else bif decide (128 ≤ IntKind.i64.wrap (cell 0 (elem r.toNat r2)).toInt) then (F75_58 fu from_ r1 r2 n (IntKind.i64.wrap ↑(BitVec.ofInt IntKind.i64.bits n_ ||| BitVec.ofInt IntKind.i64.bits (IntKind.i64.wrap (IntKind.i64.wrap ↑(BitVec.ofInt IntKind.i64.bits (IntKind.i64.wrap (cell 0 (elem r.toNat r2)).toInt) &&& BitVec.ofInt IntKind.i64.bits 127).toNat * 2 ^ min (IntKind.i64.wrap (7 * k_)).toNat IntKind.i64.bits))).toNat) (IntKind.i64.wrap (k_ + 1)) (IntKind.i64.wrap (r + 1)) k0 k1) else bif decide (IntKind.i64.wrap (cell 0 (elem r.toNat r2)).toInt = 0) then bif decide (0 < k_) then (k0 0 from_ (D.row [[D.int 147, D.row [[D.int from_, D.row [[D.int 36, D.int 2]]]]]])) else (k0 (IntKind.i64.wrap ↑(BitVec.ofInt IntKind.i64.bits n_ ||| BitVec.ofInt IntKind.i64.bits (IntKind.i64.wrap (IntKind.i64.wrap ↑(BitVec.ofInt IntKind.i64.bits (IntKind.i64.wrap (cell 0 (elem r.toNat r2)).toInt) &&& BitVec.ofInt IntKind.i64.bits 127).toNat * 2 ^ min (IntKind.i64.wrap (7 * k_)).toNat IntKind.i64.bits))).toNat) (IntKind.i64.wrap (r + 1)) r1) else (k0 (IntKind.i64.wrap ↑(BitVec.ofInt IntKind.i64.bits n_ ||| BitVec.ofInt IntKind.i64.bits (IntKind.i64.wrap (IntKind.i64.wrap ↑(BitVec.ofInt IntKind.i64.bits (IntKind.i64.wrap (cell 0 (elem r.toNat r2)).toInt) &&& BitVec.ofInt IntKind.i64.bits 127).toNat * 2 ^ min (IntKind.i64.wrap (7 * k_)).toNat IntKind.i64.bits))).toNat) (IntKind.i64.wrap (r + 1)) r1) else none else (k1 r)

noncomputable def t75_58 (fu n : Nat) : ToldP := fun _ e s K => match e, s with
  | [.ptr 0 0, .int .i64 from_, .int .i64 n_, .int .i64 k_], [.obj [.int .i64 r, .ifz zq0 zq1 r1, .fz zq2 r2 false]] => (match natsEq zq0 [147] with | true => (match FT.sames zq1 ft2 with | true => (match FT.sames zq2 ft0 with | true => F75_58 fu from_ r1 r2 n n_ k_ r (fun o_ o_1 o_2 => K .ret (unpackM (bitsM 5 0x10) [.int .i64 o_]) [.obj [.int .i64 o_1, .ifz [147] ft2 o_2, .fz ft0 (r2) false]]) (fun o_ => K (.exit 0) (unpackM (bitsM 5 0x0) []) [.obj [.int .i64 o_, .ifz [147] ft2 (r1), .fz ft0 (r2) false]]) | false => none) | false => none) | false => none)
  | _, _ => none

noncomputable def pc75_58 (fu : Nat) : Nat → Option ToldP := fun _ => none
theorem e75_58 (fu n : Nat) (R : Type) (K : VExit → UEnv → USt → Option R) (from_ : Int) (n_ : Int) (k_ : Int) (r : Int) (r1 : D) (r2 : List (List D)) :
    F75_58 fu from_ r1 r2 (n + 1) n_ k_ r (fun o_ o_1 o_2 => K .ret (unpackM (bitsM 5 0x10) [.int .i64 o_]) [.obj [.int .i64 o_1, .ifz [147] ft2 o_2, .fz ft0 (r2) false]]) (fun o_ => K (.exit 0) (unpackM (bitsM 5 0x0) []) [.obj [.int .i64 o_, .ifz [147] ft2 (r1), .fz ft0 (r2) false]]) = uexec Try.prog (tb67 fu) 300 (pc75_58 fu) 116 (loopBody (codeAt code75 58)) (unpackM (bitsM 7 0x63) [.ptr 0 0, .int .i64 from_, .int .i64 n_, .int .i64 k_]) [.obj [.int .i64 r, .ifz [147] ft2 r1, .fz ft0 r2 false]] (loopK 1 [.live (bitsM 7 0x63), .gc] [.live (bitsM 5 0x10), .gc, .ifC 0 1 [147] ft2, .gc] (pkP (bitsM 7 0x63) (t75_58 fu n)) K) := by kernel_rfl

theorem p75_58 (fu : Nat) : SoundPc Try.prog 1 code75 (pc75_58 fu) := SoundPc.none _ _ _
theorem s75_58 (fu : Nat) : ∀ n, SoundP Try.prog 1 (.loop (loopBody (codeAt code75 58))) (pkP (bitsM 7 0x63) (t75_58 fu n)) := by
  refine loopP_sound (gin := [.live (bitsM 7 0x63), .gc]) (gout := [.live (bitsM 5 0x10), .gc, .ifC 0 1 [147] ft2, .gc]) (k := 300) (tb67_sound fu) (p75_58 fu) (by decide) a75_58 (fun R e s K => ?_) (fun n R e s K r h => ?_)
  · unfold t75_58; repeat' split
    all_goals rfl
  · unfold t75_58 at h; split at h
    case h_2 => cases h
    split at h
    case h_2 => cases h
    rename_i hq
    have hq := natsEq_eq _ _ hq
    subst hq
    split at h
    case h_2 => cases h
    rename_i hq
    have hq := FT.sames_eq _ _ hq
    subst hq
    split at h
    case h_2 => cases h
    rename_i hq
    have hq := FT.sames_eq _ _ hq
    subst hq
    exact (e75_58 fu n R K _ _ _ _ _ _).symm.trans h


noncomputable def F75 {R : Type} (fu : Nat) (from_ : Int) (r_place_at : Int) (r_place_err : D) (r_b : List (List D)) (k0 : Int → Int → D → Option R) : Option R :=
  F75_58 fu from_ r_place_err r_b fu 0 0 r_place_at (fun o_0 o_1 o_2 => (k0 o_0 o_1 o_2)) fun o_3 => (k0 0 o_3 r_place_err)

noncomputable def pc75 (fu : Nat) : Nat → Option ToldP := fun p => match Nat.beq p 58 with | true => some (ghP 1 [.live (bitsM 7 0x63), .gc] (pkP (bitsM 7 0x63) (t75_58 fu fu))) | false => none
noncomputable def t75 (fu : Nat) : ToldF := fun _ args s K => match args, s with
  | [.ptr 0 0, .int .i64 from_], [.obj [.int .i64 r_place_at, .ifz zq0 zq1 r_place_err, .fz zq2 r_b false]] => (match natsEq zq0 [147] with | true => (match FT.sames zq1 ft2 with | true => (match FT.sames zq2 ft0 with | true => F75 fu from_ r_place_at r_place_err r_b (fun o_ o_1 o_2 => K (.int .i64 o_) [.obj [.int .i64 o_1, .ifz [147] ft2 o_2, .fz ft0 (r_b) false]]) | false => none) | false => none) | false => none)
  | _, _ => none

theorem e75 (R : Type) (K : UV → USt → Option R) (fu : Nat) (from_ : Int) (r_place_at : Int) (r_place_err : D) (r_b : List (List D)) :
    F75 fu from_ r_place_at r_place_err r_b (fun o_ o_1 o_2 => K (.int .i64 o_) [.obj [.int .i64 o_1, .ifz [147] ft2 o_2, .fz ft0 (r_b) false]]) = ufun Try.prog ⟨(tb67 fu), pc75 fu⟩ 300 75 [.ptr 0 0, .int .i64 from_] [.obj [.int .i64 r_place_at, .ifz [147] ft2 r_place_err, .fz ft0 r_b false]] (funK 1 [.gc, .ifC 0 1 [147] ft2, .fzC 0 2 ft0, .gc] K) := by kernel_rfl

theorem s75 (fu : Nat) : Tells Try.prog 75 (t75 fu) := by
  refine ufun_sound (T := ⟨(tb67 fu), pc75 fu⟩) (m := 1) (gout := [.gc, .ifC 0 1 [147] ft2, .fzC 0 2 ft0, .gc]) (k := 300) (tb67_sound fu) (fun fn body hf hb => ?_) (fun R args s K r h => ?_) (fun R args s K r h => ?_)
  · have hc : body = code75 := by
      have h1 : Try.prog.funcs[75]? = some Try.f75 := rfl
      rw [h1] at hf; cases hf
      have h2 : Try.f75.body = some code75 := rfl
      rw [h2] at hb; cases hb; rfl
    subst hc
    exact fun p told h b hb => by
      replace h : pc75 fu p = some told := h
      unfold pc75 at h
      split at h
      · rename_i hp
        cases h
        have := Nat.eq_of_beq_eq_true hp
        subst this
        rw [a75_58] at hb
        cases hb
        exact ghP_sound (s75_58 fu _)
      ·
        cases h

  · unfold t75 at h; split at h
    · rfl
    · cases h
  · unfold t75 at h; split at h
    case h_2 => cases h
    split at h
    case h_2 => cases h
    rename_i hq
    have hq := natsEq_eq _ _ hq
    subst hq
    split at h
    case h_2 => cases h
    rename_i hq
    have hq := FT.sames_eq _ _ hq
    subst hq
    split at h
    case h_2 => cases h
    rename_i hq
    have hq := FT.sames_eq _ _ hq
    subst hq
    exact (e75 R K fu _ _ _ _).symm.trans h

noncomputable def tb75 (fu : Nat) : FuncId → Option (Bool × ToldF) := fun f => match Nat.beq f 75 with
  | true => some (false, ghG [.gc, .ifC 0 1 [147] ft2, .fzC 0 2 ft0, .gc] (t75 fu))
  | false => (tb67 fu) f
theorem tb75_sound (fu : Nat) : SoundF' Try.prog (tb75 fu) := by
  intro f own told h
  unfold tb75 at h
  split at h
  · rename_i hb
    cases h
    have := Nat.eq_of_beq_eq_true hb
    subst this
    exact ghG_sound (s75 fu)
  · exact (tb67_sound fu) f own told h

end Go.Proofs.Ytdoikghgblohjaa.V

/- Printed by ugen: (*daisychain/coil.Reader).Num -/
namespace Go.Proofs.Ytdoikghgblohjaa.V
set_option maxRecDepth 100000
set_option maxHeartbeats 4000000


noncomputable def code48 : Code := match Try.f48.body with | some c => c | none => .skip

noncomputable def F48 {R : Type} (fu : Nat) (r_place_at : Int) (r_place_err : D) (r_b : List (List D)) (k0 : Int → Int → D → Option R) : Option R :=
  F75 fu r_place_at r_place_at r_place_err r_b fun o_0 o_1 o_2 => (k0 o_0 o_1 o_2)

noncomputable def pc48 (fu : Nat) : Nat → Option ToldP := fun _ => none
noncomputable def t48 (fu : Nat) : ToldF := fun _ args s K => match args, s with
  | [.ptr 0 0], [.obj [.int .i64 r_place_at, .ifz zq0 zq1 r_place_err, .fz zq2 r_b false]] => (match natsEq zq0 [147] with | true => (match FT.sames zq1 ft2 with | true => (match FT.sames zq2 ft0 with | true => F48 fu r_place_at r_place_err r_b (fun o_ o_1 o_2 => K (.int .i64 o_) [.obj [.int .i64 o_1, .ifz [147] ft2 o_2, .fz ft0 (r_b) false]]) | false => none) | false => none) | false => none)
  | _, _ => none

theorem e48 (R : Type) (K : UV → USt → Option R) (fu : Nat) (r_place_at : Int) (r_place_err : D) (r_b : List (List D)) :
    F48 fu r_place_at r_place_err r_b (fun o_ o_1 o_2 => K (.int .i64 o_) [.obj [.int .i64 o_1, .ifz [147] ft2 o_2, .fz ft0 (r_b) false]]) = ufun Try.prog ⟨(tb75 fu), pc48 fu⟩ 300 48 [.ptr 0 0] [.obj [.int .i64 r_place_at, .ifz [147] ft2 r_place_err, .fz ft0 r_b false]] (funK 1 [.gc, .ifC 0 1 [147] ft2, .fzC 0 2 ft0, .gc] K) := by kernel_rfl

theorem s48 (fu : Nat) : Tells Try.prog 48 (t48 fu) := by
  refine ufun_sound (T := ⟨(tb75 fu), pc48 fu⟩) (m := 1) (gout := [.gc, .ifC 0 1 [147] ft2, .fzC 0 2 ft0, .gc]) (k := 300) (tb75_sound fu) (fun fn body hf hb => ?_) (fun R args s K r h => ?_) (fun R args s K r h => ?_)
  · have hc : body = code48 := by
      have h1 : Try.prog.funcs[48]? = some Try.f48 := rfl
      rw [h1] at hf; cases hf
      have h2 : Try.f48.body = some code48 := rfl
      rw [h2] at hb; cases hb; rfl
    subst hc
    exact SoundPc.none _ _ _
  · unfold t48 at h; split at h
    · rfl
    · cases h
  · unfold t48 at h; split at h
    case h_2 => cases h
    split at h
    case h_2 => cases h
    rename_i hq
    have hq := natsEq_eq _ _ hq
    subst hq
    split at h
    case h_2 => cases h
    rename_i hq
    have hq := FT.sames_eq _ _ hq
    subst hq
    split at h
    case h_2 => cases h
    rename_i hq
    have hq := FT.sames_eq _ _ hq
    subst hq
    exact (e48 R K fu _ _ _).symm.trans h

noncomputable def tb48 (fu : Nat) : FuncId → Option (Bool × ToldF) := fun f => match Nat.beq f 48 with
  | true => some (false, ghG [.gc, .ifC 0 1 [147] ft2, .fzC 0 2 ft0, .gc] (t48 fu))
  | false => (tb75 fu) f
theorem tb48_sound (fu : Nat) : SoundF' Try.prog (tb48 fu) := by
  intro f own told h
  unfold tb48 at h
  split at h
  · rename_i hb
    cases h
    have := Nat.eq_of_beq_eq_true hb
    subst this
    exact ghG_sound (s48 fu)
  · exact (tb75_sound fu) f own told h

end Go.Proofs.Ytdoikghgblohjaa.V

/- Printed by ugen: (*daisychain/coil.Reader).Text -/
namespace Go.Proofs.Ytdoikghgblohjaa.V
set_option maxRecDepth 100000
set_option maxHeartbeats 4000000


noncomputable def code49 : Code := match Try.f49.body with | some c => c | none => .skip

noncomputable def F49 {R : Type} (fu : Nat) (most : Int) (r_place_at : Int) (r_place_err : D) (r_b : List (List D)) (k0 : ByteArray → Int → D → Option R) : Option R :=
  F75 fu r_place_at r_place_at r_place_err r_b fun o_0 o_1 o_2 => bif !!o_2.some? then (k0 ({ data := #[] }) o_1 o_2) else bif decide (most < o_0) then (k0 ({ data := #[] }) r_place_at (D.row [[D.int 147, D.row [[D.int r_place_at, D.row [[D.int 36, D.int 2]]]]]])) else F67 fu o_1 o_2 r_b fun o_3 => bif decide (o_3 < o_0) then (k0 ({ data := #[] }) r_place_at (D.row [[D.int 147, D.row [[D.int r_place_at, D.row [[D.int 36, D.int 3]]]]]])) else bif decide (0 ≤ IntKind.i64.wrap (IntKind.i64.wrap (o_1 + o_0) - o_0) ∧ IntKind.i64.wrap (IntKind.i64.wrap (o_1 + o_0) - o_0) ≤ IntKind.i64.wrap (o_1 + o_0)) && upTo (IntKind.i64.wrap (o_1 + o_0)) r_b.length then (k0 (strOf (part r_b (IntKind.i64.wrap (IntKind.i64.wrap (o_1 + o_0) - o_0)).toNat (IntKind.i64.wrap (o_1 + o_0)).toNat)) (IntKind.i64.wrap (o_1 + o_0)) o_2) else none

noncomputable def pc49 (fu : Nat) : Nat → Option ToldP := fun _ => none
noncomputable def t49 (fu : Nat) : ToldF := fun _ args s K => match args, s with
  | [.ptr 0 0, .int .i64 most], [.obj [.int .i64 r_place_at, .ifz zq0 zq1 r_place_err, .fz zq2 r_b false]] => (match natsEq zq0 [147] with | true => (match FT.sames zq1 ft2 with | true => (match FT.sames zq2 ft0 with | true => F49 fu most r_place_at r_place_err r_b (fun o_ o_1 o_2 => K (.str o_) [.obj [.int .i64 o_1, .ifz [147] ft2 o_2, .fz ft0 (r_b) false]]) | false => none) | false => none) | false => none)
  | _, _ => none

theorem e49 (R : Type) (K : UV → USt → Option R) (fu : Nat) (most : Int) (r_place_at : Int) (r_place_err : D) (r_b : List (List D)) :
    F49 fu most r_place_at r_place_err r_b (fun o_ o_1 o_2 => K (.str o_) [.obj [.int .i64 o_1, .ifz [147] ft2 o_2, .fz ft0 (r_b) false]]) = ufun Try.prog ⟨(tb48 fu), pc49 fu⟩ 300 49 [.ptr 0 0, .int .i64 most] [.obj [.int .i64 r_place_at, .ifz [147] ft2 r_place_err, .fz ft0 r_b false]] (funK 1 [.gc, .ifC 0 1 [147] ft2, .fzC 0 2 ft0, .gc] K) := by kernel_rfl

theorem s49 (fu : Nat) : Tells Try.prog 49 (t49 fu) := by
  refine ufun_sound (T := ⟨(tb48 fu), pc49 fu⟩) (m := 1) (gout := [.gc, .ifC 0 1 [147] ft2, .fzC 0 2 ft0, .gc]) (k := 300) (tb48_sound fu) (fun fn body hf hb => ?_) (fun R args s K r h => ?_) (fun R args s K r h => ?_)
  · have hc : body = code49 := by
      have h1 : Try.prog.funcs[49]? = some Try.f49 := rfl
      rw [h1] at hf; cases hf
      have h2 : Try.f49.body = some code49 := rfl
      rw [h2] at hb; cases hb; rfl
    subst hc
    exact SoundPc.none _ _ _
  · unfold t49 at h; split at h
    · rfl
    · cases h
  · unfold t49 at h; split at h
    case h_2 => cases h
    split at h
    case h_2 => cases h
    rename_i hq
    have hq := natsEq_eq _ _ hq
    subst hq
    split at h
    case h_2 => cases h
    rename_i hq
    have hq := FT.sames_eq _ _ hq
    subst hq
    split at h
    case h_2 => cases h
    rename_i hq
    have hq := FT.sames_eq _ _ hq
    subst hq
    exact (e49 R K fu _ _ _ _).symm.trans h

noncomputable def tb49 (fu : Nat) : FuncId → Option (Bool × ToldF) := fun f => match Nat.beq f 49 with
  | true => some (false, ghG [.gc, .ifC 0 1 [147] ft2, .fzC 0 2 ft0, .gc] (t49 fu))
  | false => (tb48 fu) f
theorem tb49_sound (fu : Nat) : SoundF' Try.prog (tb49 fu) := by
  intro f own told h
  unfold tb49 at h
  split at h
  · rename_i hb
    cases h
    have := Nat.eq_of_beq_eq_true hb
    subst this
    exact ghG_sound (s49 fu)
  · exact (tb48_sound fu) f own told h

end Go.Proofs.Ytdoikghgblohjaa.V

/- Printed by ugen: (*daisychain/coil.Reader).Nums -/
namespace Go.Proofs.Ytdoikghgblohjaa.V
set_option maxRecDepth 100000
set_option maxHeartbeats 4000000


noncomputable def code50 : Code := match Try.f50.body with | some c => c | none => .skip
theorem a50_506 : codeAt code50 506 = some (.loop (loopBody (codeAt code50 506))) := by kernel_rfl
noncomputable def F50_506 {R : Type} (fu : Nat) (from_ : Int) (n_ : Int) (r2 : List (List D)) : Nat → Int → Int → D → (List (List D)) → (Int → D → (List (List D)) → Option R) → Option R
  | 0, _, _, _, _, _ => none
  | n + 1, k_, r, r1, out, k0 => bif decide (k_ < n_) then bif !r1.some? then F75 fu from_ r r1 r2 fun o_0 o_1 o_2 => bif fits (out.length + 1) 8 then (F50_506 fu from_ n_ r2 n (IntKind.i64.wrap (k_ + 1)) o_1 o_2 (out ++ [[D.int o_0]]) k0) else none else (k0 r r1 out) else (k0 r r1 out)

noncomputable def t50_506 (fu n : Nat) : ToldP := fun _ e s K => match e, s with
  | [.ptr 0 0, .int .i64 from_, .int .i64 n_, .own 1, .int .i64 k_], [.obj [.int .i64 r, .ifz zq0 zq1 r1, .fz zq2 r2 false], .row zq3 out] => (match natsEq zq0 [147] with | true => (match FT.sames zq1 ft2 with | true => (match FT.sames zq2 ft0 with | true => (match FT.sames zq3 ft1 with | true => F50_506 fu from_ n_ r2 n k_ r r1 out (fun o_ o_1 o_2 => K (.exit 0) (unpackM (bitsM 8 0x81) [.ptr 0 0, .own 1]) [.obj [.int .i64 o_, .ifz [147] ft2 o_1, .fz ft0 (r2) false], .row ft1 o_2]) | false => none) | false => none) | false => none) | false => none)
  | _, _ => none

noncomputable def pc50_506 (fu : Nat) : Nat → Option ToldP := fun _ => none
theorem e50_506 (fu n : Nat) (R : Type) (K : VExit → UEnv → USt → Option R) (from_ : Int) (n_ : Int) (k_ : Int) (r : Int) (r1 : D) (r2 : List (List D)) (out : List (List D)) :
    F50_506 fu from_ n_ r2 (n + 1) k_ r r1 out (fun o_ o_1 o_2 => K (.exit 0) (unpackM (bitsM 8 0x81) [.ptr 0 0, .own 1]) [.obj [.int .i64 o_, .ifz [147] ft2 o_1, .fz ft0 (r2) false], .row ft1 o_2]) = uexec Try.prog (tb49 fu) 300 (pc50_506 fu) 1012 (loopBody (codeAt code50 506)) (unpackM (bitsM 9 0x1e1) [.ptr 0 0, .int .i64 from_, .int .i64 n_, .own 1, .int .i64 k_]) [.obj [.int .i64 r, .ifz [147] ft2 r1, .fz ft0 r2 false], .row ft1 out] (loopK 1 [.live (bitsM 9 0x1e1), .ownP 7 [] ft1, .gc, .ifC 0 1 [147] ft2, .gc] [.live (bitsM 8 0x91), .gc] (pkP (bitsM 9 0x1e1) (t50_506 fu n)) K) := by kernel_rfl

theorem p50_506 (fu : Nat) : SoundPc Try.prog 1 code50 (pc50_506 fu) := SoundPc.none _ _ _
theorem s50_506 (fu : Nat) : ∀ n, SoundP Try.prog 1 (.loop (loopBody (codeAt code50 506))) (pkP (bitsM 9 0x1e1) (t50_506 fu n)) := by
  refine loopP_sound (gin := [.live (bitsM 9 0x1e1), .ownP 7 [] ft1, .gc, .ifC 0 1 [147] ft2, .gc]) (gout := [.live (bitsM 8 0x91), .gc]) (k := 300) (tb49_sound fu) (p50_506 fu) (by decide) a50_506 (fun R e s K => ?_) (fun n R e s K r h => ?_)
  · unfold t50_506; repeat' split
    all_goals rfl
  · unfold t50_506 at h; split at h
    case h_2 => cases h
    split at h
    case h_2 => cases h
    rename_i hq
    have hq := natsEq_eq _ _ hq
    subst hq
    split at h
    case h_2 => cases h
    rename_i hq
    have hq := FT.sames_eq _ _ hq
    subst hq
    split at h
    case h_2 => cases h
    rename_i hq
    have hq := FT.sames_eq _ _ hq
    subst hq
    split at h
    case h_2 => cases h
    rename_i hq
    have hq := FT.sames_eq _ _ hq
    subst hq
    exact (e50_506 fu n R K _ _ _ _ _ _ _).symm.trans h


noncomputable def F50 {R : Type} (fu : Nat) (most : Int) (r_place_at : Int) (r_place_err : D) (r_b : List (List D)) (k0 : Int → D → (List (List D)) → Option R) : Option R :=
  F75 fu r_place_at r_place_at r_place_err r_b fun o_0 o_1 o_2 => bif !o_2.some? then bif decide (most < o_0) then F50_506 fu r_place_at o_0 r_b fu 0 r_place_at (D.row [[D.int 147, D.row [[D.int r_place_at, D.row [[D.int 36, D.int 2]]]]]]) [] fun o_3 o_4 o_5 => bif !!o_4.some? then (k0 o_3 o_4 []) else (k0 o_3 o_4 o_5) else F50_506 fu r_place_at o_0 r_b fu 0 o_1 o_2 [] fun o_6 o_7 o_8 => bif !!o_7.some? then (k0 o_6 o_7 []) else (k0 o_6 o_7 o_8) else F50_506 fu r_place_at o_0 r_b fu 0 o_1 o_2 [] fun o_9 o_10 o_11 => bif !!o_10.some? then (k0 o_9 o_10 []) else (k0 o_9 o_10 o_11)

noncomputable def pc50 (fu : Nat) : Nat → Option ToldP := fun p => match Nat.beq p 506 with | true => some (ghP 1 [.live (bitsM 9 0x1e1), .ownP 7 [] ft1, .gc, .ifC 0 1 [147] ft2, .gc] (pkP (bitsM 9 0x1e1) (t50_506 fu fu))) | false => none
noncomputable def t50 (fu : Nat) : ToldF := fun _ args s K => match args, s with
  | [.ptr 0 0, .int .i64 most], [.obj [.int .i64 r_place_at, .ifz zq0 zq1 r_place_err, .fz zq2 r_b false]] => (match natsEq zq0 [147] with | true => (match FT.sames zq1 ft2 with | true => (match FT.sames zq2 ft0 with | true => F50 fu most r_place_at r_place_err r_b (fun o_ o_1 o_2 => K (.own 1) [.obj [.int .i64 o_, .ifz [147] ft2 o_1, .fz ft0 (r_b) false], .row ft1 o_2]) | false => none) | false => none) | false => none)
  | _, _ => none

theorem e50 (R : Type) (K : UV → USt → Option R) (fu : Nat) (most : Int) (r_place_at : Int) (r_place_err : D) (r_b : List (List D)) :
    F50 fu most r_place_at r_place_err r_b (fun o_ o_1 o_2 => K (.own 1) [.obj [.int .i64 o_, .ifz [147] ft2 o_1, .fz ft0 (r_b) false], .row ft1 o_2]) = ufun Try.prog ⟨(tb49 fu), pc50 fu⟩ 300 50 [.ptr 0 0, .int .i64 most] [.obj [.int .i64 r_place_at, .ifz [147] ft2 r_place_err, .fz ft0 r_b false]] (funK 1 [.ownP 0 [] ft1, .gc, .ifC 0 1 [147] ft2, .fzC 0 2 ft0, .gc] K) := by kernel_rfl

theorem s50 (fu : Nat) : Tells Try.prog 50 (t50 fu) := by
  refine ufun_sound (T := ⟨(tb49 fu), pc50 fu⟩) (m := 1) (gout := [.ownP 0 [] ft1, .gc, .ifC 0 1 [147] ft2, .fzC 0 2 ft0, .gc]) (k := 300) (tb49_sound fu) (fun fn body hf hb => ?_) (fun R args s K r h => ?_) (fun R args s K r h => ?_)
  · have hc : body = code50 := by
      have h1 : Try.prog.funcs[50]? = some Try.f50 := rfl
      rw [h1] at hf; cases hf
      have h2 : Try.f50.body = some code50 := rfl
      rw [h2] at hb; cases hb; rfl
    subst hc
    exact fun p told h b hb => by
      replace h : pc50 fu p = some told := h
      unfold pc50 at h
      split at h
      · rename_i hp
        cases h
        have := Nat.eq_of_beq_eq_true hp
        subst this
        rw [a50_506] at hb
        cases hb
        exact ghP_sound (s50_506 fu _)
      ·
        cases h

  · unfold t50 at h; split at h
    · rfl
    · cases h
  · unfold t50 at h; split at h
    case h_2 => cases h
    split at h
    case h_2 => cases h
    rename_i hq
    have hq := natsEq_eq _ _ hq
    subst hq
    split at h
    case h_2 => cases h
    rename_i hq
    have hq := FT.sames_eq _ _ hq
    subst hq
    split at h
    case h_2 => cases h
    rename_i hq
    have hq := FT.sames_eq _ _ hq
    subst hq
    exact (e50 R K fu _ _ _ _).symm.trans h

noncomputable def tb50 (fu : Nat) : FuncId → Option (Bool × ToldF) := fun f => match Nat.beq f 50 with
  | true => some (false, ghG [.gc, .ifC 0 1 [147] ft2, .fzC 0 2 ft0, .gc] (t50 fu))
  | false => (tb49 fu) f
theorem tb50_sound (fu : Nat) : SoundF' Try.prog (tb50 fu) := by
  intro f own told h
  unfold tb50 at h
  split at h
  · rename_i hb
    cases h
    have := Nat.eq_of_beq_eq_true hb
    subst this
    exact ghG_sound (s50 fu)
  · exact (tb49_sound fu) f own told h

end Go.Proofs.Ytdoikghgblohjaa.V

/- Printed by ugen: daisychain/daisychainlaw01.same -/
namespace Go.Proofs.Ytdoikghgblohjaa.V
set_option maxRecDepth 100000
set_option maxHeartbeats 4000000


noncomputable def code51 : Code := match Try.f51.body with | some c => c | none => .skip
theorem a51_58 : codeAt code51 58 = some (.loop (loopBody (codeAt code51 58))) := by kernel_rfl
noncomputable def F51_58 {R : Type} (fu : Nat) (a : List (List D)) (b : List (List D)) (x : Int) : Nat → Int → (Option R) → (Option R) → Option R
  | 0, _, _, _ => none
  | n + 1, x1, k0, k1 => bif decide (x1 < x) then bif within x1 a.length then bif within x1 b.length then bif !decide ((cell 0 (elem x1.toNat a)).toInt = (cell 0 (elem x1.toNat b)).toInt) then (k0) else (F51_58 fu a b x n (IntKind.i64.wrap (x1 + 1)) k0 k1) else none else none else (k1)

noncomputable def t51_58 (fu n : Nat) : ToldP := fun _ e s K => match e, s with
  | [.fz zq0 a false, .fz zq1 b false, .int .i64 x, .int .i64 x1], [] => (match FT.sames zq0 ft1 with | true => (match FT.sames zq1 ft1 with | true => F51_58 fu a b x n x1 (K .ret (unpackM (bitsM 5 0x10) [.bool (false)]) []) (K (.exit 0) (unpackM (bitsM 5 0x0) []) []) | false => none) | false => none)
  | _, _ => none

noncomputable def pc51_58 (fu : Nat) : Nat → Option ToldP := fun _ => none
theorem e51_58 (fu n : Nat) (R : Type) (K : VExit → UEnv → USt → Option R) (a : List (List D)) (b : List (List D)) (x : Int) (x1 : Int) :
    F51_58 fu a b x (n + 1) x1 (K .ret (unpackM (bitsM 5 0x10) [.bool (false)]) []) (K (.exit 0) (unpackM (bitsM 5 0x0) []) []) = uexec Try.prog (tb50 fu) 300 (pc51_58 fu) 116 (loopBody (codeAt code51 58)) (unpackM (bitsM 14 0x3003) [.fz ft1 a false, .fz ft1 b false, .int .i64 x, .int .i64 x1]) [] (loopK 0 [.live (bitsM 14 0x3003), .fzP 0 [] ft1, .fzP 1 [] ft1, .gc] [.live (bitsM 5 0x10), .gc] (pkP (bitsM 14 0x3003) (t51_58 fu n)) K) := by kernel_rfl

theorem p51_58 (fu : Nat) : SoundPc Try.prog 0 code51 (pc51_58 fu) := SoundPc.none _ _ _
theorem s51_58 (fu : Nat) : ∀ n, SoundP Try.prog 0 (.loop (loopBody (codeAt code51 58))) (pkP (bitsM 14 0x3003) (t51_58 fu n)) := by
  refine loopP_sound (gin := [.live (bitsM 14 0x3003), .fzP 0 [] ft1, .fzP 1 [] ft1, .gc]) (gout := [.live (bitsM 5 0x10), .gc]) (k := 300) (tb50_sound fu) (p51_58 fu) (by decide) a51_58 (fun R e s K => ?_) (fun n R e s K r h => ?_)
  · unfold t51_58; repeat' split
    all_goals rfl
  · unfold t51_58 at h; split at h
    case h_2 => cases h
    split at h
    case h_2 => cases h
    rename_i hq
    have hq := FT.sames_eq _ _ hq
    subst hq
    split at h
    case h_2 => cases h
    rename_i hq
    have hq := FT.sames_eq _ _ hq
    subst hq
    exact (e51_58 fu n R K _ _ _ _).symm.trans h


noncomputable def F51 {R : Type} (fu : Nat) (a : List (List D)) (b : List (List D)) (k0 : Bool → Option R) : Option R :=
  bif !decide (ofN a.length = ofN b.length) then (k0 false) else F51_58 fu a b (ofN a.length) fu 0 ((k0 false)) ((k0 true))

noncomputable def pc51 (fu : Nat) : Nat → Option ToldP := fun p => match Nat.beq p 58 with | true => some (ghP 0 [.live (bitsM 14 0x3003), .fzP 0 [] ft1, .fzP 1 [] ft1, .gc] (pkP (bitsM 14 0x3003) (t51_58 fu fu))) | false => none
noncomputable def t51 (fu : Nat) : ToldF := fun _ args s K => match args, s with
  | [.fz zq0 a false, .fz zq1 b false], [] => (match FT.sames zq0 ft1 with | true => (match FT.sames zq1 ft1 with | true => F51 fu a b (fun o_ => K (.bool o_) []) | false => none) | false => none)
  | _, _ => none

theorem e51 (R : Type) (K : UV → USt → Option R) (fu : Nat) (a : List (List D)) (b : List (List D)) :
    F51 fu a b (fun o_ => K (.bool o_) []) = ufun Try.prog ⟨(tb50 fu), pc51 fu⟩ 300 51 [.fz ft1 a false, .fz ft1 b false] [] (funK 0 [.gc] K) := by kernel_rfl

theorem s51 (fu : Nat) : Tells Try.prog 51 (t51 fu) := by
  refine ufun_sound (T := ⟨(tb50 fu), pc51 fu⟩) (m := 0) (gout := [.gc]) (k := 300) (tb50_sound fu) (fun fn body hf hb => ?_) (fun R args s K r h => ?_) (fun R args s K r h => ?_)
  · have hc : body = code51 := by
      have h1 : Try.prog.funcs[51]? = some Try.f51 := rfl
      rw [h1] at hf; cases hf
      have h2 : Try.f51.body = some code51 := rfl
      rw [h2] at hb; cases hb; rfl
    subst hc
    exact fun p told h b hb => by
      replace h : pc51 fu p = some told := h
      unfold pc51 at h
      split at h
      · rename_i hp
        cases h
        have := Nat.eq_of_beq_eq_true hp
        subst this
        rw [a51_58] at hb
        cases hb
        exact ghP_sound (s51_58 fu _)
      ·
        cases h

  · unfold t51 at h; split at h
    · rfl
    · cases h
  · unfold t51 at h; split at h
    case h_2 => cases h
    split at h
    case h_2 => cases h
    rename_i hq
    have hq := FT.sames_eq _ _ hq
    subst hq
    split at h
    case h_2 => cases h
    rename_i hq
    have hq := FT.sames_eq _ _ hq
    subst hq
    exact (e51 R K fu _ _).symm.trans h

noncomputable def tb51 (fu : Nat) : FuncId → Option (Bool × ToldF) := fun f => match Nat.beq f 51 with
  | true => some (false, ghG [.fzP 0 [] ft1, .fzP 1 [] ft1] (t51 fu))
  | false => (tb50 fu) f
theorem tb51_sound (fu : Nat) : SoundF' Try.prog (tb51 fu) := by
  intro f own told h
  unfold tb51 at h
  split at h
  · rename_i hb
    cases h
    have := Nat.eq_of_beq_eq_true hb
    subst this
    exact ghG_sound (s51 fu)
  · exact (tb50_sound fu) f own told h

end Go.Proofs.Ytdoikghgblohjaa.V

/- Printed by ugen: (*daisychain/coil.Reader).Done -/
namespace Go.Proofs.Ytdoikghgblohjaa.V
set_option maxRecDepth 100000
set_option maxHeartbeats 4000000


noncomputable def code52 : Code := match Try.f52.body with | some c => c | none => .skip

noncomputable def F52 {R : Type} (fu : Nat) (r_place_at : Int) (r_place_err : D) (r_b : List (List D)) (k0 : D → Option R) : Option R :=
  bif !r_place_err.some? then F67 fu r_place_at r_place_err r_b fun o_0 => bif decide (0 < o_0) then (k0 (D.row [[D.int 147, D.row [[D.int r_place_at, D.row [[D.int 36, D.int 2]]]]]])) else (k0 r_place_err) else (k0 r_place_err)

noncomputable def pc52 (fu : Nat) : Nat → Option ToldP := fun _ => none
noncomputable def t52 (fu : Nat) : ToldF := fun _ args s K => match args, s with
  | [.ptr 0 0], [.obj [.int .i64 r_place_at, .ifz zq0 zq1 r_place_err, .fz zq2 r_b false]] => (match natsEq zq0 [147] with | true => (match FT.sames zq1 ft2 with | true => (match FT.sames zq2 ft0 with | true => F52 fu r_place_at r_place_err r_b (fun o_ => K (.ifz [147] ft2 o_) [.obj [.int .i64 (r_place_at), .ifz [147] ft2 (r_place_err), .fz ft0 (r_b) false]]) | false => none) | false => none) | false => none)
  | _, _ => none

theorem e52 (R : Type) (K : UV → USt → Option R) (fu : Nat) (r_place_at : Int) (r_place_err : D) (r_b : List (List D)) :
    F52 fu r_place_at r_place_err r_b (fun o_ => K (.ifz [147] ft2 o_) [.obj [.int .i64 (r_place_at), .ifz [147] ft2 (r_place_err), .fz ft0 (r_b) false]]) = ufun Try.prog ⟨(tb51 fu), pc52 fu⟩ 300 52 [.ptr 0 0] [.obj [.int .i64 r_place_at, .ifz [147] ft2 r_place_err, .fz ft0 r_b false]] (funK 1 [.ifP 0 [] [147] ft2, .gc, .ifC 0 1 [147] ft2, .fzC 0 2 ft0, .gc] K) := by kernel_rfl

theorem s52 (fu : Nat) : Tells Try.prog 52 (t52 fu) := by
  refine ufun_sound (T := ⟨(tb51 fu), pc52 fu⟩) (m := 1) (gout := [.ifP 0 [] [147] ft2, .gc, .ifC 0 1 [147] ft2, .fzC 0 2 ft0, .gc]) (k := 300) (tb51_sound fu) (fun fn body hf hb => ?_) (fun R args s K r h => ?_) (fun R args s K r h => ?_)
  · have hc : body = code52 := by
      have h1 : Try.prog.funcs[52]? = some Try.f52 := rfl
      rw [h1] at hf; cases hf
      have h2 : Try.f52.body = some code52 := rfl
      rw [h2] at hb; cases hb; rfl
    subst hc
    exact SoundPc.none _ _ _
  · unfold t52 at h; split at h
    · rfl
    · cases h
  · unfold t52 at h; split at h
    case h_2 => cases h
    split at h
    case h_2 => cases h
    rename_i hq
    have hq := natsEq_eq _ _ hq
    subst hq
    split at h
    case h_2 => cases h
    rename_i hq
    have hq := FT.sames_eq _ _ hq
    subst hq
    split at h
    case h_2 => cases h
    rename_i hq
    have hq := FT.sames_eq _ _ hq
    subst hq
    exact (e52 R K fu _ _ _).symm.trans h

noncomputable def tb52 (fu : Nat) : FuncId → Option (Bool × ToldF) := fun f => match Nat.beq f 52 with
  | true => some (false, ghG [.gc, .ifC 0 1 [147] ft2, .fzC 0 2 ft0, .gc] (t52 fu))
  | false => (tb51 fu) f
theorem tb52_sound (fu : Nat) : SoundF' Try.prog (tb52 fu) := by
  intro f own told h
  unfold tb52 at h
  split at h
  · rename_i hb
    cases h
    have := Nat.eq_of_beq_eq_true hb
    subst this
    exact ghG_sound (s52 fu)
  · exact (tb51_sound fu) f own told h

end Go.Proofs.Ytdoikghgblohjaa.V

/- Printed by ugen: daisychain/daisychainlaw01.CoilBack -/
namespace Go.Proofs.Ytdoikghgblohjaa.V
set_option maxRecDepth 100000
set_option maxHeartbeats 4000000


noncomputable def code11 : Code := match Try.f11.body with | some c => c | none => .skip
theorem a11_58 : codeAt code11 58 = some (.loop (loopBody (codeAt code11 58))) := by kernel_rfl
noncomputable def F11_58 {R : Type} (fu : Nat) (x : List (List D)) (x1 : Int) : Nat → Int → (Option R) → (Option R) → Option R
  | 0, _, _, _ => none
  | n + 1, x2, k0, k1 => bif decide (x2 < x1) then bif within x2 x.length then bif decide ((cell 0 (elem x2.toNat x)).toInt < 0) then F30 fu ((k0)) else (F11_58 fu x x1 n (IntKind.i64.wrap (x2 + 1)) k0 k1) else none else (k1)

noncomputable def t11_58 (fu n : Nat) : ToldP := fun _ e s K => match e, s with
  | [.int .i64 n_, .str s, .fz zq0 l false, .fz zq1 x false, .int .i64 x1, .int .i64 x2], [] => (match FT.sames zq0 ft1 with | true => (match FT.sames zq1 ft1 with | true => F11_58 fu x x1 n x2 (K .ret (unpackM (bitsM 7 0x47) [.int .i64 (n_), .str (s), .fz ft1 (l) false, .bool (true)]) []) (K (.exit 0) (unpackM (bitsM 7 0x7) [.int .i64 (n_), .str (s), .fz ft1 (l) false]) []) | false => none) | false => none)
  | _, _ => none

noncomputable def pc11_58 (fu : Nat) : Nat → Option ToldP := fun _ => none
theorem e11_58 (fu n : Nat) (R : Type) (K : VExit → UEnv → USt → Option R) (n_ : Int) (s : ByteArray) (l : List (List D)) (x : List (List D)) (x1 : Int) (x2 : Int) :
    F11_58 fu x x1 (n + 1) x2 (K .ret (unpackM (bitsM 7 0x47) [.int .i64 (n_), .str (s), .fz ft1 (l) false, .bool (true)]) []) (K (.exit 0) (unpackM (bitsM 7 0x7) [.int .i64 (n_), .str (s), .fz ft1 (l) false]) []) = uexec Try.prog (tb52 fu) 300 (pc11_58 fu) 116 (loopBody (codeAt code11 58)) (unpackM (bitsM 29 0x1c000007) [.int .i64 n_, .str s, .fz ft1 l false, .fz ft1 x false, .int .i64 x1, .int .i64 x2]) [] (loopK 0 [.live (bitsM 29 0x1c000007), .fzP 2 [] ft1, .fzP 26 [] ft1, .gc] [.live (bitsM 7 0x47), .gc] (pkP (bitsM 29 0x1c000007) (t11_58 fu n)) K) := by kernel_rfl

theorem p11_58 (fu : Nat) : SoundPc Try.prog 0 code11 (pc11_58 fu) := SoundPc.none _ _ _
theorem s11_58 (fu : Nat) : ∀ n, SoundP Try.prog 0 (.loop (loopBody (codeAt code11 58))) (pkP (bitsM 29 0x1c000007) (t11_58 fu n)) := by
  refine loopP_sound (gin := [.live (bitsM 29 0x1c000007), .fzP 2 [] ft1, .fzP 26 [] ft1, .gc]) (gout := [.live (bitsM 7 0x47), .gc]) (k := 300) (tb52_sound fu) (p11_58 fu) (by decide) a11_58 (fun R e s K => ?_) (fun n R e s K r h => ?_)
  · unfold t11_58; repeat' split
    all_goals rfl
  · unfold t11_58 at h; split at h
    case h_2 => cases h
    split at h
    case h_2 => cases h
    rename_i hq
    have hq := FT.sames_eq _ _ hq
    subst hq
    split at h
    case h_2 => cases h
    rename_i hq
    have hq := FT.sames_eq _ _ hq
    subst hq
    exact (e11_58 fu n R K _ _ _ _ _ _).symm.trans h


noncomputable def F11 {R : Type} (fu : Nat) (n_ : Int) (s : ByteArray) (l : List (List D)) (k0 : Bool → Option R) : Option R :=
  bif decide (n_ < 0) then F30 fu ((k0 true)) else bif decide (400 < ofN s.size) then F30 fu ((k0 true)) else bif decide (400 < ofN l.length) then F30 fu ((k0 true)) else F11_58 fu l (ofN l.length) fu 0 ((k0 true)) (F32 fu [] n_ fun o_0 => F33 fu o_0 s fun o_1 => F36 fu o_1 l fun o_2 => F47 fu o_2 fun o_3 => F48 fu 0 o_3 o_2 fun o_4 o_5 o_6 => F49 fu (ofN s.size) o_5 o_6 o_2 fun o_7 o_8 o_9 => F50 fu (ofN l.length) o_8 o_9 o_2 fun o_10 o_11 o_12 => bif decide (o_4 = n_) then bif strEq o_7 s then F51 fu o_12 l fun o_13 => bif o_13 then F52 fu o_10 o_11 o_2 fun o_14 => bif !o_14.some? then F30 fu ((k0 true)) else (k0 false) else (k0 false) else (k0 false) else (k0 false))

noncomputable def pc11 (fu : Nat) : Nat → Option ToldP := fun p => match Nat.beq p 58 with | true => some (ghP 0 [.live (bitsM 29 0x1c000007), .fzP 2 [] ft1, .fzP 26 [] ft1, .gc] (pkP (bitsM 29 0x1c000007) (t11_58 fu fu))) | false => none
noncomputable def t11 (fu : Nat) : ToldF := fun _ args s K => match args, s with
  | [.int .i64 n_, .str s, .fz zq0 l false], [] => (match FT.sames zq0 ft1 with | true => F11 fu n_ s l (fun o_ => K (.bool o_) []) | false => none)
  | _, _ => none

theorem e11 (R : Type) (K : UV → USt → Option R) (fu : Nat) (n_ : Int) (s : ByteArray) (l : List (List D)) :
    F11 fu n_ s l (fun o_ => K (.bool o_) []) = ufun Try.prog ⟨(tb52 fu), pc11 fu⟩ 300 11 [.int .i64 n_, .str s, .fz ft1 l false] [] (funK 0 [.gc] K) := by kernel_rfl

theorem s11 (fu : Nat) : Tells Try.prog 11 (t11 fu) := by
  refine ufun_sound (T := ⟨(tb52 fu), pc11 fu⟩) (m := 0) (gout := [.gc]) (k := 300) (tb52_sound fu) (fun fn body hf hb => ?_) (fun R args s K r h => ?_) (fun R args s K r h => ?_)
  · have hc : body = code11 := by
      have h1 : Try.prog.funcs[11]? = some Try.f11 := rfl
      rw [h1] at hf; cases hf
      have h2 : Try.f11.body = some code11 := rfl
      rw [h2] at hb; cases hb; rfl
    subst hc
    exact fun p told h b hb => by
      replace h : pc11 fu p = some told := h
      unfold pc11 at h
      split at h
      · rename_i hp
        cases h
        have := Nat.eq_of_beq_eq_true hp
        subst this
        rw [a11_58] at hb
        cases hb
        exact ghP_sound (s11_58 fu _)
      ·
        cases h

  · unfold t11 at h; split at h
    · rfl
    · cases h
  · unfold t11 at h; split at h
    case h_2 => cases h
    split at h
    case h_2 => cases h
    rename_i hq
    have hq := FT.sames_eq _ _ hq
    subst hq
    exact (e11 R K fu _ _ _).symm.trans h

noncomputable def tb11 (fu : Nat) : FuncId → Option (Bool × ToldF) := fun f => match Nat.beq f 11 with
  | true => some (false, ghG [.fzP 2 [] ft1] (t11 fu))
  | false => (tb52 fu) f
theorem tb11_sound (fu : Nat) : SoundF' Try.prog (tb11 fu) := by
  intro f own told h
  unfold tb11 at h
  split at h
  · rename_i hb
    cases h
    have := Nat.eq_of_beq_eq_true hb
    subst this
    exact ghG_sound (s11 fu)
  · exact (tb52_sound fu) f own told h

end Go.Proofs.Ytdoikghgblohjaa.V

/- From the plain law of function 11 to V's. -/
namespace Go.Proofs.Ytdoikghgblohjaa.V

theorem law11 (fu : Nat) (H : ∀ (ds1 ds2 ds3 : List D), WFDs ft1 ds1 → WFDs [FT.str] ds2 → WFDs [FT.row 8 [FT.int IntKind.i64]] ds3 → F11 fu ((cell 0 ds1).toInt) ((cell 0 ds2).toStr) ((cell 0 ds3).toRows) (fun o => some o) = some true) : Law Try.prog 11 Try.f11.params.toList := by
  refine law_of_told (by kernel_rfl) (by kernel_rfl) (s11 fu) (fun dss hw => ?_)
  have hts : Try.f11.params.toList = [3, 9, 27] := rfl
  rw [hts] at hw
  cases hw with
  | cons t1 ts1 fts1 ds1 dss1 hf1 hd1 hr1 =>
    have e1 : flat Try.prog 20 3 = some ft1 := by kernel_rfl
    rw [e1] at hf1; cases hf1
    cases hr1 with
    | cons t2 ts2 fts2 ds2 dss2 hf2 hd2 hr2 =>
      have e2 : flat Try.prog 20 9 = some [FT.str] := by kernel_rfl
      rw [e2] at hf2; cases hf2
      cases hr2 with
      | cons t3 ts3 fts3 ds3 dss3 hf3 hd3 hr3 =>
        have e3 : flat Try.prog 20 27 = some [FT.row 8 [FT.int IntKind.i64]] := by kernel_rfl
        rw [e3] at hf3; cases hf3
        cases hr3
        have h1 : t11 fu Bool (argsU Try.prog Try.f11.params.toList [ds1, ds2, ds3]) [] boolK = F11 fu ((cell 0 ds1).toInt) ((cell 0 ds2).toStr) ((cell 0 ds3).toRows) (fun o => some o) := by kernel_rfl
        exact h1.trans (H ds1 ds2 ds3 hd1 hd2 hd3)
end Go.Proofs.Ytdoikghgblohjaa.V

/- Words that all plain proofs use. -/
namespace Go.Proofs.Ytdoikghgblohjaa.V

theorem wrap_of {x : Int} (h0 : -9223372036854775808 ≤ x) (h1 : x ≤ 9223372036854775807) : IntKind.i64.wrap x = x := by
  rw [IntKind.wrap_i64]; omega

theorem wrap_succ {i : Nat} (h : i ≤ 9223372036854775806) : IntKind.i64.wrap ((i : Int) + 1) = ((i + 1 : Nat) : Int) := by rw [wrap_of (by omega) (by omega)]; rfl

theorem fits_of {n b : Nat} (hn : n ≤ 1000000) (hb : b ≤ 1000) : fits n b = true := by
  unfold fits maxBytes
  have : n * b ≤ 1000000 * 1000 := Nat.mul_le_mul hn hb
  exact decide_eq_true ⟨by omega, by omega⟩

theorem within_of {j n : Nat} (h : j < n) : within (j : Int) n = true := by
  unfold within; exact decide_eq_true ⟨by omega, by omega⟩

theorem within_int {j : Int} {n : Nat} (h0 : 0 ≤ j) (h : j < n) : within j n = true := by
  unfold within; exact decide_eq_true ⟨h0, by omega⟩

theorem lt_true {a b : Int} (h : a < b) : decide (a < b) = true := decide_eq_true h
theorem lt_false {a b : Int} (h : ¬ a < b) : decide (a < b) = false := decide_eq_false h
theorem le_true {a b : Int} (h : a ≤ b) : decide (a ≤ b) = true := decide_eq_true h
theorem le_false {a b : Int} (h : ¬ a ≤ b) : decide (a ≤ b) = false := decide_eq_false h
theorem eq_true {a b : Int} (h : a = b) : decide (a = b) = true := decide_eq_true h
theorem eq_false {a b : Int} (h : ¬ a = b) : decide (a = b) = false := decide_eq_false h

theorem strEq_refl (x : ByteArray) : strEq x x = true := by simp [strEq]

theorem elem_mem {i : Nat} {l : List (List D)} (h : i < l.length) : elem i l ∈ l := by
  unfold elem
  rw [List.getD_eq_getElem?_getD, List.getElem?_eq_getElem h]
  exact List.getElem_mem h

/-- Sizes of data as it comes. -/
theorem WFD.rows_len {bytes : Nat} {fts : List FT} {d : D} (h : WFD (.row bytes fts) d) : d.toRows.length * bytes ≤ reachBytes := by
  cases h with
  | nil => simp [D.toRows]
  | row _ _ rows hb hl hr => simp only [D.toRows]; first | exact hb | (simpa using hb)

theorem WFD.str_len {d : D} (h : WFD .str d) : d.toStr.size ≤ reachBytes := by
  cases h with
  | str s h => exact h

theorem WFD.rows {bytes : Nat} {fts : List FT} {d : D} (h : WFD (.row bytes fts) d) : ∀ r ∈ d.toRows, WFDs fts r := by
  cases h with
  | nil => intro r hr; cases hr
  | row _ _ rows hb hl hr =>
    intro r hm
    refine ⟨hl r hm, fun j ft d h1 h2 => hr r hm j ft d h1 h2⟩

theorem WFDs.cell {fts : List FT} {ds : List D} (h : WFDs fts ds) {j : Nat} {ft : FT} (hj : fts[j]? = some ft) : WFD ft (V.cell j ds) := by
  have hlt : j < ds.length := by rw [h.len]; exact (List.getElem?_eq_some_iff.1 hj).1
  have hd := List.getElem?_eq_getElem hlt
  unfold V.cell
  rw [List.getD_eq_getElem?_getD, hd]
  exact h.at_ j ft _ hj hd

theorem reach_lt : reachBytes < 140737488355328 := by decide

end Go.Proofs.Ytdoikghgblohjaa.V

/- Numbers as bytes: plain laws. -/
namespace Go.Proofs.Ytdoikghgblohjaa.V

/-- A number's bytes. -/
def numL (m : Nat) : List Nat := if m < 128 then [m] else (m % 128 + 128) :: numL (m / 128)
termination_by m
decreasing_by omega

def initL (m : Nat) : List Nat := if m < 128 then [] else (m % 128 + 128) :: initL (m / 128)
termination_by m
decreasing_by omega

def lastL (m : Nat) : Nat := if m < 128 then m else lastL (m / 128)
termination_by m
decreasing_by omega

theorem numL_eq (m : Nat) : numL m = initL m ++ [lastL m] := by
  induction m using Nat.strongRecOn with
  | ind m ih =>
    rw [numL, initL, lastL]
    split
    · rfl
    · rw [ih (m / 128) (by omega)]; rfl

theorem lastL_lt (m : Nat) : lastL m < 128 := by
  induction m using Nat.strongRecOn with
  | ind m ih =>
    rw [lastL]
    split
    · assumption
    · exact ih (m / 128) (by omega)

theorem numL_lt (m : Nat) : ∀ c ∈ numL m, c < 256 := by
  induction m using Nat.strongRecOn with
  | ind m ih =>
    rw [numL]
    split
    · intro c hc; simp only [List.mem_singleton] at hc; omega
    · intro c hc
      rcases List.mem_cons.1 hc with rfl | hc
      · omega
      · exact ih (m / 128) (by omega) c hc

theorem numL_len (n : Nat) : ∀ m, m < 128 ^ (n + 1) → (numL m).length ≤ n + 1 := by
  induction n with
  | zero => intro m h; rw [numL, if_pos (by simpa using h)]; simp
  | succ n ih =>
    intro m h
    rw [numL]
    split
    · simp
    · have : m / 128 < 128 ^ (n + 1) := Nat.div_lt_of_lt_mul (by rw [Nat.pow_succ] at h; omega)
      have := ih (m / 128) this
      simp only [List.length_cons]; omega

theorem numL_len10 {m : Nat} (h : m < 9223372036854775808) : (numL m).length ≤ 10 := by
  have := numL_len 9 m (by simp; omega)
  omega

/-- No number's bytes begin another's. -/
theorem numL_free : ∀ (a b : Nat) (x y : List Nat), numL a ++ x = numL b ++ y → a = b ∧ x = y := by
  intro a
  induction a using Nat.strongRecOn with
  | ind a ih =>
    intro b x y h
    rw [numL, numL.eq_1 b] at h
    split at h <;> split at h
    · simp only [List.cons_append, List.nil_append, List.cons.injEq] at h; exact h
    · simp only [List.cons_append, List.nil_append, List.cons.injEq] at h; omega
    · simp only [List.cons_append, List.nil_append, List.cons.injEq] at h; omega
    · simp only [List.cons_append, List.cons.injEq] at h
      obtain ⟨h1, h2⟩ := ih (a / 128) (by omega) (b / 128) x y h.2
      exact ⟨by omega, h2⟩

theorem numL_inj {a b : Nat} (h : numL a = numL b) : a = b := (numL_free a b [] [] (by rw [List.append_nil, List.append_nil]; exact h)).1

/-- Bytes, as rows. -/
def byD (l : List Nat) : List (List D) := l.map fun (c : Nat) => [D.int (c : Int)]

theorem byD_len (l : List Nat) : (byD l).length = l.length := by simp [byD]
theorem byD_append (a b : List Nat) : byD (a ++ b) = byD a ++ byD b := by simp [byD]

def strL (s : ByteArray) : List Nat := s.data.toList.map (·.toNat)

theorem bytesD_eq (s : ByteArray) : bytesD s = byD (strL s) := by
  unfold bytesD byD strL
  rw [List.map_map]; rfl

theorem strL_len (s : ByteArray) : (strL s).length = s.size := by simp [strL]
theorem bytesD_len (s : ByteArray) : (bytesD s).length = s.size := by rw [bytesD_eq, byD_len, strL_len]

theorem strL_lt (s : ByteArray) : ∀ c ∈ strL s, c < 256 := by
  intro c hc
  unfold strL at hc
  obtain ⟨u, _, rfl⟩ := List.mem_map.1 hc
  exact u.toNat_lt

theorem strL_inj {s t : ByteArray} (h : strL s = strL t) : s = t := by
  unfold strL at h
  have h2 : s.data.toList = t.data.toList := (List.map_inj_right (fun a b e => UInt8.toNat_inj.1 e)).1 h
  cases s; cases t
  congr
  exact Array.toList_inj.1 h2

theorem strOf_byD {l : List Nat} (h : ∀ c ∈ l, c < 256) : strL (strOf (byD l)) = l := by
  unfold strOf byD strL
  simp only [List.map_map]
  conv => rhs; rw [← List.map_id l]
  apply List.map_congr_left
  intro c hc
  simp only [Function.comp, byteOf, cell, List.getD_eq_getElem?_getD, List.getElem?_cons_zero, Option.getD_some, D.toInt, Int.toNat_natCast, id_eq]
  rw [UInt8.toNat_ofNat']
  exact Nat.mod_eq_of_lt (h c hc)

theorem strEq_iff (s t : ByteArray) : strEq s t = decide (strL s = strL t) := by
  unfold strEq
  by_cases h : s = t
  · subst h; simp
  · rw [decide_eq_false (fun e => h (strL_inj e))]
    have : ¬ s.toList = t.toList := by
      intro e
      apply h
      cases s; cases t
      congr
      have := e
      simp only [ByteArray.toList_eq] at this
      exact Array.toList_inj.1 this
    simpa using this

theorem strEq_byD {a b : List Nat} (ha : ∀ c ∈ a, c < 256) (hb : ∀ c ∈ b, c < 256) : strEq (strOf (byD a)) (strOf (byD b)) = decide (a = b) := by
  rw [strEq_iff, strOf_byD ha, strOf_byD hb]

/-- A number, as the program has it: none is below 0. -/
def natOfI (n : Int) : Nat := (if 0 > n then 0 else n).toNat

theorem natOfI_eq (n : Int) : (if 0 > n then 0 else n) = (natOfI n : Int) := by
  unfold natOfI; split <;> omega

theorem or128 : ∀ j : Fin 256, (BitVec.ofInt 8 ((j.val : Nat) : Int) ||| BitVec.ofInt 8 128).toNat = j.val % 128 + 128 := by decide +kernel

theorem wrap8_small {m : Nat} (h : m < 256) : IntKind.u8.wrap (m : Int) = m := by
  rw [IntKind.wrap_u8]; omega

theorem wrap8_or (m : Nat) : IntKind.u8.wrap ↑(BitVec.ofInt IntKind.u8.bits (IntKind.u8.wrap (m : Int)) ||| BitVec.ofInt IntKind.u8.bits 128).toNat = ((m % 128 + 128 : Nat) : Int) := by
  have h1 : IntKind.u8.wrap (m : Int) = ((m % 256 : Nat) : Int) := by rw [IntKind.wrap_u8]; omega
  rw [h1, show IntKind.u8.bits = 8 from rfl, or128 ⟨m % 256, Nat.mod_lt _ (by omega)⟩]
  show IntKind.u8.wrap ((m % 256 % 128 + 128 : Nat) : Int) = _
  rw [wrap8_small (by omega)]
  omega

theorem fdiv128 (m : Nat) : (m : Int).fdiv (2 ^ min (Int.toNat 7) IntKind.i64.bits) = ((m / 128 : Nat) : Int) := by
  have h : (2 : Int) ^ min (Int.toNat 7) IntKind.i64.bits = 128 := by decide
  rw [h, Int.fdiv_eq_ediv_of_nonneg _ (by omega)]
  omega
end Go.Proofs.Ytdoikghgblohjaa.V

/- coil: what Num, Text, Nums write. -/
namespace Go.Proofs.Ytdoikghgblohjaa.V
variable {R : Type}

theorem byD_cons (c : Nat) (l : List Nat) : byD (c :: l) = [D.int (c : Int)] :: byD l := rfl

theorem num_loop (fu : Nat) (k : Int → List (List D) → Option R) : ∀ (n m : Nat) (out : List (List D)), m < 128 ^ (n + 1) → m < 9223372036854775808 → out.length + (initL m).length ≤ 900000 →
    F32_58 fu (n + 1) (m : Int) out k = k (lastL m : Int) (out ++ byD (initL m)) := by
  intro n
  induction n with
  | zero =>
    intro m out h h2 h3
    unfold F32_58
    rw [le_false (show ¬ (128 : Int) ≤ m by omega), cond_false]
    rw [lastL, initL, if_pos (by omega), if_pos (by omega)]
    simp [byD]
  | succ n ih =>
    intro m out h h2 h3
    unfold F32_58
    by_cases hm : m < 128
    · rw [le_false (show ¬ (128 : Int) ≤ m by omega), cond_false]
      rw [lastL, initL, if_pos (by omega), if_pos (by omega)]
      simp [byD]
    · rw [le_true (show (128 : Int) ≤ m by omega), cond_true, fits_of (by rw [initL, if_neg hm] at h3; simp at h3; omega) (by omega), cond_true, fdiv128, wrap8_or]
      rw [ih (m / 128) _ (Nat.div_lt_of_lt_mul (by rw [Nat.pow_succ] at h; omega)) (by omega) (by rw [initL, if_neg hm] at h3; simp at h3 ⊢; omega)]
      rw [lastL.eq_1 m, initL.eq_1 m, if_neg hm, if_neg hm, byD_cons, List.append_assoc]
      rfl

/-- Num writes a number's bytes. -/
theorem num_ok (fu : Nat) (hfu : 10 ≤ fu) (b : List (List D)) (n : Int) (hb : b.length ≤ 800000) (hn : n ≤ 9223372036854775807) (k : List (List D) → Option R) :
    F32 fu b n k = k (b ++ byD (numL (natOfI n))) := by
  unfold F32
  have hlt : natOfI n < 9223372036854775808 := by unfold natOfI; split <;> omega
  obtain ⟨f, rfl⟩ : ∃ f, fu = f + 10 := ⟨fu - 10, by omega⟩
  rw [fits_of (by omega) (by omega), cond_true, natOfI_eq]
  have hpow : natOfI n < 128 ^ ((f + 9) + 1) := by
    have : 128 ^ 10 ≤ 128 ^ ((f + 9) + 1) := Nat.pow_le_pow_right (by omega) (by omega)
    have : natOfI n < 128 ^ 10 := by omega
    omega
  have hl := numL_len10 hlt
  rw [numL_eq, List.length_append, List.length_singleton] at hl
  have := num_loop (f + 10) (fun o0 o1 => bif fits (o1.length + 1) 1 then (k (o1 ++ [[D.int (IntKind.u8.wrap o0)]])) else none) (f + 9) (natOfI n) b hpow hlt (by omega)
  refine this.trans ?_
  rw [fits_of (by rw [List.length_append, byD_len]; omega) (by omega), cond_true, wrap8_small (by have := lastL_lt (natOfI n); omega), numL_eq, byD_append, List.append_assoc]
  rfl

theorem text_ok (fu : Nat) (hfu : 10 ≤ fu) (b : List (List D)) (s : ByteArray) (hb : b.length ≤ 400000) (hs : s.size ≤ 400000) (k : List (List D) → Option R) :
    F33 fu b s k = k (b ++ byD (numL s.size) ++ byD (strL s)) := by
  unfold F33
  have h1 := numL_len10 (m := s.size) (by omega)
  have h2 : natOfI (ofN s.size) = s.size := by unfold natOfI ofN; split <;> omega
  rw [num_ok fu hfu b _ (by omega) (by unfold ofN; omega), h2, bytesD_len, fits_of (by rw [List.length_append, byD_len]; omega) (by omega), cond_true, bytesD_eq]

/-- A row's numbers. -/
def natsOf (l : List (List D)) : List Nat := l.map fun r => natOfI (cell 0 r).toInt

def numsL (l : List Nat) : List Nat := (l.map numL).flatten

theorem nums_loop (fu : Nat) (hfu : 10 ≤ fu) (l : List (List D)) (hl : l.length ≤ 10000) (hi : ∀ r ∈ l, (cell 0 r).toInt ≤ 9223372036854775807) (k : List (List D) → Option R) :
    ∀ (n i : Nat) (out : List (List D)), l.length + 1 ≤ i + n → i ≤ l.length → out.length + 10 * (l.length - i) ≤ 800000 →
      F36_58 fu l (ofN l.length) n (i : Int) out k = k (out ++ byD (numsL (natsOf (l.drop i)))) := by
  intro n
  induction n with
  | zero => intro i out h1 h2; omega
  | succ n ih =>
    intro i out h1 h2 h3
    unfold F36_58
    by_cases hlt : i < l.length
    · rw [lt_true (show (i : Int) < ofN l.length by unfold ofN; omega), cond_true, within_of hlt, cond_true, wrap_succ (by omega), Int.toNat_natCast]
      have he : elem i l = l[i] := by unfold elem; rw [List.getD_eq_getElem?_getD, List.getElem?_eq_getElem hlt]; rfl
      have hn := hi l[i] (List.getElem_mem hlt)
      have hlen := numL_len10 (m := natOfI (cell 0 l[i]).toInt) (by unfold natOfI; split <;> omega)
      rw [he, num_ok fu hfu out _ (by omega) hn, ih (i + 1) _ (by omega) (by omega) (by rw [List.length_append, byD_len]; omega)]
      rw [List.drop_eq_getElem_cons hlt]
      simp only [natsOf, List.map_cons, numsL, List.flatten_cons, byD_append, List.append_assoc]
    · rw [lt_false (show ¬ (i : Int) < ofN l.length by unfold ofN; omega), cond_false, List.drop_eq_nil_of_le (by omega)]
      simp [natsOf, numsL, byD]

theorem nums_ok (fu : Nat) (hfu : 10 ≤ fu) (b l : List (List D)) (hb : b.length ≤ 400000) (hl : l.length ≤ 10000) (hf : l.length < fu) (hi : ∀ r ∈ l, (cell 0 r).toInt ≤ 9223372036854775807) (k : List (List D) → Option R) :
    F36 fu b l k = k (b ++ byD (numL l.length) ++ byD (numsL (natsOf l))) := by
  unfold F36
  have h1 := numL_len10 (m := l.length) (by omega)
  have h2 : natOfI (ofN l.length) = l.length := by unfold natOfI ofN; split <;> omega
  rw [num_ok fu hfu b _ (by omega) (by unfold ofN; omega), h2]
  have := nums_loop fu hfu l hl hi k fu 0 (b ++ byD (numL l.length)) (by omega) (by omega) (by rw [List.length_append, byD_len]; omega)
  exact this
end Go.Proofs.Ytdoikghgblohjaa.V

/- coil: what its reader tells of what was written. -/
namespace Go.Proofs.Ytdoikghgblohjaa.V
variable {R : Type}

theorem ofInt_toNat {a : Nat} (h : a < 2 ^ 64) : (BitVec.ofInt 64 (a : Int)).toNat = a := by
  rw [BitVec.ofInt_natCast, BitVec.toNat_ofNat]; exact Nat.mod_eq_of_lt h

theorem or_sum {a b s : Nat} (ha : a < 2 ^ s) (hb : b * 2 ^ s + a < 2 ^ 64) : (BitVec.ofInt 64 (a : Int) ||| BitVec.ofInt 64 ((b * 2 ^ s : Nat) : Int)).toNat = a + b * 2 ^ s := by
  rw [BitVec.toNat_or, ofInt_toNat (by omega), ofInt_toNat (by omega), Nat.or_comm, ← Nat.shiftLeft_eq, ← Nat.shiftLeft_add_eq_or_of_lt ha]
  omega

theorem and127 {c : Nat} (h : c < 2 ^ 64) : (BitVec.ofInt 64 (c : Int) &&& BitVec.ofInt 64 127).toNat = c % 128 := by
  rw [BitVec.toNat_and, ofInt_toNat h, show (BitVec.ofInt 64 127).toNat = 2 ^ 7 - 1 by decide, Nat.and_two_pow_sub_one_eq_mod]

/-- One more digit. -/
theorem digit {acc c k : Nat} (hk : k ≤ 8) (hc : c < 256) (ha : acc < 2 ^ (7 * k)) (ht : c % 128 * 2 ^ (7 * k) + acc < 9223372036854775808) :
    IntKind.i64.wrap ↑(BitVec.ofInt IntKind.i64.bits (acc : Int) ||| BitVec.ofInt IntKind.i64.bits (IntKind.i64.wrap (IntKind.i64.wrap ↑(BitVec.ofInt IntKind.i64.bits (IntKind.i64.wrap (c : Int)) &&& BitVec.ofInt IntKind.i64.bits 127).toNat * 2 ^ min (IntKind.i64.wrap (7 * (k : Int))).toNat IntKind.i64.bits))).toNat = ((acc + c % 128 * 2 ^ (7 * k) : Nat) : Int) := by
  have e1 : IntKind.i64.wrap (7 * (k : Int)) = ((7 * k : Nat) : Int) := by rw [wrap_of (by omega) (by omega)]; push_cast; rfl
  have e2 : IntKind.i64.wrap (c : Int) = (c : Int) := wrap_of (by omega) (by omega)
  rw [e1, e2, show IntKind.i64.bits = 64 from rfl, Int.toNat_natCast, show min (7 * k) 64 = 7 * k by omega, and127 (by omega)]
  have e3 : IntKind.i64.wrap ((c % 128 : Nat) : Int) = ((c % 128 : Nat) : Int) := wrap_of (by omega) (by omega)
  rw [e3]
  have e4 : ((c % 128 : Nat) : Int) * 2 ^ (7 * k) = ((c % 128 * 2 ^ (7 * k) : Nat) : Int) := by push_cast; rfl
  rw [e4, wrap_of (x := ((c % 128 * 2 ^ (7 * k) : Nat) : Int)) (by omega) (by omega), or_sum ha (by omega)]
  exact wrap_of (by omega) (by omega)

theorem elem_byD (L : List Nat) {i : Nat} (h : i < L.length) : cell 0 (elem i (byD L)) = D.int (L[i] : Int) := by
  unfold elem byD
  rw [List.getD_eq_getElem?_getD, List.getElem?_map, List.getElem?_eq_getElem h]
  rfl

/-- A number that was written is read. -/
theorem read_loop (fu : Nat) (from_ : Int) (L : List Nat) (hL : L.length ≤ 1000000) (k0 : Int → Int → D → Option R) (k1 : Int → Option R) : ∀ (n m acc k p : Nat) (post : List Nat), k + n ≥ 10 → k ≤ 9 → L.drop p = numL m ++ post → (0 < k → 0 < m) → acc < 2 ^ (7 * k) → m * 2 ^ (7 * k) + acc < 9223372036854775808 →
    F75_58 fu from_ D.nil (byD L) n (acc : Int) (k : Int) (p : Int) k0 k1 = k0 ((m * 2 ^ (7 * k) + acc : Nat) : Int) ((p + (numL m).length : Nat) : Int) D.nil := by
  intro n
  induction n with
  | zero => intro m acc k p post h1 h2 h3 h4 h5 h6; omega
  | succ n ih =>
    intro m acc k p post h1 h2 h3 h4 h5 h6
    have hk8 : k ≤ 8 := by
      rcases Nat.lt_or_ge k 9 with h | h
      · omega
      · have hk9 : k = 9 := by omega
        subst hk9
        have := h4 (by omega)
        have : 1 * 2 ^ (7 * 9) ≤ m * 2 ^ (7 * 9) := Nat.mul_le_mul_right _ this
        omega
    have hne : numL m ≠ [] := by rw [numL_eq]; simp
    have hp : p < L.length := by
      rcases Nat.lt_or_ge p L.length with h | h
      · exact h
      · rw [List.drop_eq_nil_of_le h] at h3
        exact absurd (List.append_eq_nil_iff.1 h3.symm).1 hne
    have hd := List.drop_eq_getElem_cons hp
    rw [h3] at hd
    unfold F75_58
    simp only [D.some?, Bool.not_false, cond_true]
    rw [le_false (show ¬ (9 : Int) ≤ k by omega), cond_false, byD_len, le_false (show ¬ ofN L.length ≤ (p : Int) by unfold ofN; omega), cond_false, within_of hp, cond_true, Int.toNat_natCast, elem_byD L hp]
    rw [show (D.int (L[p] : Int)).toInt = (L[p] : Int) from rfl]
    have hpow : 0 < 2 ^ (7 * k) := Nat.pos_of_ne_zero (by simp)
    rw [lt_false (show ¬ IntKind.i64.wrap (7 * (k : Int)) < 0 by rw [wrap_of (by omega) (by omega)]; omega), cond_false]
    by_cases hm : m < 128
    · rw [numL, if_pos hm] at hd
      simp only [List.cons_append, List.nil_append, List.cons.injEq] at hd
      obtain ⟨hc, _⟩ := hd
      rw [← hc]
      have hmod : m % 128 = m := Nat.mod_eq_of_lt hm
      have hw : IntKind.i64.wrap (m : Int) = (m : Int) := wrap_of (by omega) (by omega)
      rw [digit hk8 (by omega) h5 (by rw [hmod]; exact h6), hmod]
      rw [hw, le_false (show ¬ (128 : Int) ≤ m by omega), cond_false]
      have hlen : (numL m).length = 1 := by rw [numL, if_pos hm]; rfl
      rw [hlen, Nat.add_comm acc]
      by_cases hz : m = 0
      · subst hz
        have : ¬ 0 < k := fun h => by have := h4 h; omega
        rw [eq_true (show ((0 : Nat) : Int) = 0 from rfl), cond_true, lt_false (show ¬ (0 : Int) < k by omega), cond_false, wrap_succ (by omega)]
      · rw [eq_false (show ¬ (m : Int) = 0 by omega), cond_false, wrap_succ (by omega)]
    · rw [numL, if_neg hm] at hd
      simp only [List.cons_append, List.cons.injEq] at hd
      obtain ⟨hc, hrest⟩ := hd
      rw [← hc]
      have hw : IntKind.i64.wrap ((m % 128 + 128 : Nat) : Int) = ((m % 128 + 128 : Nat) : Int) := wrap_of (by omega) (by omega)
      have hmod : (m % 128 + 128) % 128 = m % 128 := by omega
      have hsplit : m * 2 ^ (7 * k) = m / 128 * 2 ^ (7 * (k + 1)) + m % 128 * 2 ^ (7 * k) := by
        have e : 2 ^ (7 * (k + 1)) = 128 * 2 ^ (7 * k) := by rw [show 7 * (k + 1) = 7 + 7 * k by omega, Nat.pow_add]
        rw [e]
        have : m = m / 128 * 128 + m % 128 := by omega
        conv => lhs; rw [this]
        rw [Nat.add_mul, Nat.mul_assoc]
      have hle : m % 128 * 2 ^ (7 * k) + acc < 2 ^ (7 * (k + 1)) := by
        have e : 2 ^ (7 * (k + 1)) = 128 * 2 ^ (7 * k) := by rw [show 7 * (k + 1) = 7 + 7 * k by omega, Nat.pow_add]
        rw [e]
        have : m % 128 * 2 ^ (7 * k) ≤ 127 * 2 ^ (7 * k) := Nat.mul_le_mul_right _ (by omega)
        omega
      rw [digit hk8 (by omega) h5 (by rw [hmod]; omega), hmod, wrap_succ (by omega), wrap_succ (by omega)]
      rw [hw, le_true (show (128 : Int) ≤ ((m % 128 + 128 : Nat) : Int) by omega), cond_true]
      have := ih (m / 128) (acc + m % 128 * 2 ^ (7 * k)) (k + 1) (p + 1) post (by omega) (by omega) hrest.symm (fun _ => by omega) (by omega) (by omega)
      rw [this]
      have hlen : (numL m).length = (numL (m / 128)).length + 1 := by rw [numL.eq_1 m, if_neg hm]; rfl
      rw [hlen]
      congr 1
      · congr 1; omega
      · congr 1; omega

theorem number_ok (fu : Nat) (hfu : 10 ≤ fu) (from_ : Int) (L : List Nat) (hL : L.length ≤ 1000000) (m p : Nat) (post : List Nat) (hd : L.drop p = numL m ++ post) (hm : m < 9223372036854775808) (k : Int → Int → D → Option R) :
    F75 fu from_ p D.nil (byD L) k = k (m : Int) ((p + (numL m).length : Nat) : Int) D.nil := by
  unfold F75
  have := read_loop fu from_ L hL (fun o_0 o_1 o_2 => k o_0 o_1 o_2) (fun o_3 => k 0 o_3 D.nil) fu m 0 0 p post (by omega) (by omega) hd (by omega) (by simp) (by simp; omega)
  simpa using this

theorem text_back (fu : Nat) (hfu : 10 ≤ fu) (s : ByteArray) (hs : s.size ≤ 100000) (most : Int) (hmost : (s.size : Int) ≤ most) (L : List Nat) (hL : L.length ≤ 900000) (p : Nat) (post : List Nat) (hd : L.drop p = numL s.size ++ (strL s ++ post)) (k : ByteArray → Int → D → Option R) :
    F49 fu most p D.nil (byD L) k = k s ((p + (numL s.size).length + s.size : Nat) : Int) D.nil := by
  unfold F49
  rw [number_ok fu hfu _ L (by omega) s.size p _ hd (by omega)]
  simp only [D.some?, Bool.not_false, Bool.not_true, cond_false]
  have hlen : p + (numL s.size).length + s.size ≤ L.length := by
    have := congrArg List.length hd
    simp only [List.length_drop, List.length_append, strL_len] at this
    have h0 : 0 < (numL s.size).length := by rw [numL_eq]; simp
    omega
  rw [lt_false (show ¬ most < (s.size : Int) by omega), cond_false]
  unfold F67
  rw [wrap_of (x := ofN (byD L).length - _) (by unfold ofN; rw [byD_len]; omega) (by unfold ofN; rw [byD_len]; omega)]
  simp only []
  rw [lt_false (show ¬ ofN (byD L).length - ((p + (numL s.size).length : Nat) : Int) < (s.size : Int) by unfold ofN; rw [byD_len]; omega), cond_false]
  have e1 : IntKind.i64.wrap (((p + (numL s.size).length : Nat) : Int) + (s.size : Int)) = ((p + (numL s.size).length + s.size : Nat) : Int) := by rw [wrap_of (by omega) (by omega)]; push_cast; rfl
  have e2 : IntKind.i64.wrap (((p + (numL s.size).length + s.size : Nat) : Int) - (s.size : Int)) = ((p + (numL s.size).length : Nat) : Int) := by rw [wrap_of (by omega) (by omega)]; omega
  rw [e1, e2]
  have e3 : (decide (0 ≤ ((p + (numL s.size).length : Nat) : Int) ∧ ((p + (numL s.size).length : Nat) : Int) ≤ ((p + (numL s.size).length + s.size : Nat) : Int)) && upTo ((p + (numL s.size).length + s.size : Nat) : Int) (byD L).length) = true := by
    rw [Bool.and_eq_true]
    refine ⟨decide_eq_true ⟨by omega, by omega⟩, ?_⟩
    unfold upTo; exact decide_eq_true ⟨by omega, by rw [byD_len]; omega⟩
  rw [e3, cond_true, Int.toNat_natCast, Int.toNat_natCast]
  have e4 : part (byD L) (p + (numL s.size).length) (p + (numL s.size).length + s.size) = byD (strL s) := by
    unfold part byD
    rw [← List.map_take, ← List.map_drop, List.drop_take]
    congr 1
    rw [← List.drop_drop, hd, List.drop_left']
    · rw [show p + (numL s.size).length + s.size - (p + (numL s.size).length) = (strL s).length by rw [strL_len]; omega, List.take_left']
      rfl
    · rfl
  have e5 : strOf (byD (strL s)) = s := strL_inj (strOf_byD (strL_lt s))
  rw [e4, e5]

theorem nums_back_loop (fu : Nat) (hfu : 10 ≤ fu) (from_ : Int) (L : List Nat) (hL : L.length ≤ 1000000) (ms : List Nat) (hms : ∀ m ∈ ms, m < 9223372036854775808) (hlen : ms.length ≤ 10000) (k : Int → D → List (List D) → Option R) :
    ∀ (n i p : Nat) (post : List Nat), ms.length + 1 ≤ i + n → i ≤ ms.length → L.drop p = numsL (ms.drop i) ++ post →
      F50_506 fu from_ (ms.length : Int) (byD L) n (i : Int) (p : Int) D.nil (byD (ms.take i)) k = k ((p + (numsL (ms.drop i)).length : Nat) : Int) D.nil (byD ms) := by
  intro n
  induction n with
  | zero => intro i p post h1 h2; omega
  | succ n ih =>
    intro i p post h1 h2 h3
    unfold F50_506
    by_cases hi : i < ms.length
    · rw [lt_true (show (i : Int) < ms.length by omega), cond_true]
      simp only [D.some?, Bool.not_false, cond_true]
      have hd := List.drop_eq_getElem_cons hi
      have e1 : numsL (ms.drop i) = numL ms[i] ++ numsL (ms.drop (i + 1)) := by rw [hd]; rfl
      rw [e1, List.append_assoc] at h3
      rw [number_ok fu hfu _ L hL ms[i] p _ h3 (hms _ (List.getElem_mem hi)), byD_len, List.length_take, fits_of (by omega) (by omega), cond_true, wrap_succ (by omega)]
      have e2 : byD (ms.take i) ++ [[D.int (ms[i] : Int)]] = byD (ms.take (i + 1)) := by
        rw [List.take_succ_eq_append_getElem hi, byD_append]; rfl
      rw [e2, ih (i + 1) (p + (numL ms[i]).length) post (by omega) (by omega) (by rw [← List.drop_drop, h3, List.drop_left']; rfl), e1]
      congr 1
      simp only [List.length_append]; omega
    · rw [lt_false (show ¬ (i : Int) < ms.length by omega), cond_false]
      rw [show i = ms.length by omega, List.take_length, List.drop_length]
      simp [numsL]

theorem nums_back (fu : Nat) (hfu : 10 ≤ fu) (ms : List Nat) (hms : ∀ m ∈ ms, m < 9223372036854775808) (hlen : ms.length ≤ 10000) (hlf : ms.length < fu) (most : Int) (hmost : (ms.length : Int) ≤ most) (L : List Nat) (hL : L.length ≤ 1000000) (p : Nat) (post : List Nat) (hd : L.drop p = numL ms.length ++ (numsL ms ++ post)) (k : Int → D → List (List D) → Option R) :
    F50 fu most p D.nil (byD L) k = k ((p + (numL ms.length).length + (numsL ms).length : Nat) : Int) D.nil (byD ms) := by
  unfold F50
  rw [number_ok fu hfu _ L hL ms.length p _ hd (by omega)]
  simp only [D.some?, Bool.not_false, cond_true]
  rw [lt_false (show ¬ most < (ms.length : Int) by omega), cond_false]
  have := nums_back_loop fu hfu (p : Int) L hL ms hms hlen (fun o_6 o_7 o_8 => bif !!o_7.some? then (k o_6 o_7 []) else (k o_6 o_7 o_8)) fu 0 (p + (numL ms.length).length) post (by omega) (by omega) (by rw [← List.drop_drop, hd, List.drop_left' rfl, List.drop_zero])
  rw [List.take_zero, List.drop_zero] at this
  exact this
end Go.Proofs.Ytdoikghgblohjaa.V

/- awake answers true. -/
namespace Go.Proofs.Ytdoikghgblohjaa.V
variable {R : Type}
theorem awake30 (fu : Nat) (k : Option R) : F30 fu k = k := rfl
end Go.Proofs.Ytdoikghgblohjaa.V

/- CoilBack: what its code computes is true. -/
namespace Go.Proofs.Ytdoikghgblohjaa.V
variable {R : Type}

theorem back_loop (fu : Nat) (l : List (List D)) (hl : l.length ≤ 400) (k0 k1 : Option R) : ∀ (n i : Nat), l.length + 1 ≤ i + n → i ≤ l.length →
    F11_58 fu l (ofN l.length) n (i : Int) k0 k1 = k0 ∨ (F11_58 fu l (ofN l.length) n (i : Int) k0 k1 = k1 ∧ ∀ j, i ≤ j → j < l.length → 0 ≤ (cell 0 (elem j l)).toInt) := by
  intro n
  induction n with
  | zero => intro i h1 h2; omega
  | succ n ih =>
    intro i h1 h2
    unfold F11_58
    by_cases hi : i < l.length
    · rw [lt_true (show (i : Int) < ofN l.length by unfold ofN; omega), cond_true, within_of hi, cond_true, Int.toNat_natCast, wrap_succ (by omega), awake30]
      by_cases h : (cell 0 (elem i l)).toInt < 0
      · rw [lt_true h, cond_true]; exact .inl rfl
      · rw [lt_false h, cond_false]
        rcases ih (i + 1) (by omega) (by omega) with h3 | ⟨h3, h4⟩
        · exact .inl h3
        · refine .inr ⟨h3, fun j hj1 hj2 => ?_⟩
          by_cases hj : j = i
          · subst hj; omega
          · exact h4 j (by omega) hj2
    · rw [lt_false (show ¬ (i : Int) < ofN l.length by unfold ofN; omega), cond_false]
      exact .inr ⟨rfl, fun j hj1 hj2 => by omega⟩

theorem same51 (fu : Nat) (l : List (List D)) (m : List (List D)) (hl : l.length ≤ 10000) (hm : m.length = l.length) (h : ∀ j, j < l.length → (cell 0 (elem j l)).toInt = (cell 0 (elem j m)).toInt) (k0 k1 : Option R) : ∀ (n i : Nat), l.length + 1 ≤ i + n → i ≤ l.length →
    F51_58 fu l m (ofN l.length) n (i : Int) k0 k1 = k1 := by
  intro n
  induction n with
  | zero => intro i h1 h2; omega
  | succ n ih =>
    intro i h1 h2
    unfold F51_58
    by_cases hi : i < l.length
    · rw [lt_true (show (i : Int) < ofN l.length by unfold ofN; omega), cond_true, within_of hi, within_of (by omega), cond_true, cond_true, Int.toNat_natCast, wrap_succ (by omega), eq_true (h i hi), Bool.not_true, cond_false]
      exact ih (i + 1) (by omega) (by omega)
    · rw [lt_false (show ¬ (i : Int) < ofN l.length by unfold ofN; omega), cond_false]

theorem back11 (n : Int) (hn : n ≤ 9223372036854775807) (s : ByteArray) (l : List (List D)) (hi : ∀ r ∈ l, (cell 0 r).toInt ≤ 9223372036854775807) : F11 1000 n s l (fun o => some o) = some true := by
  unfold F11
  simp only [awake30]
  by_cases h0 : n < 0
  · rw [lt_true h0]; rfl
  rw [lt_false h0, cond_false]
  by_cases h1 : (400 : Int) < ofN s.size
  · rw [lt_true h1]; rfl
  rw [lt_false h1, cond_false]
  by_cases h2 : (400 : Int) < ofN l.length
  · rw [lt_true h2]; rfl
  rw [lt_false h2, cond_false]
  unfold ofN at h1 h2
  have hs : s.size ≤ 400 := by omega
  have hl : l.length ≤ 400 := by omega
  rcases back_loop (R := Bool) 1000 l hl (some true) _ 1000 0 (by omega) (by omega) with h3 | ⟨h3, hpos⟩
  · exact h3
  · refine h3.trans ?_
    have b1 := numL_len10 (m := natOfI n) (by unfold natOfI; split <;> omega)
    have b2 := numL_len10 (m := s.size) (by omega)
    have b3 := numL_len10 (m := l.length) (by omega)
    have b4 : ∀ (ms : List Nat), (∀ m ∈ ms, m < 9223372036854775808) → (numsL ms).length ≤ 10 * ms.length := by
      intro ms
      induction ms with
      | nil => intro _; simp [numsL]
      | cons m ms ih =>
        intro h
        have e : numsL (m :: ms) = numL m ++ numsL ms := rfl
        have h1 := numL_len10 (h m (by simp))
        have h2 := ih (fun x hx => h x (by simp [hx]))
        rw [e, List.length_append, List.length_cons]; omega
    have hnat : ∀ m ∈ natsOf l, m < 9223372036854775808 := by
      intro m hm
      obtain ⟨r, hr, rfl⟩ := List.mem_map.1 hm
      have := hi r hr
      unfold natOfI; split <;> omega
    have b5 := b4 (natsOf l) hnat
    have hnl : (natsOf l).length = l.length := by simp [natsOf]
    rw [num_ok _ (by omega) _ _ (by simp) hn, List.nil_append, text_ok _ (by omega) _ _ (by rw [byD_len]; omega) (by omega)]
    rw [nums_ok _ (by omega) _ _ (by simp only [List.length_append, byD_len, strL_len]; omega) (by omega) (by omega) hi]
    simp only [← byD_append, List.append_assoc]
    generalize hL : numL (natOfI n) ++ (numL s.size ++ (strL s ++ (numL l.length ++ numsL (natsOf l)))) = L
    have hLlen : L.length ≤ 900000 := by rw [← hL]; simp only [List.length_append, strL_len]; omega
    unfold F47
    rw [byD_len, fits_of (by omega) (by omega), cond_true]
    unfold F48
    have hp0 : L.drop 0 = numL (natOfI n) ++ (numL s.size ++ (strL s ++ (numL l.length ++ numsL (natsOf l)))) := by rw [List.drop_zero, hL]
    have r1 := number_ok (R := Bool) 1000 (by omega) (0 : Int) L (by omega) (natOfI n) 0 _ hp0 (by unfold natOfI; split <;> omega)
    simp only [Int.natCast_zero, Nat.zero_add] at r1
    simp only []
    rw [r1]
    have hp1 : L.drop (numL (natOfI n)).length = numL s.size ++ (strL s ++ (numL l.length ++ numsL (natsOf l))) := by rw [← hL, List.drop_left' rfl]
    rw [text_back 1000 (by omega) s (by omega) _ (by unfold ofN; omega) L hLlen _ _ hp1]
    have hp2 : L.drop ((numL (natOfI n)).length + (numL s.size).length + s.size) = numL (natsOf l).length ++ (numsL (natsOf l) ++ []) := by
      rw [List.append_nil, hnl, ← List.drop_drop, ← List.drop_drop, hp1, List.drop_left' rfl, List.drop_left' (strL_len s)]
    rw [nums_back 1000 (by omega) (natsOf l) hnat (by omega) (by omega) _ (by unfold ofN; omega) L (by omega) _ [] hp2]
    have en : ((natOfI n : Nat) : Int) = n := by unfold natOfI; split <;> omega
    rw [en, eq_true rfl, cond_true, strEq_refl, cond_true]
    unfold F51
    have hbl : (byD (natsOf l)).length = l.length := by rw [byD_len, hnl]
    rw [eq_true (show ofN (byD (natsOf l)).length = ofN l.length by rw [hbl]), Bool.not_true, cond_false]
    have hsame : ∀ j, j < (byD (natsOf l)).length → (cell 0 (elem j (byD (natsOf l)))).toInt = (cell 0 (elem j l)).toInt := by
      intro j hj
      rw [elem_byD _ (by rw [hnl]; omega)]
      have he : elem j l = l[j]'(by omega) := by unfold elem; rw [List.getD_eq_getElem?_getD, List.getElem?_eq_getElem (by omega)]; rfl
      have hnj : (natsOf l)[j]'(by rw [hnl]; omega) = natOfI (cell 0 (l[j]'(by omega))).toInt := by simp [natsOf]
      have := hpos j (by omega) (by omega)
      rw [he] at this ⊢
      show (((natsOf l)[j]'(by rw [hnl]; omega) : Nat) : Int) = _
      rw [hnj]
      unfold natOfI; split <;> omega
    refine (same51 1000 (byD (natsOf l)) l (by omega) hbl.symm hsame _ _ 1000 0 (by omega) (by omega)).trans ?_
    simp only [cond_true]
    unfold F52 F67
    simp only [D.some?, Bool.not_false, cond_true]
    have hend : IntKind.i64.wrap (ofN (byD L).length - (((numL (natOfI n)).length + (numL s.size).length + s.size + (numL (natsOf l).length).length + (numsL (natsOf l)).length : Nat) : Int)) = 0 := by
      unfold ofN
      rw [byD_len]
      have : L.length = (numL (natOfI n)).length + (numL s.size).length + s.size + (numL (natsOf l).length).length + (numsL (natsOf l)).length := by
        rw [← hL, hnl]; simp only [List.length_append, strL_len]; omega
      rw [← this, wrap_of (by omega) (by omega)]; omega
    rw [hend]
    rfl
end Go.Proofs.Ytdoikghgblohjaa.V

/- Sizes as they come. -/
namespace Go.Proofs.Ytdoikghgblohjaa.V
theorem WFD.int_le {d : D} (h : WFD (.int .i64) d) : -9223372036854775808 ≤ d.toInt ∧ d.toInt ≤ 9223372036854775807 := by
  cases h with
  | int k n h => simp [Lit.wf, IntKind.min, IntKind.max, IntKind.signed, IntKind.bits] at h; simp only [D.toInt]; omega
theorem WFD.u8_le {d : D} (h : WFD (.int .u8) d) : 0 ≤ d.toInt ∧ d.toInt ≤ 255 := by
  cases h with
  | int k n h => simp [Lit.wf, IntKind.min, IntKind.max, IntKind.signed, IntKind.bits] at h; simp only [D.toInt]; omega
end Go.Proofs.Ytdoikghgblohjaa.V

namespace Go.Proofs.Ytdoikghgblohjaa

theorem back_holds : Rows.CoilBackSaid := back_join (V.law11 1000 fun _ _ _ h1 _ h3 => V.back11 _ (V.WFD.int_le (h1.cell (j := 0) rfl)).2 _ _ fun r hr => (V.WFD.int_le (((h3.cell (j := 0) rfl).rows r hr).cell (j := 0) rfl)).2)

end Go.Proofs.Ytdoikghgblohjaa

