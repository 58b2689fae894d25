import Derived.Test.YthlbahcggmbfaaaEpochs1
set_option linter.unusedVariables false
set_option linter.unusedSimpArgs false

noncomputable section
namespace Go.Proofs.Ythlbahcggmbfaaa.V
set_option maxRecDepth 100000
set_option maxHeartbeats 4000000
def code11 : Code := match Try.f11.body with | some c => c | none => .skip
theorem a11_250 : codeAt code11 250 = some (.loop (loopBody (codeAt code11 250))) := by kernel_rfl
def F11_250 {R : Type} (fu : Nat) (many : Int) : Nat -> Int -> (List (List D)) -> (List (List D)) -> ((List (List D)) -> (List (List D)) -> Option R) -> Option R
 | 0, _, _, _, _ => none
 | n + 1, x, l, y, k0 => bif decide (x < 5) then bif decide (x < many) then bif fits (l.length + 1) 8 then F29 fu x [D.int 0, D.row [], D.bool false, D.row []] fun o_0 o_1 o_2 o_3 => bif fits (y.length + 1) 8 then (F11_250 fu many n (IntKind.i64.wrap (x + 1)) (l ++ [[D.int x]]) (y ++ [[D.int x, D.int o_0, D.row o_1, D.bool o_2, D.row o_3, D.bool false, D.int 0, D.int 0, D.int 0, D.int 0, D.bool false, D.int 0]]) k0) else none else none else F29 fu x [D.int 0, D.row [], D.bool false, D.row []] fun o_4 o_5 o_6 o_7 => bif fits (y.length + 1) 8 then (F11_250 fu many n (IntKind.i64.wrap (x + 1)) l (y ++ [[D.int x, D.int o_4, D.row o_5, D.bool o_6, D.row o_7, D.bool false, D.int 0, D.int 0, D.int 0, D.int 0, D.bool false, D.int 0]]) k0) else none else (k0 l y)
def t11_250 (fu n : Nat) : ToldP := fun _ e s K => match e, s with
 | [.int .i64 many, .ptr 0 0, .own 1, .int .i64 x], [.obj [.pown 2, .ptr 3 0, .nilslice, .nilslice, .nilslice, .int .i64 w, .bool w1], .row zq0 l, .pool zq1 y none, .obj [.map 4], .map (.int .i64) true zq2 y1] => (match FT.sames zq0 ft0 with | true => (match FT.sames zq1 ft6 with | true => (match FT.sames zq2 ft2 with | true => F11_250 fu many n x l y (fun o_ o_1 => K (.exit 0) (unpackM (bitsM 5 0x18) [.ptr 0 0, .own 1]) [.obj [.pown 2, .ptr 3 0, .nilslice, .nilslice, .nilslice, .int .i64 (w), .bool (w1)], .row ft0 o_, .pool ft6 o_1 none, .obj [.map 4], .map (.int .i64) true ft2 (y1)]) | false => none) | false => none) | false => none)
 | _, _ => none
def pc11_250 (fu : Nat) : Nat -> Option ToldP := fun _ => none
theorem e11_250 (fu n : Nat) (R : Type) (K : VExit -> UEnv -> USt -> Option R) (many x w : Int) (w1 : Bool) (l y : List (List D)) (y1 : List (D × List D)) :
  F11_250 fu many (n + 1) x l y (fun o_ o_1 => K (.exit 0) (unpackM (bitsM 5 0x18) [.ptr 0 0, .own 1]) [.obj [.pown 2, .ptr 3 0, .nilslice, .nilslice, .nilslice, .int .i64 (w), .bool (w1)], .row ft0 o_, .pool ft6 o_1 none, .obj [.map 4], .map (.int .i64) true ft2 (y1)]) = uexec Try.prog (tb13 fu) 300 (pc11_250 fu) 500 (loopBody (codeAt code11 250)) (unpackM (bitsM 16 0x8019) [.int .i64 many, .ptr 0 0, .own 1, .int .i64 x]) [.obj [.pown 2, .ptr 3 0, .nilslice, .nilslice, .nilslice, .int .i64 w, .bool w1], .row ft0 l, .pool ft6 y none, .obj [.map 4], .map (.int .i64) true ft2 y1] (loopK 0 [.live (bitsM 16 0x8019), .ownP 4 [] ft0, .gc, .pownC 0 0 ft6, .gc] [.live (bitsM 5 0x1c), .gc] (pkP (bitsM 16 0x8019) (t11_250 fu n)) K) := by kernel_rfl
theorem p11_250 (fu : Nat) : SoundPc Try.prog 0 code11 (pc11_250 fu) := SoundPc.none _ _ _
theorem s11_250 (fu : Nat) : ∀ n, SoundP Try.prog 0 (.loop (loopBody (codeAt code11 250))) (pkP (bitsM 16 0x8019) (t11_250 fu n)) := by
 refine loopP_sound (gin := [.live (bitsM 16 0x8019), .ownP 4 [] ft0, .gc, .pownC 0 0 ft6, .gc]) (gout := [.live (bitsM 5 0x1c), .gc]) (k := 300) (tb13_sound fu) (p11_250 fu) (by decide) a11_250 (fun R e s K => ?_) (fun n R e s K r h => ?_)
 ·unfold t11_250; repeat' split
  all_goals rfl
 ·unfold t11_250 at h; split at h
  case h_2 => cases h
  iterate 3 (split at h; (case h_2 => cases h); rename_i hq; have hq := FT.sames_eq _ _ hq; subst hq)
  exact (e11_250 fu n R K _ _ _ _ _ _ _).symm.trans h
def Fb11 {R : Type} (fu : Nat) (many : Int) (k0 : Option R) (k1 : (List (List D)) -> (List (List D)) -> (List (D × List D)) -> Option R) : Option R :=
 F34 fu (F11_250 fu many fu 0 [] [] fun o_0 o_1 => F35v fu [D.int 0, D.int 0, D.int 0, D.int 0, D.row o_0] [] fun o_2 o_3 => bif !decide (o_2 = 0) then (k0) else F36 fu o_1 [] [] [] 0 false o_3 fun o_4 => (k1 o_1 o_4 o_3))
def F11 {R : Type} := shut (@Fb11 R)
theorem F11_eq {R : Type} (fu : Nat) (many : Int) (k0 : Option R) (k1 : (List (List D)) -> (List (List D)) -> (List (D × List D)) -> Option R) : F11 fu many k0 k1 = Fb11 fu many k0 k1 := by unfold F11; rw [shut_eq]
def pc11 (fu : Nat) : Nat -> Option ToldP := fun p => match Nat.beq p 250 with | true => some (ghP 0 [.live (bitsM 16 0x8019), .ownP 4 [] ft0, .gc, .pownC 0 0 ft6, .gc] (pkP (bitsM 16 0x8019) (t11_250 fu fu))) | false => none
def t11 (fu : Nat) : ToldF := fun _ args s K => match args, s with
 | [.int .i64 many], [] => F11 fu many (K (.nilptr) []) (fun o_ o_1 o_2 => K (.ptr 0 0) [.obj [.pown 1, .ptr 2 0, .own 3, .own 4, .fz ft1 ([]) false, .int .i64 (0), .bool (false)], .pool ft6 o_ none, .obj [.map 5], .row ft2 o_1, .row ft5 ([]), .map (.int .i64) true ft2 o_2])
 | _, _ => none
theorem e11 (R : Type) (K : UV -> USt -> Option R) (fu : Nat) (many : Int) :
  F11 fu many (K (.nilptr) []) (fun o_ o_1 o_2 => K (.ptr 0 0) [.obj [.pown 1, .ptr 2 0, .own 3, .own 4, .fz ft1 ([]) false, .int .i64 (0), .bool (false)], .pool ft6 o_ none, .obj [.map 5], .row ft2 o_1, .row ft5 ([]), .map (.int .i64) true ft2 o_2]) = ufun Try.prog ⟨(tb13 fu), pc11 fu⟩ 300 11 [.int .i64 many] [] (funK 0 [.gc, .ownC 0 2 ft2, .ownC 0 3 ft5, .fzC 0 4 ft1, .gc] K) := (F11_eq fu _ _ _).trans (by kernel_rfl)
theorem s11 (fu : Nat) : Tells Try.prog 11 (t11 fu) := by
 refine ufun_sound (T := ⟨(tb13 fu), pc11 fu⟩) (m := 0) (gout := [.gc, .ownC 0 2 ft2, .ownC 0 3 ft5, .fzC 0 4 ft1, .gc]) (k := 300) (tb13_sound fu) (fun fn body hf hb => ?_) (fun R args s K r h => ?_) (fun R args s K r h => ?_)
 ·have hc : body = code11 := by
   have h1 : Try.prog.funcs[11]? = some Try.f11 := rfl
   rw [h1] at hf; cases hf
   have h2 : Try.f11.body = some code11 := rfl
   rw [h2] at hb; cases hb; rfl
  subst hc
  exact fun p told h b hb => by
   replace h : pc11 fu p = some told := h
   unfold pc11 at h
   split at h
   ·rename_i hp
    cases h
    have := Nat.eq_of_beq_eq_true hp
    subst this
    rw [a11_250] at hb
    cases hb
    exact ghP_sound (s11_250 fu _)
   ·
    cases h

 ·unfold t11 at h; split at h
  ·rfl
  ·cases h
 ·unfold t11 at h; split at h
  case h_2 => cases h
  exact (e11 R K fu _).symm.trans h
def tb11 (fu : Nat) : FuncId -> Option (Bool × ToldF) := fun f => match Nat.beq f 11 with
 | true => some (false, ghG [] (t11 fu))
 | false => (tb13 fu) f
theorem tb11_sound (fu : Nat) : SoundF' Try.prog (tb11 fu) := by
 intro f own told h
 unfold tb11 at h
 split at h
 ·rename_i hb
  cases h
  have := Nat.eq_of_beq_eq_true hb
  subst this
  exact ghG_sound (s11 fu)
 ·exact (tb13_sound fu) f own told h
def code10 : Code := match Try.f10.body with | some c => c | none => .skip
theorem a10_122 : codeAt code10 122 = some (.loop (loopBody (codeAt code10 122))) := by kernel_rfl
def F10_122 {R : Type} (fu : Nat) (x : Int) (x2 : List (List D)) : Nat -> Int -> (List (List D)) -> Int -> Bool -> (List (List D)) -> (List (List D)) -> (List (List D)) -> (List (D × List D)) -> ((List (List D)) -> Int -> Bool -> (List (List D)) -> (List (List D)) -> (List (List D)) -> (List (D × List D)) -> Option R) -> Option R
 | 0, _, _, _, _, _, _, _, _, _ => none
 | n + 1, x1, w, w1, w2, y, y1, y2, y3, k0 => bif decide (x1 < x) then bif within x1 x2.length then F13 fu [D.int (cell 0 (elem x1.toNat x2)).toInt, D.int (cell 1 (elem x1.toNat x2)).toInt, D.int (cell 2 (elem x1.toNat x2)).toInt] y y1 y2 w w1 w2 y3 (fun o_0 o_1 o_2 o_3 o_4 => (F10_122 fu x x2 n (IntKind.i64.wrap (x1 + 1)) o_0 o_1 o_2 o_3 y1 o_4 y3 k0)) (fun o_5 o_6 o_7 o_8 => (F10_122 fu x x2 n (IntKind.i64.wrap (x1 + 1)) o_5 w1 o_6 o_7 y1 o_8 y3 k0)) (fun o_9 o_10 o_11 o_12 => (F10_122 fu x x2 n (IntKind.i64.wrap (x1 + 1)) o_9 w1 o_10 o_11 y1 y2 o_12 k0)) (fun o_13 o_14 o_15 => (F10_122 fu x x2 n (IntKind.i64.wrap (x1 + 1)) o_13 w1 o_14 o_15 y1 y2 y3 k0)) fun o_16 o_17 o_18 o_19 o_20 => (F10_122 fu x x2 n (IntKind.i64.wrap (x1 + 1)) o_16 w1 o_17 o_18 o_20 y2 o_19 k0) else none else (k0 w w1 w2 y y1 y2 y3)
def t10_122 (fu n : Nat) : ToldP := fun _ e s K => match e, s with
 | [.ptr 0 0, .own 1, .int .i64 x, .int .i64 x1], [.obj [.pown 2, .ptr 3 0, .own 4, .own 5, .fz zq0 w false, .int .i64 w1, .bool w2], .row zq1 x2, .pool zq2 y none, .obj [.map 6], .row zq3 y1, .row zq4 y2, .map (.int .i64) true zq5 y3] => (match FT.sames zq0 ft1 with | true => (match FT.sames zq1 ft7 with | true => (match FT.sames zq2 ft6 with | true => (match FT.sames zq3 ft2 with | true => (match FT.sames zq4 ft5 with | true => (match FT.sames zq5 ft2 with | true => F10_122 fu x x2 n x1 w w1 w2 y y1 y2 y3 (fun o_ o_1 o_2 o_3 o_4 o_5 o_6 => K (.exit 0) (unpackM (bitsM 2 0x2) [.ptr 0 0]) [.obj [.pown 1, .ptr 2 0, .own 3, .own 4, .fz ft1 o_ false, .int .i64 o_1, .bool o_2], .pool ft6 o_3 none, .obj [.map 5], .row ft2 o_4, .row ft5 o_5, .map (.int .i64) true ft2 o_6]) | false => none) | false => none) | false => none) | false => none) | false => none) | false => none)
 | _, _ => none
def pc10_122 (fu : Nat) : Nat -> Option ToldP := fun _ => none
theorem e10_122 (fu n : Nat) (R : Type) (K : VExit -> UEnv -> USt -> Option R) (x x1 : Int) (w : List (List D)) (w1 : Int) (w2 : Bool) (x2 y y1 y2 : List (List D)) (y3 : List (D × List D)) :
  F10_122 fu x x2 (n + 1) x1 w w1 w2 y y1 y2 y3 (fun o_ o_1 o_2 o_3 o_4 o_5 o_6 => K (.exit 0) (unpackM (bitsM 2 0x2) [.ptr 0 0]) [.obj [.pown 1, .ptr 2 0, .own 3, .own 4, .fz ft1 o_ false, .int .i64 o_1, .bool o_2], .pool ft6 o_3 none, .obj [.map 5], .row ft2 o_4, .row ft5 o_5, .map (.int .i64) true ft2 o_6]) = uexec Try.prog (tb11 fu) 300 (pc10_122 fu) 244 (loopBody (codeAt code10 122)) (unpackM (bitsM 13 0x1c02) [.ptr 0 0, .own 1, .int .i64 x, .int .i64 x1]) [.obj [.pown 2, .ptr 3 0, .own 4, .own 5, .fz ft1 w false, .int .i64 w1, .bool w2], .row ft7 x2, .pool ft6 y none, .obj [.map 6], .row ft2 y1, .row ft5 y2, .map (.int .i64) true ft2 y3] (loopK 0 [.live (bitsM 13 0x1c02), .ownP 10 [] ft7, .gc, .ownC 0 2 ft2, .ownC 0 3 ft5, .fzC 0 4 ft1, .gc] [.live (bitsM 2 0x3), .gc] (pkP (bitsM 13 0x1c02) (t10_122 fu n)) K) := by kernel_rfl
theorem p10_122 (fu : Nat) : SoundPc Try.prog 0 code10 (pc10_122 fu) := SoundPc.none _ _ _
theorem s10_122 (fu : Nat) : ∀ n, SoundP Try.prog 0 (.loop (loopBody (codeAt code10 122))) (pkP (bitsM 13 0x1c02) (t10_122 fu n)) := by
 refine loopP_sound (gin := [.live (bitsM 13 0x1c02), .ownP 10 [] ft7, .gc, .ownC 0 2 ft2, .ownC 0 3 ft5, .fzC 0 4 ft1, .gc]) (gout := [.live (bitsM 2 0x3), .gc]) (k := 300) (tb11_sound fu) (p10_122 fu) (by decide) a10_122 (fun R e s K => ?_) (fun n R e s K r h => ?_)
 ·unfold t10_122; repeat' split
  all_goals rfl
 ·unfold t10_122 at h; split at h
  case h_2 => cases h
  iterate 6 (split at h; (case h_2 => cases h); rename_i hq; have hq := FT.sames_eq _ _ hq; subst hq)
  exact (e10_122 fu n R K _ _ _ _ _ _ _ _ _ _).symm.trans h
theorem a10_250 : codeAt code10 250 = some (.loop (loopBody (codeAt code10 250))) := by kernel_rfl
def F10_250 {R : Type} (fu : Nat) : Nat -> Int -> (List (List D)) -> Int -> Bool -> (List (List D)) -> (List (List D)) -> (List (List D)) -> (List (D × List D)) -> ((List (List D)) -> Int -> Bool -> (List (List D)) -> (List (List D)) -> (List (List D)) -> (List (D × List D)) -> Option R) -> Option R
 | 0, _, _, _, _, _, _, _, _, _ => none
 | n + 1, x, w, w1, w2, y, y1, y2, y3, k0 => bif decide (x < 9) then F13 fu [D.int 2, D.int 0, D.int 0] y y1 y2 w w1 w2 y3 (fun o_0 o_1 o_2 o_3 o_4 => (F10_250 fu n (IntKind.i64.wrap (x + 1)) o_0 o_1 o_2 o_3 y1 o_4 y3 k0)) (fun o_5 o_6 o_7 o_8 => (F10_250 fu n (IntKind.i64.wrap (x + 1)) o_5 w1 o_6 o_7 y1 o_8 y3 k0)) (fun o_9 o_10 o_11 o_12 => (F10_250 fu n (IntKind.i64.wrap (x + 1)) o_9 w1 o_10 o_11 y1 y2 o_12 k0)) (fun o_13 o_14 o_15 => (F10_250 fu n (IntKind.i64.wrap (x + 1)) o_13 w1 o_14 o_15 y1 y2 y3 k0)) fun o_16 o_17 o_18 o_19 o_20 => (F10_250 fu n (IntKind.i64.wrap (x + 1)) o_16 w1 o_17 o_18 o_20 y2 o_19 k0) else (k0 w w1 w2 y y1 y2 y3)
def t10_250 (fu n : Nat) : ToldP := fun _ e s K => match e, s with
 | [.ptr 0 0, .int .i64 x], [.obj [.pown 1, .ptr 2 0, .own 3, .own 4, .fz zq0 w false, .int .i64 w1, .bool w2], .pool zq1 y none, .obj [.map 5], .row zq2 y1, .row zq3 y2, .map (.int .i64) true zq4 y3] => (match FT.sames zq0 ft1 with | true => (match FT.sames zq1 ft6 with | true => (match FT.sames zq2 ft2 with | true => (match FT.sames zq3 ft5 with | true => (match FT.sames zq4 ft2 with | true => F10_250 fu n x w w1 w2 y y1 y2 y3 (fun o_ o_1 o_2 o_3 o_4 o_5 o_6 => K (.exit 2) (unpackM (bitsM 2 0x2) [.ptr 0 0]) [.obj [.pown 1, .ptr 2 0, .own 3, .own 4, .fz ft1 o_ false, .int .i64 o_1, .bool o_2], .pool ft6 o_3 none, .obj [.map 5], .row ft2 o_4, .row ft5 o_5, .map (.int .i64) true ft2 o_6]) | false => none) | false => none) | false => none) | false => none) | false => none)
 | _, _ => none
def pc10_250 (fu : Nat) : Nat -> Option ToldP := fun _ => none
theorem e10_250 (fu n : Nat) (R : Type) (K : VExit -> UEnv -> USt -> Option R) (x : Int) (w : List (List D)) (w1 : Int) (w2 : Bool) (y y1 y2 : List (List D)) (y3 : List (D × List D)) :
  F10_250 fu (n + 1) x w w1 w2 y y1 y2 y3 (fun o_ o_1 o_2 o_3 o_4 o_5 o_6 => K (.exit 2) (unpackM (bitsM 2 0x2) [.ptr 0 0]) [.obj [.pown 1, .ptr 2 0, .own 3, .own 4, .fz ft1 o_ false, .int .i64 o_1, .bool o_2], .pool ft6 o_3 none, .obj [.map 5], .row ft2 o_4, .row ft5 o_5, .map (.int .i64) true ft2 o_6]) = uexec Try.prog (tb11 fu) 300 (pc10_250 fu) 500 (loopBody (codeAt code10 250)) (unpackM (bitsM 21 0x100002) [.ptr 0 0, .int .i64 x]) [.obj [.pown 1, .ptr 2 0, .own 3, .own 4, .fz ft1 w false, .int .i64 w1, .bool w2], .pool ft6 y none, .obj [.map 5], .row ft2 y1, .row ft5 y2, .map (.int .i64) true ft2 y3] (loopK 0 [.live (bitsM 21 0x100002), .gc, .ownC 0 2 ft2, .ownC 0 3 ft5, .fzC 0 4 ft1, .gc] [.live (bitsM 2 0x3), .gc] (pkP (bitsM 21 0x100002) (t10_250 fu n)) K) := by kernel_rfl
theorem p10_250 (fu : Nat) : SoundPc Try.prog 0 code10 (pc10_250 fu) := SoundPc.none _ _ _
theorem s10_250 (fu : Nat) : ∀ n, SoundP Try.prog 0 (.loop (loopBody (codeAt code10 250))) (pkP (bitsM 21 0x100002) (t10_250 fu n)) := by
 refine loopP_sound (gin := [.live (bitsM 21 0x100002), .gc, .ownC 0 2 ft2, .ownC 0 3 ft5, .fzC 0 4 ft1, .gc]) (gout := [.live (bitsM 2 0x3), .gc]) (k := 300) (tb11_sound fu) (p10_250 fu) (by decide) a10_250 (fun R e s K => ?_) (fun n R e s K r h => ?_)
 ·unfold t10_250; repeat' split
  all_goals rfl
 ·unfold t10_250 at h; split at h
  case h_2 => cases h
  iterate 5 (split at h; (case h_2 => cases h); rename_i hq; have hq := FT.sames_eq _ _ hq; subst hq)
  exact (e10_250 fu n R K _ _ _ _ _ _ _ _).symm.trans h
def Fb10 {R : Type} (fu : Nat) (k0 : Bool -> Option R) : Option R :=
 F11 fu 2 ((k0 false)) fun o_0 o_1 o_2 => F10_122 fu 3 [[D.int 5, D.int 0, D.int (-1)], [D.int 5, D.int 1, D.int (-1)], [D.int 0, D.int 0, D.int 0]] fu 0 [] 0 false o_0 o_1 [] o_2 fun o_3 o_4 o_5 o_6 o_7 o_8 o_9 => F10_250 fu fu 0 o_3 o_4 o_5 o_6 o_7 o_8 o_9 fun o_10 o_11 o_12 o_13 o_14 o_15 o_16 => bif !o_12 then bif within 0 o_13.length then letR (elem 0 o_13) fun Z17 => F17 fu (cell 0 Z17).toInt (cell 1 Z17).toInt (cell 2 Z17).toRows (cell 3 Z17).toBool (cell 4 Z17).toRows (cell 5 Z17).toBool (cell 6 Z17).toInt (cell 7 Z17).toInt (cell 8 Z17).toInt (cell 9 Z17).toInt (cell 10 Z17).toBool (cell 11 Z17).toInt (letD (setAt o_13 0 [D.int (cell 0 Z17).toInt, D.int (cell 1 Z17).toInt, D.row (cell 2 Z17).toRows, D.bool (cell 3 Z17).toBool, D.row (cell 4 Z17).toRows, D.bool (cell 5 Z17).toBool, D.int (cell 6 Z17).toInt, D.int (cell 7 Z17).toInt, D.int (cell 8 Z17).toInt, D.int (cell 9 Z17).toInt, D.bool (cell 10 Z17).toBool, D.int (cell 11 Z17).toInt]) fun es18 => bif decide ((cell 6 Z17).toInt = 1) then bif within 1 es18.length then letR (elem 1 es18) fun Z19 => F17 fu (cell 0 Z19).toInt (cell 1 Z19).toInt (cell 2 Z19).toRows (cell 3 Z19).toBool (cell 4 Z19).toRows (cell 5 Z19).toBool (cell 6 Z19).toInt (cell 7 Z19).toInt (cell 8 Z19).toInt (cell 9 Z19).toInt (cell 10 Z19).toBool (cell 11 Z19).toInt (letD (setAt es18 1 [D.int (cell 0 Z19).toInt, D.int (cell 1 Z19).toInt, D.row (cell 2 Z19).toRows, D.bool (cell 3 Z19).toBool, D.row (cell 4 Z19).toRows, D.bool (cell 5 Z19).toBool, D.int (cell 6 Z19).toInt, D.int (cell 7 Z19).toInt, D.int (cell 8 Z19).toInt, D.int (cell 9 Z19).toInt, D.bool (cell 10 Z19).toBool, D.int (cell 11 Z19).toInt]) fun es20 => bif decide ((cell 6 Z19).toInt = 1) then bif within 0 es20.length then letR (elem 0 es20) fun Z21 => F23 fu (cell 0 Z21).toInt (cell 1 Z21).toInt (cell 2 Z21).toRows (cell 3 Z21).toBool (cell 4 Z21).toRows (cell 5 Z21).toBool (cell 6 Z21).toInt (cell 7 Z21).toInt (cell 8 Z21).toInt (cell 9 Z21).toInt (cell 10 Z21).toBool (cell 11 Z21).toInt fun o_22 => letD (setAt es20 0 [D.int (cell 0 Z21).toInt, D.int (cell 1 Z21).toInt, D.row (cell 2 Z21).toRows, D.bool (cell 3 Z21).toBool, D.row (cell 4 Z21).toRows, D.bool (cell 5 Z21).toBool, D.int (cell 6 Z21).toInt, D.int (cell 7 Z21).toInt, D.int (cell 8 Z21).toInt, D.int (cell 9 Z21).toInt, D.bool (cell 10 Z21).toBool, D.int (cell 11 Z21).toInt]) fun es23 => bif o_22 then bif within 1 es23.length then letR (elem 1 es23) fun Z24 => F24 fu (cell 0 Z24).toInt (cell 1 Z24).toInt (cell 2 Z24).toRows (cell 3 Z24).toBool (cell 4 Z24).toRows (cell 5 Z24).toBool (cell 6 Z24).toInt (cell 7 Z24).toInt (cell 8 Z24).toInt (cell 9 Z24).toInt (cell 10 Z24).toBool (cell 11 Z24).toInt fun o_25 => letD (setAt es23 1 [D.int (cell 0 Z24).toInt, D.int (cell 1 Z24).toInt, D.row (cell 2 Z24).toRows, D.bool (cell 3 Z24).toBool, D.row (cell 4 Z24).toRows, D.bool (cell 5 Z24).toBool, D.int (cell 6 Z24).toInt, D.int (cell 7 Z24).toInt, D.int (cell 8 Z24).toInt, D.int (cell 9 Z24).toInt, D.bool (cell 10 Z24).toBool, D.int (cell 11 Z24).toInt]) fun es26 => bif o_25 then bif within 2 es26.length then letR (elem 2 es26) fun Z27 => F21 fu (cell 0 Z27).toInt (cell 1 Z27).toInt (cell 2 Z27).toRows (cell 3 Z27).toBool (cell 4 Z27).toRows (cell 5 Z27).toBool (cell 6 Z27).toInt (cell 7 Z27).toInt (cell 8 Z27).toInt (cell 9 Z27).toInt (cell 10 Z27).toBool (cell 11 Z27).toInt (letD (setAt es26 2 [D.int (cell 0 Z27).toInt, D.int (cell 1 Z27).toInt, D.row (cell 2 Z27).toRows, D.bool (cell 3 Z27).toBool, D.row (cell 4 Z27).toRows, D.bool (cell 5 Z27).toBool, D.int (cell 6 Z27).toInt, D.int (cell 7 Z27).toInt, D.int (cell 8 Z27).toInt, D.int (cell 9 Z27).toInt, D.bool (cell 10 Z27).toBool, D.int (cell 11 Z27).toInt]) fun es28 => (k0 (!(cell 5 Z27).toBool))) else none else (k0 false) else none else (k0 false) else none else (k0 false)) else none else (k0 false)) else none else (k0 false)
def F10 {R : Type} := shut (@Fb10 R)
theorem F10_eq {R : Type} (fu : Nat) (k0 : Bool -> Option R) : F10 fu k0 = Fb10 fu k0 := by unfold F10; rw [shut_eq]
def pc10 (fu : Nat) : Nat -> Option ToldP := fun p => match Nat.beq p 122 with | true => some (ghP 0 [.live (bitsM 13 0x1c02), .ownP 10 [] ft7, .gc, .ownC 0 2 ft2, .ownC 0 3 ft5, .fzC 0 4 ft1, .gc] (pkP (bitsM 13 0x1c02) (t10_122 fu fu))) | false => match Nat.beq p 250 with | true => some (ghP 0 [.live (bitsM 21 0x100002), .gc, .ownC 0 2 ft2, .ownC 0 3 ft5, .fzC 0 4 ft1, .gc] (pkP (bitsM 21 0x100002) (t10_250 fu fu))) | false => none
def t10 (fu : Nat) : ToldF := fun _ args s K => match args, s with
 | [], [] => F10 fu  (fun o_ => K (.bool o_) [])
 | _, _ => none
theorem e10 (R : Type) (K : UV -> USt -> Option R) (fu : Nat) :
  F10 fu  (fun o_ => K (.bool o_) []) = ufun Try.prog ⟨(tb11 fu), pc10 fu⟩ 300 10 [] [] (funK 0 [.gc] K) := (F10_eq fu _).trans (by kernel_rfl)
theorem s10 (fu : Nat) : Tells Try.prog 10 (t10 fu) := by
 refine ufun_sound (T := ⟨(tb11 fu), pc10 fu⟩) (m := 0) (gout := [.gc]) (k := 300) (tb11_sound fu) (fun fn body hf hb => ?_) (fun R args s K r h => ?_) (fun R args s K r h => ?_)
 ·have hc : body = code10 := by
   have h1 : Try.prog.funcs[10]? = some Try.f10 := rfl
   rw [h1] at hf; cases hf
   have h2 : Try.f10.body = some code10 := rfl
   rw [h2] at hb; cases hb; rfl
  subst hc
  exact fun p told h b hb => by
   replace h : pc10 fu p = some told := h
   unfold pc10 at h
   split at h
   ·rename_i hp
    cases h
    have := Nat.eq_of_beq_eq_true hp
    subst this
    rw [a10_122] at hb
    cases hb
    exact ghP_sound (s10_122 fu _)
   ·
    split at h
    ·rename_i hp
     cases h
     have := Nat.eq_of_beq_eq_true hp
     subst this
     rw [a10_250] at hb
     cases hb
     exact ghP_sound (s10_250 fu _)
    ·
     cases h

 ·unfold t10 at h; split at h
  ·rfl
  ·cases h
 ·unfold t10 at h; split at h
  case h_2 => cases h
  exact (e10 R K fu).symm.trans h
def tb10 (fu : Nat) : FuncId -> Option (Bool × ToldF) := fun f => match Nat.beq f 10 with
 | true => some (false, ghG [] (t10 fu))
 | false => (tb11 fu) f
theorem tb10_sound (fu : Nat) : SoundF' Try.prog (tb10 fu) := by
 intro f own told h
 unfold tb10 at h
 split at h
 ·rename_i hb
  cases h
  have := Nat.eq_of_beq_eq_true hb
  subst this
  exact ghG_sound (s10 fu)
 ·exact (tb11_sound fu) f own told h
def code6 : Code := match Try.f6.body with | some c => c | none => .skip
theorem a6_506 : codeAt code6 506 = some (.loop (loopBody (codeAt code6 506))) := by kernel_rfl
theorem a6_518554 : codeAt code6 518554 = some (.loop (loopBody (codeAt code6 518554))) := by kernel_rfl
def F6_518554 {R : Type} (fu : Nat) (x3 : Int) : Nat -> Int -> Int -> Int -> Int -> Int -> Int -> (List (List D)) -> (Int -> Int -> Int -> Int -> Int -> (List (List D)) -> Option R) -> Option R
 | 0, _, _, _, _, _, _, _, _ => none
 | n + 1, x4, was, was1, was2, was3, was4, y2, k0 => bif decide (x4 < x3) then bif within x4 y2.length then letR (elem x4.toNat y2) fun Z0 => F19 fu (cell 0 Z0).toInt (cell 1 Z0).toInt (cell 2 Z0).toRows (cell 3 Z0).toBool (cell 4 Z0).toRows (cell 5 Z0).toBool (cell 6 Z0).toInt (cell 7 Z0).toInt (cell 8 Z0).toInt (cell 9 Z0).toInt (cell 10 Z0).toBool (cell 11 Z0).toInt (letD (setAt y2 x4.toNat [D.int (cell 0 Z0).toInt, D.int (cell 1 Z0).toInt, D.row (cell 2 Z0).toRows, D.bool (cell 3 Z0).toBool, D.row (cell 4 Z0).toRows, D.bool (cell 5 Z0).toBool, D.int (cell 6 Z0).toInt, D.int (cell 7 Z0).toInt, D.int (cell 8 Z0).toInt, D.int (cell 9 Z0).toInt, D.bool (cell 10 Z0).toBool, D.int (cell 11 Z0).toInt]) fun es1 => bif within x4 5 then (F6_518554 fu x3 n (IntKind.i64.wrap (x4 + 1)) ((cell 0 (elem 0 (putAt [[D.int was], [D.int was1], [D.int was2], [D.int was3], [D.int was4]] x4.toNat 0 [D.int (cell 1 Z0).toInt]))).toInt) ((cell 0 (elem 1 (putAt [[D.int was], [D.int was1], [D.int was2], [D.int was3], [D.int was4]] x4.toNat 0 [D.int (cell 1 Z0).toInt]))).toInt) ((cell 0 (elem 2 (putAt [[D.int was], [D.int was1], [D.int was2], [D.int was3], [D.int was4]] x4.toNat 0 [D.int (cell 1 Z0).toInt]))).toInt) ((cell 0 (elem 3 (putAt [[D.int was], [D.int was1], [D.int was2], [D.int was3], [D.int was4]] x4.toNat 0 [D.int (cell 1 Z0).toInt]))).toInt) ((cell 0 (elem 4 (putAt [[D.int was], [D.int was1], [D.int was2], [D.int was3], [D.int was4]] x4.toNat 0 [D.int (cell 1 Z0).toInt]))).toInt) es1 k0) else none) else none else (k0 was was1 was2 was3 was4 y2)
def t6_518554 (fu n : Nat) : ToldP := fun _ e s K => match e, s with
 | [.ptr 0 0, .map 1, .map 2, .ptr 3 0, .ptr 4 0, .fz zq0 x false, .int .i64 x1, .int .i64 x2, .pown 5, .int .i64 x3, .int .i64 x4], [.obj [.pown 5, .ptr 6 0, .own 7, .own 8, .fz zq1 w false, .int .i64 w1, .bool w2], .map (.int .i64) false zq2 y, .map (.int .i64) false zq3 y1, .obj [.int .i64 ob, .int .i64 ob1, .int .i64 ob2], .obj [.int .i64 was, .int .i64 was1, .int .i64 was2, .int .i64 was3, .int .i64 was4], .pool zq4 y2 none, .obj [.map 9], .row zq5 y3, .row zq6 y4, .map (.int .i64) true zq7 y5] => (match FT.sames zq0 ft7 with | true => (match FT.sames zq1 ft1 with | true => (match FT.sames zq2 ft0 with | true => (match FT.sames zq3 ft0 with | true => (match FT.sames zq4 ft6 with | true => (match FT.sames zq5 ft2 with | true => (match FT.sames zq6 ft5 with | true => (match FT.sames zq7 ft2 with | true => F6_518554 fu x3 n x4 was was1 was2 was3 was4 y2 (fun o_ o_1 o_2 o_3 o_4 o_5 => K (.exit 2) (unpackM (bitsM 35 0x7000006e0) [.ptr 0 0, .map 1, .map 2, .ptr 3 0, .ptr 4 0, .fz ft7 (x) false, .int .i64 (x1), .int .i64 (x2)]) [.obj [.pown 5, .ptr 6 0, .own 7, .own 8, .fz ft1 (w) false, .int .i64 (w1), .bool (w2)], .map (.int .i64) false ft0 (y), .map (.int .i64) false ft0 (y1), .obj [.int .i64 (ob), .int .i64 (ob1), .int .i64 (ob2)], .obj [.int .i64 o_, .int .i64 o_1, .int .i64 o_2, .int .i64 o_3, .int .i64 o_4], .pool ft6 o_5 none, .obj [.map 9], .row ft2 (y3), .row ft5 (y4), .map (.int .i64) true ft2 (y5)]) | false => none) | false => none) | false => none) | false => none) | false => none) | false => none) | false => none) | false => none)
 | _, _ => none
def pc6_518554 (fu : Nat) : Nat -> Option ToldP := fun _ => none
theorem e6_518554 (fu n : Nat) (R : Type) (K : VExit -> UEnv -> USt -> Option R) (x : List (List D)) (x1 x2 x3 x4 : Int) (w : List (List D)) (w1 : Int) (w2 : Bool) (y y1 : List (D × List D)) (ob ob1 ob2 was was1 was2 was3 was4 : Int) (y2 y3 y4 : List (List D)) (y5 : List (D × List D)) :
  F6_518554 fu x3 (n + 1) x4 was was1 was2 was3 was4 y2 (fun o_ o_1 o_2 o_3 o_4 o_5 => K (.exit 2) (unpackM (bitsM 35 0x7000006e0) [.ptr 0 0, .map 1, .map 2, .ptr 3 0, .ptr 4 0, .fz ft7 (x) false, .int .i64 (x1), .int .i64 (x2)]) [.obj [.pown 5, .ptr 6 0, .own 7, .own 8, .fz ft1 (w) false, .int .i64 (w1), .bool (w2)], .map (.int .i64) false ft0 (y), .map (.int .i64) false ft0 (y1), .obj [.int .i64 (ob), .int .i64 (ob1), .int .i64 (ob2)], .obj [.int .i64 o_, .int .i64 o_1, .int .i64 o_2, .int .i64 o_3, .int .i64 o_4], .pool ft6 o_5 none, .obj [.map 9], .row ft2 (y3), .row ft5 (y4), .map (.int .i64) true ft2 (y5)]) = uexec Try.prog (tb10 fu) 300 (pc6_518554 fu) 1037108 (loopBody (codeAt code6 518554)) (unpackM (bitsM 44 0xe07000006e0) [.ptr 0 0, .map 1, .map 2, .ptr 3 0, .ptr 4 0, .fz ft7 x false, .int .i64 x1, .int .i64 x2, .pown 5, .int .i64 x3, .int .i64 x4]) [.obj [.pown 5, .ptr 6 0, .own 7, .own 8, .fz ft1 w false, .int .i64 w1, .bool w2], .map (.int .i64) false ft0 y, .map (.int .i64) false ft0 y1, .obj [.int .i64 ob, .int .i64 ob1, .int .i64 ob2], .obj [.int .i64 was, .int .i64 was1, .int .i64 was2, .int .i64 was3, .int .i64 was4], .pool ft6 y2 none, .obj [.map 9], .row ft2 y3, .row ft5 y4, .map (.int .i64) true ft2 y5] (loopK 0 [.live (bitsM 44 0xe07000006e0), .fzP 32 [] ft7, .gc, .ownC 0 2 ft2, .ownC 0 3 ft5, .fzC 0 4 ft1, .gc] [.live (bitsM 35 0x7000006f0), .gc] (pkP (bitsM 44 0xe07000006e0) (t6_518554 fu n)) K) := by kernel_rfl
theorem p6_518554 (fu : Nat) : SoundPc Try.prog 0 code6 (pc6_518554 fu) := SoundPc.none _ _ _
theorem s6_518554 (fu : Nat) : ∀ n, SoundP Try.prog 0 (.loop (loopBody (codeAt code6 518554))) (pkP (bitsM 44 0xe07000006e0) (t6_518554 fu n)) := by
 refine loopP_sound (gin := [.live (bitsM 44 0xe07000006e0), .fzP 32 [] ft7, .gc, .ownC 0 2 ft2, .ownC 0 3 ft5, .fzC 0 4 ft1, .gc]) (gout := [.live (bitsM 35 0x7000006f0), .gc]) (k := 300) (tb10_sound fu) (p6_518554 fu) (by decide) a6_518554 (fun R e s K => ?_) (fun n R e s K r h => ?_)
 ·unfold t6_518554; repeat' split
  all_goals rfl
 ·unfold t6_518554 at h; split at h
  case h_2 => cases h
  iterate 8 (split at h; (case h_2 => cases h); rename_i hq; have hq := FT.sames_eq _ _ hq; subst hq)
  exact (e6_518554 fu n R K _ _ _ _ _ _ _ _ _ _ _ _ _ _ _ _ _ _ _ _ _ _).symm.trans h
theorem a6_259279 : codeAt code6 259279 = some (pieceOf (codeAt code6 259279)) := by kernel_rfl
theorem a6_1037118 : codeAt code6 1037118 = some (.loop (loopBody (codeAt code6 1037118))) := by kernel_rfl
theorem a6_531004623 : codeAt code6 531004623 = some (pieceOf (codeAt code6 531004623)) := by kernel_rfl
theorem a6_1062009247 : codeAt code6 1062009247 = some (pieceOf (codeAt code6 1062009247)) := by kernel_rfl
def F6_1062009247 {R : Type} (fu : Nat) (k_ : Int) (r : Nat) (e : Int) (y1 : List (D × List D)) (y2 : List (List D)) (k0 : (List (List D)) -> Option R) (k1 : (List (D × List D)) -> (List (List D)) -> Option R) : Option R :=
 letR (elem r y2) fun Z0 => F24 fu (cell 0 Z0).toInt (cell 1 Z0).toInt (cell 2 Z0).toRows (cell 3 Z0).toBool (cell 4 Z0).toRows (cell 5 Z0).toBool (cell 6 Z0).toInt (cell 7 Z0).toInt (cell 8 Z0).toInt (cell 9 Z0).toInt (cell 10 Z0).toBool (cell 11 Z0).toInt fun o_1 => letD (setAt y2 r [D.int (cell 0 Z0).toInt, D.int (cell 1 Z0).toInt, D.row (cell 2 Z0).toRows, D.bool (cell 3 Z0).toBool, D.row (cell 4 Z0).toRows, D.bool (cell 5 Z0).toBool, D.int (cell 6 Z0).toInt, D.int (cell 7 Z0).toInt, D.int (cell 8 Z0).toInt, D.int (cell 9 Z0).toInt, D.bool (cell 10 Z0).toBool, D.int (cell 11 Z0).toInt]) fun es2 => bif o_1 then bif mhas y1 (D.int e) then bif !decide ((cell 0 (mget y1 (D.int e) [D.int 0])).toInt = k_) then (k0 es2) else (k1 (mput y1 (D.int e) [D.int k_]) es2) else (k1 (mput y1 (D.int e) [D.int k_]) es2) else (k1 y1 es2)
def t6_1062009247 (fu : Nat) : ToldP := fun _ e s K => match e, s with
 | [.ptr 0 0, .map 1, .map 2, .ptr 3 0, .int .i64 k_, .pp 4 r, .int .i64 e, .fz zq0 x false, .int .i64 x1, .int .i64 x2, .pown 4, .int .i64 x3, .int .i64 x4], [.obj [.pown 4, .ptr 5 0, .own 6, .own 7, .fz zq1 w false, .int .i64 w1, .bool w2], .map (.int .i64) false zq2 y, .map (.int .i64) false zq3 y1, .obj [.int .i64 was, .int .i64 was1, .int .i64 was2, .int .i64 was3, .int .i64 was4], .pool zq4 y2 none, .obj [.map 8], .row zq5 y3, .row zq6 y4, .map (.int .i64) true zq7 y5] => (match FT.sames zq0 ft7 with | true => (match FT.sames zq1 ft1 with | true => (match FT.sames zq2 ft0 with | true => (match FT.sames zq3 ft0 with | true => (match FT.sames zq4 ft6 with | true => (match FT.sames zq5 ft2 with | true => (match FT.sames zq6 ft5 with | true => (match FT.sames zq7 ft2 with | true => F6_1062009247 fu k_ r e y1 y2 (fun o_ => K .ret (unpackM (bitsM 62 0x38000007000004f0) [.bool (false), .ptr 0 0, .map 1, .map 2, .ptr 3 0, .fz ft7 (x) false, .int .i64 (x1), .int .i64 (x2), .pown 4, .int .i64 (x3), .int .i64 (x4)]) [.obj [.pown 4, .ptr 5 0, .own 6, .own 7, .fz ft1 (w) false, .int .i64 (w1), .bool (w2)], .map (.int .i64) false ft0 (y), .map (.int .i64) false ft0 (y1), .obj [.int .i64 (was), .int .i64 (was1), .int .i64 (was2), .int .i64 (was3), .int .i64 (was4)], .pool ft6 o_ none, .obj [.map 8], .row ft2 (y3), .row ft5 (y4), .map (.int .i64) true ft2 (y5)]) (fun o_ o_1 => K .normal (unpackM (bitsM 62 0x38000007000004e0) [.ptr 0 0, .map 1, .map 2, .ptr 3 0, .fz ft7 (x) false, .int .i64 (x1), .int .i64 (x2), .pown 4, .int .i64 (x3), .int .i64 (x4)]) [.obj [.pown 4, .ptr 5 0, .own 6, .own 7, .fz ft1 (w) false, .int .i64 (w1), .bool (w2)], .map (.int .i64) false ft0 (y), .map (.int .i64) false ft0 o_, .obj [.int .i64 (was), .int .i64 (was1), .int .i64 (was2), .int .i64 (was3), .int .i64 (was4)], .pool ft6 o_1 none, .obj [.map 8], .row ft2 (y3), .row ft5 (y4), .map (.int .i64) true ft2 (y5)]) | false => none) | false => none) | false => none) | false => none) | false => none) | false => none) | false => none) | false => none)
 | _, _ => none
def pc6_1062009247 (fu : Nat) : Nat -> Option ToldP := fun _ => none
theorem e6_1062009247 (fu : Nat) (R : Type) (K : VExit -> UEnv -> USt -> Option R) (k_ : Int) (r : Nat) (e : Int) (x : List (List D)) (x1 x2 x3 x4 : Int) (w : List (List D)) (w1 : Int) (w2 : Bool) (y y1 : List (D × List D)) (was was1 was2 was3 was4 : Int) (y2 y3 y4 : List (List D)) (y5 : List (D × List D)) :
  F6_1062009247 fu k_ r e y1 y2 (fun o_ => K .ret (unpackM (bitsM 62 0x38000007000004f0) [.bool (false), .ptr 0 0, .map 1, .map 2, .ptr 3 0, .fz ft7 (x) false, .int .i64 (x1), .int .i64 (x2), .pown 4, .int .i64 (x3), .int .i64 (x4)]) [.obj [.pown 4, .ptr 5 0, .own 6, .own 7, .fz ft1 (w) false, .int .i64 (w1), .bool (w2)], .map (.int .i64) false ft0 (y), .map (.int .i64) false ft0 (y1), .obj [.int .i64 (was), .int .i64 (was1), .int .i64 (was2), .int .i64 (was3), .int .i64 (was4)], .pool ft6 o_ none, .obj [.map 8], .row ft2 (y3), .row ft5 (y4), .map (.int .i64) true ft2 (y5)]) (fun o_ o_1 => K .normal (unpackM (bitsM 62 0x38000007000004e0) [.ptr 0 0, .map 1, .map 2, .ptr 3 0, .fz ft7 (x) false, .int .i64 (x1), .int .i64 (x2), .pown 4, .int .i64 (x3), .int .i64 (x4)]) [.obj [.pown 4, .ptr 5 0, .own 6, .own 7, .fz ft1 (w) false, .int .i64 (w1), .bool (w2)], .map (.int .i64) false ft0 (y), .map (.int .i64) false ft0 o_, .obj [.int .i64 (was), .int .i64 (was1), .int .i64 (was2), .int .i64 (was3), .int .i64 (was4)], .pool ft6 o_1 none, .obj [.map 8], .row ft2 (y3), .row ft5 (y4), .map (.int .i64) true ft2 (y5)]) = uexec Try.prog (tb10 fu) 300 (pc6_1062009247 fu) 1062009247 (pieceOf (codeAt code6 1062009247)) (unpackM (bitsM 62 0x380000070000e4e0) [.ptr 0 0, .map 1, .map 2, .ptr 3 0, .int .i64 k_, .pp 4 r, .int .i64 e, .fz ft7 x false, .int .i64 x1, .int .i64 x2, .pown 4, .int .i64 x3, .int .i64 x4]) [.obj [.pown 4, .ptr 5 0, .own 6, .own 7, .fz ft1 w false, .int .i64 w1, .bool w2], .map (.int .i64) false ft0 y, .map (.int .i64) false ft0 y1, .obj [.int .i64 was, .int .i64 was1, .int .i64 was2, .int .i64 was3, .int .i64 was4], .pool ft6 y2 none, .obj [.map 8], .row ft2 y3, .row ft5 y4, .map (.int .i64) true ft2 y5] (ghK 0 [.live (bitsM 62 0x38000007000004f0), .gc] K) := by kernel_rfl
theorem p6_1062009247 (fu : Nat) : SoundPc Try.prog 0 code6 (pc6_1062009247 fu) := SoundPc.none _ _ _
theorem s6_1062009247 (fu : Nat) : SoundP Try.prog 0 (pieceOf (codeAt code6 1062009247)) (pkP (bitsM 62 0x380000070000e4e0) (t6_1062009247 fu)) := by
 refine pieceP_sound (gout := [.live (bitsM 62 0x38000007000004f0), .gc]) (k := 300) (tb10_sound fu) (p6_1062009247 fu) (by decide) a6_1062009247 (fun R e s K r h => ?_)
 unfold t6_1062009247 at h; split at h
 case h_2 => cases h
 iterate 8 (split at h; (case h_2 => cases h); rename_i hq; have hq := FT.sames_eq _ _ hq; subst hq)
 exact (e6_1062009247 fu R K _ _ _ _ _ _ _ _ _ _ _ _ _ _ _ _ _ _ _ _ _ _).symm.trans h
def F6_531004623 {R : Type} (fu : Nat) (k_ : Int) (r : Nat) (e : Int) (y y1 : List (D × List D)) (y2 : List (List D)) (k0 : (List (D × List D)) -> (List (List D)) -> Option R) (k1 : (List (D × List D)) -> (List (D × List D)) -> (List (List D)) -> Option R) : Option R :=
 letR (elem r y2) fun Z0 => F23 fu (cell 0 Z0).toInt (cell 1 Z0).toInt (cell 2 Z0).toRows (cell 3 Z0).toBool (cell 4 Z0).toRows (cell 5 Z0).toBool (cell 6 Z0).toInt (cell 7 Z0).toInt (cell 8 Z0).toInt (cell 9 Z0).toInt (cell 10 Z0).toBool (cell 11 Z0).toInt fun o_1 => letD (setAt y2 r [D.int (cell 0 Z0).toInt, D.int (cell 1 Z0).toInt, D.row (cell 2 Z0).toRows, D.bool (cell 3 Z0).toBool, D.row (cell 4 Z0).toRows, D.bool (cell 5 Z0).toBool, D.int (cell 6 Z0).toInt, D.int (cell 7 Z0).toInt, D.int (cell 8 Z0).toInt, D.int (cell 9 Z0).toInt, D.bool (cell 10 Z0).toBool, D.int (cell 11 Z0).toInt]) fun es2 => bif o_1 then bif mhas y (D.int e) then bif !decide ((cell 0 (mget y (D.int e) [D.int 0])).toInt = k_) then (k0 y es2) else F6_1062009247 fu k_ r e y1 es2 (fun o_3 => (k0 (mput y (D.int e) [D.int k_]) o_3)) fun o_4 o_5 => (k1 (mput y (D.int e) [D.int k_]) o_4 o_5) else F6_1062009247 fu k_ r e y1 es2 (fun o_6 => (k0 (mput y (D.int e) [D.int k_]) o_6)) fun o_7 o_8 => (k1 (mput y (D.int e) [D.int k_]) o_7 o_8) else F6_1062009247 fu k_ r e y1 es2 (fun o_9 => (k0 y o_9)) fun o_10 o_11 => (k1 y o_10 o_11)
def t6_531004623 (fu : Nat) : ToldP := fun _ e s K => match e, s with
 | [.ptr 0 0, .map 1, .map 2, .ptr 3 0, .int .i64 k_, .pp 4 r, .int .i64 e, .fz zq0 x false, .int .i64 x1, .int .i64 x2, .pown 4, .int .i64 x3, .int .i64 x4], [.obj [.pown 4, .ptr 5 0, .own 6, .own 7, .fz zq1 w false, .int .i64 w1, .bool w2], .map (.int .i64) false zq2 y, .map (.int .i64) false zq3 y1, .obj [.int .i64 was, .int .i64 was1, .int .i64 was2, .int .i64 was3, .int .i64 was4], .pool zq4 y2 none, .obj [.map 8], .row zq5 y3, .row zq6 y4, .map (.int .i64) true zq7 y5] => (match FT.sames zq0 ft7 with | true => (match FT.sames zq1 ft1 with | true => (match FT.sames zq2 ft0 with | true => (match FT.sames zq3 ft0 with | true => (match FT.sames zq4 ft6 with | true => (match FT.sames zq5 ft2 with | true => (match FT.sames zq6 ft5 with | true => (match FT.sames zq7 ft2 with | true => F6_531004623 fu k_ r e y y1 y2 (fun o_ o_1 => K .ret (unpackM (bitsM 62 0x38000007000004f0) [.bool (false), .ptr 0 0, .map 1, .map 2, .ptr 3 0, .fz ft7 (x) false, .int .i64 (x1), .int .i64 (x2), .pown 4, .int .i64 (x3), .int .i64 (x4)]) [.obj [.pown 4, .ptr 5 0, .own 6, .own 7, .fz ft1 (w) false, .int .i64 (w1), .bool (w2)], .map (.int .i64) false ft0 o_, .map (.int .i64) false ft0 (y1), .obj [.int .i64 (was), .int .i64 (was1), .int .i64 (was2), .int .i64 (was3), .int .i64 (was4)], .pool ft6 o_1 none, .obj [.map 8], .row ft2 (y3), .row ft5 (y4), .map (.int .i64) true ft2 (y5)]) (fun o_ o_1 o_2 => K .normal (unpackM (bitsM 62 0x38000007000004e0) [.ptr 0 0, .map 1, .map 2, .ptr 3 0, .fz ft7 (x) false, .int .i64 (x1), .int .i64 (x2), .pown 4, .int .i64 (x3), .int .i64 (x4)]) [.obj [.pown 4, .ptr 5 0, .own 6, .own 7, .fz ft1 (w) false, .int .i64 (w1), .bool (w2)], .map (.int .i64) false ft0 o_, .map (.int .i64) false ft0 o_1, .obj [.int .i64 (was), .int .i64 (was1), .int .i64 (was2), .int .i64 (was3), .int .i64 (was4)], .pool ft6 o_2 none, .obj [.map 8], .row ft2 (y3), .row ft5 (y4), .map (.int .i64) true ft2 (y5)]) | false => none) | false => none) | false => none) | false => none) | false => none) | false => none) | false => none) | false => none)
 | _, _ => none
def pc6_531004623 (fu : Nat) : Nat -> Option ToldP := fun p => match Nat.beq p 1062009247 with | true => some (ghP 0 [.live (bitsM 62 0x380000070000e4e0), .fzP 32 [] ft7, .gc, .ownC 0 2 ft2, .ownC 0 3 ft5, .fzC 0 4 ft1, .gc] (pkP (bitsM 62 0x380000070000e4e0) (t6_1062009247 fu))) | false => none
theorem e6_531004623 (fu : Nat) (R : Type) (K : VExit -> UEnv -> USt -> Option R) (k_ : Int) (r : Nat) (e : Int) (x : List (List D)) (x1 x2 x3 x4 : Int) (w : List (List D)) (w1 : Int) (w2 : Bool) (y y1 : List (D × List D)) (was was1 was2 was3 was4 : Int) (y2 y3 y4 : List (List D)) (y5 : List (D × List D)) :
  F6_531004623 fu k_ r e y y1 y2 (fun o_ o_1 => K .ret (unpackM (bitsM 62 0x38000007000004f0) [.bool (false), .ptr 0 0, .map 1, .map 2, .ptr 3 0, .fz ft7 (x) false, .int .i64 (x1), .int .i64 (x2), .pown 4, .int .i64 (x3), .int .i64 (x4)]) [.obj [.pown 4, .ptr 5 0, .own 6, .own 7, .fz ft1 (w) false, .int .i64 (w1), .bool (w2)], .map (.int .i64) false ft0 o_, .map (.int .i64) false ft0 (y1), .obj [.int .i64 (was), .int .i64 (was1), .int .i64 (was2), .int .i64 (was3), .int .i64 (was4)], .pool ft6 o_1 none, .obj [.map 8], .row ft2 (y3), .row ft5 (y4), .map (.int .i64) true ft2 (y5)]) (fun o_ o_1 o_2 => K .normal (unpackM (bitsM 62 0x38000007000004e0) [.ptr 0 0, .map 1, .map 2, .ptr 3 0, .fz ft7 (x) false, .int .i64 (x1), .int .i64 (x2), .pown 4, .int .i64 (x3), .int .i64 (x4)]) [.obj [.pown 4, .ptr 5 0, .own 6, .own 7, .fz ft1 (w) false, .int .i64 (w1), .bool (w2)], .map (.int .i64) false ft0 o_, .map (.int .i64) false ft0 o_1, .obj [.int .i64 (was), .int .i64 (was1), .int .i64 (was2), .int .i64 (was3), .int .i64 (was4)], .pool ft6 o_2 none, .obj [.map 8], .row ft2 (y3), .row ft5 (y4), .map (.int .i64) true ft2 (y5)]) = uexec Try.prog (tb10 fu) 300 (pc6_531004623 fu) 531004623 (pieceOf (codeAt code6 531004623)) (unpackM (bitsM 62 0x380000070000e4e0) [.ptr 0 0, .map 1, .map 2, .ptr 3 0, .int .i64 k_, .pp 4 r, .int .i64 e, .fz ft7 x false, .int .i64 x1, .int .i64 x2, .pown 4, .int .i64 x3, .int .i64 x4]) [.obj [.pown 4, .ptr 5 0, .own 6, .own 7, .fz ft1 w false, .int .i64 w1, .bool w2], .map (.int .i64) false ft0 y, .map (.int .i64) false ft0 y1, .obj [.int .i64 was, .int .i64 was1, .int .i64 was2, .int .i64 was3, .int .i64 was4], .pool ft6 y2 none, .obj [.map 8], .row ft2 y3, .row ft5 y4, .map (.int .i64) true ft2 y5] (ghK 0 [.live (bitsM 62 0x38000007000004f0), .gc] K) := by kernel_rfl
theorem p6_531004623 (fu : Nat) : SoundPc Try.prog 0 code6 (pc6_531004623 fu) := fun p told h b hb => by
 replace h : pc6_531004623 fu p = some told := h
 unfold pc6_531004623 at h
 split at h
 ·rename_i hp
  cases h
  have := Nat.eq_of_beq_eq_true hp
  subst this
  rw [a6_1062009247] at hb
  cases hb
  exact ghP_sound (s6_1062009247 fu)
 ·
  cases h
theorem s6_531004623 (fu : Nat) : SoundP Try.prog 0 (pieceOf (codeAt code6 531004623)) (pkP (bitsM 62 0x380000070000e4e0) (t6_531004623 fu)) := by
 refine pieceP_sound (gout := [.live (bitsM 62 0x38000007000004f0), .gc]) (k := 300) (tb10_sound fu) (p6_531004623 fu) (by decide) a6_531004623 (fun R e s K r h => ?_)
 unfold t6_531004623 at h; split at h
 case h_2 => cases h
 iterate 8 (split at h; (case h_2 => cases h); rename_i hq; have hq := FT.sames_eq _ _ hq; subst hq)
 exact (e6_531004623 fu R K _ _ _ _ _ _ _ _ _ _ _ _ _ _ _ _ _ _ _ _ _ _).symm.trans h
def F6_1037118 {R : Type} (fu : Nat) (x3 was was1 was2 was3 was4 : Int) : Nat -> Int -> (List (D × List D)) -> (List (D × List D)) -> (List (List D)) -> ((List (D × List D)) -> (List (D × List D)) -> (List (List D)) -> Option R) -> ((List (D × List D)) -> (List (D × List D)) -> (List (List D)) -> Option R) -> Option R
 | 0, _, _, _, _, _, _ => none
 | n + 1, x4, y, y1, y2, k0, k1 => bif decide (x4 < x3) then bif within x4 y2.length then letR (elem x4.toNat y2) fun Z0 => F19 fu (cell 0 Z0).toInt (cell 1 Z0).toInt (cell 2 Z0).toRows (cell 3 Z0).toBool (cell 4 Z0).toRows (cell 5 Z0).toBool (cell 6 Z0).toInt (cell 7 Z0).toInt (cell 8 Z0).toInt (cell 9 Z0).toInt (cell 10 Z0).toBool (cell 11 Z0).toInt (letD (setAt y2 x4.toNat [D.int (cell 0 Z0).toInt, D.int (cell 1 Z0).toInt, D.row (cell 2 Z0).toRows, D.bool (cell 3 Z0).toBool, D.row (cell 4 Z0).toRows, D.bool (cell 5 Z0).toBool, D.int (cell 6 Z0).toInt, D.int (cell 7 Z0).toInt, D.int (cell 8 Z0).toInt, D.int (cell 9 Z0).toInt, D.bool (cell 10 Z0).toBool, D.int (cell 11 Z0).toInt]) fun es1 => letR (elem x4.toNat es1) fun Z2 => F20 fu (cell 0 Z2).toInt (cell 1 Z2).toInt (cell 2 Z2).toRows (cell 3 Z2).toBool (cell 4 Z2).toRows (cell 5 Z2).toBool (cell 6 Z2).toInt (cell 7 Z2).toInt (cell 8 Z2).toInt (cell 9 Z2).toInt (cell 10 Z2).toBool (cell 11 Z2).toInt fun o_3 => letD (setAt es1 x4.toNat [D.int (cell 0 Z2).toInt, D.int (cell 1 Z2).toInt, D.row (cell 2 Z2).toRows, D.bool (cell 3 Z2).toBool, D.row (cell 4 Z2).toRows, D.bool (cell 5 Z2).toBool, D.int (cell 6 Z2).toInt, D.int (cell 7 Z2).toInt, D.int (cell 8 Z2).toInt, D.int (cell 9 Z2).toInt, D.bool (cell 10 Z2).toBool, D.int (cell 11 Z2).toInt]) fun es4 => bif within x4 5 then bif decide ((cell 1 Z0).toInt < (cell 0 (elem x4.toNat [[D.int was], [D.int was1], [D.int was2], [D.int was3], [D.int was4]])).toInt) then (k0 y y1 es4) else letR (elem x4.toNat es4) fun Z5 => F21 fu (cell 0 Z5).toInt (cell 1 Z5).toInt (cell 2 Z5).toRows (cell 3 Z5).toBool (cell 4 Z5).toRows (cell 5 Z5).toBool (cell 6 Z5).toInt (cell 7 Z5).toInt (cell 8 Z5).toInt (cell 9 Z5).toInt (cell 10 Z5).toBool (cell 11 Z5).toInt (letD (setAt es4 x4.toNat [D.int (cell 0 Z5).toInt, D.int (cell 1 Z5).toInt, D.row (cell 2 Z5).toRows, D.bool (cell 3 Z5).toBool, D.row (cell 4 Z5).toRows, D.bool (cell 5 Z5).toBool, D.int (cell 6 Z5).toInt, D.int (cell 7 Z5).toInt, D.int (cell 8 Z5).toInt, D.int (cell 9 Z5).toInt, D.bool (cell 10 Z5).toBool, D.int (cell 11 Z5).toInt]) fun es6 => bif (cell 5 Z5).toBool then F22 fu [D.int (cell 0 o_3).toInt, D.row (cell 1 o_3).toRows, D.bool (cell 2 o_3).toBool] x4 fun o_7 => bif decide (o_7 < 0) then (k0 y y1 es6) else letR (elem x4.toNat es6) fun Z8 => F23 fu (cell 0 Z8).toInt (cell 1 Z8).toInt (cell 2 Z8).toRows (cell 3 Z8).toBool (cell 4 Z8).toRows (cell 5 Z8).toBool (cell 6 Z8).toInt (cell 7 Z8).toInt (cell 8 Z8).toInt (cell 9 Z8).toInt (cell 10 Z8).toBool (cell 11 Z8).toInt fun o_9 => letD (setAt es6 x4.toNat [D.int (cell 0 Z8).toInt, D.int (cell 1 Z8).toInt, D.row (cell 2 Z8).toRows, D.bool (cell 3 Z8).toBool, D.row (cell 4 Z8).toRows, D.bool (cell 5 Z8).toBool, D.int (cell 6 Z8).toInt, D.int (cell 7 Z8).toInt, D.int (cell 8 Z8).toInt, D.int (cell 9 Z8).toInt, D.bool (cell 10 Z8).toBool, D.int (cell 11 Z8).toInt]) fun es10 => bif o_9 then letR (elem x4.toNat es10) fun Z11 => F21 fu (cell 0 Z11).toInt (cell 1 Z11).toInt (cell 2 Z11).toRows (cell 3 Z11).toBool (cell 4 Z11).toRows (cell 5 Z11).toBool (cell 6 Z11).toInt (cell 7 Z11).toInt (cell 8 Z11).toInt (cell 9 Z11).toInt (cell 10 Z11).toBool (cell 11 Z11).toInt (letD (setAt es10 x4.toNat [D.int (cell 0 Z11).toInt, D.int (cell 1 Z11).toInt, D.row (cell 2 Z11).toRows, D.bool (cell 3 Z11).toBool, D.row (cell 4 Z11).toRows, D.bool (cell 5 Z11).toBool, D.int (cell 6 Z11).toInt, D.int (cell 7 Z11).toInt, D.int (cell 8 Z11).toInt, D.int (cell 9 Z11).toInt, D.bool (cell 10 Z11).toBool, D.int (cell 11 Z11).toInt]) fun es12 => bif !(cell 5 Z11).toBool then (k0 y y1 es12) else letR (elem x4.toNat es12) fun Z13 => F24 fu (cell 0 Z13).toInt (cell 1 Z13).toInt (cell 2 Z13).toRows (cell 3 Z13).toBool (cell 4 Z13).toRows (cell 5 Z13).toBool (cell 6 Z13).toInt (cell 7 Z13).toInt (cell 8 Z13).toInt (cell 9 Z13).toInt (cell 10 Z13).toBool (cell 11 Z13).toInt fun o_14 => letD (setAt es12 x4.toNat [D.int (cell 0 Z13).toInt, D.int (cell 1 Z13).toInt, D.row (cell 2 Z13).toRows, D.bool (cell 3 Z13).toBool, D.row (cell 4 Z13).toRows, D.bool (cell 5 Z13).toBool, D.int (cell 6 Z13).toInt, D.int (cell 7 Z13).toInt, D.int (cell 8 Z13).toInt, D.int (cell 9 Z13).toInt, D.bool (cell 10 Z13).toBool, D.int (cell 11 Z13).toInt]) fun es15 => bif o_14 then letR (elem x4.toNat es15) fun Z16 => F21 fu (cell 0 Z16).toInt (cell 1 Z16).toInt (cell 2 Z16).toRows (cell 3 Z16).toBool (cell 4 Z16).toRows (cell 5 Z16).toBool (cell 6 Z16).toInt (cell 7 Z16).toInt (cell 8 Z16).toInt (cell 9 Z16).toInt (cell 10 Z16).toBool (cell 11 Z16).toInt (letD (setAt es15 x4.toNat [D.int (cell 0 Z16).toInt, D.int (cell 1 Z16).toInt, D.row (cell 2 Z16).toRows, D.bool (cell 3 Z16).toBool, D.row (cell 4 Z16).toRows, D.bool (cell 5 Z16).toBool, D.int (cell 6 Z16).toInt, D.int (cell 7 Z16).toInt, D.int (cell 8 Z16).toInt, D.int (cell 9 Z16).toInt, D.bool (cell 10 Z16).toBool, D.int (cell 11 Z16).toInt]) fun es17 => bif !(cell 5 Z16).toBool then (k0 y y1 es17) else F6_531004623 fu x4 x4.toNat (cell 1 Z0).toInt y y1 es17 (fun o_18 o_19 => (k0 o_18 y1 o_19)) fun o_20 o_21 o_22 => (F6_1037118 fu x3 was was1 was2 was3 was4 n (IntKind.i64.wrap (x4 + 1)) o_20 o_21 o_22 k0 k1)) else F6_531004623 fu x4 x4.toNat (cell 1 Z0).toInt y y1 es15 (fun o_23 o_24 => (k0 o_23 y1 o_24)) fun o_25 o_26 o_27 => (F6_1037118 fu x3 was was1 was2 was3 was4 n (IntKind.i64.wrap (x4 + 1)) o_25 o_26 o_27 k0 k1)) else letR (elem x4.toNat es10) fun Z28 => F24 fu (cell 0 Z28).toInt (cell 1 Z28).toInt (cell 2 Z28).toRows (cell 3 Z28).toBool (cell 4 Z28).toRows (cell 5 Z28).toBool (cell 6 Z28).toInt (cell 7 Z28).toInt (cell 8 Z28).toInt (cell 9 Z28).toInt (cell 10 Z28).toBool (cell 11 Z28).toInt fun o_29 => letD (setAt es10 x4.toNat [D.int (cell 0 Z28).toInt, D.int (cell 1 Z28).toInt, D.row (cell 2 Z28).toRows, D.bool (cell 3 Z28).toBool, D.row (cell 4 Z28).toRows, D.bool (cell 5 Z28).toBool, D.int (cell 6 Z28).toInt, D.int (cell 7 Z28).toInt, D.int (cell 8 Z28).toInt, D.int (cell 9 Z28).toInt, D.bool (cell 10 Z28).toBool, D.int (cell 11 Z28).toInt]) fun es30 => bif o_29 then letR (elem x4.toNat es30) fun Z31 => F21 fu (cell 0 Z31).toInt (cell 1 Z31).toInt (cell 2 Z31).toRows (cell 3 Z31).toBool (cell 4 Z31).toRows (cell 5 Z31).toBool (cell 6 Z31).toInt (cell 7 Z31).toInt (cell 8 Z31).toInt (cell 9 Z31).toInt (cell 10 Z31).toBool (cell 11 Z31).toInt (letD (setAt es30 x4.toNat [D.int (cell 0 Z31).toInt, D.int (cell 1 Z31).toInt, D.row (cell 2 Z31).toRows, D.bool (cell 3 Z31).toBool, D.row (cell 4 Z31).toRows, D.bool (cell 5 Z31).toBool, D.int (cell 6 Z31).toInt, D.int (cell 7 Z31).toInt, D.int (cell 8 Z31).toInt, D.int (cell 9 Z31).toInt, D.bool (cell 10 Z31).toBool, D.int (cell 11 Z31).toInt]) fun es32 => bif !(cell 5 Z31).toBool then (k0 y y1 es32) else F6_531004623 fu x4 x4.toNat (cell 1 Z0).toInt y y1 es32 (fun o_33 o_34 => (k0 o_33 y1 o_34)) fun o_35 o_36 o_37 => (F6_1037118 fu x3 was was1 was2 was3 was4 n (IntKind.i64.wrap (x4 + 1)) o_35 o_36 o_37 k0 k1)) else F6_531004623 fu x4 x4.toNat (cell 1 Z0).toInt y y1 es30 (fun o_38 o_39 => (k0 o_38 y1 o_39)) fun o_40 o_41 o_42 => (F6_1037118 fu x3 was was1 was2 was3 was4 n (IntKind.i64.wrap (x4 + 1)) o_40 o_41 o_42 k0 k1) else letR (elem x4.toNat es6) fun Z43 => F23 fu (cell 0 Z43).toInt (cell 1 Z43).toInt (cell 2 Z43).toRows (cell 3 Z43).toBool (cell 4 Z43).toRows (cell 5 Z43).toBool (cell 6 Z43).toInt (cell 7 Z43).toInt (cell 8 Z43).toInt (cell 9 Z43).toInt (cell 10 Z43).toBool (cell 11 Z43).toInt fun o_44 => letD (setAt es6 x4.toNat [D.int (cell 0 Z43).toInt, D.int (cell 1 Z43).toInt, D.row (cell 2 Z43).toRows, D.bool (cell 3 Z43).toBool, D.row (cell 4 Z43).toRows, D.bool (cell 5 Z43).toBool, D.int (cell 6 Z43).toInt, D.int (cell 7 Z43).toInt, D.int (cell 8 Z43).toInt, D.int (cell 9 Z43).toInt, D.bool (cell 10 Z43).toBool, D.int (cell 11 Z43).toInt]) fun es45 => bif o_44 then letR (elem x4.toNat es45) fun Z46 => F21 fu (cell 0 Z46).toInt (cell 1 Z46).toInt (cell 2 Z46).toRows (cell 3 Z46).toBool (cell 4 Z46).toRows (cell 5 Z46).toBool (cell 6 Z46).toInt (cell 7 Z46).toInt (cell 8 Z46).toInt (cell 9 Z46).toInt (cell 10 Z46).toBool (cell 11 Z46).toInt (letD (setAt es45 x4.toNat [D.int (cell 0 Z46).toInt, D.int (cell 1 Z46).toInt, D.row (cell 2 Z46).toRows, D.bool (cell 3 Z46).toBool, D.row (cell 4 Z46).toRows, D.bool (cell 5 Z46).toBool, D.int (cell 6 Z46).toInt, D.int (cell 7 Z46).toInt, D.int (cell 8 Z46).toInt, D.int (cell 9 Z46).toInt, D.bool (cell 10 Z46).toBool, D.int (cell 11 Z46).toInt]) fun es47 => bif !(cell 5 Z46).toBool then (k0 y y1 es47) else letR (elem x4.toNat es47) fun Z48 => F24 fu (cell 0 Z48).toInt (cell 1 Z48).toInt (cell 2 Z48).toRows (cell 3 Z48).toBool (cell 4 Z48).toRows (cell 5 Z48).toBool (cell 6 Z48).toInt (cell 7 Z48).toInt (cell 8 Z48).toInt (cell 9 Z48).toInt (cell 10 Z48).toBool (cell 11 Z48).toInt fun o_49 => letD (setAt es47 x4.toNat [D.int (cell 0 Z48).toInt, D.int (cell 1 Z48).toInt, D.row (cell 2 Z48).toRows, D.bool (cell 3 Z48).toBool, D.row (cell 4 Z48).toRows, D.bool (cell 5 Z48).toBool, D.int (cell 6 Z48).toInt, D.int (cell 7 Z48).toInt, D.int (cell 8 Z48).toInt, D.int (cell 9 Z48).toInt, D.bool (cell 10 Z48).toBool, D.int (cell 11 Z48).toInt]) fun es50 => bif o_49 then letR (elem x4.toNat es50) fun Z51 => F21 fu (cell 0 Z51).toInt (cell 1 Z51).toInt (cell 2 Z51).toRows (cell 3 Z51).toBool (cell 4 Z51).toRows (cell 5 Z51).toBool (cell 6 Z51).toInt (cell 7 Z51).toInt (cell 8 Z51).toInt (cell 9 Z51).toInt (cell 10 Z51).toBool (cell 11 Z51).toInt (letD (setAt es50 x4.toNat [D.int (cell 0 Z51).toInt, D.int (cell 1 Z51).toInt, D.row (cell 2 Z51).toRows, D.bool (cell 3 Z51).toBool, D.row (cell 4 Z51).toRows, D.bool (cell 5 Z51).toBool, D.int (cell 6 Z51).toInt, D.int (cell 7 Z51).toInt, D.int (cell 8 Z51).toInt, D.int (cell 9 Z51).toInt, D.bool (cell 10 Z51).toBool, D.int (cell 11 Z51).toInt]) fun es52 => bif !(cell 5 Z51).toBool then (k0 y y1 es52) else F6_531004623 fu x4 x4.toNat (cell 1 Z0).toInt y y1 es52 (fun o_53 o_54 => (k0 o_53 y1 o_54)) fun o_55 o_56 o_57 => (F6_1037118 fu x3 was was1 was2 was3 was4 n (IntKind.i64.wrap (x4 + 1)) o_55 o_56 o_57 k0 k1)) else F6_531004623 fu x4 x4.toNat (cell 1 Z0).toInt y y1 es50 (fun o_58 o_59 => (k0 o_58 y1 o_59)) fun o_60 o_61 o_62 => (F6_1037118 fu x3 was was1 was2 was3 was4 n (IntKind.i64.wrap (x4 + 1)) o_60 o_61 o_62 k0 k1)) else letR (elem x4.toNat es45) fun Z63 => F24 fu (cell 0 Z63).toInt (cell 1 Z63).toInt (cell 2 Z63).toRows (cell 3 Z63).toBool (cell 4 Z63).toRows (cell 5 Z63).toBool (cell 6 Z63).toInt (cell 7 Z63).toInt (cell 8 Z63).toInt (cell 9 Z63).toInt (cell 10 Z63).toBool (cell 11 Z63).toInt fun o_64 => letD (setAt es45 x4.toNat [D.int (cell 0 Z63).toInt, D.int (cell 1 Z63).toInt, D.row (cell 2 Z63).toRows, D.bool (cell 3 Z63).toBool, D.row (cell 4 Z63).toRows, D.bool (cell 5 Z63).toBool, D.int (cell 6 Z63).toInt, D.int (cell 7 Z63).toInt, D.int (cell 8 Z63).toInt, D.int (cell 9 Z63).toInt, D.bool (cell 10 Z63).toBool, D.int (cell 11 Z63).toInt]) fun es65 => bif o_64 then letR (elem x4.toNat es65) fun Z66 => F21 fu (cell 0 Z66).toInt (cell 1 Z66).toInt (cell 2 Z66).toRows (cell 3 Z66).toBool (cell 4 Z66).toRows (cell 5 Z66).toBool (cell 6 Z66).toInt (cell 7 Z66).toInt (cell 8 Z66).toInt (cell 9 Z66).toInt (cell 10 Z66).toBool (cell 11 Z66).toInt (letD (setAt es65 x4.toNat [D.int (cell 0 Z66).toInt, D.int (cell 1 Z66).toInt, D.row (cell 2 Z66).toRows, D.bool (cell 3 Z66).toBool, D.row (cell 4 Z66).toRows, D.bool (cell 5 Z66).toBool, D.int (cell 6 Z66).toInt, D.int (cell 7 Z66).toInt, D.int (cell 8 Z66).toInt, D.int (cell 9 Z66).toInt, D.bool (cell 10 Z66).toBool, D.int (cell 11 Z66).toInt]) fun es67 => bif !(cell 5 Z66).toBool then (k0 y y1 es67) else F6_531004623 fu x4 x4.toNat (cell 1 Z0).toInt y y1 es67 (fun o_68 o_69 => (k0 o_68 y1 o_69)) fun o_70 o_71 o_72 => (F6_1037118 fu x3 was was1 was2 was3 was4 n (IntKind.i64.wrap (x4 + 1)) o_70 o_71 o_72 k0 k1)) else F6_531004623 fu x4 x4.toNat (cell 1 Z0).toInt y y1 es65 (fun o_73 o_74 => (k0 o_73 y1 o_74)) fun o_75 o_76 o_77 => (F6_1037118 fu x3 was was1 was2 was3 was4 n (IntKind.i64.wrap (x4 + 1)) o_75 o_76 o_77 k0 k1)) else none) else none else (k1 y y1 y2)
def t6_1037118 (fu n : Nat) : ToldP := fun _ e s K => match e, s with
 | [.ptr 0 0, .map 1, .map 2, .ptr 3 0, .fz zq0 x false, .int .i64 x1, .int .i64 x2, .pown 4, .int .i64 x3, .int .i64 x4], [.obj [.pown 4, .ptr 5 0, .own 6, .own 7, .fz zq1 w false, .int .i64 w1, .bool w2], .map (.int .i64) false zq2 y, .map (.int .i64) false zq3 y1, .obj [.int .i64 was, .int .i64 was1, .int .i64 was2, .int .i64 was3, .int .i64 was4], .pool zq4 y2 none, .obj [.map 8], .row zq5 y3, .row zq6 y4, .map (.int .i64) true zq7 y5] => (match FT.sames zq0 ft7 with | true => (match FT.sames zq1 ft1 with | true => (match FT.sames zq2 ft0 with | true => (match FT.sames zq3 ft0 with | true => (match FT.sames zq4 ft6 with | true => (match FT.sames zq5 ft2 with | true => (match FT.sames zq6 ft5 with | true => (match FT.sames zq7 ft2 with | true => F6_1037118 fu x3 was was1 was2 was3 was4 n x4 y y1 y2 (fun o_ o_1 o_2 => K .ret (unpackM (bitsM 35 0x7000000f0) [.bool (false), .ptr 0 0, .map 1, .map 2, .fz ft7 (x) false, .int .i64 (x1), .int .i64 (x2)]) [.obj [.pown 3, .ptr 4 0, .own 5, .own 6, .fz ft1 (w) false, .int .i64 (w1), .bool (w2)], .map (.int .i64) false ft0 o_, .map (.int .i64) false ft0 o_1, .pool ft6 o_2 none, .obj [.map 7], .row ft2 (y3), .row ft5 (y4), .map (.int .i64) true ft2 (y5)]) (fun o_ o_1 o_2 => K (.exit 4) (unpackM (bitsM 35 0x7000000e0) [.ptr 0 0, .map 1, .map 2, .fz ft7 (x) false, .int .i64 (x1), .int .i64 (x2)]) [.obj [.pown 3, .ptr 4 0, .own 5, .own 6, .fz ft1 (w) false, .int .i64 (w1), .bool (w2)], .map (.int .i64) false ft0 o_, .map (.int .i64) false ft0 o_1, .pool ft6 o_2 none, .obj [.map 7], .row ft2 (y3), .row ft5 (y4), .map (.int .i64) true ft2 (y5)]) | false => none) | false => none) | false => none) | false => none) | false => none) | false => none) | false => none) | false => none)
 | _, _ => none
def pc6_1037118 (fu : Nat) : Nat -> Option ToldP := fun p => match Nat.beq p 531004623 with | true => some (ghP 0 [.live (bitsM 62 0x380000070000e4e0), .fzP 32 [] ft7, .gc, .ownC 0 2 ft2, .ownC 0 3 ft5, .fzC 0 4 ft1, .gc] (pkP (bitsM 62 0x380000070000e4e0) (t6_531004623 fu))) | false => none
theorem e6_1037118 (fu n : Nat) (R : Type) (K : VExit -> UEnv -> USt -> Option R) (x : List (List D)) (x1 x2 x3 x4 : Int) (w : List (List D)) (w1 : Int) (w2 : Bool) (y y1 : List (D × List D)) (was was1 was2 was3 was4 : Int) (y2 y3 y4 : List (List D)) (y5 : List (D × List D)) :
  F6_1037118 fu x3 was was1 was2 was3 was4 (n + 1) x4 y y1 y2 (fun o_ o_1 o_2 => K .ret (unpackM (bitsM 35 0x7000000f0) [.bool (false), .ptr 0 0, .map 1, .map 2, .fz ft7 (x) false, .int .i64 (x1), .int .i64 (x2)]) [.obj [.pown 3, .ptr 4 0, .own 5, .own 6, .fz ft1 (w) false, .int .i64 (w1), .bool (w2)], .map (.int .i64) false ft0 o_, .map (.int .i64) false ft0 o_1, .pool ft6 o_2 none, .obj [.map 7], .row ft2 (y3), .row ft5 (y4), .map (.int .i64) true ft2 (y5)]) (fun o_ o_1 o_2 => K (.exit 4) (unpackM (bitsM 35 0x7000000e0) [.ptr 0 0, .map 1, .map 2, .fz ft7 (x) false, .int .i64 (x1), .int .i64 (x2)]) [.obj [.pown 3, .ptr 4 0, .own 5, .own 6, .fz ft1 (w) false, .int .i64 (w1), .bool (w2)], .map (.int .i64) false ft0 o_, .map (.int .i64) false ft0 o_1, .pool ft6 o_2 none, .obj [.map 7], .row ft2 (y3), .row ft5 (y4), .map (.int .i64) true ft2 (y5)]) = uexec Try.prog (tb10 fu) 300 (pc6_1037118 fu) 2074236 (loopBody (codeAt code6 1037118)) (unpackM (bitsM 62 0x38000007000004e0) [.ptr 0 0, .map 1, .map 2, .ptr 3 0, .fz ft7 x false, .int .i64 x1, .int .i64 x2, .pown 4, .int .i64 x3, .int .i64 x4]) [.obj [.pown 4, .ptr 5 0, .own 6, .own 7, .fz ft1 w false, .int .i64 w1, .bool w2], .map (.int .i64) false ft0 y, .map (.int .i64) false ft0 y1, .obj [.int .i64 was, .int .i64 was1, .int .i64 was2, .int .i64 was3, .int .i64 was4], .pool ft6 y2 none, .obj [.map 8], .row ft2 y3, .row ft5 y4, .map (.int .i64) true ft2 y5] (loopK 0 [.live (bitsM 62 0x38000007000004e0), .fzP 32 [] ft7, .gc, .ownC 0 2 ft2, .ownC 0 3 ft5, .fzC 0 4 ft1, .gc] [.live (bitsM 35 0x7000000f0), .gc] (pkP (bitsM 62 0x38000007000004e0) (t6_1037118 fu n)) K) := by kernel_rfl
theorem p6_1037118 (fu : Nat) : SoundPc Try.prog 0 code6 (pc6_1037118 fu) := fun p told h b hb => by
 replace h : pc6_1037118 fu p = some told := h
 unfold pc6_1037118 at h
 split at h
 ·rename_i hp
  cases h
  have := Nat.eq_of_beq_eq_true hp
  subst this
  rw [a6_531004623] at hb
  cases hb
  exact ghP_sound (s6_531004623 fu)
 ·
  cases h
theorem s6_1037118 (fu : Nat) : ∀ n, SoundP Try.prog 0 (.loop (loopBody (codeAt code6 1037118))) (pkP (bitsM 62 0x38000007000004e0) (t6_1037118 fu n)) := by
 refine loopP_sound (gin := [.live (bitsM 62 0x38000007000004e0), .fzP 32 [] ft7, .gc, .ownC 0 2 ft2, .ownC 0 3 ft5, .fzC 0 4 ft1, .gc]) (gout := [.live (bitsM 35 0x7000000f0), .gc]) (k := 300) (tb10_sound fu) (p6_1037118 fu) (by decide) a6_1037118 (fun R e s K => ?_) (fun n R e s K r h => ?_)
 ·unfold t6_1037118; repeat' split
  all_goals rfl
 ·unfold t6_1037118 at h; split at h
  case h_2 => cases h
  iterate 8 (split at h; (case h_2 => cases h); rename_i hq; have hq := FT.sames_eq _ _ hq; subst hq)
  exact (e6_1037118 fu n R K _ _ _ _ _ _ _ _ _ _ _ _ _ _ _ _ _ _ _).symm.trans h
def F6_259279 {R : Type} (fu : Nat) (y y1 : List (D × List D)) (was was1 was2 was3 was4 : Int) (y2 : List (List D)) (k0 k1 : (List (D × List D)) -> (List (D × List D)) -> (List (List D)) -> Option R) : Option R :=
 F6_1037118 fu (ofN y2.length) was was1 was2 was3 was4 fu 0 y y1 y2 (fun o_0 o_1 o_2 => (k0 o_0 o_1 o_2)) fun o_3 o_4 o_5 => (k1 o_3 o_4 o_5)
def t6_259279 (fu : Nat) : ToldP := fun _ e s K => match e, s with
 | [.ptr 0 0, .map 1, .map 2, .ptr 3 0, .fz zq0 x false, .int .i64 x1, .int .i64 x2], [.obj [.pown 4, .ptr 5 0, .own 6, .own 7, .fz zq1 w false, .int .i64 w1, .bool w2], .map (.int .i64) false zq2 y, .map (.int .i64) false zq3 y1, .obj [.int .i64 was, .int .i64 was1, .int .i64 was2, .int .i64 was3, .int .i64 was4], .pool zq4 y2 none, .obj [.map 8], .row zq5 y3, .row zq6 y4, .map (.int .i64) true zq7 y5] => (match FT.sames zq0 ft7 with | true => (match FT.sames zq1 ft1 with | true => (match FT.sames zq2 ft0 with | true => (match FT.sames zq3 ft0 with | true => (match FT.sames zq4 ft6 with | true => (match FT.sames zq5 ft2 with | true => (match FT.sames zq6 ft5 with | true => (match FT.sames zq7 ft2 with | true => F6_259279 fu y y1 was was1 was2 was3 was4 y2 (fun o_ o_1 o_2 => K .ret (unpackM (bitsM 35 0x7000000f0) [.bool (false), .ptr 0 0, .map 1, .map 2, .fz ft7 (x) false, .int .i64 (x1), .int .i64 (x2)]) [.obj [.pown 3, .ptr 4 0, .own 5, .own 6, .fz ft1 (w) false, .int .i64 (w1), .bool (w2)], .map (.int .i64) false ft0 o_, .map (.int .i64) false ft0 o_1, .pool ft6 o_2 none, .obj [.map 7], .row ft2 (y3), .row ft5 (y4), .map (.int .i64) true ft2 (y5)]) (fun o_ o_1 o_2 => K .normal (unpackM (bitsM 35 0x7000000e0) [.ptr 0 0, .map 1, .map 2, .fz ft7 (x) false, .int .i64 (x1), .int .i64 (x2)]) [.obj [.pown 3, .ptr 4 0, .own 5, .own 6, .fz ft1 (w) false, .int .i64 (w1), .bool (w2)], .map (.int .i64) false ft0 o_, .map (.int .i64) false ft0 o_1, .pool ft6 o_2 none, .obj [.map 7], .row ft2 (y3), .row ft5 (y4), .map (.int .i64) true ft2 (y5)]) | false => none) | false => none) | false => none) | false => none) | false => none) | false => none) | false => none) | false => none)
 | _, _ => none
def pc6_259279 (fu : Nat) : Nat -> Option ToldP := fun p => match Nat.beq p 1037118 with | true => some (ghP 0 [.live (bitsM 62 0x38000007000004e0), .fzP 32 [] ft7, .gc, .ownC 0 2 ft2, .ownC 0 3 ft5, .fzC 0 4 ft1, .gc] (pkP (bitsM 62 0x38000007000004e0) (t6_1037118 fu fu))) | false => none
theorem e6_259279 (fu : Nat) (R : Type) (K : VExit -> UEnv -> USt -> Option R) (x : List (List D)) (x1 x2 : Int) (w : List (List D)) (w1 : Int) (w2 : Bool) (y y1 : List (D × List D)) (was was1 was2 was3 was4 : Int) (y2 y3 y4 : List (List D)) (y5 : List (D × List D)) :
  F6_259279 fu y y1 was was1 was2 was3 was4 y2 (fun o_ o_1 o_2 => K .ret (unpackM (bitsM 35 0x7000000f0) [.bool (false), .ptr 0 0, .map 1, .map 2, .fz ft7 (x) false, .int .i64 (x1), .int .i64 (x2)]) [.obj [.pown 3, .ptr 4 0, .own 5, .own 6, .fz ft1 (w) false, .int .i64 (w1), .bool (w2)], .map (.int .i64) false ft0 o_, .map (.int .i64) false ft0 o_1, .pool ft6 o_2 none, .obj [.map 7], .row ft2 (y3), .row ft5 (y4), .map (.int .i64) true ft2 (y5)]) (fun o_ o_1 o_2 => K .normal (unpackM (bitsM 35 0x7000000e0) [.ptr 0 0, .map 1, .map 2, .fz ft7 (x) false, .int .i64 (x1), .int .i64 (x2)]) [.obj [.pown 3, .ptr 4 0, .own 5, .own 6, .fz ft1 (w) false, .int .i64 (w1), .bool (w2)], .map (.int .i64) false ft0 o_, .map (.int .i64) false ft0 o_1, .pool ft6 o_2 none, .obj [.map 7], .row ft2 (y3), .row ft5 (y4), .map (.int .i64) true ft2 (y5)]) = uexec Try.prog (tb10 fu) 300 (pc6_259279 fu) 259279 (pieceOf (codeAt code6 259279)) (unpackM (bitsM 35 0x7000004e0) [.ptr 0 0, .map 1, .map 2, .ptr 3 0, .fz ft7 x false, .int .i64 x1, .int .i64 x2]) [.obj [.pown 4, .ptr 5 0, .own 6, .own 7, .fz ft1 w false, .int .i64 w1, .bool w2], .map (.int .i64) false ft0 y, .map (.int .i64) false ft0 y1, .obj [.int .i64 was, .int .i64 was1, .int .i64 was2, .int .i64 was3, .int .i64 was4], .pool ft6 y2 none, .obj [.map 8], .row ft2 y3, .row ft5 y4, .map (.int .i64) true ft2 y5] (ghK 0 [.live (bitsM 35 0x7000000f0), .gc] K) := by kernel_rfl
theorem p6_259279 (fu : Nat) : SoundPc Try.prog 0 code6 (pc6_259279 fu) := fun p told h b hb => by
 replace h : pc6_259279 fu p = some told := h
 unfold pc6_259279 at h
 split at h
 ·rename_i hp
  cases h
  have := Nat.eq_of_beq_eq_true hp
  subst this
  rw [a6_1037118] at hb
  cases hb
  exact ghP_sound (s6_1037118 fu _)
 ·
  cases h
theorem s6_259279 (fu : Nat) : SoundP Try.prog 0 (pieceOf (codeAt code6 259279)) (pkP (bitsM 35 0x7000004e0) (t6_259279 fu)) := by
 refine pieceP_sound (gout := [.live (bitsM 35 0x7000000f0), .gc]) (k := 300) (tb10_sound fu) (p6_259279 fu) (by decide) a6_259279 (fun R e s K r h => ?_)
 unfold t6_259279 at h; split at h
 case h_2 => cases h
 iterate 8 (split at h; (case h_2 => cases h); rename_i hq; have hq := FT.sames_eq _ _ hq; subst hq)
 exact (e6_259279 fu R K _ _ _ _ _ _ _ _ _ _ _ _ _ _ _ _ _).symm.trans h
def F6_506 {R : Type} (fu : Nat) (x : List (List D)) (x1 : Int) : Nat -> Int -> (List (List D)) -> Int -> Bool -> (List (D × List D)) -> (List (D × List D)) -> (List (List D)) -> (List (List D)) -> (List (List D)) -> (List (D × List D)) -> (Option R) -> (Option R) -> Option R
 | 0, _, _, _, _, _, _, _, _, _, _, _, _ => none
 | n + 1, x2, w, w1, w2, y, y1, y2, y3, y4, y5, k0, k1 => bif decide (x2 < x1) then bif within x2 x.length then F6_518554 fu (ofN y2.length) fu 0 0 0 0 0 0 y2 fun o_0 o_1 o_2 o_3 o_4 o_5 => F13 fu [D.int (cell 0 (elem x2.toNat x)).toInt, D.int (cell 1 (elem x2.toNat x)).toInt, D.int (cell 2 (elem x2.toNat x)).toInt] o_5 y3 y4 w w1 w2 y5 (fun o_6 o_7 o_8 o_9 o_10 => F6_259279 fu y y1 o_0 o_1 o_2 o_3 o_4 o_9 (fun o_11 o_12 o_13 => (k0)) fun o_14 o_15 o_16 => (F6_506 fu x x1 n (IntKind.i64.wrap (x2 + 1)) o_6 o_7 o_8 o_14 o_15 o_16 y3 o_10 y5 k0 k1)) (fun o_17 o_18 o_19 o_20 => F6_259279 fu y y1 o_0 o_1 o_2 o_3 o_4 o_19 (fun o_21 o_22 o_23 => (k0)) fun o_24 o_25 o_26 => (F6_506 fu x x1 n (IntKind.i64.wrap (x2 + 1)) o_17 w1 o_18 o_24 o_25 o_26 y3 o_20 y5 k0 k1)) (fun o_27 o_28 o_29 o_30 => F6_259279 fu y y1 o_0 o_1 o_2 o_3 o_4 o_29 (fun o_31 o_32 o_33 => (k0)) fun o_34 o_35 o_36 => (F6_506 fu x x1 n (IntKind.i64.wrap (x2 + 1)) o_27 w1 o_28 o_34 o_35 o_36 y3 y4 o_30 k0 k1)) (fun o_37 o_38 o_39 => F6_259279 fu y y1 o_0 o_1 o_2 o_3 o_4 o_39 (fun o_40 o_41 o_42 => (k0)) fun o_43 o_44 o_45 => (F6_506 fu x x1 n (IntKind.i64.wrap (x2 + 1)) o_37 w1 o_38 o_43 o_44 o_45 y3 y4 y5 k0 k1)) fun o_46 o_47 o_48 o_49 o_50 => F6_259279 fu y y1 o_0 o_1 o_2 o_3 o_4 o_48 (fun o_51 o_52 o_53 => (k0)) fun o_54 o_55 o_56 => (F6_506 fu x x1 n (IntKind.i64.wrap (x2 + 1)) o_46 w1 o_47 o_54 o_55 o_56 o_50 y4 o_49 k0 k1) else none else (k1)
def t6_506 (fu n : Nat) : ToldP := fun _ e s K => match e, s with
 | [.ptr 0 0, .map 1, .map 2, .fz zq0 x false, .int .i64 x1, .int .i64 x2], [.obj [.pown 3, .ptr 4 0, .own 5, .own 6, .fz zq1 w false, .int .i64 w1, .bool w2], .map (.int .i64) false zq2 y, .map (.int .i64) false zq3 y1, .pool zq4 y2 none, .obj [.map 7], .row zq5 y3, .row zq6 y4, .map (.int .i64) true zq7 y5] => (match FT.sames zq0 ft7 with | true => (match FT.sames zq1 ft1 with | true => (match FT.sames zq2 ft0 with | true => (match FT.sames zq3 ft0 with | true => (match FT.sames zq4 ft6 with | true => (match FT.sames zq5 ft2 with | true => (match FT.sames zq6 ft5 with | true => (match FT.sames zq7 ft2 with | true => F6_506 fu x x1 n x2 w w1 w2 y y1 y2 y3 y4 y5 (K .ret (unpackM (bitsM 5 0x10) [.bool (false)]) []) (K (.exit 0) (unpackM (bitsM 5 0x0) []) []) | false => none) | false => none) | false => none) | false => none) | false => none) | false => none) | false => none) | false => none)
 | _, _ => none
def pc6_506 (fu : Nat) : Nat -> Option ToldP := fun p => match Nat.beq p 518554 with | true => some (ghP 0 [.live (bitsM 44 0xe07000006e0), .fzP 32 [] ft7, .gc, .ownC 0 2 ft2, .ownC 0 3 ft5, .fzC 0 4 ft1, .gc] (pkP (bitsM 44 0xe07000006e0) (t6_518554 fu fu))) | false => match Nat.beq p 259279 with | true => some (ghP 0 [.live (bitsM 35 0x7000004e0), .fzP 32 [] ft7, .gc, .ownC 0 2 ft2, .ownC 0 3 ft5, .fzC 0 4 ft1, .gc] (pkP (bitsM 35 0x7000004e0) (t6_259279 fu))) | false => none
theorem e6_506 (fu n : Nat) (R : Type) (K : VExit -> UEnv -> USt -> Option R) (x : List (List D)) (x1 x2 : Int) (w : List (List D)) (w1 : Int) (w2 : Bool) (y y1 : List (D × List D)) (y2 y3 y4 : List (List D)) (y5 : List (D × List D)) :
  F6_506 fu x x1 (n + 1) x2 w w1 w2 y y1 y2 y3 y4 y5 (K .ret (unpackM (bitsM 5 0x10) [.bool (false)]) []) (K (.exit 0) (unpackM (bitsM 5 0x0) []) []) = uexec Try.prog (tb10 fu) 300 (pc6_506 fu) 1012 (loopBody (codeAt code6 506)) (unpackM (bitsM 35 0x7000000e0) [.ptr 0 0, .map 1, .map 2, .fz ft7 x false, .int .i64 x1, .int .i64 x2]) [.obj [.pown 3, .ptr 4 0, .own 5, .own 6, .fz ft1 w false, .int .i64 w1, .bool w2], .map (.int .i64) false ft0 y, .map (.int .i64) false ft0 y1, .pool ft6 y2 none, .obj [.map 7], .row ft2 y3, .row ft5 y4, .map (.int .i64) true ft2 y5] (loopK 0 [.live (bitsM 35 0x7000000e0), .fzP 32 [] ft7, .gc, .ownC 0 2 ft2, .ownC 0 3 ft5, .fzC 0 4 ft1, .gc] [.live (bitsM 5 0x10), .gc] (pkP (bitsM 35 0x7000000e0) (t6_506 fu n)) K) := by kernel_rfl
theorem p6_506 (fu : Nat) : SoundPc Try.prog 0 code6 (pc6_506 fu) := fun p told h b hb => by
 replace h : pc6_506 fu p = some told := h
 unfold pc6_506 at h
 split at h
 ·rename_i hp
  cases h
  have := Nat.eq_of_beq_eq_true hp
  subst this
  rw [a6_518554] at hb
  cases hb
  exact ghP_sound (s6_518554 fu _)
 ·
  split at h
  ·rename_i hp
   cases h
   have := Nat.eq_of_beq_eq_true hp
   subst this
   rw [a6_259279] at hb
   cases hb
   exact ghP_sound (s6_259279 fu)
  ·
   cases h
theorem s6_506 (fu : Nat) : ∀ n, SoundP Try.prog 0 (.loop (loopBody (codeAt code6 506))) (pkP (bitsM 35 0x7000000e0) (t6_506 fu n)) := by
 refine loopP_sound (gin := [.live (bitsM 35 0x7000000e0), .fzP 32 [] ft7, .gc, .ownC 0 2 ft2, .ownC 0 3 ft5, .fzC 0 4 ft1, .gc]) (gout := [.live (bitsM 5 0x10), .gc]) (k := 300) (tb10_sound fu) (p6_506 fu) (by decide) a6_506 (fun R e s K => ?_) (fun n R e s K r h => ?_)
 ·unfold t6_506; repeat' split
  all_goals rfl
 ·unfold t6_506 at h; split at h
  case h_2 => cases h
  iterate 8 (split at h; (case h_2 => cases h); rename_i hq; have hq := FT.sames_eq _ _ hq; subst hq)
  exact (e6_506 fu n R K _ _ _ _ _ _ _ _ _ _ _ _).symm.trans h
def Fb6 {R : Type} (fu : Nat) (n_ : Int) (l : List (List D)) (k0 : Bool -> Option R) : Option R :=
 bif decide (200 < ofN l.length) then F10 fu fun o_0 => (k0 o_0) else F12 fu n_ fun o_1 => F11 fu o_1 ((k0 false)) fun o_2 o_3 o_4 => F6_506 fu l (ofN l.length) fu 0 [] 0 false [] [] o_2 o_3 [] o_4 ((k0 false)) (F10 fu fun o_5 => (k0 o_5))
def F6 {R : Type} := shut (@Fb6 R)
theorem F6_eq {R : Type} (fu : Nat) (n_ : Int) (l : List (List D)) (k0 : Bool -> Option R) : F6 fu n_ l k0 = Fb6 fu n_ l k0 := by unfold F6; rw [shut_eq]
def pc6 (fu : Nat) : Nat -> Option ToldP := fun p => match Nat.beq p 506 with | true => some (ghP 0 [.live (bitsM 35 0x7000000e0), .fzP 32 [] ft7, .gc, .ownC 0 2 ft2, .ownC 0 3 ft5, .fzC 0 4 ft1, .gc] (pkP (bitsM 35 0x7000000e0) (t6_506 fu fu))) | false => none
def t6 (fu : Nat) : ToldF := fun _ args s K => match args, s with
 | [.int .u8 n_, .fz zq0 l false], [] => (match FT.sames zq0 ft7 with | true => F6 fu n_ l (fun o_ => K (.bool o_) []) | false => none)
 | _, _ => none
theorem e6 (R : Type) (K : UV -> USt -> Option R) (fu : Nat) (n_ : Int) (l : List (List D)) :
  F6 fu n_ l (fun o_ => K (.bool o_) []) = ufun Try.prog ⟨(tb10 fu), pc6 fu⟩ 300 6 [.int .u8 n_, .fz ft7 l false] [] (funK 0 [.gc] K) := (F6_eq fu _ _ _).trans (by kernel_rfl)
theorem s6 (fu : Nat) : Tells Try.prog 6 (t6 fu) := by
 refine ufun_sound (T := ⟨(tb10 fu), pc6 fu⟩) (m := 0) (gout := [.gc]) (k := 300) (tb10_sound fu) (fun fn body hf hb => ?_) (fun R args s K r h => ?_) (fun R args s K r h => ?_)
 ·have hc : body = code6 := by
   have h1 : Try.prog.funcs[6]? = some Try.f6 := rfl
   rw [h1] at hf; cases hf
   have h2 : Try.f6.body = some code6 := rfl
   rw [h2] at hb; cases hb; rfl
  subst hc
  exact fun p told h b hb => by
   replace h : pc6 fu p = some told := h
   unfold pc6 at h
   split at h
   ·rename_i hp
    cases h
    have := Nat.eq_of_beq_eq_true hp
    subst this
    rw [a6_506] at hb
    cases hb
    exact ghP_sound (s6_506 fu _)
   ·
    cases h

 ·unfold t6 at h; split at h
  ·rfl
  ·cases h
 ·unfold t6 at h; split at h
  case h_2 => cases h
  split at h
  case h_2 => cases h
  rename_i hq
  have hq := FT.sames_eq _ _ hq
  subst hq
  exact (e6 R K fu _ _).symm.trans h
end Go.Proofs.Ythlbahcggmbfaaa.V
end

namespace Go.Proofs.Ythlbahcggmbfaaa.V
theorem law6 (fu : Nat) (H : ∀ (ds1 ds2 : List D), WFDs [FT.int IntKind.u8] ds1 -> WFDs [FT.row 24 [FT.int IntKind.i64, FT.int IntKind.i64, FT.int IntKind.i64]] ds2 -> F6 fu ((cell 0 ds1).toInt) ((cell 0 ds2).toRows) (fun o => some o) = some true) : Law Try.prog 6 Try.f6.params.toList := by
 refine law_of_told (by kernel_rfl) (by kernel_rfl) seatX_sound (s6 fu) (fun dss hw => ?_)
 have hts : Try.f6.params.toList = [5, 22] := rfl
 rw [hts] at hw
 cases hw with
 | cons t1 ts1 fts1 ds1 dss1 hf1 hd1 hr1 =>
  have e1 : flat Try.prog 20 5 = some [FT.int IntKind.u8] := by kernel_rfl
  rw [e1] at hf1; cases hf1
  cases hr1 with
  | cons t2 ts2 fts2 ds2 dss2 hf2 hd2 hr2 =>
   have e2 : flat Try.prog 20 22 = some [FT.row 24 [FT.int IntKind.i64, FT.int IntKind.i64, FT.int IntKind.i64]] := by kernel_rfl
   rw [e2] at hf2; cases hf2
   cases hr2
   have h1 : t6 fu Bool (argsU Try.prog Try.f6.params.toList [ds1, ds2]) [] boolK = F6 fu ((cell 0 ds1).toInt) ((cell 0 ds2).toRows) (fun o => some o) := by kernel_rfl
   exact h1.trans (H ds1 ds2 hd1 hd2)
end Go.Proofs.Ythlbahcggmbfaaa.V

namespace Go.Proofs.Ythlbahcggmbfaaa.V
theorem wrap_of {x : Int} (h0 : -9223372036854775808 <= x) (h1 : x <= 9223372036854775807) : IntKind.i64.wrap x = x := by
 rw [IntKind.wrap_i64]; omega
theorem wrap_succ {i : Nat} (h : i <= 9223372036854775806) : IntKind.i64.wrap ((i : Int) + 1) = ((i + 1 : Nat) : Int) := by rw [wrap_of (by omega) (by omega)]; rfl
theorem fits_of {n b : Nat} (hn : n <= 1000000) (hb : b <= 1000) : fits n b = true := by
 unfold fits maxBytes
 have : n * b <= 1000000 * 1000 := Nat.mul_le_mul hn hb
 exact decide_eq_true ⟨by omega, by omega⟩
theorem within_of {j n : Nat} (h : j < n) : within (j : Int) n = true := by
 unfold within; exact decide_eq_true ⟨by omega, by omega⟩
theorem within_int {j : Int} {n : Nat} (h0 : 0 <= j) (h : j < n) : within j n = true := by
 unfold within; exact decide_eq_true ⟨h0, by omega⟩
theorem lt_true {a b : Int} (h : a < b) : decide (a < b) = true := decide_eq_true h
theorem lt_false {a b : Int} (h : ¬ a < b) : decide (a < b) = false := decide_eq_false h
theorem le_true {a b : Int} (h : a <= b) : decide (a <= b) = true := decide_eq_true h
theorem le_false {a b : Int} (h : ¬ a <= b) : decide (a <= b) = false := decide_eq_false h
theorem eq_true {a b : Int} (h : a = b) : decide (a = b) = true := decide_eq_true h
theorem eq_false {a b : Int} (h : ¬ a = b) : decide (a = b) = false := decide_eq_false h
theorem strEq_refl (x : ByteArray) : strEq x x = true := by simp [strEq]
theorem elem_mem {i : Nat} {l : List (List D)} (h : i < l.length) : elem i l ∈ l := by
 unfold elem
 rw [List.getD_eq_getElem?_getD, List.getElem?_eq_getElem h]
 exact List.getElem_mem h
theorem WFD.rows {bytes : Nat} {fts : List FT} {d : D} (h : WFD (.row bytes fts) d) : ∀ r ∈ d.toRows, WFDs fts r := by
 cases h with
 | nil => intro r hr; cases hr
 | row _ _ rows hb hl hr =>
  intro r hm
  refine ⟨hl r hm, fun j ft d h1 h2 => hr r hm j ft d h1 h2⟩
theorem WFDs.cell {fts : List FT} {ds : List D} (h : WFDs fts ds) {j : Nat} {ft : FT} (hj : fts[j]? = some ft) : WFD ft (V.cell j ds) := by
 have hlt : j < ds.length := by rw [h.len]; exact (List.getElem?_eq_some_iff.1 hj).1
 have hd := List.getElem?_eq_getElem hlt
 unfold V.cell
 rw [List.getD_eq_getElem?_getD, hd]
 exact h.at_ j ft _ hj hd
end Go.Proofs.Ythlbahcggmbfaaa.V

namespace Go.Proofs.Ythlbahcggmbfaaa.V
variable {R : Type}
def atG (v : Int) : List (List D) -> Nat -> Int
 | [], _ => -1
 | r :: rs, i => if v = (cell 0 r).toInt then (i : Int) else atG v rs (i + 1)
def atL (l : List (List D)) (v : Int) : Int := atG v l 0
theorem atG_range (v : Int) : ∀ (l : List (List D)) (i : Nat), atG v l i = -1 \/ ((i : Int) <= atG v l i /\ atG v l i < i + l.length)
 | [], i => .inl rfl
 | r :: rs, i => by
  unfold atG
  split
  ·right; simp only [List.length_cons]; omega
  ·rcases atG_range v rs (i + 1) with h | h
   ·exact .inl h
   ·right; simp only [List.length_cons]; omega
theorem atL_range (l : List (List D)) (v : Int) : -1 <= atL l v /\ atL l v < l.length := by
 rcases atG_range v l 0 with h | h
 ·unfold atL; omega
 ·unfold atL; omega
theorem index_loop (fu : Nat) (s : List (List D)) (v : Int) (hs : s.length <= 1000000) (k0 : Int -> Option R) (k1 : Option R) : ∀ (n i : Nat), s.length + 1 <= i + n -> i <= s.length ->
  F42_26 fu s v (ofN s.length) n (i : Int) k0 k1 = if atG v (s.drop i) i = -1 then k1 else k0 (atG v (s.drop i) i) := by
 intro n
 induction n with
 | zero => intro i h1 h2; omega
 | succ n ih =>
  intro i h1 h2
  unfold F42_26
  by_cases hi : i < s.length
  ·rw [lt_true (show (i : Int) < ofN s.length by unfold ofN; omega), cond_true, within_of hi, cond_true, Int.toNat_natCast]
   have he : elem i s = s[i] := by unfold elem; rw [List.getD_eq_getElem?_getD, List.getElem?_eq_getElem hi]; rfl
   rw [he, List.drop_eq_getElem_cons hi]
   unfold atG
   by_cases hv : v = (cell 0 s[i]).toInt
   ·rw [eq_true hv, cond_true, if_pos hv, if_neg (by omega)]
   ·rw [eq_false hv, cond_false, if_neg hv, wrap_succ (by omega)]
    exact ih (i + 1) (by omega) (by omega)
  ·rw [lt_false (show ¬ (i : Int) < ofN s.length by unfold ofN; omega), cond_false, List.drop_eq_nil_of_le (by omega)]
   unfold atG
   rw [if_pos rfl]
theorem index_ok (fu : Nat) (s : List (List D)) (v : Int) (hs : s.length <= 1000) (hf : 1001 <= fu) (k : Int -> Option R) : F42 fu s v k = k (atL s v) := by
 rw [F42_eq]
 unfold Fb42
 have := index_loop fu s v (by omega) (fun o => k o) (k (-1)) fu 0 (by omega) (by omega)
 refine this.trans ?_
 rw [List.drop_zero]
 unfold atL
 split
 ·rename_i h; rw [h]
 ·rfl
theorem at_ok (fu : Nat) (c : List D) (v : Int) (hs : (cell 1 c).toRows.length <= 1000) (hf : 1001 <= fu) (k : Int -> Option R) : F22 fu c v k = k (atL (cell 1 c).toRows v) := by
 rw [F22_eq]
 unfold Fb22
 exact index_ok fu _ v hs hf k
def besideL (mem : List (List D)) (v by_ : Int) : Int :=
 if atL mem v < 0 then -1 else if atL mem v + by_ < 0 then -1 else if (mem.length : Int) <= atL mem v + by_ then -1 else (cell 0 (elem (atL mem v + by_).toNat mem)).toInt
theorem beside_ok (fu : Nat) (c : List D) (v by_ : Int) (hb : -10 <= by_ /\ by_ <= 10) (hs : (cell 1 c).toRows.length <= 1000) (hf : 1001 <= fu) (k : Int -> Option R) : F44 fu c v by_ k = k (besideL (cell 1 c).toRows v by_) := by
 rw [F44_eq]
 unfold Fb44
 refine (at_ok fu [D.int (cell 0 c).toInt, D.row (cell 1 c).toRows, D.bool (cell 2 c).toBool] v hs hf _).trans ?_
 have e1 : (cell 1 [D.int (cell 0 c).toInt, D.row (cell 1 c).toRows, D.bool (cell 2 c).toBool]).toRows = (cell 1 c).toRows := rfl
 simp only [e1]
 obtain ⟨r1, r2⟩ := atL_range (cell 1 c).toRows v
 unfold besideL
 by_cases h1 : atL (cell 1 c).toRows v < 0
 ·rw [lt_true h1, cond_true, if_pos h1]
 ·rw [lt_false h1, cond_false, if_neg h1, wrap_of (by omega) (by omega)]
  by_cases h2 : atL (cell 1 c).toRows v + by_ < 0
  ·rw [lt_true h2, cond_true, if_pos h2]
  ·rw [lt_false h2, cond_false, if_neg h2]
   by_cases h3 : ((cell 1 c).toRows.length : Int) <= atL (cell 1 c).toRows v + by_
   ·rw [le_true (show ofN (cell 1 c).toRows.length <= _ from h3), cond_true, if_pos h3]
   ·rw [le_false (show ¬ ofN (cell 1 c).toRows.length <= _ from h3), cond_false, if_neg h3, within_int (by omega) (by omega), cond_true]
structure Rep where
 id : Int
 ep : Int
 mem : List (List D)
 join : Bool
 row : List (List D)
 live : Bool
 commit : Int
 told : Int
 acked : Int
 base : Int
 heard : Bool
 need : Int
def Rep.cells (r : Rep) : List D := [D.int r.id, D.int r.ep, D.row r.mem, D.bool r.join, D.row r.row, D.bool r.live, D.int r.commit, D.int r.told, D.int r.acked, D.int r.base, D.bool r.heard, D.int r.need]
def Rep.next (r : Rep) : Int := besideL r.mem r.id 1
def Rep.before (r : Rep) : Int := besideL r.mem r.id (-1)
def Rep.last (r : Rep) : Bool := decide (0 < r.mem.length) && decide (atL r.mem r.id = (r.mem.length : Int) - 1)
def Rep.tail (r : Rep) : Bool := r.live && r.last
def Rep.head (r : Rep) : Bool := r.live && decide (atL r.mem r.id = 0)
def Rep.complete (r : Rep) : Bool := r.tail && (r.join && (r.heard && decide (r.need <= (r.row.length : Int))))
structure Rep.Ok (r : Rep) (n : Nat) : Prop where
 mem : r.mem.length <= 100
 row : r.row.length <= n
 acked0 : 0 <= r.acked
 acked : r.acked <= n
 commit0 : 0 <= r.commit
 commit : r.commit <= n
 base0 : 0 <= r.base
 base : r.base <= n
section
variable {fu n : Nat} {r : Rep}
theorem next_ok (hf : 1001 <= fu) (hm : r.mem.length <= 1000) (k : Int -> Option R) : F26 fu [D.int r.ep, D.row r.mem, D.bool r.join] r.id k = k r.next := by
 rw [F26_eq]; unfold Fb26; exact beside_ok fu [D.int r.ep, D.row r.mem, D.bool r.join] r.id 1 (by omega) hm hf k
theorem before_ok (hf : 1001 <= fu) (hm : r.mem.length <= 1000) (k : Int -> Option R) : F25 fu [D.int r.ep, D.row r.mem, D.bool r.join] r.id k = k r.before := by
 rw [F25_eq]; unfold Fb25; exact beside_ok fu [D.int r.ep, D.row r.mem, D.bool r.join] r.id (-1) (by omega) hm hf k
theorem last_ok (hf : 1001 <= fu) (hm : r.mem.length <= 1000) (k : Bool -> Option R) : F43 fu r.id r.ep r.mem r.join r.row r.live r.commit r.told r.acked r.base r.heard r.need k = k r.last := by
 rw [F43_eq]
 unfold Fb43
 unfold Rep.last
 by_cases h : 0 < r.mem.length
 ·rw [lt_true (show (0 : Int) < ofN r.mem.length by unfold ofN; omega), cond_true, at_ok fu [D.int r.ep, D.row r.mem, D.bool r.join] r.id hm hf]
  show k (decide (atL r.mem r.id = _)) = _
  rw [wrap_of (by unfold ofN; omega) (by unfold ofN; omega), decide_eq_true h]; rfl
 ·rw [lt_false (show ¬ (0 : Int) < ofN r.mem.length by unfold ofN; omega), cond_false, decide_eq_false h]; rfl
theorem tail_ok (hf : 1001 <= fu) (hm : r.mem.length <= 1000) (k : Bool -> Option R) : F24 fu r.id r.ep r.mem r.join r.row r.live r.commit r.told r.acked r.base r.heard r.need k = k r.tail := by
 rw [F24_eq]
 unfold Fb24
 unfold Rep.tail
 cases hl : r.live with
 | true =>
  rw [cond_true]
  have := last_ok (r := r) hf hm k
  rw [hl] at this
  exact this
 | false => rfl
theorem head_ok (hf : 1001 <= fu) (hm : r.mem.length <= 1000) (k : Bool -> Option R) : F23 fu r.id r.ep r.mem r.join r.row r.live r.commit r.told r.acked r.base r.heard r.need k = k r.head := by
 rw [F23_eq]
 unfold Fb23
 unfold Rep.head
 cases hl : r.live with
 | true => rw [cond_true, at_ok fu [D.int r.ep, D.row r.mem, D.bool r.join] r.id hm hf]; rfl
 | false => rfl
theorem complete_ok (hf : 1001 <= fu) (hm : r.mem.length <= 1000) (k : Bool -> Option R) : F27 fu r.id r.ep r.mem r.join r.row r.live r.commit r.told r.acked r.base r.heard r.need k = k r.complete := by
 rw [F27_eq]
 unfold Fb27
 rw [tail_ok hf hm]
 unfold Rep.complete
 cases r.tail <;> cases r.join <;> cases r.heard <;> rfl
def Rep.pass (r : Rep) (index : Int) (has : Bool) : List (List D) :=
 if r.next < 0 then [] else [[D.int 0, D.int r.id, D.int r.next, D.int r.ep, D.int index, D.int r.base, D.bool has, D.str (if has then (cell 0 (elem index.toNat r.row)).toStr else ByteArray.mk #[])]]
theorem pass_ok (hf : 1001 <= fu) (hm : r.mem.length <= 1000) (index : Int) (has : Bool) (hi : has = true -> 0 <= index /\ index < r.row.length) (k : List (List D) -> Option R) :
  F48 fu index has r.id r.ep r.mem r.join r.row r.live r.commit r.told r.acked r.base r.heard r.need k = k (r.pass index has) := by
 rw [F48_eq]
 unfold Fb48
 rw [next_ok hf hm]
 unfold Rep.pass
 by_cases h : r.next < 0
 ·rw [lt_true h, cond_true, if_pos h]
 ·rw [lt_false h, cond_false, if_neg h]
  cases has with
  | true => rw [cond_true, within_int (hi rfl).1 (hi rfl).2, cond_true]; rfl
  | false => rfl
theorem pass_len (r : Rep) (index : Int) (has : Bool) : (r.pass index has).length <= 1 := by unfold Rep.pass; split <;> simp
def Rep.againG (r : Rep) : Nat -> Int -> List (List D) -> List (List D)
 | 0, _, out => out
 | m + 1, k, out => if k < r.row.length /\ k < r.acked + 8 then r.againG m (k + 1) (out ++ r.pass k true) else out
def Rep.again (r : Rep) : List (List D) :=
 if r.live then (if 0 < (r.againG 9 r.acked []).length then r.againG 9 r.acked [] else r.pass r.row.length false) else []
theorem again_loop (hf : 1001 <= fu) (hr : r.Ok n) (hn : n <= 1000000) (k : List (List D) -> Option R) : ∀ (m fu2 : Nat) (i : Int) (out : List (List D)), m + 1 <= fu2 -> 0 <= i -> i <= r.acked + 8 -> r.acked + 9 <= i + m -> out.length <= 100 -> out.length + m <= 100 ->
  F31_122 fu r.id r.ep r.mem r.join r.row r.live r.commit r.told r.acked r.base r.heard r.need fu2 i out k = k (r.againG m i out) := by
 have ha := hr.acked
 have hrow := hr.row
 intro m
 induction m with
 | zero => intro fu2 i out h1 h2 h3 h4; omega
 | succ m ih =>
  intro fu2 i out h1 h2 h3 h4 h5 h6
  obtain ⟨f2, rfl⟩ : ∃ f2, fu2 = f2 + 1 := ⟨fu2 - 1, by omega⟩
  unfold F31_122 Rep.againG
  rw [wrap_of (x := r.acked + 8) (by have := hr.acked0; omega) (by omega)]
  by_cases hi : i < r.row.length
  ·rw [lt_true (show i < ofN r.row.length by unfold ofN; omega), cond_true]
   by_cases hj : i < r.acked + 8
   ·rw [lt_true hj, cond_true, pass_ok hf (by have := hr.mem; omega) i true (fun _ => ⟨h2, hi⟩), if_pos ⟨hi, hj⟩]
    have hp := pass_len r i true
    rw [fits_of (by omega) (by omega), cond_true, wrap_of (by omega) (by omega)]
    exact ih f2 (i + 1) _ (by omega) (by omega) (by omega) (by omega) (by simp; omega) (by simp; omega)
   ·rw [lt_false hj, cond_false, if_neg (fun h => hj h.2)]
  ·rw [lt_false (show ¬ i < ofN r.row.length by unfold ofN; omega), cond_false, if_neg (fun h => hi h.1)]
theorem againG_len (r : Rep) : ∀ (m : Nat) (i : Int) (out : List (List D)), (r.againG m i out).length <= out.length + m
 | 0, _, out => by simp [Rep.againG]
 | m + 1, i, out => by
  unfold Rep.againG
  split
  ·have h1 := againG_len r m (i + 1) (out ++ r.pass i true)
   have h2 := pass_len r i true
   rw [List.length_append] at h1
   omega
  ·omega
theorem again_len (r : Rep) : r.again.length <= 9 := by
 have h1 := againG_len r 9 r.acked []
 have h2 := pass_len r r.row.length false
 simp only [List.length_nil] at h1
 unfold Rep.again
 split
 ·split <;> omega
 ·simp
theorem again_ok (hf : 1001 <= fu) (hr : r.Ok n) (hn : n <= 1000000) (k : List (List D) -> Option R) : F31 fu r.id r.ep r.mem r.join r.row r.live r.commit r.told r.acked r.base r.heard r.need k = k r.again := by
 rw [F31_eq]
 unfold Fb31
 unfold Rep.again
 cases hl : r.live with
 | false => rfl
 | true =>
  simp only [Bool.not_true, cond_false, if_true]
  have h0 := hr.acked0
  have h1 := again_loop (r := r) hf hr hn (fun o_0 => bif decide (0 < ofN o_0.length) then k o_0 else F48 fu (ofN r.row.length) false r.id r.ep r.mem r.join r.row true r.commit r.told r.acked r.base r.heard r.need fun o_1 => k o_1) 9 fu r.acked [] (by omega) h0 (by omega) (by omega) (by simp) (by simp)
  rw [hl] at h1
  refine h1.trans ?_
  by_cases hp : 0 < (r.againG 9 r.acked []).length
  ·rw [lt_true (show (0 : Int) < ofN (r.againG 9 r.acked []).length by unfold ofN; omega), cond_true, if_pos hp]
  ·rw [lt_false (show ¬ (0 : Int) < ofN (r.againG 9 r.acked []).length by unfold ofN; omega), cond_false, if_neg hp]
   have h2 := pass_ok (r := r) hf (by have := hr.mem; omega) r.row.length false (fun h => by cases h) k
   rw [hl] at h2
   exact h2
end
end Go.Proofs.Ythlbahcggmbfaaa.V

namespace Go.Proofs.Ythlbahcggmbfaaa.V
variable {R : Type}
def Rep.add (r : Rep) (cmd : ByteArray) : Rep × List (List D) :=
 if ({ r with row := r.row ++ [[D.str cmd]] } : Rep).tail then ({ r with row := r.row ++ [[D.str cmd]], commit := ((r.row ++ [[D.str cmd]]).length : Nat) }, [])
 else ({ r with row := r.row ++ [[D.str cmd]] }, ({ r with row := r.row ++ [[D.str cmd]] } : Rep).pass (((r.row ++ [[D.str cmd]]).length : Nat) - 1) true)
def Rep.ack (r : Rep) : List (List D) := if r.before < 0 then [] else [[D.int 1, D.int r.id, D.int r.before, D.int r.ep, D.int r.commit, D.int 0, D.bool false, D.str (ByteArray.mk #[])]]
def Rep.heardOf (r : Rep) (m : List D) : Rep := { r with heard := true, need := if (cell 5 m).toInt > r.need then (cell 5 m).toInt else r.need }
def Rep.passed (r : Rep) (m : List D) : Rep × List (List D) :=
 if (cell 6 m).toBool = true /\ (cell 4 m).toInt = r.row.length then (((r.heardOf m).add (cell 7 m).toStr).1, ((r.heardOf m).add (cell 7 m).toStr).2 ++ ((r.heardOf m).add (cell 7 m).toStr).1.ack)
 else (r.heardOf m, (r.heardOf m).ack)
def Rep.ackedOf (r : Rep) (i : Int) : Int := if (if (r.row.length : Int) < i then (r.row.length : Int) else i) > r.acked then (if (r.row.length : Int) < i then (r.row.length : Int) else i) else r.acked
def Rep.acknowledged (r : Rep) (m : List D) : Rep × List (List D) :=
 if r.ackedOf (cell 4 m).toInt <= r.commit then ({ r with acked := r.ackedOf (cell 4 m).toInt }, [])
 else ({ r with acked := r.ackedOf (cell 4 m).toInt, commit := r.ackedOf (cell 4 m).toInt }, ({ r with acked := r.ackedOf (cell 4 m).toInt, commit := r.ackedOf (cell 4 m).toInt } : Rep).ack)
def Rep.mine (r : Rep) (m : List D) : Bool := r.live && (decide ((cell 2 m).toInt = r.id) && (decide ((cell 3 m).toInt = r.ep) && !decide ((cell 1 m).toInt < 0)))
def Rep.receive (r : Rep) (m : List D) : Rep × List (List D) :=
 if r.mine m then
  if (cell 0 m).toInt = 0 /\ (cell 1 m).toInt = r.before then r.passed m
  else if (cell 0 m).toInt = 1 /\ (cell 1 m).toInt = r.next then r.acknowledged m
  else (r, [])
 else (r, [])
section
variable {fu n : Nat} {r : Rep}
theorem part_all (l : List (List D)) : part l 0 l.length = l := by unfold part; simp
theorem add_ok (hf : 1001 <= fu) (hr : r.Ok n) (hn : n <= 100000) (cmd : ByteArray) (k : List (List D) -> Int -> List (List D) -> Option R) :
  F47 fu cmd r.id r.ep r.mem r.join r.row r.live r.commit r.told r.acked r.base r.heard r.need k = k (r.add cmd).1.row (r.add cmd).1.commit (r.add cmd).2 := by
 have hm := hr.mem
 have hrow := hr.row
 rw [F47_eq]
 unfold Fb47
 have ht := fun k => tail_ok (R := R) (r := { r with row := r.row ++ [[D.str cmd]] }) hf (by show r.mem.length <= 1000; omega) k
 have hp := fun k => pass_ok (R := R) (r := { r with row := r.row ++ [[D.str cmd]] }) hf (by show r.mem.length <= 1000; omega) (((r.row ++ [[D.str cmd]]).length : Nat) - 1) true (fun _ => by
  show _ /\ _ < ((r.row ++ [[D.str cmd]]).length : Int)
  simp only [List.length_append, List.length_cons, List.length_nil]; omega) k
 by_cases h0 : r.row = []
 ·rw [h0] at ht hp
  simp only [h0, List.nil_append] at ht hp ⊢
  unfold Rep.add
  simp only [h0, List.nil_append]
  refine (ht _).trans ?_
  cases ({ r with row := [[D.str cmd]] } : Rep).tail with
  | true => rfl
  | false => exact hp _
 ·have hl : ¬ ofN r.row.length = 0 := by unfold ofN; intro e; exact h0 (List.length_eq_zero_iff.1 (by omega))
  rw [eq_false hl]
  rw [show (false && false) = false from rfl, cond_false]
  have hu : (decide ((0 : Int) <= 0 /\ 0 <= ofN r.row.length) && upTo (ofN r.row.length) r.row.length && decide (ofN r.row.length = ofN r.row.length)) = true := by
   unfold upTo ofN
   simp
  have ep : part r.row 0 (ofN r.row.length).toNat = r.row := by unfold ofN; rw [Int.toNat_natCast, part_all]
  rw [hu, cond_true, ep, fits_of (by omega) (by omega), cond_true]
  refine (ht _).trans ?_
  unfold Rep.add
  cases ({ r with row := r.row ++ [[D.str cmd]] } : Rep).tail with
  | true => rfl
  | false =>
   have : IntKind.i64.wrap (ofN (r.row ++ [[D.str cmd]]).length - 1) = ((r.row ++ [[D.str cmd]]).length : Nat) - 1 := by unfold ofN; exact wrap_of (by simp only [List.length_append, List.length_cons, List.length_nil]; omega) (by simp only [List.length_append, List.length_cons, List.length_nil]; omega)
   simp only [this, cond_false]
   exact hp (fun o_3 => k (r.row ++ [[D.str cmd]]) r.commit o_3)
theorem ack_ok (hf : 1001 <= fu) (hm : r.mem.length <= 1000) (k : List (List D) -> Option R) : F55 fu r.id r.ep r.mem r.join r.row r.live r.commit r.told r.acked r.base r.heard r.need k = k r.ack := by
 rw [F55_eq]
 unfold Fb55
 rw [before_ok hf hm]
 unfold Rep.ack
 by_cases h : r.before < 0
 ·rw [lt_true h, cond_true, if_pos h]
 ·rw [lt_false h, cond_false, if_neg h]
theorem ack_len (r : Rep) : r.ack.length <= 1 := by unfold Rep.ack; split <;> simp
theorem add_len (r : Rep) (cmd : ByteArray) : (r.add cmd).2.length <= 1 := by
 unfold Rep.add
 split
 ·simp
 ·exact pass_len _ _ _
theorem passed_len (r : Rep) (m : List D) : (r.passed m).2.length <= 2 := by
 unfold Rep.passed
 split
 ·have h1 := add_len (r.heardOf m) (cell 7 m).toStr
  have h2 := ack_len ((r.heardOf m).add (cell 7 m).toStr).1
  simp only [List.length_append]; omega
 ·have := ack_len (r.heardOf m); simp only; omega
theorem receive_len (r : Rep) (m : List D) : (r.receive m).2.length <= 2 := by
 unfold Rep.receive
 split
 ·split
  ·exact passed_len r m
  ·split
   ·unfold Rep.acknowledged
    split
    ·simp
    ·have := ack_len ({ r with acked := r.ackedOf (cell 4 m).toInt, commit := r.ackedOf (cell 4 m).toInt } : Rep); simp only; omega
   ·simp
 ·simp
theorem add_same (r : Rep) (cmd : ByteArray) : (r.add cmd).1 = { r with row := r.row ++ [[D.str cmd]], commit := (r.add cmd).1.commit } := by
 unfold Rep.add; split <;> rfl
theorem Rep.Ok.mono (hr : r.Ok n) {m : Nat} (h : n <= m) : r.Ok m :=
 ⟨hr.mem, Nat.le_trans hr.row h, hr.acked0, by have := hr.acked; omega, hr.commit0, by have := hr.commit; omega, hr.base0, by have := hr.base; omega⟩
theorem add_Ok (hr : r.Ok n) (cmd : ByteArray) : (r.add cmd).1.Ok (n + 1) := by
 have h1 := hr.row
 have h2 := hr.commit
 unfold Rep.add
 split
 ·exact ⟨hr.mem, by simp; omega, hr.acked0, by have := hr.acked; simp only; omega, by simp only; omega, by simp; omega, hr.base0, by have := hr.base; simp only; omega⟩
 ·exact ⟨hr.mem, by simp; omega, hr.acked0, by have := hr.acked; simp only; omega, hr.commit0, by simp only; omega, hr.base0, by have := hr.base; simp only; omega⟩
theorem heardOf_Ok (hr : r.Ok n) (m : List D) : (r.heardOf m).Ok n := ⟨hr.mem, hr.row, hr.acked0, hr.acked, hr.commit0, hr.commit, hr.base0, hr.base⟩
theorem ackedOf_range (hr : r.Ok n) (i : Int) : 0 <= r.ackedOf i /\ r.ackedOf i <= n := by
 have h1 := hr.row
 have h2 := hr.acked
 have h3 := hr.acked0
 unfold Rep.ackedOf
 split
 ·split <;> omega
 ·omega
theorem receive_Ok (hr : r.Ok n) (m : List D) : (r.receive m).1.Ok (n + 1) := by
 have up := hr.mono (Nat.le_succ n)
 obtain ⟨h1, h2⟩ := ackedOf_range hr (cell 4 m).toInt
 unfold Rep.receive
 split
 ·split
  ·unfold Rep.passed
   split
   ·exact add_Ok (heardOf_Ok hr m) _
   ·exact heardOf_Ok up m
  ·split
   ·unfold Rep.acknowledged
    split
    ·exact ⟨up.mem, up.row, h1, by simp only; omega, up.commit0, up.commit, up.base0, up.base⟩
    ·exact ⟨up.mem, up.row, h1, by simp only; omega, h1, by simp only; omega, up.base0, up.base⟩
   ·exact up
 ·exact up
theorem passed_no {m : List D} (h : ¬ ((cell 6 m).toBool = true /\ (cell 4 m).toInt = r.row.length)) : r.passed m = (r.heardOf m, (r.heardOf m).ack) := if_neg h
theorem passed_yes {m : List D} (h : (cell 6 m).toBool = true /\ (cell 4 m).toInt = r.row.length) : r.passed m = (((r.heardOf m).add (cell 7 m).toStr).1, ((r.heardOf m).add (cell 7 m).toStr).2 ++ ((r.heardOf m).add (cell 7 m).toStr).1.ack) := if_pos h
theorem passed_ok (hf : 1001 <= fu) (hr : r.Ok n) (hn : n <= 100000) (m : List D) (k : List (List D) -> Int -> Int -> List (List D) -> Option R) :
  F45 fu [D.int (cell 0 m).toInt, D.int (cell 1 m).toInt, D.int (cell 2 m).toInt, D.int (cell 3 m).toInt, D.int (cell 4 m).toInt, D.int (cell 5 m).toInt, D.bool (cell 6 m).toBool, D.str (cell 7 m).toStr] r.id r.ep r.mem r.join r.row r.live r.commit r.told r.acked r.base r.heard r.need k
   = k (r.passed m).1.row (r.passed m).1.commit (r.passed m).1.need (r.passed m).2 := by
 have hm := hr.mem
 rw [F45_eq]
 unfold Fb45
 show (bif (cell 6 m).toBool then bif decide ((cell 4 m).toInt = ofN r.row.length) then _ else _ else _) = _
 have hk := ack_ok (R := R) (r := r.heardOf m) hf (by show r.mem.length <= 1000; omega) (fun o_4 => bif fits o_4.length 72 then k r.row r.commit (r.heardOf m).need o_4 else none)
 have hno : (bif fits ((r.heardOf m).ack).length 72 then k r.row r.commit (r.heardOf m).need (r.heardOf m).ack else none) = k r.row r.commit (r.heardOf m).need (r.heardOf m).ack := by
  have := ack_len (r.heardOf m)
  rw [fits_of (by omega) (by omega), cond_true]
 cases h6 : (cell 6 m).toBool with
 | false =>
  rw [passed_no (by rw [h6]; exact fun h => by cases h.1), cond_false]
  exact hk.trans hno
 | true =>
  rw [cond_true]
  by_cases h4 : (cell 4 m).toInt = r.row.length
  ·rw [eq_true (show (cell 4 m).toInt = ofN r.row.length from h4), cond_true, passed_yes ⟨h6, h4⟩]
   refine (add_ok (R := R) (r := r.heardOf m) hf (heardOf_Ok hr m) hn (cell 7 m).toStr _).trans ?_
   have hs := add_same (r.heardOf m) (cell 7 m).toStr
   have ha := ack_ok (R := R) (r := ((r.heardOf m).add (cell 7 m).toStr).1) hf (by rw [hs]; show r.mem.length <= 1000; omega)
    (fun o_3 => bif fits (((r.heardOf m).add (cell 7 m).toStr).2.length + o_3.length) 72 then k ((r.heardOf m).add (cell 7 m).toStr).1.row ((r.heardOf m).add (cell 7 m).toStr).1.commit (r.heardOf m).need (((r.heardOf m).add (cell 7 m).toStr).2 ++ o_3) else none)
   have e1 : ((r.heardOf m).add (cell 7 m).toStr).1.id = r.id := by rw [hs]; rfl
   have e2 : ((r.heardOf m).add (cell 7 m).toStr).1.ep = r.ep := by rw [hs]; rfl
   have e3 : ((r.heardOf m).add (cell 7 m).toStr).1.mem = r.mem := by rw [hs]; rfl
   have e4 : ((r.heardOf m).add (cell 7 m).toStr).1.join = r.join := by rw [hs]; rfl
   have e5 : ((r.heardOf m).add (cell 7 m).toStr).1.live = r.live := by rw [hs]; rfl
   have e6 : ((r.heardOf m).add (cell 7 m).toStr).1.told = r.told := by rw [hs]; rfl
   have e7 : ((r.heardOf m).add (cell 7 m).toStr).1.acked = r.acked := by rw [hs]; rfl
   have e8 : ((r.heardOf m).add (cell 7 m).toStr).1.base = r.base := by rw [hs]; rfl
   have e9 : ((r.heardOf m).add (cell 7 m).toStr).1.heard = true := by rw [hs]; rfl
   have e10 : ((r.heardOf m).add (cell 7 m).toStr).1.need = (r.heardOf m).need := by rw [hs]
   rw [e1, e2, e3, e4, e5, e6, e7, e8, e9, e10] at ha
   refine ha.trans ?_
   have l1 := ack_len ((r.heardOf m).add (cell 7 m).toStr).1
   have l2 := add_len (r.heardOf m) (cell 7 m).toStr
   rw [fits_of (by omega) (by omega), cond_true, e10]
  ·rw [eq_false (show ¬ (cell 4 m).toInt = ofN r.row.length from h4), cond_false, passed_no (fun h => h4 h.2)]
   exact hk.trans hno
theorem acknowledged_ok (hf : 1001 <= fu) (hr : r.Ok n) (m : List D) (k : Int -> Int -> List (List D) -> Option R) :
  F46 fu [D.int (cell 0 m).toInt, D.int (cell 1 m).toInt, D.int (cell 2 m).toInt, D.int (cell 3 m).toInt, D.int (cell 4 m).toInt, D.int (cell 5 m).toInt, D.bool (cell 6 m).toBool, D.str (cell 7 m).toStr] r.id r.ep r.mem r.join r.row r.live r.commit r.told r.acked r.base r.heard r.need k
   = k (r.acknowledged m).1.commit (r.acknowledged m).1.acked (r.acknowledged m).2 := by
 have hm := hr.mem
 rw [F46_eq]
 unfold Fb46
 show (bif decide (r.ackedOf (cell 4 m).toInt <= r.commit) then k r.commit (r.ackedOf (cell 4 m).toInt) [] else F55 fu r.id r.ep r.mem r.join r.row r.live (r.ackedOf (cell 4 m).toInt) r.told (r.ackedOf (cell 4 m).toInt) r.base r.heard r.need fun o_0 => k (r.ackedOf (cell 4 m).toInt) (r.ackedOf (cell 4 m).toInt) o_0) = _
 unfold Rep.acknowledged
 by_cases h : r.ackedOf (cell 4 m).toInt <= r.commit
 ·rw [le_true h, cond_true, if_pos h]
 ·rw [le_false h, cond_false, if_neg h]
  exact ack_ok (R := R) (r := { r with acked := r.ackedOf (cell 4 m).toInt, commit := r.ackedOf (cell 4 m).toInt }) hf (by show r.mem.length <= 1000; omega) _
end
end Go.Proofs.Ythlbahcggmbfaaa.V

namespace Go.Proofs.Ythlbahcggmbfaaa.V
variable {R : Type}
section
variable {fu n : Nat} {r : Rep}
theorem mine_false {m : List D} (h : r.mine m = false) : r.receive m = (r, []) := by unfold Rep.receive; rw [h]; rfl
theorem receive_ok (hf : 1001 <= fu) (hr : r.Ok n) (hn : n <= 100000) (m : List D) (k : List (List D) -> Int -> Int -> Bool -> Int -> List (List D) -> Option R) :
    F28 fu m r.id r.ep r.mem r.join r.row r.live r.commit r.told r.acked r.base r.heard r.need k
      = k (r.receive m).1.row (r.receive m).1.commit (r.receive m).1.acked (r.receive m).1.heard (r.receive m).1.need (r.receive m).2 := by
  have hm := hr.mem
  have hm2 : r.mem.length <= 1000 := by omega
  rw [F28_eq]
  unfold Fb28
  have no : ∀ q, r.receive m = (r, []) -> q = k r.row r.commit r.acked r.heard r.need [] -> q = k (r.receive m).1.row (r.receive m).1.commit (r.receive m).1.acked (r.receive m).1.heard (r.receive m).1.need (r.receive m).2 := fun q h1 h2 => by rw [h1]; exact h2
  by_cases hl : r.live = true
  · rw [hl]
    simp only [Bool.not_true, cond_false]
    by_cases h2 : (cell 2 m).toInt = r.id
    · rw [eq_true h2]
      simp only [Bool.not_true, cond_false]
      by_cases h3 : (cell 3 m).toInt = r.ep
      · rw [eq_true h3]
        simp only [Bool.not_true, cond_false]
        by_cases h1 : (cell 1 m).toInt < 0
        · rw [lt_true h1, cond_true]
          refine no _ (mine_false ?_) rfl
          unfold Rep.mine; rw [lt_true h1]; simp
        · rw [lt_false h1, cond_false]
          have hmine : r.mine m = true := by unfold Rep.mine; rw [hl, eq_true h2, eq_true h3, lt_false h1]; rfl
          have rec_ : r.receive m = if (cell 0 m).toInt = 0 /\ (cell 1 m).toInt = r.before then r.passed m else if (cell 0 m).toInt = 1 /\ (cell 1 m).toInt = r.next then r.acknowledged m else (r, []) := by
            unfold Rep.receive; rw [hmine]; rfl
          have ackArm : (cell 0 m).toInt = 1 -> ¬ ((cell 0 m).toInt = 0 /\ (cell 1 m).toInt = r.before) -> (F26 fu [D.int r.ep, D.row r.mem, D.bool r.join] r.id fun o_5 => bif decide ((cell 1 m).toInt = o_5) then F46 fu [D.int (cell 0 m).toInt, D.int (cell 1 m).toInt, D.int (cell 2 m).toInt, D.int (cell 3 m).toInt, D.int (cell 4 m).toInt, D.int (cell 5 m).toInt, D.bool (cell 6 m).toBool, D.str (cell 7 m).toStr] r.id r.ep r.mem r.join r.row true r.commit r.told r.acked r.base r.heard r.need fun o_6 o_7 o_8 => (k r.row o_6 o_7 r.heard r.need o_8) else (k r.row r.commit r.acked r.heard r.need [])) = k (r.receive m).1.row (r.receive m).1.commit (r.receive m).1.acked (r.receive m).1.heard (r.receive m).1.need (r.receive m).2 := by
            intro hk hno
            rw [next_ok hf hm2, rec_, if_neg hno]
            by_cases hx : (cell 1 m).toInt = r.next
            · rw [eq_true hx, cond_true, if_pos ⟨hk, hx⟩]
              have := acknowledged_ok (R := R) hf hr m (fun o_6 o_7 o_8 => k r.row o_6 o_7 r.heard r.need o_8)
              rw [hl] at this
              refine this.trans ?_
              unfold Rep.acknowledged
              split <;> rfl
            · rw [eq_false hx, cond_false, if_neg (fun h => hx h.2)]
          by_cases h0 : (cell 0 m).toInt = 0
          · rw [eq_true h0, cond_true, before_ok hf hm2]
            by_cases hb : (cell 1 m).toInt = r.before
            · rw [eq_true hb, cond_true, rec_, if_pos ⟨h0, hb⟩]
              have := passed_ok (R := R) hf hr hn m (fun o_1 o_2 o_3 o_4 => k o_1 o_2 r.acked true o_3 o_4)
              rw [hl] at this
              refine this.trans ?_
              have e1 : (r.passed m).1.acked = r.acked /\ (r.passed m).1.heard = true := by
                unfold Rep.passed
                split
                · rw [add_same]; exact ⟨rfl, rfl⟩
                · exact ⟨rfl, rfl⟩
              rw [e1.1, e1.2]
            · rw [eq_false hb, cond_false]
              by_cases hk : (cell 0 m).toInt = 1
              · omega
              · rw [eq_false hk, cond_false, rec_, if_neg (fun h => hb h.2), if_neg (fun h => hk h.1)]
          · rw [eq_false h0, cond_false]
            by_cases hk : (cell 0 m).toInt = 1
            · rw [eq_true hk, cond_true]
              exact ackArm hk (fun h => h0 h.1)
            · rw [eq_false hk, cond_false, rec_, if_neg (fun h => h0 h.1), if_neg (fun h => hk h.1)]
      · rw [eq_false h3]
        simp only [Bool.not_false, cond_true]
        refine no _ (mine_false ?_) rfl
        unfold Rep.mine; rw [eq_false h3]; simp
    · rw [eq_false h2]
      simp only [Bool.not_false, cond_true]
      refine no _ (mine_false ?_) rfl
      unfold Rep.mine; rw [eq_false h2]; simp
  · have hl : r.live = false := by simpa using hl
    rw [hl]
    simp only [Bool.not_false, cond_true]
    refine no _ (mine_false ?_) rfl
    unfold Rep.mine; rw [hl]; rfl
def Rep.order (r : Rep) (cmd : ByteArray) : Rep × List (List D) := if r.head then r.add cmd else (r, [])
theorem order_ok (hf : 1001 <= fu) (hr : r.Ok n) (hn : n <= 100000) (cmd : ByteArray) (k : Int -> Int -> List (List D) -> Int -> List (List D) -> Option R) :
    F30 fu cmd r.id r.ep r.mem r.join r.row r.live r.commit r.told r.acked r.base r.heard r.need k
      = if r.head then k (r.order cmd).1.row.length 0 (r.order cmd).1.row (r.order cmd).1.commit (r.order cmd).2 else k 0 10 r.row r.commit [] := by
  have hm := hr.mem
  rw [F30_eq]
  unfold Fb30
  rw [head_ok hf (by omega)]
  unfold Rep.order
  cases r.head with
  | false => rfl
  | true =>
    simp only [Bool.not_true, cond_false, if_true]
    exact add_ok (R := R) hf hr hn cmd (fun o_1 o_2 o_3 => k (ofN o_1.length) 0 o_1 o_2 o_3)
def Rep.adopt1 (r : Rep) (c : List D) : Rep :=
  if r.ep < (cell 0 c).toInt then
    (if ({ r with ep := (cell 0 c).toInt, mem := (cell 1 c).toRows, join := (cell 2 c).toBool } : Rep).last && (cell 2 c).toBool
     then { r with ep := (cell 0 c).toInt, mem := (cell 1 c).toRows, join := (cell 2 c).toBool, row := [], commit := 0, told := 0 }
     else { r with ep := (cell 0 c).toInt, mem := (cell 1 c).toRows, join := (cell 2 c).toBool })
  else { r with join := r.join && (cell 2 c).toBool }
def Rep.adopt2 (r : Rep) : Rep := { r with live := decide (0 <= atL r.mem r.id) }
def Rep.adopt3 (r : Rep) : Rep := if r.tail then { r with commit := (r.row.length : Nat) } else r
def Rep.adopt4 (r : Rep) (was : Bool) : Rep := if was then r else { r with acked := 0, base := (r.row.length : Nat), heard := false, need := 0 }
def Rep.adopt (r : Rep) (c : List D) : Rep × List (List D) :=
  if (cell 0 c).toInt < r.ep then (r, [])
  else if (r.adopt1 c).adopt2.live then (((r.adopt1 c).adopt2.adopt3.adopt4 (r.live && decide ((cell 0 c).toInt = r.ep))), ((r.adopt1 c).adopt2.adopt3.adopt4 (r.live && decide ((cell 0 c).toInt = r.ep))).again)
  else ((r.adopt1 c).adopt2, [])
theorem adopt_511 (hf : 1001 <= fu) (hr : r.Ok n) (hn : n <= 100000) (was : Bool) (k : Int -> Int -> Bool -> Int -> List (List D) -> Option R) :
    F32_511 fu was r.id r.ep r.mem r.join r.row r.live r.commit r.told r.acked r.base r.heard r.need k = k (r.adopt4 was).acked (r.adopt4 was).base (r.adopt4 was).heard (r.adopt4 was).need (r.adopt4 was).again := by
  unfold F32_511
  cases was with
  | true =>
    simp only [Bool.not_true, cond_false]
    exact again_ok (R := R) hf hr (by omega) (fun o => k r.acked r.base r.heard r.need o)
  | false =>
    simp only [Bool.not_false, cond_true]
    have h1 := hr.row
    exact again_ok (R := R) (r := { r with acked := 0, base := (r.row.length : Nat), heard := false, need := 0 }) (n := n) hf ⟨hr.mem, hr.row, by simp only; omega, by simp only; omega, hr.commit0, hr.commit, by simp only; omega, by simp only; omega⟩ (by omega) (fun o => k 0 (ofN r.row.length) false 0 o)
theorem adopt3_Ok (hr : r.Ok n) : r.adopt3.Ok n := by
  have h1 := hr.row
  unfold Rep.adopt3
  split
  · exact ⟨hr.mem, hr.row, hr.acked0, hr.acked, by simp only; omega, by simp only; omega, hr.base0, hr.base⟩
  · exact hr
theorem adopt4_Ok (hr : r.Ok n) (was : Bool) : (r.adopt4 was).Ok n := by
  have h1 := hr.row
  unfold Rep.adopt4
  split
  · exact hr
  · exact ⟨hr.mem, hr.row, by simp only; omega, by simp only; omega, hr.commit0, hr.commit, by simp only; omega, by simp only; omega⟩
theorem adopt2_Ok (hr : r.Ok n) : r.adopt2.Ok n := ⟨hr.mem, hr.row, hr.acked0, hr.acked, hr.commit0, hr.commit, hr.base0, hr.base⟩
theorem adopt1_Ok (hr : r.Ok n) {c : List D} (hc : (cell 1 c).toRows.length <= 100) : (r.adopt1 c).Ok n := by
  unfold Rep.adopt1
  split
  · split
    · exact ⟨hc, Nat.zero_le _, hr.acked0, hr.acked, Int.le_refl _, by simp only; omega, hr.base0, hr.base⟩
    · exact ⟨hc, hr.row, hr.acked0, hr.acked, hr.commit0, hr.commit, hr.base0, hr.base⟩
  · exact ⟨hr.mem, hr.row, hr.acked0, hr.acked, hr.commit0, hr.commit, hr.base0, hr.base⟩
theorem adopt_63 (hf : 1001 <= fu) (hr : r.Ok n) (hn : n <= 100000) (was : Bool) (k : Bool -> Int -> Int -> Int -> Bool -> Int -> List (List D) -> Option R) :
    F32_63 fu was r.id r.ep r.mem r.join r.row r.commit r.told r.acked r.base r.heard r.need k
      = if r.adopt2.live then k true (r.adopt2.adopt3.adopt4 was).commit (r.adopt2.adopt3.adopt4 was).acked (r.adopt2.adopt3.adopt4 was).base (r.adopt2.adopt3.adopt4 was).heard (r.adopt2.adopt3.adopt4 was).need (r.adopt2.adopt3.adopt4 was).again
        else k false r.commit r.acked r.base r.heard r.need [] := by
  have hm := hr.mem
  unfold F32_63
  refine (at_ok fu [D.int r.ep, D.row r.mem, D.bool r.join] r.id (by show r.mem.length <= 1000; omega) hf _).trans ?_
  have e1 : (cell 1 [D.int r.ep, D.row r.mem, D.bool r.join]).toRows = r.mem := rfl
  simp only [e1]
  have hl2 : r.adopt2.live = decide (0 <= atL r.mem r.id) := rfl
  by_cases h : 0 <= atL r.mem r.id
  · rw [le_true h]
    simp only [Bool.not_true, cond_false]
    rw [if_pos (by rw [hl2, le_true h])]
    have hr2 := adopt2_Ok hr
    have ht := fun k => tail_ok (R := R) (r := r.adopt2) hf (by show r.mem.length <= 1000; omega) k
    have e2 : ∀ k, F24 (R := R) fu r.id r.ep r.mem r.join r.row true r.commit r.told r.acked r.base r.heard r.need k = k r.adopt2.tail := fun k => by
      have := ht k
      rw [hl2, le_true h] at this
      exact this
    rw [e2]
    unfold Rep.adopt3
    have hc := hr.row
    cases ht2 : r.adopt2.tail with
    | true =>
      rw [cond_true]
      simp only [if_true]
      have := adopt_511 (R := R) (r := { r.adopt2 with commit := (r.row.length : Nat) }) (n := n) hf ⟨hr2.mem, hr2.row, hr2.acked0, hr2.acked, by simp only; omega, by simp only; omega, hr2.base0, hr2.base⟩ hn was (fun o_2 o_3 o_4 o_5 o_6 => k true (ofN r.row.length) o_2 o_3 o_4 o_5 o_6)
      have e : ({ r.adopt2 with commit := (r.row.length : Nat) } : Rep).live = true := by show r.adopt2.live = true; rw [hl2, le_true h]
      rw [e] at this
      refine this.trans ?_
      have e3 : (({ r.adopt2 with commit := (r.adopt2.row.length : Nat) } : Rep).adopt4 was).commit = ofN r.row.length := by unfold Rep.adopt4; split <;> rfl
      rw [e3]; rfl
    | false =>
      rw [cond_false]
      simp only [Bool.false_eq_true, if_false]
      have := adopt_511 (R := R) (r := r.adopt2) hf hr2 hn was (fun o_7 o_8 o_9 o_10 o_11 => k true r.commit o_7 o_8 o_9 o_10 o_11)
      rw [hl2, le_true h] at this
      refine this.trans ?_
      have e3 : (r.adopt2.adopt4 was).commit = r.commit := by unfold Rep.adopt4; split <;> rfl
      rw [e3]
  · rw [le_false h]
    simp only [Bool.not_false, cond_true]
    rw [if_neg (by rw [hl2, le_false h]; simp)]
theorem adopt_15 (hf : 1001 <= fu) (hr : r.Ok n) (hn : n <= 100000) (was : Bool) (c : List D) (hc : (cell 1 c).toRows.length <= 100) (k : Int -> List (List D) -> Bool -> List (List D) -> Bool -> Int -> Int -> Int -> Int -> Bool -> Int -> List (List D) -> Option R) :
    F32_15 fu was r.id r.ep r.mem r.join r.row r.live r.commit r.told r.acked r.base r.heard r.need (cell 0 c).toInt (cell 1 c).toRows (cell 2 c).toBool k
      = if (r.adopt1 c).adopt2.live then k (r.adopt1 c).ep (r.adopt1 c).mem (r.adopt1 c).join (r.adopt1 c).row true ((r.adopt1 c).adopt2.adopt3.adopt4 was).commit (r.adopt1 c).told ((r.adopt1 c).adopt2.adopt3.adopt4 was).acked ((r.adopt1 c).adopt2.adopt3.adopt4 was).base ((r.adopt1 c).adopt2.adopt3.adopt4 was).heard ((r.adopt1 c).adopt2.adopt3.adopt4 was).need ((r.adopt1 c).adopt2.adopt3.adopt4 was).again
        else k (r.adopt1 c).ep (r.adopt1 c).mem (r.adopt1 c).join (r.adopt1 c).row false (r.adopt1 c).commit (r.adopt1 c).told (r.adopt1 c).acked (r.adopt1 c).base (r.adopt1 c).heard (r.adopt1 c).need [] := by
  have hm := hr.mem
  have h1 := adopt1_Ok hr hc
  have fin := adopt_63 (R := R) (r := r.adopt1 c) hf h1 hn was (fun o_5 o_6 o_7 o_8 o_9 o_10 o_11 => k (r.adopt1 c).ep (r.adopt1 c).mem (r.adopt1 c).join (r.adopt1 c).row o_5 o_6 (r.adopt1 c).told o_7 o_8 o_9 o_10 o_11)
  refine Eq.trans ?_ (fin.trans ?_)
  · unfold F32_15
    by_cases hep : r.ep < (cell 0 c).toInt
    · rw [lt_true hep, cond_true]
      rw [F41_eq]
      unfold Fb41
      have e1 : (cell 1 [D.int (cell 0 c).toInt, D.row (cell 1 c).toRows, D.bool (cell 2 c).toBool]).toRows = (cell 1 c).toRows := rfl
      have e0 : (cell 0 [D.int (cell 0 c).toInt, D.row (cell 1 c).toRows, D.bool (cell 2 c).toBool]).toInt = (cell 0 c).toInt := rfl
      have e2 : (cell 2 [D.int (cell 0 c).toInt, D.row (cell 1 c).toRows, D.bool (cell 2 c).toBool]).toBool = (cell 2 c).toBool := rfl
      simp only [e0, e1, e2]
      rw [fits_of (by omega) (by omega), cond_true]
      refine (last_ok (R := R) (r := { r with ep := (cell 0 c).toInt, mem := (cell 1 c).toRows, join := (cell 2 c).toBool }) hf (by simp only; omega) _).trans ?_
      unfold Rep.adopt1
      rw [if_pos hep]
      cases hlast : ({ r with ep := (cell 0 c).toInt, mem := (cell 1 c).toRows, join := (cell 2 c).toBool } : Rep).last with
      | true =>
        cases hj : (cell 2 c).toBool with
        | true => rfl
        | false => rfl
      | false =>
        cases hj : (cell 2 c).toBool with
        | true => rfl
        | false => rfl
    · rw [lt_false hep, cond_false]
      unfold Rep.adopt1
      rw [if_neg hep]
      cases hj : r.join with
      | true => cases (cell 2 c).toBool <;> rfl
      | false => rfl
  · split <;> rfl
theorem adopt_ok (hf : 1001 <= fu) (hr : r.Ok n) (hn : n <= 100000) (c : List D) (hc : (cell 1 c).toRows.length <= 100) (k : Int -> List (List D) -> Bool -> List (List D) -> Bool -> Int -> Int -> Int -> Int -> Bool -> Int -> List (List D) -> Option R) :
    F32 fu c r.id r.ep r.mem r.join r.row r.live r.commit r.told r.acked r.base r.heard r.need k
      = k (r.adopt c).1.ep (r.adopt c).1.mem (r.adopt c).1.join (r.adopt c).1.row (r.adopt c).1.live (r.adopt c).1.commit (r.adopt c).1.told (r.adopt c).1.acked (r.adopt c).1.base (r.adopt c).1.heard (r.adopt c).1.need (r.adopt c).2 := by
  rw [F32_eq]
  unfold Fb32 Rep.adopt
  by_cases h : (cell 0 c).toInt < r.ep
  · rw [lt_true h, cond_true, if_pos h]
  · rw [lt_false h, cond_false, if_neg h]
    have key : ∀ was, was = (r.live && decide ((cell 0 c).toInt = r.ep)) -> F32_15 fu was r.id r.ep r.mem r.join r.row r.live r.commit r.told r.acked r.base r.heard r.need (cell 0 c).toInt (cell 1 c).toRows (cell 2 c).toBool k = _ := fun was hw => by
      subst hw
      exact adopt_15 hf hr hn _ c hc k
    have same : ∀ (q : Rep) (w : Bool), (q.adopt2.adopt3.adopt4 w).ep = q.ep /\ (q.adopt2.adopt3.adopt4 w).mem = q.mem /\ (q.adopt2.adopt3.adopt4 w).join = q.join /\ (q.adopt2.adopt3.adopt4 w).row = q.row /\ (q.adopt2.adopt3.adopt4 w).live = q.adopt2.live /\ (q.adopt2.adopt3.adopt4 w).told = q.told := fun q w => by
      unfold Rep.adopt4 Rep.adopt3
      split <;> split <;> exact ⟨rfl, rfl, rfl, rfl, rfl, rfl⟩
    have fin : (if (r.adopt1 c).adopt2.live then k (r.adopt1 c).ep (r.adopt1 c).mem (r.adopt1 c).join (r.adopt1 c).row true ((r.adopt1 c).adopt2.adopt3.adopt4 (r.live && decide ((cell 0 c).toInt = r.ep))).commit (r.adopt1 c).told ((r.adopt1 c).adopt2.adopt3.adopt4 (r.live && decide ((cell 0 c).toInt = r.ep))).acked ((r.adopt1 c).adopt2.adopt3.adopt4 (r.live && decide ((cell 0 c).toInt = r.ep))).base ((r.adopt1 c).adopt2.adopt3.adopt4 (r.live && decide ((cell 0 c).toInt = r.ep))).heard ((r.adopt1 c).adopt2.adopt3.adopt4 (r.live && decide ((cell 0 c).toInt = r.ep))).need ((r.adopt1 c).adopt2.adopt3.adopt4 (r.live && decide ((cell 0 c).toInt = r.ep))).again
        else k (r.adopt1 c).ep (r.adopt1 c).mem (r.adopt1 c).join (r.adopt1 c).row false (r.adopt1 c).commit (r.adopt1 c).told (r.adopt1 c).acked (r.adopt1 c).base (r.adopt1 c).heard (r.adopt1 c).need []) =
        (fun (p : Rep × List (List D)) => k p.1.ep p.1.mem p.1.join p.1.row p.1.live p.1.commit p.1.told p.1.acked p.1.base p.1.heard p.1.need p.2) (if (r.adopt1 c).adopt2.live then (((r.adopt1 c).adopt2.adopt3.adopt4 (r.live && decide ((cell 0 c).toInt = r.ep))), ((r.adopt1 c).adopt2.adopt3.adopt4 (r.live && decide ((cell 0 c).toInt = r.ep))).again) else ((r.adopt1 c).adopt2, [])) := by
      obtain ⟨a1, a2, a3, a4, a5, a6⟩ := same (r.adopt1 c) (r.live && decide ((cell 0 c).toInt = r.ep))
      by_cases hl : (r.adopt1 c).adopt2.live = true
      · rw [if_pos hl, if_pos hl]
        simp only [a1, a2, a3, a4, a5, a6, hl]
      · have hl2 : (r.adopt1 c).adopt2.live = false := by simpa using hl
        rw [if_neg hl, if_neg hl]
        show _ = k (r.adopt1 c).adopt2.ep (r.adopt1 c).adopt2.mem (r.adopt1 c).adopt2.join (r.adopt1 c).adopt2.row (r.adopt1 c).adopt2.live (r.adopt1 c).adopt2.commit (r.adopt1 c).adopt2.told (r.adopt1 c).adopt2.acked (r.adopt1 c).adopt2.base (r.adopt1 c).adopt2.heard (r.adopt1 c).adopt2.need []
        rw [hl2]; rfl
    refine Eq.trans ?_ fin
    cases hl : r.live with
    | true =>
      rw [cond_true]
      have := key (decide ((cell 0 c).toInt = r.ep)) (by rw [hl]; rfl)
      rw [hl] at this
      exact this
    | false =>
      rw [cond_false]
      have := key false (by rw [hl]; rfl)
      rw [hl] at this
      exact this
theorem adopt_Ok (hr : r.Ok n) {c : List D} (hc : (cell 1 c).toRows.length <= 100) : (r.adopt c).1.Ok n := by
  unfold Rep.adopt
  split
  · exact hr
  · split
    · exact adopt4_Ok (adopt3_Ok (adopt2_Ok (adopt1_Ok hr hc))) _
    · exact adopt2_Ok (adopt1_Ok hr hc)
theorem adopt_len (r : Rep) (c : List D) : (r.adopt c).2.length <= 9 := by
  unfold Rep.adopt
  split
  · simp
  · split
    · exact again_len _
    · simp
end
end Go.Proofs.Ythlbahcggmbfaaa.V

namespace Go.Proofs.Ythlbahcggmbfaaa.V
variable {R : Type}
structure Cf where
 e : Int
 m : List (List D)
 j : Bool
def Cf.d (c : Cf) : List D := [D.int c.e, D.row c.m, D.bool c.j]
def Cf.tab (c : Cf) : List (D × List D) := [(D.int 0, c.d)]
theorem cd0 (c : Cf) : (cell 0 c.d).toInt = c.e := of_eq_true (eq_self _)
theorem cd1 (c : Cf) : (cell 1 c.d).toRows = c.m := of_eq_true (eq_self _)
theorem cd2 (c : Cf) : (cell 2 c.d).toBool = c.j := of_eq_true (eq_self _)
theorem get_tab (c : Cf) (z : List D) : mget c.tab (D.int 0) z = c.d := of_eq_true (eq_self _)
theorem has_tab (c : Cf) : mhas c.tab (D.int 0) = true := of_eq_true (eq_self _)
theorem put_tab (c : Cf) (v : List D) : mput c.tab (D.int 0) v = [(D.int 0, v)] := of_eq_true (eq_self _)
theorem or0 (kd sh ep nd : Int) (mb : List (List D)) : (cell 0 [D.int kd, D.int sh, D.int ep, D.int nd, D.row mb]).toInt = kd := of_eq_true (eq_self _)
theorem or1 (kd sh ep nd : Int) (mb : List (List D)) : (cell 1 [D.int kd, D.int sh, D.int ep, D.int nd, D.row mb]).toInt = sh := of_eq_true (eq_self _)
theorem or2 (kd sh ep nd : Int) (mb : List (List D)) : (cell 2 [D.int kd, D.int sh, D.int ep, D.int nd, D.row mb]).toInt = ep := of_eq_true (eq_self _)
theorem or3 (kd sh ep nd : Int) (mb : List (List D)) : (cell 3 [D.int kd, D.int sh, D.int ep, D.int nd, D.row mb]).toInt = nd := of_eq_true (eq_self _)
def Cf.drop (c : Cf) (nd : Int) : Int × Cf :=
 if atL c.m nd < 0 then (6, c)
 else if (c.j && decide (atL c.m nd = (c.m.length : Int) - 1)) = false /\ (if c.j then (c.m.length : Int) - 1 else c.m.length) < 2 then (9, c)
 else (0, ⟨IntKind.i64.wrap (c.e + 1), delAt c.m (atL c.m nd).toNat ((atL c.m nd).toNat + 1), c.j && !decide (atL c.m nd = (c.m.length : Int) - 1)⟩)
def Cf.join (c : Cf) (nd : Int) : Int × Cf :=
 if ¬ (0 <= nd /\ nd < 100) then (1, c)
 else if 0 <= atL c.m nd then (7, c)
 else if c.j = true then (9, c)
 else if 7 <= c.m.length then (9, c)
 else (0, ⟨IntKind.i64.wrap (c.e + 1), c.m ++ [[D.int nd]], true⟩)
def Cf.full (c : Cf) (nd : Int) : Int × Cf :=
 if c.j = false then (9, c)
 else if ¬ atL c.m nd = (c.m.length : Int) - 1 then (9, c)
 else (0, ⟨c.e, c.m, false⟩)
def Cf.order (c : Cf) (kd ep nd : Int) : Int × Cf :=
 if kd = 1 \/ kd = 2 \/ kd = 3 then
  if ¬ c.e = ep then (11, c)
  else if kd = 1 then c.drop nd
  else if kd = 2 then c.join nd
  else c.full nd
 else (if kd = 0 then 7 else 1, c)
theorem node_ok (fu : Nat) (n : Int) (k : Bool -> Option R) : F59 fu n k = k (decide (0 <= n /\ n < 100)) := by
 rw [F59_eq]
 unfold Fb59
 by_cases h : 0 <= n
 ·rw [le_true h, cond_true]
  by_cases h2 : n < 100
  ·rw [lt_true h2, decide_eq_true ⟨h, h2⟩]
  ·rw [lt_false h2, decide_eq_false (fun q => h2 q.2)]
 ·rw [le_false h, cond_false, decide_eq_false (fun q => h q.1)]
theorem del_fine {m : List (List D)} {k : Int} (h0 : 0 <= k) (h1 : k < m.length) (hm : m.length <= 1000) : delOK m k (IntKind.i64.wrap (k + 1)) = true /\ (IntKind.i64.wrap (k + 1)).toNat = k.toNat + 1 := by
 rw [wrap_of (x := k + 1) (by omega) (by omega)]
 refine ⟨?_, by omega⟩
 unfold delOK upTo
 rw [Bool.and_eq_true]
 exact ⟨decide_eq_true ⟨h0, by omega⟩, decide_eq_true ⟨by omega, by omega⟩⟩
theorem drop_arm {k0 : Int -> List (D × List D) -> Option R} {c : Cf} {nd : Int} (hm : c.m.length <= 100) (hk : ¬ atL c.m nd < 0) (jn : Bool) (hjn : jn = (c.j && !decide (atL c.m nd = (c.m.length : Int) - 1))) :
  (bif delOK c.m (atL c.m nd) (IntKind.i64.wrap (atL c.m nd + 1)) then k0 0 [(D.int 0, [D.int (IntKind.i64.wrap (c.e + 1)), D.row (delAt c.m (atL c.m nd).toNat (IntKind.i64.wrap (atL c.m nd + 1)).toNat), D.bool jn])] else none)
   = k0 0 (⟨IntKind.i64.wrap (c.e + 1), delAt c.m (atL c.m nd).toNat ((atL c.m nd).toNat + 1), c.j && !decide (atL c.m nd = (c.m.length : Int) - 1)⟩ : Cf).tab := by
 obtain ⟨r1, r2⟩ := atL_range c.m nd
 obtain ⟨d1, d2⟩ := del_fine (m := c.m) (k := atL c.m nd) (by omega) r2 (by omega)
 rw [d1, d2, cond_true, hjn]; rfl
theorem do_ok (fu : Nat) (hf : 1001 <= fu) (c : Cf) (hm : c.m.length <= 100) (kd ep nd : Int) (k0 : Int -> List (D × List D) -> Option R) :
  F35v fu [D.int kd, D.int 0, D.int ep, D.int nd, D.row []] c.tab k0 = k0 (c.order kd ep nd).1 (c.order kd ep nd).2.tab := by
 rw [F35v_eq]
 unfold Fb35v
 have hat : ∀ (k : Int -> Option R), F22 fu [D.int c.e, D.row c.m, D.bool c.j] nd k = k (atL c.m nd) := fun k => at_ok fu [D.int c.e, D.row c.m, D.bool c.j] nd (by show c.m.length <= 1000; omega) hf k
 obtain ⟨r1, r2⟩ := atL_range c.m nd
 have hw : IntKind.i64.wrap (ofN c.m.length - 1) = (c.m.length : Int) - 1 := by unfold ofN; exact wrap_of (by omega) (by omega)
 simp only [or0, or1, or2, or3, get_tab, has_tab, put_tab, cd0, cd1, cd2, hat, hw, node_ok, Bool.not_true, cond_false]
 unfold Cf.order
 by_cases h1 : kd < 0
 ·rw [lt_true h1, cond_true, if_neg (by omega), if_neg (by omega)]
 ·rw [lt_false h1, cond_false]
  by_cases h2 : 3 < kd
  ·rw [lt_true h2, cond_true, if_neg (by omega), if_neg (by omega)]
  ·rw [lt_false h2, cond_false, lt_false (show ¬ (0 : Int) < 0 by omega), cond_false, le_false (show ¬ (10 : Int) <= 0 by omega), cond_false]
   by_cases h3 : kd = 0
   ·rw [eq_true h3, cond_true, cond_true, if_neg (by omega), if_pos h3]
   ·rw [eq_false h3, cond_false, fits_of (by omega) (by omega), cond_true, if_pos (by omega)]
    by_cases he : c.e = ep
    ·rw [eq_true he]
     simp only [Bool.not_true, cond_false]
     rw [if_neg (fun h => h he)]
     by_cases k1 : kd = 1
     ·rw [eq_true k1, cond_true, if_pos k1]
      unfold Cf.drop
      by_cases hk : atL c.m nd < 0
      ·rw [lt_true hk, cond_true, if_pos hk]
      ·rw [lt_false hk, cond_false, if_neg hk]
       cases hj : c.j with
       | true =>
        simp only [cond_true, cond_false, Bool.true_and]
        by_cases hl : atL c.m nd = (c.m.length : Int) - 1
        ·rw [eq_true hl]
         simp only [Bool.not_true, cond_false]
         rw [if_neg (fun h => by cases h.1)]
         have := drop_arm (R := R) (k0 := k0) (c := c) (nd := nd) hm hk false (by rw [hj, eq_true hl]; rfl)
         rw [hj, eq_true hl] at this
         exact this
        ·rw [eq_false hl]
         simp only [Bool.not_false, cond_true]
         by_cases h2 : (c.m.length : Int) - 1 < 2
         ·rw [lt_true h2, cond_true, if_pos (by exact ⟨by trivial, h2⟩)]
         ·rw [lt_false h2, cond_false, if_neg (fun h => h2 h.2)]
          have := drop_arm (R := R) (k0 := k0) (c := c) (nd := nd) hm hk true (by rw [hj, eq_false hl]; rfl)
          rw [hj, eq_false hl] at this
          exact this
       | false =>
        simp only [cond_true, cond_false, Bool.false_and]
        have hd := drop_arm (R := R) (k0 := k0) (c := c) (nd := nd) hm hk false (by rw [hj]; rfl)
        rw [hj] at hd
        have hd : _ = k0 0 (⟨IntKind.i64.wrap (c.e + 1), delAt c.m (atL c.m nd).toNat ((atL c.m nd).toNat + 1), false⟩ : Cf).tab := hd
        by_cases h2 : (c.m.length : Int) < 2
        ·rw [lt_true (show ofN c.m.length < 2 from h2), cond_true, if_pos (by exact ⟨by trivial, h2⟩)]
        ·rw [lt_false (show ¬ ofN c.m.length < 2 from h2), cond_false, if_neg (fun h => h2 h.2)]
         exact hd
     ·rw [eq_false k1, cond_false, if_neg k1]
      by_cases k2 : kd = 2
      ·rw [eq_true k2, cond_true, if_pos k2]
       unfold Cf.join
       by_cases hn : 0 <= nd /\ nd < 100
       ·rw [decide_eq_true hn, if_neg (fun h => h hn)]
        simp only [Bool.not_true, cond_false]
        by_cases hk : 0 <= atL c.m nd
        ·rw [le_true hk, cond_true, if_pos hk]
        ·rw [le_false hk, cond_false, if_neg hk]
         cases hj : c.j with
         | true => rfl
         | false =>
          rw [cond_false, if_neg (by simp)]
          by_cases h7 : 7 <= c.m.length
          ·rw [le_true (show (7 : Int) <= ofN c.m.length by unfold ofN; omega), cond_true, if_pos h7]
          ·rw [le_false (show ¬ (7 : Int) <= ofN c.m.length by unfold ofN; omega), cond_false, if_neg h7, fits_of (by omega) (by omega), cond_true]; rfl
       ·rw [decide_eq_false hn, if_pos hn]
        simp only [Bool.not_false, cond_true]
      ·rw [eq_false k2, cond_false, if_neg k2]
       unfold Cf.full
       cases hj : c.j with
       | false => rfl
       | true =>
        simp only [Bool.not_true, cond_false]
        rw [if_neg (by simp)]
        by_cases hl : atL c.m nd = (c.m.length : Int) - 1
        ·rw [eq_true hl, if_neg (fun h => h hl)]; rfl
        ·rw [eq_false hl, if_pos hl]; rfl
    ·rw [eq_false he, if_pos he]; rfl
theorem order_m {c : Cf} (hm : c.m.length <= 100) (kd ep nd : Int) : (c.order kd ep nd).2.m.length <= 100 := by
 unfold Cf.order
 split
 ·split
  ·exact hm
  ·split
   ·unfold Cf.drop
    by_cases h1 : atL c.m nd < 0
    ·rw [if_pos h1]; exact hm
    ·rw [if_neg h1]
     by_cases h2 : (c.j && decide (atL c.m nd = (c.m.length : Int) - 1)) = false /\ (if c.j then (c.m.length : Int) - 1 else c.m.length) < 2
     ·rw [if_pos h2]; exact hm
     ·rw [if_neg h2]
      show (delAt c.m _ _).length <= 100
      unfold delAt; simp; omega
   ·split
    ·unfold Cf.join
     repeat' split
     all_goals first | exact hm | (show (c.m ++ [[D.int nd]]).length <= 100; simp; omega)
    ·unfold Cf.full
     repeat' split
     all_goals exact hm
 ·exact hm
end Go.Proofs.Ythlbahcggmbfaaa.V

namespace Go.Proofs.Ythlbahcggmbfaaa.V
variable {R : Type}
def cellsL (rs : List Rep) : List (List D) := rs.map Rep.cells
theorem cellsL_len (rs : List Rep) : (cellsL rs).length = rs.length := by simp [cellsL]
theorem elem_cells {rs : List Rep} {i : Nat} (h : i < rs.length) : elem i (cellsL rs) = (rs[i]).cells := by
 unfold elem cellsL
 rw [List.getD_eq_getElem?_getD, List.getElem?_map, List.getElem?_eq_getElem h]; rfl
theorem set_cells (rs : List Rep) (i : Nat) (r : Rep) : setAt (cellsL rs) i r.cells = cellsL (rs.set i r) := by
 show (rs.map Rep.cells).set i r.cells = (rs.set i r).map Rep.cells
 rw [List.map_set]
theorem set_same {rs : List Rep} {i : Nat} (h : i < rs.length) : setAt (cellsL rs) i (rs[i]).cells = cellsL rs := by
 rw [set_cells, List.set_getElem_self]
theorem c0 (r : Rep) : (cell 0 r.cells).toInt = r.id := of_eq_true (eq_self _)
theorem c1 (r : Rep) : (cell 1 r.cells).toInt = r.ep := of_eq_true (eq_self _)
theorem c2 (r : Rep) : (cell 2 r.cells).toRows = r.mem := of_eq_true (eq_self _)
theorem c3 (r : Rep) : (cell 3 r.cells).toBool = r.join := of_eq_true (eq_self _)
theorem c4 (r : Rep) : (cell 4 r.cells).toRows = r.row := of_eq_true (eq_self _)
theorem c5 (r : Rep) : (cell 5 r.cells).toBool = r.live := of_eq_true (eq_self _)
theorem c6 (r : Rep) : (cell 6 r.cells).toInt = r.commit := of_eq_true (eq_self _)
theorem c7 (r : Rep) : (cell 7 r.cells).toInt = r.told := of_eq_true (eq_self _)
theorem c8 (r : Rep) : (cell 8 r.cells).toInt = r.acked := of_eq_true (eq_self _)
theorem c9 (r : Rep) : (cell 9 r.cells).toInt = r.base := of_eq_true (eq_self _)
theorem c10 (r : Rep) : (cell 10 r.cells).toBool = r.heard := of_eq_true (eq_self _)
theorem c11 (r : Rep) : (cell 11 r.cells).toInt = r.need := of_eq_true (eq_self _)
theorem row_ok {fu : Nat} (r : Rep) (h : r.row.length <= 1000000) (k : Option R) : F16 fu r.id r.ep r.mem r.join r.row r.live r.commit r.told r.acked r.base r.heard r.need k = k := by
 rw [F16_eq]; unfold Fb16; rw [fits_of h (by omega), cond_true]
theorem commit_ok {fu : Nat} (r : Rep) (k : Option R) : F17 fu r.id r.ep r.mem r.join r.row r.live r.commit r.told r.acked r.base r.heard r.need k = k := by
 rw [F17_eq]; rfl
def beginsL (row w : List (List D)) : Bool := decide (w.length <= row.length) && (List.range w.length).all fun i => strEq (cell 0 (elem i row)).toStr (cell 0 (elem i w)).toStr
theorem begins_loop (fu : Nat) (row w : List (List D)) (hl : w.length <= row.length) (hw : w.length <= 100000) (k0 k1 : Option R) : ∀ (n i : Nat), w.length + 1 <= i + n -> i <= w.length ->
  F18_58 fu row w (ofN w.length) n (i : Int) k0 k1 = if ((List.range w.length).drop i).all (fun i => strEq (cell 0 (elem i row)).toStr (cell 0 (elem i w)).toStr) then k1 else k0 := by
 intro n
 induction n with
 | zero => intro i h1 h2; omega
 | succ n ih =>
  intro i h1 h2
  unfold F18_58
  by_cases hi : i < w.length
  ·rw [lt_true (show (i : Int) < ofN w.length by unfold ofN; omega), cond_true, within_of hi, cond_true, within_of (by omega), cond_true, Int.toNat_natCast]
   have hd : (List.range w.length).drop i = i :: (List.range w.length).drop (i + 1) := by
    rw [List.drop_eq_getElem_cons (by simpa using hi)]; simp
   rw [hd, List.all_cons]
   cases hs : strEq (cell 0 (elem i row)).toStr (cell 0 (elem i w)).toStr with
   | true =>
    simp only [Bool.not_true, cond_false, Bool.true_and]
    rw [wrap_succ (by omega)]
    exact ih (i + 1) (by omega) (by omega)
   | false =>
    simp only [Bool.not_false, cond_true, Bool.false_and, Bool.false_eq_true, if_false]
  ·rw [lt_false (show ¬ (i : Int) < ofN w.length by unfold ofN; omega), cond_false, List.drop_eq_nil_of_le (by simpa using hi)]
   simp
theorem begins_ok {fu : Nat} (row w : List (List D)) (hw : w.length <= 1000) (hf : 1001 <= fu) (k : Bool -> Option R) : F18 fu row w k = k (beginsL row w) := by
 rw [F18_eq]
 unfold Fb18 beginsL
 by_cases h : row.length < w.length
 ·rw [lt_true (show ofN row.length < ofN w.length by unfold ofN; omega), cond_true, decide_eq_false (by omega), Bool.false_and]
 ·rw [lt_false (show ¬ ofN row.length < ofN w.length by unfold ofN; omega), cond_false, decide_eq_true (by omega), Bool.true_and]
  have := begins_loop fu row w (by omega) (by omega) (k false) (k true) fu 0 (by omega) (by omega)
  refine this.trans ?_
  rw [List.drop_zero]
  cases (List.range w.length).all (fun i => strEq (cell 0 (elem i row)).toStr (cell 0 (elem i w)).toStr) <;> rfl
def AllOk (rs : List Rep) (n : Nat) : Prop := ∀ r ∈ rs, r.Ok n
def seeG : List Rep -> List (List D) -> Bool -> Option (List (List D)) × List (List D) × Bool
 | [], best, bad => (none, best, bad)
 | r :: rs, best, bad =>
  if r.commit < 0 \/ (r.row.length : Int) < r.commit then (some best, best, bad)
  else seeG rs (if best.length < (part r.row 0 r.commit.toNat).length then part r.row 0 r.commit.toNat else best) (bad || !beginsL (part r.row 0 r.commit.toNat) best && !beginsL best (part r.row 0 r.commit.toNat))
theorem see_loop {fu n0 : Nat} (hf : 1001 <= fu) (hn : n0 <= 1000) (rs : List Rep) (hr : AllOk rs n0) (hlen : rs.length <= 100) (k0 : List (List D) -> List (List D) -> Option R) (k1 : List (List D) -> Bool -> List (List D) -> Option R) : ∀ (n i : Nat) (best : List (List D)) (bad : Bool), rs.length + 1 <= i + n -> i <= rs.length -> best.length <= n0 ->
  F39_10 fu (ofN rs.length) n (i : Int) best bad (cellsL rs) k0 k1 = match seeG (rs.drop i) best bad with | (some b, _, _) => k0 b (cellsL rs) | (none, b, w) => k1 b w (cellsL rs) := by
 intro n
 induction n with
 | zero => intro i best bad h1 h2; omega
 | succ n ih =>
  intro i best bad h1 h2 hb
  unfold F39_10
  by_cases hi : i < rs.length
  ·rw [lt_true (show (i : Int) < ofN rs.length by unfold ofN; omega), cond_true, within_of (by rw [cellsL_len]; exact hi), cond_true, Int.toNat_natCast]
   have hk := hr _ (List.getElem_mem hi)
   have hrow := hk.row
   have hc := hk.commit
   have hss : setAt (cellsL rs) i [D.int rs[i].id, D.int rs[i].ep, D.row rs[i].mem, D.bool rs[i].join, D.row rs[i].row, D.bool rs[i].live, D.int rs[i].commit, D.int rs[i].told, D.int rs[i].acked, D.int rs[i].base, D.bool rs[i].heard, D.int rs[i].need] = cellsL rs := set_same hi
   unfold letR
   simp only [elem_cells hi, c0, c1, c2, c3, c4, c5, c6, c7, c8, c9, c10, c11, row_ok rs[i] (show rs[i].row.length <= 1000000 by omega)]
   unfold letD
   simp only [hss, elem_cells hi, c0, c1, c2, c3, c4, c5, c6, c7, c8, c9, c10, c11, commit_ok]
   rw [List.drop_eq_getElem_cons hi]
   unfold seeG
   by_cases hc0 : rs[i].commit < 0
   ·rw [lt_true hc0, cond_true, if_pos (.inl hc0)]
   ·rw [lt_false hc0, cond_false]
    by_cases hc1 : (rs[i].row.length : Int) < rs[i].commit
    ·rw [lt_true (show ofN rs[i].row.length < rs[i].commit from hc1), cond_true, if_pos (.inr hc1)]
    ·rw [lt_false (show ¬ ofN rs[i].row.length < rs[i].commit from hc1), cond_false, if_neg (by omega)]
     have hu : (decide ((0 : Int) <= 0 /\ 0 <= rs[i].commit) && upTo rs[i].commit rs[i].row.length) = true := by
      unfold upTo
      rw [Bool.and_eq_true]
      exact ⟨decide_eq_true ⟨Int.le_refl _, by omega⟩, decide_eq_true ⟨by omega, by omega⟩⟩
     rw [hu, cond_true]
     have hp : (part rs[i].row 0 rs[i].commit.toNat).length <= n0 := by unfold part; simp; omega
     generalize part rs[i].row 0 rs[i].commit.toNat = done at hp ⊢
     have next : ∀ (bad2 : Bool), (bif decide (ofN best.length < ofN done.length) then F39_10 fu (ofN rs.length) n (IntKind.i64.wrap ((i : Int) + 1)) done bad2 (cellsL rs) k0 k1 else F39_10 fu (ofN rs.length) n (IntKind.i64.wrap ((i : Int) + 1)) best bad2 (cellsL rs) k0 k1)
       = match seeG (rs.drop (i + 1)) (if best.length < done.length then done else best) bad2 with | (some b, _, _) => k0 b (cellsL rs) | (none, b, w) => k1 b w (cellsL rs) := by
      intro bad2
      rw [wrap_succ (by omega)]
      by_cases hlt : best.length < done.length
      ·rw [lt_true (show ofN best.length < ofN done.length by unfold ofN; omega), cond_true, if_pos hlt]
       exact ih (i + 1) done bad2 (by omega) (by omega) hp
      ·rw [lt_false (show ¬ ofN best.length < ofN done.length by unfold ofN; omega), cond_false, if_neg hlt]
       exact ih (i + 1) best bad2 (by omega) (by omega) hb
     cases bad with
     | true => simp only [cond_true, Bool.true_or]; exact next true
     | false =>
      simp only [cond_false, Bool.false_or]
      rw [begins_ok done best (by omega) hf]
      cases hx : beginsL done best with
      | true => simp only [Bool.not_true, cond_false, Bool.false_and]; exact next false
      | false =>
       simp only [Bool.not_false, cond_true, Bool.true_and]
       rw [begins_ok best done (by omega) hf]
       exact next _
  ·rw [lt_false (show ¬ (i : Int) < ofN rs.length by unfold ofN; omega), cond_false, List.drop_eq_nil_of_le (by omega)]
   rfl
end Go.Proofs.Ythlbahcggmbfaaa.V

namespace Go.Proofs.Ythlbahcggmbfaaa.V
variable {R : Type}
def memBad (rs : List Rep) (best : List (List D)) (id : Int) : Bool := decide (id < 0) || (decide (5 <= id) || !beginsL ((rs[id.toNat]?.map Rep.row).getD []) best)
def amissG (rs : List Rep) (best m : List (List D)) (j : Bool) : List (List D) -> Nat -> Bool -> Bool
 | [], _, bad => bad
 | x :: xs, i, bad => amissG rs best m j xs (i + 1) (if j = true /\ (i : Int) = (m.length : Int) - 1 then bad else bad || memBad rs best (cell 0 x).toInt)
theorem mem_loop {fu n0 : Nat} (hf : 1001 <= fu) (hn : n0 <= 1000) (rs : List Rep) (hr : AllOk rs n0) (h5 : rs.length = 5) (best : List (List D)) (hb : best.length <= n0) (m : List (List D)) (hm : m.length <= 100) (j : Bool) (k0 : Bool -> List (List D) -> Option R) :
  ∀ (n i : Nat) (bad : Bool), m.length + 1 <= i + n -> i <= m.length ->
  F39_30 fu m (ofN m.length) best m j n (i : Int) bad (cellsL rs) k0 = k0 (amissG rs best m j (m.drop i) i bad) (cellsL rs) := by
 intro n
 induction n with
 | zero => intro i bad h1 h2; omega
 | succ n ih =>
  intro i bad h1 h2
  unfold F39_30
  by_cases hi : i < m.length
  ·rw [lt_true (show (i : Int) < ofN m.length by unfold ofN; omega), cond_true, within_of hi, cond_true, Int.toNat_natCast]
   have he : elem i m = m[i] := by unfold elem; rw [List.getD_eq_getElem?_getD, List.getElem?_eq_getElem hi]; rfl
   rw [he, List.drop_eq_getElem_cons hi]
   unfold amissG
   have hw : IntKind.i64.wrap (ofN m.length - 1) = (m.length : Int) - 1 := by unfold ofN; exact wrap_of (by omega) (by omega)
   rw [hw]
   have nx : ∀ bad2, F39_30 fu m (ofN m.length) best m j n (IntKind.i64.wrap ((i : Int) + 1)) bad2 (cellsL rs) k0 = k0 (amissG rs best m j (m.drop (i + 1)) (i + 1) bad2) (cellsL rs) := fun bad2 => by
    rw [wrap_succ (by omega)]; exact ih (i + 1) bad2 (by omega) (by omega)
   have arm : ∀ bad2, (bif bad2 then F39_30 fu m (ofN m.length) best m j n (IntKind.i64.wrap ((i : Int) + 1)) true (cellsL rs) k0 else bif decide ((cell 0 m[i]).toInt < 0) then F39_30 fu m (ofN m.length) best m j n (IntKind.i64.wrap ((i : Int) + 1)) true (cellsL rs) k0 else bif decide (5 <= (cell 0 m[i]).toInt) then F39_30 fu m (ofN m.length) best m j n (IntKind.i64.wrap ((i : Int) + 1)) true (cellsL rs) k0 else bif within (cell 0 m[i]).toInt (cellsL rs).length then letR (elem (cell 0 m[i]).toInt.toNat (cellsL rs)) fun row0 => F16 fu (cell 0 row0).toInt (cell 1 row0).toInt (cell 2 row0).toRows (cell 3 row0).toBool (cell 4 row0).toRows (cell 5 row0).toBool (cell 6 row0).toInt (cell 7 row0).toInt (cell 8 row0).toInt (cell 9 row0).toInt (cell 10 row0).toBool (cell 11 row0).toInt (letD (setAt (cellsL rs) (cell 0 m[i]).toInt.toNat [D.int (cell 0 row0).toInt, D.int (cell 1 row0).toInt, D.row (cell 2 row0).toRows, D.bool (cell 3 row0).toBool, D.row (cell 4 row0).toRows, D.bool (cell 5 row0).toBool, D.int (cell 6 row0).toInt, D.int (cell 7 row0).toInt, D.int (cell 8 row0).toInt, D.int (cell 9 row0).toInt, D.bool (cell 10 row0).toBool, D.int (cell 11 row0).toInt]) fun es1 => F18 fu (cell 4 row0).toRows best fun o_2 => (F39_30 fu m (ofN m.length) best m j n (IntKind.i64.wrap ((i : Int) + 1)) (!o_2) es1 k0)) else none)
     = k0 (amissG rs best m j (m.drop (i + 1)) (i + 1) (bad2 || memBad rs best (cell 0 m[i]).toInt)) (cellsL rs) := by
    intro bad2
    cases bad2 with
    | true => rw [cond_true, Bool.true_or]; exact nx true
    | false =>
     rw [cond_false, Bool.false_or]
     unfold memBad
     by_cases h0 : (cell 0 m[i]).toInt < 0
     ·rw [lt_true h0, cond_true, Bool.true_or]; exact nx true
     ·rw [lt_false h0, cond_false, Bool.false_or]
      by_cases h6 : 5 <= (cell 0 m[i]).toInt
      ·rw [le_true h6, cond_true, Bool.true_or]; exact nx true
      ·rw [le_false h6, cond_false, Bool.false_or]
       have hk : (cell 0 m[i]).toInt.toNat < rs.length := by omega
       rw [within_int (by omega) (by rw [cellsL_len]; omega), cond_true]
       generalize (cell 0 m[i]).toInt.toNat = k at hk ⊢
       have hok := hr _ (List.getElem_mem hk)
       have hrow := hok.row
       have hss : setAt (cellsL rs) k [D.int rs[k].id, D.int rs[k].ep, D.row rs[k].mem, D.bool rs[k].join, D.row rs[k].row, D.bool rs[k].live, D.int rs[k].commit, D.int rs[k].told, D.int rs[k].acked, D.int rs[k].base, D.bool rs[k].heard, D.int rs[k].need] = cellsL rs := set_same hk
       unfold letR
       simp only [elem_cells hk, c0, c1, c2, c3, c4, c5, c6, c7, c8, c9, c10, c11, row_ok rs[k] (show rs[k].row.length <= 1000000 by omega)]
       unfold letD
       simp only [hss]
       rw [begins_ok rs[k].row best (by omega) hf, List.getElem?_eq_getElem hk]
       exact nx _
   cases hj : j with
   | true =>
    rw [cond_true]
    by_cases hl : (i : Int) = (m.length : Int) - 1
    ·rw [eq_true hl, cond_true, if_pos ⟨rfl, hl⟩]
     have := nx bad
     rw [hj] at this
     exact this
    ·rw [eq_false hl, cond_false, if_neg (fun h => hl h.2)]
     have := arm bad
     rw [hj] at this
     exact this
   | false =>
    rw [cond_false, if_neg (fun h => by cases h.1)]
    have := arm bad
    rw [hj] at this
    exact this
  ·rw [lt_false (show ¬ (i : Int) < ofN m.length by unfold ofN; omega), cond_false, List.drop_eq_nil_of_le (by omega)]
   rfl
def lookL (rs : List Rep) (best : List (List D)) (bad : Bool) (c : Cf) : List (List D) × Bool :=
 match seeG rs best bad with
 | (some b, _, _) => (b, true)
 | (none, b, w) => (b, amissG rs b c.m c.j c.m 0 w)
theorem seeG_len {n0 : Nat} : ∀ (rs : List Rep) (best : List (List D)) (bad : Bool), AllOk rs n0 -> best.length <= n0 -> (∀ b, (seeG rs best bad).1 = some b -> b.length <= n0) /\ (seeG rs best bad).2.1.length <= n0
 | [], best, bad, _, hb => ⟨fun b h => (by cases h), hb⟩
 | r :: rs, best, bad, hr, hb => by
  have hk := hr r (List.mem_cons_self ..)
  have h1 := hk.row
  unfold seeG
  by_cases hc : r.commit < 0 \/ (r.row.length : Int) < r.commit
  ·rw [if_pos hc]
   exact ⟨fun b h => (by cases h; exact hb), hb⟩
  ·rw [if_neg hc]
   refine seeG_len rs _ _ (fun q hq => hr q (List.mem_cons_of_mem _ hq)) ?_
   split
   ·unfold part; simp; omega
   ·exact hb
theorem config_ok (fu : Nat) (c : Cf) (hm : c.m.length <= 100) (k : List D -> Bool -> Option R) : F50 fu 0 c.tab k = k c.d true := by
 rw [F50_eq]
 unfold Fb50
 simp only [get_tab, has_tab, cd0, cd1, cd2]
 rw [F57_eq]
 unfold Fb57
 have e1 : (cell 1 [D.int c.e, D.row c.m, D.bool c.j]).toRows = c.m := rfl
 rw [e1, fits_of (by omega) (by omega), cond_true]; rfl
theorem look_ok {fu n0 : Nat} (hf : 1001 <= fu) (hn : n0 <= 1000) (rs : List Rep) (hr : AllOk rs n0) (h5 : rs.length = 5) (c : Cf) (hm : c.m.length <= 100) (best : List (List D)) (hb : best.length <= n0) (all way : List (List D)) (next : Int) (bad : Bool) (k : List (List D) -> Bool -> List (List D) -> Option R) :
  F39 fu (cellsL rs) all way best next bad c.tab k = k (lookL rs best bad c).1 (lookL rs best bad c).2 (cellsL rs) := by
 rw [F39_eq]
 unfold Fb39
 rw [show ofN (cellsL rs).length = ofN rs.length by rw [cellsL_len]]
 have h1 := see_loop (R := R) hf hn rs hr (by omega) (fun o_0 o_1 => k o_0 true o_1) (fun o_2 o_3 o_4 => F50 fu 0 c.tab fun o_5 o_6 => F39_30 fu (cell 1 o_5).toRows (ofN (cell 1 o_5).toRows.length) o_2 (cell 1 o_5).toRows (cell 2 o_5).toBool fu 0 o_3 o_4 fun o_7 o_8 => k o_2 o_7 o_8) fu 0 best bad (by omega) (by omega) hb
 refine h1.trans ?_
 rw [List.drop_zero]
 unfold lookL
 have hl := seeG_len rs best bad hr hb
 generalize seeG rs best bad = q at hl ⊢
 obtain ⟨a, b, w⟩ := q
 cases a with
 | some b => rfl
 | none =>
  simp only
  rw [config_ok fu c hm]
  simp only [cd1, cd2]
  exact mem_loop hf hn rs hr h5 b hl.2 c.m hm c.j (fun o_7 o_8 => k b o_7 o_8) fu 0 w (by omega) (by omega)
theorem lookL_len {n0 : Nat} {rs : List Rep} {best : List (List D)} {bad : Bool} {c : Cf} (hr : AllOk rs n0) (hb : best.length <= n0) : (lookL rs best bad c).1.length <= n0 := by
 have hl := seeG_len rs best bad hr hb
 unfold lookL
 generalize seeG rs best bad = q at hl ⊢
 obtain ⟨a, b, w⟩ := q
 cases a with
 | some b => exact hl.1 b rfl
 | none => exact hl.2
def without (l : List (List D)) (i : Nat) : List (List D) := part l 0 i ++ part l (i + 1) l.length
theorem without_len (l : List (List D)) (i : Nat) : (without l i).length <= l.length + 0 := by
 unfold without part
 simp only [List.length_append, List.length_drop, List.length_take]
 omega
def toOf (m : List D) : Int := (cell 2 m).toInt
def nthR (rs : List Rep) (i : Nat) : Rep := rs.getD i ⟨0, 0, [], false, [], false, 0, 0, 0, 0, false, 0⟩
theorem nthR_eq {rs : List Rep} {i : Nat} (h : i < rs.length) : nthR rs i = rs[i] := by unfold nthR; rw [List.getD_eq_getElem?_getD, List.getElem?_eq_getElem h]; rfl
theorem elem_nth {rs : List Rep} {i : Nat} (h : i < rs.length) : elem i (cellsL rs) = (nthR rs i).cells := by rw [elem_cells h, nthR_eq h]
theorem nthR_mem {rs : List Rep} {i : Nat} (h : i < rs.length) : nthR rs i ∈ rs := by rw [nthR_eq h]; exact List.getElem_mem h
def comesR (rs : List Rep) (m : List D) : List Rep := if 0 <= toOf m /\ toOf m < 5 then rs.set (toOf m).toNat ((nthR rs (toOf m).toNat).receive m).1 else rs
def comesM (rs : List Rep) (m : List D) : List (List D) := if 0 <= toOf m /\ toOf m < 5 then ((nthR rs (toOf m).toNat).receive m).2 else []
def msgD (m : List D) : List D := [D.int (cell 0 m).toInt, D.int (cell 1 m).toInt, D.int (cell 2 m).toInt, D.int (cell 3 m).toInt, D.int (cell 4 m).toInt, D.int (cell 5 m).toInt, D.bool (cell 6 m).toBool, D.str (cell 7 m).toStr]
theorem receive_msgD (r : Rep) (m : List D) : r.receive (msgD m) = r.receive m := rfl
theorem receive_same (r : Rep) (m : List D) : (r.receive m).1 = { r with row := (r.receive m).1.row, commit := (r.receive m).1.commit, acked := (r.receive m).1.acked, heard := (r.receive m).1.heard, need := (r.receive m).1.need } := by
 unfold Rep.receive
 split
 ·split
  ·unfold Rep.passed
   split
   ·simp only; rw [add_same]; rfl
   ·rfl
  ·split
   ·unfold Rep.acknowledged; split <;> rfl
   ·rfl
 ·rfl
theorem comes_row {fu n0 : Nat} (hf : 1001 <= fu) (hn : n0 <= 1000) (rs : List Rep) (hr : AllOk rs n0) (h5 : rs.length = 5) (m : List D) (w1 : List (List D)) (hw : w1.length <= 100000) (k : List (List D) -> List (List D) -> Option R) :
  (bif decide (0 <= (cell 2 m).toInt) then bif decide ((cell 2 m).toInt < 5) then bif within (cell 2 m).toInt (cellsL rs).length then letR (elem (cell 2 m).toInt.toNat (cellsL rs)) fun row0 => F28 fu (msgD m) (cell 0 row0).toInt (cell 1 row0).toInt (cell 2 row0).toRows (cell 3 row0).toBool (cell 4 row0).toRows (cell 5 row0).toBool (cell 6 row0).toInt (cell 7 row0).toInt (cell 8 row0).toInt (cell 9 row0).toInt (cell 10 row0).toBool (cell 11 row0).toInt fun o_1 o_2 o_3 o_4 o_5 o_6 => letD (setAt (cellsL rs) (cell 2 m).toInt.toNat [D.int (cell 0 row0).toInt, D.int (cell 1 row0).toInt, D.row (cell 2 row0).toRows, D.bool (cell 3 row0).toBool, D.row o_1, D.bool (cell 5 row0).toBool, D.int o_2, D.int (cell 7 row0).toInt, D.int o_3, D.int (cell 9 row0).toInt, D.bool o_4, D.int o_5]) fun es7 => bif fits (w1.length + o_6.length) 72 then (k es7 (w1 ++ o_6)) else none else none else (k (cellsL rs) w1) else (k (cellsL rs) w1))
   = k (cellsL (comesR rs m)) (w1 ++ comesM rs m) := by
 unfold comesR comesM
 by_cases h0 : 0 <= (cell 2 m).toInt
 ·rw [le_true h0, cond_true]
  by_cases h1 : (cell 2 m).toInt < 5
  ·have hk : (cell 2 m).toInt.toNat < rs.length := by omega
   rw [lt_true h1, cond_true, within_int h0 (by rw [cellsL_len]; omega), cond_true, if_pos ⟨h0, h1⟩, if_pos ⟨h0, h1⟩]
   unfold toOf
   generalize (cell 2 m).toInt.toNat = k2 at hk ⊢
   have hok := hr _ (nthR_mem hk)
   unfold letR
   simp only [elem_nth hk, c0, c1, c2, c3, c4, c5, c6, c7, c8, c9, c10, c11]
   rw [receive_ok hf hok (by omega), receive_msgD]
   have hl := receive_len (nthR rs k2) m
   simp only [letD]
   rw [fits_of (by omega) (by omega), cond_true]
   have hs := receive_same (nthR rs k2) m
   have hset : setAt (cellsL rs) k2 [D.int (nthR rs k2).id, D.int (nthR rs k2).ep, D.row (nthR rs k2).mem, D.bool (nthR rs k2).join, D.row ((nthR rs k2).receive m).1.row, D.bool (nthR rs k2).live, D.int ((nthR rs k2).receive m).1.commit, D.int (nthR rs k2).told, D.int ((nthR rs k2).receive m).1.acked, D.int (nthR rs k2).base, D.bool ((nthR rs k2).receive m).1.heard, D.int ((nthR rs k2).receive m).1.need] = cellsL (rs.set k2 ((nthR rs k2).receive m).1) := by
    rw [<- set_cells, hs]; rfl
   rw [hset]
  ·rw [lt_false h1, cond_false, if_neg (fun h => h1 h.2), if_neg (fun h => h1 h.2), List.append_nil]
 ·rw [le_false h0, cond_false, if_neg (fun h => h0 h.1), if_neg (fun h => h0 h.1), List.append_nil]
def comesW (way : List (List D)) (i : Nat) (stays : Bool) : List (List D) := if stays then way else without way i
theorem comes_ok {fu n0 : Nat} (hf : 1001 <= fu) (hn : n0 <= 1000) (rs : List Rep) (hr : AllOk rs n0) (h5 : rs.length = 5) (all way best : List (List D)) (next : Int) (bad : Bool) (c : Cf) (hw : way.length <= 9000) (i : Nat) (hi : i < way.length) (stays : Bool) (k0 k1 : List (List D) -> List (List D) -> Option R) (k2 : Option R)
  (hk : ∀ a b, k1 a b = k0 a b) (hk2 : k2 = k0 (cellsL rs) way) :
  F37 fu (i : Int) stays (cellsL rs) all way best next bad c.tab k0 k1 k2 = k0 (cellsL (comesR rs (elem i way))) (comesW way i stays ++ comesM rs (elem i way)) := by
 rw [F37_eq]
 unfold Fb37
 rw [within_of hi, cond_true, Int.toNat_natCast]
 cases stays with
 | false =>
  simp only [Bool.not_false, cond_true]
  have h1 : (decide ((0 : Int) <= 0 /\ 0 <= (i : Int)) && upTo (i : Int) way.length) = true := by
   unfold upTo; rw [Bool.and_eq_true]; exact ⟨decide_eq_true ⟨Int.le_refl _, by omega⟩, decide_eq_true ⟨by omega, by omega⟩⟩
  have ei : IntKind.i64.wrap ((i : Int) + 1) = ((i + 1 : Nat) : Int) := wrap_succ (by omega)
  have el : (ofN way.length).toNat = way.length := by unfold ofN; omega
  have h2 : (decide (0 <= IntKind.i64.wrap ((i : Int) + 1) /\ IntKind.i64.wrap ((i : Int) + 1) <= ofN way.length) && upTo (ofN way.length) way.length) = true := by
   rw [ei]; unfold upTo ofN; rw [Bool.and_eq_true]; exact ⟨decide_eq_true ⟨by omega, by omega⟩, decide_eq_true ⟨by omega, by omega⟩⟩
  have hp1 : (part way 0 i).length <= way.length := by unfold part; simp only [List.length_drop, List.length_take]; omega
  have hp2 : (part way (i + 1) way.length).length <= way.length := by unfold part; simp only [List.length_drop, List.length_take]; omega
  rw [h1, cond_true, fits_of (by omega) (by omega), cond_true, h2, cond_true, ei, Int.toNat_natCast, el, fits_of (by omega) (by omega), cond_true]
  exact comes_row hf hn rs hr h5 (elem i way) (without way i) (by unfold without; rw [List.length_append]; omega) k0
 | true =>
  simp only [Bool.not_true, cond_false, hk, hk2]
  have := comes_row (R := R) hf hn rs hr h5 (elem i way) way (by omega) k0
  exact this
end Go.Proofs.Ythlbahcggmbfaaa.V

namespace Go.Proofs.Ythlbahcggmbfaaa.V
variable {R : Type}
theorem runeS_size (n : Int) : (runeS n).size <= 4 := by
 unfold runeS Utf8.encode
 simp only
 repeat' split
 all_goals simp [ByteArray.size]
def textS (k : Int) : ByteArray := runeS (IntKind.i32.wrap (IntKind.i64.wrap (97 + k.tmod 26))) ++ runeS (IntKind.i32.wrap (IntKind.i64.wrap (97 + (IntKind.i64.wrap (k.tdiv 26)).tmod 26)))
theorem text_ok (fu : Nat) (k : Int) (K : ByteArray -> Option R) : F14 fu k K = K (textS k) := by
 rw [F14_eq]
 unfold Fb14
 have h1 := runeS_size (IntKind.i32.wrap (IntKind.i64.wrap (97 + k.tmod 26)))
 have h2 := runeS_size (IntKind.i32.wrap (IntKind.i64.wrap (97 + (IntKind.i64.wrap (k.tdiv 26)).tmod 26)))
 rw [decide_eq_true (by unfold IntKind.max; simp [IntKind.signed, IntKind.bits]; omega), cond_true]; rfl
theorem note_ok (fu : Nat) (c : Cf) (hm : c.m.length <= 100) (rs all way best : List (List D)) (next : Int) (bad : Bool) (ha : all.length <= 10000) (k : List (List D) -> Option R) :
  F36 fu rs all way best next bad c.tab k = k (all ++ [c.d]) := by
 rw [F36_eq]
 unfold Fb36
 rw [config_ok fu c hm, fits_of (by omega) (by omega), cond_true]; rfl
theorem ordered_ok (fu : Nat) (hf : 1001 <= fu) (c : Cf) (hm : c.m.length <= 100) (kd ep nd : Int) (rs all way best : List (List D)) (next : Int) (bad : Bool) (ha : all.length <= 10000) (k0 : List (D × List D) -> List (List D) -> Option R) (k1 : List (D × List D) -> Option R) :
  F38v fu kd ep nd rs all way best next bad c.tab k0 k1 = if (c.order kd ep nd).1 = 0 then k0 (c.order kd ep nd).2.tab (all ++ [(c.order kd ep nd).2.d]) else k1 (c.order kd ep nd).2.tab := by
 rw [F38v_eq]
 unfold Fb38v
 rw [do_ok fu hf c hm]
 by_cases h : (c.order kd ep nd).1 = 0
 ·rw [eq_true h, cond_true, if_pos h, note_ok fu _ (order_m hm kd ep nd) rs all way best next bad ha]
 ·rw [eq_false h, cond_false, if_neg h]
end Go.Proofs.Ythlbahcggmbfaaa.V

namespace Go.Proofs.Ythlbahcggmbfaaa.V
structure Ward where
 rs : List Rep
 all : List (List D)
 way : List (List D)
 best : List (List D)
 next : Int
 bad : Bool
 c : Cf
structure Ward.Inv (w : Ward) (n : Nat) : Prop where
 five : w.rs.length = 5
 ok : AllOk w.rs n
 some_ : 1 <= w.all.length
 all : w.all.length <= n + 1
 mem : ∀ c ∈ w.all, (cell 1 c).toRows.length <= 100
 way : w.way.length <= 10 * n
 best : w.best.length <= n
 tab : w.c.m.length <= 100
def Rep.new (k : Int) (r : Rep) : Rep := ⟨k, r.ep, r.mem, r.join, r.row, false, 0, 0, 0, 0, false, 0⟩
def nodeOf (node : Int) : Nat := if node < 0 then 0 else if 5 <= node then 0 else node.toNat
theorem nodeOf_lt (node : Int) : nodeOf node < 5 := by unfold nodeOf; split <;> (try split) <;> omega
def atOf (way : List (List D)) (at_ : Int) : Int := if 0 < way.length then (if 0 <= at_ then at_.tmod (way.length : Int) else -1) else -1
theorem atOf_lt (way : List (List D)) (at_ : Int) : atOf way at_ = -1 \/ (0 <= atOf way at_ /\ atOf way at_ < way.length) := by
 unfold atOf
 split
 ·split
  ·right
   rename_i h1 h2
   rw [Int.tmod_eq_emod_of_nonneg h2]
   exact ⟨Int.emod_nonneg _ (by omega), Int.emod_lt_of_pos _ (by omega)⟩
  ·exact .inl rfl
 ·exact .inl rfl
def Ward.newest (w : Ward) : List D := elem (w.all.length - 1) w.all
def Ward.conf (w : Ward) (at_ : Int) : List D := if 0 <= at_ then elem (at_.tmod (w.all.length : Int)).toNat w.all else w.newest
def Ward.ordered (w : Ward) (kd ep nd : Int) : Ward :=
 if (w.c.order kd ep nd).1 = 0 then { w with c := (w.c.order kd ep nd).2, all := w.all ++ [(w.c.order kd ep nd).2.d] } else { w with c := (w.c.order kd ep nd).2 }
def Ward.op (w : Ward) (kind node at_ : Int) : Ward :=
 let k := nodeOf node
 let r := nthR w.rs k
 if kind = 0 then { w with next := IntKind.i64.wrap (w.next + 1), rs := w.rs.set k (r.order (textS (IntKind.i64.wrap (w.next + 1)))).1, way := w.way ++ (r.order (textS (IntKind.i64.wrap (w.next + 1)))).2 }
 else if kind = 1 then { w with way := w.way ++ r.again }
 else if kind = 2 \/ kind = 3 then
  (if 0 <= atOf w.way at_ then { w with rs := comesR w.rs (elem (atOf w.way at_).toNat w.way), way := comesW w.way (atOf w.way at_).toNat (decide (kind = 3) && decide (w.way.length < 300)) ++ comesM w.rs (elem (atOf w.way at_).toNat w.way) } else w)
 else if kind = 4 then (if 0 <= atOf w.way at_ then { w with way := without w.way (atOf w.way at_).toNat } else w)
 else if kind = 5 then { w with rs := w.rs.set k (r.adopt (w.conf at_)).1, way := w.way ++ (r.adopt (w.conf at_)).2 }
 else if kind = 6 then { w with rs := w.rs.set k (r.new k) }
 else if kind = 7 then w.ordered 1 (cell 0 w.newest).toInt k
 else if kind = 8 then w.ordered 2 (cell 0 w.newest).toInt k
 else if kind = 9 then (if r.complete then w.ordered 3 r.ep k else w)
 else w
def Ward.look (w : Ward) : Ward := { w with best := (lookL w.rs w.best w.bad w.c).1, bad := (lookL w.rs w.best w.bad w.c).2 }
def Ward.does (w : Ward) (kind node at_ : Int) : Ward := (w.op kind node at_).look
theorem AllOk.mono {rs : List Rep} {n m : Nat} (h : AllOk rs n) (hnm : n <= m) : AllOk rs m := fun r hr => (h r hr).mono hnm
theorem AllOk.set {rs : List Rep} {n : Nat} (h : AllOk rs n) {i : Nat} {r : Rep} (hr : r.Ok n) : AllOk (rs.set i r) n := fun q hq => by
 rcases List.mem_or_eq_of_mem_set hq with h1 | rfl
 ·exact h q h1
 ·exact hr
theorem order_Ok {r : Rep} {n : Nat} (hr : r.Ok n) (cmd : ByteArray) : (r.order cmd).1.Ok (n + 1) := by
 unfold Rep.order
 split
 ·exact add_Ok hr cmd
 ·exact hr.mono (Nat.le_succ n)
theorem order_len (r : Rep) (cmd : ByteArray) : (r.order cmd).2.length <= 1 := by
 unfold Rep.order
 split
 ·exact add_len r cmd
 ·simp
theorem comesR_Ok {rs : List Rep} {n : Nat} (h : AllOk rs n) (h5 : rs.length = 5) (m : List D) : AllOk (comesR rs m) (n + 1) /\ (comesR rs m).length = 5 /\ (comesM rs m).length <= 2 := by
 unfold comesR comesM
 by_cases hc : 0 <= toOf m /\ toOf m < 5
 ·rw [if_pos hc, if_pos hc]
  exact ⟨(h.mono (Nat.le_succ n)).set (receive_Ok (h _ (nthR_mem (by omega))) m), by simp [h5], receive_len _ _⟩
 ·rw [if_neg hc, if_neg hc]
  exact ⟨h.mono (Nat.le_succ n), h5, by simp⟩
theorem Ward.ordered_Inv {w : Ward} {n : Nat} (h : w.Inv n) (kd ep nd : Int) : (w.ordered kd ep nd).Inv (n + 1) := by
 have hm := order_m h.tab kd ep nd
 have ha := h.all
 have hw := h.way
 have hb := h.best
 unfold Ward.ordered
 split
 ·exact ⟨h.five, h.ok.mono (Nat.le_succ n), by simp, by simp; omega, fun c hc => by
   rcases List.mem_append.1 hc with h1 | h1
   ·exact h.mem c h1
   ·rw [List.mem_singleton] at h1; subst h1; exact hm, by show w.way.length <= _; omega, by show w.best.length <= _; omega, hm⟩
 ·exact ⟨h.five, h.ok.mono (Nat.le_succ n), h.some_, by show w.all.length <= _; omega, h.mem, by show w.way.length <= _; omega, by show w.best.length <= _; omega, hm⟩
theorem Ward.Inv.mono {w : Ward} {n : Nat} (h : w.Inv n) : w.Inv (n + 1) :=
 ⟨h.five, h.ok.mono (Nat.le_succ n), h.some_, by have := h.all; omega, h.mem, by have := h.way; omega, by have := h.best; omega, h.tab⟩
theorem conf_mem {w : Ward} {n : Nat} (h : w.Inv n) (at_ : Int) : (cell 1 (w.conf at_)).toRows.length <= 100 := by
 have hs := h.some_
 unfold Ward.conf Ward.newest
 split
 ·rename_i h0
  rw [Int.tmod_eq_emod_of_nonneg h0]
  have h1 := Int.emod_nonneg at_ (show ((w.all.length : Nat) : Int) ≠ 0 by omega)
  have h2 := Int.emod_lt_of_pos at_ (show (0 : Int) < ((w.all.length : Nat) : Int) by omega)
  exact h.mem _ (elem_mem (by omega))
 ·exact h.mem _ (elem_mem (by omega))
theorem Ward.op_Inv {w : Ward} {n : Nat} (h : w.Inv n) (kind node at_ : Int) : (w.op kind node at_).Inv (n + 1) := by
 have h5 := h.five
 have ha := h.all
 have hw := h.way
 have hb := h.best
 have hk := nodeOf_lt node
 have hr := h.ok _ (nthR_mem (i := nodeOf node) (by omega))
 have up := h.mono
 unfold Ward.op
 simp only
 split
 ·have hl := order_len (nthR w.rs (nodeOf node)) (textS (IntKind.i64.wrap (w.next + 1)))
  exact ⟨by simp [h5], (h.ok.mono (Nat.le_succ n)).set (order_Ok hr _), up.some_, up.all, up.mem, by simp only [List.length_append]; omega, up.best, up.tab⟩
 ·split
  ·have hl := again_len (nthR w.rs (nodeOf node))
   exact ⟨h5, up.ok, up.some_, up.all, up.mem, by simp only [List.length_append]; omega, up.best, up.tab⟩
  ·split
   ·split
    ·obtain ⟨q1, q2, q3⟩ := comesR_Ok h.ok h5 (elem (atOf w.way at_).toNat w.way)
     have hwl : (comesW w.way (atOf w.way at_).toNat (decide (kind = 3) && decide (w.way.length < 300))).length <= w.way.length := by
      unfold comesW
      split
      ·exact Nat.le_refl _
      ·exact without_len _ _
     exact ⟨q2, q1, up.some_, up.all, up.mem, by simp only [List.length_append]; omega, up.best, up.tab⟩
    ·exact up
   ·split
    ·split
     ·have hwl := without_len w.way (atOf w.way at_).toNat
      exact ⟨h5, up.ok, up.some_, up.all, up.mem, by simp only; omega, up.best, up.tab⟩
     ·exact up
    ·split
     ·have hc := conf_mem h at_
      have hl := adopt_len (nthR w.rs (nodeOf node)) (w.conf at_)
      exact ⟨by simp [h5], up.ok.set ((adopt_Ok hr hc).mono (Nat.le_succ n)), up.some_, up.all, up.mem, by simp only [List.length_append]; omega, up.best, up.tab⟩
     ·split
      ·exact ⟨by simp [h5], up.ok.set ⟨hr.mem, by have := hr.row; show (nthR w.rs (nodeOf node)).row.length <= _; omega, Int.le_refl _, by show (0 : Int) <= _; omega, Int.le_refl _, by show (0 : Int) <= _; omega, Int.le_refl _, by show (0 : Int) <= _; omega⟩, up.some_, up.all, up.mem, up.way, up.best, up.tab⟩
      ·split
       ·exact Ward.ordered_Inv h _ _ _
       ·split
        ·exact Ward.ordered_Inv h _ _ _
        ·split
         ·split
          ·exact Ward.ordered_Inv h _ _ _
          ·exact up
         ·exact up
theorem Ward.look_Inv {w : Ward} {n : Nat} (h : w.Inv n) : w.look.Inv n :=
 ⟨h.five, h.ok, h.some_, h.all, h.mem, h.way, lookL_len h.ok h.best, h.tab⟩
theorem Ward.does_Inv {w : Ward} {n : Nat} (h : w.Inv n) (kind node at_ : Int) : (w.does kind node at_).Inv (n + 1) := Ward.look_Inv (Ward.op_Inv h kind node at_)
end Go.Proofs.Ythlbahcggmbfaaa.V

namespace Go.Proofs.Ythlbahcggmbfaaa.V
variable {R : Type}
theorem keep_ok {fu : Nat} (r : Rep) (hm : r.mem.length <= 100) (h : r.row.length <= 1000000) (k : List D -> Option R) : F20 fu r.id r.ep r.mem r.join r.row r.live r.commit r.told r.acked r.base r.heard r.need k = k [D.int r.ep, D.row r.mem, D.bool r.join, D.row r.row] := by
 rw [F20_eq]; unfold Fb20
 rw [F41_eq]; unfold Fb41
 show (bif fits r.mem.length 8 then (bif fits r.row.length 16 then k [D.int r.ep, D.row r.mem, D.bool r.join, D.row r.row] else none) else none) = _
 rw [fits_of (by omega) (by omega), cond_true, fits_of h (by omega), cond_true]
theorem epoch_ok {fu : Nat} (r : Rep) (k : Option R) : F19 fu r.id r.ep r.mem r.join r.row r.live r.commit r.told r.acked r.base r.heard r.need k = k := by
 rw [F19_eq]; rfl
theorem new_ok {fu : Nat} (r : Rep) (id : Int) (hm : r.mem.length <= 100) (h : r.row.length <= 1000000) (k : Int -> List (List D) -> Bool -> List (List D) -> Option R) :
  F29 fu id [D.int r.ep, D.row r.mem, D.bool r.join, D.row r.row] k = k r.ep r.mem r.join r.row := by
 rw [F29_eq]; unfold Fb29
 rw [F41_eq]; unfold Fb41
 show (bif fits r.mem.length 8 then bif fits r.row.length 16 then _ else none else none) = _
 rw [fits_of (by omega) (by omega), cond_true, fits_of h (by omega), cond_true]; rfl
theorem at_253 (fu : Nat) (x : Bool) (y2 : List (List D)) (ob2 : Int) (hx : x = true -> 0 < y2.length) (k : Int -> Option R) : F13_253 fu (-1) x y2 ob2 k = k (if x then ob2.tmod (y2.length : Int) else -1) := by
 unfold F13_253
 cases x with
 | true =>
  have := hx rfl
  rw [cond_true, eq_false (show ¬ ofN y2.length = 0 by unfold ofN; omega), cond_false]; rfl
 | false => rfl
theorem adopt_same (r : Rep) (c : List D) : (r.adopt c).1 = { (r.adopt c).1 with id := r.id } := by
 have h1 : (r.adopt1 c).id = r.id := by unfold Rep.adopt1; split <;> (try split) <;> rfl
 have h4 : ∀ (q : Rep) (w : Bool), (q.adopt2.adopt3.adopt4 w).id = q.id := fun q w => by unfold Rep.adopt4 Rep.adopt3; split <;> split <;> rfl
 have : (r.adopt c).1.id = r.id := by
  unfold Rep.adopt
  split
  ·rfl
  ·split
   ·rw [h4, h1]
   ·exact h1
 rw [<- this]
theorem adopt_piece {fu n : Nat} (hf : 1001 <= fu) (hn : n <= 1000) (rs : List Rep) (hr : AllOk rs n) (k : Nat) (hk : k < rs.length) (way : List (List D)) (hw : way.length <= 20000) (c : List D) (hc : (cell 1 c).toRows.length <= 100) (K : List (List D) -> List (List D) -> Option R) :
  F13_8368123 fu k (cellsL rs) way (cell 0 c).toInt (cell 1 c).toRows (cell 2 c).toBool K = K (cellsL (rs.set k ((nthR rs k).adopt c).1)) (way ++ ((nthR rs k).adopt c).2) := by
 unfold F13_8368123
 have hok := hr _ (nthR_mem hk)
 simp only [letR, elem_nth hk, c0, c1, c2, c3, c4, c5, c6, c7, c8, c9, c10, c11]
 have hl := adopt_len (nthR rs k) c
 refine (adopt_ok (R := R) hf hok (by omega) [D.int (cell 0 c).toInt, D.row (cell 1 c).toRows, D.bool (cell 2 c).toBool] hc _).trans ?_
 have e : (nthR rs k).adopt [D.int (cell 0 c).toInt, D.row (cell 1 c).toRows, D.bool (cell 2 c).toBool] = (nthR rs k).adopt c := rfl
 simp only [letD, e]
 rw [fits_of (by omega) (by omega), cond_true]
 have hs := adopt_same (nthR rs k) c
 have : setAt (cellsL rs) k [D.int (nthR rs k).id, D.int ((nthR rs k).adopt c).1.ep, D.row ((nthR rs k).adopt c).1.mem, D.bool ((nthR rs k).adopt c).1.join, D.row ((nthR rs k).adopt c).1.row, D.bool ((nthR rs k).adopt c).1.live, D.int ((nthR rs k).adopt c).1.commit, D.int ((nthR rs k).adopt c).1.told, D.int ((nthR rs k).adopt c).1.acked, D.int ((nthR rs k).adopt c).1.base, D.bool ((nthR rs k).adopt c).1.heard, D.int ((nthR rs k).adopt c).1.need] = cellsL (rs.set k ((nthR rs k).adopt c).1) := by
  rw [<- set_cells, hs]; rfl
 rw [this]
theorem nth_same {rs : List Rep} {k : Nat} (hk : k < rs.length) : setAt (cellsL rs) k [D.int (nthR rs k).id, D.int (nthR rs k).ep, D.row (nthR rs k).mem, D.bool (nthR rs k).join, D.row (nthR rs k).row, D.bool (nthR rs k).live, D.int (nthR rs k).commit, D.int (nthR rs k).told, D.int (nthR rs k).acked, D.int (nthR rs k).base, D.bool (nthR rs k).heard, D.int (nthR rs k).need] = cellsL rs := by
 rw [nthR_eq hk]; exact set_same hk
theorem rest_ok {fu n : Nat} (hf : 1001 <= fu) (hn : n <= 900) (w : Ward) (h : w.Inv n) (kind node at_ : Int) (x1 : Bool) (hx : x1 = (decide (kind = 2) || decide (kind = 3))) (h0 : ¬ kind = 0) (h1 : ¬ kind = 1) (G : List (List D) -> List (List D) -> List (List D) -> List (D × List D) -> Option R)
  (k0 k1 : List (List D) -> List (List D) -> Option R) (k2 : List (List D) -> List (D × List D) -> Option R) (k3 : List (List D) -> Option R) (k4 : List (List D) -> List (D × List D) -> List (List D) -> Option R)
  (e0 : ∀ a b, k0 a b = G a w.all b w.c.tab) (e1 : ∀ a b, k1 a b = G a w.all b w.c.tab) (e2 : ∀ a t, k2 a t = G a w.all w.way t) (e3 : ∀ a, k3 a = G a w.all w.way w.c.tab) (e4 : ∀ a t l, k4 a t l = G a l w.way t) :
  F13_65375 fu (nodeOf node : Nat) (nodeOf node) (atOf w.way at_) kind x1 w.best w.next w.bad (cellsL w.rs) w.all w.way w.c.tab kind at_ (cell 0 w.newest).toInt (cell 1 w.newest).toRows (cell 2 w.newest).toBool k0 k1 k2 k3 k4
   = G (cellsL (w.op kind node at_).rs) (w.op kind node at_).all (w.op kind node at_).way (w.op kind node at_).c.tab := by
 have h5 := h.five
 have hw := h.way
 have ha := h.all
 have hk := nodeOf_lt node
 have hkl : nodeOf node < w.rs.length := by omega
 have hok := h.ok _ (nthR_mem hkl)
 unfold F13_65375 Ward.op
 simp only [if_neg h0, if_neg h1]
 by_cases h23 : kind = 2 \/ kind = 3
 ·have hx1 : x1 = true := by rw [hx]; rcases h23 with e | e <;> simp [e]
  rw [hx1, cond_true, if_pos h23]
  rcases atOf_lt w.way at_ with hat | ⟨ha0, ha1⟩
  ·rw [hat, le_false (by omega), cond_false, e2]; rfl
  ·rw [le_true ha0, cond_true, if_pos ha0]
   obtain ⟨i, hi⟩ : ∃ i : Nat, atOf w.way at_ = (i : Int) := ⟨(atOf w.way at_).toNat, by omega⟩
   rw [hi] at ha1 ⊢
   rw [Int.toNat_natCast]
   by_cases h3 : kind = 3
   ·rw [eq_true h3, cond_true]
    have := comes_ok (R := R) (fu := fu) (n0 := n) hf (by omega) w.rs h.ok h5 w.all w.way w.best w.next w.bad w.c (by omega) i (by omega) (decide (ofN w.way.length < 300)) (fun a b => k0 a b) (fun a b => k1 a b) (k2 (cellsL w.rs) w.c.tab) (fun a b => by rw [e1, e0]) (by rw [e2, e0])
    refine this.trans ?_
    have hd : decide (ofN w.way.length < 300) = decide (w.way.length < 300) := decide_eq_decide.2 (by unfold ofN; omega)
    rw [e0, hd]; rfl
   ·rw [eq_false h3, cond_false]
    have := comes_ok (R := R) (fu := fu) (n0 := n) hf (by omega) w.rs h.ok h5 w.all w.way w.best w.next w.bad w.c (by omega) i (by omega) false (fun a b => k0 a b) (fun a b => k1 a b) (k2 (cellsL w.rs) w.c.tab) (fun a b => by rw [e1, e0]) (by rw [e2, e0])
    refine this.trans ?_
    rw [e0]; rfl
 ·have hx1 : x1 = false := by rw [hx, eq_false (fun e => h23 (.inl e)), eq_false (fun e => h23 (.inr e))]; rfl
  rw [hx1, cond_false, if_neg h23]
  by_cases h4 : kind = 4
  ·rw [eq_true h4, cond_true, if_pos h4]
   rcases atOf_lt w.way at_ with hat | ⟨ha0, ha1⟩
   ·rw [hat, le_false (by omega), cond_false, e2]; rfl
   ·rw [le_true ha0, cond_true, if_pos ha0]
    obtain ⟨i, hi⟩ : ∃ i : Nat, atOf w.way at_ = (i : Int) := ⟨(atOf w.way at_).toNat, by omega⟩
    rw [hi] at ha1 ⊢
    rw [Int.toNat_natCast]
    have q1 : (decide ((0 : Int) <= 0 /\ 0 <= (i : Int)) && upTo (i : Int) w.way.length) = true := by
     unfold upTo; rw [Bool.and_eq_true]; exact ⟨decide_eq_true ⟨Int.le_refl _, by omega⟩, decide_eq_true ⟨by omega, by omega⟩⟩
    have ei : IntKind.i64.wrap ((i : Int) + 1) = ((i + 1 : Nat) : Int) := wrap_succ (by omega)
    have el : (ofN w.way.length).toNat = w.way.length := by unfold ofN; omega
    have q2 : (decide (0 <= IntKind.i64.wrap ((i : Int) + 1) /\ IntKind.i64.wrap ((i : Int) + 1) <= ofN w.way.length) && upTo (ofN w.way.length) w.way.length) = true := by
     rw [ei]; unfold upTo ofN; rw [Bool.and_eq_true]; exact ⟨decide_eq_true ⟨by omega, by omega⟩, decide_eq_true ⟨by omega, by omega⟩⟩
    have hp1 : (part w.way 0 i).length <= w.way.length := by unfold part; simp only [List.length_drop, List.length_take]; omega
    have hp2 : (part w.way (i + 1) w.way.length).length <= w.way.length := by unfold part; simp only [List.length_drop, List.length_take]; omega
    rw [q1, cond_true, fits_of (by omega) (by omega), cond_true, q2, cond_true, ei, Int.toNat_natCast, el, fits_of (by omega) (by omega), cond_true, e0]
    rfl
  ·rw [eq_false h4, cond_false, if_neg h4]
   by_cases h6 : kind = 5
   ·rw [eq_true h6, cond_true, if_pos h6]
    have hcm := conf_mem h at_
    by_cases hat : 0 <= at_
    ·have hs := h.some_
     have t1 : at_.tmod (ofN w.all.length) = at_.tmod (w.all.length : Int) := rfl
     have t2 : 0 <= at_.tmod (w.all.length : Int) /\ at_.tmod (w.all.length : Int) < w.all.length := by
      rw [Int.tmod_eq_emod_of_nonneg hat]
      exact ⟨Int.emod_nonneg _ (by omega), Int.emod_lt_of_pos _ (by omega)⟩
     have hcf : w.conf at_ = elem (at_.tmod (w.all.length : Int)).toNat w.all := by unfold Ward.conf; rw [if_pos hat]
     rw [le_true hat, cond_true, eq_false (show ¬ ofN w.all.length = 0 by unfold ofN; omega), cond_false, t1, within_int t2.1 t2.2, cond_true, <- hcf]
     have := adopt_piece (R := R) (n := n) hf (by omega) w.rs h.ok (nodeOf node) hkl w.way (by omega) (w.conf at_) hcm (fun a b => k1 a b)
     refine this.trans ?_
     rw [e1]
    ·have hcf : w.conf at_ = w.newest := by unfold Ward.conf; rw [if_neg hat]
     rw [le_false hat, cond_false]
     rw [hcf] at hcm ⊢
     have := adopt_piece (R := R) (n := n) hf (by omega) w.rs h.ok (nodeOf node) hkl w.way (by omega) w.newest hcm (fun a b => k1 a b)
     refine this.trans ?_
     rw [e1]
   ·rw [eq_false h6, cond_false, if_neg h6]
    by_cases h7 : kind = 6
    ·rw [eq_true h7, cond_true, if_pos h7]
     simp only [letR, letD, elem_nth hkl, c0, c1, c2, c3, c4, c5, c6, c7, c8, c9, c10, c11]
     have hrow := hok.row
     rw [keep_ok (nthR w.rs (nodeOf node)) hok.mem (by omega), nth_same hkl]
     refine (new_ok (nthR w.rs (nodeOf node)) (nodeOf node : Nat) hok.mem (by omega) _).trans ?_
     rw [within_of (by rw [cellsL_len]; omega), cond_true, Int.toNat_natCast]
     have hset : setAt (cellsL w.rs) (nodeOf node) [D.int ((nodeOf node : Nat) : Int), D.int (nthR w.rs (nodeOf node)).ep, D.row (nthR w.rs (nodeOf node)).mem, D.bool (nthR w.rs (nodeOf node)).join, D.row (nthR w.rs (nodeOf node)).row, D.bool false, D.int 0, D.int 0, D.int 0, D.int 0, D.bool false, D.int 0] = cellsL (w.rs.set (nodeOf node) ((nthR w.rs (nodeOf node)).new (nodeOf node : Nat))) := set_cells w.rs (nodeOf node) ((nthR w.rs (nodeOf node)).new (nodeOf node : Nat))
     rw [hset, within_of (by rw [cellsL_len, List.length_set]; omega), cond_true, e3]
    ·rw [eq_false h7, cond_false, if_neg h7]
     have ord : ∀ (kd ep : Int) (K4 : List (D × List D) -> List (List D) -> Option R) (K2 : List (D × List D) -> Option R), (∀ t l, K4 t l = G (cellsL w.rs) l w.way t) -> (∀ t, K2 t = G (cellsL w.rs) w.all w.way t) ->
       F38v fu kd ep ((nodeOf node : Nat) : Int) (cellsL w.rs) w.all w.way w.best w.next w.bad w.c.tab K4 K2 = G (cellsL (w.ordered kd ep (nodeOf node : Nat)).rs) (w.ordered kd ep (nodeOf node : Nat)).all (w.ordered kd ep (nodeOf node : Nat)).way (w.ordered kd ep (nodeOf node : Nat)).c.tab := by
      intro kd ep K4 K2 g4 g2
      rw [ordered_ok fu hf w.c h.tab kd ep (nodeOf node : Nat) (cellsL w.rs) w.all w.way w.best w.next w.bad (by omega)]
      unfold Ward.ordered
      split
      ·rw [g4]
      ·rw [g2]
     by_cases h8 : kind = 7
     ·rw [eq_true h8, cond_true, if_pos h8]
      exact ord 1 _ _ _ (fun t l => by rw [e4]) (fun t => by rw [e2])
     ·rw [eq_false h8, cond_false, if_neg h8]
      by_cases h9 : kind = 8
      ·rw [eq_true h9, cond_true, if_pos h9]
       exact ord 2 _ _ _ (fun t l => by rw [e4]) (fun t => by rw [e2])
      ·rw [eq_false h9, cond_false, if_neg h9]
       by_cases h10 : kind = 9
       ·rw [eq_true h10, cond_true, if_pos h10]
        have hm := hok.mem
        simp only [letR, letD, elem_nth hkl, c0, c1, c2, c3, c4, c5, c6, c7, c8, c9, c10, c11, complete_ok (R := R) (r := nthR w.rs (nodeOf node)) hf (by omega), nth_same hkl, epoch_ok]
        cases hcp : (nthR w.rs (nodeOf node)).complete with
        | true =>
         rw [cond_true, if_pos rfl]
         exact ord 3 _ _ _ (fun t l => by rw [e4]) (fun t => by rw [e2])
        | false =>
         rw [cond_false, if_neg (by simp), e2]
       ·rw [eq_false h10, cond_false, if_neg h10, e2]
end Go.Proofs.Ythlbahcggmbfaaa.V

namespace Go.Proofs.Ythlbahcggmbfaaa.V
variable {R : Type}
theorem lookW {fu m : Nat} (hf : 1001 <= fu) (hm : m <= 1000) (v : Ward) (h : v.Inv m) (k : List (List D) -> Bool -> List (List D) -> Option R) :
  F39 fu (cellsL v.rs) v.all v.way v.best v.next v.bad v.c.tab k = k v.look.best v.look.bad (cellsL v.look.rs) := look_ok hf hm v.rs h.ok h.five v.c h.tab v.best h.best v.all v.way v.next v.bad k
theorem order_head (r : Rep) (cmd : ByteArray) : (r.order cmd).1.head = r.head := by
 unfold Rep.order
 split
 ·rw [add_same]; rfl
 ·rfl
theorem order_same (r : Rep) (cmd : ByteArray) : (r.order cmd).1 = { r with row := (r.order cmd).1.row, commit := (r.order cmd).1.commit } := by
 unfold Rep.order
 split
 ·conv => lhs; rw [add_same]
  conv => rhs; rw [add_same]
 ·rfl
theorem way_367 (fu : Nat) (a b : List (List D)) (h : a.length + b.length <= 1000000) (k : List (List D) -> Option R) : F13_65367 fu a b k = k (a ++ b) := by
 unfold F13_65367; rw [fits_of h (by omega), cond_true]
theorem nthR_set {rs : List Rep} {k : Nat} (h : k < rs.length) (q : Rep) : nthR (rs.set k q) k = q := by
 unfold nthR; rw [List.getD_eq_getElem?_getD, List.getElem?_set_self h]; rfl
theorem op_same (w : Ward) {kind node at_ : Int} (h0 : ¬ kind = 0) : (w.op kind node at_).best = w.best /\ (w.op kind node at_).next = w.next /\ (w.op kind node at_).bad = w.bad := by
 have ho : ∀ a b c, (w.ordered a b c).best = w.best /\ (w.ordered a b c).next = w.next /\ (w.ordered a b c).bad = w.bad := fun a b c => by
  unfold Ward.ordered; split <;> exact ⟨rfl, rfl, rfl⟩
 unfold Ward.op
 simp only [if_neg h0]
 repeat' split
 all_goals first | exact ⟨rfl, rfl, rfl⟩ | exact ho _ _ _
theorem cmd_ok {fu n : Nat} (hf : 1001 <= fu) (hn : n <= 900) (w : Ward) (h : w.Inv n) (kind node at_ : Int) (h0 : kind = 0) (g : List (List D) -> Int -> Bool -> List (List D) -> List (List D) -> Option R) :
  (F14 fu (IntKind.i64.wrap (w.next + 1)) fun o_0 => letR (elem (nodeOf node) (cellsL w.rs)) fun row1 => F30 fu o_0 (cell 0 row1).toInt (cell 1 row1).toInt (cell 2 row1).toRows (cell 3 row1).toBool (cell 4 row1).toRows (cell 5 row1).toBool (cell 6 row1).toInt (cell 7 row1).toInt (cell 8 row1).toInt (cell 9 row1).toInt (cell 10 row1).toBool (cell 11 row1).toInt fun o_2 o_3 o_4 o_5 o_6 => letD (setAt (cellsL w.rs) (nodeOf node) [D.int (cell 0 row1).toInt, D.int (cell 1 row1).toInt, D.row (cell 2 row1).toRows, D.bool (cell 3 row1).toBool, D.row o_4, D.bool (cell 5 row1).toBool, D.int o_5, D.int (cell 7 row1).toInt, D.int (cell 8 row1).toInt, D.int (cell 9 row1).toInt, D.bool (cell 10 row1).toBool, D.int (cell 11 row1).toInt]) fun es7 => bif w.bad then F13_65367 fu w.way o_6 fun o_8 => F39 fu es7 w.all o_8 w.best (IntKind.i64.wrap (w.next + 1)) true w.c.tab fun o_9 o_10 o_11 => (g o_9 (IntKind.i64.wrap (w.next + 1)) o_10 o_11 o_8) else letR (elem (nodeOf node) es7) fun row12 => F23 fu (cell 0 row12).toInt (cell 1 row12).toInt (cell 2 row12).toRows (cell 3 row12).toBool (cell 4 row12).toRows (cell 5 row12).toBool (cell 6 row12).toInt (cell 7 row12).toInt (cell 8 row12).toInt (cell 9 row12).toInt (cell 10 row12).toBool (cell 11 row12).toInt fun o_13 => letD (setAt es7 (nodeOf node) [D.int (cell 0 row12).toInt, D.int (cell 1 row12).toInt, D.row (cell 2 row12).toRows, D.bool (cell 3 row12).toBool, D.row (cell 4 row12).toRows, D.bool (cell 5 row12).toBool, D.int (cell 6 row12).toInt, D.int (cell 7 row12).toInt, D.int (cell 8 row12).toInt, D.int (cell 9 row12).toInt, D.bool (cell 10 row12).toBool, D.int (cell 11 row12).toInt]) fun es14 => bif !decide (o_3 = 0) == o_13 then F13_65367 fu w.way o_6 fun o_15 => F39 fu es14 w.all o_15 w.best (IntKind.i64.wrap (w.next + 1)) true w.c.tab fun o_16 o_17 o_18 => (g o_16 (IntKind.i64.wrap (w.next + 1)) o_17 o_18 o_15) else bif decide (o_3 = 0) then letR (elem (nodeOf node) es14) fun row19 => F16 fu (cell 0 row19).toInt (cell 1 row19).toInt (cell 2 row19).toRows (cell 3 row19).toBool (cell 4 row19).toRows (cell 5 row19).toBool (cell 6 row19).toInt (cell 7 row19).toInt (cell 8 row19).toInt (cell 9 row19).toInt (cell 10 row19).toBool (cell 11 row19).toInt (letD (setAt es14 (nodeOf node) [D.int (cell 0 row19).toInt, D.int (cell 1 row19).toInt, D.row (cell 2 row19).toRows, D.bool (cell 3 row19).toBool, D.row (cell 4 row19).toRows, D.bool (cell 5 row19).toBool, D.int (cell 6 row19).toInt, D.int (cell 7 row19).toInt, D.int (cell 8 row19).toInt, D.int (cell 9 row19).toInt, D.bool (cell 10 row19).toBool, D.int (cell 11 row19).toInt]) fun es20 => F13_65367 fu w.way o_6 fun o_21 => F39 fu es20 w.all o_21 w.best (IntKind.i64.wrap (w.next + 1)) (!decide (o_2 = ofN (cell 4 row19).toRows.length)) w.c.tab fun o_22 o_23 o_24 => (g o_22 (IntKind.i64.wrap (w.next + 1)) o_23 o_24 o_21)) else F13_65367 fu w.way o_6 fun o_25 => F39 fu es14 w.all o_25 w.best (IntKind.i64.wrap (w.next + 1)) false w.c.tab fun o_26 o_27 o_28 => (g o_26 (IntKind.i64.wrap (w.next + 1)) o_27 o_28 o_25))
   = g (w.does kind node at_).best (w.does kind node at_).next (w.does kind node at_).bad (cellsL (w.does kind node at_).rs) (w.does kind node at_).way := by
 have h5 := h.five
 have hw := h.way
 have hk := nodeOf_lt node
 have hkl : nodeOf node < w.rs.length := by omega
 have hok := h.ok _ (nthR_mem hkl)
 have hi := Ward.op_Inv h kind node at_
 have hop : w.op kind node at_ = { w with next := IntKind.i64.wrap (w.next + 1), rs := w.rs.set (nodeOf node) ((nthR w.rs (nodeOf node)).order (textS (IntKind.i64.wrap (w.next + 1)))).1, way := w.way ++ ((nthR w.rs (nodeOf node)).order (textS (IntKind.i64.wrap (w.next + 1)))).2 } := by
  unfold Ward.op; simp only [if_pos h0]
 rw [hop] at hi
 unfold Ward.does
 rw [hop, text_ok]
 have hol := order_len (nthR w.rs (nodeOf node)) (textS (IntKind.i64.wrap (w.next + 1)))
 have hos := order_same (nthR w.rs (nodeOf node)) (textS (IntKind.i64.wrap (w.next + 1)))
 have hoh := order_head (nthR w.rs (nodeOf node)) (textS (IntKind.i64.wrap (w.next + 1)))
 have hno : (nthR w.rs (nodeOf node)).head = false -> (nthR w.rs (nodeOf node)).order (textS (IntKind.i64.wrap (w.next + 1))) = (nthR w.rs (nodeOf node), []) := fun hh => by unfold Rep.order; rw [hh]; rfl
 have hOk := order_Ok hok (textS (IntKind.i64.wrap (w.next + 1)))
 simp only [letR, elem_nth hkl, c0, c1, c2, c3, c4, c5, c6, c7, c8, c9, c10, c11]
 rw [order_ok hf hok (by omega)]
 generalize hq : (nthR w.rs (nodeOf node)).order (textS (IntKind.i64.wrap (w.next + 1))) = q at *
 obtain ⟨q, out⟩ := q
 simp only at hos hoh hol hOk hi ⊢
 have hqrow := hOk.row
 have hqmem := hOk.mem
 have hset : setAt (cellsL w.rs) (nodeOf node) [D.int (nthR w.rs (nodeOf node)).id, D.int (nthR w.rs (nodeOf node)).ep, D.row (nthR w.rs (nodeOf node)).mem, D.bool (nthR w.rs (nodeOf node)).join, D.row q.row, D.bool (nthR w.rs (nodeOf node)).live, D.int q.commit, D.int (nthR w.rs (nodeOf node)).told, D.int (nthR w.rs (nodeOf node)).acked, D.int (nthR w.rs (nodeOf node)).base, D.bool (nthR w.rs (nodeOf node)).heard, D.int (nthR w.rs (nodeOf node)).need] = cellsL (w.rs.set (nodeOf node) q) := by
  rw [<- set_cells]; conv => rhs; rw [hos]
  rfl
 have hsl : nodeOf node < (w.rs.set (nodeOf node) q).length := by rw [List.length_set]; exact hkl
 have hnq : nthR (w.rs.set (nodeOf node) q) (nodeOf node) = q := nthR_set hkl q
 have same := nth_same hsl
 rw [hnq] at same
 have look := fun (K : List (List D) -> Bool -> List (List D) -> Option R) => lookW (R := R) hf (by omega) _ hi K
 simp only at look
 cases hh : (nthR w.rs (nodeOf node)).head with
 | true =>
  rw [if_pos rfl]
  simp only [letD, hset]
  cases hb : w.bad with
  | true =>
   rw [cond_true, way_367 fu _ _ (by omega)]
   rw [hb] at look
   exact look _
  | false =>
   rw [hb] at look
   rw [cond_false]
   simp only [elem_nth hsl, hnq, c0, c1, c2, c3, c4, c5, c6, c7, c8, c9, c10, c11]
   rw [head_ok hf (by omega), hoh, hh]
   simp only [same]
   show F16 _ _ _ _ _ _ _ _ _ _ _ _ _ _ = _
   simp only [elem_nth hsl, hnq, c0, c1, c2, c3, c4, c5, c6, c7, c8, c9, c10, c11, same]
   rw [row_ok q (by omega), way_367 fu _ _ (by omega), eq_true (show (q.row.length : Int) = ofN q.row.length from rfl)]
   exact look _
 | false =>
  have hno := hno hh
  injection hno with q1 q2
  rw [if_neg (by simp)]
  subst q1 q2
  simp only [letD, hset]
  cases hb : w.bad with
  | true =>
   rw [cond_true, way_367 fu _ _ (by simp; omega)]
   rw [hb] at look
   exact look _
  | false =>
   rw [hb] at look
   rw [cond_false]
   simp only [elem_nth hsl, hnq, c0, c1, c2, c3, c4, c5, c6, c7, c8, c9, c10, c11]
   rw [head_ok hf (by omega), hoh, hh]
   simp only [same]
   rw [eq_false (show ¬ (10 : Int) = 0 by omega)]
   rw [show (!(false == false)) = false from rfl, cond_false, cond_false, way_367 fu _ _ (by simp; omega)]
   exact look _
theorem does_127 {fu n : Nat} (hf : 1001 <= fu) (hn : n <= 900) (w : Ward) (h : w.Inv n) (kind node at_ : Int) (G : List (List D) -> Int -> Bool -> List (List D) -> List (List D) -> List (List D) -> List (D × List D) -> Option R)
  (k0 : List (List D) -> Int -> Bool -> List (List D) -> List (List D) -> Option R) (k1 : List (List D) -> Bool -> List (List D) -> List (List D) -> Option R) (k2 : List (List D) -> Bool -> List (List D) -> List (D × List D) -> Option R) (k3 : List (List D) -> Bool -> List (List D) -> Option R) (k4 : List (List D) -> Bool -> List (List D) -> List (D × List D) -> List (List D) -> Option R)
  (e0 : ∀ b x bd r y, k0 b x bd r y = G b x bd r w.all y w.c.tab) (e1 : ∀ b bd r y, k1 b bd r y = G b w.next bd r w.all y w.c.tab) (e2 : ∀ b bd r t, k2 b bd r t = G b w.next bd r w.all w.way t) (e3 : ∀ b bd r, k3 b bd r = G b w.next bd r w.all w.way w.c.tab) (e4 : ∀ b bd r t l, k4 b bd r t l = G b w.next bd r l w.way t) :
  F13_127 fu (nodeOf node : Nat) (nodeOf node) (atOf w.way at_) w.best w.next w.bad (cellsL w.rs) w.all w.way w.c.tab kind at_ k0 k1 k2 k3 k4
   = G (w.does kind node at_).best (w.does kind node at_).next (w.does kind node at_).bad (cellsL (w.does kind node at_).rs) (w.does kind node at_).all (w.does kind node at_).way (w.does kind node at_).c.tab := by
 have h5 := h.five
 have hw := h.way
 have ha := h.all
 have hs := h.some_
 have hk := nodeOf_lt node
 have hkl : nodeOf node < w.rs.length := by omega
 have hok := h.ok _ (nthR_mem hkl)
 have hi := Ward.op_Inv h kind node at_
 unfold F13_127
 have ew : IntKind.i64.wrap (ofN w.all.length - 1) = ((w.all.length - 1 : Nat) : Int) := by rw [wrap_of (by unfold ofN; omega) (by unfold ofN; omega)]; unfold ofN; omega
 rw [ew, within_of (by omega), cond_true, Int.toNat_natCast]
 by_cases h0 : kind = 0
 ·rw [eq_true h0, cond_true]
  refine (cmd_ok (R := R) hf hn w h kind node at_ h0 (fun a b c d e => k0 a b c d e)).trans ?_
  rw [e0]
  have e : (w.does kind node at_).all = w.all /\ (w.does kind node at_).c = w.c := by
   unfold Ward.does Ward.look Ward.op; rw [if_pos h0]; exact ⟨rfl, rfl⟩
  rw [e.1, e.2]
 ·rw [eq_false h0, cond_false]
  obtain ⟨s1, s2, s3⟩ := op_same w (kind := kind) (node := node) (at_ := at_) h0
  by_cases h1 : kind = 1
  ·rw [eq_true h1, cond_true]
   have hop : w.op kind node at_ = { w with way := w.way ++ (nthR w.rs (nodeOf node)).again } := by
    unfold Ward.op; simp only [if_neg h0, if_pos h1]
   have hl := again_len (nthR w.rs (nodeOf node))
   simp only [letR, letD, elem_nth hkl, c0, c1, c2, c3, c4, c5, c6, c7, c8, c9, c10, c11]
   rw [again_ok hf hok (by omega), nth_same hkl, fits_of (by omega) (by omega), cond_true]
   unfold Ward.does
   rw [hop] at hi ⊢
   refine (lookW (R := R) hf (by omega) _ hi _).trans ?_
   rw [e0]; rfl
  ·rw [eq_false h1, cond_false]
   have key : ∀ x1, x1 = (decide (kind = 2) || decide (kind = 3)) -> ∀ (a0 a1 : List (List D) -> List (List D) -> Option R) (a2 : List (List D) -> List (D × List D) -> Option R) (a3 : List (List D) -> Option R) (a4 : List (List D) -> List (D × List D) -> List (List D) -> Option R),
     (∀ a b, a0 a b = F39 fu a w.all b w.best w.next w.bad w.c.tab fun x y z => G x w.next y z w.all b w.c.tab) -> (∀ a b, a1 a b = F39 fu a w.all b w.best w.next w.bad w.c.tab fun x y z => G x w.next y z w.all b w.c.tab) -> (∀ a t, a2 a t = F39 fu a w.all w.way w.best w.next w.bad t fun x y z => G x w.next y z w.all w.way t) -> (∀ a, a3 a = F39 fu a w.all w.way w.best w.next w.bad w.c.tab fun x y z => G x w.next y z w.all w.way w.c.tab) -> (∀ a t l, a4 a t l = F39 fu a l w.way w.best w.next w.bad t fun x y z => G x w.next y z l w.way t) ->
     F13_65375 fu (nodeOf node : Nat) (nodeOf node) (atOf w.way at_) kind x1 w.best w.next w.bad (cellsL w.rs) w.all w.way w.c.tab kind at_ (cell 0 w.newest).toInt (cell 1 w.newest).toRows (cell 2 w.newest).toBool a0 a1 a2 a3 a4
      = G (w.does kind node at_).best (w.does kind node at_).next (w.does kind node at_).bad (cellsL (w.does kind node at_).rs) (w.does kind node at_).all (w.does kind node at_).way (w.does kind node at_).c.tab := by
    intro x1 hx a0 a1 a2 a3 a4 f0 f1 f2 f3 f4
    refine (rest_ok (R := R) hf hn w h kind node at_ x1 hx h0 h1 (fun a l b t => F39 fu a l b w.best w.next w.bad t fun x y z => G x w.next y z l b t) a0 a1 a2 a3 a4 f0 f1 f2 f3 f4).trans ?_
    have := lookW (R := R) hf (by omega) (w.op kind node at_) hi (fun x y z => G x w.next y z (w.op kind node at_).all (w.op kind node at_).way (w.op kind node at_).c.tab)
    rw [s1, s2, s3] at this
    refine this.trans ?_
    rw [<- s2]; rfl
   by_cases h2 : kind = 2
   ·have h3 : ¬ kind = 3 := by omega
    rw [eq_true h2, cond_true]
    exact key true (by rw [eq_true h2]; rfl) _ _ _ _ _ (fun a b => by simp only [e1]) (fun a b => by simp only [e0]) (fun a t => by simp only [e2]) (fun a => by simp only [e3]) (fun a t l => by simp only [e4])
   ·rw [eq_false h2, cond_false]
    exact key (decide (kind = 3)) (by rw [eq_false h2]; rfl) _ _ _ _ _ (fun a b => by simp only [e1]) (fun a b => by simp only [e0]) (fun a t => by simp only [e2]) (fun a => by simp only [e3]) (fun a t l => by simp only [e4])
theorem does_15 {fu n : Nat} (hf : 1001 <= fu) (hn : n <= 900) (w : Ward) (h : w.Inv n) (kind node at_ : Int) (kk : Int) (hkk : kk = (nodeOf node : Nat)) (G : List (List D) -> Int -> Bool -> List (List D) -> List (List D) -> List (List D) -> List (D × List D) -> Option R)
  (k0 : List (List D) -> Int -> Bool -> List (List D) -> List (List D) -> Option R) (k1 : List (List D) -> Bool -> List (List D) -> List (List D) -> Option R) (k2 : List (List D) -> Bool -> List (List D) -> List (D × List D) -> Option R) (k3 : List (List D) -> Bool -> List (List D) -> Option R) (k4 : List (List D) -> Bool -> List (List D) -> List (D × List D) -> List (List D) -> Option R)
  (e0 : ∀ b x bd r y, k0 b x bd r y = G b x bd r w.all y w.c.tab) (e1 : ∀ b bd r y, k1 b bd r y = G b w.next bd r w.all y w.c.tab) (e2 : ∀ b bd r t, k2 b bd r t = G b w.next bd r w.all w.way t) (e3 : ∀ b bd r, k3 b bd r = G b w.next bd r w.all w.way w.c.tab) (e4 : ∀ b bd r t l, k4 b bd r t l = G b w.next bd r l w.way t) :
  F13_15 fu kk w.best w.next w.bad (cellsL w.rs) w.all w.way w.c.tab kind at_ k0 k1 k2 k3 k4
   = G (w.does kind node at_).best (w.does kind node at_).next (w.does kind node at_).bad (cellsL (w.does kind node at_).rs) (w.does kind node at_).all (w.does kind node at_).way (w.does kind node at_).c.tab := by
 have h5 := h.five
 have hk := nodeOf_lt node
 subst hkk
 unfold F13_15
 rw [within_of (by rw [cellsL_len]; omega), cond_true, Int.toNat_natCast]
 have hat : ∀ x, x = (decide (0 < w.way.length) && decide (0 <= at_)) -> (if x then at_.tmod (w.way.length : Int) else -1) = atOf w.way at_ := fun x hx => by
  subst hx
  unfold atOf
  by_cases a : 0 < w.way.length <;> by_cases b : 0 <= at_ <;> simp [a, b]
 by_cases hl : 0 < w.way.length
 ·rw [lt_true (show (0 : Int) < ofN w.way.length by unfold ofN; omega), cond_true, at_253 _ _ _ _ (fun _ => hl), hat _ (by rw [decide_eq_true hl]; rfl)]
  exact does_127 hf hn w h kind node at_ G _ _ _ _ _ e0 e1 e2 e3 e4
 ·rw [lt_false (show ¬ (0 : Int) < ofN w.way.length by unfold ofN; omega), cond_false, at_253 _ _ _ _ (fun q => by cases q), hat _ (by rw [decide_eq_false hl]; rfl)]
  exact does_127 hf hn w h kind node at_ G _ _ _ _ _ e0 e1 e2 e3 e4
theorem does_ok {fu n : Nat} (hf : 1001 <= fu) (hn : n <= 900) (w : Ward) (h : w.Inv n) (o : List D) (G : List (List D) -> Int -> Bool -> List (List D) -> List (List D) -> List (List D) -> List (D × List D) -> Option R)
  (k0 : List (List D) -> Int -> Bool -> List (List D) -> List (List D) -> Option R) (k1 : List (List D) -> Bool -> List (List D) -> List (List D) -> Option R) (k2 : List (List D) -> Bool -> List (List D) -> List (D × List D) -> Option R) (k3 : List (List D) -> Bool -> List (List D) -> Option R) (k4 : List (List D) -> Bool -> List (List D) -> List (D × List D) -> List (List D) -> Option R)
  (e0 : ∀ b x bd r y, k0 b x bd r y = G b x bd r w.all y w.c.tab) (e1 : ∀ b bd r y, k1 b bd r y = G b w.next bd r w.all y w.c.tab) (e2 : ∀ b bd r t, k2 b bd r t = G b w.next bd r w.all w.way t) (e3 : ∀ b bd r, k3 b bd r = G b w.next bd r w.all w.way w.c.tab) (e4 : ∀ b bd r t l, k4 b bd r t l = G b w.next bd r l w.way t) :
  F13 fu o (cellsL w.rs) w.all w.way w.best w.next w.bad w.c.tab k0 k1 k2 k3 k4
   = G (w.does (cell 0 o).toInt (cell 1 o).toInt (cell 2 o).toInt).best (w.does (cell 0 o).toInt (cell 1 o).toInt (cell 2 o).toInt).next (w.does (cell 0 o).toInt (cell 1 o).toInt (cell 2 o).toInt).bad (cellsL (w.does (cell 0 o).toInt (cell 1 o).toInt (cell 2 o).toInt).rs) (w.does (cell 0 o).toInt (cell 1 o).toInt (cell 2 o).toInt).all (w.does (cell 0 o).toInt (cell 1 o).toInt (cell 2 o).toInt).way (w.does (cell 0 o).toInt (cell 1 o).toInt (cell 2 o).toInt).c.tab := by
 rw [F13_eq]
 unfold Fb13
 generalize (cell 0 o).toInt = kind
 generalize (cell 1 o).toInt = node
 generalize (cell 2 o).toInt = at_
 by_cases h0 : node < 0
 ·rw [lt_true h0, cond_true]
  exact does_15 hf hn w h kind node at_ 0 (by unfold nodeOf; rw [if_pos h0]; rfl) G _ _ _ _ _ e0 e1 e2 e3 e4
 ·rw [lt_false h0, cond_false]
  by_cases h5 : 5 <= node
  ·rw [le_true h5, cond_true]
   exact does_15 hf hn w h kind node at_ 0 (by unfold nodeOf; rw [if_neg h0, if_pos h5]; rfl) G _ _ _ _ _ e0 e1 e2 e3 e4
  ·rw [le_false h5, cond_false]
   exact does_15 hf hn w h kind node at_ node (by unfold nodeOf; rw [if_neg h0, if_neg h5]; omega) G _ _ _ _ _ e0 e1 e2 e3 e4
end Go.Proofs.Ythlbahcggmbfaaa.V

namespace Go.Proofs.Ythlbahcggmbfaaa.V
variable {R : Type}
theorem contains_ok (fu : Nat) (s : List (List D)) (v : Int) (hs : s.length <= 1000) (hf : 1001 <= fu) (k : Bool -> Option R) : F60 fu s v k = k (decide (0 <= atL s v)) := by
 rw [F60_eq]; unfold Fb60; exact index_ok fu s v hs hf _
theorem members_loop (fu : Nat) (hf : 1001 <= fu) (l : List (List D)) (hl : l.length <= 100) (hg : ∀ i < l.length, ((0 <= (cell 0 (elem i l)).toInt /\ (cell 0 (elem i l)).toInt < 100) /\ atL (part l 0 i) (cell 0 (elem i l)).toInt < 0)) (k0 k1 : Option R) : ∀ (n i : Nat), l.length + 1 <= i + n -> i <= l.length ->
  F56_26 fu l l (ofN l.length) n (i : Int) k0 k1 = k1 := by
 intro n
 induction n with
 | zero => intro i h1 h2; omega
 | succ n ih =>
  intro i h1 h2
  unfold F56_26
  by_cases hi : i < l.length
  ·obtain ⟨g1, g2⟩ := hg i hi
   rw [lt_true (show (i : Int) < ofN l.length by unfold ofN; omega), cond_true, within_of hi, cond_true, Int.toNat_natCast, node_ok, decide_eq_true g1]
   have q : (decide ((0 : Int) <= 0 /\ 0 <= (i : Int)) && upTo (i : Int) l.length) = true := by
    unfold upTo; rw [Bool.and_eq_true]; exact ⟨decide_eq_true ⟨Int.le_refl _, by omega⟩, decide_eq_true ⟨by omega, by omega⟩⟩
   have hp : (part l 0 i).length <= 1000 := by unfold part; simp only [List.length_drop, List.length_take]; omega
   rw [Bool.not_true, cond_false, q, cond_true, contains_ok fu _ _ hp hf, le_false (by omega), cond_false, wrap_succ (by omega)]
   exact ih (i + 1) (by omega) (by omega)
  ·rw [lt_false (show ¬ (i : Int) < ofN l.length by unfold ofN; omega), cond_false]
def memsL (m : Nat) : List (List D) := (List.range m).map fun k => [D.int (k : Nat)]
theorem memsL_len (m : Nat) : (memsL m).length = m := by simp [memsL]
theorem memsL_succ (m : Nat) : memsL (m + 1) = memsL m ++ [[D.int (m : Nat)]] := by simp [memsL, List.range_succ]
theorem members_ok (fu : Nat) (hf : 1001 <= fu) (m : Nat) (h1 : 1 <= m) (h2 : m <= 4) (k : Bool -> Option R) : F56 fu (memsL m) k = k true := by
 rw [F56_eq]
 unfold Fb56
 have hl := memsL_len m
 have hg : ∀ i < (memsL m).length, ((0 <= (cell 0 (elem i (memsL m))).toInt /\ (cell 0 (elem i (memsL m))).toInt < 100) /\ atL (part (memsL m) 0 i) (cell 0 (elem i (memsL m))).toInt < 0) := by
  have : m = 1 \/ m = 2 \/ m = 3 \/ m = 4 := by omega
  rcases this with rfl | rfl | rfl | rfl <;> decide
 have := members_loop (R := R) fu hf (memsL m) (by omega) hg (k false) (bif decide (1 <= ofN (memsL m).length) then (k (decide (ofN (memsL m).length <= 7))) else (k false)) fu 0 (by omega) (by omega)
 refine this.trans ?_
 rw [hl, le_true (show (1 : Int) <= ofN m by unfold ofN; omega), cond_true, le_true (show ofN m <= 7 by unfold ofN; omega)]
def rep0 (k : Nat) : Rep := ⟨(k : Nat), 0, [], false, [], false, 0, 0, 0, 0, false, 0⟩
def reps (n : Nat) : List Rep := (List.range n).map rep0
theorem reps_succ (n : Nat) : reps (n + 1) = reps n ++ [rep0 n] := by simp [reps, List.range_succ]
theorem new0 {fu : Nat} (x : Int) (k : Int -> List (List D) -> Bool -> List (List D) -> Option R) : F29 fu x [D.int 0, D.row [], D.bool false, D.row []] k = k 0 [] false [] :=
 new_ok (rep0 0) x (by simp [rep0]) (by simp [rep0]) k
theorem begin_loop (fu : Nat) (many : Nat) (hm : many <= 4) (k0 : List (List D) -> List (List D) -> Option R) : ∀ (n i : Nat), 6 <= i + n -> i <= 5 ->
  F11_250 fu (many : Int) n (i : Int) (memsL (min i many)) (cellsL (reps i)) k0 = k0 (memsL many) (cellsL (reps 5)) := by
 intro n
 induction n with
 | zero => intro i h1 h2; omega
 | succ n ih =>
  intro i h1 h2
  unfold F11_250
  by_cases hi : i < 5
  ·have hy : cellsL (reps i) ++ [[D.int (i : Nat), D.int 0, D.row [], D.bool false, D.row [], D.bool false, D.int 0, D.int 0, D.int 0, D.int 0, D.bool false, D.int 0]] = cellsL (reps (i + 1)) := by
    rw [reps_succ]; simp [cellsL, rep0, Rep.cells]
   have hyl : (cellsL (reps i)).length = i := by simp [cellsL, reps]
   have hml := memsL_len (min i many)
   rw [lt_true (show (i : Int) < 5 by omega), cond_true, hyl, hml]
   by_cases hb : i < many
   ·rw [lt_true (show (i : Int) < (many : Int) by omega), cond_true, fits_of (by omega) (by omega), cond_true, new0, fits_of (by omega) (by omega), cond_true, hy, wrap_succ (by omega)]
    have e : memsL (min i many) ++ [[D.int (i : Nat)]] = memsL (min (i + 1) many) := by
     rw [show min (i + 1) many = i + 1 by omega, show min i many = i by omega, memsL_succ]
    rw [e]
    exact ih (i + 1) (by omega) (by omega)
   ·rw [lt_false (show ¬ (i : Int) < (many : Int) by omega), cond_false, new0, fits_of (by omega) (by omega), cond_true, hy, wrap_succ (by omega), show min i many = min (i + 1) many by omega]
    exact ih (i + 1) (by omega) (by omega)
  ·rw [lt_false (show ¬ (i : Int) < 5 by omega), cond_false, show i = 5 by omega, show min 5 many = many by omega]
def Cf.first (m : Nat) : Cf := ⟨1, memsL m, false⟩
def Ward.begin (m : Nat) : Ward := ⟨reps 5, [(Cf.first m).d], [], [], 0, false, Cf.first m⟩
theorem begin_Inv (m : Nat) (hm : m <= 4) : (Ward.begin m).Inv 0 := by
 have hl := memsL_len m
 refine ⟨by simp [Ward.begin, reps], ?_, by simp [Ward.begin], by simp [Ward.begin], ?_, by simp [Ward.begin], by simp [Ward.begin], by show (memsL m).length <= 100; omega⟩
 ·intro r hr
  obtain ⟨k, _, rfl⟩ := List.mem_map.1 hr
  exact ⟨by simp [rep0], by simp [rep0], Int.le_refl _, Int.le_refl _, Int.le_refl _, Int.le_refl _, Int.le_refl _, Int.le_refl _⟩
 ·intro c hc
  rw [show (Ward.begin m).all = [(Cf.first m).d] from rfl, List.mem_singleton] at hc
  subst hc
  show (memsL m).length <= 100; omega
theorem or4 (kd sh ep nd : Int) (mb : List (List D)) : (cell 4 [D.int kd, D.int sh, D.int ep, D.int nd, D.row mb]).toRows = mb := of_eq_true (eq_self _)
theorem start_ok (fu : Nat) (hf : 1001 <= fu) (m : Nat) (h1 : 1 <= m) (h2 : m <= 4) (k0 : Int -> List (D × List D) -> Option R) :
  F35v fu [D.int 0, D.int 0, D.int 0, D.int 0, D.row (memsL m)] [] k0 = k0 0 (Cf.first m).tab := by
 rw [F35v_eq]
 unfold Fb35v
 simp only [or0, or1, or2, or3, or4]
 have hl := memsL_len m
 rw [lt_false (show ¬ (0 : Int) < 0 by omega), cond_false, lt_false (show ¬ (3 : Int) < 0 by omega), cond_false, cond_false, le_false (show ¬ (10 : Int) <= 0 by omega), cond_false, decide_true, cond_true, show mhas ([] : List (D × List D)) (D.int 0) = false from rfl, cond_false, members_ok fu hf m h1 h2, Bool.not_true, cond_false, fits_of (by omega) (by omega), cond_true]
 rfl
theorem begin_ok {fu : Nat} (hf : 1001 <= fu) (m : Nat) (h1 : 1 <= m) (h2 : m <= 4) (k0 : Option R) (k1 : List (List D) -> List (List D) -> List (D × List D) -> Option R) :
  F11 fu (m : Int) k0 k1 = k1 (cellsL (Ward.begin m).rs) (Ward.begin m).all (Ward.begin m).c.tab := by
 rw [F11_eq]
 unfold Fb11
 rw [F34_eq]
 unfold Fb34
 have := begin_loop (R := R) fu m h2 (fun o_0 o_1 => F35v fu [D.int 0, D.int 0, D.int 0, D.int 0, D.row o_0] [] fun o_2 o_3 => bif !decide (o_2 = 0) then (k0) else F36 fu o_1 [] [] [] 0 false o_3 fun o_4 => (k1 o_1 o_4 o_3)) fu 0 (by omega) (by omega)
 refine this.trans ?_
 rw [start_ok fu hf m h1 h2, eq_true (show (0 : Int) = 0 from rfl), Bool.not_true, cond_false, note_ok fu (Cf.first m) (by have := memsL_len m; show (memsL m).length <= 100; omega) (cellsL (reps 5)) [] [] [] 0 false (by simp)]
 rfl
def Ward.op3 (w : Ward) (o : List D) : Ward := w.does (cell 0 o).toInt (cell 1 o).toInt (cell 2 o).toInt
def Ward.all3 (w : Ward) : List (List D) -> Ward
 | [] => w
 | o :: l => (w.op3 o).all3 l
theorem all3_Inv : ∀ (l : List (List D)) (w : Ward) (n : Nat), w.Inv n -> (w.all3 l).Inv (n + l.length)
 | [], _, _, h => h
 | o :: l, w, n, h => by
  have := all3_Inv l (w.op3 o) (n + 1) (Ward.does_Inv h _ _ _)
  rw [List.length_cons, show n + (l.length + 1) = n + 1 + l.length by omega]
  exact this
def ops3 : List (List D) := [[D.int 5, D.int 0, D.int (-1)], [D.int 5, D.int 1, D.int (-1)], [D.int 0, D.int 0, D.int 0]]
theorem awake_loop1 {fu : Nat} (hf : 1001 <= fu) (k0 : List (List D) -> Int -> Bool -> List (List D) -> List (List D) -> List (List D) -> List (D × List D) -> Option R) : ∀ (n i m : Nat) (w : Ward), w.Inv m -> m + 3 <= 900 + i -> 4 <= i + n -> i <= 3 ->
  F10_122 fu 3 ops3 n (i : Int) w.best w.next w.bad (cellsL w.rs) w.all w.way w.c.tab k0 = k0 (w.all3 (ops3.drop i)).best (w.all3 (ops3.drop i)).next (w.all3 (ops3.drop i)).bad (cellsL (w.all3 (ops3.drop i)).rs) (w.all3 (ops3.drop i)).all (w.all3 (ops3.drop i)).way (w.all3 (ops3.drop i)).c.tab := by
 intro n
 induction n with
 | zero => intro i m w h h1 h2 h3; omega
 | succ n ih =>
  intro i m w h h1 h2 h3
  unfold F10_122
  by_cases hi : i < 3
  ·have hl : i < ops3.length := hi
   rw [lt_true (show (i : Int) < 3 by omega), cond_true, within_of hl, cond_true, Int.toNat_natCast, wrap_succ (by omega)]
   have hd : ops3.drop i = elem i ops3 :: ops3.drop (i + 1) := by
    rw [List.drop_eq_getElem_cons hl]; unfold elem; rw [List.getD_eq_getElem?_getD, List.getElem?_eq_getElem hl]; rfl
   have := does_ok (R := R) hf (by omega) w h [D.int (cell 0 (elem i ops3)).toInt, D.int (cell 1 (elem i ops3)).toInt, D.int (cell 2 (elem i ops3)).toInt] (fun b x bd r l y t => F10_122 fu 3 ops3 n ((i + 1 : Nat) : Int) b x bd r l y t k0) _ _ _ _ _ (fun _ _ _ _ _ => rfl) (fun _ _ _ _ => rfl) (fun _ _ _ _ => rfl) (fun _ _ _ => rfl) (fun _ _ _ _ _ => rfl)
   refine this.trans ?_
   rw [hd]
   exact ih (i + 1) (m + 1) (w.op3 (elem i ops3)) (Ward.does_Inv h _ _ _) (by omega) (by omega) (by omega)
  ·rw [lt_false (show ¬ (i : Int) < 3 by omega), cond_false, List.drop_eq_nil_of_le (show ops3.length <= i by show 3 <= i; omega)]
   rfl
def comeOp : List D := [D.int 2, D.int 0, D.int 0]
theorem awake_loop2 {fu : Nat} (hf : 1001 <= fu) (k0 : List (List D) -> Int -> Bool -> List (List D) -> List (List D) -> List (List D) -> List (D × List D) -> Option R) : ∀ (n i m : Nat) (w : Ward), w.Inv m -> m + 9 <= 900 + i -> 10 <= i + n -> i <= 9 ->
  F10_250 fu n (i : Int) w.best w.next w.bad (cellsL w.rs) w.all w.way w.c.tab k0 = k0 (w.all3 (List.replicate (9 - i) comeOp)).best (w.all3 (List.replicate (9 - i) comeOp)).next (w.all3 (List.replicate (9 - i) comeOp)).bad (cellsL (w.all3 (List.replicate (9 - i) comeOp)).rs) (w.all3 (List.replicate (9 - i) comeOp)).all (w.all3 (List.replicate (9 - i) comeOp)).way (w.all3 (List.replicate (9 - i) comeOp)).c.tab := by
 intro n
 induction n with
 | zero => intro i m w h h1 h2 h3; omega
 | succ n ih =>
  intro i m w h h1 h2 h3
  unfold F10_250
  by_cases hi : i < 9
  ·rw [lt_true (show (i : Int) < 9 by omega), cond_true, wrap_succ (by omega)]
   have hd : List.replicate (9 - i) comeOp = comeOp :: List.replicate (9 - (i + 1)) comeOp := by
    rw [show 9 - i = (9 - (i + 1)) + 1 by omega, List.replicate_succ]
   have := does_ok (R := R) hf (by omega) w h comeOp (fun b x bd r l y t => F10_250 fu n ((i + 1 : Nat) : Int) b x bd r l y t k0) _ _ _ _ _ (fun _ _ _ _ _ => rfl) (fun _ _ _ _ => rfl) (fun _ _ _ _ => rfl) (fun _ _ _ => rfl) (fun _ _ _ _ _ => rfl)
   refine this.trans ?_
   rw [hd]
   exact ih (i + 1) (m + 1) (w.op3 comeOp) (Ward.does_Inv h _ _ _) (by omega) (by omega) (by omega)
  ·rw [lt_false (show ¬ (i : Int) < 9 by omega), cond_false, show 9 - i = 0 by omega]
   rfl
def aw : Ward := ((Ward.begin 2).all3 ops3).all3 (List.replicate 9 comeOp)
theorem aw_ok : aw.bad = false /\ (nthR aw.rs 0).commit = 1 /\ (nthR aw.rs 1).commit = 1 /\ (nthR aw.rs 0).head = true /\ (nthR aw.rs 1).tail = true /\ (nthR aw.rs 2).live = false := by decide +kernel
theorem aw_Inv : aw.Inv 12 := all3_Inv _ _ _ (all3_Inv _ _ _ (begin_Inv 2 (by omega)))
theorem live_ok {fu : Nat} (r : Rep) (k : Option R) : F21 fu r.id r.ep r.mem r.join r.row r.live r.commit r.told r.acked r.base r.heard r.need k = k := by
 rw [F21_eq]; rfl
theorem awake_ok {fu : Nat} (hf : 1001 <= fu) (k : Bool -> Option R) : F10 fu k = k true := by
 rw [F10_eq]
 unfold Fb10
 refine (begin_ok (R := R) hf 2 (by omega) (by omega) _ _).trans ?_
 refine (awake_loop1 (R := R) hf _ fu 0 0 (Ward.begin 2) (begin_Inv 2 (by omega)) (by omega) (by omega) (by omega)).trans ?_
 refine (awake_loop2 (R := R) hf _ fu 0 3 ((Ward.begin 2).all3 ops3) (all3_Inv _ _ _ (begin_Inv 2 (by omega))) (by omega) (by omega) (by omega)).trans ?_
 have haw : ((Ward.begin 2).all3 ops3).all3 (List.replicate (9 - 0) comeOp) = aw := rfl
 rw [haw]
 have hi := aw_Inv
 obtain ⟨a1, a2, a3, a4, a5, a6⟩ := aw_ok
 have h5 := hi.five
 generalize aw = w at *
 have h0 : 0 < w.rs.length := by omega
 have h1 : 1 < w.rs.length := by omega
 have h2 : 2 < w.rs.length := by omega
 have m0 := (hi.ok _ (nthR_mem h0)).mem
 have m1 := (hi.ok _ (nthR_mem h1)).mem
 have w0 : within 0 (cellsL w.rs).length = true := within_int (by omega) (by rw [cellsL_len]; omega)
 have w1 : within 1 (cellsL w.rs).length = true := within_int (by omega) (by rw [cellsL_len]; omega)
 have w2 : within 2 (cellsL w.rs).length = true := within_int (by omega) (by rw [cellsL_len]; omega)
 simp only [a1, Bool.not_false, cond_true, w0, w1, w2, letR, letD, elem_nth h0, elem_nth h1, elem_nth h2, c0, c1, c2, c3, c4, c5, c6, c7, c8, c9, c10, c11, commit_ok, live_ok, nth_same h0, nth_same h1, nth_same h2, head_ok (R := R) (r := nthR w.rs 0) hf (show (nthR w.rs 0).mem.length <= 1000 by omega), tail_ok (R := R) (r := nthR w.rs 1) hf (show (nthR w.rs 1).mem.length <= 1000 by omega)]
 simp only [a2, a3, a4, a5, a6, decide_true, cond_true, Bool.not_false]
end Go.Proofs.Ythlbahcggmbfaaa.V

namespace Go.Proofs.Ythlbahcggmbfaaa.V
structure Hist (α : Type) where
 n : Nat
 mem : Nat -> List Nat
 jn : Nat -> Bool
 ep : Nat -> Nat
 H : Nat -> Nat -> List α
 A : Nat -> Nat -> Prop
namespace Hist
variable {α : Type}
def full (s : Hist α) (e x : Nat) : Prop := x ∈ s.mem e /\ (s.jn e = true -> (s.mem e).getLast? ≠ some x)
structure Inv (s : Hist α) : Prop where
 nd : ∀ e, (s.mem e).Nodup
 out : ∀ e, s.n < e -> s.mem e = []
 mem0 : s.mem 0 = []
 epn : ∀ x, s.ep x <= s.n
 stp1 : ∀ e x y, 1 <= e -> [x, y].Sublist (s.mem (e + 1)) -> y ∈ s.mem e -> [x, y].Sublist (s.mem e)
 stp2 : ∀ e x, 1 <= e -> x ∈ s.mem (e + 1) -> (s.mem (e + 1)).getLast? ≠ some x -> s.full e x
 jw : ∀ e x, 1 <= e -> s.jn (e + 1) = true -> (s.mem (e + 1)).getLast? = some x -> ¬ s.full e x
 F : ∀ e x, 1 <= e -> s.full (e + 1) x -> s.full e x \/ (s.A x (e + 1) /\ ∃ p, s.full e p /\ e + 1 <= s.ep p /\ s.H p e <+: s.H x (e + 1))
 M : ∀ e x, 1 <= e -> s.full e x -> s.full (e + 1) x -> s.H x e <+: s.H x (e + 1)
 S : ∀ e x, ¬ s.A x (e + 1) -> s.H x (e + 1) = s.H x e
 H0 : ∀ x, s.H x 0 = []
 T : ∀ e x, s.ep x <= e -> s.H x e = s.H x (s.ep x)
 A1 : ∀ e x, s.A x e -> e <= s.ep x /\ 1 <= e
 A2 : ∀ x, 1 <= s.ep x -> s.A x (s.ep x)
 C : ∀ e x y, s.A y e -> [x, y].Sublist (s.mem e) -> s.H y e <+: s.H x e
theorem last_of_pair {l : List Nat} (hn : l.Nodup) {x y : Nat} (h : [x, y].Sublist l) : l.getLast? ≠ some x := by
 intro hl
 obtain ⟨ys, rfl⟩ := List.getLast?_eq_some_iff.1 hl
 rw [List.nodup_append] at hn
 have h2 := List.sublist_append_iff.1 h
 obtain ⟨l1, l2, e, h3, h4⟩ := h2
 have hx : x ∉ ys := fun hx => (hn.2.2 x hx x (by simp)) rfl
 cases l1 with
 | nil =>
  rw [List.nil_append] at e; subst e
  have := h4.length_le
  simp at this
 | cons a l1 =>
  injection e with e1 e2
  subst e1
  exact hx (h3.subset (List.mem_cons_self ..))
theorem pair_full {s : Hist α} (h : s.Inv) {e x y : Nat} (hp : [x, y].Sublist (s.mem e)) : s.full e x :=
 ⟨hp.subset (by simp), fun _ => last_of_pair (h.nd e) hp⟩
theorem pair_ne {l : List Nat} (hn : l.Nodup) {x y : Nat} (h : [x, y].Sublist l) : x ≠ y := by
 have := hn.sublist h
 simp at this
 exact this
theorem Inv.D {s : Hist α} (h : s.Inv) : ∀ (e x y : Nat), s.full e y -> [x, y].Sublist (s.mem e) -> s.H y e <+: s.H x e := by
 intro e
 induction e with
 | zero => intro x y hy _; rw [full, h.mem0] at hy; cases hy.1
 | succ e ih =>
  intro x y hy hp
  by_cases ha : s.A y (e + 1)
  ·exact h.C _ _ _ ha hp
  ·rw [h.S e y ha]
   by_cases he : e = 0
   ·subst he; rw [h.H0]; exact List.nil_prefix
   ·have hf : s.full e y := by
     rcases h.F e y (by omega) hy with h1 | ⟨h1, _⟩
     ·exact h1
     ·exact absurd h1 ha
    have hp2 := h.stp1 e x y (by omega) hp hf.1
    exact (ih x y hf hp2).trans (h.M e x (by omega) (pair_full h hp2) (pair_full h hp))
theorem Inv.up {s : Hist α} (h : s.Inv) {e x : Nat} (he : 1 <= e) (hn : ¬ s.full e x) : ∀ e', e < e' -> s.full e' x -> e < s.ep x := by
 intro e'
 induction e' with
 | zero => intro h1; omega
 | succ k ih =>
  intro h1 h2
  rcases h.F k x (by omega) h2 with h3 | ⟨h3, _⟩
  ·by_cases hk : k = e
   ·subst hk; exact absurd h3 hn
   ·exact ih (by omega) h3
  ·have := (h.A1 _ _ h3).1; omega
def com (s : Hist α) (e : Nat) (l : List α) : Prop := ∃ t, (s.mem e).getLast? = some t /\ s.A t e /\ l <+: s.H t e
def comm (s : Hist α) (l : List α) : Prop := l = [] \/ ∃ e, s.com e l
theorem pair_of_last {l : List Nat} {x t : Nat} (hx : x ∈ l) (ht : l.getLast? = some t) (hne : x ≠ t) : [x, t].Sublist l := by
 obtain ⟨ys, rfl⟩ := List.getLast?_eq_some_iff.1 ht
 have : x ∈ ys := by
  rcases List.mem_append.1 hx with h1 | h1
  ·exact h1
  ·simp at h1; exact absurd h1 hne
 have h2 : [x].Sublist ys := List.singleton_sublist.2 this
 exact h2.append (List.Sublist.refl [t])
theorem Inv.G {s : Hist α} (h : s.Inv) {e : Nat} {l : List α} (hc : s.com e l) : ∀ e' x, e <= e' -> s.full e' x -> l <+: s.H x e' := by
 obtain ⟨t, h1, h2, h3⟩ := hc
 have he := (h.A1 _ _ h2).2
 intro e'
 induction e' with
 | zero => intro x h4; omega
 | succ k ih =>
  intro x h4 hf
  by_cases hk : e = k + 1
  ·subst hk
   by_cases hx : x = t
   ·subst hx; exact h3
   ·exact h3.trans (h.C _ _ _ h2 (pair_of_last hf.1 h1 hx))
  ·rcases h.F k x (by omega) hf with h5 | ⟨_, p, h6, _, h7⟩
   ·exact (ih x (by omega) h5).trans (h.M k x (by omega) h5 hf)
   ·exact (ih p (by omega) h6).trans h7
theorem Inv.safe {s : Hist α} (h : s.Inv) {l : List α} (hc : s.comm l) {x : Nat} (hf : s.full s.n x) : l <+: s.H x (s.ep x) := by
 rcases hc with rfl | ⟨e, hc⟩
 ·exact List.nil_prefix
 ·have hen : e <= s.n := by
   obtain ⟨t, h1, _⟩ := hc
   apply Nat.le_of_not_lt
   intro hlt
   rw [h.out e hlt] at h1; cases h1
  have := h.G hc s.n x hen hf
  rw [h.T s.n x (h.epn x)] at this
  exact this
structure Le (s s' : Hist α) : Prop where
 n : s.n <= s'.n
 mem : ∀ e, e <= s.n -> s'.mem e = s.mem e
 A : ∀ x e, s.A x e -> s'.A x e
 H : ∀ x e, s.A x e -> s.H x e <+: s'.H x e
 old : ∀ x e, s.A x (e + 1) -> s'.H x e = s.H x e
theorem Le.refl (s : Hist α) : Le s s := ⟨Nat.le_refl _, fun _ _ => rfl, fun _ _ h => h, fun _ _ _ => List.prefix_refl _, fun _ _ _ => rfl⟩
theorem com_le {s s' : Hist α} (h : s.Inv) (hl : Le s s') {e : Nat} {l : List α} (hc : s.com e l) : s'.com e l := by
 obtain ⟨t, h1, h2, h3⟩ := hc
 have hen : e <= s.n := by
  apply Nat.le_of_not_lt
  intro hlt
  rw [h.out e hlt] at h1; cases h1
 exact ⟨t, by rw [hl.mem e hen]; exact h1, hl.A _ _ h2, h3.trans (hl.H _ _ h2)⟩
theorem comm_le {s s' : Hist α} (h : s.Inv) (hl : Le s s') {l : List α} (hc : s.comm l) : s'.comm l := by
 rcases hc with h1 | ⟨e, h1⟩
 ·exact .inl h1
 ·exact .inr ⟨e, com_le h hl h1⟩
def add (s : Hist α) (x : Nat) (c : α) : Hist α := { s with H := fun y e => if y = x /\ s.ep x <= e then s.H x (s.ep x) ++ [c] else s.H y e }
theorem add_at (s : Hist α) (x : Nat) (c : α) {e : Nat} (h : s.ep x <= e) : (s.add x c).H x e = s.H x (s.ep x) ++ [c] := if_pos ⟨rfl, h⟩
theorem add_lo (s : Hist α) (x : Nat) (c : α) {y e : Nat} (h : ¬ (y = x /\ s.ep x <= e)) : (s.add x c).H y e = s.H y e := if_neg h
theorem add_up {s : Hist α} (h : s.Inv) (x : Nat) (c : α) (y e : Nat) : s.H y e <+: (s.add x c).H y e := by
 by_cases q : y = x /\ s.ep x <= e
 ·obtain ⟨rfl, q2⟩ := q
  rw [add_at s y c q2, h.T e y q2]
  exact List.prefix_append ..
 ·rw [add_lo s x c q]; exact List.prefix_refl _
theorem add_Le {s : Hist α} (h : s.Inv) (x : Nat) (c : α) : Le s (s.add x c) :=
 ⟨Nat.le_refl _, fun _ _ => rfl, fun _ _ h => h, fun y e _ => add_up h x c y e, fun y e ha => add_lo s x c (fun q => by
  obtain ⟨rfl, q2⟩ := q
  have := (h.A1 _ _ ha).1
  omega)⟩
theorem add_Inv {s : Hist α} (h : s.Inv) (x : Nat) (c : α) (he : 1 <= s.ep x) (hc : ∀ z, [z, x].Sublist (s.mem (s.ep x)) -> s.H x (s.ep x) ++ [c] <+: s.H z (s.ep x)) : (s.add x c).Inv where
 nd := h.nd
 out := h.out
 mem0 := h.mem0
 epn := h.epn
 stp1 := h.stp1
 stp2 := h.stp2
 jw := h.jw
 F := fun e y h1 h2 => by
  rcases h.F e y h1 h2 with h3 | ⟨h3, p, h4, h5, h6⟩
  ·exact .inl h3
  ·refine .inr ⟨h3, p, h4, h5, ?_⟩
   rw [add_lo s x c (fun q => by obtain ⟨rfl, q2⟩ := q; omega)]
   exact h6.trans (add_up h x c y _)
 M := fun e y h1 h2 h3 => by
  by_cases q : y = x /\ s.ep x <= e
  ·obtain ⟨rfl, q2⟩ := q
   rw [add_at s y c q2, add_at s y c (by omega)]
   exact List.prefix_refl _
  ·rw [add_lo s x c q]
   exact (h.M e y h1 h2 h3).trans (add_up h x c y _)
 S := fun e y ha => by
  have ha : ¬ s.A y (e + 1) := ha
  by_cases q : y = x /\ s.ep x <= e + 1
  ·obtain ⟨rfl, q2⟩ := q
   have hne : s.ep y ≠ e + 1 := fun hh => ha (hh ▸ h.A2 y he)
   rw [add_at s y c q2, add_at s y c (by omega)]
  ·rw [add_lo s x c q, add_lo s x c (fun q2 => q ⟨q2.1, by omega⟩)]
   exact h.S e y ha
 H0 := fun y => by rw [add_lo s x c (fun q => by obtain ⟨rfl, q2⟩ := q; omega)]; exact h.H0 y
 T := fun e y h1 => by
  have h1 : s.ep y <= e := h1
  by_cases q : y = x
  ·subst q; rw [add_at s y c h1]; exact (add_at s y c (Nat.le_refl _)).symm
  ·rw [add_lo s x c (fun q2 => q q2.1)]
   exact (h.T e y h1).trans (add_lo s x c (fun q2 => q q2.1)).symm
 A1 := h.A1
 A2 := h.A2
 C := fun e z y ha hp => by
  have hp : [z, y].Sublist (s.mem e) := hp
  have hzy := pair_ne (h.nd e) hp
  by_cases q : y = x /\ s.ep x <= e
  ·obtain ⟨rfl, q2⟩ := q
   have h1 := (h.A1 _ _ ha).1
   have h2 : e = s.ep y := by omega
   subst h2
   rw [add_at s y c (Nat.le_refl _), add_lo s y c (fun q => hzy q.1)]
   exact hc z hp
  ·rw [add_lo s x c q]
   exact (h.C e z y ha hp).trans (add_up h x c z e)
def goes (s : Hist α) (x e : Nat) : Hist α := { s with ep := fun y => if y = x then e else s.ep y, A := fun y k => s.A y k \/ (y = x /\ k = e) }
theorem goes_ep (s : Hist α) (x e : Nat) : (s.goes x e).ep x = e := if_pos rfl
theorem goes_ne (s : Hist α) (x e : Nat) {y : Nat} (h : y ≠ x) : (s.goes x e).ep y = s.ep y := if_neg h
theorem goes_up (s : Hist α) {x e : Nat} (h : s.ep x < e) (y : Nat) : s.ep y <= (s.goes x e).ep y := by
 by_cases q : y = x
 ·subst q; rw [goes_ep]; omega
 ·rw [goes_ne s x e q]; exact Nat.le_refl _
theorem goes_Le (s : Hist α) (x e : Nat) : Le s (s.goes x e) :=
 ⟨Nat.le_refl _, fun _ _ => rfl, fun _ _ h => .inl h, fun _ _ _ => List.prefix_refl _, fun _ _ _ => rfl⟩
theorem goes_Inv {s : Hist α} (h : s.Inv) (x e : Nat) (h1 : s.ep x < e) (h2 : e <= s.n) (hf : x ∈ s.mem e -> s.full e x) : (s.goes x e).Inv where
 nd := h.nd
 out := h.out
 mem0 := h.mem0
 epn := fun y => by
  by_cases q : y = x
  ·subst q; rw [goes_ep]; exact h2
  ·rw [goes_ne s x e q]; exact h.epn y
 stp1 := h.stp1
 stp2 := h.stp2
 jw := h.jw
 F := fun k y h3 h4 => by
  rcases h.F k y h3 h4 with h5 | ⟨h5, p, h6, h7, h8⟩
  ·exact .inl h5
  ·exact .inr ⟨.inl h5, p, h6, Nat.le_trans h7 (goes_up s h1 p), h8⟩
 M := h.M
 S := fun k y ha => h.S k y (fun q => ha (.inl q))
 H0 := h.H0
 T := fun k y h3 => by
  show s.H y k = s.H y _
  by_cases q : y = x
  ·subst q
   rw [goes_ep] at h3 ⊢
   rw [h.T k y (by omega), h.T e y (by omega)]
  ·rw [goes_ne s x e q] at h3 ⊢
   exact h.T k y h3
 A1 := fun k y ha => by
  rcases ha with ha | ⟨rfl, rfl⟩
  ·exact ⟨Nat.le_trans (h.A1 k y ha).1 (goes_up s h1 y), (h.A1 k y ha).2⟩
  ·rw [goes_ep]; exact ⟨Nat.le_refl _, by omega⟩
 A2 := fun y h3 => by
  by_cases q : y = x
  ·subst q; rw [goes_ep]; exact .inr ⟨rfl, rfl⟩
  ·rw [goes_ne s x e q] at h3 ⊢
   exact .inl (h.A2 y h3)
 C := fun k z y ha hp => by
  rcases ha with ha | ⟨rfl, rfl⟩
  ·exact h.C k z y ha hp
  ·exact h.D k z y (hf (hp.subset (by simp))) hp
def fresh (s : Hist α) (x e : Nat) : Hist α := { s.goes x e with H := fun y k => if y = x /\ e <= k then [] else s.H y k }
theorem fresh_at (s : Hist α) (x : Nat) {e k : Nat} (h : e <= k) : (s.fresh x e).H x k = [] := if_pos ⟨rfl, h⟩
theorem fresh_lo (s : Hist α) (x e : Nat) {y k : Nat} (h : ¬ (y = x /\ e <= k)) : (s.fresh x e).H y k = s.H y k := if_neg h
theorem fresh_Le {s : Hist α} (h : s.Inv) (x e : Nat) (h1 : s.ep x < e) : Le s (s.fresh x e) :=
 ⟨Nat.le_refl _, fun _ _ => rfl, fun _ _ h => .inl h, fun y k ha => by
  rw [fresh_lo s x e (fun q => by obtain ⟨rfl, q2⟩ := q; have := (h.A1 _ _ ha).1; omega)]
  exact List.prefix_refl _, fun y k ha => fresh_lo s x e (fun q => by
   obtain ⟨rfl, q2⟩ := q
   have := (h.A1 _ _ ha).1
   omega)⟩
theorem fresh_Inv {s : Hist α} (h : s.Inv) (x e : Nat) (h1 : s.ep x < e) (h2 : e <= s.n) (hf : ¬ s.full e x) : (s.fresh x e).Inv := by
 have nof : ∀ k, s.full k x -> k < e := fun k hk => by
  apply Nat.lt_of_not_le
  intro hle
  by_cases q : k = e
  ·subst q; exact hf hk
  ·have := h.up (by omega) hf k (by omega) hk; omega
 have ff : ∀ k y, (s.fresh x e).full k y = s.full k y := fun _ _ => rfl
 exact {
  nd := h.nd
  out := h.out
  mem0 := h.mem0
  epn := fun y => by
   show (s.goes x e).ep y <= s.n
   by_cases q : y = x
   ·subst q; rw [goes_ep]; exact h2
   ·rw [goes_ne s x e q]; exact h.epn y
  stp1 := h.stp1
  stp2 := h.stp2
  jw := h.jw
  F := fun k y h3 h4 => by
   rcases h.F k y h3 h4 with h5 | ⟨h5, p, h6, h7, h8⟩
   ·exact .inl h5
   ·refine .inr ⟨.inl h5, p, h6, Nat.le_trans h7 (goes_up s h1 p), ?_⟩
    rw [fresh_lo s x e (fun q => by obtain ⟨rfl, q2⟩ := q; have := nof k h6; omega), fresh_lo s x e (fun q => by obtain ⟨rfl, q2⟩ := q; have := nof _ h4; omega)]
    exact h8
  M := fun k y h3 h4 h5 => by
   rw [fresh_lo s x e (fun q => by obtain ⟨rfl, q2⟩ := q; have := nof k h4; omega), fresh_lo s x e (fun q => by obtain ⟨rfl, q2⟩ := q; have := nof _ h5; omega)]
   exact h.M k y h3 h4 h5
  S := fun k y ha => by
   have ha1 : ¬ s.A y (k + 1) := fun q => ha (.inl q)
   by_cases q : y = x /\ e <= k + 1
   ·obtain ⟨rfl, q2⟩ := q
    have hne : k + 1 ≠ e := fun hh => ha (.inr ⟨rfl, hh⟩)
    rw [fresh_at s y q2, fresh_at s y (by omega)]
   ·rw [fresh_lo s x e q, fresh_lo s x e (fun q2 => q ⟨q2.1, by omega⟩)]
    exact h.S k y ha1
  H0 := fun y => by rw [fresh_lo s x e (fun q => by omega)]; exact h.H0 y
  T := fun k y h3 => by
   have h3 : (s.goes x e).ep y <= k := h3
   show (s.fresh x e).H y k = (s.fresh x e).H y ((s.goes x e).ep y)
   by_cases q : y = x
   ·subst q
    rw [goes_ep] at h3 ⊢
    rw [fresh_at s y h3, fresh_at s y (Nat.le_refl _)]
   ·rw [goes_ne s x e q] at h3 ⊢
    rw [fresh_lo s x e (fun q2 => q q2.1), fresh_lo s x e (fun q2 => q q2.1)]
    exact h.T k y h3
  A1 := fun k y ha => by
   show k <= (s.goes x e).ep y /\ 1 <= k
   rcases ha with ha | ⟨rfl, rfl⟩
   ·exact ⟨Nat.le_trans (h.A1 k y ha).1 (goes_up s h1 y), (h.A1 k y ha).2⟩
   ·rw [goes_ep]; exact ⟨Nat.le_refl _, by omega⟩
  A2 := fun y h3 => by
   have h3 : 1 <= (s.goes x e).ep y := h3
   show s.A y ((s.goes x e).ep y) \/ (y = x /\ (s.goes x e).ep y = e)
   by_cases q : y = x
   ·subst q; rw [goes_ep]; exact .inr ⟨rfl, rfl⟩
   ·rw [goes_ne s x e q] at h3 ⊢
    exact .inl (h.A2 y h3)
  C := fun k z y ha hp => by
   have hz : (s.fresh x e).H z k = s.H z k := fresh_lo s x e (fun q => by
    obtain ⟨rfl, q2⟩ := q
    have := nof k (pair_full h hp); omega)
   rw [hz]
   rcases ha with ha | ⟨rfl, rfl⟩
   ·rw [fresh_lo s x e (fun q => by obtain ⟨rfl, q2⟩ := q; have := (h.A1 _ _ ha).1; omega)]
    exact h.C k z y ha hp
   ·rw [fresh_at s y (Nat.le_refl _)]; exact List.nil_prefix }
def next (s : Hist α) (m : List Nat) (j : Bool) : Hist α := { s with n := s.n + 1, mem := fun e => if e = s.n + 1 then m else s.mem e, jn := fun e => if e = s.n + 1 then j else s.jn e }
theorem next_mem (s : Hist α) (m : List Nat) (j : Bool) {e : Nat} (h : e ≠ s.n + 1) : (s.next m j).mem e = s.mem e := if_neg h
theorem next_jn (s : Hist α) (m : List Nat) (j : Bool) {e : Nat} (h : e ≠ s.n + 1) : (s.next m j).jn e = s.jn e := if_neg h
theorem next_memN (s : Hist α) (m : List Nat) (j : Bool) : (s.next m j).mem (s.n + 1) = m := if_pos rfl
theorem next_jnN (s : Hist α) (m : List Nat) (j : Bool) : (s.next m j).jn (s.n + 1) = j := if_pos rfl
theorem next_full (s : Hist α) (m : List Nat) (j : Bool) {e : Nat} (h : e ≠ s.n + 1) (x : Nat) : (s.next m j).full e x ↔ s.full e x := by
 unfold full; rw [next_mem s m j h, next_jn s m j h]
theorem next_Le (s : Hist α) (m : List Nat) (j : Bool) : Le s (s.next m j) :=
 ⟨Nat.le_succ _, fun e he => next_mem s m j (by omega), fun _ _ h => h, fun _ _ _ => List.prefix_refl _, fun _ _ _ => rfl⟩
theorem next_Inv {s : Hist α} (h : s.Inv) (m : List Nat) (j : Bool) (hn : 1 <= s.n) (nd : m.Nodup)
  (s1 : ∀ x y, [x, y].Sublist m -> y ∈ s.mem s.n -> [x, y].Sublist (s.mem s.n))
  (s2 : ∀ x, x ∈ m -> m.getLast? ≠ some x -> s.full s.n x)
  (s3 : ∀ x, j = true -> m.getLast? = some x -> ¬ s.full s.n x)
  (s4 : ∀ x, j = false -> m.getLast? = some x -> s.full s.n x) : (s.next m j).Inv where
 nd := fun e => by
  by_cases q : e = s.n + 1
  ·subst q; rw [next_memN]; exact nd
  ·rw [next_mem s m j q]; exact h.nd e
 out := fun e he => by
  have he : s.n + 1 < e := he
  rw [next_mem s m j (by omega)]; exact h.out e (by omega)
 mem0 := by rw [next_mem s m j (by omega)]; exact h.mem0
 epn := fun x => Nat.le_succ_of_le (h.epn x)
 stp1 := fun e x y he => by
  by_cases q : e = s.n
  ·subst q; rw [next_memN, next_mem s m j (by omega)]; exact s1 x y
  ·by_cases q2 : e = s.n + 1
   ·subst q2; rw [next_mem s m j (by omega), h.out _ (by omega)]; intro hh; have := hh.length_le; simp at this
   ·rw [next_mem s m j (by omega), next_mem s m j q2]; exact h.stp1 e x y he
 stp2 := fun e x he => by
  by_cases q : e = s.n
  ·subst q; rw [next_memN, next_full s m j (by omega)]; exact s2 x
  ·by_cases q2 : e = s.n + 1
   ·subst q2; rw [next_mem s m j (by omega), h.out _ (by omega)]; intro hh; cases hh
   ·rw [next_mem s m j (by omega), next_full s m j q2]; exact h.stp2 e x he
 jw := fun e x he => by
  by_cases q : e = s.n
  ·subst q; rw [next_memN, next_jnN, next_full s m j (by omega)]; exact s3 x
  ·by_cases q2 : e = s.n + 1
   ·subst q2; rw [next_mem s m j (by omega), h.out _ (by omega)]; intro _ hh; cases hh
   ·rw [next_mem s m j (by omega), next_jn s m j (by omega), next_full s m j q2]; exact h.jw e x he
 F := fun e x he hf => by
  by_cases q : e = s.n
  ·subst q
   refine .inl ?_
   rw [next_full s m j (by omega)]
   obtain ⟨f1, f2⟩ := hf
   rw [next_memN] at f1 f2
   rw [next_jnN] at f2
   by_cases hl : m.getLast? = some x
   ·cases hj : j with
    | true => exact absurd hl (f2 hj)
    | false => exact s4 x hj hl
   ·exact s2 x f1 hl
  ·by_cases q2 : e = s.n + 1
   ·subst q2; rw [full, next_mem s m j (by omega), h.out _ (by omega)] at hf; cases hf.1
   ·rw [next_full s m j (by omega)] at hf
    rw [next_full s m j q2]
    rcases h.F e x he hf with h1 | ⟨h1, p, h2, h3⟩
    ·exact .inl h1
    ·exact .inr ⟨h1, p, (next_full s m j q2 p).2 h2, h3⟩
 M := fun e x he h1 h2 => by
  show s.H x e <+: s.H x (e + 1)
  by_cases q : e = s.n
  ·subst q
   rw [h.T (s.n + 1) x (Nat.le_succ_of_le (h.epn x)), h.T s.n x (h.epn x)]
   exact List.prefix_refl _
  ·by_cases q2 : e = s.n + 1
   ·subst q2; rw [full, next_mem s m j (by omega), h.out _ (by omega)] at h2; cases h2.1
   ·rw [next_full s m j q2] at h1
    rw [next_full s m j (by omega)] at h2
    exact h.M e x he h1 h2
 S := h.S
 H0 := h.H0
 T := h.T
 A1 := h.A1
 A2 := h.A2
 C := fun e x y ha hp => by
  have h1 := (h.A1 e y ha).1
  have h2 := h.epn y
  rw [next_mem s m j (by omega)] at hp
  exact h.C e x y ha hp
def fills (s : Hist α) : Hist α := { s with jn := fun e => if e = s.n then false else s.jn e }
theorem fills_Le (s : Hist α) : Le s s.fills := ⟨Nat.le_refl _, fun _ _ => rfl, fun _ _ h => h, fun _ _ _ => List.prefix_refl _, fun _ _ _ => rfl⟩
theorem fills_jn (s : Hist α) {e : Nat} (h : e ≠ s.n) : s.fills.jn e = s.jn e := if_neg h
theorem fills_jnN (s : Hist α) : s.fills.jn s.n = false := if_pos rfl
theorem fills_full (s : Hist α) {e : Nat} (h : e ≠ s.n) (x : Nat) : s.fills.full e x ↔ s.full e x := by
 unfold full; rw [fills_jn s h]; exact Iff.rfl
theorem fills_of (s : Hist α) {e x : Nat} (h : s.full e x) : s.fills.full e x := by
 by_cases q : e = s.n
 ·subst q; exact ⟨h.1, fun hj => by rw [fills_jnN] at hj; cases hj⟩
 ·exact (fills_full s q x).2 h
theorem fills_Inv {s : Hist α} (h : s.Inv) (e0 : Nat) (he0 : 1 <= e0) (hn : s.n = e0 + 1) (x p : Nat) (hj : s.jn s.n = true) (hx : (s.mem s.n).getLast? = some x) (ha : s.A x s.n) (hp : s.full e0 p) (hpe : s.n <= s.ep p) (hh : s.H p e0 <+: s.H x s.n) : s.fills.Inv where
 nd := h.nd
 out := h.out
 mem0 := h.mem0
 epn := h.epn
 stp1 := h.stp1
 stp2 := fun e y h1 h2 h3 => fills_of s (h.stp2 e y h1 h2 h3)
 jw := fun e y h1 h2 h3 => by
  by_cases q : e + 1 = s.n
  ·rw [q, fills_jnN] at h2; cases h2
  ·rw [fills_jn s q] at h2
   by_cases q2 : e = s.n
   ·subst q2
    have h3 : (s.mem (s.n + 1)).getLast? = some y := h3
    rw [h.out _ (by omega)] at h3; cases h3
   ·rw [fills_full s q2]; exact h.jw e y h1 h2 h3
 F := fun e y h1 h2 => by
  by_cases q : e + 1 = s.n
  ·have he : e = e0 := by omega
   subst he
   by_cases hy : y = x
   ·subst hy
    rw [q]
    exact .inr ⟨ha, p, (fills_full s (by omega) p).2 hp, hpe, hh⟩
   ·have : s.full (e + 1) y := ⟨h2.1, fun _ hl => by rw [q, hx] at hl; injection hl with hl; exact hy hl.symm⟩
    rcases h.F e y h1 this with h3 | ⟨h3, p2, h4, h5⟩
    ·exact .inl ((fills_full s (by omega) y).2 h3)
    ·exact .inr ⟨h3, p2, (fills_full s (by omega) p2).2 h4, h5⟩
  ·rw [fills_full s q] at h2
   rcases h.F e y h1 h2 with h3 | ⟨h3, p2, h4, h5⟩
   ·exact .inl (fills_of s h3)
   ·exact .inr ⟨h3, p2, fills_of s h4, h5⟩
 M := fun e y h1 h2 h3 => by
  show s.H y e <+: s.H y (e + 1)
  by_cases q : e = s.n
  ·subst q
   have h3 : y ∈ s.mem (s.n + 1) := h3.1
   rw [h.out _ (by omega)] at h3; cases h3
  ·rw [fills_full s q] at h2
   by_cases q2 : e + 1 = s.n
   ·have : s.full (e + 1) y := ⟨h3.1, fun _ hl => by
     rw [q2, hx] at hl; injection hl with hl; subst hl
     exact h.jw e x h1 (by rw [q2]; exact hj) (by rw [q2]; exact hx) h2⟩
    exact h.M e y h1 h2 this
   ·rw [fills_full s q2] at h3
    exact h.M e y h1 h2 h3
 S := h.S
 H0 := h.H0
 T := h.T
 A1 := h.A1
 A2 := h.A2
 C := h.C
end Hist
end Go.Proofs.Ythlbahcggmbfaaa.V

namespace Go.Proofs.Ythlbahcggmbfaaa.V
def memD (l : List Nat) : List (List D) := l.map fun k => [D.int (k : Nat)]
theorem memD_len (l : List Nat) : (memD l).length = l.length := by simp [memD]
theorem elem_memD {l : List Nat} {i : Nat} (h : i < l.length) : (cell 0 (elem i (memD l))).toInt = (l[i] : Nat) := by
 unfold elem memD
 rw [List.getD_eq_getElem?_getD, List.getElem?_map, List.getElem?_eq_getElem h]; rfl
theorem atG_memD (v : Nat) : ∀ (l : List Nat) (i : Nat), (v ∈ l -> ∃ a b, l = a ++ v :: b /\ v ∉ a /\ atG v (memD l) i = ((i + a.length : Nat) : Int)) /\ (v ∉ l -> atG v (memD l) i = -1)
 | [], i => ⟨fun h => (by cases h), fun _ => rfl⟩
 | x :: l, i => by
  have hc : (cell 0 ([D.int ((x : Nat) : Int)] : List D)).toInt = (x : Int) := of_eq_true (eq_self _)
  obtain ⟨h1, h2⟩ := atG_memD v l (i + 1)
  have e : memD (x :: l) = [D.int (x : Nat)] :: memD l := rfl
  rw [e]
  by_cases hx : v = x
  ·subst hx
   refine ⟨fun _ => ⟨[], l, rfl, (by simp), ?_⟩, fun h => absurd (List.mem_cons_self ..) h⟩
   unfold atG; rw [hc, if_pos rfl]; rfl
  ·have hne : ¬ (v : Int) = (cell 0 ([D.int ((x : Nat) : Int)] : List D)).toInt := by rw [hc]; omega
   have hs : atG (v : Int) ([D.int (x : Nat)] :: memD l) i = atG v (memD l) (i + 1) := by
    conv => lhs; unfold atG
    rw [if_neg hne]
   rw [hs]
   refine ⟨fun h => ?_, fun h => h2 (fun q => h (List.mem_cons_of_mem _ q))⟩
   rcases List.mem_cons.1 h with h3 | h3
   ·exact absurd h3 hx
   ·obtain ⟨a, b, rfl, h4, h5⟩ := h1 h3
    refine ⟨x :: a, b, rfl, ?_, ?_⟩
    ·intro q
     rcases List.mem_cons.1 q with q | q
     ·exact hx q
     ·exact h4 q
    ·rw [h5]; simp only [List.length_cons]; omega
theorem atL_in {l : List Nat} {v : Nat} (h : v ∈ l) : ∃ a b, l = a ++ v :: b /\ v ∉ a /\ atL (memD l) v = (a.length : Nat) := by
 obtain ⟨a, b, h1, h2, h3⟩ := (atG_memD v l 0).1 h
 exact ⟨a, b, h1, h2, by unfold atL; rw [h3]; omega⟩
theorem atL_out {l : List Nat} {v : Nat} (h : v ∉ l) : atL (memD l) v = -1 := (atG_memD v l 0).2 h
theorem atL_mem {l : List Nat} {v : Nat} : 0 <= atL (memD l) v ↔ v ∈ l := by
 constructor
 ·intro h
  apply Classical.byContradiction
  intro q
  rw [atL_out q] at h; omega
 ·intro h
  obtain ⟨a, b, _, _, h3⟩ := atL_in h
  rw [h3]; omega
theorem atL_last {l : List Nat} (hn : l.Nodup) {v : Nat} : (0 < l.length /\ atL (memD l) v = (l.length : Int) - 1) ↔ l.getLast? = some v := by
 constructor
 ·intro ⟨h0, h⟩
  have hv : v ∈ l := atL_mem.1 (by omega)
  obtain ⟨a, b, h1, h2, h3⟩ := atL_in hv
  subst h1
  rw [h3] at h
  simp only [List.length_append, List.length_cons] at h
  have hb : b = [] := List.length_eq_zero_iff.1 (by omega)
  subst hb
  simp
 ·intro h
  obtain ⟨ys, rfl⟩ := List.getLast?_eq_some_iff.1 h
  have hy : v ∉ ys := by
   intro q
   rw [List.nodup_append] at hn
   exact hn.2.2 v q v (by simp) rfl
  obtain ⟨a, b, h1, h2, h3⟩ := atL_in (l := ys ++ [v]) (v := v) (by simp)
  have hl := congrArg List.length h1
  simp only [List.length_append, List.length_cons, List.length_nil] at hl ⊢
  refine ⟨by omega, ?_⟩
  rw [h3]
  have hb : b = [] := by
   rcases List.eq_nil_or_concat b with q | ⟨b', z, q⟩
   ·exact q
   ·exfalso
    subst q
    have e2 : ys ++ [v] = (a ++ v :: b') ++ [z] := by rw [h1]; simp
    obtain ⟨e3, _⟩ := List.append_inj' e2 rfl
    exact hy (by rw [e3]; simp)
  subst hb
  simp only [List.length_nil] at hl
  omega
def adj (l : List Nat) (x y : Nat) : Prop := ∃ a b, l = a ++ x :: y :: b
theorem adj_sub {l : List Nat} {x y : Nat} (h : adj l x y) : [x, y].Sublist l := by
 obtain ⟨a, b, rfl⟩ := h
 exact List.Sublist.trans (by simp) (List.sublist_append_right ..)
theorem adj_mem {l : List Nat} {x y : Nat} (h : adj l x y) : x ∈ l /\ y ∈ l := by
 obtain ⟨a, b, rfl⟩ := h
 simp
theorem adj_ahead {l : List Nat} (hn : l.Nodup) {x y z : Nat} (h : adj l x y) (hz : [z, y].Sublist l) : z = x \/ [z, x].Sublist l := by
 obtain ⟨a, b, rfl⟩ := h
 have hy1 : y ∉ a ++ [x] := by
  intro q
  have : (a ++ [x] ++ y :: b).Nodup := by simpa using hn
  rw [List.nodup_append] at this
  exact this.2.2 y q y (by simp) rfl
 have hy2 : y ∉ b := by
  intro q
  have : (a ++ [x] ++ y :: b).Nodup := by simpa using hn
  rw [List.nodup_append] at this
  exact (List.nodup_cons.1 this.2.1).1 q
 have e : a ++ x :: y :: b = (a ++ [x]) ++ y :: b := by simp
 rw [e] at hz
 obtain ⟨l1, l2, e1, e2, e3⟩ := List.sublist_append_iff.1 hz
 have hza : z ∈ a ++ [x] := by
  cases l1 with
  | nil =>
   rw [List.nil_append] at e1; subst e1
   exfalso
   rcases List.sublist_cons_iff.1 e3 with q | ⟨r, q1, q2⟩
   ·exact hy2 (q.subset (by simp))
   ·injection q1 with q3 q4
    subst q4
    exact hy2 (q2.subset (by simp))
  | cons u l1 => injection e1 with q1 q2; subst q1; exact e2.subset (by simp)
 rcases List.mem_append.1 hza with q | q
 ·right
  have : [z, x].Sublist (a ++ [x]) := (List.singleton_sublist.2 q).append (List.Sublist.refl [x])
  rw [e]
  exact this.trans (List.sublist_append_left ..)
 ·left; simpa using q
theorem adj_last {l : List Nat} (hn : l.Nodup) {x y : Nat} (h : adj l x y) : l.getLast? ≠ some x := Hist.last_of_pair hn (adj_sub h)
theorem next_adj {l : List Nat} {v : Nat} (h : ¬ besideL (memD l) v 1 < 0) : ∃ y, adj l v y /\ besideL (memD l) v 1 = (y : Nat) := by
 unfold besideL at h ⊢
 by_cases h1 : atL (memD l) v < 0
 ·rw [if_pos h1] at h; omega
 ·rw [if_neg h1] at h ⊢
  obtain ⟨a, b, rfl, h2, h3⟩ := atL_in (atL_mem.1 (show 0 <= atL (memD l) v by omega))
  rw [h3] at h ⊢
  rw [if_neg (show ¬ ((a.length : Int) + 1 < 0) by omega)] at h ⊢
  rw [memD_len] at h ⊢
  by_cases h4 : ((a ++ v :: b).length : Int) <= (a.length : Int) + 1
  ·rw [if_pos h4] at h; omega
  ·rw [if_neg h4]
   cases b with
   | nil => simp at h4
   | cons y b =>
    refine ⟨y, ⟨a, b, rfl⟩, ?_⟩
    rw [show ((a.length : Int) + 1).toNat = a.length + 1 by omega, elem_memD (by simp)]
    simp
theorem before_adj {l : List Nat} {v : Nat} (h : ¬ besideL (memD l) v (-1) < 0) : ∃ x, adj l x v /\ besideL (memD l) v (-1) = (x : Nat) := by
 unfold besideL at h ⊢
 by_cases h1 : atL (memD l) v < 0
 ·rw [if_pos h1] at h; omega
 ·rw [if_neg h1] at h ⊢
  obtain ⟨a, b, rfl, h2, h3⟩ := atL_in (atL_mem.1 (show 0 <= atL (memD l) v by omega))
  rw [h3] at h ⊢
  by_cases h4 : (a.length : Int) + -1 < 0
  ·rw [if_pos h4] at h; omega
  ·rw [if_neg h4] at h ⊢
   rw [memD_len] at h ⊢
   rw [if_neg (show ¬ ((a ++ v :: b).length : Int) <= (a.length : Int) + -1 by simp only [List.length_append]; omega)]
   rcases List.eq_nil_or_concat a with q | ⟨a', x, q⟩
   ·subst q; simp at h4
   ·rw [List.concat_eq_append] at q
    subst q
    refine ⟨x, ⟨a', b, by simp⟩, ?_⟩
    rw [show (((a' ++ [x]).length : Nat) + -1 : Int).toNat = a'.length by simp only [List.length_append, List.length_cons, List.length_nil]; omega, elem_memD (by simp only [List.length_append, List.length_cons]; omega)]
    simp
def cmdD (k : Nat) : List D := [D.str (textS k)]
def fine (nx : Int) (l : List (List D)) : Prop := ∃ ks : List Nat, ks.Pairwise (· < ·) /\ (∀ k ∈ ks, 1 <= k /\ (k : Int) <= nx) /\ l = ks.map cmdD
theorem fine_nil (nx : Int) : fine nx [] := ⟨[], List.Pairwise.nil, fun _ h => (by cases h), rfl⟩
theorem fine_mono {nx nx' : Int} {l : List (List D)} (h : fine nx l) (hn : nx <= nx') : fine nx' l := by
 obtain ⟨ks, h1, h2, h3⟩ := h
 exact ⟨ks, h1, fun k hk => ⟨(h2 k hk).1, by have := (h2 k hk).2; omega⟩, h3⟩
theorem fine_prefix {nx : Int} {l l' : List (List D)} (h : fine nx l) (hp : l' <+: l) : fine nx l' := by
 obtain ⟨ks, h1, h2, rfl⟩ := h
 obtain ⟨q, hq⟩ := hp
 have : l' = (ks.take l'.length).map cmdD := by
  have e := congrArg (List.take l'.length) hq
  rw [List.take_left, <- List.map_take] at e
  exact e
 exact ⟨ks.take l'.length, h1.sublist (List.take_sublist ..), fun k hk => h2 k ((List.take_sublist ..).subset hk), this⟩
theorem fine_snoc {nx : Int} {l : List (List D)} (h : fine nx l) (h0 : 0 <= nx) : fine (nx + 1) (l ++ [[D.str (textS (nx + 1))]]) := by
 obtain ⟨ks, h1, h2, rfl⟩ := h
 refine ⟨ks ++ [(nx + 1).toNat], ?_, ?_, ?_⟩
 ·rw [List.pairwise_append]
  refine ⟨h1, List.pairwise_singleton .., fun a ha b hb => ?_⟩
  rw [List.mem_singleton] at hb; subst hb
  have := (h2 a ha).2
  omega
 ·intro k hk
  rcases List.mem_append.1 hk with q | q
  ·have := h2 k q; omega
  ·rw [List.mem_singleton] at q; subst q; omega
 ·rw [List.map_append]
  congr 1
  show _ = [[D.str (textS (((nx + 1).toNat : Nat) : Int))]]
  rw [Int.toNat_of_nonneg (by omega)]
theorem fine_str {nx : Int} {l : List (List D)} (h : fine nx l) {c : List D} (hc : c ∈ l) : c = [D.str (cell 0 c).toStr] := by
 obtain ⟨ks, _, _, rfl⟩ := h
 obtain ⟨k, _, rfl⟩ := List.mem_map.1 hc
 rfl
abbrev Hs := Hist (List D)
def okPass (s : Hs) (m : List D) : Prop := ∃ x y e : Nat, (cell 1 m).toInt = x /\ (cell 2 m).toInt = y /\ (cell 3 m).toInt = ((e + 1 : Nat) : Int) /\ adj (s.mem (e + 1)) x y /\ s.A x (e + 1) /\
 ((cell 6 m).toBool = true -> ∃ i : Nat, (cell 4 m).toInt = i /\ (s.H x (e + 1))[i]? = some [D.str (cell 7 m).toStr]) /\ ((s.H x e).length : Int) <= (cell 5 m).toInt
def okAck (s : Hs) (m : List D) : Prop := ∃ x y e i : Nat, (cell 1 m).toInt = y /\ (cell 2 m).toInt = x /\ (cell 3 m).toInt = (e : Nat) /\ adj (s.mem e) x y /\ s.A y e /\
 (cell 4 m).toInt = i /\ i <= (s.H y e).length /\ s.comm ((s.H y e).take i)
def okMsg (s : Hs) (m : List D) : Prop := ((cell 0 m).toInt = 0 -> okPass s m) /\ ((cell 0 m).toInt = 1 -> okAck s m)
open Hist (Le)
theorem take_pre {α : Type} {l l' : List α} (h : l <+: l') {i : Nat} (hi : i <= l.length) : l'.take i = l.take i := by
 obtain ⟨q, rfl⟩ := h
 exact List.take_append_of_le_length hi
theorem get_pre {α : Type} {l l' : List α} (h : l <+: l') {i : Nat} {c : α} (hi : l[i]? = some c) : l'[i]? = some c := by
 obtain ⟨q, rfl⟩ := h
 rw [List.getElem?_append_left (List.getElem?_eq_some_iff.1 hi).1]; exact hi
theorem A_n {s : Hs} (h : s.Inv) {x e : Nat} (ha : s.A x e) : e <= s.n /\ 1 <= e := ⟨Nat.le_trans (h.A1 _ _ ha).1 (h.epn x), (h.A1 _ _ ha).2⟩
theorem okMsg_le {s s' : Hs} (h : s.Inv) (hl : Le s s') {m : List D} (hm : okMsg s m) : okMsg s' m := by
 refine ⟨fun h0 => ?_, fun h1 => ?_⟩
 ·obtain ⟨x, y, e, a1, a2, a3, a4, a5, a6, a7⟩ := hm.1 h0
  refine ⟨x, y, e, a1, a2, a3, by rw [hl.mem _ (A_n h a5).1]; exact a4, hl.A _ _ a5, fun hh => ?_, by rw [hl.old _ _ a5]; exact a7⟩
  obtain ⟨i, b1, b2⟩ := a6 hh
  exact ⟨i, b1, get_pre (hl.H _ _ a5) b2⟩
 ·obtain ⟨x, y, e, i, a1, a2, a3, a4, a5, a6, a7, a8⟩ := hm.2 h1
  have hp := hl.H _ _ a5
  refine ⟨x, y, e, i, a1, a2, a3, by rw [hl.mem _ (A_n h a5).1]; exact a4, hl.A _ _ a5, a6, Nat.le_trans a7 hp.length_le, ?_⟩
  rw [take_pre hp a7]
  exact Hist.comm_le h hl a8
structure RepOk (s : Hs) (i : Nat) (r : Rep) : Prop where
 id : r.id = (i : Nat)
 ep : r.ep = (s.ep i : Nat)
 mem : r.mem = memD (s.mem (s.ep i))
 row : r.row = s.H i (s.ep i)
 live : r.live = true -> i ∈ s.mem (s.ep i)
 com : ∃ c : Nat, r.commit = c /\ c <= r.row.length /\ s.comm (r.row.take c)
 ack : ∃ a : Nat, r.acked = a /\ a <= r.row.length /\ s.comm (r.row.take a)
 base : r.live = true -> ∀ y e, adj (s.mem (s.ep i)) i y -> s.ep i = e + 1 -> ((s.H i e).length : Int) <= r.base
 heard : r.live = true -> r.heard = true -> ∃ p e, s.ep i = e + 1 /\ adj (s.mem (s.ep i)) p i /\ s.A p (s.ep i) /\ ((s.H p e).length : Int) <= r.need
theorem RepOk.le {s s' : Hs} (h : s.Inv) (hl : Le s s') {i : Nat} {r : Rep} (he : s'.ep i = s.ep i) (hH : ∀ e, s'.H i e = s.H i e) (hr : RepOk s i r) : RepOk s' i r where
 id := hr.id
 ep := by rw [he]; exact hr.ep
 mem := by rw [he, hl.mem _ (h.epn i)]; exact hr.mem
 row := by rw [he, hH]; exact hr.row
 live := fun q => by rw [he, hl.mem _ (h.epn i)]; exact hr.live q
 com := by obtain ⟨c, a, b, d⟩ := hr.com; exact ⟨c, a, b, Hist.comm_le h hl d⟩
 ack := by obtain ⟨c, a, b, d⟩ := hr.ack; exact ⟨c, a, b, Hist.comm_le h hl d⟩
 base := fun q y e => by rw [he, hl.mem _ (h.epn i), hH]; exact hr.base q y e
 heard := fun q1 q2 => by
  obtain ⟨p, e, a, b, c, d⟩ := hr.heard q1 q2
  refine ⟨p, e, by rw [he]; exact a, by rw [he, hl.mem _ (h.epn i)]; exact b, by rw [he]; exact hl.A _ _ c, ?_⟩
  rw [hl.old p e (by rw [<- a]; exact c)]; exact d
section
variable {s : Hs} {i : Nat} {r : Rep}
theorem RepOk.epos (h : s.Inv) (hr : RepOk s i r) (hl : r.live = true) : 1 <= s.ep i /\ s.A i (s.ep i) := by
 have := hr.live hl
 have h1 : 1 <= s.ep i := by
  rcases Nat.eq_zero_or_pos (s.ep i) with q | q
  ·rw [q, h.mem0] at this; cases this
  ·exact q
 exact ⟨h1, h.A2 i h1⟩
theorem RepOk.pass (h : s.Inv) (hr : RepOk s i r) (hl : r.live = true) (nx : Int) (hf : fine nx (s.H i (s.ep i))) (k : Int) (has : Bool) (hk : has = true -> 0 <= k /\ k < r.row.length) : ∀ m ∈ r.pass k has, okMsg s m := by
 intro m hm
 unfold Rep.pass at hm
 by_cases hn : r.next < 0
 ·rw [if_pos hn] at hm; cases hm
 ·rw [if_neg hn, List.mem_singleton] at hm
  have hn2 : ¬ besideL (memD (s.mem (s.ep i))) i 1 < 0 := by
   have : r.next = besideL (memD (s.mem (s.ep i))) i 1 := by unfold Rep.next; rw [hr.mem, hr.id]
   rw [<- this]; exact hn
  obtain ⟨y, h1, h2⟩ := next_adj hn2
  have hy : r.next = (y : Nat) := by unfold Rep.next; rw [hr.mem, hr.id]; exact h2
  obtain ⟨p1, p2⟩ := hr.epos h hl
  obtain ⟨e, he⟩ : ∃ e, s.ep i = e + 1 := ⟨s.ep i - 1, by omega⟩
  refine ⟨fun _ => ⟨i, y, e, ?_, ?_, ?_, by rw [<- he]; exact h1, by rw [<- he]; exact p2, fun hh => ?_, ?_⟩, fun h1 => ?_⟩
  ·subst hm; exact hr.id
  ·subst hm; exact hy
  ·subst hm; show r.ep = _; rw [hr.ep, he]
  ·have hh2 : has = true := by subst hm; exact hh
   obtain ⟨k0, k1⟩ := hk hh2
   refine ⟨k.toNat, ?_, ?_⟩
   ·subst hm; show k = _; omega
   ·have hlt : k.toNat < (s.H i (s.ep i)).length := by rw [<- hr.row]; omega
    rw [<- he, List.getElem?_eq_getElem hlt]
    congr 1
    have hmem : (s.H i (s.ep i))[k.toNat] ∈ s.H i (s.ep i) := List.getElem_mem hlt
    refine (fine_str hf hmem).trans ?_
    subst hm
    show _ = [D.str (if has then (cell 0 (elem k.toNat r.row)).toStr else _)]
    rw [if_pos hh2, hr.row]
    unfold elem
    rw [List.getD_eq_getElem?_getD, List.getElem?_eq_getElem hlt]; rfl
  ·subst hm; exact hr.base hl y e h1 he
  ·subst hm; exact absurd (show (0 : Int) = 1 from h1) (by decide)
theorem RepOk.againG (h : s.Inv) (hr : RepOk s i r) (hl : r.live = true) (nx : Int) (hf : fine nx (s.H i (s.ep i))) : ∀ (n : Nat) (k : Int) (out : List (List D)), 0 <= k -> (∀ m ∈ out, okMsg s m) -> ∀ m ∈ r.againG n k out, okMsg s m := by
 intro n
 induction n with
 | zero => intro k out _ ho m hm; exact ho m hm
 | succ n ih =>
  intro k out hk ho m hm
  unfold Rep.againG at hm
  by_cases q : k < r.row.length /\ k < r.acked + 8
  ·rw [if_pos q] at hm
   refine ih (k + 1) _ (by omega) (fun m2 h2 => ?_) m hm
   rcases List.mem_append.1 h2 with h3 | h3
   ·exact ho m2 h3
   ·exact hr.pass h hl nx hf k true (fun _ => ⟨hk, q.1⟩) m2 h3
  ·rw [if_neg q] at hm; exact ho m hm
theorem RepOk.again (h : s.Inv) (hr : RepOk s i r) (nx : Int) (hf : fine nx (s.H i (s.ep i))) : ∀ m ∈ r.again, okMsg s m := by
 intro m hm
 unfold Rep.again at hm
 cases hl : r.live with
 | false => rw [hl, if_neg (by decide)] at hm; cases hm
 | true =>
  rw [hl, if_pos rfl] at hm
  obtain ⟨a, ha, _⟩ := hr.ack
  split at hm
  ·exact hr.againG h hl nx hf 9 r.acked [] (by omega) (fun m2 h2 => by cases h2) m hm
  ·exact hr.pass h hl nx hf _ false (fun q => by cases q) m hm
theorem RepOk.acks (h : s.Inv) (hr : RepOk s i r) (hl : r.live = true) : ∀ m ∈ r.ack, okMsg s m := by
 intro m hm
 unfold Rep.ack at hm
 by_cases hn : r.before < 0
 ·rw [if_pos hn] at hm; cases hm
 ·rw [if_neg hn, List.mem_singleton] at hm
  have hb : r.before = besideL (memD (s.mem (s.ep i))) i (-1) := by unfold Rep.before; rw [hr.mem, hr.id]
  obtain ⟨x, h1, h2⟩ := before_adj (by rw [<- hb]; exact hn)
  obtain ⟨p1, p2⟩ := hr.epos h hl
  obtain ⟨c, c1, c2, c3⟩ := hr.com
  refine ⟨fun h0 => ?_, fun _ => ⟨x, i, s.ep i, c, ?_, ?_, ?_, h1, p2, ?_, by rw [<- hr.row]; exact c2, by rw [<- hr.row]; exact c3⟩⟩
  ·subst hm; exact absurd (show (1 : Int) = 0 from h0) (by decide)
  ·subst hm; exact hr.id
  ·subst hm; exact hb.trans h2
  ·subst hm; exact hr.ep
  ·subst hm; exact c1
theorem RepOk.last (h : s.Inv) (hr : RepOk s i r) : r.last = true ↔ (s.mem (s.ep i)).getLast? = some i := by
 unfold Rep.last
 rw [Bool.and_eq_true, decide_eq_true_iff, decide_eq_true_iff, hr.mem, hr.id, memD_len]
 exact atL_last (h.nd _)
theorem RepOk.tail (h : s.Inv) (hr : RepOk s i r) (ht : r.tail = true) : r.live = true /\ (s.mem (s.ep i)).getLast? = some i := by
 unfold Rep.tail at ht
 rw [Bool.and_eq_true] at ht
 exact ⟨ht.1, (hr.last h).1 ht.2⟩
theorem RepOk.all (h : s.Inv) (hr : RepOk s i r) (ht : r.tail = true) : s.comm r.row := by
 obtain ⟨h1, h2⟩ := hr.tail h ht
 refine .inr ⟨s.ep i, i, h2, (hr.epos h h1).2, ?_⟩
 rw [hr.row]; exact List.prefix_refl _
theorem RepOk.adds (h : s.Inv) (hr : RepOk s i r) (hl : r.live = true) (nx : Int) (cmd : ByteArray) (hf : fine nx (s.H i (s.ep i) ++ [[D.str cmd]]))
  (hc : ∀ z, [z, i].Sublist (s.mem (s.ep i)) -> s.H i (s.ep i) ++ [[D.str cmd]] <+: s.H z (s.ep i)) :
  (s.add i [D.str cmd]).Inv /\ RepOk (s.add i [D.str cmd]) i (r.add cmd).1 /\ ∀ m ∈ (r.add cmd).2, okMsg (s.add i [D.str cmd]) m := by
 obtain ⟨p1, p2⟩ := hr.epos h hl
 have hi := Hist.add_Inv h i [D.str cmd] p1 hc
 have hle := Hist.add_Le h i [D.str cmd]
 have hat : (s.add i [D.str cmd]).H i (s.ep i) = r.row ++ [[D.str cmd]] := by rw [Hist.add_at s i _ (Nat.le_refl _), hr.row]
 have hlo : ∀ e, s.ep i = e + 1 -> ∀ p, (s.add i [D.str cmd]).H p e = s.H p e := fun e he p => Hist.add_lo s i _ (fun q => by omega)
 have k1 : RepOk (s.add i [D.str cmd]) i { r with row := r.row ++ [[D.str cmd]] } := {
  id := hr.id
  ep := hr.ep
  mem := hr.mem
  row := hat.symm
  live := hr.live
  com := by
   obtain ⟨c, a, b, d⟩ := hr.com
   refine ⟨c, a, by simp only [List.length_append]; omega, ?_⟩
   show Hist.comm _ ((r.row ++ [[D.str cmd]]).take c)
   rw [List.take_append_of_le_length b]
   exact Hist.comm_le h hle d
  ack := by
   obtain ⟨c, a, b, d⟩ := hr.ack
   refine ⟨c, a, by simp only [List.length_append]; omega, ?_⟩
   show Hist.comm _ ((r.row ++ [[D.str cmd]]).take c)
   rw [List.take_append_of_le_length b]
   exact Hist.comm_le h hle d
  base := fun q y e a b => by rw [hlo e b]; exact hr.base q y e a b
  heard := fun q1 q2 => by
   obtain ⟨p, e, a, b, c, d⟩ := hr.heard q1 q2
   exact ⟨p, e, a, b, c, by rw [hlo e a]; exact d⟩ }
 refine ⟨hi, ?_⟩
 unfold Rep.add
 by_cases ht : ({ r with row := r.row ++ [[D.str cmd]] } : Rep).tail = true
 ·rw [if_pos ht]
  refine ⟨{ k1 with com := ⟨(r.row ++ [[D.str cmd]]).length, rfl, Nat.le_refl _, ?_⟩ }, fun m hm => by cases hm⟩
  show Hist.comm _ ((r.row ++ [[D.str cmd]]).take _)
  rw [List.take_length]
  exact k1.all hi ht
 ·rw [if_neg ht]
  refine ⟨k1, k1.pass hi hl nx ?_ _ true (fun _ => ?_)⟩
  ·rw [show (s.add i [D.str cmd]).ep i = s.ep i from rfl, hat, hr.row]; exact hf
  ·show _ /\ _ < ((r.row ++ [[D.str cmd]]).length : Int)
   simp only [List.length_append, List.length_cons, List.length_nil]; omega
end
end Go.Proofs.Ythlbahcggmbfaaa.V

namespace Go.Proofs.Ythlbahcggmbfaaa.V
variable {R : Type}
def Ids (rs : List Rep) : Prop := ∀ i < rs.length, (nthR rs i).id = (i : Nat)
theorem nthR_set_ne {rs : List Rep} {k i : Nat} (h : k ≠ i) (q : Rep) : nthR (rs.set k q) i = nthR rs i := by
 unfold nthR; rw [List.getD_eq_getElem?_getD, List.getD_eq_getElem?_getD, List.getElem?_set_ne h]
theorem Ids.set {rs : List Rep} (h : Ids rs) {k : Nat} {q : Rep} (hq : q.id = (k : Nat)) : Ids (rs.set k q) := by
 intro i hi
 rw [List.length_set] at hi
 by_cases e : k = i
 ·subst e; rw [nthR_set hi, hq]
 ·rw [nthR_set_ne e]; exact h i hi
theorem byte_wf {d : D} (h : WFD (FT.int IntKind.u8) d) : 0 <= d.toInt /\ d.toInt < 256 := by
 cases h with
 | int k n h =>
  unfold Lit.wf at h
  simp [IntKind.min, IntKind.max, IntKind.signed, IntKind.bits] at h
  show 0 <= n /\ n < 256
  omega
theorem WFDs.u8 {ds : List D} (h : WFDs [FT.int IntKind.u8] ds) : 0 <= (V.cell 0 ds).toInt /\ (V.cell 0 ds).toInt < 256 := byte_wf (h.cell (j := 0) rfl)
theorem wrap_u8 {n : Int} (h0 : 0 <= n) (h1 : n < 256) : IntKind.i64.wrap n = n := wrap_of (by omega) (by omega)
def manyOf (n : Int) : Nat := 1 + (n.tmod 4).toNat
theorem manyOf_range {n : Int} (h0 : 0 <= n) : 1 <= manyOf n /\ manyOf n <= 4 := by
 unfold manyOf
 rw [Int.tmod_eq_emod_of_nonneg h0]
 omega
theorem many_ok (fu : Nat) {n : Int} (h0 : 0 <= n) (h1 : n < 256) (k : Int -> Option R) : F12 fu n k = k ((manyOf n : Nat) : Int) := by
 rw [F12_eq]; unfold Fb12
 rw [wrap_u8 h0 h1]
 unfold manyOf
 rw [Int.tmod_eq_emod_of_nonneg h0, wrap_of (by omega) (by omega)]
 congr 1; omega
structure Ran (w : Ward) (n : Nat) : Prop where
 inv : w.Inv n
 ids : Ids w.rs
end Go.Proofs.Ythlbahcggmbfaaa.V

