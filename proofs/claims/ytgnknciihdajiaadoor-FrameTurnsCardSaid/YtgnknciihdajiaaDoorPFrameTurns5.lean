/-
  Part 5 of the texts that the law needs, merged: a value-level calculus of the code (HL), the contracts of the functions, and their proofs.
  Conditions: none.
-/
import Derived.Test.YtgnknciihdajiaaDoorPFrameTurns4
set_option maxRecDepth 100000
set_option maxHeartbeats 400000
set_option linter.unusedVariables false
set_option linter.unusedSimpArgs false
namespace U
open Go Go.HL
structure FrS where
  s0 : Int
  s1 : Int
  s2 : Int
  s3 : Int
  s4 : Int
  s5 : Int
  s6 : Int
  s7 : Int
  s8 : Int
  s9 : Int
  s10 : Int
  s11 : Int
  s12 : Int
  s13 : Int
  s14 : Int
  s15 : Int
  s16 : Int
  s17 : Int
  sy : Int
  l0 : Int
  l1 : Int
  l2 : Int
  h0 : Int
  h1 : Int
  h2 : Int
  ln : Int
  tu : Bool
  pl : Int
  c0 : Int
  c1 : Int
  c2 : Int
  an : Int
def cF (x : FrS) : List HC := [.int .i64 x.s0, .int .i64 x.s1, .int .i64 x.s2, .int .i64 x.s3, .int .i64 x.s4, .int .i64 x.s5, .int .i64 x.s6, .int .i64 x.s7, .int .i64 x.s8, .int .i64 x.s9, .int .i64 x.s10, .int .i64 x.s11, .int .i64 x.s12, .int .i64 x.s13, .int .i64 x.s14, .int .i64 x.s15, .int .i64 x.s16, .int .i64 x.s17, .int .i64 x.sy, .int .i64 x.l0, .int .i64 x.l1, .int .i64 x.l2, .int .i64 x.h0, .int .i64 x.h1, .int .i64 x.h2, .int .i64 x.ln, .bool x.tu, .int .i64 x.pl, .int .i64 x.c0, .int .i64 x.c1, .int .i64 x.c2, .int .i64 x.an]
def okF (x : FrS) : Prop := (54 ≤ x.sy ∧ x.sy ≤ 59) ∧ B3 50000 x.s0 x.s1 x.s2 ∧ B3 50000 x.s3 x.s4 x.s5 ∧ B3 50000 x.s6 x.s7 x.s8 ∧ B3 50000 x.s9 x.s10 x.s11 ∧ B3 50000 x.s12 x.s13 x.s14 ∧ B3 50000 x.s15 x.s16 x.s17 ∧
  B3 20000 x.l0 x.l1 x.l2 ∧ B3 20000 x.h0 x.h1 x.h2 ∧ (-5000 ≤ x.ln ∧ x.ln ≤ 5000) ∧
  (x.tu = false → x.pl = 0 ∧ x.c0 = 0 ∧ x.c1 = 0 ∧ x.c2 = 0 ∧ x.an = 0) ∧ (x.tu = true → (17 ≤ x.pl ∧ x.pl ≤ 19) ∧ B3 50000 x.c0 x.c1 x.c2 ∧ 0 ≤ x.an ∧ x.an < 360000000)
end U
namespace Go.Proofs.YtgnknciihdajiaaDoor
open Go Go.HL U
def SVec (hargs : List HV) (pars : List (List HC)) : SR :=
  match hargs, pars with
  | [.ce (.ptr 0 0), .ce (.int .i64 n)], [[.sl false [4] l, .int .i64 p]] =>
    .all (0 ≤ n ∧ n ≤ 1000000000000 ∧ inSrc l p) (Int × Int × Int × Int) (fun x => B3 n x.1 x.2.1 x.2.2.1 ∧ inSrc l x.2.2.2)
      (fun x => ⟨.agg [.int .i64 x.1, .int .i64 x.2.1, .int .i64 x.2.2.1], false, [[.sl false [4] l, .int .i64 x.2.2.2]], []⟩)
  | _, _ => .fail
def tabVec : List (FuncId × HL.Spec) := [(42, SRange)]
noncomputable def CVec : Ctx := ⟨Tryd.prog, gam tabVec, Tryd.f20.ntmps, [], []⟩
theorem vcVec (l : List (List Int)) (p n : Int) (Q : Res → Prop) : (nfun true CVec Tryd.f20 (bodyOf Tryd.f20) [.ce (.ptr 0 0), .ce (.int .i64 n)] [[.sl false [4] l, .int .i64 p]] Q) =
    ((-9223372036854775808 ≤ (0 : Int) - n ∧ (0 : Int) - n ≤ 9223372036854775807) ∧ ∀ (x1 : Int), x1 = 0 - n → ((-1000000000000000000 : Int) ≤ x1 ∧ x1 ≤ n ∧ n ≤ 1000000000000000000 ∧ inSrc l p) ∧ (∃ (x : Int × Int), x1 ≤ x.1 ∧ x.1 ≤ n ∧ x.2 = adv l p) ∧ ∀ (x : Int × Int), x1 ≤ x.1 ∧ x.1 ≤ n ∧ x.2 = adv l p → (-9223372036854775808 ≤ (0 : Int) - n ∧ (0 : Int) - n ≤ 9223372036854775807) ∧ ∀ (x3 : Int), x3 = 0 - n → ((-1000000000000000000 : Int) ≤ x3 ∧ x3 ≤ n ∧ n ≤ 1000000000000000000 ∧ inSrc l x.2) ∧ (∃ (x_1 : Int × Int), x3 ≤ x_1.1 ∧ x_1.1 ≤ n ∧ x_1.2 = adv l x.2) ∧ ∀ (x_1 : Int × Int), x3 ≤ x_1.1 ∧ x_1.1 ≤ n ∧ x_1.2 = adv l x.2 → (-9223372036854775808 ≤ (0 : Int) - n ∧ (0 : Int) - n ≤ 9223372036854775807) ∧ ∀ (x5 : Int), x5 = 0 - n → ((-1000000000000000000 : Int) ≤ x5 ∧ x5 ≤ n ∧ n ≤ 1000000000000000000 ∧ inSrc l x_1.2) ∧ (∃ (x : Int × Int), x5 ≤ x.1 ∧ x.1 ≤ n ∧ x.2 = adv l x_1.2) ∧ ∀ (x_2 : Int × Int), x5 ≤ x_2.1 ∧
    x_2.1 ≤ n ∧ x_2.2 = adv l x_1.2 → Q { val := .agg [.int .i64 x.1, .int .i64 x_1.1, .int .i64 x_2.1], own := false, pars := [[.sl false [4] l, .int .i64 x_2.2]], news := [] }) := by kernel_rfl
def SFrm (hargs : List HV) (pars : List (List HC)) : SR :=
  match hargs, pars with
  | [.ce (.ptr 0 0)], [[.sl false [4] l, .int .i64 p]] =>
    .all (inSrc l p) (FrS × Int) (fun x => okF x.1 ∧ inSrc l x.2) (fun x => ⟨.agg (cF x.1), false, [[.sl false [4] l, .int .i64 x.2]], []⟩)
  | _, _ => .fail
def unr8 (b : List Nat) : LAnn := ⟨[], [8], b, true⟩
def tabFrm : List (FuncId × HL.Spec) := [(42, SRange), (41, SNext), (20, SVec)]
noncomputable def CFrm : Ctx := ⟨Tryd.prog, gam tabFrm, Tryd.f19.ntmps, [(4000003, unr8 [0, 1000002, 1000003], fun _ => .fail)], []⟩
theorem vcFrm (l : List (List Int)) (p : Int) (Q : Res → Prop) : (nfun true CFrm Tryd.f19 (bodyOf Tryd.f19) [.ce (.ptr 0 0)] [[.sl false [4] l, .int .i64 p]] Q) =
    (((-1000000000000000000 : Int) ≤ (54 : Int) ∧ (54 : Int) ≤ (59 : Int) ∧ (59 : Int) ≤ (1000000000000000000 : Int) ∧ inSrc l p) ∧ (∃ (x : Int × Int), 54 ≤ x.1 ∧ x.1 ≤ 59 ∧ x.2 = adv l p) ∧ ∀ (x : Int × Int), 54 ≤ x.1 ∧ x.1 ≤ 59 ∧ x.2 = adv l p → ((0 : Int) ≤ (20000 : Int) ∧ (20000 : Int) ≤ (1000000000000 : Int) ∧ inSrc l x.2) ∧ (∃ (x : Int × Int × Int × Int), B3 (20000 : Int) x.1 x.snd.1 x.snd.snd.1 ∧ inSrc l x.snd.snd.2) ∧ ∀ (x_1 : Int × Int × Int × Int), B3 (20000 : Int) x_1.1 x_1.snd.1 x_1.snd.snd.1 ∧ inSrc l x_1.snd.snd.2 → ((0 : Int) ≤ (20000 : Int) ∧ (20000 : Int) ≤ (1000000000000 : Int) ∧ inSrc l x_1.snd.snd.2) ∧ (∃ (x : Int × Int × Int × Int), B3 (20000 : Int) x.1 x.snd.1 x.snd.snd.1 ∧ inSrc l x.snd.snd.2) ∧ ∀ (x_2 : Int × Int × Int × Int), B3 (20000 : Int) x_2.1 x_2.snd.1 x_2.snd.snd.1 ∧ inSrc l x_2.snd.snd.2 → ((-1000000000000000000 : Int) ≤ (-5000 : Int) ∧ (-5000 : Int) ≤ (5000 : Int) ∧
    (5000 : Int) ≤ (1000000000000000000 : Int) ∧ inSrc l x_2.snd.snd.2) ∧ (∃ (x : Int × Int), (-5000 : Int) ≤ x.1 ∧ x.1 ≤ 5000 ∧ x.2 = adv l x_2.snd.snd.2) ∧ ∀ (x_3 : Int × Int), (-5000 : Int) ≤ x_3.1 ∧ x_3.1 ≤ 5000 ∧ x_3.2 = adv l x_2.snd.snd.2 → ((0 : Int) ≤ (50000 : Int) ∧ (50000 : Int) ≤ (1000000000000 : Int) ∧ inSrc l x_3.2) ∧ (∃ (x : Int × Int × Int × Int), B3 (50000 : Int) x.1 x.snd.1 x.snd.snd.1 ∧ inSrc l x.snd.snd.2) ∧ ∀ (x_4 : Int × Int × Int × Int), B3 (50000 : Int) x_4.1 x_4.snd.1 x_4.snd.snd.1 ∧ inSrc l x_4.snd.snd.2 → ((0 : Int) ≤ (50000 : Int) ∧ (50000 : Int) ≤ (1000000000000 : Int) ∧ inSrc l x_4.snd.snd.2) ∧ (∃ (x : Int × Int × Int × Int), B3 (50000 : Int) x.1 x.snd.1 x.snd.snd.1 ∧ inSrc l x.snd.snd.2) ∧ ∀ (x_5 : Int × Int × Int × Int), B3 (50000 : Int) x_5.1 x_5.snd.1 x_5.snd.snd.1 ∧ inSrc l x_5.snd.snd.2 → ((0 : Int) ≤ (50000 : Int) ∧ (50000 : Int) ≤ (1000000000000 : Int) ∧ inSrc l x_5.snd.snd.2) ∧
    (∃ (x : Int × Int × Int × Int), B3 (50000 : Int) x.1 x.snd.1 x.snd.snd.1 ∧ inSrc l x.snd.snd.2) ∧ ∀ (x_6 : Int × Int × Int × Int), B3 (50000 : Int) x_6.1 x_6.snd.1 x_6.snd.snd.1 ∧ inSrc l x_6.snd.snd.2 → ((0 : Int) ≤ (50000 : Int) ∧ (50000 : Int) ≤ (1000000000000 : Int) ∧ inSrc l x_6.snd.snd.2) ∧ (∃ (x : Int × Int × Int × Int), B3 (50000 : Int) x.1 x.snd.1 x.snd.snd.1 ∧ inSrc l x.snd.snd.2) ∧ ∀ (x_7 : Int × Int × Int × Int), B3 (50000 : Int) x_7.1 x_7.snd.1 x_7.snd.snd.1 ∧ inSrc l x_7.snd.snd.2 → ((0 : Int) ≤ (50000 : Int) ∧ (50000 : Int) ≤ (1000000000000 : Int) ∧ inSrc l x_7.snd.snd.2) ∧ (∃ (x : Int × Int × Int × Int), B3 (50000 : Int) x.1 x.snd.1 x.snd.snd.1 ∧ inSrc l x.snd.snd.2) ∧ ∀ (x_8 : Int × Int × Int × Int), B3 (50000 : Int) x_8.1 x_8.snd.1 x_8.snd.snd.1 ∧ inSrc l x_8.snd.snd.2 → ((0 : Int) ≤ (50000 : Int) ∧ (50000 : Int) ≤ (1000000000000 : Int) ∧ inSrc l x_8.snd.snd.2) ∧ (∃ (x : Int × Int × Int × Int), B3 (50000 : Int) x.1 x.snd.1 x.snd.snd.1 ∧
    inSrc l x.snd.snd.2) ∧ ∀ (x_9 : Int × Int × Int × Int), B3 (50000 : Int) x_9.1 x_9.snd.1 x_9.snd.snd.1 ∧ inSrc l x_9.snd.snd.2 → ((0 : Int) < (2 : Int) ∧ (2 : Int) ≤ (4611686018427387904 : Int) ∧ inSrc l x_9.snd.snd.2) ∧ (∃ (x : Int × Int), drew l x_9.snd.snd.2 (2 : Int) x) ∧ ∀ (x_10 : Int × Int), drew l x_9.snd.snd.2 (2 : Int) x_10 → ((x_10.1 == 0) = true → ((-1000000000000000000 : Int) ≤ (17 : Int) ∧ (17 : Int) ≤ (19 : Int) ∧ (19 : Int) ≤ (1000000000000000000 : Int) ∧ inSrc l x_10.2) ∧ (∃ (x : Int × Int), 17 ≤ x.1 ∧ x.1 ≤ 19 ∧ x.2 = adv l x_10.2) ∧ ∀ (x_11 : Int × Int), 17 ≤ x_11.1 ∧ x_11.1 ≤ 19 ∧ x_11.2 = adv l x_10.2 → ((0 : Int) ≤ (50000 : Int) ∧ (50000 : Int) ≤ (1000000000000 : Int) ∧ inSrc l x_11.2) ∧ (∃ (x : Int × Int × Int × Int), B3 (50000 : Int) x.1 x.snd.1 x.snd.snd.1 ∧ inSrc l x.snd.snd.2) ∧ ∀ (x_12 : Int × Int × Int × Int), B3 (50000 : Int) x_12.1 x_12.snd.1 x_12.snd.snd.1 ∧
    inSrc l x_12.snd.snd.2 → ((0 : Int) < (360000000 : Int) ∧ (360000000 : Int) ≤ (4611686018427387904 : Int) ∧ inSrc l x_12.snd.snd.2) ∧ (∃ (x : Int × Int), drew l x_12.snd.snd.2 (360000000 : Int) x) ∧ ∀ (x_13 : Int × Int), drew l x_12.snd.snd.2 (360000000 : Int) x_13 → Q { val := .agg [.int .i64 x_4.1, .int .i64 x_4.snd.1, .int .i64 x_4.snd.snd.1, .int .i64 x_5.1, .int .i64 x_5.snd.1, .int .i64 x_5.snd.snd.1, .int .i64 x_6.1, .int .i64 x_6.snd.1, .int .i64 x_6.snd.snd.1, .int .i64 x_7.1, .int .i64 x_7.snd.1, .int .i64 x_7.snd.snd.1, .int .i64 x_8.1, .int .i64 x_8.snd.1, .int .i64 x_8.snd.snd.1, .int .i64 x_9.1, .int .i64 x_9.snd.1, .int .i64 x_9.snd.snd.1, .int .i64 x.1, .int .i64 x_1.1, .int .i64 x_1.snd.1, .int .i64 x_1.snd.snd.1, .int .i64 x_2.1, .int .i64 x_2.snd.1, .int .i64 x_2.snd.snd.1, .int .i64 x_3.1, .bool true, .int .i64 x_11.1, .int .i64 x_12.1, .int .i64 x_12.snd.1, .int .i64 x_12.snd.snd.1, .int .i64 x_13.1], own := false, pars := [[.sl false [4] l, .int .i64 x_13.2]], news := [] }) ∧
    ((x_10.1 == 0) = false → Q { val := .agg [.int .i64 x_4.1, .int .i64 x_4.snd.1, .int .i64 x_4.snd.snd.1, .int .i64 x_5.1, .int .i64 x_5.snd.1, .int .i64 x_5.snd.snd.1, .int .i64 x_6.1, .int .i64 x_6.snd.1, .int .i64 x_6.snd.snd.1, .int .i64 x_7.1, .int .i64 x_7.snd.1, .int .i64 x_7.snd.snd.1, .int .i64 x_8.1, .int .i64 x_8.snd.1, .int .i64 x_8.snd.snd.1, .int .i64 x_9.1, .int .i64 x_9.snd.1, .int .i64 x_9.snd.snd.1, .int .i64 x.1, .int .i64 x_1.1, .int .i64 x_1.snd.1, .int .i64 x_1.snd.snd.1, .int .i64 x_2.1, .int .i64 x_2.snd.1, .int .i64 x_2.snd.snd.1, .int .i64 x_3.1, .bool false, .int .i64 0, .int .i64 0, .int .i64 0, .int .i64 0, .int .i64 0], own := false, pars := [[.sl false [4] l, .int .i64 x_10.2]], news := [] })) := by kernel_rfl
end Go.Proofs.YtgnknciihdajiaaDoor
namespace U
theorem src_ex {l : List (List Int)} {p B : Int} (h : inSrc l p) (hB : 0 ≤ B) : ∃ x : Int × Int × Int × Int, B3 B x.1 x.2.1 x.2.2.1 ∧ inSrc l x.2.2.2 :=
  ⟨(0, 0, 0, p), ⟨⟨by show -B ≤ 0; omega, hB⟩, ⟨by show -B ≤ 0; omega, hB⟩, by show -B ≤ 0; omega, hB⟩, h⟩
theorem rngx (l : List (List Int)) (p a b : Int) (h : a ≤ b) : ∃ x : Int × Int, a ≤ x.1 ∧ x.1 ≤ b ∧ x.2 = adv l p := ⟨(a, adv l p), Int.le_refl _, h, rfl⟩
end U
namespace Go.Proofs.YtgnknciihdajiaaDoor
open Go Go.HL U
attribute [local irreducible] hfun bodyT fragT
set_option maxHeartbeats 400000 in
set_option maxRecDepth 100000 in
theorem sVec : Sound Tryd.prog 20 SVec := by
  refine sound_of (C := CVec) tabVec Tryd.func20 (by kernel_rfl) (by decide +kernel) (by kernel_rfl) rfl ⟨sRange, trivial⟩ (loops0 (by kernel_rfl)) ?_
  intro hargs pars R h
  unfold SVec at h
  split at h
  case h_2 => exfalso; exact h
  rename_i n l p
  obtain ⟨⟨h0, h1, hs⟩, _, hR⟩ := h
  refine byVC (vcVec l p n R) ⟨by omega, fun x1 e1 => ⟨⟨by omega, by omega, by omega, hs⟩, rngx _ _ _ _ (by omega), fun a ha => ⟨by omega, fun x3 e3 => ?_⟩⟩⟩
  have s1 : inSrc l a.2 := by rw [ha.2.2]; exact inSrc_adv hs
  refine ⟨⟨by omega, by omega, by omega, s1⟩, rngx _ _ _ _ (by omega), fun b hb => ⟨by omega, fun x5 e5 => ?_⟩⟩
  have s2 : inSrc l b.2 := by rw [hb.2.2]; exact inSrc_adv s1
  refine ⟨⟨by omega, by omega, by omega, s2⟩, rngx _ _ _ _ (by omega), fun c hc => ?_⟩
  have s3 : inSrc l c.2 := by rw [hc.2.2]; exact inSrc_adv s2
  exact hR (a.1, b.1, c.1, c.2) ⟨⟨⟨by show -n ≤ a.1; omega, ha.2.1⟩, ⟨by show -n ≤ b.1; omega, hb.2.1⟩, by show -n ≤ c.1; omega, hc.2.1⟩, s3⟩
set_option maxHeartbeats 400000 in
set_option maxRecDepth 100000 in
theorem sFrm : Sound Tryd.prog 19 SFrm := by
  refine sound_of (C := CFrm) tabFrm Tryd.func19 (by kernel_rfl) (by decide +kernel) (by kernel_rfl) rfl ⟨sRange, sNext, sVec, trivial⟩ (loopsAll (by kernel_rfl)) ?_
  intro hargs pars R h
  unfold SFrm at h
  split at h
  case h_2 => exfalso; exact h
  rename_i l p
  obtain ⟨hs, _, hR⟩ := h
  refine byVC (vcFrm l p R) ⟨⟨by decide, by decide, by decide, hs⟩, rngx _ _ _ _ (by decide), fun a ha => ?_⟩
  have s0 : inSrc l a.2 := by rw [ha.2.2]; exact inSrc_adv hs
  refine ⟨⟨by decide, by decide, s0⟩, src_ex s0 (by decide), fun b hb => ⟨⟨by decide, by decide, hb.2⟩, src_ex hb.2 (by decide), fun c hc => ⟨⟨by decide, by decide, by decide, hc.2⟩, rngx _ _ _ _ (by decide), fun d hd => ?_⟩⟩⟩
  have s1 : inSrc l d.2 := by rw [hd.2.2]; exact inSrc_adv hc.2
  refine ⟨⟨by decide, by decide, s1⟩, src_ex s1 (by decide), fun e0 k0 => ⟨⟨by decide, by decide, k0.2⟩, src_ex k0.2 (by decide), fun e1 k1 => ⟨⟨by decide, by decide, k1.2⟩, src_ex k1.2 (by decide), fun e2 k2 => ⟨⟨by decide, by decide, k2.2⟩, src_ex k2.2 (by decide), fun e3 k3 => ⟨⟨by decide, by decide, k3.2⟩, src_ex k3.2 (by decide), fun e4 k4 => ⟨⟨by decide, by decide, k4.2⟩, src_ex k4.2 (by decide), fun e5 k5 => ⟨⟨by decide, by decide, k5.2⟩, drew_ex _ _ (by decide), fun t ht => ?_⟩⟩⟩⟩⟩⟩⟩
  have s2 := drew_src k5.2 ht
  refine ⟨fun g => ⟨⟨by decide, by decide, by decide, s2⟩, rngx _ _ _ _ (by decide), fun u hu => ?_⟩, fun g => ?_⟩
  · have s3 : inSrc l u.2 := by rw [hu.2.2]; exact inSrc_adv s2
    refine ⟨⟨by decide, by decide, s3⟩, src_ex s3 (by decide), fun v hv => ⟨⟨by decide, by decide, hv.2⟩, drew_ex _ _ (by decide), fun w hw => ?_⟩⟩
    exact hR (⟨e0.1, e0.2.1, e0.2.2.1, e1.1, e1.2.1, e1.2.2.1, e2.1, e2.2.1, e2.2.2.1, e3.1, e3.2.1, e3.2.2.1, e4.1, e4.2.1, e4.2.2.1, e5.1, e5.2.1, e5.2.2.1, a.1, b.1, b.2.1, b.2.2.1, c.1, c.2.1, c.2.2.1, d.1, true, u.1, v.1, v.2.1, v.2.2.1, w.1⟩, w.2)
      ⟨⟨⟨ha.1, ha.2.1⟩, k0.1, k1.1, k2.1, k3.1, k4.1, k5.1, hb.1, hc.1, ⟨hd.1, hd.2.1⟩, fun k => (by cases k), fun _ => ⟨⟨hu.1, hu.2.1⟩, hv.1, hw.1, hw.2.1⟩⟩, drew_src hv.2 hw⟩
  · exact hR (⟨e0.1, e0.2.1, e0.2.2.1, e1.1, e1.2.1, e1.2.2.1, e2.1, e2.2.1, e2.2.2.1, e3.1, e3.2.1, e3.2.2.1, e4.1, e4.2.1, e4.2.2.1, e5.1, e5.2.1, e5.2.2.1, a.1, b.1, b.2.1, b.2.2.1, c.1, c.2.1, c.2.2.1, d.1, false, 0, 0, 0, 0, 0⟩, t.2)
      ⟨⟨⟨ha.1, ha.2.1⟩, k0.1, k1.1, k2.1, k3.1, k4.1, k5.1, hb.1, hc.1, ⟨hd.1, hd.2.1⟩, fun _ => ⟨rfl, rfl, rfl, rfl, rfl⟩, fun k => (by cases k)⟩, s2⟩
end Go.Proofs.YtgnknciihdajiaaDoor
namespace U
open Go Go.HL
theorem fl {X : Bool} {A B : Prop} (hX : X = false) (hB : B) : (X = true → A) ∧ (X = false → B) := ⟨fun g => (by rw [hX] at g; cases g), fun _ => hB⟩
theorem nv3 (x y z : Int) : (!(x == x && (y == y && (z == z && true)))) = false := by simp
theorem okF_O {f : FrS} (h : okF f) : okO f.sy f.s0 f.s1 f.s2 f.s3 f.s4 f.s5 f.s6 f.s7 f.s8 f.s9 f.s10 f.s11 f.s12 f.s13 f.s14 f.s15 f.s16 f.s17 f.l0 f.l1 f.l2 f.h0 f.h1 f.h2 f.ln := by
  obtain ⟨h1, a0, a1, a2, a3, a4, a5, b, c, d, _⟩ := h
  exact ⟨h1, ⟨B3_mono a0 (by decide), B3_mono a1 (by decide), B3_mono a2 (by decide), B3_mono a3 (by decide), B3_mono a4 (by decide), B3_mono a5 (by decide)⟩, B3_mono b (by decide), B3_mono c (by decide), by omega⟩
theorem okF_P {f : FrS} (h : okF f) : okP f.tu f.pl f.an ∧ B3 50000 f.c0 f.c1 f.c2 := by
  obtain ⟨_, _, _, _, _, _, _, _, _, _, h0, h1⟩ := h
  cases ht : f.tu with
  | false =>
    obtain ⟨e1, e2, e3, e4, e5⟩ := h0 ht
    rw [e2, e3, e4, e5]
    exact ⟨⟨fun k => (by cases k), by decide⟩, by unfold B3; decide⟩
  | true =>
    obtain ⟨e1, e2, e3⟩ := h1 ht
    exact ⟨⟨fun _ => e1, by omega⟩, e2⟩
def frZ : FrS := ⟨0, 0, 0, 0, 0, 0, 0, 0, 0, 0, 0, 0, 0, 0, 0, 0, 0, 0, 54, 0, 0, 0, 0, 0, 0, 0, false, 0, 0, 0, 0, 0⟩
theorem okF_Z : okF frZ :=
  have a : B3 50000 0 0 0 := by unfold B3; decide
  have b : B3 20000 0 0 0 := by unfold B3; decide
  ⟨by decide, a, a, a, a, a, a, b, b, by decide, fun _ => ⟨rfl, rfl, rfl, rfl, rfl⟩, fun k => (by cases k)⟩
end U

namespace U
open Go Go.HL
def cN (s : C3) : Int := s.x * s.x + s.y * s.y
def loN : Nat → Int
  | 0 => 652032874 * 652032874
  | n + 1 => loN n + loN n / (2 ^ n * 2 ^ n) - 34493956099
def hiN : Nat → Int
  | 0 => 652032874 * 652032874
  | n + 1 => hiN n + hiN n / (2 ^ n * 2 ^ n) + 34493956100
theorem mulb {u v A B : Int} (hu : -A ≤ u ∧ u ≤ A) (hv : -B ≤ v ∧ v ≤ B) : -(A * B) ≤ u * v ∧ u * v ≤ A * B := by
  have h : (u * v).natAbs ≤ A.toNat * B.toNat := by rw [Int.natAbs_mul]; exact Nat.mul_le_mul (by omega) (by omega)
  have e : ((A.toNat * B.toNat : Nat) : Int) = A * B := by
    rw [Int.natCast_mul, Int.toNat_of_nonneg (by omega), Int.toNat_of_nonneg (by omega)]
  omega
theorem nstep {x y P M : Int} (hP : 1 ≤ P) (hx : -M ≤ x ∧ x ≤ M) (hy : -M ≤ y ∧ y ≤ M) :
    ((x * x + y * y) + (x * x + y * y) / (P * P) - (8 * M + 4 * P + 3) ≤ (x - y / P) * (x - y / P) + (y + x / P) * (y + x / P) ∧
      (x - y / P) * (x - y / P) + (y + x / P) * (y + x / P) ≤ (x * x + y * y) + (x * x + y * y) / (P * P) + (8 * M + 4 * P + 3)) ∧
    ((x * x + y * y) + (x * x + y * y) / (P * P) - (8 * M + 4 * P + 3) ≤ (x + y / P) * (x + y / P) + (y - x / P) * (y - x / P) ∧
      (x + y / P) * (x + y / P) + (y - x / P) * (y - x / P) ≤ (x * x + y * y) + (x * x + y * y) / (P * P) + (8 * M + 4 * P + 3)) := by
  have p0 : 0 < P := by omega
  have ea := Int.mul_ediv_add_emod y P
  have eb := Int.mul_ediv_add_emod x P
  have ra := Int.emod_nonneg y (by omega : P ≠ 0)
  have rb := Int.emod_lt_of_pos y p0
  have sa := Int.emod_nonneg x (by omega : P ≠ 0)
  have sb := Int.emod_lt_of_pos x p0
  generalize y / P = a at *
  generalize x / P = b at *
  generalize y % P = r at *
  generalize x % P = s at *
  have w1 : P * P * 1 ≤ P * P * 1 := Int.le_refl _
  have hPW : P ≤ P * P := by have := Int.mul_le_mul_of_nonneg_left hP (Int.le_of_lt p0); rw [Int.mul_one] at this; exact this
  have hW : 0 < P * P := by omega
  have hd1 := Int.mul_ediv_add_emod (x * x + y * y) (P * P)
  have hd2 := Int.emod_nonneg (x * x + y * y) (by omega : P * P ≠ 0)
  have hd3 := Int.emod_lt_of_pos (x * x + y * y) hW
  generalize (x * x + y * y) / (P * P) = d at *
  generalize (x * x + y * y) % (P * P) = t at *
  have yr := mulb hy (show -P ≤ r ∧ r ≤ P by omega)
  have xs := mulb hx (show -P ≤ s ∧ s ≤ P by omega)
  have rr := mulb (show -P ≤ r ∧ r ≤ P by omega) (show -P ≤ r ∧ r ≤ P by omega)
  have ss := mulb (show -P ≤ s ∧ s ≤ P by omega) (show -P ≤ s ∧ s ≤ P by omega)
  have rr0 : 0 ≤ r * r := Int.mul_nonneg ra ra
  have ss0 : 0 ≤ s * s := Int.mul_nonneg sa sa
  have f1 : P * P * (a * a) = y * y - 2 * (y * r) + r * r := by
    have : P * a = y - r := by omega
    have e : P * P * (a * a) = (P * a) * (P * a) := by rw [Int.mul_assoc, Int.mul_assoc, Int.mul_left_comm P a a]
    rw [e, this, Int.sub_mul, Int.mul_sub, Int.mul_sub, Int.mul_comm r y]; omega
  have f2 : P * P * (b * b) = x * x - 2 * (x * s) + s * s := by
    have : P * b = x - s := by omega
    have e : P * P * (b * b) = (P * b) * (P * b) := by rw [Int.mul_assoc, Int.mul_assoc, Int.mul_left_comm P b b]
    rw [e, this, Int.sub_mul, Int.mul_sub, Int.mul_sub, Int.mul_comm s x]; omega
  have m0 : 0 ≤ M := by omega
  have hMP : M * P ≤ M * (P * P) := Int.mul_le_mul_of_nonneg_left hPW m0
  have hMW : M * (P * P) = P * P * M := Int.mul_comm _ _
  have q1 : P * P * (-(4 * M)) ≤ P * P * (a * a + b * b - d) := by
    rw [Int.mul_sub, Int.mul_add, f1, f2, Int.mul_neg, Int.mul_left_comm (P * P) 4 M]
    omega
  have q2 : P * P * (a * a + b * b - d) ≤ P * P * (4 * M + 3) := by
    rw [Int.mul_sub, Int.mul_add, f1, f2, Int.mul_add, Int.mul_left_comm (P * P) 4 M]
    omega
  have q1 := Int.le_of_mul_le_mul_left q1 hW
  have q2 := Int.le_of_mul_le_mul_left q2 hW
  have g1 : x * a = P * (a * b) + s * a := by
    rw [← eb, Int.add_mul, Int.mul_assoc, Int.mul_comm b a]
  have g2 : y * b = P * (a * b) + r * b := by
    rw [← ea, Int.add_mul, Int.mul_assoc]
  have small : ∀ {u v k w : Int}, P * v + w = u → 0 ≤ w → w < P → 0 ≤ k → k < P → (-M ≤ u ∧ u ≤ M) → -(M + P) ≤ k * v ∧ k * v ≤ M + P := by
    intro u v k w e w0 wP k0 kP hu
    by_cases hv : 0 ≤ v
    · have h1 := Int.mul_nonneg k0 hv
      have h2 := Int.mul_le_mul_of_nonneg_right (Int.le_of_lt kP) hv
      omega
    · have hv : v ≤ 0 := by omega
      have h1 := Int.mul_nonneg k0 (show 0 ≤ -v by omega)
      have h2 := Int.mul_le_mul_of_nonneg_right (Int.le_of_lt kP) (show 0 ≤ -v by omega)
      rw [Int.mul_neg] at h1 h2
      rw [Int.mul_neg] at h2
      omega
  have h1 := small ea ra rb sa sb hy
  have h2 := small eb sa sb ra rb hx
  have i1 : (x - a) * (x - a) + (y + b) * (y + b) = x * x + y * y + (a * a + b * b) + 2 * (r * b) - 2 * (s * a) := by
    rw [Int.sub_mul, Int.mul_sub, Int.mul_sub, Int.add_mul, Int.mul_add, Int.mul_add, Int.mul_comm a x, Int.mul_comm b y, g1, g2]; omega
  have i2 : (x + a) * (x + a) + (y - b) * (y - b) = x * x + y * y + (a * a + b * b) - 2 * (r * b) + 2 * (s * a) := by
    rw [Int.sub_mul, Int.mul_sub, Int.mul_sub, Int.add_mul, Int.mul_add, Int.mul_add, Int.mul_comm a x, Int.mul_comm b y, g1, g2]; omega
  rw [i1, i2]
  omega
theorem cnorm (z : Int) : ∀ n, n ≤ 26 → loN n ≤ cN (cord z n) ∧ cN (cord z n) ≤ hiN n
  | 0, _ => by
    have e : cN (cord z 0) = 652032874 * 652032874 := rfl
    rw [e]; exact ⟨Int.le_refl _, Int.le_refl _⟩
  | n + 1, hn => by
    obtain ⟨h1, h2⟩ := cnorm z n (by omega)
    have cb := cord_bd z n
    have cl := cbd_le n (by omega)
    have hp : (1 : Int) ≤ 2 ^ n := Int.pow_pos (by decide)
    have hp2 : (2 : Int) ^ n ≤ 33554432 := by
      have e : ∀ n, n < 26 → (2 : Int) ^ n ≤ 33554432 := by decide +kernel
      exact e n (by omega)
    have hw : (0 : Int) < 2 ^ n * 2 ^ n := Int.mul_pos (by omega) (by omega)
    have st := nstep (x := (cord z n).x) (y := (cord z n).y) (P := 2 ^ n) (M := 4294967296) hp (by omega) (by omega)
    have l1 := Int.ediv_le_ediv hw h1
    have l2 := Int.ediv_le_ediv hw h2
    have el : loN (n + 1) = loN n + loN n / (2 ^ n * 2 ^ n) - 34493956099 := rfl
    have eh : hiN (n + 1) = hiN n + hiN n / (2 ^ n * 2 ^ n) + 34493956100 := rfl
    rw [cord_succ, el, eh]
    unfold cstep
    split
    · unfold cN at *
      dsimp only
      rw [fdiv_pow, fdiv_pow]
      have := st.1
      omega
    · unfold cN at *
      dsimp only
      rw [fdiv_pow, fdiv_pow]
      have := st.2
      omega
theorem trn_n : ∀ (n : Nat) (p : Int × Int), (trn n p).1 * (trn n p).1 + (trn n p).2 * (trn n p).2 = p.1 * p.1 + p.2 * p.2
  | 0, _ => rfl
  | n + 1, p => by
    show (trn n (-p.2, p.1)).1 * (trn n (-p.2, p.1)).1 + (trn n (-p.2, p.1)).2 * (trn n (-p.2, p.1)).2 = _
    rw [trn_n n]
    show -p.2 * -p.2 + p.1 * p.1 = _
    rw [Int.neg_mul_neg]; omega
theorem sc_n (a : Int) : 1152920586126786920 ≤ scC a * scC a + scS a * scS a ∧ scC a * scC a + scS a * scS a ≤ 1152922422000000000 := by
  unfold scC scS
  rw [trn_n]
  unfold cs0
  have h := cnorm (ars a * 1000) 26 (Nat.le_refl _)
  have e1 : (1152920586126786920 : Int) ≤ loN 26 := by decide +kernel
  have e2 : hiN 26 ≤ (1152922422000000000 : Int) := by decide +kernel
  unfold cN at h
  split
  · dsimp only; omega
  · dsimp only; omega
end U

namespace Go.Proofs.YtgnknciihdajiaaDoor
open Go Go.HL U
def SFS (hargs : List HV) (pars : List (List HC)) : SR :=
  match hargs, pars with
  | [.ce (.sl false [4] l), .ce (.sl false [4] k)], [] => .det (l.length ≤ 9223372036854775807 ∧ k.length ≤ 9223372036854775807) okB1
  | _, _ => .fail
end Go.Proofs.YtgnknciihdajiaaDoor
namespace U
theorem sq_bd {c N : Int} {K : Nat} (h : c * c ≤ N) (hK : N < ((K * K : Nat) : Int)) : -(K : Int) ≤ c ∧ c ≤ (K : Int) := by
  have e := Int.natAbs_mul_self (a := c)
  by_cases k : c.natAbs ≤ K
  · omega
  · have := Nat.mul_le_mul (show K ≤ c.natAbs by omega) (show K ≤ c.natAbs by omega)
    omega
theorem sc_b (a : Int) : (-1073742300 ≤ scC a ∧ scC a ≤ 1073742300) ∧ (-1073742300 ≤ scS a ∧ scS a ≤ 1073742300) := by
  have h := (sc_n a).2
  have c0 : 0 ≤ scC a * scC a := by have := Int.natAbs_mul_self (a := scC a); omega
  have s0 : 0 ≤ scS a * scS a := by have := Int.natAbs_mul_self (a := scS a); omega
  exact ⟨sq_bd (K := 1073742300) (show scC a * scC a ≤ 1152922422000000000 by omega) (by decide), sq_bd (K := 1073742300) (show scS a * scS a ≤ 1152922422000000000 by omega) (by decide)⟩
theorem rt_b {x y a : Int} (hx : -250000 ≤ x ∧ x ≤ 250000) (hy : -250000 ≤ y ∧ y ≤ 250000) : (-500001 ≤ rtU x y a ∧ rtU x y a ≤ 500001) ∧ (-500001 ≤ rtW x y a ∧ rtW x y a ≤ 500001) := by
  have b := sc_b a
  have h1 := mulb hx b.1
  have h2 := mulb hx b.2
  have h3 := mulb hy b.1
  have h4 := mulb hy b.2
  unfold rtU rtW
  split
  · unfold nr; omega
  · decide
theorem pk6_b {s a b c d e f B : Int} (ha : -B ≤ a ∧ a ≤ B) (hb : -B ≤ b ∧ b ≤ B) (hc : -B ≤ c ∧ c ≤ B) (hd : -B ≤ d ∧ d ≤ B) (he : -B ≤ e ∧ e ≤ B) (hf : -B ≤ f ∧ f ≤ B) : -B ≤ pk6 s a b c d e f ∧ pk6 s a b c d e f ≤ B := by
  unfold pk6
  split
  · exact ha
  · split
    · exact hb
    · split
      · exact hc
      · split
        · exact hd
        · split
          · exact he
          · exact hf
def oX (f : FrS) : Int := orX f.sy f.s0 f.s3 f.s6 f.s9 f.s12 f.s15 f.l0 f.h0
def oY (f : FrS) : Int := orX f.sy f.s1 f.s4 f.s7 f.s10 f.s13 f.s16 f.l1 f.h1
def oZ (f : FrS) : Int := orZ f.sy f.s2 f.s5 f.s8 f.s11 f.s14 f.s17 f.l2 f.h2 f.ln
theorem orF_b {f : FrS} (h : okF f) : B3 95000 (oX f) (oY f) (oZ f) := by
  obtain ⟨_, ⟨a0, b0, c0⟩, ⟨a1, b1, c1⟩, ⟨a2, b2, c2⟩, ⟨a3, b3, c3⟩, ⟨a4, b4, c4⟩, ⟨a5, b5, c5⟩, ⟨d0, d1, d2⟩, ⟨e0, e1, e2⟩, g, _⟩ := h
  have p0 := pk6_b (s := f.sy) a0 a1 a2 a3 a4 a5
  have p1 := pk6_b (s := f.sy) b0 b1 b2 b3 b4 b5
  have p2 := pk6_b (s := f.sy) c0 c1 c2 c3 c4 c5
  unfold oX oY oZ orX orZ
  exact ⟨by omega, by omega, by omega⟩
theorem rotF_b {f : FrS} {x y z : Int} (hf : okF f) (hp : B3 200000 x y z) : (rotF f.tu f.pl f.c0 f.c1 f.c2 x y z f.an).ok = true ∧ B3 550001 (rotF f.tu f.pl f.c0 f.c1 f.c2 x y z f.an).x (rotF f.tu f.pl f.c0 f.c1 f.c2 x y z f.an).y (rotF f.tu f.pl f.c0 f.c1 f.c2 x y z f.an).z := by
  have hc := (okF_P hf).2
  have hpl := (okF_P hf).1.1
  cases ht : f.tu with
  | false => exact ⟨rfl, B3_mono hp (by decide)⟩
  | true =>
    have hpl := hpl ht
    have a := flat_bd (p := f.pl) (by decide) hp
    have b := flat_bd (p := f.pl) (by decide) hc
    have r := rt_b (x := fU f.pl x y z - fU f.pl f.c0 f.c1 f.c2) (y := fW f.pl x y z - fW f.pl f.c0 f.c1 f.c2) (a := f.an) (by omega) (by omega)
    have hA : -550001 ≤ tA f.pl f.c0 f.c1 f.c2 x y z f.an ∧ tA f.pl f.c0 f.c1 f.c2 x y z f.an ≤ 550001 := by unfold tA; omega
    have hB : -550001 ≤ tB f.pl f.c0 f.c1 f.c2 x y z f.an ∧ tB f.pl f.c0 f.c1 f.c2 x y z f.an ≤ 550001 := by unfold tB; omega
    have hH : -550001 ≤ fH f.pl x y z ∧ fH f.pl x y z ≤ 550001 := by omega
    refine ⟨decide_eq_true (by omega), ?_⟩
    show B3 550001 (tX f.pl f.c0 f.c1 f.c2 x y z f.an) (tY f.pl f.c0 f.c1 f.c2 x y z f.an) (tZ f.pl f.c0 f.c1 f.c2 x y z f.an)
    unfold tX tY tZ
    have k : f.pl = 17 ∨ f.pl = 18 ∨ f.pl = 19 := by omega
    generalize tA f.pl f.c0 f.c1 f.c2 x y z f.an = A at *
    generalize tB f.pl f.c0 f.c1 f.c2 x y z f.an = D at *
    generalize fH f.pl x y z = H at *
    rcases k with e | e | e <;> rw [e]
    · exact ⟨hA, hB, hH⟩
    · exact ⟨hB, hH, hA⟩
    · exact ⟨hH, hA, hB⟩
theorem toF_ok {f : FrS} {x y z o0 o1 o2 : Int} (hf : okF f) (hp : B3 200000 x y z) (ho : B3 95000 o0 o1 o2) :
    toF f.tu f.pl f.c0 f.c1 f.c2 f.an o0 o1 o2 x y z = ⟨(rotF f.tu f.pl f.c0 f.c1 f.c2 x y z f.an).x + o0, (rotF f.tu f.pl f.c0 f.c1 f.c2 x y z f.an).y + o1, (rotF f.tu f.pl f.c0 f.c1 f.c2 x y z f.an).z + o2, 0⟩ := by
  obtain ⟨h1, ⟨b0, b1, b2⟩⟩ := rotF_b hf hp
  obtain ⟨k0, k1, k2⟩ := ho
  unfold toF
  rw [if_pos (wn_iff.2 (B3_mono hp (by decide)))]
  exact mapW_ok h1 (wn_iff.2 ⟨by omega, by omega, by omega⟩)
end U

namespace U
open Go Go.HL
def isR (n q : Nat) : Prop := q * q ≤ n ∧ n < (q + 1) * (q + 1)
end U
namespace Go.Proofs.YtgnknciihdajiaaDoor
open Go Go.HL U
def SRt (hargs : List HV) (pars : List (List HC)) : SR :=
  match hargs, pars with
  | [.ce (.sl false [8] x)], [] => .all (x = lim (dv x) ∧ dv x < 4611686018427387904) Nat (fun q => isR (dv x) q)
      (fun q => ⟨.tup [.ce (.int .u64 (q : Int)), .ce (.bool (decide (q * q = dv x))), .ce (.int .i64 (if q * (q + 1) < dv x then 1 else -1))], false, [], []⟩)
  | _, _ => .fail
def anRt : LAnn := ⟨[0, 5, 6], [0, 5], [], false⟩
def LRt (v : LV) : LR :=
  match v with
  | ([.ce (.sl false [8] x), .ce (.int .u64 q), .ce (.int .i64 i)], []) =>
    .all (i = 62 ∧ q = 0 ∧ x = lim (dv x) ∧ dv x < 4611686018427387904) Nat (fun q => isR (dv x) q) (fun _ => .exit 0) (fun q => ([.ce (.sl false [8] x), .ce (.int .u64 (q : Int))], []))
  | _ => .fail
def tabRt : List (FuncId × HL.Spec) := [(93, SLimbs), (96, SMulL), (95, SCmp)]
noncomputable def CRt : Ctx := ⟨Tryd.prog, gam tabRt, Tryd.f104.ntmps, [(3, anRt, LRt)], []⟩
theorem vbRt (x : List (List Int)) (q i : Int) (K : HEx → LV → Prop) : (nbodyT true CRt anRt (nthLoop Tryd.f104 0) (([.ce (.sl false [8] x), .ce (.int .u64 q), .ce (.int .i64 i)], [])) K) =
    ((decide (i ≥ 0) = true → ∀ (x1 : Int), x1 = i % (18446744073709551616 : Int) → 0 ≤ x1 ∧ ∀ (x2 : Int), x2 = IntKind.wrap .u64 ((1 : Int) * (2 : Int) ^ min x1.toNat (64 : Nat)) → ∀ (x3 : Int), x3 = bor .u64 q x2 → (0 ≤ x3 ∧ x3 < 18446744073709551616) ∧ ∀ (x4 : List (List Int)), x4 = lim x3.toNat → (dg x4 ∧ dg x4 ∧ List.length x4 ≤ (100 : Nat) ∧ List.length x4 ≤ (100 : Nat)) ∧ ∀ (x5 : List (List Int)), x5 = lim (dv x4 * dv x4) → (x5 = lim (dv x5) ∧ x = lim (dv x) ∧ List.length x5 ≤ (1000 : Nat) ∧ List.length x ≤ (1000 : Nat)) ∧ ∀ (x6 : Int), x6 = cmp3 (dv x5) (dv x) → (decide (x6 ≤ 0) = true → ∀ (x7 : Int), x7 = i % (18446744073709551616 : Int) → 0 ≤ x7 ∧ ∀ (x8 : Int), x8 = IntKind.wrap .u64 ((1 : Int) * (2 : Int) ^ min x7.toNat (64 : Nat)) → ∀ (x9 : Int), x9 = bor .u64 q x8 → (-9223372036854775808 ≤ i - 1 ∧ i - 1 ≤ 9223372036854775807) ∧ ∀ (x10 : Int), x10 = i - 1 → K .normal ([.ce (.sl false [8] x), .ce (.int .u64 x9), .ce (.int .i64 x10)], [])) ∧
    (decide (x6 ≤ 0) = false → (-9223372036854775808 ≤ i - 1 ∧ i - 1 ≤ 9223372036854775807) ∧ ∀ (x11 : Int), x11 = i - 1 → K .normal ([.ce (.sl false [8] x), .ce (.int .u64 q), .ce (.int .i64 x11)], []))) ∧ (decide (i ≥ 0) = false → K (.exit 0) ([.ce (.sl false [8] x), .ce (.int .u64 q)], []))) := by kernel_rfl
theorem vcRt (x : List (List Int)) (Q : Res → Prop) : (nfun true CRt Tryd.f104 (bodyOf Tryd.f104) [.ce (.sl false [8] x)] [] Q) =
    (((62 : Int) = (62 : Int) ∧ (0 : Int) = (0 : Int) ∧ x = lim (dv x) ∧ dv x < (4611686018427387904 : Nat)) ∧ ∀ (x_1 : Nat), isR (dv x) x_1 → ((0 : Int) ≤ ((x_1 : Nat) : Int) ∧ ((x_1 : Nat) : Int) < (18446744073709551616 : Int)) ∧ ∀ (x2 : List (List Int)), x2 = lim (Int.toNat ((x_1 : Nat) : Int)) → ∀ (x3 : Int), x3 = (((x_1 : Nat) : Int) + (1 : Int)) % (18446744073709551616 : Int) → (0 ≤ x3 ∧ x3 < 18446744073709551616) ∧ ∀ (x4 : List (List Int)), x4 = lim x3.toNat → (dg x2 ∧ dg x4 ∧ List.length x2 ≤ (100 : Nat) ∧ List.length x4 ≤ (100 : Nat)) ∧ ∀ (x5 : List (List Int)), x5 = lim (dv x2 * dv x4) → (x = lim (dv x) ∧ x5 = lim (dv x5) ∧ List.length x ≤ (1000 : Nat) ∧ List.length x5 ≤ (1000 : Nat)) ∧ ∀ (x6 : Int), x6 = cmp3 (dv x) (dv x5) → (decide (x6 > 0) = true → ((0 : Int) ≤ ((x_1 : Nat) : Int) ∧ ((x_1 : Nat) : Int) < (18446744073709551616 : Int)) ∧ ∀ (x7 : List (List Int)), x7 = lim (Int.toNat ((x_1 : Nat) : Int)) →
    ((0 : Int) ≤ ((x_1 : Nat) : Int) ∧ ((x_1 : Nat) : Int) < (18446744073709551616 : Int)) ∧ ∀ (x8 : List (List Int)), x8 = lim (Int.toNat ((x_1 : Nat) : Int)) → (dg x7 ∧ dg x8 ∧ List.length x7 ≤ (100 : Nat) ∧ List.length x8 ≤ (100 : Nat)) ∧ ∀ (x9 : List (List Int)), x9 = lim (dv x7 * dv x8) → (x9 = lim (dv x9) ∧ x = lim (dv x) ∧ List.length x9 ≤ (1000 : Nat) ∧ List.length x ≤ (1000 : Nat)) ∧ ∀ (x10 : Int), x10 = cmp3 (dv x9) (dv x) → Q ⟨.tup [.ce (.int .u64 ((x_1 : Nat) : Int)), .ce (.bool (x10 == 0)), .ce (.int .i64 1)], false, [], []⟩) ∧ (decide (x6 > 0) = false → ((0 : Int) ≤ ((x_1 : Nat) : Int) ∧ ((x_1 : Nat) : Int) < (18446744073709551616 : Int)) ∧ ∀ (x11 : List (List Int)), x11 = lim (Int.toNat ((x_1 : Nat) : Int)) → ((0 : Int) ≤ ((x_1 : Nat) : Int) ∧ ((x_1 : Nat) : Int) < (18446744073709551616 : Int)) ∧ ∀ (x12 : List (List Int)), x12 = lim (Int.toNat ((x_1 : Nat) : Int)) → (dg x11 ∧ dg x12 ∧
    List.length x11 ≤ (100 : Nat) ∧ List.length x12 ≤ (100 : Nat)) ∧ ∀ (x13 : List (List Int)), x13 = lim (dv x11 * dv x12) → (x13 = lim (dv x13) ∧ x = lim (dv x) ∧ List.length x13 ≤ (1000 : Nat) ∧ List.length x ≤ (1000 : Nat)) ∧ ∀ (x14 : Int), x14 = cmp3 (dv x13) (dv x) → Q ⟨.tup [.ce (.int .u64 ((x_1 : Nat) : Int)), .ce (.bool (x14 == 0)), .ce (.int .i64 (-1))], false, [], []⟩)) := by kernel_rfl
def SRoot (hargs : List HV) (pars : List (List HC)) : SR :=
  match hargs, pars with
  | [.ce (.int .i64 a), .ce (.int .i64 b), .ce (.int .i64 m)], [] => .all (0 ≤ a ∧ a < 4611686018427387904 ∧ b = 1 ∧ m = 2) Int (fun q => 0 ≤ q ∧ q ≤ 2147483648 ∧ (q = 0 ∨ (q - 1) * q < a) ∧ a ≤ q * (q + 1))
      (fun q => ⟨.tup [.ce (.int .i64 q), .ce (.bool true)], false, [], []⟩)
  | _, _ => .fail
def tabRoot : List (FuncId × HL.Spec) := [(91, SRight), (92, SProd), (104, SRt), (98, SRounded)]
noncomputable def CRoot : Ctx := ⟨Tryd.prog, gam tabRoot, Tryd.f80.ntmps, [], []⟩
theorem vcRoot (a b m : Int) (Q : Res → Prop) : (nfun true CRoot Tryd.f80 (bodyOf Tryd.f80) [.ce (.int .i64 a), .ce (.int .i64 b), .ce (.int .i64 m)] [] Q) =
    ((decide (a < 0) = true → Q ⟨.tup [.ce (.int .i64 0), .ce (.bool false)], false, [], []⟩) ∧ (decide (a < 0) = false → (decide (b < 0) = true → Q ⟨.tup [.ce (.int .i64 0), .ce (.bool false)], false, [], []⟩) ∧ (decide (b < 0) = false → True ∧ ∀ (x1 : Bool), x1 = decide (0 ≤ m ∧ m ≤ 2) → ((!x1) = true → Q ⟨.tup [.ce (.int .i64 0), .ce (.bool false)], false, [], []⟩) ∧ ((!x1) = false → ((-9223372036854775808 ≤ a ∧ a ≤ 9223372036854775807) ∧ -9223372036854775808 ≤ b ∧ b ≤ 9223372036854775807) ∧ ∀ (x2 : List (List Int)), x2 = lim (Int.natAbs a * Int.natAbs b) → (x2 = lim (dv x2) ∧ dv x2 < (4611686018427387904 : Nat)) ∧ (∃ (x : Nat), isR (dv x2) x) ∧ ∀ (x : Nat), isR (dv x2) x → ((0 : Int) ≤ ((x : Nat) : Int) ∧ ((x : Nat) : Int) < (18446744073709551616 : Int)) ∧ ∀ (x4 : Int), x4 = (rnd false (((x : Nat) : Int)) (decide (x * x = dv x2)) (if x * (x + (1 : Nat)) < dv x2 then (1 : Int) else (-1 : Int)) m).1 →
    ∀ (x5 : Bool), x5 = (rnd false (((x : Nat) : Int)) (decide (x * x = dv x2)) (if x * (x + (1 : Nat)) < dv x2 then (1 : Int) else (-1 : Int)) m).2 → Q ⟨.tup [.ce (.int .i64 x4), .ce (.bool x5)], false, [], []⟩)))) := by kernel_rfl
def SSqrt (hargs : List HV) (pars : List (List HC)) : SR :=
  match hargs, pars with
  | [.ce (.int .i64 a), .ce (.int .i64 m)], [] => .all (0 ≤ a ∧ a < 4611686018427387904 ∧ m = 2) Int (fun q => 0 ≤ q ∧ q ≤ 2147483648 ∧ (q = 0 ∨ (q - 1) * q < a) ∧ a ≤ q * (q + 1))
      (fun q => ⟨.tup [.ce (.int .i64 q), .ce (.bool true)], false, [], []⟩)
  | _, _ => .fail
def tabSqrt : List (FuncId × HL.Spec) := [(80, SRoot)]
noncomputable def CSqrt : Ctx := ⟨Tryd.prog, gam tabSqrt, Tryd.f59.ntmps, [], []⟩
theorem vcSqrt (a m : Int) (Q : Res → Prop) : (nfun true CSqrt Tryd.f59 (bodyOf Tryd.f59) [.ce (.int .i64 a), .ce (.int .i64 m)] [] Q) =
    ((0 ≤ a ∧ a < 4611686018427387904 ∧ (1 : Int) = (1 : Int) ∧ m = 2) ∧ (∃ (x : Int), 0 ≤ x ∧ x ≤ 2147483648 ∧ (x = 0 ∨ (x - 1) * x < a) ∧ a ≤ x * (x + 1)) ∧ ∀ (x : Int), 0 ≤ x ∧ x ≤ 2147483648 ∧ (x = 0 ∨ (x - 1) * x < a) ∧ a ≤ x * (x + 1) → Q ⟨.tup [.ce (.int .i64 x), .ce (.bool true)], false, [], []⟩) := by kernel_rfl
def SDot (hargs : List HV) (pars : List (List HC)) : SR :=
  match hargs, pars with
  | [.agg [.int .i64 x, .int .i64 y, .int .i64 z], .agg [.int .i64 a, .int .i64 b, .int .i64 c]], [] => .det (B3 4194304 x y z ∧ B3 4194304 a b c) ⟨.ce (.int .i64 (x * a + y * b + z * c)), false, [], []⟩
  | _, _ => .fail
noncomputable def CDot : Ctx := ⟨Tryd.prog, gam [], Tryd.f60.ntmps, [], []⟩
theorem vcDot (x y z a b c : Int) (Q : Res → Prop) : (nfun true CDot Tryd.f60 (bodyOf Tryd.f60) [.agg [.int .i64 x, .int .i64 y, .int .i64 z], .agg [.int .i64 a, .int .i64 b, .int .i64 c]] [] Q) =
    ((-9223372036854775808 ≤ x * a ∧ x * a ≤ 9223372036854775807) ∧ ∀ (x1 : Int), x1 = x * a → (-9223372036854775808 ≤ y * b ∧ y * b ≤ 9223372036854775807) ∧ ∀ (x2 : Int), x2 = y * b → (-9223372036854775808 ≤ x1 + x2 ∧ x1 + x2 ≤ 9223372036854775807) ∧ ∀ (x3 : Int), x3 = x1 + x2 → (-9223372036854775808 ≤ z * c ∧ z * c ≤ 9223372036854775807) ∧ ∀ (x4 : Int), x4 = z * c → (-9223372036854775808 ≤ x3 + x4 ∧ x3 + x4 ≤ 9223372036854775807) ∧ ∀ (x5 : Int), x5 = x3 + x4 → Q ⟨.ce (.int .i64 x5), false, [], []⟩) := by kernel_rfl
def SLng (hargs : List HV) (pars : List (List HC)) : SR :=
  match hargs, pars with
  | [.agg [.int .i64 x, .int .i64 y, .int .i64 z], .ce (.int .i64 m)], [] => .all (B3 4194304 x y z ∧ m = 2) Int (fun q => 0 ≤ q ∧ q ≤ 2147483648 ∧ (q = 0 ∨ (q - 1) * q < x * x + y * y + z * z) ∧ x * x + y * y + z * z ≤ q * (q + 1))
      (fun q => ⟨.tup [.ce (.int .i64 q), .ce (.bool true)], false, [], []⟩)
  | _, _ => .fail
def tabLng : List (FuncId × HL.Spec) := [(60, SDot), (59, SSqrt)]
noncomputable def CLng : Ctx := ⟨Tryd.prog, gam tabLng, Tryd.f26.ntmps, [], []⟩
theorem vcLng (x y z m : Int) (Q : Res → Prop) : (nfun true CLng Tryd.f26 (bodyOf Tryd.f26) [.agg [.int .i64 x, .int .i64 y, .int .i64 z], .ce (.int .i64 m)] [] Q) =
    ((B3 (4194304 : Int) x y z ∧ B3 (4194304 : Int) x y z) ∧ ∀ (x1 : Int), x1 = x * x + y * y + z * z → (0 ≤ x1 ∧ x1 < 4611686018427387904 ∧ m = 2) ∧ (∃ (x : Int), 0 ≤ x ∧ x ≤ 2147483648 ∧ (x = 0 ∨ (x - 1) * x < x1) ∧ x1 ≤ x * (x + 1)) ∧ ∀ (x : Int), 0 ≤ x ∧ x ≤ 2147483648 ∧ (x = 0 ∨ (x - 1) * x < x1) ∧ x1 ≤ x * (x + 1) → Q ⟨.tup [.ce (.int .i64 x), .ce (.bool true)], false, [], []⟩) := by kernel_rfl
end Go.Proofs.YtgnknciihdajiaaDoor
namespace U
theorem isR_ex (n : Nat) : ∃ q, isR n q := by
  induction n with
  | zero => exact ⟨0, by unfold isR; omega⟩
  | succ n ih =>
    obtain ⟨q, h1, h2⟩ := ih
    by_cases h : n + 1 < (q + 1) * (q + 1)
    · exact ⟨q, by omega, h⟩
    · refine ⟨q + 1, by omega, ?_⟩
      have e : (q + 1 + 1) * (q + 1 + 1) = (q + 1) * (q + 1) + 2 * q + 3 := by grind
      omega
theorem isR_lt {n q : Nat} (h : isR n q) (hn : n < 4611686018427387904) : q < 2147483648 := by
  by_cases k : q < 2147483648
  · exact k
  · have := Nat.mul_le_mul (show 2147483648 ≤ q by omega) (show 2147483648 ≤ q by omega)
    have := h.1
    omega
theorem cmp3_0 {x y : Nat} : (cmp3 x y == 0) = decide (x = y) := by
  unfold cmp3
  by_cases h : x < y
  · rw [if_pos h, decide_eq_false (by omega)]; rfl
  · rw [if_neg h]
    by_cases k : x = y
    · rw [if_pos k, decide_eq_true k]; rfl
    · rw [if_neg k, decide_eq_false k]; rfl
theorem cmp3_gt {x y : Nat} : cmp3 x y > 0 ↔ y < x := by
  unfold cmp3
  split
  · omega
  · split <;> omega
theorem near_R {n q : Nat} (h : isR n q) : ∃ v : Int, v = (if more false (decide (q * q = n)) (if q * (q + 1) < n then 1 else -1) 2 then (q : Int) + 1 else q) ∧ 0 ≤ v ∧ v ≤ (q : Int) + 1 ∧ (v = 0 ∨ (v - 1) * v < (n : Int)) ∧ (n : Int) ≤ v * (v + 1) := by
  obtain ⟨h1, h2⟩ := h
  have e1 : ((q * (q + 1) : Nat) : Int) = (q : Int) * ((q : Int) + 1) := by simp
  have e2 : (((q + 1) * (q + 1) : Nat) : Int) = ((q : Int) + 1) * ((q : Int) + 1) := by simp
  have e3 : ((q * q : Nat) : Int) = (q : Int) * (q : Int) := by simp
  by_cases k : q * (q + 1) < n
  · refine ⟨(q : Int) + 1, ?_, by omega, by omega, .inr ?_, ?_⟩
    · rw [if_pos k]; rfl
    · have : ((q : Int) + 1 - 1) * ((q : Int) + 1) = (q : Int) * ((q : Int) + 1) := by grind
      omega
    · have : ((q : Int) + 1) * ((q : Int) + 1 + 1) = ((q : Int) + 1) * ((q : Int) + 1) + ((q : Int) + 1) := by grind
      omega
  · refine ⟨q, ?_, by omega, by omega, ?_, by omega⟩
    · rw [if_neg k]; rfl
    · by_cases z : q = 0
      · exact .inl (by omega)
      · refine .inr ?_
        have : ((q : Int) - 1) * (q : Int) = (q : Int) * (q : Int) - q := by grind
        omega
theorem sq_ex {a : Int} (h : 0 ≤ a ∧ a < 4611686018427387904) : ∃ q : Int, 0 ≤ q ∧ q ≤ 2147483648 ∧ (q = 0 ∨ (q - 1) * q < a) ∧ a ≤ q * (q + 1) := by
  obtain ⟨q, hq⟩ := isR_ex a.toNat
  have lt := isR_lt hq (by omega)
  obtain ⟨v, _, v0, v1, v2, v3⟩ := near_R hq
  have e : ((a.toNat : Nat) : Int) = a := by omega
  rw [e] at v2 v3
  exact ⟨v, v0, by omega, v2, v3⟩
end U
namespace Go.Proofs.YtgnknciihdajiaaDoor
open Go Go.HL U
attribute [local irreducible] hfun bodyT fragT
theorem loopRt : ∀ v Q, (LRt v).wp Q → hloop CRt anRt (nthLoop Tryd.f104 0) v Q := by
  intro v Q h
  unfold LRt at h
  split at h
  case h_2 => exact h.elim
  rename_i x q i
  obtain ⟨⟨k1, k2, hx0, hn0⟩, hq⟩ := h
  subst k1 k2
  have hxl : x.length ≤ 4 := by rw [hx0]; exact lim_len 4 _ (by omega)
  refine hloop_rec (σ := Nat × Nat) (fun s => ([.ce (.sl false [8] x), .ce (.int .u64 (s.1 : Int)), .ce (.int .i64 ((s.2 : Int) - 1))], []))
    (fun s => s.2) (fun s => s.2 ≤ 63 ∧ (∃ t, s.1 = 2 ^ s.2 * t) ∧ s.1 * s.1 ≤ dv x ∧ dv x < (s.1 + 2 ^ s.2) * (s.1 + 2 ^ s.2)) ?_ (0, 63)
    ⟨Nat.le_refl _, ⟨0, rfl⟩, Nat.zero_le _, Nat.lt_trans hn0 (by decide)⟩
  rintro ⟨q, j⟩ ⟨hj, ⟨t, ht⟩, h1, h2⟩ K hn hx _
  dsimp only at hj ht h1 h2
  have ql : q < 2147483648 := by
    by_cases k : q < 2147483648
    · exact k
    · have := Nat.mul_le_mul (show 2147483648 ≤ q by omega) (show 2147483648 ≤ q by omega)
      omega
  refine byVB (vbRt x q ((j : Int) - 1) K) ⟨fun g => ?_, fun g => ?_⟩
  · have g := of_decide_eq_true g
    obtain ⟨k, rfl⟩ : ∃ k, j = k + 1 := ⟨j - 1, by omega⟩
    have pk := pow64 (j := k) (by omega)
    have pk2 : (2 : Nat) ^ k ≤ 4611686018427387904 := by
      have : (2 : Nat) ^ k ≤ 2 ^ 62 := Nat.pow_le_pow_right (by decide) (by omega)
      exact this
    have e0 : ∀ y : Int, y = (((k + 1 : Nat) : Int) - 1) % 18446744073709551616 → y = (k : Int) := fun y e => by omega
    have bo := bor_pow (q := q) (j := k) (m := t) ht (by omega) (by omega)
    have e2 : ∀ y : Int, y = (k : Int) → IntKind.wrap .u64 ((1 : Int) * 2 ^ min y.toNat 64) = ((2 ^ k : Nat) : Int) := fun y e => by
      have h := shl_one (j := k) (by omega)
      rw [Int.emod_eq_of_lt (by omega) (by omega)] at h
      rw [e]; exact h
    have pd : 2 ^ (k + 1) = 2 ^ k + 2 ^ k := by rw [Nat.pow_succ]; omega
    refine fun x1 e1 => ⟨by omega, fun x2 e2' x3 e3 => ?_⟩
    rw [e2 x1 (e0 x1 e1)] at e2'
    rw [e2', bo] at e3
    subst e3
    have b3 : 0 ≤ ((q + 2 ^ k : Nat) : Int) ∧ ((q + 2 ^ k : Nat) : Int) < 18446744073709551616 := by
      clear hn hx h2 bo e2 pd ht e2'
      generalize 2 ^ k = P at *
      omega
    refine ⟨b3, fun x4 e4 => ?_⟩
    rw [Int.toNat_natCast] at e4
    have l4 : x4.length ≤ 4 := by rw [e4]; exact lim_len 4 _ (by omega)
    refine ⟨⟨by rw [e4]; exact dg_lim _, by rw [e4]; exact dg_lim _, by omega, by omega⟩, fun x5 e5 => ?_⟩
    rw [e4, dv_lim] at e5
    have d5 : dv x5 = (q + 2 ^ k) * (q + 2 ^ k) := by rw [e5, dv_lim]
    have l5 : x5.length ≤ 8 := by
      rw [e5]
      refine lim_len 8 _ ?_
      have := Nat.mul_lt_mul'' (show q + 2 ^ k < 65536 ^ 4 by omega) (show q + 2 ^ k < 65536 ^ 4 by omega)
      exact this
    refine ⟨⟨by rw [d5]; exact e5, hx0, by omega, by omega⟩, fun x6 e6 => ⟨fun c => ?_, fun c => ?_⟩⟩
    · have c := of_decide_eq_true c
      rw [e6, cmp3_le, d5] at c
      refine fun x7 e7 => ⟨by omega, fun x8 e8 x9 e9 => ⟨by omega, fun x10 e10 => ?_⟩⟩
      rw [e2 x7 (e0 x7 e7)] at e8
      rw [e8, bo] at e9
      have nx := hn (q + 2 ^ k, k) ⟨by dsimp only; omega, ⟨2 * t + 1, by dsimp only; rw [ht, pd]; grind⟩, c, by
        dsimp only
        rw [show q + 2 ^ k + 2 ^ k = q + 2 ^ (k + 1) by omega]; exact h2⟩ (by dsimp only; omega)
      rw [e9, e10, show ((k + 1 : Nat) : Int) - 1 - 1 = (k : Int) - 1 by omega]
      exact nx
    · have c := of_decide_eq_false c
      rw [e6, cmp3_le, d5] at c
      refine ⟨by omega, fun x11 e11 => ?_⟩
      have nx := hn (q, k) ⟨by dsimp only; omega, ⟨2 * t, by dsimp only; rw [ht, pd]; grind⟩, h1, by dsimp only; omega⟩ (by dsimp only; omega)
      rw [e11, show ((k + 1 : Nat) : Int) - 1 - 1 = (k : Int) - 1 by omega]
      exact nx
  · have g := of_decide_eq_false g
    have hj0 : j = 0 := by omega
    subst hj0
    exact hx _ _ (hq q ⟨h1, h2⟩)
set_option maxHeartbeats 400000 in
set_option maxRecDepth 100000 in
theorem sRt : Sound Tryd.prog 104 SRt := by
  refine sound_of (C := CRt) tabRt Tryd.func104 (by kernel_rfl) (by decide +kernel) (by kernel_rfl) rfl ⟨sLimbs, sMulL, sCmp, trivial⟩ (loops1 (by kernel_rfl) (loopOK_of (an := anRt) (S := LRt) (by kernel_rfl) loopRt)) ?_
  intro hargs pars R h
  unfold SRt at h
  split at h
  case h_2 => exfalso; exact h
  rename_i x
  obtain ⟨⟨hx0, hn0⟩, _, hR⟩ := h
  have hxl : x.length ≤ 4 := by rw [hx0]; exact lim_len 4 _ (by omega)
  refine byVC (vcRt x R) ⟨⟨rfl, rfl, hx0, hn0⟩, fun q hq => ?_⟩
  have ql := isR_lt hq hn0
  have hR := hR q hq
  have l1 : ∀ m : Nat, m < 4294967296 → (lim m).length ≤ 4 := fun m hm => lim_len 4 _ (by omega)
  have l2 : ∀ m : Nat, m < 18446744073709551616 → (lim m).length ≤ 8 := fun m hm => lim_len 8 _ (by omega)
  have b1 : q * (q + 1) < 18446744073709551616 := by
    have := Nat.mul_lt_mul'' (show q < 4294967296 by omega) (show q + 1 < 4294967296 by omega)
    exact this
  have b2 : q * q < 18446744073709551616 := by
    have := Nat.mul_lt_mul'' (show q < 4294967296 by omega) (show q < 4294967296 by omega)
    exact this
  have tail : ∀ h : Int, h = (if q * (q + 1) < dv x then 1 else -1) → (0 ≤ (q : Int) ∧ (q : Int) < 18446744073709551616) ∧ ∀ x7 : List (List Int), x7 = lim (Int.toNat (q : Int)) → (0 ≤ (q : Int) ∧ (q : Int) < 18446744073709551616) ∧
      ∀ x8 : List (List Int), x8 = lim (Int.toNat (q : Int)) → (dg x7 ∧ dg x8 ∧ x7.length ≤ 100 ∧ x8.length ≤ 100) ∧ ∀ x9 : List (List Int), x9 = lim (dv x7 * dv x8) → (x9 = lim (dv x9) ∧ x = lim (dv x) ∧ x9.length ≤ 1000 ∧ x.length ≤ 1000) ∧
      ∀ x10 : Int, x10 = cmp3 (dv x9) (dv x) → R ⟨.tup [.ce (.int .u64 (q : Int)), .ce (.bool (x10 == 0)), .ce (.int .i64 h)], false, [], []⟩ := by
    intro h eh
    refine ⟨by omega, fun x7 e7 => ⟨by omega, fun x8 e8 => ?_⟩⟩
    rw [Int.toNat_natCast] at e7 e8
    subst e7 e8
    have := l1 q (by omega)
    refine ⟨⟨dg_lim _, dg_lim _, by omega, by omega⟩, fun x9 e9 => ?_⟩
    rw [dv_lim] at e9
    subst e9
    rw [dv_lim]
    have := l2 _ b2
    refine ⟨⟨rfl, hx0, by omega, by omega⟩, fun x10 e10 => ?_⟩
    rw [e10, cmp3_0, eh]; exact hR
  refine ⟨by omega, fun x2 e2 x3 e3 => ⟨by omega, fun x4 e4 => ?_⟩⟩
  have e3 : x3.toNat = q + 1 := by omega
  rw [Int.toNat_natCast] at e2
  rw [e3] at e4
  subst e2 e4
  have := l1 q (by omega)
  have := l1 (q + 1) (by omega)
  refine ⟨⟨dg_lim _, dg_lim _, by omega, by omega⟩, fun x5 e5 => ?_⟩
  rw [dv_lim, dv_lim] at e5
  subst e5
  rw [dv_lim]
  have := l2 _ b1
  refine ⟨⟨hx0, rfl, by omega, by omega⟩, fun x6 e6 => ⟨fun g => ?_, fun g => ?_⟩⟩
  · have g := of_decide_eq_true g
    rw [e6, cmp3_gt] at g
    exact tail 1 (by rw [if_pos g])
  · have g := of_decide_eq_false g
    rw [e6, cmp3_gt] at g
    exact tail (-1) (by rw [if_neg g])
set_option maxHeartbeats 400000 in
set_option maxRecDepth 100000 in
theorem sRoot : Sound Tryd.prog 80 SRoot := by
  refine sound_of (C := CRoot) tabRoot Tryd.func80 (by kernel_rfl) (by decide +kernel) (by kernel_rfl) rfl ⟨sRight, sProd, sRt, sRounded, trivial⟩ (loops0 (by kernel_rfl)) ?_
  intro hargs pars R h
  unfold SRoot at h
  split at h
  case h_2 => exfalso; exact h
  rename_i a b m
  obtain ⟨⟨a0, a1, hb, hm⟩, _, hR⟩ := h
  subst hb hm
  refine byVC (vcRoot a 1 2 R) ⟨fun g => (by have := of_decide_eq_true g; omega), fun _ => ⟨fun g => (by have := of_decide_eq_true g; omega), fun _ => ⟨trivial, fun x1 e1 => ⟨fun g => ?_, fun _ => ⟨by omega, fun x2 e2 => ?_⟩⟩⟩⟩⟩
  · rw [e1] at g; cases g
  have d2 : dv x2 = a.natAbs := by rw [e2, dv_lim]; show a.natAbs * 1 = _; omega
  have hx2 : x2 = lim (dv x2) := by rw [e2, dv_lim]
  refine ⟨⟨hx2, by omega⟩, isR_ex _, fun q hq => ?_⟩
  have ql := isR_lt hq (by omega)
  obtain ⟨v, ev, v0, v1, v2, v3⟩ := near_R hq
  have en : ((dv x2 : Nat) : Int) = a := by omega
  rw [en] at v2 v3
  refine ⟨by omega, fun x4 e4 x5 e5 => ?_⟩
  have er : rnd false (q : Int) (decide (q * q = dv x2)) (if q * (q + 1) < dv x2 then 1 else -1) 2 = (v, true) := by
    unfold rnd
    rw [if_neg (by omega)]
    dsimp only
    rw [← ev, if_neg (by decide), if_neg (by omega)]
  rw [er] at e4 e5
  rw [e4, e5]
  exact hR v ⟨v0, by omega, v2, v3⟩
set_option maxHeartbeats 400000 in
set_option maxRecDepth 100000 in
theorem sSqrt : Sound Tryd.prog 59 SSqrt := by
  refine sound_of (C := CSqrt) tabSqrt Tryd.func59 (by kernel_rfl) (by decide +kernel) (by kernel_rfl) rfl ⟨sRoot, trivial⟩ (loops0 (by kernel_rfl)) ?_
  intro hargs pars R h
  unfold SSqrt at h
  split at h
  case h_2 => exfalso; exact h
  rename_i a m
  obtain ⟨⟨a0, a1, hm⟩, _, hR⟩ := h
  exact byVC (vcSqrt a m R) ⟨⟨a0, a1, rfl, hm⟩, sq_ex ⟨a0, a1⟩, fun q hq => hR q hq⟩
set_option maxHeartbeats 400000 in
set_option maxRecDepth 100000 in
theorem sDot : Sound Tryd.prog 60 SDot := by
  refine sound_of (C := CDot) [] Tryd.func60 (by kernel_rfl) (by decide +kernel) (by kernel_rfl) rfl trivial (loops0 (by kernel_rfl)) ?_
  intro hargs pars R h
  unfold SDot at h
  split at h
  case h_2 => exfalso; exact h
  rename_i x y z a b c
  obtain ⟨⟨⟨h1, h2, h3⟩, k1, k2, k3⟩, hq⟩ := h
  have p1 := mulb h1 k1
  have p2 := mulb h2 k2
  have p3 := mulb h3 k3
  refine byVC (vcDot x y z a b c R) ⟨by omega, fun x1 e1 => ⟨by omega, fun x2 e2 => ⟨by omega, fun x3 e3 => ⟨by omega, fun x4 e4 => ⟨by omega, fun x5 e5 => ?_⟩⟩⟩⟩⟩
  rw [e5, e3, e1, e2, e4]; exact hq
set_option maxHeartbeats 400000 in
set_option maxRecDepth 100000 in
theorem sLng : Sound Tryd.prog 26 SLng := by
  refine sound_of (C := CLng) tabLng Tryd.func26 (by kernel_rfl) (by decide +kernel) (by kernel_rfl) rfl ⟨sDot, sSqrt, trivial⟩ (loops0 (by kernel_rfl)) ?_
  intro hargs pars R h
  unfold SLng at h
  split at h
  case h_2 => exfalso; exact h
  rename_i x y z m
  obtain ⟨⟨hb, hm⟩, _, hR⟩ := h
  have hb' := hb
  obtain ⟨h1, h2, h3⟩ := hb'
  have p1 := mulb h1 h1
  have p2 := mulb h2 h2
  have p3 := mulb h3 h3
  have n1 : 0 ≤ x * x := by have := Int.natAbs_mul_self (a := x); omega
  have n2 : 0 ≤ y * y := by have := Int.natAbs_mul_self (a := y); omega
  have n3 : 0 ≤ z * z := by have := Int.natAbs_mul_self (a := z); omega
  refine byVC (vcLng x y z m R) ⟨⟨hb, hb⟩, fun x1 e1 => ⟨⟨by omega, by omega, hm⟩, sq_ex ⟨by omega, by omega⟩, fun q hq => ?_⟩⟩
  rw [e1] at hq
  exact hR q hq
end Go.Proofs.YtgnknciihdajiaaDoor
namespace Go.Proofs.YtgnknciihdajiaaDoor
open Go Go.HL U
def tabFTn : List (FuncId × HL.Spec) := [(11, SLight), (12, SAwk), (14, SNew), (19, SFrm), (20, SVec), (21, STo), (22, SOrg), (23, SSb), (25, SAd), (26, SLng)]
noncomputable def CFTn : Ctx := ⟨Tryd.prog, gam tabFTn, Tryd.f5.ntmps, [], []⟩
theorem vcFTn (l k : List (List Int)) (Q : Res → Prop) : (nfun true CFTn Tryd.f5 (bodyOf Tryd.f5) [.ce (.sl false [4] l), .ce (.sl false [4] k)] [] Q) =
    (True ∧ ∀ (x1 : Bool), x1 = decide ((List.length l : Int) ≤ (120 : Int)) → ((!x1) = true → True ∧ ∀ (x2 : Bool), x2 = true → Q ⟨.ce (.bool x2), false, [], []⟩) ∧ ((!x1) = false → True ∧ ∀ (x3 : Bool), x3 = decide ((List.length k : Int) ≤ (120 : Int)) → ((!x3) = true → True ∧ ∀ (x4 : Bool), x4 = true → Q ⟨.ce (.bool x4), false, [], []⟩) ∧ ((!x3) = false → True ∧ ∀ (x5 : List (List Int)), x5 = l → ∀ (x6 : Int), x6 = 0 → inSrc x5 x6 ∧ (∃ (x : FrS × Int), okF x.1 ∧ inSrc x5 x.2) ∧ ∀ (x : FrS × Int), okF x.1 ∧ inSrc x5 x.2 → ((!x.1.tu) = true → True ∧ ∀ (x8 : Bool), x8 = true → Q ⟨.ce (.bool x8), false, [], []⟩) ∧ ((!x.1.tu) = false → (okO x.1.sy x.1.s0 x.1.s1 x.1.s2 x.1.s3 x.1.s4 x.1.s5 x.1.s6 x.1.s7 x.1.s8 x.1.s9 x.1.s10 x.1.s11 x.1.s12 x.1.s13 x.1.s14 x.1.s15 x.1.s16 x.1.s17 x.1.l0 x.1.l1 x.1.l2 x.1.h0 x.1.h1 x.1.h2 x.1.ln ∧ okP x.1.tu x.1.pl x.1.an ∧ B3 (1073741824 : Int) x.1.c0 x.1.c1 x.1.c2) ∧
    (∃ (x_1 : MapS), x_1 = toF x.1.tu x.1.pl x.1.c0 x.1.c1 x.1.c2 x.1.an (orX x.1.sy x.1.s0 x.1.s3 x.1.s6 x.1.s9 x.1.s12 x.1.s15 x.1.l0 x.1.h0) (orX x.1.sy x.1.s1 x.1.s4 x.1.s7 x.1.s10 x.1.s13 x.1.s16 x.1.l1 x.1.h1) (orZ x.1.sy x.1.s2 x.1.s5 x.1.s8 x.1.s11 x.1.s14 x.1.s17 x.1.l2 x.1.h2 x.1.ln) x.1.c0 x.1.c1 x.1.c2) ∧ ∀ (x_1 : MapS), x_1 = toF x.1.tu x.1.pl x.1.c0 x.1.c1 x.1.c2 x.1.an (orX x.1.sy x.1.s0 x.1.s3 x.1.s6 x.1.s9 x.1.s12 x.1.s15 x.1.l0 x.1.h0) (orX x.1.sy x.1.s1 x.1.s4 x.1.s7 x.1.s10 x.1.s13 x.1.s16 x.1.l1 x.1.h1) (orZ x.1.sy x.1.s2 x.1.s5 x.1.s8 x.1.s11 x.1.s14 x.1.s17 x.1.l2 x.1.h2 x.1.ln) x.1.c0 x.1.c1 x.1.c2 → True ∧ ∀ (x10 : List (List Int)), x10 = k → ∀ (x11 : Int), x11 = 0 → ((0 : Int) ≤ (100000 : Int) ∧ (100000 : Int) ≤ (1000000000000 : Int) ∧ inSrc x10 x11) ∧ (∃ (x : Int × Int × Int × Int), B3 (100000 : Int) x.1 x.snd.1 x.snd.snd.1 ∧ inSrc x10 x.snd.snd.2) ∧ ∀ (x_2 : Int × Int × Int × Int), B3 (100000 : Int) x_2.1 x_2.snd.1 x_2.snd.snd.1 ∧
    inSrc x10 x_2.snd.snd.2 → (B3 (1152921504606846976 : Int) x.1.c0 x.1.c1 x.1.c2 ∧ B3 (1152921504606846976 : Int) x_2.1 x_2.snd.1 x_2.snd.snd.1) ∧ ∀ (x13 : Int), x13 = x.1.c0 + x_2.1 → ∀ (x14 : Int), x14 = x.1.c1 + x_2.snd.1 → ∀ (x15 : Int), x15 = x.1.c2 + x_2.snd.snd.1 → (okO x.1.sy x.1.s0 x.1.s1 x.1.s2 x.1.s3 x.1.s4 x.1.s5 x.1.s6 x.1.s7 x.1.s8 x.1.s9 x.1.s10 x.1.s11 x.1.s12 x.1.s13 x.1.s14 x.1.s15 x.1.s16 x.1.s17 x.1.l0 x.1.l1 x.1.l2 x.1.h0 x.1.h1 x.1.h2 x.1.ln ∧ okP x.1.tu x.1.pl x.1.an ∧ B3 (1073741824 : Int) x.1.c0 x.1.c1 x.1.c2) ∧ (∃ (x_3 : MapS), x_3 = toF x.1.tu x.1.pl x.1.c0 x.1.c1 x.1.c2 x.1.an (orX x.1.sy x.1.s0 x.1.s3 x.1.s6 x.1.s9 x.1.s12 x.1.s15 x.1.l0 x.1.h0) (orX x.1.sy x.1.s1 x.1.s4 x.1.s7 x.1.s10 x.1.s13 x.1.s16 x.1.l1 x.1.h1) (orZ x.1.sy x.1.s2 x.1.s5 x.1.s8 x.1.s11 x.1.s14 x.1.s17 x.1.l2 x.1.h2 x.1.ln) x13 x14 x15) ∧ ∀ (x_3 : MapS), x_3 = toF x.1.tu x.1.pl x.1.c0 x.1.c1 x.1.c2 x.1.an (orX x.1.sy x.1.s0 x.1.s3 x.1.s6 x.1.s9 x.1.s12 x.1.s15 x.1.l0 x.1.h0) (orX x.1.sy x.1.s1 x.1.s4 x.1.s7 x.1.s10 x.1.s13 x.1.s16 x.1.l1 x.1.h1) (orZ x.1.sy x.1.s2 x.1.s5 x.1.s8 x.1.s11 x.1.s14 x.1.s17 x.1.l2 x.1.h2 x.1.ln) x13 x14 x15 →
    True ∧ ∀ (x17 : Bool), x17 = true → ((!x17) = true → Q ⟨.ce (.bool false), false, [], []⟩) ∧ ((!x17) = false → ((x_1.e != 0) = true → Q ⟨.ce (.bool false), false, [], []⟩) ∧ ((x_1.e != 0) = false → ((x_3.e != 0) = true → Q ⟨.ce (.bool false), false, [], []⟩) ∧ ((x_3.e != 0) = false → ((54 ≤ x.1.sy ∧ x.1.sy ≤ 59) ∧ (B3 (1073741824 : Int) x.1.s0 x.1.s1 x.1.s2 ∧ B3 (1073741824 : Int) x.1.s3 x.1.s4 x.1.s5 ∧ B3 (1073741824 : Int) x.1.s6 x.1.s7 x.1.s8 ∧ B3 (1073741824 : Int) x.1.s9 x.1.s10 x.1.s11 ∧ B3 (1073741824 : Int) x.1.s12 x.1.s13 x.1.s14 ∧ B3 (1073741824 : Int) x.1.s15 x.1.s16 x.1.s17) ∧ B3 (1073741824 : Int) x.1.l0 x.1.l1 x.1.l2 ∧ B3 (1073741824 : Int) x.1.h0 x.1.h1 x.1.h2 ∧ (-1073741824 : Int) ≤ x.1.ln ∧ x.1.ln ≤ 1073741824) ∧ ∀ (x18 : Int), x18 = pk6 x.1.sy x.1.s0 x.1.s3 x.1.s6 x.1.s9 x.1.s12 x.1.s15 + x.1.l0 + x.1.h0 → ∀ (x19 : Int), x19 = pk6 x.1.sy x.1.s1 x.1.s4 x.1.s7 x.1.s10 x.1.s13 x.1.s16 + x.1.l1 + x.1.h1 →
    ∀ (x20 : Int), x20 = pk6 x.1.sy x.1.s2 x.1.s5 x.1.s8 x.1.s11 x.1.s14 x.1.s17 + x.1.l2 + x.1.h2 + x.1.ln → (B3 (1152921504606846976 : Int) x.1.c0 x.1.c1 x.1.c2 ∧ B3 (1152921504606846976 : Int) x18 x19 x20) ∧ ∀ (x21 : Int), x21 = x.1.c0 + x18 → ∀ (x22 : Int), x22 = x.1.c1 + x19 → ∀ (x23 : Int), x23 = x.1.c2 + x20 → ((!(x_1.x == x21 && (x_1.y == x22 && (x_1.z == x23 && true)))) = true → Q ⟨.ce (.bool false), false, [], []⟩) ∧ ((!(x_1.x == x21 && (x_1.y == x22 && (x_1.z == x23 && true)))) = false → (B3 (1152921504606846976 : Int) x13 x14 x15 ∧ B3 (1152921504606846976 : Int) x.1.c0 x.1.c1 x.1.c2) ∧ ∀ (x24 : Int), x24 = x13 - x.1.c0 → ∀ (x25 : Int), x25 = x14 - x.1.c1 → ∀ (x26 : Int), x26 = x15 - x.1.c2 → (B3 (4194304 : Int) x24 x25 x26 ∧ (2 : Int) = (2 : Int)) ∧ (∃ (x : Int), 0 ≤ x ∧ x ≤ 2147483648 ∧ (x = 0 ∨ (x - 1) * x < x24 * x24 + x25 * x25 + x26 * x26) ∧ x24 * x24 + x25 * x25 + x26 * x26 ≤ x * (x + 1)) ∧
    ∀ (x : Int), 0 ≤ x ∧ x ≤ 2147483648 ∧ (x = 0 ∨ (x - 1) * x < x24 * x24 + x25 * x25 + x26 * x26) ∧ x24 * x24 + x25 * x25 + x26 * x26 ≤ x * (x + 1) → (B3 (1152921504606846976 : Int) x_3.x x_3.y x_3.z ∧ B3 (1152921504606846976 : Int) x_1.x x_1.y x_1.z) ∧ ∀ (x28 : Int), x28 = x_3.x - x_1.x → ∀ (x29 : Int), x29 = x_3.y - x_1.y → ∀ (x30 : Int), x30 = x_3.z - x_1.z → (B3 (4194304 : Int) x28 x29 x30 ∧ (2 : Int) = (2 : Int)) ∧ (∃ (x : Int), 0 ≤ x ∧ x ≤ 2147483648 ∧ (x = 0 ∨ (x - 1) * x < x28 * x28 + x29 * x29 + x30 * x30) ∧ x28 * x28 + x29 * x29 + x30 * x30 ≤ x * (x + 1)) ∧ ∀ (x_4 : Int), 0 ≤ x_4 ∧ x_4 ≤ 2147483648 ∧ (x_4 = 0 ∨ (x_4 - 1) * x_4 < x28 * x28 + x29 * x29 + x30 * x30) ∧ x28 * x28 + x29 * x29 + x30 * x30 ≤ x_4 * (x_4 + 1) → (-9223372036854775808 ≤ x - x_4 ∧ x - x_4 ≤ 9223372036854775807) ∧ ∀ (x32 : Int), x32 = x - x_4 → (-9223372036854775808 ≤ x_4 - x ∧ x_4 - x ≤ 9223372036854775807) ∧ ∀ (x33 : Int), x33 = x_4 - x →
    ∀ (x34 : Int), x34 = max x32 x33 → Q ⟨.ce (.bool (decide (x34 ≤ 2))), false, [], []⟩)))))))) := by kernel_rfl
end Go.Proofs.YtgnknciihdajiaaDoor
namespace U
theorem sq_le {a b : Int} (hb : 0 ≤ b) (h : a * a ≤ b * b) : a ≤ b := by
  by_cases k : a ≤ b
  · exact k
  · have h1 := Int.mul_le_mul (show b + 1 ≤ a by omega) (show b + 1 ≤ a by omega) (by omega) (by omega)
    have e : (b + 1) * (b + 1) = b * b + 2 * b + 1 := by grind
    omega
theorem sq_nn (a : Int) : 0 ≤ a * a := by have := Int.natAbs_mul_self (a := a); omega
theorem nr_e (m : Int) : ∃ e : Int, 1073741824 * nr m = m + e ∧ -536870912 ≤ e ∧ e ≤ 536870912 := ⟨1073741824 * nr m - m, by omega, by unfold nr; omega, by unfold nr; omega⟩
theorem turnsN {u w H C S U W n k : Int} (hT : 1152920586126786920 ≤ C * C + S * S ∧ C * C + S * S ≤ 1152922422000000000)
    (hU : U = nr (u * C - w * S)) (hW : W = nr (u * S + w * C)) (hq : u * u + w * w + H * H ≤ 30000000000)
    (n0 : 0 ≤ n) (n1 : n = 0 ∨ (n - 1) * n < u * u + w * w + H * H) (n2 : u * u + w * w + H * H ≤ n * (n + 1))
    (k0 : 0 ≤ k) (k1 : k = 0 ∨ (k - 1) * k < U * U + W * W + H * H) (k2 : U * U + W * W + H * H ≤ k * (k + 1)) : n - k ≤ 2 ∧ k - n ≤ 2 := by
  obtain ⟨e1, f1, e1a, e1b⟩ := nr_e (u * C - w * S)
  obtain ⟨e2, f2, e2a, e2b⟩ := nr_e (u * S + w * C)
  rw [← hU] at f1
  rw [← hW] at f2
  have id1 : (u * C - w * S) * (u * C - w * S) + (u * S + w * C) * (u * S + w * C) = (u * u + w * w) * (C * C + S * S) := by grind
  generalize C * C + S * S = T at *
  generalize hu0 : u * C - w * S = p at *
  generalize hw0 : u * S + w * C = q at *
  have r0 : 0 ≤ u * u + w * w := by have := sq_nn u; have := sq_nn w; omega
  have H0 := sq_nn H
  generalize u * u + w * w = r at *
  generalize H * H = h2 at *
  have id2 : 1152921504606846976 * (U * U + W * W) = p * p + q * q + 2 * (p * e1 + q * e2) + (e1 * e1 + e2 * e2) := by
    have a1 : (1073741824 * U) * (1073741824 * U) = (p + e1) * (p + e1) := by rw [f1]
    have a2 : (1073741824 * W) * (1073741824 * W) = (q + e2) * (q + e2) := by rw [f2]
    have b1 : (1073741824 * U) * (1073741824 * U) = 1152921504606846976 * (U * U) := by grind
    have b2 : (1073741824 * W) * (1073741824 * W) = 1152921504606846976 * (W * W) := by grind
    have c1 : (p + e1) * (p + e1) = p * p + 2 * (p * e1) + e1 * e1 := by grind
    have c2 : (q + e2) * (q + e2) = q * q + 2 * (q * e2) + e2 * e2 := by grind
    omega
  generalize U * U + W * W = R at *
  have ee1 := mulb (A := 536870912) (B := 536870912) ⟨e1a, e1b⟩ ⟨e1a, e1b⟩
  have ee2 := mulb (A := 536870912) (B := 536870912) ⟨e2a, e2b⟩ ⟨e2a, e2b⟩
  have ee3 := sq_nn e1
  have ee4 := sq_nn e2
  obtain ⟨P, hP, P0⟩ : ∃ P : Int, (P = p ∨ P = -p) ∧ 0 ≤ P := by
    by_cases c : 0 ≤ p
    · exact ⟨p, .inl rfl, c⟩
    · exact ⟨-p, .inr rfl, by omega⟩
  obtain ⟨Q, hQ, Q0⟩ : ∃ Q : Int, (Q = q ∨ Q = -q) ∧ 0 ≤ Q := by
    by_cases c : 0 ≤ q
    · exact ⟨q, .inl rfl, c⟩
    · exact ⟨-q, .inr rfl, by omega⟩
  have pp : P * P = p * p := by rcases hP with e | e <;> rw [e]; rw [Int.neg_mul_neg]
  have qq : Q * Q = q * q := by rcases hQ with e | e <;> rw [e]; rw [Int.neg_mul_neg]
  have pe := mulb (u := p) (v := e1) (A := P) (B := 536870912) (by omega) ⟨e1a, e1b⟩
  have qe := mulb (u := q) (v := e2) (A := Q) (B := 536870912) (by omega) ⟨e2a, e2b⟩
  have nn0 := sq_nn n
  have en : n * (n + 1) = n * n + n := by grind
  have g1 : (2 * (P + Q)) * (2 * (P + Q)) ≤ ((2 * n + 1) * 1518500900) * ((2 * n + 1) * 1518500900) := by
    have x1 : (2 * (P + Q)) * (2 * (P + Q)) = 8 * (P * P + Q * Q) - 4 * ((P - Q) * (P - Q)) := by grind
    have x2 := sq_nn (P - Q)
    have x3 : ((2 * n + 1) * 1518500900) * ((2 * n + 1) * 1518500900) = 2305844983300810000 * (4 * (n * n) + 4 * n + 1) := by grind
    have x4 : r * T ≤ (n * n + n) * 1152922422000000000 := Int.mul_le_mul (by omega) hT.2 (by omega) (by omega)
    rw [x1, x3, pp, qq, id1]
    omega
  have g := sq_le (show (0 : Int) ≤ (2 * n + 1) * 1518500900 by omega) g1
  have rt : -(r * 918480060056) ≤ r * (T - 1152921504606846976) ∧ r * (T - 1152921504606846976) ≤ r * 918480060056 := mulb (by omega) (by omega)
  have rt2 : r * (T - 1152921504606846976) = r * T - r * 1152921504606846976 := Int.mul_sub _ _ _
  have nb : n ≤ 173300 := by
    by_cases c : n ≤ 173300
    · exact c
    · have := Int.mul_le_mul (show 173300 ≤ n - 1 by omega) (show 173301 ≤ n by omega) (by omega) (by omega)
      omega
  have n3 : n * n ≤ 173300 * n := Int.mul_le_mul_of_nonneg_right nb n0
  have en2 : (n - 1) * n = n * n - n := by grind
  have ek : k * (k + 1) = k * k + k := by grind
  have ek2 : (k - 1) * k = k * k - k := by grind
  refine ⟨?_, ?_⟩
  · by_cases c : n - k ≤ 2
    · exact c
    · have m := Int.mul_le_mul (show k ≤ n - 3 by omega) (show k + 1 ≤ n - 2 by omega) (by omega) (by omega)
      have em : (n - 3) * (n - 2) = n * n - 5 * n + 6 := by grind
      omega
  · by_cases c : k - n ≤ 2
    · exact c
    · have m := Int.mul_le_mul (show n + 2 ≤ k - 1 by omega) (show n + 3 ≤ k by omega) (by omega) (by omega)
      have em : (n + 2) * (n + 3) = n * n + 5 * n + 6 := by grind
      omega
theorem rt00 (a : Int) : rtU 0 0 a = 0 ∧ rtW 0 0 a = 0 := by
  unfold rtU rtW
  rw [if_pos (show rtB 0 0 = true from rfl), if_pos (show rtB 0 0 = true from rfl), Int.zero_mul, Int.zero_mul]
  exact ⟨rfl, rfl⟩
theorem rotC {pl c0 c1 c2 a : Int} (hp : 17 ≤ pl ∧ pl ≤ 19) : tX pl c0 c1 c2 c0 c1 c2 a = c0 ∧ tY pl c0 c1 c2 c0 c1 c2 a = c1 ∧ tZ pl c0 c1 c2 c0 c1 c2 a = c2 := by
  have r := rt00 a
  have k : pl = 17 ∨ pl = 18 ∨ pl = 19 := by omega
  unfold tX tY tZ tA tB
  rw [Int.sub_self, Int.sub_self, r.1, r.2, Int.zero_add, Int.zero_add]
  rcases k with rfl | rfl | rfl <;> exact ⟨rfl, rfl, rfl⟩
theorem turnQ {pl c0 c1 c2 x y z a : Int} (hp : 17 ≤ pl ∧ pl ≤ 19) :
    (tX pl c0 c1 c2 (c0 + x) (c1 + y) (c2 + z) a - c0) * (tX pl c0 c1 c2 (c0 + x) (c1 + y) (c2 + z) a - c0) + (tY pl c0 c1 c2 (c0 + x) (c1 + y) (c2 + z) a - c1) * (tY pl c0 c1 c2 (c0 + x) (c1 + y) (c2 + z) a - c1) + (tZ pl c0 c1 c2 (c0 + x) (c1 + y) (c2 + z) a - c2) * (tZ pl c0 c1 c2 (c0 + x) (c1 + y) (c2 + z) a - c2) =
    rtU (fU pl x y z) (fW pl x y z) a * rtU (fU pl x y z) (fW pl x y z) a + rtW (fU pl x y z) (fW pl x y z) a * rtW (fU pl x y z) (fW pl x y z) a + fH pl x y z * fH pl x y z := by
  have cl : ∀ a b : Int, a + b - a = b := fun a b => by omega
  have k : pl = 17 ∨ pl = 18 ∨ pl = 19 := by omega
  rcases k with rfl | rfl | rfl
  · show (rtU (c0 + x - c0) (c1 + y - c1) a + c0 - c0) * (rtU (c0 + x - c0) (c1 + y - c1) a + c0 - c0) + (rtW (c0 + x - c0) (c1 + y - c1) a + c1 - c1) * (rtW (c0 + x - c0) (c1 + y - c1) a + c1 - c1) + (c2 + z - c2) * (c2 + z - c2) = rtU x y a * rtU x y a + rtW x y a * rtW x y a + z * z
    simp only [cl, Int.add_sub_cancel]
  · show (rtW (c2 + z - c2) (c0 + x - c0) a + c0 - c0) * (rtW (c2 + z - c2) (c0 + x - c0) a + c0 - c0) + (c1 + y - c1) * (c1 + y - c1) + (rtU (c2 + z - c2) (c0 + x - c0) a + c2 - c2) * (rtU (c2 + z - c2) (c0 + x - c0) a + c2 - c2) = rtU z x a * rtU z x a + rtW z x a * rtW z x a + y * y
    simp only [cl, Int.add_sub_cancel]
    omega
  · show (c0 + x - c0) * (c0 + x - c0) + (rtU (c1 + y - c1) (c2 + z - c2) a + c1 - c1) * (rtU (c1 + y - c1) (c2 + z - c2) a + c1 - c1) + (rtW (c1 + y - c1) (c2 + z - c2) a + c2 - c2) * (rtW (c1 + y - c1) (c2 + z - c2) a + c2 - c2) = rtU y z a * rtU y z a + rtW y z a * rtW y z a + x * x
    simp only [cl, Int.add_sub_cancel]
    omega
theorem flatQ {pl x y z : Int} (hp : 17 ≤ pl ∧ pl ≤ 19) : x * x + y * y + z * z = fU pl x y z * fU pl x y z + fW pl x y z * fW pl x y z + fH pl x y z * fH pl x y z := by
  have k : pl = 17 ∨ pl = 18 ∨ pl = 19 := by omega
  rcases k with rfl | rfl | rfl
  · rfl
  · show x * x + y * y + z * z = z * z + x * x + y * y; omega
  · show x * x + y * y + z * z = y * y + z * z + x * x; omega
end U
namespace Go.Proofs.YtgnknciihdajiaaDoor
open Go Go.HL U
attribute [local irreducible] hfun bodyT fragT
set_option maxHeartbeats 400000 in
set_option maxRecDepth 100000 in
theorem sFTn : Sound Tryd.prog 5 SFS := by
  refine sound_of (C := CFTn) tabFTn Tryd.func5 (by kernel_rfl) (by decide +kernel) (by kernel_rfl) rfl ⟨sLight, sAwk, sNew, sFrm, sVec, sTo, sOrg, sSb2, sAd2, sLng, trivial⟩ (loops0 (by kernel_rfl)) ?_
  intro hargs pars R h
  unfold SFS at h
  split at h
  case h_2 => exfalso; exact h
  rename_i l k
  obtain ⟨⟨hl, hk⟩, hq⟩ := h
  refine byVC (vcFTn l k R) ⟨trivial, fun x1 e1 => ⟨fun _ => ⟨trivial, fun b eb => by rw [eb]; exact hq⟩, fun _ => ⟨trivial, fun x3 e3 => ⟨fun _ => ⟨trivial, fun b eb => by rw [eb]; exact hq⟩, fun _ => ⟨trivial, fun l1 el p1 ep => ?_⟩⟩⟩⟩⟩
  rw [el, ep]
  have h1 : inSrc l 0 := ⟨Int.le_refl _, hl⟩
  have h2 : inSrc k 0 := ⟨Int.le_refl _, hk⟩
  refine ⟨h1, ⟨(frZ, 0), ⟨okF_Z, h1⟩⟩, fun f hf => ⟨fun _ => ⟨trivial, fun b eb => by rw [eb]; exact hq⟩, fun gt => ?_⟩⟩
  have gt := nf_t gt
  have hf := hf.1
  have hc := (okF_P hf).2
  have hp := (okF_P hf).1.1 gt
  have ok := And.intro (okF_O hf) (And.intro (okF_P hf).1 (B3_mono hc (C := 1073741824) (by decide)))
  have ob := orF_b hf
  refine ⟨ok, ⟨_, rfl⟩, fun t1 et1 => ⟨trivial, fun l2 el2 p2 ep2 => ?_⟩⟩
  rw [el2, ep2]
  refine ⟨⟨by decide, by decide, h2⟩, src_ex h2 (by decide), fun v hv => ?_⟩
  have hv := hv.1
  have hv' := hv
  obtain ⟨v1, v2, v3'⟩ := hv'
  have hc' := hc
  obtain ⟨c1, c2, c3⟩ := hc'
  refine ⟨⟨B3_mono hc (by decide), B3_mono hv (by decide)⟩, fun x13 e13 x14 e14 x15 e15 => ⟨ok, ⟨_, rfl⟩, fun t3 et3 => ⟨trivial, fun b eb => ?_⟩⟩⟩
  have hp3 : B3 200000 x13 x14 x15 := ⟨by omega, by omega, by omega⟩
  have k1 := toF_ok (o0 := oX f.1) (o1 := oY f.1) (o2 := oZ f.1) hf (B3_mono hc (C := 200000) (by decide)) ob
  have et1 := et1.trans k1
  clear k1
  have k3 := toF_ok (o0 := oX f.1) (o1 := oY f.1) (o2 := oZ f.1) hf hp3 ob
  have et3 := et3.trans k3
  clear k3
  have r3 := (rotF_b hf hp3).2
  rw [gt] at et1 et3 r3
  have rc := rotC (c0 := f.1.c0) (c1 := f.1.c1) (c2 := f.1.c2) (a := f.1.an) hp
  have et1 : t1 = ⟨f.1.c0 + oX f.1, f.1.c1 + oY f.1, f.1.c2 + oZ f.1, 0⟩ := by
    rw [et1]
    show (⟨tX f.1.pl f.1.c0 f.1.c1 f.1.c2 f.1.c0 f.1.c1 f.1.c2 f.1.an + oX f.1, tY f.1.pl f.1.c0 f.1.c1 f.1.c2 f.1.c0 f.1.c1 f.1.c2 f.1.an + oY f.1, tZ f.1.pl f.1.c0 f.1.c1 f.1.c2 f.1.c0 f.1.c1 f.1.c2 f.1.an + oZ f.1, 0⟩ : MapS) = _
    rw [rc.1, rc.2.1, rc.2.2]
  have et3 : t3 = ⟨tX f.1.pl f.1.c0 f.1.c1 f.1.c2 x13 x14 x15 f.1.an + oX f.1, tY f.1.pl f.1.c0 f.1.c1 f.1.c2 x13 x14 x15 f.1.an + oY f.1, tZ f.1.pl f.1.c0 f.1.c1 f.1.c2 x13 x14 x15 f.1.an + oZ f.1, 0⟩ := et3
  have r3 : B3 550001 (tX f.1.pl f.1.c0 f.1.c1 f.1.c2 x13 x14 x15 f.1.an) (tY f.1.pl f.1.c0 f.1.c1 f.1.c2 x13 x14 x15 f.1.an) (tZ f.1.pl f.1.c0 f.1.c1 f.1.c2 x13 x14 x15 f.1.an) := r3
  subst et1 et3 eb
  have ob' := ob
  obtain ⟨o1, o2, o3⟩ := ob'
  refine fl rfl (fl rfl (fl rfl ⟨okF_O hf, fun x18 e18 x19 e19 x20 e20 => ?_⟩))
  have e18 : x18 = oX f.1 := e18
  have e19 : x19 = oY f.1 := e19
  have e20 : x20 = oZ f.1 := e20
  refine ⟨⟨B3_mono hc (by decide), by rw [e18, e19, e20]; exact B3_mono ob (by decide)⟩, fun x21 e21 x22 e22 x23 e23 => ?_⟩
  rw [e18] at e21
  rw [e19] at e22
  rw [e20] at e23
  refine fl (by rw [e21, e22, e23]; exact nv3 _ _ _) ⟨⟨B3_mono hp3 (by decide), B3_mono hc (by decide)⟩, fun x24 e24 x25 e25 x26 e26 => ?_⟩
  have w24 : x24 = v.1 := by omega
  have w25 : x25 = v.2.1 := by omega
  have w26 : x26 = v.2.2.1 := by omega
  rw [w24, w25, w26]
  have q1 := mulb v1 v1
  have q2 := mulb v2 v2
  have q3 := mulb v3' v3'
  have s1 := sq_nn v.1
  have s2 := sq_nn v.2.1
  have s3 := sq_nn v.2.2.1
  have tq := turnQ (pl := f.1.pl) (c0 := f.1.c0) (c1 := f.1.c1) (c2 := f.1.c2) (x := v.1) (y := v.2.1) (z := v.2.2.1) (a := f.1.an) hp
  rw [← e13, ← e14, ← e15] at tq
  generalize tX f.1.pl f.1.c0 f.1.c1 f.1.c2 x13 x14 x15 f.1.an = X at *
  generalize tY f.1.pl f.1.c0 f.1.c1 f.1.c2 x13 x14 x15 f.1.an = Y at *
  generalize tZ f.1.pl f.1.c0 f.1.c1 f.1.c2 x13 x14 x15 f.1.an = Z at *
  obtain ⟨r31, r32, r33⟩ := r3
  refine ⟨⟨B3_mono hv (by decide), rfl⟩, sq_ex ⟨by omega, by omega⟩, fun n hn => ⟨⟨⟨by dsimp only; omega, by dsimp only; omega, by dsimp only; omega⟩, ⟨by dsimp only; omega, by dsimp only; omega, by dsimp only; omega⟩⟩, fun x28 e28 x29 e29 x30 e30 => ?_⟩⟩
  dsimp only at e28 e29 e30
  have w28 : x28 = X - f.1.c0 := by omega
  have w29 : x29 = Y - f.1.c1 := by omega
  have w30 : x30 = Z - f.1.c2 := by omega
  rw [w28, w29, w30]
  have b1 : -600001 ≤ X - f.1.c0 ∧ X - f.1.c0 ≤ 600001 := by omega
  have b2 : -600001 ≤ Y - f.1.c1 ∧ Y - f.1.c1 ≤ 600001 := by omega
  have b3 : -600001 ≤ Z - f.1.c2 ∧ Z - f.1.c2 ≤ 600001 := by omega
  have p1 := mulb b1 b1
  have p2 := mulb b2 b2
  have p3 := mulb b3 b3
  have y1 := sq_nn (X - f.1.c0)
  have y2 := sq_nn (Y - f.1.c1)
  have y3 := sq_nn (Z - f.1.c2)
  refine ⟨⟨⟨by omega, by omega, by omega⟩, rfl⟩, sq_ex ⟨by omega, by omega⟩, fun m hm => ?_⟩
  rw [tq] at hm
  have fq := flatQ (pl := f.1.pl) (x := v.1) (y := v.2.1) (z := v.2.2.1) hp
  rw [fq] at hn
  have fb := flat_bd (p := f.1.pl) (B := 100000) (by decide) hv
  have rb : rtB (fU f.1.pl v.1 v.2.1 v.2.2.1) (fW f.1.pl v.1 v.2.1 v.2.2.1) = true := decide_eq_true (by omega)
  have tn := turnsN (sc_n f.1.an) (U := rtU (fU f.1.pl v.1 v.2.1 v.2.2.1) (fW f.1.pl v.1 v.2.1 v.2.2.1) f.1.an) (W := rtW (fU f.1.pl v.1 v.2.1 v.2.2.1) (fW f.1.pl v.1 v.2.1 v.2.2.1) f.1.an) (H := fH f.1.pl v.1 v.2.1 v.2.2.1) (by unfold rtU; rw [if_pos rb]) (by unfold rtW; rw [if_pos rb]) (by omega) hn.1 hn.2.2.1 hn.2.2.2 hm.1 hm.2.2.1 hm.2.2.2
  refine ⟨by omega, fun x32 e32 => ⟨by omega, fun x33 e33 x34 e34 => ?_⟩⟩
  rw [decide_eq_true (show x34 ≤ 2 by omega)]; exact hq
end Go.Proofs.YtgnknciihdajiaaDoor
