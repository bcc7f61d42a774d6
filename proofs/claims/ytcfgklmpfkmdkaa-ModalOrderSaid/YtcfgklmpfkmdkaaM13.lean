/-
  Package modal: ModalOrder.
  Conditions: none.
-/
import Derived.Test.YtcfgklmpfkmdkaaM8
import Derived.Test.YtcfgklmpfkmdkaaM14
namespace Go.Proofs.Ytcfgklmpfkmdkaa
open Go Go.HL U
def tabLOrder : List (FuncId × HL.Spec) := [(13, STrue0), (17, SLight), (19, SNew), (26, SMakeM), (18, SValues), (27, SApply), (25, SMod)]
def SLOrder (hargs : List HV) (pars : List (List HC)) : SR :=
  match hargs, pars with
  | [.ce (.sl false [4] l), .ce (.sl false [4] k), .ce (.int .i64 i), .ce (.int .i64 j)], [] => .det True ⟨.ce (.bool true), false, [], []⟩
  | _, _ => .fail
noncomputable def CLOrder : Ctx := ⟨Try.prog, gam tabLOrder, Try.f7.ntmps, [], [45, 47, 72]⟩
theorem vcLOrder (l k : List (List Int)) (i j : Int) (Q : Res → Prop) : (nfun true CLOrder Try.f7 (bodyOf Try.f7) [.ce (.sl false [4] l), .ce (.sl false [4] k), .ce (.int .i64 i), .ce (.int .i64 j)] [] Q) =
    (True ∧ ∀ (x1 : Bool), x1 = decide ((((List.length l) : Nat) : Int) ≤ (120 : Int)) → ((!x1) = true → True ∧ ∀ (x2 : Bool), x2 = true → Q { val := HV.ce (HC.bool x2), own := false, pars := [], news := [] }) ∧ ((!x1) = false → True ∧ ∀ (x3 : Bool), x3 = decide ((((List.length k) : Nat) : Int) ≤ (120 : Int)) → ((!x3) = true → True ∧ ∀ (x4 : Bool), x4 = true → Q { val := HV.ce (HC.bool x4), own := false, pars := [], news := [] }) ∧ ((!x3) = false → True ∧ ∀ (x5 : List (List Int)), x5 = l → ∀ (x6 : Int), x6 = (0 : Int) → inSrc x5 x6 ∧ (∃ (x : M × Int), inSrc x5 x.2) ∧ ∀ (x : M × Int), inSrc x5 x.2 → True ∧ ∀ (x8 : List (List Int)), x8 = k → ∀ (x9 : Int), x9 = (0 : Int) → inSrc x8 x9 ∧ (∃ (x : List (List Int) × Int), inSrc x8 x.2 ∧ List.length x.1 ≤ (40 : Nat)) ∧ ∀ (x_1 : List (List Int) × Int), inSrc x8 x_1.2 ∧ List.length x_1.1 ≤ (40 : Nat) → List.length x_1.1 ≤ (1000 : Nat) ∧ (∃ (x_2 : Int × M), x_2 = appM x_1.1 { m0 := x.1.m0, m1 := x.1.m1, m2 := x.1.m2, m3 := x.1.m3, m4 := x.1.m4, m5 := x.1.m5, m6 := x.1.m6, m7 := x.1.m7, m8 := x.1.m8, m9 := x.1.m9, m10 := x.1.m10, m11 := x.1.m11, m12 := x.1.m12, m13 := x.1.m13, m14 := x.1.m14, m15 := x.1.m15, m16 := x.1.m16, m17 := x.1.m17, m18 := x.1.m18, m19 := x.1.m19, m20 := x.1.m20, m21 := x.1.m21 }) ∧
    ∀ (x_2 : Int × M), x_2 = appM x_1.1 { m0 := x.1.m0, m1 := x.1.m1, m2 := x.1.m2, m3 := x.1.m3, m4 := x.1.m4, m5 := x.1.m5, m6 := x.1.m6, m7 := x.1.m7, m8 := x.1.m8, m9 := x.1.m9, m10 := x.1.m10, m11 := x.1.m11, m12 := x.1.m12, m13 := x.1.m13, m14 := x.1.m14, m15 := x.1.m15, m16 := x.1.m16, m17 := x.1.m17, m18 := x.1.m18, m19 := x.1.m19, m20 := x.1.m20, m21 := x.1.m21 } → ((x_2.1 != (0 : Int)) = true → True ∧ ∀ (x12 : Bool), x12 = true → Q { val := HV.ce (HC.bool x12), own := false, pars := [], news := [] }) ∧ ((x_2.1 != (0 : Int)) = false → (((((List.length x_1.1) : Nat) : Int) == (0 : Int)) = true → True ∧ ∀ (x13 : Bool), x13 = true → Q { val := HV.ce (HC.bool x13), own := false, pars := [], news := [] }) ∧ (((((List.length x_1.1) : Nat) : Int) == (0 : Int)) = false → ((1 : Nat) ≤ List.length x_1.1 ∧ List.length x_1.1 * (16 : Nat) ≤ (140737488355328 : Nat) ∧ List.length x_1.1 ≤ maxLen) ∧ ((0 : Int) < (((List.length x_1.1) : Nat) : Int) ∧
    (((List.length x_1.1) : Nat) : Int) ≤ (4611686018427387904 : Int)) ∧ ∀ (x14 : Int), x14 = i % (((List.length x_1.1) : Nat) : Int) → ((0 : Int) < (((List.length x_1.1) : Nat) : Int) ∧ (((List.length x_1.1) : Nat) : Int) ≤ (4611686018427387904 : Int)) ∧ ∀ (x15 : Int), x15 = j % (((List.length x_1.1) : Nat) : Int) → ((0 : Int) ≤ x15 ∧ x15 < (((List.length x_1.1) : Nat) : Int)) ∧ Int.toNat x15 < List.length x_1.1 ∧ ((0 : Int) ≤ x14 ∧ x14 < (((List.length x_1.1) : Nat) : Int)) ∧ Int.toNat x14 < List.length x_1.1 ∧ ((0 : Int) ≤ x14 ∧ x14 < (((List.length x_1.1) : Nat) : Int)) ∧ Int.toNat x14 < List.length x_1.1 ∧ ((0 : Int) ≤ x15 ∧ x15 < (((List.length x_1.1) : Nat) : Int)) ∧ Int.toNat x15 < List.length (List.set x_1.1 (Int.toNat x14) [bif true && true then Option.rec (0 : Int) (fun (val : Int) => val) (List.get?Internal (List.getD x_1.1 (Int.toNat x15) []) (nat_lit 0)) else el x_1.1 (Int.toNat x14), bif true && true then Option.rec (0 : Int) (fun (val : Int) => val) (List.get?Internal (List.getD x_1.1 (Int.toNat x15) []) (nat_lit 1)) else ec x_1.1 (Int.toNat x14) (nat_lit 1)]) ∧
    List.length x_1.1 = List.length (List.set (List.set x_1.1 (Int.toNat x14) [bif true && true then Option.rec (0 : Int) (fun (val : Int) => val) (List.get?Internal (List.getD x_1.1 (Int.toNat x15) []) (nat_lit 0)) else el x_1.1 (Int.toNat x14), bif true && true then Option.rec (0 : Int) (fun (val : Int) => val) (List.get?Internal (List.getD x_1.1 (Int.toNat x15) []) (nat_lit 1)) else ec x_1.1 (Int.toNat x14) (nat_lit 1)]) (Int.toNat x15) [bif true && true then Option.rec (0 : Int) (fun (val : Int) => val) (List.get?Internal (List.getD x_1.1 (Int.toNat x14) []) (nat_lit 0)) else el (List.set x_1.1 (Int.toNat x14) [bif true && true then Option.rec (0 : Int) (fun (val : Int) => val) (List.get?Internal (List.getD x_1.1 (Int.toNat x15) []) (nat_lit 0)) else el x_1.1 (Int.toNat x14), bif true && true then Option.rec (0 : Int) (fun (val : Int) => val) (List.get?Internal (List.getD x_1.1 (Int.toNat x15) []) (nat_lit 1)) else ec x_1.1 (Int.toNat x14) (nat_lit 1)]) (Int.toNat x15), bif true && true then Option.rec (0 : Int) (fun (val : Int) => val) (List.get?Internal (List.getD x_1.1 (Int.toNat x14) []) (nat_lit 1)) else ec (List.set x_1.1 (Int.toNat x14) [bif true && true then Option.rec (0 : Int) (fun (val : Int) => val) (List.get?Internal (List.getD x_1.1 (Int.toNat x15) []) (nat_lit 0)) else el x_1.1 (Int.toNat x14), bif true && true then Option.rec (0 : Int) (fun (val : Int) => val) (List.get?Internal (List.getD x_1.1 (Int.toNat x15) []) (nat_lit 1)) else ec x_1.1 (Int.toNat x14) (nat_lit 1)]) (Int.toNat x15) (nat_lit 1)]) ∧
    List.length (List.set (List.set x_1.1 (Int.toNat x14) [bif true && true then Option.rec (0 : Int) (fun (val : Int) => val) (List.get?Internal (List.getD x_1.1 (Int.toNat x15) []) (nat_lit 0)) else el x_1.1 (Int.toNat x14), bif true && true then Option.rec (0 : Int) (fun (val : Int) => val) (List.get?Internal (List.getD x_1.1 (Int.toNat x15) []) (nat_lit 1)) else ec x_1.1 (Int.toNat x14) (nat_lit 1)]) (Int.toNat x15) [bif true && true then Option.rec (0 : Int) (fun (val : Int) => val) (List.get?Internal (List.getD x_1.1 (Int.toNat x14) []) (nat_lit 0)) else el (List.set x_1.1 (Int.toNat x14) [bif true && true then Option.rec (0 : Int) (fun (val : Int) => val) (List.get?Internal (List.getD x_1.1 (Int.toNat x15) []) (nat_lit 0)) else el x_1.1 (Int.toNat x14), bif true && true then Option.rec (0 : Int) (fun (val : Int) => val) (List.get?Internal (List.getD x_1.1 (Int.toNat x15) []) (nat_lit 1)) else ec x_1.1 (Int.toNat x14) (nat_lit 1)]) (Int.toNat x15), bif true && true then Option.rec (0 : Int) (fun (val : Int) => val) (List.get?Internal (List.getD x_1.1 (Int.toNat x14) []) (nat_lit 1)) else ec (List.set x_1.1 (Int.toNat x14) [bif true && true then Option.rec (0 : Int) (fun (val : Int) => val) (List.get?Internal (List.getD x_1.1 (Int.toNat x15) []) (nat_lit 0)) else el x_1.1 (Int.toNat x14), bif true && true then Option.rec (0 : Int) (fun (val : Int) => val) (List.get?Internal (List.getD x_1.1 (Int.toNat x15) []) (nat_lit 1)) else ec x_1.1 (Int.toNat x14) (nat_lit 1)]) (Int.toNat x15) (nat_lit 1)]) ≤ (1000 : Nat) ∧
    (∃ (x_3 : Int × M), x_3 = appM (List.set (List.set x_1.1 (Int.toNat x14) [bif true && true then Option.rec (0 : Int) (fun (val : Int) => val) (List.get?Internal (List.getD x_1.1 (Int.toNat x15) []) (nat_lit 0)) else el x_1.1 (Int.toNat x14), bif true && true then Option.rec (0 : Int) (fun (val : Int) => val) (List.get?Internal (List.getD x_1.1 (Int.toNat x15) []) (nat_lit 1)) else ec x_1.1 (Int.toNat x14) (nat_lit 1)]) (Int.toNat x15) [bif true && true then Option.rec (0 : Int) (fun (val : Int) => val) (List.get?Internal (List.getD x_1.1 (Int.toNat x14) []) (nat_lit 0)) else el (List.set x_1.1 (Int.toNat x14) [bif true && true then Option.rec (0 : Int) (fun (val : Int) => val) (List.get?Internal (List.getD x_1.1 (Int.toNat x15) []) (nat_lit 0)) else el x_1.1 (Int.toNat x14), bif true && true then Option.rec (0 : Int) (fun (val : Int) => val) (List.get?Internal (List.getD x_1.1 (Int.toNat x15) []) (nat_lit 1)) else ec x_1.1 (Int.toNat x14) (nat_lit 1)]) (Int.toNat x15), bif true && true then Option.rec (0 : Int) (fun (val : Int) => val) (List.get?Internal (List.getD x_1.1 (Int.toNat x14) []) (nat_lit 1)) else ec (List.set x_1.1 (Int.toNat x14) [bif true && true then Option.rec (0 : Int) (fun (val : Int) => val) (List.get?Internal (List.getD x_1.1 (Int.toNat x15) []) (nat_lit 0)) else el x_1.1 (Int.toNat x14), bif true && true then Option.rec (0 : Int) (fun (val : Int) => val) (List.get?Internal (List.getD x_1.1 (Int.toNat x15) []) (nat_lit 1)) else ec x_1.1 (Int.toNat x14) (nat_lit 1)]) (Int.toNat x15) (nat_lit 1)]) { m0 := x.1.m0, m1 := x.1.m1, m2 := x.1.m2, m3 := x.1.m3, m4 := x.1.m4, m5 := x.1.m5, m6 := x.1.m6, m7 := x.1.m7, m8 := x.1.m8, m9 := x.1.m9, m10 := x.1.m10, m11 := x.1.m11, m12 := x.1.m12, m13 := x.1.m13, m14 := x.1.m14, m15 := x.1.m15, m16 := x.1.m16, m17 := x.1.m17, m18 := x.1.m18, m19 := x.1.m19, m20 := x.1.m20, m21 := x.1.m21 }) ∧
    ∀ (x_3 : Int × M), x_3 = appM (List.set (List.set x_1.1 (Int.toNat x14) [bif true && true then Option.rec (0 : Int) (fun (val : Int) => val) (List.get?Internal (List.getD x_1.1 (Int.toNat x15) []) (nat_lit 0)) else el x_1.1 (Int.toNat x14), bif true && true then Option.rec (0 : Int) (fun (val : Int) => val) (List.get?Internal (List.getD x_1.1 (Int.toNat x15) []) (nat_lit 1)) else ec x_1.1 (Int.toNat x14) (nat_lit 1)]) (Int.toNat x15) [bif true && true then Option.rec (0 : Int) (fun (val : Int) => val) (List.get?Internal (List.getD x_1.1 (Int.toNat x14) []) (nat_lit 0)) else el (List.set x_1.1 (Int.toNat x14) [bif true && true then Option.rec (0 : Int) (fun (val : Int) => val) (List.get?Internal (List.getD x_1.1 (Int.toNat x15) []) (nat_lit 0)) else el x_1.1 (Int.toNat x14), bif true && true then Option.rec (0 : Int) (fun (val : Int) => val) (List.get?Internal (List.getD x_1.1 (Int.toNat x15) []) (nat_lit 1)) else ec x_1.1 (Int.toNat x14) (nat_lit 1)]) (Int.toNat x15), bif true && true then Option.rec (0 : Int) (fun (val : Int) => val) (List.get?Internal (List.getD x_1.1 (Int.toNat x14) []) (nat_lit 1)) else ec (List.set x_1.1 (Int.toNat x14) [bif true && true then Option.rec (0 : Int) (fun (val : Int) => val) (List.get?Internal (List.getD x_1.1 (Int.toNat x15) []) (nat_lit 0)) else el x_1.1 (Int.toNat x14), bif true && true then Option.rec (0 : Int) (fun (val : Int) => val) (List.get?Internal (List.getD x_1.1 (Int.toNat x15) []) (nat_lit 1)) else ec x_1.1 (Int.toNat x14) (nat_lit 1)]) (Int.toNat x15) (nat_lit 1)]) { m0 := x.1.m0, m1 := x.1.m1, m2 := x.1.m2, m3 := x.1.m3, m4 := x.1.m4, m5 := x.1.m5, m6 := x.1.m6, m7 := x.1.m7, m8 := x.1.m8, m9 := x.1.m9, m10 := x.1.m10, m11 := x.1.m11, m12 := x.1.m12, m13 := x.1.m13, m14 := x.1.m14, m15 := x.1.m15, m16 := x.1.m16, m17 := x.1.m17, m18 := x.1.m18, m19 := x.1.m19, m20 := x.1.m20, m21 := x.1.m21 } →
    True ∧ ∀ (x17 : Bool), x17 = true → (x17 = true → ((x_3.1 == (0 : Int)) = true → Q { val := HV.ce (HC.bool (x_2.2.m0 == x_3.2.m0 && (x_2.2.m1 == x_3.2.m1 && (x_2.2.m2 == x_3.2.m2 && (x_2.2.m3 == x_3.2.m3 && (x_2.2.m4 == x_3.2.m4 && (x_2.2.m5 == x_3.2.m5 && (x_2.2.m6 == x_3.2.m6 && (x_2.2.m7 == x_3.2.m7 && (x_2.2.m8 == x_3.2.m8 && (x_2.2.m9 == x_3.2.m9 && (x_2.2.m10 == x_3.2.m10 && (x_2.2.m11 == x_3.2.m11 && (x_2.2.m12 == x_3.2.m12 && (x_2.2.m13 == x_3.2.m13 && (x_2.2.m14 == x_3.2.m14 && (x_2.2.m15 == x_3.2.m15 && (x_2.2.m16 == x_3.2.m16 && (x_2.2.m17 == x_3.2.m17 && (x_2.2.m18 == x_3.2.m18 && (x_2.2.m19 == x_3.2.m19 && (x_2.2.m20 == x_3.2.m20 && (x_2.2.m21 == x_3.2.m21 && true))))))))))))))))))))))), own := false, pars := [], news := [] }) ∧ ((x_3.1 == (0 : Int)) = false → Q { val := HV.ce (HC.bool false), own := false, pars := [], news := [] })) ∧ (x17 = false → Q { val := HV.ce (HC.bool false), own := false, pars := [], news := [] })))))) := by kernel_rfl
attribute [local irreducible] hfun bodyT fragT
def swp (v : List (List Int)) (a b : Nat) : List (List Int) := (v.set a [lt (v.getD b []), nm (v.getD b [])]).set b [lt (v.getD a []), nm (v.getD a [])]
theorem pr_set (l : List (List Int)) (i : Nat) (x y : Int) : pr (l.set i [x, y]) = (pr l).set i (x, y) := by unfold pr; rw [List.map_set]; rfl
theorem pr_get (l : List (List Int)) (i : Nat) (h : i < l.length) : (lt (l.getD i []), nm (l.getD i [])) = (pr l)[i]'(by unfold pr; rw [List.length_map]; exact h) := by
  unfold pr
  rw [List.getElem_map, List.getD_eq_getElem?_getD, List.getElem?_eq_getElem h]
  rfl
theorem swp_perm (v : List (List Int)) {a b : Nat} (ha : a < v.length) (hb : b < v.length) : (pr v).Perm (pr (swp v a b)) := by
  unfold swp
  rw [pr_set, pr_set, pr_get v a ha, pr_get v b hb]
  exact (List.set_set_perm _ _).symm
theorem swp_len (v : List (List Int)) (a b : Nat) : (swp v a b).length = v.length := by unfold swp; rw [List.length_set, List.length_set]
theorem leafO {v W1 W : List (List Int)} {b : Nat} {s : M} {x2 : Int × M} {R : Res → Prop} (hb : b < W1.length) (hl : W.length = v.length) (hl2 : v.length ≤ 1000) (hP : (pr v).Perm (pr W)) (e2 : x2 = appM v s) (k2 : x2.1 = 0) (hq : R okR) :
    b < W1.length ∧ v.length = W.length ∧ W.length ≤ 1000 ∧ (∃ x : Int × M, x = appM W s) ∧ ∀ x : Int × M, x = appM W s → True ∧ ∀ z : Bool, z = true → (z = true → ((x.1 == 0) = true → R ⟨.ce (.bool (eqM x2.2 x.2)), false, [], []⟩) ∧ ((x.1 == 0) = false → R ⟨.ce (.bool false), false, [], []⟩)) ∧ (z = false → R ⟨.ce (.bool false), false, [], []⟩) := by
  refine ⟨hb, hl.symm, by omega, ⟨_, rfl⟩, fun x ex => ⟨trivial, fun z ez => ?_⟩⟩
  have h0 : ckk v = 0 := by
    by_cases h : ckk v = 0
    · exact h
    · rw [e2, appM1 h] at k2; exact absurd k2 h
  rw [app_perm hP s h0, ← e2] at ex
  subst ex
  refine ⟨fun _ => ⟨fun _ => ?_, fun k => ?_⟩, fun k => by rw [ez] at k; cases k⟩
  · rw [eqM_refl]; exact hq
  · rw [k2] at k; cases k
theorem len_of2 {l : List (List Int)} {x : Bool} {n : Int} (e : x = decide ((l.length : Int) ≤ n)) (k : (!x) = false) : (l.length : Int) ≤ n := by
  rw [e] at k
  have k : decide ((l.length : Int) ≤ n) = true := by simpa using k
  exact of_decide_eq_true k
set_option maxHeartbeats 400000 in
set_option maxRecDepth 100000 in
theorem sLOrder : Sound Try.prog 7 SLOrder := by
  refine sound_of (C := CLOrder) tabLOrder Try.func7 (by kernel_rfl) (by decide +kernel) (by kernel_rfl) rfl ⟨sAwake, sLight, sNew, sMakeM, sValues, sApply, sMod, trivial⟩ (loops0 (by kernel_rfl)) ?_
  intro hargs pars R h
  unfold SLOrder at h
  split at h
  case h_2 => exfalso; exact h
  rename_i l k i j
  have hq : R okR := h.2
  clear h
  refine byVC (vcLOrder l k i j R) ⟨trivial, fun x1 e1 => ⟨fun _ => ⟨trivial, fun x2 e2 => by rw [e2]; exact hq⟩, fun k1 => ⟨trivial, fun x3 e3 => ⟨fun _ => ⟨trivial, fun x2 e2 => by rw [e2]; exact hq⟩, fun k3 => ⟨trivial, fun x5 e5 x6 e6 => ?_⟩⟩⟩⟩⟩
  have h1 := len_of2 e1 k1
  have h3 := len_of2 e3 k3
  subst e5 e6
  have hs : inSrc x5 0 := ⟨Int.le_refl _, by omega⟩
  refine ⟨hs, ⟨(mst, 0), hs⟩, fun x hx => ⟨trivial, fun x8 e8 x9 e9 => ?_⟩⟩
  subst e8 e9
  have hs2 : inSrc x8 0 := ⟨Int.le_refl _, by omega⟩
  refine ⟨hs2, ⟨([], 0), hs2, Nat.zero_le _⟩, fun v hv => ?_⟩
  have hl : v.1.length ≤ 1000 := Nat.le_trans hv.2 (by decide)
  have h40 := hv.2
  refine ⟨hl, ⟨_, rfl⟩, fun y ey => ⟨fun _ => ⟨trivial, fun z ez => by rw [ez]; exact hq⟩, fun k2 => ⟨fun _ => ⟨trivial, fun z ez => by rw [ez]; exact hq⟩, fun k4 => ?_⟩⟩⟩
  have k2 := bne_f k2
  have k4 : (v.1.length : Int) ≠ 0 := by simpa using k4
  refine ⟨⟨by omega, by omega, by unfold maxLen; omega⟩, ⟨by omega, by omega⟩, fun a ea => ⟨⟨by omega, by omega⟩, fun b eb => ?_⟩⟩
  have a1 := Int.emod_nonneg i (b := (v.1.length : Int)) (by omega)
  have a2 := Int.emod_lt_of_pos i (b := (v.1.length : Int)) (by omega)
  have b1 := Int.emod_nonneg j (b := (v.1.length : Int)) (by omega)
  have b2 := Int.emod_lt_of_pos j (b := (v.1.length : Int)) (by omega)
  rw [← ea] at a1 a2
  rw [← eb] at b1 b2
  refine ⟨⟨b1, b2⟩, by omega, ⟨a1, a2⟩, by omega, ⟨a1, a2⟩, by omega, ⟨b1, b2⟩, ?_⟩
  exact Eq.mp (by kernel_rfl) (leafO (W1 := v.1.set a.toNat [lt (v.1.getD b.toNat []), nm (v.1.getD b.toNat [])]) (b := b.toNat) (W := swp v.1 a.toNat b.toNat) (s := x.1) (by rw [List.length_set]; omega) (swp_len _ _ _) hl (swp_perm _ (by omega) (by omega)) ey k2 hq)
end Go.Proofs.Ytcfgklmpfkmdkaa
