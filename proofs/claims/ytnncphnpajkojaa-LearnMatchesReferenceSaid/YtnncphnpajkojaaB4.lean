/- Contracts: the fixed examples. Nothing here is trusted; no condition. -/
import Derived.Test.YtnncphnpajkojaaB3
set_option linter.unusedSimpArgs false
set_option linter.unusedVariables false
namespace Go.Proofs.Ytnncphnpajkojaa
set_option maxHeartbeats 4000000
set_option maxRecDepth 100000

def bsG (lt : Nat → Bool) : Nat → Nat → Nat → Nat
  | 0, i, _ => i
  | f + 1, i, j => if i < j then (if lt ((i + j) / 2) then bsG lt f ((i + j) / 2 + 1) j else bsG lt f i ((i + j) / 2)) else i
theorem bsF_G (lt : Nat → Bool) : ∀ (f i j : Nat), j - i ≤ f → bsF lt i j = bsG lt f i j
  | 0, i, j, h => by
    unfold bsF bsG
    rw [if_neg (by omega)]
  | f + 1, i, j, h => by
    unfold bsF bsG
    by_cases hij : i < j
    · rw [if_pos hij, if_pos hij, bsF_G lt f _ _ (by omega), bsF_G lt f _ _ (by omega)]
    · rw [if_neg hij, if_neg hij]
theorem bsI_G {α : Type} (pl : α → Int × Int) (l : List α) (p : Int × Int) : bsI pl l p = bsG (ltAt pl l p) l.length 0 l.length := bsF_G _ _ _ _ (by omega)
theorem c_learnt (u : Usr) (r : Rec) : PC env 15 [⟨UserT, u⟩, ⟨RecordT, r⟩] LearntT (learnS u r) := by
  refine PC.of_PW (m := 2000) env_ok fn_15 rfl rfl rfl rfl (by kernel_rfl) ?_; intro hx; simp only [Try.f15]; simp only [go_sem, Nat.reduceBEq, ↓reduceIte, ↓reduceDIte, Nat.reduceAdd, Nat.reduceSub, Nat.reduceMul, Nat.reduceLeDiff, ← Bool.decide_and, ← Bool.decide_or, ← decide_not, Int.reduceLT, Int.reduceLE, Int.reduceToNat, Int.reduceNeg]
  exact ⟨_, c_Learn u r, fun _ => rfl⟩
def z8 : L8 := (0, 0, 0, 0, 0, 0, 0, 0)
def exU0 : Usr := ([], [], z8)
def exR (e : Int) : Rec := (0, 0, e, [65, 66], 1, 2)
def exA : Usr := ([(0, 1, 3, [65, 66], 1, 2)], [], (1, 0, 0, 0, 0, 0, 0, 0))
def exB : Usr := ([], [(1, 1, 4, 1, [65, 66], 0, 0)], (1, 1, 0, 0, 0, 0, 0, 0))
def exC : Usr := ([], [(1, 1, 4, 1, [65, 66], 0, 0)], (2, 1, 0, 0, 0, 0, 0, 0))
def exD : Usr := ([(0, 3, 5, [65, 66], 1, 2)], [(1, 1, 4, 1, [65, 66], 0, 0)], (3, 1, 0, 0, 0, 0, 0, 0))
theorem ex1 : learnS exU0 (exR 3) = (exA, 1, 0) := by simp only [learnS, bsI_G]; kernel_rfl
theorem ex2 : forgetS exA (1, 0, 4, 1, [65, 66], 0, 0) = (exB, 0) := by simp only [forgetS, bsI_G]; kernel_rfl
theorem ex3 : learnS exB (exR 3) = (exC, 2, 0) := by simp only [learnS, bsI_G]; kernel_rfl
theorem ex4 : learnS exC (exR 5) = (exD, 3, 0) := by simp only [learnS, bsI_G]; kernel_rfl
theorem ex5 : learnS exA (0, 0, 0, [65, 45], 0, 1) = (exA, 0, 240) := by simp only [learnS, bsI_G]; kernel_rfl
theorem ex6 : forgetS exA (0, 0, 0, 6, [], 0, 0) = (exA, 240) := by simp only [forgetS, bsI_G]; kernel_rfl
theorem ex7 : validS exD = true := by simp only [validS, recOK, bsI_G]; kernel_rfl
theorem c_sanity : PC env 10 [] .bool true := by
  have h1 := c_learnt exU0 (exR 3)
  rw [ex1] at h1
  have h2 := c_Forget exA (1, 0, 4, 1, [65, 66], 0, 0) (by decide)
  rw [ex2] at h2
  have h3 := c_learnt exB (exR 3)
  rw [ex3] at h3
  have h4 := c_learnt exC (exR 5)
  rw [ex4] at h4
  have h5 := c_learnt exA (0, 0, 0, [65, 45], 0, 1)
  rw [ex5] at h5
  have h6 := c_Forget exA (0, 0, 0, 6, [], 0, 0) (by decide)
  rw [ex6] at h6
  have tA : tame exA.1 := ⟨by decide, fun r hr => by
    simp only [exA, List.mem_singleton] at hr
    subst hr
    decide⟩
  have k1 := c_Count exA [65, 66] 3 tA
  rw [show countS exA.1 [65, 66] 3 = 2 from by kernel_rfl] at k1
  have k2 := c_Count exA [65, 66] 4 tA
  rw [show countS exA.1 [65, 66] 4 = 1 from by kernel_rfl] at k2
  have k3 := c_Count exA [65, 66] 5 tA
  rw [show countS exA.1 [65, 66] 5 = 0 from by kernel_rfl] at k3
  have k4 := c_Count exA [65, 66] 2 tA
  rw [show countS exA.1 [65, 66] 2 = 2 from by kernel_rfl] at k4
  have k5 := c_Count exA [65] 3 tA
  rw [show countS exA.1 [65] 3 = 0 from by kernel_rfl] at k5
  have k6 := c_Seen exA (by decide) (by decide)
  rw [show seenS exA.1 = exA.1 from by kernel_rfl] at k6
  have k7 := c_Valid exD
  rw [ex7] at k7
  have k8 := c_Means (0, 1, 4, 2, [], 1, 0) (0, 1, 4, [65], 1, 1)
  rw [show (decide (((0, 1, 4, [65], 1, 1) : Rec).2.2.1 ≤ ((0, 1, 4, 2, [], 1, 0) : Ord').2.2.1) && rightR (0, 1, 4, [65], 1, 1) && rightO (0, 1, 4, 2, [], 1, 0) && meantB (0, 1, 4, 2, [], 1, 0) (0, 1, 4, [65], 1, 1)) = true from by kernel_rfl] at k8
  refine PC.of_PW (m := 2000) env_ok fn_10 rfl rfl rfl rfl (by kernel_rfl) ?_; intro hx; simp only [Try.f10]; simp (config := {maxSteps := 4000000}) only [go_sem, Nat.reduceBEq, ↓reduceIte, ↓reduceDIte, Nat.reduceAdd, Nat.reduceSub, Nat.reduceMul, Nat.reduceLeDiff, ← Bool.decide_and, ← Bool.decide_or, ← decide_not, Int.reduceLT, Int.reduceLE, Int.reduceToNat, Int.reduceNeg]
  refine ⟨_, h1, fun _ => ⟨_, h2, fun _ => ⟨_, h3, fun _ => ⟨_, h4, fun _ => ⟨_, h5, fun _ => ⟨_, h6, fun _ => ?_⟩⟩⟩⟩⟩⟩
  refine ⟨_, k1, fun _ => ⟨fun _ => ⟨_, k2, fun _ => ⟨fun _ => ⟨_, k3, fun _ => ⟨fun _ => ⟨_, k4, fun _ => ⟨fun _ => ⟨_, k5, fun _ => ?_⟩, fun g => absurd rfl g⟩⟩, fun g => absurd rfl g⟩⟩, fun g => absurd rfl g⟩⟩, fun g => absurd rfl g⟩⟩
  repeat' (first
    | (refine ⟨fun _ => ?_, fun g => absurd rfl g⟩)
    | (refine ⟨1, rfl, ?_⟩)
    | (refine ⟨_, k6, fun _ => ?_⟩)
    | (refine ⟨_, k7, ?_⟩))
  simp (config := {maxSteps := 4000000}) only [go_sem, Nat.reduceBEq, ↓reduceIte, ↓reduceDIte, Nat.reduceAdd, Nat.reduceSub, Nat.reduceMul, Nat.reduceLeDiff, ← Bool.decide_and, ← Bool.decide_or, ← decide_not, Int.reduceLT, Int.reduceLE, Int.reduceToNat, Int.reduceNeg]
  exact ⟨_, k8, rfl⟩
end Go.Proofs.Ytnncphnpajkojaa
