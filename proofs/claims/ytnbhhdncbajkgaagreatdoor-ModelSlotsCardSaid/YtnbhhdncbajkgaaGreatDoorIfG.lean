/- An 'if' whose condition is decided: for the rows of a drawn region that are guarded. -/
import Derived.Test.YtnbhhdncbajkgaaGreatDoorG1
namespace Go.Proofs.YtnbhhdncbajkgaaGreatDoor
theorem ifYes {c A B : Prop} [Decidable c] (h : c) (ha : A) : if c then A else B := by rw [if_pos h]; exact ha
theorem ifNo {c A B : Prop} [Decidable c] (h : ¬ c) (hb : B) : if c then A else B := by rw [if_neg h]; exact hb
end Go.Proofs.YtnbhhdncbajkgaaGreatDoor
