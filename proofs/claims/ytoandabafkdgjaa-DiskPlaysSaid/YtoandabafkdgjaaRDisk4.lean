/- isoglossref07.Disk: Do's Write. -/
import Derived.Test.YtoandabafkdgjaaRDisk3
namespace Go.Proofs.Ytoandabafkdgjaa.My
set_option linter.unusedSimpArgs false
set_option linter.unusedVariables false
open Go.RowKit Go.Proofs.YtoandabafkdgjaaW.PrintWords Go.Proofs.YtoandabafkdgjaaW.PrintLast Go.Proofs.Ytoandabafkdgjaa.Pm

theorem info_int' : (Try.prog.info? 3).map (fun i => (i.zero, i.size, i.bytes)) = some (some (.int .i64 0), 1, 8) := by kernel_rfl
theorem Byt.R {w : World} {base : Nat} {v : Value} {o : List UInt8} (h : Byt w base v o) : Kd.R (Kd.int .u8) 5 w base (fun _ => True) v (nb o) := Kd.R_of_own (by rw [nb_length]; exact h) (fun _ _ => trivial)
section
variable {w w1 : World} {base h : Nat} {V1 V2 A B : Value} {o1 o2 : List UInt8} {l : List (Nat × ByteArray)} {left : Int}
/-- Seen has been written. -/
theorem RDk.seen (k : RDk w base h V1 V2 A B o1 o2 l left) (hg : w.grownBy w1 V2.ownBlock) {o : List UInt8} (hw : Byt w1 base V2 o) : RDk w1 base h V1 V2 A B o1 o l left :=
  ⟨blk_grown k.dk hg (k.s2.ne k.dk (by decide)), k.s1.grown hg k.ne, hw, k.ne, Kd.R_over k.ats k.s2.R (fun q hq => by rw [int_E] at hq; rw [List.mem_singleton.1 hq]; decide) hg, Kd.R_over k.bs k.s2.R (fun q hq => by rw [string_E] at hq; rw [List.mem_singleton.1 hq]; decide) hg, k.hb⟩
/-- Sure has been written. -/
theorem RDk.sure (k : RDk w base h V1 V2 A B o1 o2 l left) (hg : w.grownBy w1 V1.ownBlock) {o : List UInt8} (hw : Byt w1 base V1 o) : RDk w1 base h V1 V2 A B o o2 l left := by
  refine ⟨blk_grown k.dk hg (k.s1.ne k.dk (by decide)), hw, k.s2.grown hg ?_, k.ne, Kd.R_over k.ats k.s1.R (fun q hq => by rw [int_E] at hq; rw [List.mem_singleton.1 hq]; decide) hg, Kd.R_over k.bs k.s1.R (fun q hq => by rw [string_E] at hq; rw [List.mem_singleton.1 hq]; decide) hg, k.hb⟩
  by_cases h2 : V2.ownBlock = none
  · exact .inl h2
  · rcases k.ne with h1 | h1
    · exact .inr (by rw [h1]; exact h2)
    · exact .inr h1.symm
/-- At has been written; its new value is stored. -/
theorem RDk.puta {v1 : Value} {p : Nat × ByteArray} (k : RDk w base h V1 V2 A B o1 o2 l left) (hg : w.grownBy w1 A.ownBlock) (hw : Ats w1 base v1 ((l.map fun p => (p.1 : Int)) ++ [(p.1 : Int)])) :
    IsRD (w1.setCell ⟨h, 2, none⟩ v1) h V1 V2 v1 B left ∧ Byt (w1.setCell ⟨h, 2, none⟩ v1) base V1 o1 ∧ Byt (w1.setCell ⟨h, 2, none⟩ v1) base V2 o2 ∧ Ats (w1.setCell ⟨h, 2, none⟩ v1) base v1 ((l ++ [p]).map fun p => (p.1 : Int)) ∧ Srs (w1.setCell ⟨h, 2, none⟩ v1) base B (l.map Prod.snd) := by
  have h1 : IsRD w1 h V1 V2 A B left := blk_grown k.dk hg (Kd.R_ne k.ats k.dk (by decide))
  have h3 : Srs w1 base B (l.map Prod.snd) := Kd.R_over k.bs k.ats (fun q hq => by rw [string_E] at hq; rw [List.mem_singleton.1 hq]; decide) hg
  have g1 : Kd.R (Kd.int .u8) 5 w1 base (fun _ => True) V1 (nb o1) := Kd.R_over k.s1.R k.ats (fun q hq => by rw [show (Kd.int .u8).E = [] from rfl] at hq; rw [List.mem_singleton.1 hq]; decide) hg
  have g2 : Kd.R (Kd.int .u8) 5 w1 base (fun _ => True) V2 (nb o2) := Kd.R_over k.s2.R k.ats (fun q hq => by rw [show (Kd.int .u8).E = [] from rfl] at hq; rw [List.mem_singleton.1 hq]; decide) hg
  refine ⟨blk_set h1 2 _, (byt_of_R g1 rfl).set h1 (by decide) 2 _, (byt_of_R g2 rfl).set h1 (by decide) 2 _, ?_, Kd.R_set h3 h1 (fun q hq => by rw [string_E] at hq; rw [List.mem_singleton.1 hq]; decide) 2 _⟩
  rw [List.map_append, List.map_singleton]
  exact Kd.R_set hw h1 (fun q hq => by rw [int_E] at hq; rw [List.mem_singleton.1 hq]; decide) 2 _
/-- B has been written; its new value is stored. -/
theorem RDk.putb {A1 v1 : Value} {p : Nat × ByteArray} (hd : IsRD w h V1 V2 A1 B left) (s1 : Byt w base V1 o1) (s2 : Byt w base V2 o2) (ne : V1.ownBlock = none ∨ V1.ownBlock ≠ V2.ownBlock) (ha : Ats w base A1 ((l ++ [p]).map fun p => (p.1 : Int))) (hbs : Srs w base B (l.map Prod.snd)) (hb : base ≤ h) (hg : w.grownBy w1 B.ownBlock) (hw : Srs w1 base v1 (l.map Prod.snd ++ [p.2])) :
    RDk (w1.setCell ⟨h, 3, none⟩ v1) base h V1 V2 A1 v1 o1 o2 (l ++ [p]) left := by
  have h1 : IsRD w1 h V1 V2 A1 B left := blk_grown hd hg (Kd.R_ne hbs hd (by decide))
  have h3 : Ats w1 base A1 ((l ++ [p]).map fun p => (p.1 : Int)) := Kd.R_over ha hbs (fun q hq => by rw [int_E] at hq; rw [List.mem_singleton.1 hq]; decide) hg
  have g1 : Kd.R (Kd.int .u8) 5 w1 base (fun _ => True) V1 (nb o1) := Kd.R_over s1.R hbs (fun q hq => by rw [show (Kd.int .u8).E = [] from rfl] at hq; rw [List.mem_singleton.1 hq]; decide) hg
  have g2 : Kd.R (Kd.int .u8) 5 w1 base (fun _ => True) V2 (nb o2) := Kd.R_over s2.R hbs (fun q hq => by rw [show (Kd.int .u8).E = [] from rfl] at hq; rw [List.mem_singleton.1 hq]; decide) hg
  refine ⟨blk_set h1 3 _, (byt_of_R g1 rfl).set h1 (by decide) 3 _, (byt_of_R g2 rfl).set h1 (by decide) 3 _, ne, Kd.R_set h3 h1 (fun q hq => by rw [int_E] at hq; rw [List.mem_singleton.1 hq]; decide) 3 _, ?_, hb⟩
  rw [List.map_append, List.map_singleton]
  exact Kd.R_set hw h1 (fun q hq => by rw [string_E] at hq; rw [List.mem_singleton.1 hq]; decide) 3 _
end
end Go.Proofs.Ytoandabafkdgjaa.My
