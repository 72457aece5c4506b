/- Do, kind by kind. -/
import Derived.Test.YteffoihkljkfdaaDoorPdo
namespace Go.Proofs.YteffoihkljkfdaaDoor
set_option linter.unusedSimpArgs false
set_option linter.unusedVariables false
open Go.RowKit

theorem may_made {o : OpV} (h : mayZ o = true) : 0 ≤ o.made ∧ o.made ≤ 1099511627776 := by
  by_cases hin : 1 ≤ o.kind ∧ o.kind ≤ 14 ∧ 0 ≤ o.made ∧ o.made ≤ 1099511627776
  · exact ⟨hin.2.2.1, hin.2.2.2⟩
  · rw [may_out hin] at h; cases h
theorem do_create {w : World} {gp bn c : Nat} {S : PS} {A : Int → NA} {own : Nat → Option (Int × Nat)} (h : PW w gp bn c S A own) {o : OpV} (hk : o.kind = 1) {dv : Value} (ho : OpAt w own o dv) {m : Int} (hm : w.cell? ⟨0, 0, none⟩ = some (.int .i64 m)) :
    Calls Tryd.prog 12 #[.pointer (some ⟨gp, 0, none⟩), .agg (opV o dv)] w fun e w' => ∃ own' av, e = .returned av ∧ AnsAt w' w.heap.size own' av (S.do1 o fun l => S.make l 1 o.made).2 ∧ Mvd w w' gp bn own (S.do1 o fun l => S.make l 1 o.made).1 own' :=
  do_with h (by omega) (by omega) (by omega) (by omega) ho hm _ fun w1 fv l hmay h1 h2 h3 h4 => does_create h1 hk (may_made hmay) h2 h3 h4
theorem do_mkdir {w : World} {gp bn c : Nat} {S : PS} {A : Int → NA} {own : Nat → Option (Int × Nat)} (h : PW w gp bn c S A own) {o : OpV} (hk : o.kind = 2) {dv : Value} (ho : OpAt w own o dv) {m : Int} (hm : w.cell? ⟨0, 0, none⟩ = some (.int .i64 m)) :
    Calls Tryd.prog 12 #[.pointer (some ⟨gp, 0, none⟩), .agg (opV o dv)] w fun e w' => ∃ own' av, e = .returned av ∧ AnsAt w' w.heap.size own' av (S.do1 o fun l => S.make l 2 o.made).2 ∧ Mvd w w' gp bn own (S.do1 o fun l => S.make l 2 o.made).1 own' :=
  do_with h (by omega) (by omega) (by omega) (by omega) ho hm _ fun w1 fv l hmay h1 h2 h3 h4 => does_mkdir h1 hk (may_made hmay) h2 h3 h4
theorem do_ask7 {w : World} {gp bn c : Nat} {S : PS} {A : Int → NA} {own : Nat → Option (Int × Nat)} (h : PW w gp bn c S A own) {o : OpV} (hk : o.kind = 7) {dv : Value} (ho : OpAt w own o dv) {m : Int} (hm : w.cell? ⟨0, 0, none⟩ = some (.int .i64 m)) :
    Calls Tryd.prog 12 #[.pointer (some ⟨gp, 0, none⟩), .agg (opV o dv)] w fun e w' => ∃ own' av, e = .returned av ∧ AnsAt w' w.heap.size own' av (S.do1 o (S.asked o)).2 ∧ Mvd w w' gp bn own (S.do1 o (S.asked o)).1 own' :=
  do_with h (by omega) (by omega) (by omega) (by omega) ho hm _ fun w1 fv l hmay h1 h2 h3 h4 => does_ask7 h1 hk (may_made hmay) h2 h3 h4
theorem do_ask9 {w : World} {gp bn c : Nat} {S : PS} {A : Int → NA} {own : Nat → Option (Int × Nat)} (h : PW w gp bn c S A own) {o : OpV} (hk : o.kind = 9) {dv : Value} (ho : OpAt w own o dv) {m : Int} (hm : w.cell? ⟨0, 0, none⟩ = some (.int .i64 m)) :
    Calls Tryd.prog 12 #[.pointer (some ⟨gp, 0, none⟩), .agg (opV o dv)] w fun e w' => ∃ own' av, e = .returned av ∧ AnsAt w' w.heap.size own' av (S.do1 o (S.asked o)).2 ∧ Mvd w w' gp bn own (S.do1 o (S.asked o)).1 own' :=
  do_with h (by omega) (by omega) (by omega) (by omega) ho hm _ fun w1 fv l hmay h1 h2 h3 h4 => does_ask9 h1 hk (may_made hmay) h2 h3 h4
theorem do_ask10 {w : World} {gp bn c : Nat} {S : PS} {A : Int → NA} {own : Nat → Option (Int × Nat)} (h : PW w gp bn c S A own) {o : OpV} (hk : o.kind = 10) {dv : Value} (ho : OpAt w own o dv) {m : Int} (hm : w.cell? ⟨0, 0, none⟩ = some (.int .i64 m)) :
    Calls Tryd.prog 12 #[.pointer (some ⟨gp, 0, none⟩), .agg (opV o dv)] w fun e w' => ∃ own' av, e = .returned av ∧ AnsAt w' w.heap.size own' av (S.do1 o (S.asked o)).2 ∧ Mvd w w' gp bn own (S.do1 o (S.asked o)).1 own' :=
  do_with h (by omega) (by omega) (by omega) (by omega) ho hm _ fun w1 fv l hmay h1 h2 h3 h4 => does_ask10 h1 hk (may_made hmay) h2 h3 h4
/-- the operations of the law's own example -/
def kO1 : OpV := ⟨1, ByteArray.mk #[47, 97], ByteArray.mk #[], 0, 0, [], 5, 0⟩
def kO2 : OpV := ⟨7, ByteArray.mk #[47, 97], ByteArray.mk #[], 130, 0, [120, 121, 122], 0, 0⟩
def kO3 : OpV := ⟨9, ByteArray.mk #[47, 97], ByteArray.mk #[], 128, 99, [], 0, 0⟩
def kO4 : OpV := ⟨2, ByteArray.mk #[47, 97, 47, 98], ByteArray.mk #[], 0, 0, [], 0, 0⟩
def kS0 : PS := newS 40 8
def kR1 : PS × Ans := kS0.do1 kO1 fun l => kS0.make l 1 kO1.made
def kR2 : PS × Ans := kR1.1.do1 kO2 (kR1.1.asked kO2)
def kR3 : PS × Ans := kR2.1.do1 kO3 (kR2.1.asked kO3)
def kR4 : PS × Ans := kR3.1.do1 kO4 fun l => kR3.1.make l 2 kO4.made
end Go.Proofs.YteffoihkljkfdaaDoor
