/- Layer 1: ValueReads, ValueBack, ValueOrder, of what is handed over. -/
import Derived.Test.YtnejbilnhebphaaDoorValB
import Derived.Test.YtnejbilnhebphaaDoorValO
namespace Go.Proofs.YtnejbilnhebphaaDoor.Val
open Go.RowKit Go.Proofs.YtnejbilnhebphaaDoorW.PrintWords Go.Proofs.YtnejbilnhebphaaDoor.Str Go.Proofs.YtnejbilnhebphaaDoor.PRef Go.Proofs.YtnejbilnhebphaaDoor.Sl
set_option linter.unusedVariables false
theorem reads_law (s : ByteArray) (hs : s.size ≤ 1048576) : FunV Tryd.prog 6 #[.string s] Vars [] (.bool true) [] := reads_fun s hs
theorem back_law (x : Va) (hx : BVa x) (s : ByteArray) (hs : s.size ≤ 1048576) : FunV Tryd.prog 7 #[.agg #[.int .i64 x.k, .int .i64 x.n, .string x.s], .string s] Vars [] (.bool true) [] := by
  obtain ⟨h0, h1⟩ := wf_i64 hx.2.1
  have hp := print_fun x.k x.n x.s h0 h1
  have hr := read_fun s hs
  have hA : (∃ pa, FunV Tryd.prog 14 #[.agg #[.int .i64 x.k, .int .i64 x.n, .string x.s]] Vars [] (.tuple #[.string pa, .int .i64 0]) [] ∧ FunV Tryd.prog 16 #[.string pa] Vars [] (.tuple #[.agg #[.int .i64 x.k, .int .i64 x.n, .string x.s], .int .i64 0]) []) ∨
      FunV Tryd.prog 14 #[.agg #[.int .i64 x.k, .int .i64 x.n, .string x.s]] Vars [] (.tuple #[.string ⟨#[]⟩, .int .i64 10]) [] := by
    cases hok : okV x.k x.n x.s.toList
    · right
      have he : printV x.k x.n x.s.toList = ([], 10) := by unfold printV; rw [hok]; rfl
      rw [he] at hp
      exact hp
    · left
      obtain ⟨e1, e2, e3⟩ := readV_print x.k x.n x.s.toList h0 h1 hok
      refine ⟨ba (printV x.k x.n x.s.toList).1, ?_, ?_⟩
      · have e4 : (printV x.k x.n x.s.toList).2 = 0 := by rw [e1]
        rw [e4] at hp
        exact hp
      · have h := read_fun (ba (printV x.k x.n x.s.toList).1) (by rw [ba_size]; omega)
        rw [ba_toList, e2] at h
        have e5 : ba (x.k, x.n, x.s.toList, (0 : Int)).2.2.1 = x.s := ba_eq x.s
        rw [e5] at h
        exact h
  rcases readV_inv s.toList with he | ⟨k, n, t, he, hok, hpr, h2, h3⟩
  · rw [he] at hr
    rcases hA with ⟨pa, ha, hb⟩ | ha
    · exact back_ok_no x.k x.n x.s s hs pa ha hb hr
    · exact back_no_no x.k x.n x.s s hs ha hr
  · rw [he] at hr
    have hpc := print_fun k n (ba t) h2 h3
    rw [ba_toList, hpr] at hpc
    have e6 : ba (s.toList, (0 : Int)).1 = s := ba_eq s
    rw [e6] at hpc
    have hck := check_f k n (ba t)
    rw [ba_toList, hok] at hck
    rcases hA with ⟨pa, ha, hb⟩ | ha
    · exact back_ok_ok x.k x.n x.s s hs pa ha hb k n (ba t) hr hpc hck
    · exact back_no_ok x.k x.n x.s s hs ha k n (ba t) hr hpc hck
theorem order_law (x : Va) (hx : BVa x) (y : Va) (hy : BVa y) (z : Va) (hz : BVa z) :
    FunV Tryd.prog 8 #[.agg #[.int .i64 x.k, .int .i64 x.n, .string x.s], .agg #[.int .i64 y.k, .int .i64 y.n, .string y.s], .agg #[.int .i64 z.k, .int .i64 z.n, .string z.s]] Vars [] (.bool true) [] := by
  obtain ⟨ka, na, sa⟩ := x
  obtain ⟨kb, nb, sb⟩ := y
  obtain ⟨kc, nc, sc⟩ := z
  clear hx hy hz
  have hT := cmpV_T ka na sa kb nb sb kc nc sc
  have r1 := cmpV_range ka na sa kb nb sb
  have r2 := cmpV_range kb nb sb kc nc sc
  have r3 := cmpV_range ka na sa kc nc sc
  have hsw := cmpV_swap ka na sa kb nb sb
  have hz := cmpV_zero ka na sa kb nb sb
  unfold T3 at hT
  by_cases h0 : cmpV ka na sa kb nb sb = 0
  · obtain ⟨rfl, rfl, rfl⟩ := hz.1 h0
    have h3 : cmpV ka na sa kc nc sc = 1 ∨ cmpV ka na sa kc nc sc = 0 ∨ cmpV ka na sa kc nc sc = -1 := by omega
    rcases h3 with h3 | h3 | h3
    · exact order_6 ka na sa kc nc sc h0 h3
    · exact order_7 ka na sa kc nc sc h0 h3
    · exact order_8 ka na sa kc nc sc h0 h3
  · clear hz
    by_cases h1 : cmpV ka na sa kb nb sb = 1
    · by_cases h2 : cmpV kb nb sb kc nc sc = -1
      · exact order_0 ka na sa kb nb sb kc nc sc h1 h2 _ rfl (by omega)
      · by_cases h4 : cmpV kb nb sb kc nc sc = 0
        · exact order_1 ka na sa kb nb sb kc nc sc h1 h4 (by omega) (by omega)
        · exact order_2 ka na sa kb nb sb kc nc sc h1 (by omega) (by omega) (by omega)
    · have h1' : cmpV ka na sa kb nb sb = -1 := by omega
      by_cases h2 : cmpV kb nb sb kc nc sc = 1
      · exact order_3 ka na sa kb nb sb kc nc sc h1' h2 _ rfl (by omega)
      · by_cases h4 : cmpV kb nb sb kc nc sc = 0
        · exact order_4 ka na sa kb nb sb kc nc sc h1' h4 (by omega) (by omega)
        · exact order_5 ka na sa kb nb sb kc nc sc h1' (by omega) (by omega) (by omega)
end Go.Proofs.YtnejbilnhebphaaDoor.Val
