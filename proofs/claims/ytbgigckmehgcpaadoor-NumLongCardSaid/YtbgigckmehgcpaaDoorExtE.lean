/- The law's examples: they hold. -/
import Derived.Test.YtbgigckmehgcpaaDoorExtD
import Derived.KernelRfl
namespace Go.Proofs.YtbgigckmehgcpaaDoor
open Go.RowKit Go.Proofs.YtbgigckmehgcpaaDoorW.PrintWords Pa
theorem ex1 : num_Parse.f ⟨#[49, 53, 48, 48]⟩ = some (false, ⟨#[49, 53]⟩, 2, 0) := by kernel_rfl
theorem ex2 : num_Parse.f ⟨#[45, 48, 46, 50, 53, 48]⟩ = some (true, ⟨#[50, 53]⟩, -2, 0) := by kernel_rfl
theorem ex3 : num_Parse.f ⟨#[48, 101, 57]⟩ = some (false, ⟨#[]⟩, 0, 0) := by kernel_rfl
theorem ex4 : num_Parse.f ⟨#[48, 49]⟩ = some (false, ⟨#[]⟩, 0, 11) := by kernel_rfl
theorem ex5 : num_Text.f false ⟨#[49, 53]⟩ 2 = some ⟨#[49, 53, 101, 50]⟩ := by kernel_rfl
theorem ex6 : num_Text.f true ⟨#[50, 53]⟩ (-2) = some ⟨#[45, 50, 53, 101, 45, 50]⟩ := by kernel_rfl
theorem ex7 : num_Text.f false ⟨#[]⟩ 0 = some ⟨#[48]⟩ := by kernel_rfl
theorem ex8 : num_Compare.f 20 true ⟨#[50, 53]⟩ (-2) false ⟨#[49, 53]⟩ 2 = some (-1) := by kernel_rfl
def rubricatorlaw14_awake.f : Option Bool := some true
set_option maxRecDepth 100000 in
set_option maxHeartbeats 2000000 in
theorem rubricatorlaw14_awake.calls (r : Bool) (w : World) (hT : Tabs w) (h : rubricatorlaw14_awake.f = some r) :
    Calls Tryd.prog 10 #[] w fun e w' => e = .returned (.bool r) ∧ Below w.heap.size w w' := by
  obtain rfl := Option.some.inj h
  clear h
  have HT := Lib.hid hT
  clear hT
  go_enter Tryd.func10, Tryd.ntmps10
  go_wp2_with fail
  refine (num_Parse.calls _ _ _ _ _ _ ex1).mono ?_
  rintro e w1 ⟨rfl, h1⟩
  have B1 := Lib.hid h1
  clear h1
  go_wp2_with fail
  have M1_ := Lib.hid (blk_new w1 (Obj.cells #[Value.bool false, Value.string ⟨#[49, 53]⟩, Value.int IntKind.i64 2] 24))
  have C1 := Lib.hid (below_alloc B1.out (Obj.cells #[Value.bool false, Value.string ⟨#[49, 53]⟩, Value.int IntKind.i64 2] 24))
  clear B1
  obtain ⟨g1, hg1⟩ : ∃ g, g = w1.heap.size := ⟨_, rfl⟩
  rw [← hg1] at M1_ ⊢
  clear hg1
  generalize World.alloc w1 _ = v1 at M1_ C1 ⊢
  go_wp2_with fail
  refine (num_Parse.calls _ _ _ _ _ _ ex2).mono ?_
  rintro e w2 ⟨rfl, h1⟩
  have M1 := Lib.hid (blk_below M1_.out h1)
  clear M1_
  have B2 := Lib.hid (below_step C1.out h1)
  clear h1 C1
  go_wp2_with fail
  have M1_ := Lib.hid (blk_alloc M1.out (Obj.cells #[Value.bool true, Value.string ⟨#[50, 53]⟩, Value.int IntKind.i64 (-2)] 24))
  clear M1
  have M2_ := Lib.hid (blk_new w2 (Obj.cells #[Value.bool true, Value.string ⟨#[50, 53]⟩, Value.int IntKind.i64 (-2)] 24))
  have C2 := Lib.hid (below_alloc B2.out (Obj.cells #[Value.bool true, Value.string ⟨#[50, 53]⟩, Value.int IntKind.i64 (-2)] 24))
  clear B2
  obtain ⟨g2, hg2⟩ : ∃ g, g = w2.heap.size := ⟨_, rfl⟩
  rw [← hg2] at M2_ ⊢
  clear hg2
  generalize World.alloc w2 _ = v2 at M1_ M2_ C2 ⊢
  go_wp2_with fail
  refine (num_Parse.calls _ _ _ _ _ _ ex3).mono ?_
  rintro e w3 ⟨rfl, h1⟩
  have M1 := Lib.hid (blk_below M1_.out h1)
  clear M1_
  have M2 := Lib.hid (blk_below M2_.out h1)
  clear M2_
  have B3 := Lib.hid (below_step C2.out h1)
  clear h1 C2
  go_wp2_with fail
  have M1_ := Lib.hid (blk_alloc M1.out (Obj.cells #[Value.bool false, Value.string ⟨#[]⟩, Value.int IntKind.i64 0] 24))
  clear M1
  have M2_ := Lib.hid (blk_alloc M2.out (Obj.cells #[Value.bool false, Value.string ⟨#[]⟩, Value.int IntKind.i64 0] 24))
  clear M2
  have M3_ := Lib.hid (blk_new w3 (Obj.cells #[Value.bool false, Value.string ⟨#[]⟩, Value.int IntKind.i64 0] 24))
  have C3 := Lib.hid (below_alloc B3.out (Obj.cells #[Value.bool false, Value.string ⟨#[]⟩, Value.int IntKind.i64 0] 24))
  clear B3
  obtain ⟨g3, hg3⟩ : ∃ g, g = w3.heap.size := ⟨_, rfl⟩
  rw [← hg3] at M3_ ⊢
  clear hg3
  generalize World.alloc w3 _ = v3 at M1_ M2_ M3_ C3 ⊢
  go_wp2_with fail
  refine (num_Parse.calls _ _ _ _ _ _ ex4).mono ?_
  rintro e w4 ⟨rfl, h1⟩
  have M1 := Lib.hid (blk_below M1_.out h1)
  clear M1_
  have M2 := Lib.hid (blk_below M2_.out h1)
  clear M2_
  have M3 := Lib.hid (blk_below M3_.out h1)
  clear M3_
  have B4 := Lib.hid (below_step C3.out h1)
  clear h1 C3
  go_upto_region 5 with (fail)
  have M1_ := Lib.hid (blk_alloc M1.out (Obj.cells #[Value.bool false, Value.string ⟨#[]⟩, Value.int IntKind.i64 0] 24))
  clear M1
  have M2_ := Lib.hid (blk_alloc M2.out (Obj.cells #[Value.bool false, Value.string ⟨#[]⟩, Value.int IntKind.i64 0] 24))
  clear M2
  have M3_ := Lib.hid (blk_alloc M3.out (Obj.cells #[Value.bool false, Value.string ⟨#[]⟩, Value.int IntKind.i64 0] 24))
  clear M3
  have M4_ := Lib.hid (blk_new w4 (Obj.cells #[Value.bool false, Value.string ⟨#[]⟩, Value.int IntKind.i64 0] 24))
  have C4 := Lib.hid (below_alloc B4.out (Obj.cells #[Value.bool false, Value.string ⟨#[]⟩, Value.int IntKind.i64 0] 24))
  clear B4
  obtain ⟨g4, hg4⟩ : ∃ g, g = w4.heap.size := ⟨_, rfl⟩
  rw [← hg4] at M4_ ⊢
  clear hg4
  generalize World.alloc w4 _ = v4 at M1_ M2_ M3_ M4_ C4 ⊢
  have q10 := blk_cell M1_.out 0
  have q11 := blk_cell M1_.out 1
  have q12 := blk_cell M1_.out 2
  have q20 := blk_cell M2_.out 0
  have q21 := blk_cell M2_.out 1
  have q22 := blk_cell M2_.out 2
  have q30 := blk_cell M3_.out 0
  have q31 := blk_cell M3_.out 1
  have q32 := blk_cell M3_.out 2
  simp at q10 q11 q12 q20 q21 q22 q30 q31 q32
  go_wp2_with fail
  refine (num_Text.calls _ _ _ _ _ (Tabs.below HT.out C4.out) ex5).mono ?_
  rintro e u1 ⟨rfl, h1⟩
  clear q10 q11 q12 q20 q21 q22 q30 q31 q32
  have N1 := Lib.hid (blk_below M1_.out h1)
  clear M1_
  have M1_ := N1
  clear N1
  have N2 := Lib.hid (blk_below M2_.out h1)
  clear M2_
  have M2_ := N2
  clear N2
  have N3 := Lib.hid (blk_below M3_.out h1)
  clear M3_
  have M3_ := N3
  clear N3
  have C5 := Lib.hid (below_step C4.out h1)
  clear h1 C4
  have C4 := C5
  clear C5
  have q10 := blk_cell M1_.out 0
  have q11 := blk_cell M1_.out 1
  have q12 := blk_cell M1_.out 2
  have q20 := blk_cell M2_.out 0
  have q21 := blk_cell M2_.out 1
  have q22 := blk_cell M2_.out 2
  have q30 := blk_cell M3_.out 0
  have q31 := blk_cell M3_.out 1
  have q32 := blk_cell M3_.out 2
  simp at q10 q11 q12 q20 q21 q22 q30 q31 q32
  go_wp2_with fail
  refine (num_Text.calls _ _ _ _ _ (Tabs.below HT.out C4.out) ex6).mono ?_
  rintro e u2 ⟨rfl, h1⟩
  clear q10 q11 q12 q20 q21 q22 q30 q31 q32
  have N1 := Lib.hid (blk_below M1_.out h1)
  clear M1_
  have M1_ := N1
  clear N1
  have N2 := Lib.hid (blk_below M2_.out h1)
  clear M2_
  have M2_ := N2
  clear N2
  have N3 := Lib.hid (blk_below M3_.out h1)
  clear M3_
  have M3_ := N3
  clear N3
  have C5 := Lib.hid (below_step C4.out h1)
  clear h1 C4
  have C4 := C5
  clear C5
  have q10 := blk_cell M1_.out 0
  have q11 := blk_cell M1_.out 1
  have q12 := blk_cell M1_.out 2
  have q20 := blk_cell M2_.out 0
  have q21 := blk_cell M2_.out 1
  have q22 := blk_cell M2_.out 2
  have q30 := blk_cell M3_.out 0
  have q31 := blk_cell M3_.out 1
  have q32 := blk_cell M3_.out 2
  simp at q10 q11 q12 q20 q21 q22 q30 q31 q32
  go_wp2_with fail
  refine (num_Text.calls _ _ _ _ _ (Tabs.below HT.out C4.out) ex7).mono ?_
  rintro e u3 ⟨rfl, h1⟩
  clear q10 q11 q12 q20 q21 q22 q30 q31 q32
  have N1 := Lib.hid (blk_below M1_.out h1)
  clear M1_
  have M1_ := N1
  clear N1
  have N2 := Lib.hid (blk_below M2_.out h1)
  clear M2_
  have M2_ := N2
  clear N2
  have N3 := Lib.hid (blk_below M3_.out h1)
  clear M3_
  have M3_ := N3
  clear N3
  have C5 := Lib.hid (below_step C4.out h1)
  clear h1 C4
  have C4 := C5
  clear C5
  have q10 := blk_cell M1_.out 0
  have q11 := blk_cell M1_.out 1
  have q12 := blk_cell M1_.out 2
  have q20 := blk_cell M2_.out 0
  have q21 := blk_cell M2_.out 1
  have q22 := blk_cell M2_.out 2
  have q30 := blk_cell M3_.out 0
  have q31 := blk_cell M3_.out 1
  have q32 := blk_cell M3_.out 2
  simp at q10 q11 q12 q20 q21 q22 q30 q31 q32
  go_wp2_with fail
  refine (num_Compare.calls _ _ _ _ _ _ _ _ _ ex8).mono ?_
  rintro e u4 ⟨rfl, h1⟩
  clear q10 q11 q12 q20 q21 q22 q30 q31 q32
  go_wp2
  go_ret
  exact ⟨rfl, below_step C4.out h1⟩
end Go.Proofs.YtbgigckmehgcpaaDoor
