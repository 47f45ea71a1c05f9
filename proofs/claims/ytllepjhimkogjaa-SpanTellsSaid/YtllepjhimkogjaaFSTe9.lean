/- The law's proof, part 9: the text Shr of this session, or words printed for this seat; what the theorem doesn't use is left out. No conditions. -/
import Derived.Test.YtllepjhimkogjaaFSTe7
namespace Go.Proofs.YtllepjhimkogjaaW.PrintLast
end Go.Proofs.YtllepjhimkogjaaW.PrintLast
namespace Go.Proofs.YtllepjhimkogjaaW.PrintMore
end Go.Proofs.YtllepjhimkogjaaW.PrintMore
namespace Go.Proofs.YtllepjhimkogjaaW.PrintWords
end Go.Proofs.YtllepjhimkogjaaW.PrintWords
namespace Go.Proofs.Ytllepjhimkogjaa.Shr
open Go.RowKit Go.Proofs.YtllepjhimkogjaaW.PrintWords Go.Proofs.YtllepjhimkogjaaW.PrintLast Go.Proofs.YtllepjhimkogjaaW.PrintMore
def blL_ : Nat → Nat → List Bool
  | 0, _ => []
  | n + 1, m => (m % 2 == 1) :: blL_ n (m / 2)
def bl_ (n m : Nat) : Array Bool := (blL_ n m).toArray
theorem bc_ {w w' : World} {p : Addr} {v : Value} (hb : Below w.heap.size w w') (h : w.cell? p = some v) : w'.cell? p = some v := (hb.cell (World.block_lt_of_cell? w _ h)).trans h
theorem sz_ {α : Type} {a b : α} {l : List α} : (a :: l).set 0 b = b :: l := rfl
theorem ss_ {α : Type} {a b : α} {l : List α} {n : Nat} : (a :: l).set (n + 1) b = a :: l.set n b := rfl
theorem sb_ {α : Type} (l : List α) (i : Nat) (a : α) : l.toArray.setIfInBounds i a = (l.set i a).toArray := List.setIfInBounds_toArray l i a
theorem bN_ : type_of% @blk_drewN := @blk_drewN
theorem bD_ : type_of% @blk_drew := @blk_drew
theorem bA_ : type_of% @blk_alloc := @blk_alloc
theorem rA_ : type_of% @Kd.R_alloc := @Kd.R_alloc
theorem rN_ : type_of% @Kd.R_drewN := @Kd.R_drewN
theorem rD_ : type_of% @Kd.R_drew := @Kd.R_drew
theorem lA_ : type_of% @below_alloc := @below_alloc
theorem lN_ : type_of% @pw_below_drewN := @pw_below_drewN
theorem l1_ : type_of% @below_drew1 := @below_drew1
theorem bc1_ : type_of% @blk_cell := @blk_cell
theorem bf1_ : type_of% @blk_frozen := @blk_frozen
theorem ls_ : type_of% @below_step := @below_step
theorem adb_ : type_of% @add_block := @add_block
theorem bb_ : type_of% @blk_below := @blk_below
theorem bz_ : type_of% @below_size := @below_size
end Go.Proofs.Ytllepjhimkogjaa.Shr
