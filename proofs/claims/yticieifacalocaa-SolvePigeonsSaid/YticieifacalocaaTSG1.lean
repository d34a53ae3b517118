/- ALI -/
import Derived.Below
import Derived.Deep.Draws
import Derived.Deep.QuietTactic
import Derived.Deep.RegionHeld
import Derived.IntWalk
import Derived.JoinedCond
import Derived.Laws.AppendOwn
import Derived.Laws.BitsLemmas
import Derived.Laws.CopyOwn
import Derived.Laws.Entries
import Derived.Laws.OwnMore
import Derived.Laws.Sem
import Derived.Laws.Tables
import Derived.Laws.World
import Derived.Maps.AppendAt
import Derived.Orders
import Derived.OrdersHeld
import Derived.OwnWalk
import Derived.RegionTactic
import Derived.Stop.Joined
import Derived.Tactics
namespace Go.Proofs.Yticieifacalocaa
theorem zA:type_of% @List.getElem?_toArray:=@List.getElem?_toArray
theorem zB:type_of% @List.getElem?_cons_zero:=@List.getElem?_cons_zero
theorem zC:type_of% @List.getElem?_cons_succ:=@List.getElem?_cons_succ
theorem zD:type_of% @List.setIfInBounds_toArray:=@List.setIfInBounds_toArray
theorem zE:type_of% @List.set_cons_zero:=@List.set_cons_zero
theorem zF:type_of% @List.set_cons_succ:=@List.set_cons_succ
theorem zG:type_of% @List.getElem?_eq_some_iff:=@List.getElem?_eq_some_iff
theorem zH:type_of% @List.length_append:=@List.length_append
theorem zI:type_of% @List.mem_singleton:=@List.mem_singleton
theorem zJ:type_of% @Go.wpAnyH_take:=@Go.wpAnyH_take
theorem zK:type_of% @List.getElem?_append_right:=@List.getElem?_append_right
theorem zL:type_of% @List.mem_append:=@List.mem_append
theorem zM:type_of% @Go.AllReadyH.cons:=@Go.AllReadyH.cons
theorem zN:type_of% @Go.RowKit.Below.refl:=@Go.RowKit.Below.refl
theorem zO:type_of% @List.mem_of_mem_take:=@List.mem_of_mem_take
theorem zP:type_of% @Nat.zero_le:=@Nat.zero_le
theorem zQ:type_of% @List.getElem?_append_left:=@List.getElem?_append_left
theorem zR:type_of% @Go.AllReadyH.nil:=@Go.AllReadyH.nil
theorem zS:type_of% @Go.wpAnyH_ready:=@Go.wpAnyH_ready
theorem zT:type_of% @List.drop_eq_getElem_cons:=@List.drop_eq_getElem_cons
theorem zU:type_of% @List.take_of_length_le:=@List.take_of_length_le
theorem zV:type_of% @List.mem_cons:=@List.mem_cons
theorem zW:type_of% @Go.wpList_append_own_at:=@Go.wpList_append_own_at
theorem zX:type_of% @Nat.lt_of_lt_of_le:=@Nat.lt_of_lt_of_le
theorem zY:type_of% @List.take_append_of_le_length:=@List.take_append_of_le_length
theorem zZ:type_of% @List.append_assoc:=@List.append_assoc
theorem qA:type_of% @List.length_set:=@List.length_set
theorem qB:type_of% @Nat.le_trans:=@Nat.le_trans
theorem qC:type_of% @Go.info_parts:=@Go.info_parts
theorem qD:type_of% @List.map_cons:=@List.map_cons
theorem qE:type_of% @Classical.byContradiction:=@Classical.byContradiction
theorem qF:type_of% @List.nodup_append:=@List.nodup_append
theorem qG:type_of% @Go.World.ownsRow_nil:=@Go.World.ownsRow_nil
theorem qH:type_of% @decide_eq_true_eq:=@decide_eq_true_eq
theorem qI:type_of% @List.all_eq_true:=@List.all_eq_true
theorem qJ:type_of% @List.length_cons:=@List.length_cons
theorem qK:type_of% @List.pairwise_iff_getElem:=@List.pairwise_iff_getElem
theorem qL:type_of% @List.length_take:=@List.length_take
theorem qM:type_of% @List.mem_append_left:=@List.mem_append_left
theorem qN:type_of% @List.length_singleton:=@List.length_singleton
theorem qO:type_of% @Option.map_eq_some_iff:=@Option.map_eq_some_iff
theorem qP:type_of% @Go.IntKind.wrap_i64:=@Go.IntKind.wrap_i64
theorem qQ:type_of% @List.length_drop:=@List.length_drop
theorem qR:type_of% @List.cons_append:=@List.cons_append
theorem qS:type_of% @List.eq_nil_of_length_eq_zero:=@List.eq_nil_of_length_eq_zero
theorem qT:type_of% @List.getElem?_of_mem:=@List.getElem?_of_mem
theorem qU:type_of% @List.foldlM_cons:=@List.foldlM_cons
theorem qV:type_of% @List.drop_eq_nil_of_le:=@List.drop_eq_nil_of_le
theorem qW:type_of% @Nat.mul_one:=@Nat.mul_one
theorem qX:type_of% @List.getElem?_take:=@List.getElem?_take
theorem qY:type_of% @Nat.zero_add:=@Nat.zero_add
theorem qZ:type_of% @List.getElem_of_mem:=@List.getElem_of_mem
theorem yA:type_of% @List.take_length:=@List.take_length
theorem yC:type_of% @Go.wpOp_step:=@Go.wpOp_step
theorem yD:type_of% @List.replicate_succ:=@List.replicate_succ
theorem yE:type_of% @Go.wp_region_held_drew:=@Go.wp_region_held_drew
theorem yF:type_of% @Nat.min_eq_left:=@Nat.min_eq_left
theorem yG:type_of% @Go.IntWalk.i64_in:=@Go.IntWalk.i64_in
theorem yH:type_of% @Option.bind_eq_some_iff:=@Option.bind_eq_some_iff
theorem yI:type_of% @Int.neg_neg:=@Int.neg_neg
theorem yJ:type_of% @List.getElem?_drop:=@List.getElem?_drop
theorem yK:type_of% @Int.le_refl:=@Int.le_refl
theorem yM:type_of% @List.length_filter_le:=@List.length_filter_le
theorem yO:type_of% @List.pairwise_map:=@List.pairwise_map
theorem yP:type_of% @Array.getElem?_eq_some_iff:=@Array.getElem?_eq_some_iff
theorem yQ:type_of% @Go.World.cell?_of_block:=@Go.World.cell?_of_block
theorem yR:type_of% @Go.wpAnyH_done:=@Go.wpAnyH_done
theorem yS:type_of% @List.append_nil:=@List.append_nil
theorem yU:type_of% @List.mem_filter:=@List.mem_filter
theorem yV:type_of% @List.nodup_cons:=@List.nodup_cons
theorem yW:type_of% @List.pairwise_cons:=@List.pairwise_cons
theorem yX:type_of% @Bool.and_eq_true:=@Bool.and_eq_true
theorem yY:type_of% @List.getElem_mem:=@List.getElem_mem
theorem yZ:type_of% @Int.tmod_eq_emod_of_nonneg:=@Int.tmod_eq_emod_of_nonneg
theorem xA:type_of% @List.take_take:=@List.take_take
theorem xB:type_of% @Go.wpList_append_own:=@Go.wpList_append_own
theorem xC:type_of% @List.length_nil:=@List.length_nil
theorem xD:type_of% @List.mem_or_eq_of_mem_set:=@List.mem_or_eq_of_mem_set
theorem xE:type_of% @List.filterMap_append:=@List.filterMap_append
theorem xF:type_of% @List.getElem!_eq_getElem?_getD:=@List.getElem!_eq_getElem?_getD
theorem xG:type_of% @Nat.le_of_lt:=@Nat.le_of_lt
theorem xH:type_of% @List.take_left:=@List.take_left
theorem xI:type_of% @List.take_add_one:=@List.take_add_one
theorem xJ:type_of% @Nat.lt_trichotomy:=@Nat.lt_trichotomy
theorem xK:type_of% @List.foldl_cons:=@List.foldl_cons
theorem xL:type_of% @Go.World.size_alloc:=@Go.World.size_alloc
theorem xM:type_of% @List.foldl_nil:=@List.foldl_nil
theorem xN:type_of% @List.mem_filterMap:=@List.mem_filterMap
theorem xO:type_of% @List.take_append_drop:=@List.take_append_drop
theorem xP:type_of% @List.getElem?_eq_none_iff:=@List.getElem?_eq_none_iff
theorem xQ:type_of% @List.nil_append:=@List.nil_append
theorem xR:type_of% @List.take_succ_eq_append_getElem:=@List.take_succ_eq_append_getElem
theorem xS:type_of% @Nat.lt_or_ge:=@Nat.lt_or_ge
theorem xT:type_of% @Nat.sub_self:=@Nat.sub_self
theorem xU:type_of% @of_decide_eq_true:=@of_decide_eq_true
theorem xV:type_of% @List.Pairwise.imp_of_mem:=@List.Pairwise.imp_of_mem
theorem xW:type_of% @Int.toNat_of_nonneg:=@Int.toNat_of_nonneg
theorem xX:type_of% @List.filter_eq_self:=@List.filter_eq_self
theorem xY:type_of% @List.any_eq_true:=@List.any_eq_true
theorem xZ:type_of% @List.eq_nil_iff_forall_not_mem:=@List.eq_nil_iff_forall_not_mem
theorem kA:type_of% @List.not_mem_nil:=@List.not_mem_nil
theorem kB:type_of% @Option.getD_some:=@Option.getD_some
theorem kC:type_of% @Go.wpList_store_row:=@Go.wpList_store_row
theorem kD:type_of% @Int.mul_add:=@Int.mul_add
theorem kE:type_of% @Int.mul_le_mul_of_nonneg_left:=@Int.mul_le_mul_of_nonneg_left
theorem kF:type_of% @Bool.false_eq_true:=@Bool.false_eq_true
theorem kG:type_of% @List.filter_eq_nil_iff:=@List.filter_eq_nil_iff
theorem kH:type_of% @List.map_nil:=@List.map_nil
theorem kI:type_of% @Option.map_some:=@Option.map_some
theorem kJ:type_of% @List.set_append_right:=@List.set_append_right
theorem kK:type_of% @List.flatMap_cons:=@List.flatMap_cons
theorem kL:type_of% @List.getElem?_set:=@List.getElem?_set
theorem kM:type_of% @List.take_sublist:=@List.take_sublist
theorem kN:type_of% @Go.Result.andThen_ok:=@Go.Result.andThen_ok
theorem kO:type_of% @Go.World.drewN_drewN:=@Go.World.drewN_drewN
theorem kP:type_of% @Int.tdiv_eq_ediv_of_nonneg:=@Int.tdiv_eq_ediv_of_nonneg
theorem kQ:type_of% @List.pairwise_append:=@List.pairwise_append
theorem kR:type_of% @Nat.mul_le_mul_right:=@Nat.mul_le_mul_right
theorem kS:type_of% @List.countP_cons:=@List.countP_cons
theorem kT:type_of% @List.drop_length:=@List.drop_length
theorem kU:type_of% @Nat.add_zero:=@Nat.add_zero
theorem kV:type_of% @List.Sublist.eq_of_length:=@List.Sublist.eq_of_length
theorem kW:type_of% @List.length_take_le:=@List.length_take_le
theorem kX:type_of% @List.sum_cons:=@List.sum_cons
theorem kY:type_of% @Option.isSome_none:=@Option.isSome_none
theorem kZ:type_of% @Option.isSome_some:=@Option.isSome_some
theorem vA:type_of% @Go.toList_madeCells_one:=@Go.toList_madeCells_one
theorem vB:type_of% @List.length_eq_zero_iff:=@List.length_eq_zero_iff
theorem vC:type_of% @Go.setRow_heap:=@Go.setRow_heap
theorem vD:type_of% @Bool.not_eq_true':=@Bool.not_eq_true'
theorem vE:type_of% @Int.le_trans:=@Int.le_trans
theorem vF:type_of% @List.getElem?_set_self:=@List.getElem?_set_self
theorem vG:type_of% @Go.bodyPost_ret:=@Go.bodyPost_ret
theorem vH:type_of% @Go.setRow_other:=@Go.setRow_other
theorem vJ:type_of% @Int.mul_le_mul_of_nonneg_right:=@Int.mul_le_mul_of_nonneg_right
theorem vK:type_of% @List.map_toArray:=@List.map_toArray
theorem vL:type_of% @Nat.mod_eq_of_lt:=@Nat.mod_eq_of_lt
theorem vM:type_of% @decide_eq_decide:=@decide_eq_decide
theorem vN:type_of% @List.drop_append_of_le_length:=@List.drop_append_of_le_length
theorem vO:type_of% @List.getElem?_set_ne:=@List.getElem?_set_ne
theorem vP:type_of% @Go.Calls.quiet_of_same:=@Go.Calls.quiet_of_same
theorem vQ:type_of% @List.filter_sublist:=@List.filter_sublist
theorem vR:type_of% @List.flatMap_append:=@List.flatMap_append
theorem vS:type_of% @List.getElem?_range:=@List.getElem?_range
theorem vT:type_of% @List.map_map:=@List.map_map
theorem vU:type_of% @Nat.succ_mul:=@Nat.succ_mul
theorem vV:type_of% @Go.Sem.run_bind:=@Go.Sem.run_bind
theorem vW:type_of% @Go.Sem.run_pure:=@Go.Sem.run_pure
theorem vX:type_of% @Array.toList_setIfInBounds:=@Array.toList_setIfInBounds
theorem vY:type_of% @Int.lt_or_gt_of_ne:=@Int.lt_or_gt_of_ne
theorem vZ:type_of% @Int.tmod_lt_of_pos:=@Int.tmod_lt_of_pos
theorem uA:type_of% @List.Perm.refl:=@List.Perm.refl
theorem uB:type_of% @List.mem_range:=@List.mem_range
theorem uC:type_of% @List.take_zero:=@List.take_zero
theorem uD:type_of% @Nat.lt_of_le_of_lt:=@Nat.lt_of_le_of_lt
theorem uE:type_of% @List.all_eq_false:=@List.all_eq_false
theorem uF:type_of% @List.getElem?_take_of_lt:=@List.getElem?_take_of_lt
theorem uG:type_of% @List.length_filterMap_le:=@List.length_filterMap_le
theorem uH:type_of% @Array.toList_inj:=@Array.toList_inj
theorem uI:type_of% @List.getLast_eq_getElem:=@List.getLast_eq_getElem
theorem uJ:type_of% @Go.OpenClaim.holds_of_cond:=@Go.OpenClaim.holds_of_cond
theorem uK:type_of% @Go.OpenClaim.pre_eq_preRow:=@Go.OpenClaim.pre_eq_preRow
theorem uL:type_of% @Go.OpenSpec.preRow_of_cond:=@Go.OpenSpec.preRow_of_cond
theorem uM:type_of% @Go.World.block_lt_of_cell?:=@Go.World.block_lt_of_cell?
theorem uN:type_of% @Go.mem_ready:=@Go.mem_ready
theorem uP:type_of% @Nat.zero_mul:=@Nat.zero_mul
theorem uQ:type_of% @Go.below_setRow:=@Go.below_setRow
theorem uR:type_of% @Go.wpList_plain:=@Go.wpList_plain
theorem uS:type_of% @Int.natCast_add:=@Int.natCast_add
theorem uT:type_of% @Int.tmod_nonneg:=@Int.tmod_nonneg
theorem uU:type_of% @List.mem_range':=@List.mem_range'
theorem uV:type_of% @List.set_append:=@List.set_append
theorem uW:type_of% @Array.getElem?_toList:=@Array.getElem?_toList
theorem uX:type_of% @Bool.and_eq_false_iff:=@Bool.and_eq_false_iff
theorem uY:type_of% @List.countP_le_length:=@List.countP_le_length
theorem uZ:type_of% @List.getElem?_reverse:=@List.getElem?_reverse
theorem jA:type_of% @Int.neg_le_neg:=@Int.neg_le_neg
theorem jB:type_of% @List.dropLast_concat:=@List.dropLast_concat
theorem jC:type_of% @List.getElem?_append:=@List.getElem?_append
theorem jD:type_of% @List.mem_cons_of_mem:=@List.mem_cons_of_mem
theorem jE:type_of% @List.mem_of_mem_drop:=@List.mem_of_mem_drop
theorem jG:type_of% @Nat.pow_le_pow_right:=@Nat.pow_le_pow_right
theorem jH:type_of% @not_or:=@not_or
theorem jI:type_of% @or_false:=@or_false
theorem jJ:type_of% @Ne.symm:=@Ne.symm
theorem jK:type_of% @if_true:=@if_true
theorem jL:type_of% @List.countP_eq_zero:=@List.countP_eq_zero
theorem jM:type_of% @List.length_pos_iff:=@List.length_pos_iff
theorem jN:type_of% @List.mergeSort_perm:=@List.mergeSort_perm
theorem jO:type_of% @List.perm_singleton:=@List.perm_singleton
theorem jP:type_of% @Nat.add_assoc:=@Nat.add_assoc
theorem jQ:type_of% @Go.Addr.add_lit:=@Go.Addr.add_lit
theorem jR:type_of% @Iff.rfl:=@Iff.rfl
theorem jS:type_of% @Nat.mod_self:=@Nat.mod_self
theorem jT:type_of% @Go.RowKit.Below.trans:=@Go.RowKit.Below.trans
theorem jU:type_of% @Int.mul_one:=@Int.mul_one
theorem jV:type_of% @Nat.add_mul:=@Nat.add_mul
theorem jW:type_of% @Nat.le_zero:=@Nat.le_zero
theorem jX:type_of% @Nat.pow_pos:=@Nat.pow_pos
theorem jY:type_of% @if_false:=@if_false
end Go.Proofs.Yticieifacalocaa
