/- ALI -/
import Derived.Below
import Derived.ChangeArms
import Derived.Deep.Draws
import Derived.Deep.QuietTactic
import Derived.Deep.RegionHeld
import Derived.IntWalk
import Derived.Laws.AppendOwn
import Derived.Laws.BitsLemmas
import Derived.Laws.CopyOwn
import Derived.Laws.Entries
import Derived.Laws.OwnMore
import Derived.Laws.Sem
import Derived.Laws.Tables
import Derived.Laws.World
import Derived.Maps.AppendAt
import Derived.Orders
import Derived.OrdersHeld
import Derived.OwnWalk
import Derived.RegionTactic
import Derived.Tactics
namespace Go.Proofs.Yticieifacalocaa
theorem zA:type_of% @List.getElem?_toArray:=@List.getElem?_toArray
theorem zB:type_of% @List.getElem?_cons_zero:=@List.getElem?_cons_zero
theorem zC:type_of% @List.getElem?_cons_succ:=@List.getElem?_cons_succ
theorem zD:type_of% @List.setIfInBounds_toArray:=@List.setIfInBounds_toArray
theorem zE:type_of% @List.set_cons_zero:=@List.set_cons_zero
theorem zF:type_of% @List.set_cons_succ:=@List.set_cons_succ
theorem zG:type_of% @List.getElem?_eq_some_iff:=@List.getElem?_eq_some_iff
theorem zH:type_of% @List.mem_singleton:=@List.mem_singleton
theorem zI:type_of% @Go.wpAnyH_take:=@Go.wpAnyH_take
theorem zJ:type_of% @List.length_append:=@List.length_append
theorem zK:type_of% @List.mem_append:=@List.mem_append
theorem zL:type_of% @List.getElem?_append_right:=@List.getElem?_append_right
theorem zM:type_of% @Go.AllReadyH.cons:=@Go.AllReadyH.cons
theorem zN:type_of% @List.mem_of_mem_take:=@List.mem_of_mem_take
theorem zO:type_of% @List.getElem?_append_left:=@List.getElem?_append_left
theorem zP:type_of% @Go.AllReadyH.nil:=@Go.AllReadyH.nil
theorem zQ:type_of% @Nat.zero_le:=@Nat.zero_le
theorem zR:type_of% @Go.RowKit.Below.refl:=@Go.RowKit.Below.refl
theorem zS:type_of% @Go.wpAnyH_ready:=@Go.wpAnyH_ready
theorem zT:type_of% @List.drop_eq_getElem_cons:=@List.drop_eq_getElem_cons
theorem zU:type_of% @List.take_of_length_le:=@List.take_of_length_le
theorem zV:type_of% @List.mem_cons:=@List.mem_cons
theorem zW:type_of% @Go.wpList_append_own_at:=@Go.wpList_append_own_at
theorem zX:type_of% @List.length_set:=@List.length_set
theorem zY:type_of% @List.take_append_of_le_length:=@List.take_append_of_le_length
theorem zZ:type_of% @Nat.lt_of_lt_of_le:=@Nat.lt_of_lt_of_le
theorem qA:type_of% @Nat.le_trans:=@Nat.le_trans
theorem qB:type_of% @List.append_assoc:=@List.append_assoc
theorem qC:type_of% @List.map_cons:=@List.map_cons
theorem qD:type_of% @Go.info_parts:=@Go.info_parts
theorem qE:type_of% @Go.World.ownsRow_nil:=@Go.World.ownsRow_nil
theorem qF:type_of% @Classical.byContradiction:=@Classical.byContradiction
theorem qG:type_of% @List.nodup_append:=@List.nodup_append
theorem qH:type_of% @List.all_eq_true:=@List.all_eq_true
theorem qI:type_of% @decide_eq_true_eq:=@decide_eq_true_eq
theorem qJ:type_of% @List.length_cons:=@List.length_cons
theorem qK:type_of% @Int.tmod_eq_emod_of_nonneg:=@Int.tmod_eq_emod_of_nonneg
theorem qL:type_of% @List.getElem_of_mem:=@List.getElem_of_mem
theorem qM:type_of% @List.pairwise_iff_getElem:=@List.pairwise_iff_getElem
theorem qN:type_of% @Go.IntWalk.i64_in:=@Go.IntWalk.i64_in
theorem qO:type_of% @List.length_take:=@List.length_take
theorem qP:type_of% @List.mem_append_left:=@List.mem_append_left
theorem qQ:type_of% @List.length_singleton:=@List.length_singleton
theorem qR:type_of% @Option.map_eq_some_iff:=@Option.map_eq_some_iff
theorem qS:type_of% @Go.IntKind.wrap_i64:=@Go.IntKind.wrap_i64
theorem qT:type_of% @List.cons_append:=@List.cons_append
theorem qU:type_of% @List.eq_nil_of_length_eq_zero:=@List.eq_nil_of_length_eq_zero
theorem qV:type_of% @List.getElem?_of_mem:=@List.getElem?_of_mem
theorem qW:type_of% @List.foldlM_cons:=@List.foldlM_cons
theorem qX:type_of% @List.getElem?_take:=@List.getElem?_take
theorem qY:type_of% @List.drop_eq_nil_of_le:=@List.drop_eq_nil_of_le
theorem qZ:type_of% @Nat.zero_add:=@Nat.zero_add
theorem yA:type_of% @Nat.mul_one:=@Nat.mul_one
theorem yC:type_of% @List.take_length:=@List.take_length
theorem yD:type_of% @Go.wpOp_step:=@Go.wpOp_step
theorem yE:type_of% @List.replicate_succ:=@List.replicate_succ
theorem yF:type_of% @Go.wp_region_held_drew:=@Go.wp_region_held_drew
theorem yG:type_of% @Nat.min_eq_left:=@Nat.min_eq_left
theorem yH:type_of% @List.length_drop:=@List.length_drop
theorem yI:type_of% @Option.bind_eq_some_iff:=@Option.bind_eq_some_iff
theorem yJ:type_of% @Int.neg_neg:=@Int.neg_neg
theorem yK:type_of% @Go.World.cell?_of_block:=@Go.World.cell?_of_block
theorem yM:type_of% @Int.le_refl:=@Int.le_refl
theorem yO:type_of% @List.pairwise_map:=@List.pairwise_map
theorem yP:type_of% @Array.getElem?_eq_some_iff:=@Array.getElem?_eq_some_iff
theorem yQ:type_of% @List.getElem?_set_ne:=@List.getElem?_set_ne
theorem yR:type_of% @Go.wpAnyH_done:=@Go.wpAnyH_done
theorem yS:type_of% @List.mem_filter:=@List.mem_filter
theorem yU:type_of% @List.nodup_cons:=@List.nodup_cons
theorem yV:type_of% @List.append_nil:=@List.append_nil
theorem yW:type_of% @List.getElem?_drop:=@List.getElem?_drop
theorem yX:type_of% @List.pairwise_cons:=@List.pairwise_cons
theorem yY:type_of% @List.take_take:=@List.take_take
theorem yZ:type_of% @Go.wpList_append_own:=@Go.wpList_append_own
theorem xA:type_of% @List.length_nil:=@List.length_nil
theorem xB:type_of% @List.mem_or_eq_of_mem_set:=@List.mem_or_eq_of_mem_set
theorem xC:type_of% @List.filterMap_append:=@List.filterMap_append
theorem xD:type_of% @List.length_filter_le:=@List.length_filter_le
theorem xE:type_of% @Bool.and_eq_true:=@Bool.and_eq_true
theorem xF:type_of% @List.getElem!_eq_getElem?_getD:=@List.getElem!_eq_getElem?_getD
theorem xG:type_of% @List.getElem_mem:=@List.getElem_mem
theorem xH:type_of% @List.take_left:=@List.take_left
theorem xI:type_of% @List.take_add_one:=@List.take_add_one
theorem xJ:type_of% @Nat.lt_trichotomy:=@Nat.lt_trichotomy
theorem xK:type_of% @List.foldl_cons:=@List.foldl_cons
theorem xL:type_of% @List.nil_append:=@List.nil_append
theorem xM:type_of% @List.getElem?_set_self:=@List.getElem?_set_self
theorem xN:type_of% @Go.World.size_alloc:=@Go.World.size_alloc
theorem xO:type_of% @Bool.false_eq_true:=@Bool.false_eq_true
theorem xP:type_of% @List.foldl_nil:=@List.foldl_nil
theorem xQ:type_of% @List.mem_filterMap:=@List.mem_filterMap
theorem xR:type_of% @List.take_append_drop:=@List.take_append_drop
theorem xS:type_of% @List.getElem?_eq_none_iff:=@List.getElem?_eq_none_iff
theorem xT:type_of% @List.flatMap_cons:=@List.flatMap_cons
theorem xU:type_of% @List.map_nil:=@List.map_nil
theorem xV:type_of% @List.take_succ_eq_append_getElem:=@List.take_succ_eq_append_getElem
theorem xW:type_of% @Nat.lt_or_ge:=@Nat.lt_or_ge
theorem xX:type_of% @Nat.sub_self:=@Nat.sub_self
theorem xY:type_of% @Go.Result.andThen_ok:=@Go.Result.andThen_ok
theorem xZ:type_of% @List.Pairwise.imp_of_mem:=@List.Pairwise.imp_of_mem
theorem kA:type_of% @Int.toNat_of_nonneg:=@Int.toNat_of_nonneg
theorem kB:type_of% @List.filter_eq_self:=@List.filter_eq_self
theorem kC:type_of% @List.any_eq_true:=@List.any_eq_true
theorem kD:type_of% @List.eq_nil_iff_forall_not_mem:=@List.eq_nil_iff_forall_not_mem
theorem kE:type_of% @Option.getD_some:=@Option.getD_some
theorem kF:type_of% @Go.wpList_store_row:=@Go.wpList_store_row
theorem kG:type_of% @Int.mul_add:=@Int.mul_add
theorem kH:type_of% @Int.mul_le_mul_of_nonneg_left:=@Int.mul_le_mul_of_nonneg_left
theorem kI:type_of% @Go.RowKit.Below.heap_setCell:=@Go.RowKit.Below.heap_setCell
theorem kJ:type_of% @Int.emod_lt_of_pos:=@Int.emod_lt_of_pos
theorem kK:type_of% @Go.bodyPost_ret:=@Go.bodyPost_ret
theorem kL:type_of% @List.set_append_right:=@List.set_append_right
theorem kM:type_of% @List.getElem?_set:=@List.getElem?_set
theorem kN:type_of% @List.take_sublist:=@List.take_sublist
theorem kO:type_of% @Go.World.drewN_drewN:=@Go.World.drewN_drewN
theorem kP:type_of% @of_decide_eq_true:=@of_decide_eq_true
theorem kQ:type_of% @Go.DataW.trod_int:=@Go.DataW.trod_int
theorem kR:type_of% @Int.tdiv_eq_ediv_of_nonneg:=@Int.tdiv_eq_ediv_of_nonneg
theorem kS:type_of% @List.pairwise_append:=@List.pairwise_append
theorem kT:type_of% @Nat.mul_le_mul_right:=@Nat.mul_le_mul_right
theorem kU:type_of% @List.countP_cons:=@List.countP_cons
theorem kV:type_of% @List.drop_length:=@List.drop_length
theorem kW:type_of% @List.map_toArray:=@List.map_toArray
theorem kX:type_of% @Nat.add_zero:=@Nat.add_zero
theorem kY:type_of% @Ne.symm:=@Ne.symm
theorem kZ:type_of% @List.Sublist.eq_of_length:=@List.Sublist.eq_of_length
theorem vA:type_of% @List.length_take_le:=@List.length_take_le
theorem vB:type_of% @List.sum_cons:=@List.sum_cons
theorem vC:type_of% @Int.emod_nonneg:=@Int.emod_nonneg
theorem vD:type_of% @Option.map_some:=@Option.map_some
theorem vE:type_of% @Option.isSome_none:=@Option.isSome_none
theorem vF:type_of% @Option.isSome_some:=@Option.isSome_some
theorem vG:type_of% @Go.toList_madeCells_one:=@Go.toList_madeCells_one
theorem vH:type_of% @List.length_eq_zero_iff:=@List.length_eq_zero_iff
theorem vI:type_of% @Go.World.block_lt_of_cell?:=@Go.World.block_lt_of_cell?
theorem vJ:type_of% @Go.setRow_heap:=@Go.setRow_heap
theorem vK:type_of% @Bool.not_eq_true':=@Bool.not_eq_true'
theorem vL:type_of% @Int.le_trans:=@Int.le_trans
theorem vM:type_of% @List.filter_eq_nil_iff:=@List.filter_eq_nil_iff
theorem vN:type_of% @Go.Sem.run_bind:=@Go.Sem.run_bind
theorem vO:type_of% @Go.Sem.run_pure:=@Go.Sem.run_pure
theorem vP:type_of% @Go.setRow_other:=@Go.setRow_other
theorem vR:type_of% @Int.mul_le_mul_of_nonneg_right:=@Int.mul_le_mul_of_nonneg_right
theorem vS:type_of% @List.not_mem_nil:=@List.not_mem_nil
theorem vT:type_of% @decide_eq_decide:=@decide_eq_decide
theorem vU:type_of% @List.drop_append_of_le_length:=@List.drop_append_of_le_length
theorem vV:type_of% @List.getElem?_append:=@List.getElem?_append
theorem vW:type_of% @Go.Calls.quiet_of_same:=@Go.Calls.quiet_of_same
theorem vX:type_of% @List.filter_sublist:=@List.filter_sublist
theorem vY:type_of% @List.getElem?_range:=@List.getElem?_range
theorem vZ:type_of% @List.map_map:=@List.map_map
theorem uA:type_of% @Array.toList_setIfInBounds:=@Array.toList_setIfInBounds
theorem uB:type_of% @Int.lt_or_gt_of_ne:=@Int.lt_or_gt_of_ne
theorem uC:type_of% @List.Perm.refl:=@List.Perm.refl
theorem uD:type_of% @List.take_zero:=@List.take_zero
theorem uE:type_of% @Nat.lt_of_le_of_lt:=@Nat.lt_of_le_of_lt
theorem uF:type_of% @List.all_eq_false:=@List.all_eq_false
theorem uG:type_of% @List.getElem?_take_of_lt:=@List.getElem?_take_of_lt
theorem uH:type_of% @List.length_filterMap_le:=@List.length_filterMap_le
theorem uI:type_of% @Array.toList_inj:=@Array.toList_inj
theorem uJ:type_of% @List.getLast_eq_getElem:=@List.getLast_eq_getElem
theorem uK:type_of% @Nat.mod_eq_of_lt:=@Nat.mod_eq_of_lt
theorem uL:type_of% @Go.mem_ready:=@Go.mem_ready
theorem uN:type_of% @Nat.le_of_lt:=@Nat.le_of_lt
theorem uO:type_of% @Nat.succ_mul:=@Nat.succ_mul
theorem uP:type_of% @Nat.zero_mul:=@Nat.zero_mul
theorem uQ:type_of% @Go.below_setRow:=@Go.below_setRow
theorem uR:type_of% @if_true:=@if_true
theorem uS:type_of% @Go.wpList_plain:=@Go.wpList_plain
theorem uT:type_of% @Int.natCast_add:=@Int.natCast_add
theorem uU:type_of% @List.mem_range':=@List.mem_range'
theorem uV:type_of% @List.set_append:=@List.set_append
theorem uW:type_of% @Array.getElem?_toList:=@Array.getElem?_toList
theorem uX:type_of% @Bool.and_eq_false_iff:=@Bool.and_eq_false_iff
theorem uY:type_of% @List.countP_le_length:=@List.countP_le_length
theorem uZ:type_of% @List.getElem?_reverse:=@List.getElem?_reverse
theorem jA:type_of% @Int.neg_le_neg:=@Int.neg_le_neg
theorem jB:type_of% @List.dropLast_concat:=@List.dropLast_concat
theorem jC:type_of% @List.mem_cons_of_mem:=@List.mem_cons_of_mem
theorem jE:type_of% @Nat.mul_le_mul:=@Nat.mul_le_mul
theorem jF:type_of% @Nat.pow_le_pow_right:=@Nat.pow_le_pow_right
theorem jG:type_of% @not_or:=@not_or
theorem jH:type_of% @List.countP_eq_zero:=@List.countP_eq_zero
theorem jI:type_of% @List.flatMap_append:=@List.flatMap_append
theorem jJ:type_of% @List.length_pos_iff:=@List.length_pos_iff
theorem jK:type_of% @List.mergeSort_perm:=@List.mergeSort_perm
theorem jL:type_of% @List.perm_singleton:=@List.perm_singleton
theorem jM:type_of% @List.map_take:=@List.map_take
theorem jN:type_of% @Nat.add_assoc:=@Nat.add_assoc
theorem jO:type_of% @Go.Addr.add_lit:=@Go.Addr.add_lit
theorem jP:type_of% @Classical.em:=@Classical.em
theorem jQ:type_of% @Iff.rfl:=@Iff.rfl
theorem jR:type_of% @if_false:=@if_false
theorem jS:type_of% @Go.RowKit.Below.trans:=@Go.RowKit.Below.trans
theorem jT:type_of% @Int.mul_one:=@Int.mul_one
theorem jU:type_of% @Nat.add_mul:=@Nat.add_mul
theorem jV:type_of% @Nat.le_zero:=@Nat.le_zero
theorem jW:type_of% @Nat.pow_pos:=@Nat.pow_pos
theorem jX:type_of% @or_false:=@or_false
end Go.Proofs.Yticieifacalocaa
