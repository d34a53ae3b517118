/- SolMdl -/
import Derived.Test.YticieifacalocaaTSH36
import Derived.Test.YticieifacalocaaTSH37
import Derived.Test.YticieifacalocaaTSH38
namespace Go.Proofs.Yticieifacalocaa
open Go.RowKit
def litV (val:List Int) (v:Nat):Int:=if 0<val.getD v 0 then (v:Int)+1 else -((v:Int)+1)
def conK (f:Form) (val:List Int) (k:Nat):List Diff:=(List.range k).filterMap fun v=>bound f.atoms (litV val v)
theorem mU {f:Form} {val:List Int} {k:Nat} {d:Diff} (h:bound f.atoms (litV val k)=some d):conK f val (k+1)=conK f val k++[d]:=by
 unfold conK
 rw [List.range_succ,xC]
 simp [h]
theorem mX {f:Form} {val:List Int} {k:Nat} (h:bound f.atoms (litV val k)=none):conK f val (k+1)=conK f val k:=by
 unfold conK
 rw [List.range_succ,xC]
 simp [h]
theorem lU (f:Form) (val:List Int) (k:Nat):(conK f val k).length≤k:=by
 unfold conK
 have:=uH (fun v=>bound f.atoms (litV val v)) (List.range k)
 simpa using this
theorem lQ {f:Form} {val:List Int} {k:Nat} {d:Diff} (h:d∈conK f val k):∃v,v<k∧bound f.atoms (litV val v)=some d:=by
 unfold conK at h
 obtain ⟨v,hv,h2⟩:=xQ.1 h
 exact ⟨v,by simpa using hv,h2⟩
theorem mem_conK {f:Form} {val:List Int} {k v:Nat} {d:Diff} (hv:v<k) (h:bound f.atoms (litV val v)=some d):d∈conK f val k:=by
 unfold conK
 exact xQ.2 ⟨v,by simpa using hv,h⟩
def boolK (val:List Int) (B k:Nat):List Bool:=((val.take k).map fun y=>decide (0<y))++List.replicate (B-k) false
theorem boolK_len {val:List Int} {B k:Nat} (hv:val.length=B) (h:k≤B):(boolK val B k).length=B:=by simp [boolK];omega
theorem boolK_set {val:List Int} {B k:Nat} (hv:val.length=B) (h:k<B):(boolK val B k).set k (decide (0<val.getD k 0))=boolK val B (k+1):=by
 have h1:val.getD k 0=val[k]'(by omega):=by rw [List.getD_eq_getElem?_getD,List.getElem?_eq_getElem (by omega)];rfl
 have h2:((val.take k).map fun y=>decide (0<y)).length=k:=by rw [List.length_map,qO];omega
 obtain ⟨m,hm⟩:∃m,B-k=m+1:=⟨B-k-1,by omega⟩
 have hm2:B-(k+1)=m:=by omega
 unfold boolK
 rw [hm,hm2,kL _ _ (by omega),h2,xX,yE,zE,h1,xV (by omega),List.map_append,qB]
 rfl
theorem boolK_all {val:List Int} {B:Nat} (hv:val.length=B):boolK val B B=val.map fun y=>decide (0<y):=by
 unfold boolK
 rw [xX,zU (by omega)]
 simp
structure MdS (κ:Kap) (w:World) (B:Nat) (κ1:Kap) (wr:World) (rb mb bb:Nat) (bs:List Bool) (cv:Value) (ds:List Diff):Prop where
 f:Fr κ κ1 w wr (fun _=>False)
 r:HB κ1 wr (.tmp 3) rb 35 #[.slice none 0 0, .slice none 0 0]
 m:HB κ1 wr (.tmp 0) mb 35 #[.slice (some ⟨bb,0,none⟩) B B, .slice none 0 0]
 b:HB κ1 wr (.tmp 1) bb 4 (cbs bs).toArray
 c:Hold κ1 wr (.tmp 2) 50 3 cv ds.length (ds.flatMap Diff.cells)
 nr:w.heap.size≤rb
 nm:w.heap.size≤mb
 nb:w.heap.size≤bb
 nc:∀j,cv.ownBlock=some j→w.heap.size≤j
section
variable {κ κ1:Kap} {w wr w2:World} {B rb mb bb:Nat} {bs:List Bool} {cv:Value} {ds:List Diff}
theorem MdS.keep (h:MdS κ w B κ1 wr rb mb bb bs cv ds) (hb:Below wr.heap.size wr w2):MdS κ w B κ1 w2 rb mb bb bs cv ds :=
 have f:=Fr.kept κ1 hb (fun _=>False)
 ⟨h.f.trans f,h.r.fr f id,h.m.fr f id,h.b.fr f id,h.c.fr f id,h.nr,h.nm,h.nb,h.nc⟩
theorem MdS.setB (h:MdS κ w B κ1 wr rb mb bb bs cv ds) (i:Nat) (y:Bool):MdS κ w B κ1 (wr.setCell ⟨bb,i,none⟩ (.bool y)) rb mb bb (bs.set i y) cv ds:=by
 have f:=frs κ1 wr (i:=i) (u := .bool y) h.b.k
 refine ⟨h.f.loc (jY wr bb i _) (fun j e=>by injection e with e;subst e;exact h.nb),h.r.fr f (by simp),h.m.fr f (by simp),?_,h.c.fr f (by simp),h.nr,h.nm,h.nb,h.nc⟩
 have:=h.b.set_ i (.bool y)
 rw [wQ,←eD] at this
 exact this
theorem MdS.push (h:MdS κ w B κ1 wr rb mb bb bs cv ds) {d:Diff} {v':Value} {o:Obj} (ho:w2.ownsRow 0 50 3 v' (ds.length+1) (ds.flatMap Diff.cells++d.cells)) (hg:(wr.alloc o).grownBy w2 cv.ownBlock) (hat:v'.ownBlock=cv.ownBlock∨v'.ownBlock=some (wr.alloc o).heap.size) :
  ∃κ2,MdS κ w B κ2 w2 rb mb bb bs v' (ds++[d]):=by
 have f0:=Fr.alloc κ1 wr o (fun c=>c = .tmp 2)
 obtain ⟨κ2,j1,j2⟩:=(h.c.fr (Fr.alloc κ1 wr o (fun _=>False)) id).app (S:=fun c=>c = .tmp 2) ho hg hat rfl
 have f:=f0.trans j2
 refine ⟨κ2,?_,h.r.fr f (by simp),h.m.fr f (by simp),h.b.fr f (by simp),?_,h.nr,h.nm,h.nb,fun j hj => ?_⟩
 ·have fl:Fr κ κ1 w w2 (fun _=>False):=(h.f.trans (Fr.alloc κ1 wr o _)).loc hg h.nc
  exact fl.recol fun j hj=>j2.ext j (zZ hj (qA h.f.size (by simp)))
 ·rw [zJ,jI]
  simpa using j1
 ·rcases hat with e|e
  ·exact h.nc j (by rw [←e];exact hj)
  ·rw [e] at hj;injection hj with hj;have:=h.f.size;simp at hj;omega
end
def ModRet (w:World) (f:Form) (N B:Nat) (val:List Int) (en:Ending) (w':World):Prop :=
 ∃bb gi xs,en = .returned (.agg #[.slice (some ⟨bb,0,none⟩) B B, .slice (some ⟨gi,0,none⟩) N N])∧Blk w' bb 4 (cbs (val.map fun y=>decide (0<y))).toArray∧Blk w' gi 3 (ci xs).toArray∧w.heap.size≤bb∧w.heap.size≤gi∧xs.length=N∧(∀v,v<B→∀d,bound f.atoms (litV val v)=some d→Go.Proofs.Yticieifacalocaa.gi xs d.x≤Go.Proofs.Yticieifacalocaa.gi xs d.y+d.c)∧(∀x∈xs, -1000000000000≤x∧x≤0)∧Below w.heap.size w w'
set_option maxRecDepth 100000 in
set_option maxHeartbeats 4000000 in
theorem model_any {κ:Kap} {w:World} {g:Nat} {s:Sol} {V:EV} {U:SV} {f:Form} {N B:Nat} (h:SolM κ w g s V U) (hq:SolQ f B N) (hd:DU κ w U.av f.atoms) (hm:ModelOk f B s.e.val) (hfi:U.fi=f.ints) :
  Calls Try.prog 41 #[.pointer (some ⟨g,0,none⟩)] w (ModRet w f N B s.e.val):=by
 obtain ⟨iD,hiD,hzD0,hzD1,hzD2⟩:=qD fA
 have hvl:=hm.len
 have hB:=hq.bl
 have mk:=eM B (by unfold LIM;omega)
 have HC:Hid (∀d∈f.atoms, -9223372036854775807≤d.c):=Lib.hid fun d hd=>by have:=(hq.at_ d hd);omega
 have HQ:=Lib.hid hq
 have HM:=Lib.hid hm
 have HS:=Lib.hid h
 have HD:=Lib.hid hd
 have HFI:=Lib.hid hfi
 have HVL:=Lib.hid hvl
 have q3:=h.eng.cellE (i:=3) rfl
 rw [hvl] at q3
 have f1:=Fr.make κ w (.cells #[.slice none 0 0, .slice none 0 0] 35) (.tmp 3) (fun _=>False)
 have HR1:=Lib.hid (HB.new κ w (.tmp 3) #[.slice none 0 0, .slice none 0 0] 35)
 have HF1:=Lib.hid f1
 have HS1:=Lib.hid (h.fr f1 fun _ _=>id)
 have q3a:=HS1.out.eng.cellE (i:=3) rfl
 rw [hvl] at q3a
 clear h hd hm hfi hq f1 q3 hvl
 go_enter Try.func41,Try.ntmps41
 go_upto_region 1 with fail
 generalize kset κ w.heap.size (.tmp 3)=κ1 at *
 generalize w.alloc (.cells #[.slice none 0 0, .slice none 0 0] 35)=W1 at *
 obtain ⟨rb,hrb⟩:∃rb,rb=w.heap.size:=⟨_,rfl⟩
 have HRB:Hid (w.heap.size≤rb):=Lib.hid (by omega)
 rw [←hrb] at HR1 ⊢
 clear hrb
 go_upto_region 2 with fail
 clear q3a
 have HM0:Hid (MdS κ w B (kset (kset κ1 W1.heap.size (.tmp 1)) (W1.heap.size+1) (.tmp 0)) ((W1.alloc (.cells (cbs (List.replicate B false)).toArray 4)).alloc (.cells #[.slice (some ⟨W1.heap.size,0,none⟩) B B, .slice none 0 0] 35)) rb (W1.heap.size+1) W1.heap.size (boolK s.e.val B 0) (.slice none (conK f s.e.val 0).length 0) (conK f s.e.val 0)):=by
  have e1:(W1.alloc (.cells (cbs (List.replicate B false)).toArray 4)).heap.size=W1.heap.size+1:=by simp
  have f2:=Fr.make κ1 W1 (.cells (cbs (List.replicate B false)).toArray 4) (.tmp 1) (fun _=>False)
  have f3:=Fr.make (kset κ1 W1.heap.size (.tmp 1)) (W1.alloc (.cells (cbs (List.replicate B false)).toArray 4)) (.cells #[.slice (some ⟨W1.heap.size,0,none⟩) B B, .slice none 0 0] 35) (.tmp 0) (fun _=>False)
  have hb2:=HB.new κ1 W1 (.tmp 1) (cbs (List.replicate B false)).toArray 4
  have hb3:=HB.new (kset κ1 W1.heap.size (.tmp 1)) (W1.alloc (.cells (cbs (List.replicate B false)).toArray 4)) (.tmp 0) #[.slice (some ⟨W1.heap.size,0,none⟩) B B, .slice none 0 0] 35
  rw [e1] at f3 hb3
  have hsz:=HF1.out.size
  refine Lib.hid ⟨HF1.out.trans (f2.trans f3),(HR1.out.fr f2 id).fr f3 id,hb3,?_,Hold.nil _ _ _ _ _,HRB.out,by omega,hsz,fun j hj=>by cases hj⟩
  have:=hb2.fr f3 id
  simpa [boolK] using this
 clear HR1 HF1 HS1 HRB mk
 generalize kset (kset κ1 W1.heap.size (.tmp 1)) (W1.heap.size+1) (.tmp 0)=κ3 at *
 generalize (W1.alloc (.cells (cbs (List.replicate B false)).toArray 4)).alloc (.cells #[.slice (some ⟨W1.heap.size,0,none⟩) B B, .slice none 0 0] 35)=W3 at *
 generalize W1.heap.size+1=mb at *
 generalize W1.heap.size=bb at *
 have q3:=(HS.out.fr HM0.out.f fun _ _=>id).eng.cellE (i:=3) rfl
 rw [HVL.out] at q3
 go_wp2_with fail
 clear q3
 go_loopw [4,24] (fun c i wr=>∃(k:Nat) (κ4:Kap) (Av:Option Addr) (cc:Nat),k≤B∧i = .int .i64 (k:Int)∧c = .slice Av (conK f s.e.val k).length cc∧Hid (MdS κ w B κ4 wr rb mb bb (boolK s.e.val B k) (.slice Av (conK f s.e.val k).length cc) (conK f s.e.val k))) (fun _ i _=>B-(intOf i).toNat)
 case atStart=>exact ⟨0,κ3,none,0,zQ _,rfl,rfl,HM0⟩
 case round =>
  clear HM0
  obtain ⟨k,κ4,Av,cc,hk,rfl,rfl,HMS⟩:=hrel
  by_cases hlt:k<B
  ·have hSM:=HS.out.fr HMS.out.f fun _ _=>id
   have qv:=hSM.eng.valAt (v:=k) (by rw [HVL.out];exact hlt)
   have qm:=HMS.out.m.cell 0
   simp only [zA,zB] at qm
   have qb:=dJ HMS.out.b.b (k:=k) (by rw [boolK_len HVL.out hk];exact hlt)
   have zb:=HMS.out.b.frozen k
   have yk:(k:Int)<(B:Int):=by omega
   have HKB:=Lib.hid (And.intro hk hlt)
   have hset:=HMS.out.setB k (decide (0<s.e.val.getD k 0))
   rw [boolK_set HVL.out hlt] at hset
   rcases HM.out.v3 k hlt with hy|hy
   ·rw [hy] at qv
    have hlv:litV s.e.val k=(k:Int)+1:=by unfold litV;rw [hy];rfl
    have hdc:decide (0<s.e.val.getD k 0)=true:=by rw [hy];rfl
    rw [hdc] at hset
    have HSET:=Lib.hid hset
    have hS5:=HS.out.fr HSET.out.f fun _ _=>id
    have q13:=hS5.eng.cellR (i:=4) rfl
    have q14:=hS5.eng.cellR (i:=5) rfl
    have q15:=hS5.eng.cellR (i:=6) rfl
    have q16:=hS5.eng.cellR (i:=7) rfl
    simp only [Nat.reduceAdd] at q13 q14 q15 q16
    have HBO:=Lib.hid (cD (.int .i64 U.fi) (.int .i64 U.fb) U.av U.cv f.atoms _ ((k:Int)+1) (HD.out.fr HSET.out.f).diffs HC.out ⟨by omega,by omega⟩)
    rw [←hlv] at HBO
    have HLV:=Lib.hid hlv
    clear hset hS5 hSM hy hlv hdc hk hlt HMS
    go_upto_region 10 with fail
    clear qv qm qb zb
    generalize wr.setCell ⟨bb,k,none⟩ (.bool true)=W5 at *
    have HBO2:Hid (Calls Try.prog 67 #[.agg #[.int .i64 U.fi, .int .i64 U.fb,U.av,U.cv], .int .i64 ((k:Int)+1)] W5 fun e w'=>e = .returned (boundVal (bound f.atoms (litV s.e.val k)))∧Below W5.heap.size W5 w'):=by
     have:=HBO.out
     rw [HLV.out] at this ⊢
     exact Lib.hid this
    clear HBO
    cases hbd:bound f.atoms (litV s.e.val k) with
    | none =>
     rw [hbd] at HBO2
     simp only [boundVal,Diff.val] at HBO2
     have HK:=Lib.hid (mX hbd)
     clear hbd
     go_wp2_with fail
     refine HBO2.out.mono ?_
     rintro e W6 ⟨rfl,hb6⟩
     have HM6:=Lib.hid ((HSET.out.keep hb6).keep ((zR _ _).alloc (Nat.le_refl _) (.cells #[.int .i64 0, .int .i64 0, .int .i64 0] 50)))
     clear hb6 q13 q14 q15 q16 HBO2 HSET
     have hlt:=HKB.out.2
     go_wp2_with fail
     go_roundw
     case rel=>exact ⟨k+1,κ4,Av,cc,by omega,by go_num,by rw [HK.out],by rw [HK.out];exact HM6⟩
     case measure=>simp [intOf];omega
    | some d =>
     rw [hbd] at HBO2
     simp only [boundVal,Diff.val] at HBO2
     have HK:=Lib.hid (mU hbd)
     clear hbd
     go_wp2_with fail
     refine HBO2.out.mono ?_
     rintro e W6 ⟨rfl,hb6⟩
     have HM6:=Lib.hid ((HSET.out.keep hb6).keep ((zR _ _).alloc (Nat.le_refl _) (.cells #[.int .i64 d.x, .int .i64 d.y, .int .i64 d.c] 50)))
     have b0:=(Blk.new W6 50 #[.int .i64 d.x, .int .i64 d.y, .int .i64 d.c]).cell 0
     have b1:=(Blk.new W6 50 #[.int .i64 d.x, .int .i64 d.y, .int .i64 d.c]).cell 1
     have b2:=(Blk.new W6 50 #[.int .i64 d.x, .int .i64 d.y, .int .i64 d.c]).cell 2
     simp only [zA,zB,zC] at b0 b1 b2
     clear hb6 q13 q14 q15 q16 HBO2 HSET
     go_upto_region 12 with fail
     generalize W6.alloc (.cells #[.int .i64 d.x, .int .i64 d.y, .int .i64 d.c] 50)=W7 at *
     have HLK:Hid ((conK f s.e.val k).length+1≤maxLen∧((conK f s.e.val k).length+1) * 24≤140737488355328):=by
      refine Lib.hid ?_
      have h1:=lU f s.e.val k
      have h2:=HKB.out.2
      unfold maxLen
      omega
     have HOC:Hid (∀u∈([.int .i64 d.x, .int .i64 d.y, .int .i64 d.c]:List Value),u.oneCell'=true):=Lib.hid (by intro u hu;simp at hu;rcases hu with rfl|rfl|rfl<;>rfl)
     go_wp2_with (at_builtin;refine zW _ rfl _ _ 26 rfl 0 50 iD (.agg #[.int .i64 0, .int .i64 0, .int .i64 0]) 3 24 Try.underlying26 hiD hzD0 hzD1 hzD2 rfl (by decide) _ _ _ rfl (HM6.out.c.o.alloc _) ⟨W7.heap.size,0,none⟩ 1 1 [.int .i64 d.x, .int .i64 d.y, .int .i64 d.c] rfl rfl (wY W7 50 [.int .i64 d.x, .int .i64 d.y, .int .i64 d.c] rfl) HOC.out HLK.out.1 HLK.out.2 (zQ _) ?_)
     intro v' w9 hown hgrow _ hat
     obtain ⟨A9,c9,hv9, -, -, -⟩:=wB hown
     subst hv9
     obtain ⟨κ9,h9⟩:=HM6.out.push (d:=d) hown hgrow (by simpa using hat)
     have HM9:Hid (MdS κ w B κ9 w9 rb mb bb (boolK s.e.val B (k+1)) (.slice A9 (conK f s.e.val (k+1)).length c9) (conK f s.e.val (k+1))):=by
      rw [HK.out,zJ]
      exact Lib.hid h9
     have HLL:Hid ((conK f s.e.val (k+1)).length=(conK f s.e.val k).length+1):=Lib.hid (by rw [HK.out,zJ];rfl)
     have hlt:=HKB.out.2
     clear hown hgrow hat h9 HM6 b0 b1 b2
     go_wp2_with fail
     go_roundw
     case rel=>exact ⟨k+1,κ9,A9,c9,by omega,by go_num,by rw [HLL.out],HM9⟩
     case measure=>simp [intOf];omega
   ·rw [hy] at qv
    have hlv:litV s.e.val k = -((k:Int)+1):=by unfold litV;rw [hy];rfl
    have hdc:decide (0<s.e.val.getD k 0)=false:=by rw [hy];rfl
    rw [hdc] at hset
    have HSET:=Lib.hid hset
    have hS5:=HS.out.fr HSET.out.f fun _ _=>id
    have q13:=hS5.eng.cellR (i:=4) rfl
    have q14:=hS5.eng.cellR (i:=5) rfl
    have q15:=hS5.eng.cellR (i:=6) rfl
    have q16:=hS5.eng.cellR (i:=7) rfl
    simp only [Nat.reduceAdd] at q13 q14 q15 q16
    have HBO:=Lib.hid (cD (.int .i64 U.fi) (.int .i64 U.fb) U.av U.cv f.atoms _ (-((k:Int)+1)) (HD.out.fr HSET.out.f).diffs HC.out ⟨by omega,by omega⟩)
    rw [←hlv] at HBO
    have HLV:=Lib.hid hlv
    clear hset hS5 hSM hy hlv hdc hk hlt HMS
    go_upto_region 10 with fail
    clear qv qm qb zb
    generalize wr.setCell ⟨bb,k,none⟩ (.bool false)=W5 at *
    have HBO2:Hid (Calls Try.prog 67 #[.agg #[.int .i64 U.fi, .int .i64 U.fb,U.av,U.cv], .int .i64 (-((k:Int)+1))] W5 fun e w'=>e = .returned (boundVal (bound f.atoms (litV s.e.val k)))∧Below W5.heap.size W5 w'):=by
     have:=HBO.out
     rw [HLV.out] at this ⊢
     exact Lib.hid this
    clear HBO
    cases hbd:bound f.atoms (litV s.e.val k) with
    | none =>
     rw [hbd] at HBO2
     simp only [boundVal,Diff.val] at HBO2
     have HK:=Lib.hid (mX hbd)
     clear hbd
     go_wp2_with fail
     refine HBO2.out.mono ?_
     rintro e W6 ⟨rfl,hb6⟩
     have HM6:=Lib.hid ((HSET.out.keep hb6).keep ((zR _ _).alloc (Nat.le_refl _) (.cells #[.int .i64 0, .int .i64 0, .int .i64 0] 50)))
     clear hb6 q13 q14 q15 q16 HBO2 HSET
     have hlt:=HKB.out.2
     go_wp2_with fail
     go_roundw
     case rel=>exact ⟨k+1,κ4,Av,cc,by omega,by go_num,by rw [HK.out],by rw [HK.out];exact HM6⟩
     case measure=>simp [intOf];omega
    | some d =>
     rw [hbd] at HBO2
     simp only [boundVal,Diff.val] at HBO2
     have HK:=Lib.hid (mU hbd)
     clear hbd
     go_wp2_with fail
     refine HBO2.out.mono ?_
     rintro e W6 ⟨rfl,hb6⟩
     have HM6:=Lib.hid ((HSET.out.keep hb6).keep ((zR _ _).alloc (Nat.le_refl _) (.cells #[.int .i64 d.x, .int .i64 d.y, .int .i64 d.c] 50)))
     have b0:=(Blk.new W6 50 #[.int .i64 d.x, .int .i64 d.y, .int .i64 d.c]).cell 0
     have b1:=(Blk.new W6 50 #[.int .i64 d.x, .int .i64 d.y, .int .i64 d.c]).cell 1
     have b2:=(Blk.new W6 50 #[.int .i64 d.x, .int .i64 d.y, .int .i64 d.c]).cell 2
     simp only [zA,zB,zC] at b0 b1 b2
     clear hb6 q13 q14 q15 q16 HBO2 HSET
     go_upto_region 12 with fail
     generalize W6.alloc (.cells #[.int .i64 d.x, .int .i64 d.y, .int .i64 d.c] 50)=W7 at *
     have HLK:Hid ((conK f s.e.val k).length+1≤maxLen∧((conK f s.e.val k).length+1) * 24≤140737488355328):=by
      refine Lib.hid ?_
      have h1:=lU f s.e.val k
      have h2:=HKB.out.2
      unfold maxLen
      omega
     have HOC:Hid (∀u∈([.int .i64 d.x, .int .i64 d.y, .int .i64 d.c]:List Value),u.oneCell'=true):=Lib.hid (by intro u hu;simp at hu;rcases hu with rfl|rfl|rfl<;>rfl)
     go_wp2_with (at_builtin;refine zW _ rfl _ _ 26 rfl 0 50 iD (.agg #[.int .i64 0, .int .i64 0, .int .i64 0]) 3 24 Try.underlying26 hiD hzD0 hzD1 hzD2 rfl (by decide) _ _ _ rfl (HM6.out.c.o.alloc _) ⟨W7.heap.size,0,none⟩ 1 1 [.int .i64 d.x, .int .i64 d.y, .int .i64 d.c] rfl rfl (wY W7 50 [.int .i64 d.x, .int .i64 d.y, .int .i64 d.c] rfl) HOC.out HLK.out.1 HLK.out.2 (zQ _) ?_)
     intro v' w9 hown hgrow _ hat
     obtain ⟨A9,c9,hv9, -, -, -⟩:=wB hown
     subst hv9
     obtain ⟨κ9,h9⟩:=HM6.out.push (d:=d) hown hgrow (by simpa using hat)
     have HM9:Hid (MdS κ w B κ9 w9 rb mb bb (boolK s.e.val B (k+1)) (.slice A9 (conK f s.e.val (k+1)).length c9) (conK f s.e.val (k+1))):=by
      rw [HK.out,zJ]
      exact Lib.hid h9
     have HLL:Hid ((conK f s.e.val (k+1)).length=(conK f s.e.val k).length+1):=Lib.hid (by rw [HK.out,zJ];rfl)
     have hlt:=HKB.out.2
     clear hown hgrow hat h9 HM6 b0 b1 b2
     go_wp2_with fail
     go_roundw
     case rel=>exact ⟨k+1,κ9,A9,c9,by omega,by go_num,by rw [HLL.out],HM9⟩
     case measure=>simp [intOf];omega
  ·obtain rfl:k=B:=by omega
   have yk:¬((k:Int)<(k:Int)):=by omega
   have q13:=(HS.out.fr HMS.out.f fun _ _=>id).eng.cellR (i:=4) rfl
   simp only [Nat.reduceAdd] at q13
   rw [HFI.out,HQ.out.n] at q13
   have HE:Hid (iJ N 1048577 (conK f s.e.val k)):=Lib.hid fun j e he=>by
    obtain ⟨v, -,hb⟩:=lQ (List.mem_of_getElem? he)
    exact dY HQ.out hb
   have hok:∀d∈conK f s.e.val k,d.ok:=fun d hd=>by
    obtain ⟨v, -,hb⟩:=lQ hd
    obtain ⟨a1,a2,a3,a4, -,a5,a6⟩:=dY HQ.out hb
    have:=HQ.out.nl
    exact ⟨⟨by omega,by omega⟩,⟨by omega,by omega⟩,⟨by omega,by omega⟩⟩
   have HDV:=Lib.hid (cK HMS.out.c.o hok)
   have HLK:Hid ((conK f s.e.val k).length≤1024):=Lib.hid (by have:=lU f s.e.val k;omega)
   have HDS:=Lib.hid (dsolve_any N (.slice Av (conK f s.e.val k).length cc) (conK f s.e.val k) wr 1048577 HDV.out HE.out HQ.out.nl HLK.out (by omega) (by omega) (by
    obtain ⟨X,hX⟩:=HM.out.sol
    refine ⟨X,fun d hd => ?_⟩
    obtain ⟨v,hv,hb⟩:=lQ hd
    exact hX v hv d hb))
   clear hok hlt hk
   go_wp2_with fail
   refine HDS.out.mono ?_
   rintro e W6 ⟨gx,xs,rfl,hx,hgx,hxl,hxs,hxb,hb6⟩
   have HM6:=Lib.hid (HMS.out.keep hb6)
   have HNE:Hid (gx≠mb∧gx≠rb):=Lib.hid ⟨by have:=HMS.out.m.b.lt;omega,by have:=HMS.out.r.b.lt;omega⟩
   have hsz:=HMS.out.f.size
   have HX:=Lib.hid (And.intro hx (And.intro (qA hsz hgx) (And.intro hxl (And.intro hxs hxb))))
   have qm1:=HM6.out.m.cell 1
   have zm1:=HM6.out.m.frozen 1
   simp only [zA,zB,zC] at qm1
   clear hx hgx hxl hxs hxb hb6 hsz HDS HMS HDV q13
   go_upto_region 15 with fail
   clear qm1 zm1
   have fm:=frs κ4 W6 (i:=1) (u := .slice (some ⟨gx,0,none⟩) N N) HM6.out.m.k
   have HMM:Hid (HB κ4 (W6.setCell ⟨mb,1,none⟩ (.slice (some ⟨gx,0,none⟩) N N)) (.tmp 0) mb 35 #[.slice (some ⟨bb,0,none⟩) k k, .slice (some ⟨gx,0,none⟩) N N]):=Lib.hid (HM6.out.m.set_ 1 (.slice (some ⟨gx,0,none⟩) N N))
   have HRR:=Lib.hid (HM6.out.r.fr fm (by simp))
   have HBB:=Lib.hid (HM6.out.b.fr fm (by simp))
   have HXX:Hid (Blk (W6.setCell ⟨mb,1,none⟩ (.slice (some ⟨gx,0,none⟩) N N)) gx 3 (ci xs).toArray):=by
    refine Lib.hid ?_
    exact ((jY W6 mb 1 (.slice (some ⟨gx,0,none⟩) N N)).block gx HX.out.1.lt (fun e=>by injection e with e;exact HNE.out.1 e)).trans HX.out.1
   have HFF:Hid (Fr κ κ4 w (W6.setCell ⟨mb,1,none⟩ (.slice (some ⟨gx,0,none⟩) N N)) (fun _=>False)):=Lib.hid (HM6.out.f.loc (jY W6 mb 1 _) (fun j e=>by injection e with e;subst e;exact HM6.out.nm))
   have HNR:=Lib.hid (And.intro HM6.out.nr HM6.out.nb)
   clear HM6 fm
   generalize W6.setCell ⟨mb,1,none⟩ (.slice (some ⟨gx,0,none⟩) N N)=W7 at *
   have m0:=HMM.out.cell 0
   have m1:=HMM.out.cell 1
   simp only [zA,zB,zC] at m0 m1
   have hrb:W7.heap[rb]? = some (.cells #[.slice none 0 0, .slice none 0 0] 35):=HRR.out.b
   go_step
   go_step
   go_step
   go_step
   refine kF rfl 35 (.tmp 2) (.tmp 69) rfl rb #[.slice (some ⟨bb,0,none⟩) k k, .slice (some ⟨gx,0,none⟩) N N] rfl rfl 35 _ hrb (by kernel_rfl) rfl (by simp [Value.oneCell']) ?_
   have hr9:Blk (W7.setRow rb #[.slice (some ⟨bb,0,none⟩) k k, .slice (some ⟨gx,0,none⟩) N N]) rb 35 #[.slice (some ⟨bb,0,none⟩) k k, .slice (some ⟨gx,0,none⟩) N N]:=vJ W7 _ _ _ _ _ hrb
   have hFIN:ModRet w f N k s.e.val (.returned (.agg #[.slice (some ⟨bb,0,none⟩) k k, .slice (some ⟨gx,0,none⟩) N N])) (W7.setRow rb #[.slice (some ⟨bb,0,none⟩) k k, .slice (some ⟨gx,0,none⟩) N N]):=by
    have fr:=Fr.row κ4 W7 (cs := #[.slice (some ⟨bb,0,none⟩) k k, .slice (some ⟨gx,0,none⟩) N N]) (S:=fun s=>s = .tmp 3) HRR.out.k rfl
    have hb9:=(HBB.out.fr fr (by simp)).b
    rw [boolK_all HVL.out] at hb9
    have ff:=HFF.out
    have hbl:Below w.heap.size w W7:=⟨ff.os,ff.tape,ff.output,ff.size,fun k hk=>ff.blk k hk fun _ _=>id⟩
    exact ⟨bb,gx,xs,rfl,hb9,(vP W7 rb gx _ HNE.out.2).trans HXX.out,HNR.out.2,HX.out.2.1,HX.out.2.2.1,fun v hv d hd=>HX.out.2.2.2.1 d (mem_conK hv hd),HX.out.2.2.2.2,uQ hbl HNR.out.1 _⟩
   have HFIN:=Lib.hid hFIN
   clear hFIN HX HFF HXX HBB HRR HMM hrb m0 m1
   generalize W7.setRow rb #[.slice (some ⟨bb,0,none⟩) k k, .slice (some ⟨gx,0,none⟩) N N]=W9 at *
   have r0:=hr9.cell 0
   have r1:=hr9.cell 1
   simp only [zA,zB,zC] at r0 r1
   clear hr9
   go_wp2_with fail
   exact kK (v := .agg #[.slice (some ⟨bb,0,none⟩) k k, .slice (some ⟨gx,0,none⟩) N N]) (by simp [results,Try.results41,go_sem,r0,r1]) rfl HFIN.out
end Go.Proofs.Yticieifacalocaa
