/- SolMdl Valid -/
import Derived.Test.YticieifacalocaaTSE36
import Derived.Test.YticieifacalocaaTSE37
namespace Go.Proofs.Yticieifacalocaa
open Go.RowKit
def litV (val:List Int) (v:Nat):Int:=if 0<val.getD v 0 then (v:Int)+1 else -((v:Int)+1)
def conK (f:Form) (val:List Int) (k:Nat):List Diff:=(List.range k).filterMap fun v=>bound f.atoms (litV val v)
theorem oX {f:Form} {val:List Int} {k:Nat} {d:Diff} (h:bound f.atoms (litV val k)=some d):conK f val (k+1)=conK f val k++[d]:=by
 unfold conK
 rw [List.range_succ,xI]
 simp [h]
theorem oT {f:Form} {val:List Int} {k:Nat} (h:bound f.atoms (litV val k)=none):conK f val (k+1)=conK f val k:=by
 unfold conK
 rw [List.range_succ,xI]
 simp [h]
theorem lU (f:Form) (val:List Int) (k:Nat):(conK f val k).length≤k:=by
 unfold conK
 have:=uO (fun v=>bound f.atoms (litV val v)) (List.range k)
 simpa using this
theorem nN {f:Form} {val:List Int} {k:Nat} {d:Diff} (h:d∈conK f val k):∃v,v<k∧bound f.atoms (litV val v)=some d:=by
 unfold conK at h
 obtain ⟨v,hv,h2⟩:=xT.1 h
 exact ⟨v,by simpa using hv,h2⟩
theorem mem_conK {f:Form} {val:List Int} {k v:Nat} {d:Diff} (hv:v<k) (h:bound f.atoms (litV val v)=some d):d∈conK f val k:=by
 unfold conK
 exact xT.2 ⟨v,by simpa using hv,h⟩
def boolK (val:List Int) (B k:Nat):List Bool:=((val.take k).map fun y=>decide (0<y))++List.replicate (B-k) false
theorem boolK_len {val:List Int} {B k:Nat} (hv:val.length=B) (h:k≤B):(boolK val B k).length=B:=by simp [boolK];omega
theorem boolK_set {val:List Int} {B k:Nat} (hv:val.length=B) (h:k<B):(boolK val B k).set k (decide (0<val.getD k 0))=boolK val B (k+1):=by
 have h1:val.getD k 0=val[k]'(by omega):=by rw [List.getD_eq_getElem?_getD,List.getElem?_eq_getElem (by omega)];rfl
 have h2:((val.take k).map fun y=>decide (0<y)).length=k:=by rw [List.length_map,qF];omega
 obtain ⟨m,hm⟩:∃m,B-k=m+1:=⟨B-k-1,by omega⟩
 have hm2:B-(k+1)=m:=by omega
 unfold boolK
 rw [hm,hm2,kP _ _ (by omega),h2,kA,yM,zF,h1,xY (by omega),List.map_append,qH]
 rfl
theorem boolK_all {val:List Int} {B:Nat} (hv:val.length=B):boolK val B B=val.map fun y=>decide (0<y):=by
 unfold boolK
 rw [kA,zQ (by omega)]
 simp
structure MdS (κ:Kap) (w:World) (B:Nat) (κ1:Kap) (wr:World) (rb mb bb:Nat) (bs:List Bool) (cv:Value) (ds:List Diff):Prop where
 f:Fr κ κ1 w wr (fun _=>False)
 r:HB κ1 wr (.tmp 3) rb 35 #[.slice none 0 0, .slice none 0 0]
 m:HB κ1 wr (.tmp 0) mb 35 #[.slice (some ⟨bb,0,none⟩) B B, .slice none 0 0]
 b:HB κ1 wr (.tmp 1) bb 4 (cbs bs).toArray
 c:Hold κ1 wr (.tmp 2) 50 3 cv ds.length (ds.flatMap Diff.cells)
 nr:w.heap.size≤rb
 nm:w.heap.size≤mb
 nb:w.heap.size≤bb
 nc:∀j,cv.ownBlock=some j→w.heap.size≤j
section
variable {κ κ1:Kap} {w wr w2:World} {B rb mb bb:Nat} {bs:List Bool} {cv:Value} {ds:List Diff}
theorem MdS.keep (h:MdS κ w B κ1 wr rb mb bb bs cv ds) (hb:Below wr.heap.size wr w2):MdS κ w B κ1 w2 rb mb bb bs cv ds :=
 have f:=Fr.kept κ1 hb (fun _=>False)
 ⟨h.f.trans f,h.r.fr f id,h.m.fr f id,h.b.fr f id,h.c.fr f id,h.nr,h.nm,h.nb,h.nc⟩
theorem MdS.setB (h:MdS κ w B κ1 wr rb mb bb bs cv ds) (i:Nat) (y:Bool):MdS κ w B κ1 (wr.setCell ⟨bb,i,none⟩ (.bool y)) rb mb bb (bs.set i y) cv ds:=by
 have f:=frs κ1 wr (i:=i) (u := .bool y) h.b.k
 refine ⟨h.f.loc (wJ wr bb i _) (fun j e=>by injection e with e;subst e;exact h.nb),h.r.fr f (by simp),h.m.fr f (by simp),?_,h.c.fr f (by simp),h.nr,h.nm,h.nb,h.nc⟩
 have:=h.b.set_ i (.bool y)
 rw [gF,←fL] at this
 exact this
theorem MdS.push (h:MdS κ w B κ1 wr rb mb bb bs cv ds) {d:Diff} {v':Value} {o:Obj} (ho:w2.ownsRow 0 50 3 v' (ds.length+1) (ds.flatMap Diff.cells++d.cells)) (hg:(wr.alloc o).grownBy w2 cv.ownBlock) (hat:v'.ownBlock=cv.ownBlock∨v'.ownBlock=some (wr.alloc o).heap.size) :
  ∃κ2,MdS κ w B κ2 w2 rb mb bb bs v' (ds++[d]):=by
 have f0:=Fr.alloc κ1 wr o (fun c=>c = .tmp 2)
 obtain ⟨κ2,j1,j2⟩:=(h.c.fr (Fr.alloc κ1 wr o (fun _=>False)) id).app (S:=fun c=>c = .tmp 2) ho hg hat rfl
 have f:=f0.trans j2
 refine ⟨κ2,?_,h.r.fr f (by simp),h.m.fr f (by simp),h.b.fr f (by simp),?_,h.nr,h.nm,h.nb,fun j hj => ?_⟩
 ·have fl:Fr κ κ1 w w2 (fun _=>False):=(h.f.trans (Fr.alloc κ1 wr o _)).loc hg h.nc
  exact fl.recol fun j hj=>j2.ext j (qG hj (zZ h.f.size (by simp)))
 ·rw [zK,uB]
  simpa using j1
 ·rcases hat with e|e
  ·exact h.nc j (by rw [←e];exact hj)
  ·rw [e] at hj;injection hj with hj;have:=h.f.size;simp at hj;omega
end
def ModRet (w:World) (f:Form) (N B:Nat) (val:List Int) (en:Ending) (w':World):Prop :=
 ∃bb gi xs,en = .returned (.agg #[.slice (some ⟨bb,0,none⟩) B B, .slice (some ⟨gi,0,none⟩) N N])∧Blk w' bb 4 (cbs (val.map fun y=>decide (0<y))).toArray∧Blk w' gi 3 (ci xs).toArray∧w.heap.size≤bb∧w.heap.size≤gi∧xs.length=N∧(∀v,v<B→∀d,bound f.atoms (litV val v)=some d→Go.Proofs.Yticieifacalocaa.gi xs d.x≤Go.Proofs.Yticieifacalocaa.gi xs d.y+d.c)∧(∀x∈xs, -1000000000000≤x∧x≤0)∧Below w.heap.size w w'
set_option maxRecDepth 100000 in
set_option maxHeartbeats 4000000 in
theorem model_any {κ:Kap} {w:World} {g:Nat} {s:Sol} {V:EV} {U:SV} {f:Form} {N B:Nat} (h:SolM κ w g s V U) (hq:SolQ f B N) (hd:DU κ w U.av f.atoms) (hm:ModelOk f B s.e.val) (hfi:U.fi=f.ints) :
  Calls Try.prog 41 #[.pointer (some ⟨g,0,none⟩)] w (ModRet w f N B s.e.val):=by
 obtain ⟨iD,hiD,hzD0,hzD1,hzD2⟩:=qC aD
 have hvl:=hm.len
 have hB:=hq.bl
 have mk:=fO B (by unfold LIM;omega)
 have HC:Hid (∀d∈f.atoms, -9223372036854775807≤d.c):=Lib.hid fun d hd=>by have:=(hq.at_ d hd);omega
 have HQ:=Lib.hid hq
 have HM:=Lib.hid hm
 have HS:=Lib.hid h
 have HD:=Lib.hid hd
 have HFI:=Lib.hid hfi
 have HVL:=Lib.hid hvl
 have q3:=h.eng.cellE (i:=3) rfl
 rw [hvl] at q3
 have f1:=Fr.make κ w (.cells #[.slice none 0 0, .slice none 0 0] 35) (.tmp 3) (fun _=>False)
 have HR1:=Lib.hid (HB.new κ w (.tmp 3) #[.slice none 0 0, .slice none 0 0] 35)
 have HF1:=Lib.hid f1
 have HS1:=Lib.hid (h.fr f1 fun _ _=>id)
 have q3a:=HS1.out.eng.cellE (i:=3) rfl
 rw [hvl] at q3a
 clear h hd hm hfi hq f1 q3 hvl
 go_enter Try.func41,Try.ntmps41
 go_upto_region 1 with fail
 generalize kset κ w.heap.size (.tmp 3)=κ1 at *
 generalize w.alloc (.cells #[.slice none 0 0, .slice none 0 0] 35)=W1 at *
 obtain ⟨rb,hrb⟩:∃rb,rb=w.heap.size:=⟨_,rfl⟩
 have HRB:Hid (w.heap.size≤rb):=Lib.hid (by omega)
 rw [←hrb] at HR1 ⊢
 clear hrb
 go_upto_region 2 with fail
 clear q3a
 have HM0:Hid (MdS κ w B (kset (kset κ1 W1.heap.size (.tmp 1)) (W1.heap.size+1) (.tmp 0)) ((W1.alloc (.cells (cbs (List.replicate B false)).toArray 4)).alloc (.cells #[.slice (some ⟨W1.heap.size,0,none⟩) B B, .slice none 0 0] 35)) rb (W1.heap.size+1) W1.heap.size (boolK s.e.val B 0) (.slice none (conK f s.e.val 0).length 0) (conK f s.e.val 0)):=by
  have e1:(W1.alloc (.cells (cbs (List.replicate B false)).toArray 4)).heap.size=W1.heap.size+1:=by simp
  have f2:=Fr.make κ1 W1 (.cells (cbs (List.replicate B false)).toArray 4) (.tmp 1) (fun _=>False)
  have f3:=Fr.make (kset κ1 W1.heap.size (.tmp 1)) (W1.alloc (.cells (cbs (List.replicate B false)).toArray 4)) (.cells #[.slice (some ⟨W1.heap.size,0,none⟩) B B, .slice none 0 0] 35) (.tmp 0) (fun _=>False)
  have hb2:=HB.new κ1 W1 (.tmp 1) (cbs (List.replicate B false)).toArray 4
  have hb3:=HB.new (kset κ1 W1.heap.size (.tmp 1)) (W1.alloc (.cells (cbs (List.replicate B false)).toArray 4)) (.tmp 0) #[.slice (some ⟨W1.heap.size,0,none⟩) B B, .slice none 0 0] 35
  rw [e1] at f3 hb3
  have hsz:=HF1.out.size
  refine Lib.hid ⟨HF1.out.trans (f2.trans f3),(HR1.out.fr f2 id).fr f3 id,hb3,?_,Hold.nil _ _ _ _ _,HRB.out,by omega,hsz,fun j hj=>by cases hj⟩
  have:=hb2.fr f3 id
  simpa [boolK] using this
 clear HR1 HF1 HS1 HRB mk
 generalize kset (kset κ1 W1.heap.size (.tmp 1)) (W1.heap.size+1) (.tmp 0)=κ3 at *
 generalize (W1.alloc (.cells (cbs (List.replicate B false)).toArray 4)).alloc (.cells #[.slice (some ⟨W1.heap.size,0,none⟩) B B, .slice none 0 0] 35)=W3 at *
 generalize W1.heap.size+1=mb at *
 generalize W1.heap.size=bb at *
 have q3:=(HS.out.fr HM0.out.f fun _ _=>id).eng.cellE (i:=3) rfl
 rw [HVL.out] at q3
 go_wp2_with fail
 clear q3
 go_loopw [4,24] (fun c i wr=>∃(k:Nat) (κ4:Kap) (Av:Option Addr) (cc:Nat),k≤B∧i = .int .i64 (k:Int)∧c = .slice Av (conK f s.e.val k).length cc∧Hid (MdS κ w B κ4 wr rb mb bb (boolK s.e.val B k) (.slice Av (conK f s.e.val k).length cc) (conK f s.e.val k))) (fun _ i _=>B-(intOf i).toNat)
 case atStart=>exact ⟨0,κ3,none,0,zS _,rfl,rfl,HM0⟩
 case round =>
  clear HM0
  obtain ⟨k,κ4,Av,cc,hk,rfl,rfl,HMS⟩:=hrel
  by_cases hlt:k<B
  ·have hSM:=HS.out.fr HMS.out.f fun _ _=>id
   have qv:=hSM.eng.valAt (v:=k) (by rw [HVL.out];exact hlt)
   have qm:=HMS.out.m.cell 0
   simp only [zA,zB] at qm
   have qb:=dZ HMS.out.b.b (k:=k) (by rw [boolK_len HVL.out hk];exact hlt)
   have zb:=HMS.out.b.frozen k
   have yk:(k:Int)<(B:Int):=by omega
   have HKB:=Lib.hid (And.intro hk hlt)
   have hset:=HMS.out.setB k (decide (0<s.e.val.getD k 0))
   rw [boolK_set HVL.out hlt] at hset
   rcases HM.out.v3 k hlt with hy|hy
   ·rw [hy] at qv
    have hlv:litV s.e.val k=(k:Int)+1:=by unfold litV;rw [hy];rfl
    have hdc:decide (0<s.e.val.getD k 0)=true:=by rw [hy];rfl
    rw [hdc] at hset
    have HSET:=Lib.hid hset
    have hS5:=HS.out.fr HSET.out.f fun _ _=>id
    have q13:=hS5.eng.cellR (i:=4) rfl
    have q14:=hS5.eng.cellR (i:=5) rfl
    have q15:=hS5.eng.cellR (i:=6) rfl
    have q16:=hS5.eng.cellR (i:=7) rfl
    simp only [Nat.reduceAdd] at q13 q14 q15 q16
    have HBO:=Lib.hid (aJ (.int .i64 U.fi) (.int .i64 U.fb) U.av U.cv f.atoms _ ((k:Int)+1) (HD.out.fr HSET.out.f).diffs HC.out ⟨by omega,by omega⟩)
    rw [←hlv] at HBO
    have HLV:=Lib.hid hlv
    clear hset hS5 hSM hy hlv hdc hk hlt HMS
    go_upto_region 10 with fail
    clear qv qm qb zb
    generalize wr.setCell ⟨bb,k,none⟩ (.bool true)=W5 at *
    have HBO2:Hid (Calls Try.prog 67 #[.agg #[.int .i64 U.fi, .int .i64 U.fb,U.av,U.cv], .int .i64 ((k:Int)+1)] W5 fun e w'=>e = .returned (boundVal (bound f.atoms (litV s.e.val k)))∧Below W5.heap.size W5 w'):=by
     have:=HBO.out
     rw [HLV.out] at this ⊢
     exact Lib.hid this
    clear HBO
    cases hbd:bound f.atoms (litV s.e.val k) with
    | none =>
     rw [hbd] at HBO2
     simp only [boundVal,Diff.val] at HBO2
     have HK:=Lib.hid (oT hbd)
     clear hbd
     go_wp2_with fail
     refine HBO2.out.mono ?_
     rintro e W6 ⟨rfl,hb6⟩
     have HM6:=Lib.hid ((HSET.out.keep hb6).keep ((zL _ _).alloc (Nat.le_refl _) (.cells #[.int .i64 0, .int .i64 0, .int .i64 0] 50)))
     clear hb6 q13 q14 q15 q16 HBO2 HSET
     have hlt:=HKB.out.2
     go_wp2_with fail
     go_roundw
     case rel=>exact ⟨k+1,κ4,Av,cc,by omega,by go_num,by rw [HK.out],by rw [HK.out];exact HM6⟩
     case measure=>simp [intOf];omega
    | some d =>
     rw [hbd] at HBO2
     simp only [boundVal,Diff.val] at HBO2
     have HK:=Lib.hid (oX hbd)
     clear hbd
     go_wp2_with fail
     refine HBO2.out.mono ?_
     rintro e W6 ⟨rfl,hb6⟩
     have HM6:=Lib.hid ((HSET.out.keep hb6).keep ((zL _ _).alloc (Nat.le_refl _) (.cells #[.int .i64 d.x, .int .i64 d.y, .int .i64 d.c] 50)))
     have b0:=(Blk.new W6 50 #[.int .i64 d.x, .int .i64 d.y, .int .i64 d.c]).cell 0
     have b1:=(Blk.new W6 50 #[.int .i64 d.x, .int .i64 d.y, .int .i64 d.c]).cell 1
     have b2:=(Blk.new W6 50 #[.int .i64 d.x, .int .i64 d.y, .int .i64 d.c]).cell 2
     simp only [zA,zB,zC] at b0 b1 b2
     clear hb6 q13 q14 q15 q16 HBO2 HSET
     go_upto_region 12 with fail
     generalize W6.alloc (.cells #[.int .i64 d.x, .int .i64 d.y, .int .i64 d.c] 50)=W7 at *
     have HLK:Hid ((conK f s.e.val k).length+1≤maxLen∧((conK f s.e.val k).length+1) * 24≤140737488355328):=by
      refine Lib.hid ?_
      have h1:=lU f s.e.val k
      have h2:=HKB.out.2
      unfold maxLen
      omega
     have HOC:Hid (∀u∈([.int .i64 d.x, .int .i64 d.y, .int .i64 d.c]:List Value),u.oneCell'=true):=Lib.hid (by intro u hu;simp at hu;rcases hu with rfl|rfl|rfl<;>rfl)
     go_wp2_with (at_builtin;refine zV _ rfl _ _ 26 rfl 0 50 iD (.agg #[.int .i64 0, .int .i64 0, .int .i64 0]) 3 24 Try.underlying26 hiD hzD0 hzD1 hzD2 rfl (by decide) _ _ _ rfl (HM6.out.c.o.alloc _) ⟨W7.heap.size,0,none⟩ 1 1 [.int .i64 d.x, .int .i64 d.y, .int .i64 d.c] rfl rfl (gH W7 50 [.int .i64 d.x, .int .i64 d.y, .int .i64 d.c] rfl) HOC.out HLK.out.1 HLK.out.2 (zS _) ?_)
     intro v' w9 hown hgrow _ hat
     obtain ⟨A9,c9,hv9, -, -, -⟩:=wK hown
     subst hv9
     obtain ⟨κ9,h9⟩:=HM6.out.push (d:=d) hown hgrow (by simpa using hat)
     have HM9:Hid (MdS κ w B κ9 w9 rb mb bb (boolK s.e.val B (k+1)) (.slice A9 (conK f s.e.val (k+1)).length c9) (conK f s.e.val (k+1))):=by
      rw [HK.out,zK]
      exact Lib.hid h9
     have HLL:Hid ((conK f s.e.val (k+1)).length=(conK f s.e.val k).length+1):=Lib.hid (by rw [HK.out,zK];rfl)
     have hlt:=HKB.out.2
     clear hown hgrow hat h9 HM6 b0 b1 b2
     go_wp2_with fail
     go_roundw
     case rel=>exact ⟨k+1,κ9,A9,c9,by omega,by go_num,by rw [HLL.out],HM9⟩
     case measure=>simp [intOf];omega
   ·rw [hy] at qv
    have hlv:litV s.e.val k = -((k:Int)+1):=by unfold litV;rw [hy];rfl
    have hdc:decide (0<s.e.val.getD k 0)=false:=by rw [hy];rfl
    rw [hdc] at hset
    have HSET:=Lib.hid hset
    have hS5:=HS.out.fr HSET.out.f fun _ _=>id
    have q13:=hS5.eng.cellR (i:=4) rfl
    have q14:=hS5.eng.cellR (i:=5) rfl
    have q15:=hS5.eng.cellR (i:=6) rfl
    have q16:=hS5.eng.cellR (i:=7) rfl
    simp only [Nat.reduceAdd] at q13 q14 q15 q16
    have HBO:=Lib.hid (aJ (.int .i64 U.fi) (.int .i64 U.fb) U.av U.cv f.atoms _ (-((k:Int)+1)) (HD.out.fr HSET.out.f).diffs HC.out ⟨by omega,by omega⟩)
    rw [←hlv] at HBO
    have HLV:=Lib.hid hlv
    clear hset hS5 hSM hy hlv hdc hk hlt HMS
    go_upto_region 10 with fail
    clear qv qm qb zb
    generalize wr.setCell ⟨bb,k,none⟩ (.bool false)=W5 at *
    have HBO2:Hid (Calls Try.prog 67 #[.agg #[.int .i64 U.fi, .int .i64 U.fb,U.av,U.cv], .int .i64 (-((k:Int)+1))] W5 fun e w'=>e = .returned (boundVal (bound f.atoms (litV s.e.val k)))∧Below W5.heap.size W5 w'):=by
     have:=HBO.out
     rw [HLV.out] at this ⊢
     exact Lib.hid this
    clear HBO
    cases hbd:bound f.atoms (litV s.e.val k) with
    | none =>
     rw [hbd] at HBO2
     simp only [boundVal,Diff.val] at HBO2
     have HK:=Lib.hid (oT hbd)
     clear hbd
     go_wp2_with fail
     refine HBO2.out.mono ?_
     rintro e W6 ⟨rfl,hb6⟩
     have HM6:=Lib.hid ((HSET.out.keep hb6).keep ((zL _ _).alloc (Nat.le_refl _) (.cells #[.int .i64 0, .int .i64 0, .int .i64 0] 50)))
     clear hb6 q13 q14 q15 q16 HBO2 HSET
     have hlt:=HKB.out.2
     go_wp2_with fail
     go_roundw
     case rel=>exact ⟨k+1,κ4,Av,cc,by omega,by go_num,by rw [HK.out],by rw [HK.out];exact HM6⟩
     case measure=>simp [intOf];omega
    | some d =>
     rw [hbd] at HBO2
     simp only [boundVal,Diff.val] at HBO2
     have HK:=Lib.hid (oX hbd)
     clear hbd
     go_wp2_with fail
     refine HBO2.out.mono ?_
     rintro e W6 ⟨rfl,hb6⟩
     have HM6:=Lib.hid ((HSET.out.keep hb6).keep ((zL _ _).alloc (Nat.le_refl _) (.cells #[.int .i64 d.x, .int .i64 d.y, .int .i64 d.c] 50)))
     have b0:=(Blk.new W6 50 #[.int .i64 d.x, .int .i64 d.y, .int .i64 d.c]).cell 0
     have b1:=(Blk.new W6 50 #[.int .i64 d.x, .int .i64 d.y, .int .i64 d.c]).cell 1
     have b2:=(Blk.new W6 50 #[.int .i64 d.x, .int .i64 d.y, .int .i64 d.c]).cell 2
     simp only [zA,zB,zC] at b0 b1 b2
     clear hb6 q13 q14 q15 q16 HBO2 HSET
     go_upto_region 12 with fail
     generalize W6.alloc (.cells #[.int .i64 d.x, .int .i64 d.y, .int .i64 d.c] 50)=W7 at *
     have HLK:Hid ((conK f s.e.val k).length+1≤maxLen∧((conK f s.e.val k).length+1) * 24≤140737488355328):=by
      refine Lib.hid ?_
      have h1:=lU f s.e.val k
      have h2:=HKB.out.2
      unfold maxLen
      omega
     have HOC:Hid (∀u∈([.int .i64 d.x, .int .i64 d.y, .int .i64 d.c]:List Value),u.oneCell'=true):=Lib.hid (by intro u hu;simp at hu;rcases hu with rfl|rfl|rfl<;>rfl)
     go_wp2_with (at_builtin;refine zV _ rfl _ _ 26 rfl 0 50 iD (.agg #[.int .i64 0, .int .i64 0, .int .i64 0]) 3 24 Try.underlying26 hiD hzD0 hzD1 hzD2 rfl (by decide) _ _ _ rfl (HM6.out.c.o.alloc _) ⟨W7.heap.size,0,none⟩ 1 1 [.int .i64 d.x, .int .i64 d.y, .int .i64 d.c] rfl rfl (gH W7 50 [.int .i64 d.x, .int .i64 d.y, .int .i64 d.c] rfl) HOC.out HLK.out.1 HLK.out.2 (zS _) ?_)
     intro v' w9 hown hgrow _ hat
     obtain ⟨A9,c9,hv9, -, -, -⟩:=wK hown
     subst hv9
     obtain ⟨κ9,h9⟩:=HM6.out.push (d:=d) hown hgrow (by simpa using hat)
     have HM9:Hid (MdS κ w B κ9 w9 rb mb bb (boolK s.e.val B (k+1)) (.slice A9 (conK f s.e.val (k+1)).length c9) (conK f s.e.val (k+1))):=by
      rw [HK.out,zK]
      exact Lib.hid h9
     have HLL:Hid ((conK f s.e.val (k+1)).length=(conK f s.e.val k).length+1):=Lib.hid (by rw [HK.out,zK];rfl)
     have hlt:=HKB.out.2
     clear hown hgrow hat h9 HM6 b0 b1 b2
     go_wp2_with fail
     go_roundw
     case rel=>exact ⟨k+1,κ9,A9,c9,by omega,by go_num,by rw [HLL.out],HM9⟩
     case measure=>simp [intOf];omega
  ·obtain rfl:k=B:=by omega
   have yk:¬((k:Int)<(k:Int)):=by omega
   have q13:=(HS.out.fr HMS.out.f fun _ _=>id).eng.cellR (i:=4) rfl
   simp only [Nat.reduceAdd] at q13
   rw [HFI.out,HQ.out.n] at q13
   have HE:Hid (bX N 1048577 (conK f s.e.val k)):=Lib.hid fun j e he=>by
    obtain ⟨v, -,hb⟩:=nN (List.mem_of_getElem? he)
    exact cF HQ.out hb
   have hok:∀d∈conK f s.e.val k,d.ok:=fun d hd=>by
    obtain ⟨v, -,hb⟩:=nN hd
    obtain ⟨a1,a2,a3,a4, -,a5,a6⟩:=cF HQ.out hb
    have:=HQ.out.nl
    exact ⟨⟨by omega,by omega⟩,⟨by omega,by omega⟩,⟨by omega,by omega⟩⟩
   have HDV:=Lib.hid (bH HMS.out.c.o hok)
   have HLK:Hid ((conK f s.e.val k).length≤1024):=Lib.hid (by have:=lU f s.e.val k;omega)
   have HDS:=Lib.hid (dsolve_any N (.slice Av (conK f s.e.val k).length cc) (conK f s.e.val k) wr 1048577 HDV.out HE.out HQ.out.nl HLK.out (by omega) (by omega) (by
    obtain ⟨X,hX⟩:=HM.out.sol
    refine ⟨X,fun d hd => ?_⟩
    obtain ⟨v,hv,hb⟩:=nN hd
    exact hX v hv d hb))
   clear hok hlt hk
   go_wp2_with fail
   refine HDS.out.mono ?_
   rintro e W6 ⟨gx,xs,rfl,hx,hgx,hxl,hxs,hxb,hb6⟩
   have HM6:=Lib.hid (HMS.out.keep hb6)
   have HNE:Hid (gx≠mb∧gx≠rb):=Lib.hid ⟨by have:=HMS.out.m.b.lt;omega,by have:=HMS.out.r.b.lt;omega⟩
   have hsz:=HMS.out.f.size
   have HX:=Lib.hid (And.intro hx (And.intro (zZ hsz hgx) (And.intro hxl (And.intro hxs hxb))))
   have qm1:=HM6.out.m.cell 1
   have zm1:=HM6.out.m.frozen 1
   simp only [zA,zB,zC] at qm1
   clear hx hgx hxl hxs hxb hb6 hsz HDS HMS HDV q13
   go_upto_region 15 with fail
   clear qm1 zm1
   have fm:=frs κ4 W6 (i:=1) (u := .slice (some ⟨gx,0,none⟩) N N) HM6.out.m.k
   have HMM:Hid (HB κ4 (W6.setCell ⟨mb,1,none⟩ (.slice (some ⟨gx,0,none⟩) N N)) (.tmp 0) mb 35 #[.slice (some ⟨bb,0,none⟩) k k, .slice (some ⟨gx,0,none⟩) N N]):=Lib.hid (HM6.out.m.set_ 1 (.slice (some ⟨gx,0,none⟩) N N))
   have HRR:=Lib.hid (HM6.out.r.fr fm (by simp))
   have HBB:=Lib.hid (HM6.out.b.fr fm (by simp))
   have HXX:Hid (Blk (W6.setCell ⟨mb,1,none⟩ (.slice (some ⟨gx,0,none⟩) N N)) gx 3 (ci xs).toArray):=by
    refine Lib.hid ?_
    exact ((wJ W6 mb 1 (.slice (some ⟨gx,0,none⟩) N N)).block gx HX.out.1.lt (fun e=>by injection e with e;exact HNE.out.1 e)).trans HX.out.1
   have HFF:Hid (Fr κ κ4 w (W6.setCell ⟨mb,1,none⟩ (.slice (some ⟨gx,0,none⟩) N N)) (fun _=>False)):=Lib.hid (HM6.out.f.loc (wJ W6 mb 1 _) (fun j e=>by injection e with e;subst e;exact HM6.out.nm))
   have HNR:=Lib.hid (And.intro HM6.out.nr HM6.out.nb)
   clear HM6 fm
   generalize W6.setCell ⟨mb,1,none⟩ (.slice (some ⟨gx,0,none⟩) N N)=W7 at *
   have m0:=HMM.out.cell 0
   have m1:=HMM.out.cell 1
   simp only [zA,zB,zC] at m0 m1
   have hrb:W7.heap[rb]? = some (.cells #[.slice none 0 0, .slice none 0 0] 35):=HRR.out.b
   go_step
   go_step
   go_step
   go_step
   refine kG rfl 35 (.tmp 2) (.tmp 69) rfl rb #[.slice (some ⟨bb,0,none⟩) k k, .slice (some ⟨gx,0,none⟩) N N] rfl rfl 35 _ hrb (by kernel_rfl) rfl (by simp [Value.oneCell']) ?_
   have hr9:Blk (W7.setRow rb #[.slice (some ⟨bb,0,none⟩) k k, .slice (some ⟨gx,0,none⟩) N N]) rb 35 #[.slice (some ⟨bb,0,none⟩) k k, .slice (some ⟨gx,0,none⟩) N N]:=vM W7 _ _ _ _ _ hrb
   have hFIN:ModRet w f N k s.e.val (.returned (.agg #[.slice (some ⟨bb,0,none⟩) k k, .slice (some ⟨gx,0,none⟩) N N])) (W7.setRow rb #[.slice (some ⟨bb,0,none⟩) k k, .slice (some ⟨gx,0,none⟩) N N]):=by
    have fr:=Fr.row κ4 W7 (cs := #[.slice (some ⟨bb,0,none⟩) k k, .slice (some ⟨gx,0,none⟩) N N]) (S:=fun s=>s = .tmp 3) HRR.out.k rfl
    have hb9:=(HBB.out.fr fr (by simp)).b
    rw [boolK_all HVL.out] at hb9
    have ff:=HFF.out
    have hbl:Below w.heap.size w W7:=⟨ff.os,ff.tape,ff.output,ff.size,fun k hk=>ff.blk k hk fun _ _=>id⟩
    exact ⟨bb,gx,xs,rfl,hb9,(vR W7 rb gx _ HNE.out.2).trans HXX.out,HNR.out.2,HX.out.2.1,HX.out.2.2.1,fun v hv d hd=>HX.out.2.2.2.1 d (mem_conK hv hd),HX.out.2.2.2.2,jA hbl HNR.out.1 _⟩
   have HFIN:=Lib.hid hFIN
   clear hFIN HX HFF HXX HBB HRR HMM hrb m0 m1
   generalize W7.setRow rb #[.slice (some ⟨bb,0,none⟩) k k, .slice (some ⟨gx,0,none⟩) N N]=W9 at *
   have r0:=hr9.cell 0
   have r1:=hr9.cell 1
   simp only [zA,zB,zC] at r0 r1
   clear hr9
   go_wp2_with fail
   exact xM (v := .agg #[.slice (some ⟨bb,0,none⟩) k k, .slice (some ⟨gx,0,none⟩) N N]) (by simp [results,Try.results41,go_sem,r0,r1]) rfl HFIN.out
section
variable (av cv:Value) (f:Form) (w:World)
set_option maxRecDepth 100000 in
set_option maxHeartbeats 2000000 in
theorem rP (hA:Diffs w av f.atoms) (hM:Mat w cv f.clauses)
  (g1:f.ints≤32) (g2:f.bools≤1024) (g3:(f.clauses.length:Int)≤32768) (g4:0≤f.ints) (g5:0≤f.bools) (g6:(f.atoms.length:Int)≤f.bools) :
  Calls Try.prog 35 #[.agg #[.int .i64 f.ints, .int .i64 f.bools,av,cv]] w fun e w'=>e = .returned (.int .i64 (okNo (bodyOk f)))∧Below w.heap.size w w':=by
 obtain ⟨A,c,rfl,ha1,ha2,ha3,har⟩:=hA
 obtain ⟨A',c',vs,rfl,hc1,hc2,hc3,hcr,hci⟩:=hM
 have HCR:=Lib.hid hcr
 have HCI:=Lib.hid hci
 have HC3:=Lib.hid hc3
 have HAR:=Lib.hid har
 clear ha2 hc2 ha3 har hcr hci hc3
 obtain ⟨ints,bools,atoms,clauses⟩:=f
 simp only at *
 have d1:decide (32<ints)=false:=by simp;omega
 have d2:decide (1024<bools)=false:=by simp;omega
 have d3:decide (32768<(clauses.length:Int))=false:=by simp;omega
 have d4:decide (ints<0)=false:=by simp;omega
 have d5:decide (bools<0)=false:=by simp;omega
 have d6:decide (bools<(atoms.length:Int))=false:=by simp;omega
 go_enter Try.func35,Try.ntmps35
 go_wp2
 have B0:=Blk.new w 29 #[.int .i64 ints, .int .i64 bools, .slice A atoms.length c, .slice A' clauses.length c']
 generalize hW:w.alloc (.cells #[.int .i64 ints, .int .i64 bools, .slice A atoms.length c, .slice A' clauses.length c'] 29)=W at B0 ⊢
 have hsz:W.heap.size=w.heap.size+1:=by rw [←hW];simp
 have hbW:Below w.heap.size w W:=by rw [←hW];go_grown
 have HS:=Lib.hid hsz
 have HB0:=Lib.hid B0
 clear hW hsz B0
 go_loopw [42] (fun i wr=>∃k:Nat,k≤atoms.length∧i = .int .i64 k∧(atoms.take k).all (dY ints)=true∧Below (w.heap.size+1) W wr) (fun i _=>atoms.length-(intOf i).toNat)
 case atStart=>exact ⟨0,by omega,rfl,by simp,zL _ _⟩
 case round =>
  obtain ⟨k,hk,rfl,hall,hbw⟩:=hrel
  have HALL:=Lib.hid hall
  have B1:=HB0.out.below hbw (by omega)
  have q0:=B1.cell 0
  have q1:=B1.cell 1
  have q2:=B1.cell 2
  have q3:=B1.cell 3
  simp only [zA,zB,zC] at q0 q1 q2 q3
  have HB1:=Lib.hid B1
  clear hall B1
  have hz:w.heap.size<wr.heap.size:=by have:=hbw.size;have:=HS.out;omega
  have hbb:Below w.heap.size w wr:=hbW.trans (hbw.mono (by omega))
  by_cases hlt:k<atoms.length
  ·obtain ⟨d,hd⟩:∃d,atoms[k]? = some d:=⟨_,List.getElem?_eq_getElem hlt⟩
   obtain ⟨b1,o1,rfl,hb1,hc1,hc2,hc3⟩:=(HAR.out.keep hbb).diff hd
   obtain ⟨x,y,z⟩:=d
   have HD:=Lib.hid hd
   clear hd
   simp only at hc1 hc2 hc3
   by_cases hxy:x=y
   ·have hxb:(x == y)=true:=by simp [hxy]
    have HXY:=Lib.hid hxy
    clear hxy
    go_wp2
    all_goals
     go_ret
     exact ⟨aL (by rw [lE HD.out (pE fun h=>(gU.1 h).2.2.2.2.1 HXY.out)];rfl),by go_grown⟩
   ·have hxb:(x == y)=false:=by simp [hxy]
    go_wp2
    case roundEnd =>
     refine ⟨⟨k+1,by omega,by go_num,dW HALL.out HD.out (gU.2 (by omega)),hbw.alloc (by omega) _⟩,by simp [intOf];omega⟩
    all_goals
     go_ret
     exact ⟨aL (by rw [lE HD.out (pE fun h=>by have:=(gU (ints:=ints)).1 h;omega)];rfl),by go_grown⟩
  ·have HA:Hid (atoms.all (dY ints)=true):=aW HALL.out (by omega)
   clear HALL HAR hbw HB0
   obtain ⟨w2,rfl⟩:∃w2:World,w2=wr:=⟨_,rfl⟩
   go_wp2
   go_loop [87] (fun i=>∃k:Nat,k≤clauses.length∧i = .int .i64 k∧((clauses.take k).all fun c=>c.all (bR bools))=true) (fun i=>clauses.length-(intOf i).toNat)
   case atStart=>exact ⟨0,by omega,rfl,by simp⟩
   case round =>
    obtain ⟨k,hk,rfl,hall⟩:=hrel
    have HALL:=Lib.hid hall
    clear hall
    by_cases hlt:k<clauses.length
    ·obtain ⟨xs,hxs⟩:∃x,clauses[k]? = some x:=⟨_,List.getElem?_eq_getElem hlt⟩
     obtain ⟨b,off,A1,c1,rfl,hb,hcell,hint⟩:=Mat.at_ HCR.out HC3.out HCI.out hxs
     have hcell2:=(hbb.cell (p:=⟨b,off+k,none⟩) hb).trans hcell
     obtain ⟨_,_,hv,hI1,hI2,hI3,hI4⟩:=hint
     injection hv with hv1 hv2 hv3
     subst hv1 hv3
     have HR:=Lib.hid (hI4.keep hbb)
     have HX:=Lib.hid hxs
     clear hv2 hI3 hI4 hcell hxs
     unfold maxLen at hI2
     go_wp2
     go_loop [93] (fun i=>∃j:Nat,j≤xs.length∧i = .int .i64 j∧((xs.take j).all (bR bools))=true) (fun i=>xs.length-(intOf i).toNat)
     case atStart=>exact ⟨0,by omega,rfl,by simp⟩
     case round =>
      obtain ⟨j,hj,rfl,hall2⟩:=hrel
      have HALL2:=Lib.hid hall2
      clear hall2
      by_cases hlt2:j<xs.length
      ·obtain ⟨x,hx⟩:∃x,xs[j]? = some x:=⟨_,List.getElem?_eq_getElem hlt2⟩
       obtain ⟨b2,o2,rfl,hb2,hc2⟩:=HR.out.int hx
       have HXJ:=Lib.hid hx
       clear hx
       by_cases hx0:x=0
       ·have hxb:(x == 0)=true:=by simp [hx0]
        have HXY:=Lib.hid hx0
        clear hx0
        go_wp2
        all_goals
         go_ret
         exact ⟨aL (by rw [mU HX.out HXJ.out (pE fun h=>((gW (bools:=bools)).1 h).1 HXY.out)];rfl),by go_grown⟩
       ·have hxb:(x == 0)=false:=by simp [hx0]
        go_wp2
        case roundEnd =>
         refine ⟨⟨j+1,by omega,by go_num,dW HALL2.out HXJ.out ((gW (bools:=bools)).2 (by omega))⟩,by simp [intOf];omega⟩
        all_goals
         go_ret
         exact ⟨aL (by rw [mU HX.out HXJ.out (pE fun h=>by have:=(gW (bools:=bools)).1 h;omega)];rfl),by go_grown⟩
      ·have HA2:Hid (xs.all (bR bools)=true):=aW HALL2.out (by omega)
       go_wp2
       go_round
       case rel=>exact ⟨k+1,by omega,by go_num,dW HALL.out HX.out HA2.out⟩
       case measure=>simp [intOf];omega
    ·have HC:Hid ((clauses.all fun c=>c.all (bR bools))=true):=aW HALL.out (by omega)
     go_wp2
     go_ret
     exact ⟨aL (by rw [mN HA.out HC.out];rfl),by go_grown⟩
set_option maxRecDepth 100000 in
theorem fvalid_head0 (hA:Diffs w av f.atoms) (hM:Mat w cv f.clauses) (g1:32<f.ints) :
  Calls Try.prog 35 #[.agg #[.int .i64 f.ints, .int .i64 f.bools,av,cv]] w fun e w'=>e = .returned (.int .i64 2)∧Below w.heap.size w w':=by
 obtain ⟨A,c,rfl,ha1,ha2,ha3,har⟩:=hA
 obtain ⟨A',c',vs,rfl,hc1,hc2,hc3,hcr,hci⟩:=hM
 clear ha2 hc2 ha3 har hcr hci hc3
 obtain ⟨ints,bools,atoms,clauses⟩:=f
 simp only at *
 have d1:decide (32<ints)=true:=by simp;omega
 go_enter Try.func35,Try.ntmps35
 go_wp2
 go_ret
 exact ⟨rfl,by go_grown⟩
set_option maxRecDepth 100000 in
theorem fvalid_head1 (hA:Diffs w av f.atoms) (hM:Mat w cv f.clauses) (g1:f.ints≤32) (g2:1024<f.bools) :
  Calls Try.prog 35 #[.agg #[.int .i64 f.ints, .int .i64 f.bools,av,cv]] w fun e w'=>e = .returned (.int .i64 2)∧Below w.heap.size w w':=by
 obtain ⟨A,c,rfl,ha1,ha2,ha3,har⟩:=hA
 obtain ⟨A',c',vs,rfl,hc1,hc2,hc3,hcr,hci⟩:=hM
 clear ha2 hc2 ha3 har hcr hci hc3
 obtain ⟨ints,bools,atoms,clauses⟩:=f
 simp only at *
 have d1:decide (32<ints)=false:=by simp;omega
 have d2:decide (1024<bools)=true:=by simp;omega
 go_enter Try.func35,Try.ntmps35
 go_wp2
 go_ret
 exact ⟨rfl,by go_grown⟩
set_option maxRecDepth 100000 in
theorem fvalid_head2 (hA:Diffs w av f.atoms) (hM:Mat w cv f.clauses) (g1:f.ints≤32) (g2:f.bools≤1024) (g3:32768<(f.clauses.length:Int)) :
  Calls Try.prog 35 #[.agg #[.int .i64 f.ints, .int .i64 f.bools,av,cv]] w fun e w'=>e = .returned (.int .i64 2)∧Below w.heap.size w w':=by
 obtain ⟨A,c,rfl,ha1,ha2,ha3,har⟩:=hA
 obtain ⟨A',c',vs,rfl,hc1,hc2,hc3,hcr,hci⟩:=hM
 clear ha2 hc2 ha3 har hcr hci hc3
 obtain ⟨ints,bools,atoms,clauses⟩:=f
 simp only at *
 have d1:decide (32<ints)=false:=by simp;omega
 have d2:decide (1024<bools)=false:=by simp;omega
 have d3:decide (32768<(clauses.length:Int))=true:=by simp;omega
 go_enter Try.func35,Try.ntmps35
 go_wp2
 go_ret
 exact ⟨rfl,by go_grown⟩
set_option maxRecDepth 100000 in
theorem fvalid_head3 (hA:Diffs w av f.atoms) (hM:Mat w cv f.clauses) (g1:f.ints≤32) (g2:f.bools≤1024) (g3:(f.clauses.length:Int)≤32768) (g4:f.ints<0) :
  Calls Try.prog 35 #[.agg #[.int .i64 f.ints, .int .i64 f.bools,av,cv]] w fun e w'=>e = .returned (.int .i64 1)∧Below w.heap.size w w':=by
 obtain ⟨A,c,rfl,ha1,ha2,ha3,har⟩:=hA
 obtain ⟨A',c',vs,rfl,hc1,hc2,hc3,hcr,hci⟩:=hM
 clear ha2 hc2 ha3 har hcr hci hc3
 obtain ⟨ints,bools,atoms,clauses⟩:=f
 simp only at *
 have d1:decide (32<ints)=false:=by simp;omega
 have d2:decide (1024<bools)=false:=by simp;omega
 have d3:decide (32768<(clauses.length:Int))=false:=by simp;omega
 have d4:decide (ints<0)=true:=by simp;omega
 go_enter Try.func35,Try.ntmps35
 go_wp2
 go_ret
 exact ⟨rfl,by go_grown⟩
set_option maxRecDepth 100000 in
theorem fvalid_head4 (hA:Diffs w av f.atoms) (hM:Mat w cv f.clauses) (g1:f.ints≤32) (g2:f.bools≤1024) (g3:(f.clauses.length:Int)≤32768) (g4:0≤f.ints) (g5:f.bools<0) :
  Calls Try.prog 35 #[.agg #[.int .i64 f.ints, .int .i64 f.bools,av,cv]] w fun e w'=>e = .returned (.int .i64 1)∧Below w.heap.size w w':=by
 obtain ⟨A,c,rfl,ha1,ha2,ha3,har⟩:=hA
 obtain ⟨A',c',vs,rfl,hc1,hc2,hc3,hcr,hci⟩:=hM
 clear ha2 hc2 ha3 har hcr hci hc3
 obtain ⟨ints,bools,atoms,clauses⟩:=f
 simp only at *
 have d1:decide (32<ints)=false:=by simp;omega
 have d2:decide (1024<bools)=false:=by simp;omega
 have d3:decide (32768<(clauses.length:Int))=false:=by simp;omega
 have d4:decide (ints<0)=false:=by simp;omega
 have d5:decide (bools<0)=true:=by simp;omega
 go_enter Try.func35,Try.ntmps35
 go_wp2
 go_ret
 exact ⟨rfl,by go_grown⟩
set_option maxRecDepth 100000 in
theorem fvalid_head5 (hA:Diffs w av f.atoms) (hM:Mat w cv f.clauses) (g1:f.ints≤32) (g2:f.bools≤1024) (g3:(f.clauses.length:Int)≤32768) (g4:0≤f.ints) (g5:0≤f.bools) (g6:f.bools<(f.atoms.length:Int)) :
  Calls Try.prog 35 #[.agg #[.int .i64 f.ints, .int .i64 f.bools,av,cv]] w fun e w'=>e = .returned (.int .i64 1)∧Below w.heap.size w w':=by
 obtain ⟨A,c,rfl,ha1,ha2,ha3,har⟩:=hA
 obtain ⟨A',c',vs,rfl,hc1,hc2,hc3,hcr,hci⟩:=hM
 clear ha2 hc2 ha3 har hcr hci hc3
 obtain ⟨ints,bools,atoms,clauses⟩:=f
 simp only at *
 have d1:decide (32<ints)=false:=by simp;omega
 have d2:decide (1024<bools)=false:=by simp;omega
 have d3:decide (32768<(clauses.length:Int))=false:=by simp;omega
 have d4:decide (ints<0)=false:=by simp;omega
 have d5:decide (bools<0)=false:=by simp;omega
 have d6:decide (bools<(atoms.length:Int))=true:=by simp;omega
 go_enter Try.func35,Try.ntmps35
 go_wp2
 go_ret
 exact ⟨rfl,by go_grown⟩
theorem nE (v:Value) (hf:IsForm w v f) :
  Calls Try.prog 35 #[v] w fun e w'=>e = .returned (.int .i64 (validF f))∧Below w.heap.size w w':=by
 obtain ⟨av,cv,rfl,hI,hB,hA,hM⟩:=hf
 by_cases g1:32<f.ints
 ·rw [show validF f=2 by unfold validF;rw [if_pos (by omega)]];exact fvalid_head0 av cv f w hA hM g1
 by_cases g2:1024<f.bools
 ·rw [show validF f=2 by unfold validF;rw [if_pos (by omega)]];exact fvalid_head1 av cv f w hA hM (by omega) g2
 by_cases g3:32768<(f.clauses.length:Int)
 ·rw [show validF f=2 by unfold validF;rw [if_pos (by omega)]];exact fvalid_head2 av cv f w hA hM (by omega) (by omega) g3
 by_cases g4:f.ints<0
 ·rw [show validF f=1 by unfold validF;rw [if_neg (by omega),if_pos (by omega)]];exact fvalid_head3 av cv f w hA hM (by omega) (by omega) (by omega) g4
 by_cases g5:f.bools<0
 ·rw [show validF f=1 by unfold validF;rw [if_neg (by omega),if_pos (by omega)]];exact fvalid_head4 av cv f w hA hM (by omega) (by omega) (by omega) (by omega) g5
 by_cases g6:f.bools<(f.atoms.length:Int)
 ·rw [show validF f=1 by unfold validF;rw [if_neg (by omega),if_pos (by omega)]];exact fvalid_head5 av cv f w hA hM (by omega) (by omega) (by omega) (by omega) (by omega) g6
 rw [lI g1 g2 (by omega) g4 g5 g6]
 exact rP av cv f w hA hM (by omega) (by omega) (by omega) (by omega) (by omega) (by omega)
end
end Go.Proofs.Yticieifacalocaa
