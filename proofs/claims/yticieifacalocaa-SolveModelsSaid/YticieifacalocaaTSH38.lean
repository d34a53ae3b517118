/- SolStp -/
import Derived.Test.YticieifacalocaaTSH30
namespace Go.Proofs.Yticieifacalocaa
open Go.RowKit
theorem info_stpS:(Try.prog.info? 91).map (fun i=>(i.zero,i.size,i.bytes))=some (some (.agg #[.int .i64 0, .int .i64 0, .slice none 0 0, .int .i64 0, .int .i64 0, .int .i64 0]),6,64):=by kernel_rfl
theorem mI {org:List Org} {need:List Bool} {c:Nat} {o:Org} (h:org[c]? = some o):needStep org need c=if need.getD c false=true∧o.leaf.kind=0 then o.chain.foldl (fun n l=>n.set l.1 true) (need.set o.first true) else need:=by
 unfold needStep;rw [h]
theorem nZ {w:World} {g k:Nat} {xs:List Bool} (h:Blk w g 4 (cbs xs).toArray) (b:Bool):Blk (w.setCell ⟨g,k,none⟩ (.bool b)) g 4 (cbs (xs.set k b)).toArray:=by
 have:=h.set_ k (.bool b)
 rw [wQ,←eD] at this
 exact this
theorem dJ {w:World} {g k:Nat} {xs:List Bool} (h:Blk w g 4 (cbs xs).toArray) (hk:k<xs.length):w.cell? ⟨g,k,none⟩=some (.bool (xs.getD k false)):=by
 rw [h.cell,zA];exact cb_at hk
theorem cC {B:Nat} {w w':World} (h:Below B w w') {g i:Nat} (hg:B≤g) (v:Value):Below B w (w'.setCell ⟨g,i,none⟩ v):=h.setCell hg v (p:=⟨g,i,none⟩)
theorem cn_set (xs:List Nat) (i:Nat) (y:Nat):cn (xs.set i y)=(cn xs).set i (.int .i64 (y:Int)):=by simp [cn,List.map_set]
theorem cn_row {w:World} {g k:Nat} {xs:List Nat} (h:Blk w g 3 (cn xs).toArray) (b:Nat):Blk (w.setCell ⟨g,k,none⟩ (.int .i64 (b:Int))) g 3 (cn (xs.set k b)).toArray:=by
 have:=h.set_ k (.int .i64 (b:Int))
 rw [wQ,←cn_set] at this
 exact this
theorem cG {w:World} {g k:Nat} {xs:List Nat} (h:Blk w g 3 (cn xs).toArray) (hk:k<xs.length):w.cell? ⟨g,k,none⟩=some (.int .i64 ((xs.getD k 0:Nat):Int)):=by
 rw [h.cell,zA]
 refine cn_at ?_
 rw [List.getD_eq_getElem?_getD,List.getElem?_eq_getElem hk];rfl
def RdI (w:World) (v:Value) (xs:List Int):Prop:=∃A c,v = .slice A xs.length c∧xs.length≤c∧c≤maxLen∧Rd w A (ci xs)
theorem RdI.nil (w:World):RdI w (.slice none 0 0) []:=⟨none,0,rfl,Nat.le_refl _,by simp [maxLen],Rd.nil _ _⟩
theorem lB:∀(ch:List (Nat × Int)) (place:List Nat) (c cur:Nat) (out:List Stp),(gE ch place c cur out).2.length=out.length+ch.length:=by
 intro ch
 induction ch with
 | nil=>intro place c cur out;simp [gE]
 | cons x ch ih=>intro place c cur out;obtain ⟨k,l⟩:=x;rw [gE,ih];simp;omega
theorem sR (org:List Org) (need:List Bool) (p:List Nat × List Stp) (c:Nat):p.2.length≤(outStep org need p c).2.length:=by
 unfold outStep
 split
 ·exact Nat.le_refl _
 ·split
  ·split
   ·simp
   ·rw [lB];omega
  ·exact Nat.le_refl _
theorem outFold_le (org:List Org) (need:List Bool) (p:List Nat × List Stp):∀m k,k≤m→((List.range k).foldl (outStep org need) p).2.length≤((List.range m).foldl (outStep org need) p).2.length:=by
 intro m
 induction m with
 | zero=>intro k hk;rw [jV.1 hk];exact Nat.le_refl _
 | succ m ih =>
  intro k hk
  by_cases e:k=m+1
  ·rw [e];exact Nat.le_refl _
  ·refine qA (ih k (by omega)) ?_
   rw [List.range_succ,List.foldl_append]
   exact sR _ _ _ _
structure StH (w:World) (gn gp:Nat) (need:List Bool) (N:Nat) (wr:World) (pl:List Nat) (ps:List (Stp × Value)) (v:Value):Prop where
 bn:Blk wr gn 4 (cbs need).toArray
 bp:Blk wr gp 3 (cn pl).toArray
 pl:pl.length=N
 bl:Below w.heap.size w wr
 os:wr.ownsRow (gp+1) 91 6 v ps.length (ps.flatMap Stp.cells)
 li:∀q∈ps,RdI w q.2 q.1.lits
 n1:w.heap.size≤gn
 n2:gn<gp
 n3:gp+1≤wr.heap.size
theorem StH.alloc {w wr:World} {gn gp:Nat} {need:List Bool} {N:Nat} {pl:List Nat} {ps:List (Stp × Value)} {v:Value} (h:StH w gn gp need N wr pl ps v) (o:Obj):StH w gn gp need N (wr.alloc o) pl ps v :=
 ⟨h.bn.alloc o,h.bp.alloc o,h.pl,h.bl.alloc h.bl.size o,h.os.alloc o,h.li,h.n1,h.n2,by have:=h.n3;simp;omega⟩
theorem StH.drew {w wr:World} {gn gp:Nat} {need:List Bool} {N:Nat} {pl:List Nat} {ps:List (Stp × Value)} {v:Value} (h:StH w gn gp need N wr pl ps v):StH w gn gp need N wr.drew pl ps v :=
 ⟨h.bn,h.bp,h.pl,h.bl.drew,h.os,h.li,h.n1,h.n2,h.n3⟩
theorem StH.put {w wr:World} {gn gp:Nat} {need:List Bool} {N:Nat} {pl:List Nat} {ps:List (Stp × Value)} {v:Value} (h:StH w gn gp need N wr pl ps v) {gs:Nat} (i:Nat) (u:Value) (h1:gp<gs) (h2:v.ownBlock=none∨v.ownBlock≠some gs):StH w gn gp need N (wr.setCell ⟨gs,i,none⟩ u) pl ps v :=
 ⟨h.bn.far (p:=⟨gs,i,none⟩) (by have:=h.n2;simp;omega) _,h.bp.far (p:=⟨gs,i,none⟩) (by simp;omega) _,h.pl,cC h.bl (by have:=h.n1;have:=h.n2;omega) _,h.os.kept (jY wr gs i _) h2,h.li,h.n1,h.n2,by have:=h.n3;simp;omega⟩
theorem StH.place {w wr:World} {gn gp:Nat} {need:List Bool} {N:Nat} {pl:List Nat} {ps:List (Stp × Value)} {v:Value} (h:StH w gn gp need N wr pl ps v) (k b:Nat):StH w gn gp need N (wr.setCell ⟨gp,k,none⟩ (.int .i64 (b:Int))) (pl.set k b) ps v :=
 ⟨h.bn.far (p:=⟨gp,k,none⟩) (by have:=h.n2;simp;omega) _,cn_row h.bp b,by rw [zX];exact h.pl,cC h.bl (by have:=h.n1;have:=h.n2;omega) _,h.os.kept (jY wr gp k _) (aY h.os (by omega)),h.li,h.n1,h.n2,by have:=h.n3;simp;omega⟩
theorem StH.push {w wr w2:World} {gn gp:Nat} {need:List Bool} {N:Nat} {pl:List Nat} {ps:List (Stp × Value)} {v v':Value} {x:Stp} {lv:Value} {o:Obj} (h:StH w gn gp need N wr pl ps v) (hx:RdI w lv x.lits)
  (ho:w2.ownsRow (gp+1) 91 6 v' (ps.length+1) (ps.flatMap Stp.cells++Stp.cells (x,lv))) (hg:(wr.alloc o).grownBy w2 v.ownBlock):StH w gn gp need N w2 pl (ps++[(x,lv)]) v':=by
 have h1:=h.alloc o
 have hne:∀g,g<gp+1→some g≠v.ownBlock:=fun g hg2 e=>by have:=h.os.lt g e.symm;omega
 refine ⟨h1.bn.grown hg (hne gn (by have:=h.n2;omega)),h1.bp.grown hg (hne gp (by omega)),h.pl,h1.bl.grown hg h1.bl.size (fun g e=>by have:=h.os.lt g e;have:=h.n1;have:=h.n2;omega),?_,fun q hq => ?_,h.n1,h.n2,qA h1.n3 hg.size⟩
 ·rw [zJ,jI];simpa using ho
 ·rcases zK.1 hq with hq|hq
  ·exact h.li q hq
  ·rw [zH] at hq;subst hq;exact hx
theorem cW (xs:List Nat) (k y:Nat) (h:k<xs.length):(xs.set k y).getD k 0=y:=by
 rw [List.getD_eq_getElem?_getD,xM h];rfl
theorem six_one (a b c d e f:Value) (ha:a.oneCell'=true) (hb:b.oneCell'=true) (hc:c.oneCell'=true) (hd:d.oneCell'=true) (he:e.oneCell'=true) (hf:f.oneCell'=true):∀u∈[a,b,c,d,e,f],u.oneCell'=true:=by
 intro u hu
 simp at hu
 rcases hu with rfl|rfl|rfl|rfl|rfl|rfl<;>assumption
theorem nU {org:List Org} {need:List Bool} {p:List Nat × List Stp} {c:Nat} {o:Org} (h:org[c]? = some o):outStep org need p c=if need.getD c false=true then (if o.leaf.kind≠0 then (p.1.set c p.2.length,p.2++[o.leaf]) else gE o.chain (p.1.set c (p.1.getD o.first 0)) c (p.1.getD o.first 0) p.2) else p:=by
 unfold outStep;rw [h]
section
variable {κ:Kap} {w:World} {g:Nat} {s:Sol} {V:EV} {U:SV}
set_option maxRecDepth 100000 in
set_option maxHeartbeats 16000000 in
theorem steps_any (h:SolM κ w g s V U) {last:Nat} (hl:last+1=s.org.length) (hok:∀c,c<s.org.length→∀o,s.org[c]? = some o→orgOk s.org.length o=true) (hlen:(stepsF s.org last).length<LIM) (hlim:s.org.length≤LIM) (hst:∀x∈stepsF s.org last,x.ok∧∀z∈x.lits,I64 z) :
  Calls Try.prog 65 #[.pointer (some ⟨g,0,none⟩), .int .i64 (last:Int)] w fun en w'=>∃v,en = .returned v∧Stps w' v (stepsF s.org last)∧Below w.heap.size w w':=by
 obtain ⟨iS,hiS,hzS0,hzS1,hzS2⟩:=qD info_stpS
 obtain ⟨go,cap,hcap,hcm,hrd⟩:=OrgRd.of h (by omega)
 have HRD:=Lib.hid hrd
 have HOK:=Lib.hid hok
 have HLEN:=Lib.hid hlen
 have HST:=Lib.hid hst
 have HLT:Hid (∀(c:Nat) (o:Org) (p:Value × Value),s.org[c]? = some o→U.ol[c]? = some p→RdI w p.1 o.leaf.lits):=Lib.hid fun c o p ho hp=>by
  obtain ⟨A,c2,h1,h2,h3,h4⟩:=wB (h.och c o p ho hp).1.o
  exact ⟨A,c2,h1,h2,h3,h4⟩
 have HOL:Hid (U.ol.length=last+1):=Lib.hid (by rw [h.oll];omega)
 have HBO:Hid (∀c,c≤last→∃o p,s.org[c]? = some o∧U.ol[c]? = some p):=Lib.hid fun c hc=>⟨_,_,List.getElem?_eq_getElem (by omega),List.getElem?_eq_getElem (by have:=h.oll;omega)⟩
 rw [←hl] at hcap
 have HL:=Lib.hid hl
 have hlm:last+1≤LIM:=by omega
 have mk1:∀W:World,(Instr.makeSlice 32 (.int .i64 ((last:Int)+1)) (.int .i64 ((last:Int)+1))).run Try.prog W = .ok (.slice (some ⟨W.heap.size,0,none⟩) (last+1) (last+1)) (W.alloc (.cells (cbs (List.replicate (last+1) false)).toArray 4)):=fun W=>by rw [show ((last:Int)+1)=((last+1:Nat):Int) by omega];exact eM (last+1) hlm W
 have mk2:∀W:World,(Instr.makeSlice 33 (.int .i64 ((last:Int)+1)) (.int .i64 ((last:Int)+1))).run Try.prog W = .ok (.slice (some ⟨W.heap.size,0,none⟩) (last+1) (last+1)) (W.alloc (.cells (ci (List.replicate (last+1) 0)).toArray 3)):=fun W=>by rw [show ((last:Int)+1)=((last+1:Nat):Int) by omega];exact mk_intL (last+1) hlm W
 have ylast:last+1≤1099511627776:=hlm
 unfold maxLen at hcm
 clear h hok hlen hst hrd hlim hl hlm
 go_enter Try.func65,Try.ntmps65
 go_upto_region 2 with fail
 have HN0:Hid (Blk (w.alloc (.cells (cbs (List.replicate (last+1) false)).toArray 4)) w.heap.size 4 (cbs (List.replicate (last+1) false)).toArray):=Lib.hid (Blk.new _ _ _)
 have HB0:=Lib.hid ((zR w.heap.size w).alloc (Nat.le_refl _) (.cells (cbs (List.replicate (last+1) false)).toArray 4))
 clear mk1
 generalize w.alloc (.cells (cbs (List.replicate (last+1) false)).toArray 4)=W1 at *
 have q0:=dJ HN0.out (k:=last) (by simp)
 have z0:=HN0.out.frozen last
 have y1:(last:Int)<((last+1:Nat):Int):=by omega
 go_upto_region 4 with fail
 clear q0 z0
 have HS0:Hid (Blk (W1.setCell ⟨w.heap.size,last,none⟩ (.bool true)) w.heap.size 4 (cbs (gK s.org last 0)).toArray∧Below w.heap.size w (W1.setCell ⟨w.heap.size,last,none⟩ (.bool true))):=Lib.hid ⟨nZ HN0.out true,cC HB0.out (Nat.le_refl _) _⟩
 clear HN0 HB0
 go_loopw [6] (fun cv wr=>∃k:Nat,k≤last+1∧cv = .int .i64 ((last:Int)-(k:Int))∧Hid (Blk wr w.heap.size 4 (cbs (gK s.org last k)).toArray∧Below w.heap.size w wr)) (fun cv _=>(intOf cv+1).toNat)
 case atStart=>exact ⟨0,zQ _,by simp,HS0⟩
 case round =>
  clear HS0
  obtain ⟨k,hk,rfl,HS⟩:=hrel
  by_cases hlt:k<last+1
  ·have hc:(last:Int)-(k:Int)=((last-k:Nat):Int):=by omega
   rw [hc]
   obtain ⟨o,p,ho,hp⟩:=HBO.out (last-k) (by omega)
   have HND:Hid (gK s.org last (k+1)=if (gK s.org last k).getD (last-k) false=true∧o.leaf.kind=0 then o.chain.foldl (fun n l=>n.set l.1 true) ((gK s.org last k).set o.first true) else gK s.org last k):=Lib.hid (mI ho)
   have hR:=HRD.out wr HS.out.2
   have q17:=hR.q
   rw [←HL.out] at q17
   obtain ⟨Al,cl,Av,cv,hpe,hch1,hch2,hlk⟩:=hR.s _ o p ho hp
   have hcc:=hR.c _ o p ho hp
   unfold maxLen at hch2
   subst hpe
   have c0:=hcc 0 _ rfl
   rw [kX] at c0
   have c1:=hcc 1 _ rfl
   have c2:=hcc 2 _ rfl
   have c3:=hcc 3 _ rfl
   have c4:=hcc 4 _ rfl
   have c5:=hcc 5 _ rfl
   have c6:=hcc 6 _ rfl
   have c7:=hcc 7 _ rfl
   have HCH:=Lib.hid ho
   have hnl:=bB s.org last k
   have qn:=dJ HS.out.1 (k:=last-k) (by rw [hnl];omega)
   have hpc:(last-k)<last+1:=by omega
   have HCK:=Lib.hid (And.intro hc (And.intro hk hlt))
   generalize hcK:last-k=c at *
   generalize hnd:(gK s.org last k).getD c false=nd at *
   have HHN:=Lib.hid hnd
   have HLK:Hid (∀W,Below w.heap.size w W→∀(j:Nat) (q:Nat × Int),o.chain[j]? = some q→∃gv:Nat,Av=some ⟨gv,0,none⟩∧W.cell? ⟨gv,j * 2,none⟩=some (.int .i64 (q.1:Int))∧W.cell? ⟨gv,j * 2+1,none⟩=some (.int .i64 q.2)):=Lib.hid fun W hb j q hq=>by
    obtain ⟨Al2,cl2,Av2,cv2,e, -, -,h5⟩:=(HRD.out W hb).s _ o _ ho hp
    injection e with e1 e2
    injection e2 with e2 _ _
    subst e2
    exact h5 j q hq
   have HORG:=Lib.hid (HOK.out c (by have:=HL.out;omega) o ho)
   have y2:(c:Int)<((last+1:Nat):Int):=by omega
   have HX2:Hid (Blk (wr.alloc (.cells #[.int .i64 o.leaf.kind, .int .i64 o.leaf.index, .slice Al o.leaf.lits.length cl, .int .i64 o.leaf.p, .int .i64 o.leaf.q, .int .i64 o.leaf.var, .int .i64 (o.first:Int), .slice Av o.chain.length cv] 94)) w.heap.size 4 (cbs (gK s.org last k)).toArray∧Below w.heap.size w (wr.alloc (.cells #[.int .i64 o.leaf.kind, .int .i64 o.leaf.index, .slice Al o.leaf.lits.length cl, .int .i64 o.leaf.p, .int .i64 o.leaf.q, .int .i64 o.leaf.var, .int .i64 (o.first:Int), .slice Av o.chain.length cv] 94))):=Lib.hid ⟨HS.out.1.alloc _,HS.out.2.alloc HS.out.2.size _⟩
   have hbx:=Blk.new wr 94 #[.int .i64 o.leaf.kind, .int .i64 o.leaf.index, .slice Al o.leaf.lits.length cl, .int .i64 o.leaf.p, .int .i64 o.leaf.q, .int .i64 o.leaf.var, .int .i64 (o.first:Int), .slice Av o.chain.length cv]
   have b0:=hbx.cell 0
   have b6:=hbx.cell 6
   have b7:=hbx.cell 7
   simp only [zA,zB,zC] at b0 b6 b7
   have HBX:=Lib.hid hbx
   have HWS:Hid (w.heap.size≤wr.heap.size):=Lib.hid HS.out.2.size
   clear hR hcc hlk hp ho hcK hnd hbx hc hk hlt hnl HS
   go_upto_region 7 with fail
   clear c0 c1 c2 c3 c4 c5 c6 c7 q17
   have qn2:(wr.alloc (.cells #[.int .i64 o.leaf.kind, .int .i64 o.leaf.index, .slice Al o.leaf.lits.length cl, .int .i64 o.leaf.p, .int .i64 o.leaf.q, .int .i64 o.leaf.var, .int .i64 (o.first:Int), .slice Av o.chain.length cv] 94)).cell? ⟨w.heap.size,c,none⟩=some (.bool nd):=by
    have:=dJ HX2.out.1 (k:=c) (by rw [bB];exact hpc)
    rw [HHN.out] at this;exact this
   clear qn
   generalize hW2:wr.alloc (.cells #[.int .i64 o.leaf.kind, .int .i64 o.leaf.index, .slice Al o.leaf.lits.length cl, .int .i64 o.leaf.p, .int .i64 o.leaf.q, .int .i64 o.leaf.var, .int .i64 (o.first:Int), .slice Av o.chain.length cv] 94)=W2 at *
   generalize hgb:wr.heap.size=gb at *
   cases nd with
   | false =>
    have HN:Hid (Blk W2 w.heap.size 4 (cbs (gK s.org last (k+1))).toArray∧Below w.heap.size w W2):=by
     refine Lib.hid ⟨?_,HX2.out.2⟩
     rw [HND.out,if_neg (by simp)]
     exact HX2.out.1
    obtain ⟨hc,hk,hlt⟩:=HCK.out
    clear HX2 HND HHN hW2 hgb
    go_wp2_with fail
    go_roundw
    case rel=>exact ⟨k+1,by omega,by first|omega|(congr 1;omega),HN⟩
    case measure=>simp only [intOf];omega
   | true =>
    have horg:=HORG.out
    unfold orgOk at horg
    simp only [xE,qI,qH] at horg
    obtain ⟨⟨hof,hoc⟩, -⟩:=horg
    rw [←HL.out] at hof hoc
    by_cases hk0:o.leaf.kind=0
    ·rw [hk0] at b0
     have HND2:Hid (gK s.org last (k+1)=o.chain.foldl (fun n l=>n.set l.1 true) ((gK s.org last k).set o.first true)):=Lib.hid (by rw [HND.out,if_pos ⟨rfl,hk0⟩])
     have HOC:=Lib.hid hoc
     have qf:=dJ HX2.out.1 (k:=o.first) (by rw [bB];exact hof)
     have zf:=HX2.out.1.frozen o.first
     have yf:(o.first:Int)<((last+1:Nat):Int):=by omega
     have HX3:Hid (Blk (W2.setCell ⟨w.heap.size,o.first,none⟩ (.bool true)) w.heap.size 4 (cbs ((o.chain.take 0).foldl (fun n (l:Nat × Int)=>n.set l.1 true) ((gK s.org last k).set o.first true))).toArray∧Below w.heap.size w (W2.setCell ⟨w.heap.size,o.first,none⟩ (.bool true))):=Lib.hid ⟨nZ HX2.out.1 true,cC HX2.out.2 (Nat.le_refl _) _⟩
     have HB7:Hid ((W2.setCell ⟨w.heap.size,o.first,none⟩ (.bool true)).cell? ⟨gb,7,none⟩=some (.slice Av o.chain.length cv)):=by
      refine Lib.hid ?_
      have hne:gb≠w.heap.size:=by
       intro e
       have h1:=HBX.out.lt
       have h2:=HX2.out.1
       have h3:Blk W2 gb 94 _:=HBX.out
       rw [e] at h3
       unfold Blk at h2 h3
       rw [h2] at h3
       injection h3 with h3
       injection h3 with _ h3
       exact absurd h3 (by decide)
      exact (HBX.out.far (p:=⟨w.heap.size,o.first,none⟩) hne (.bool true)).cell 7
     generalize hfi:o.first=fi at *
     clear hof hoc hk0 HX2 HND HHN hW2 hgb
     go_upto_region 9 with fail
     have q7:=HB7.out
     go_upto_region 10 with fail
     clear q7 qf zf b0 b6 b7 qn2
     generalize W2.setCell ⟨w.heap.size,fi,none⟩ (.bool true)=W3 at *
     clear HB7 HBX
     go_loopw [52] (fun i wr=>∃j:Nat,j≤o.chain.length∧i = .int .i64 j∧Hid (Blk wr w.heap.size 4 (cbs ((o.chain.take j).foldl (fun n (l:Nat × Int)=>n.set l.1 true) ((gK s.org last k).set fi true))).toArray∧Below w.heap.size w wr)) (fun i _=>o.chain.length-(intOf i).toNat)
     case atStart=>exact ⟨0,zQ _,rfl,HX3⟩
     case round =>
      clear HX3
      obtain ⟨j,hj,rfl,HJ⟩:=hrel
      by_cases hjl:j<o.chain.length
      ·obtain ⟨q,hq⟩:∃q,o.chain[j]? = some q:=⟨_,List.getElem?_eq_getElem hjl⟩
       obtain ⟨gv,rfl,v0,v1⟩:=HLK.out wr HJ.out.2 j q hq
       have hq1:=(HOC.out q (List.mem_of_getElem? hq)).1
       have htk:(o.chain.take (j+1)).foldl (fun n (l:Nat × Int)=>n.set l.1 true) ((gK s.org last k).set fi true)=((o.chain.take j).foldl (fun n (l:Nat × Int)=>n.set l.1 true) ((gK s.org last k).set fi true)).set q.1 true:=by
        rw [wL hq,List.foldl_append];rfl
       have hnl:((o.chain.take j).foldl (fun n (l:Nat × Int)=>n.set l.1 true) ((gK s.org last k).set fi true)).length=last+1:=by rw [eK,zX,bB]
       have HJ2:Hid (Blk (wr.alloc (.cells #[.int .i64 (q.1:Int), .int .i64 q.2] 115)) w.heap.size 4 (cbs ((o.chain.take j).foldl (fun n (l:Nat × Int)=>n.set l.1 true) ((gK s.org last k).set fi true))).toArray∧Below w.heap.size w (wr.alloc (.cells #[.int .i64 (q.1:Int), .int .i64 q.2] 115))):=Lib.hid ⟨HJ.out.1.alloc _,HJ.out.2.alloc HJ.out.2.size _⟩
       have hbx:=Blk.new wr 115 #[.int .i64 (q.1:Int), .int .i64 q.2]
       have b0:=hbx.cell 0
       simp only [zA,zB] at b0
       have HTK:=Lib.hid htk
       have HNL:=Lib.hid hnl
       have yj:(j:Int)<(o.chain.length:Int):=by omega
       generalize q.1=q1 at *
       have yq:(q1:Int)<((last+1:Nat):Int):=by omega
       clear htk hnl hbx hq HJ
       go_upto_region 12 with fail
       have qn:=dJ HJ2.out.1 (k:=q1) (by rw [HNL.out];exact hq1)
       have zn:=HJ2.out.1.frozen q1
       have HN:Hid (Blk ((wr.alloc (.cells #[.int .i64 (q1:Int), .int .i64 q.2] 115)).setCell ⟨w.heap.size,q1,none⟩ (.bool true)) w.heap.size 4 (cbs ((o.chain.take (j+1)).foldl (fun n (l:Nat × Int)=>n.set l.1 true) ((gK s.org last k).set fi true))).toArray∧Below w.heap.size w ((wr.alloc (.cells #[.int .i64 (q1:Int), .int .i64 q.2] 115)).setCell ⟨w.heap.size,q1,none⟩ (.bool true))):=Lib.hid ⟨by rw [HTK.out];exact nZ HJ2.out.1 true,cC HJ2.out.2 (Nat.le_refl _) _⟩
       clear HJ2 v0 v1
       generalize wr.alloc (.cells #[.int .i64 (q1:Int), .int .i64 q.2] 115)=W4 at *
       go_wp2_with fail
       go_roundw
       case rel=>exact ⟨j+1,by omega,by go_num,HN⟩
       case measure=>simp [intOf];omega
      ·have hjl2:j=o.chain.length:=by omega
       have HN:Hid (Blk wr w.heap.size 4 (cbs (gK s.org last (k+1))).toArray∧Below w.heap.size w wr):=by
        refine Lib.hid ⟨?_,HJ.out.2⟩
        have:=HJ.out.1
        rw [hjl2,yC,←HND2.out] at this
        exact this
       obtain ⟨hc,hk,hlt⟩:=HCK.out
       have yj:¬j<o.chain.length:=hjl
       clear HJ HND2 hjl2 hjl
       go_wp2_with fail
       go_roundw
       case rel=>exact ⟨k+1,by omega,by first|omega|(congr 1;omega),HN⟩
       case measure=>simp only [intOf];omega
    ·have HN:Hid (Blk W2 w.heap.size 4 (cbs (gK s.org last (k+1))).toArray∧Below w.heap.size w W2):=by
      refine Lib.hid ⟨?_,HX2.out.2⟩
      rw [HND.out,if_neg (by rintro ⟨-,h⟩;exact hk0 h)]
      exact HX2.out.1
     obtain ⟨hc,hk,hlt⟩:=HCK.out
     clear HX2 HND HHN hW2 hgb hof hoc
     go_wp2_with fail
     go_roundw
     case rel=>exact ⟨k+1,by omega,by first|omega|(congr 1;omega),HN⟩
     case measure=>simp only [intOf];omega
  ·have hkl:k=last+1:=by omega
   subst hkl
   have hm1:(last:Int)-((last+1:Nat):Int) = -1:=by omega
   rw [hm1]
   have HN:Hid (Blk wr w.heap.size 4 (cbs (needF s.org last)).toArray∧Below w.heap.size w wr):=Lib.hid ⟨by rw [←nI];exact HS.out.1,HS.out.2⟩
   clear HS hm1 hk hlt y1
   go_upto_region 15 with fail
   have HH0:Hid (StH w w.heap.size wr.heap.size (needF s.org last) (last+1) (wr.alloc (.cells (ci (List.replicate (last+1) 0)).toArray 3)) (List.replicate (last+1) 0) [] (.slice none 0 0)):=by
    refine Lib.hid ⟨HN.out.1.alloc _,?_,by simp,HN.out.2.alloc HN.out.2.size _,qE _ _ _ _,by simp,Nat.le_refl _,HN.out.1.lt,by simp⟩
    rw [show cn (List.replicate (last+1) 0)=ci (List.replicate (last+1) 0) by simp [cn,ci]]
    exact Blk.new _ _ _
   clear mk2 HN
   generalize wr.alloc (.cells (ci (List.replicate (last+1) 0)).toArray 3)=W5 at *
   generalize wr.heap.size=gp at *
   have q17:=(HRD.out W5 HH0.out.bl).q
   rw [←HL.out] at q17
   go_upto_region 17 with fail
   clear q17
   have HPS:Hid ((stepsF s.org last).length<LIM∧∀k,k≤last+1→((List.range k).foldl (outStep s.org (needF s.org last)) (List.replicate (last+1) 0,[])).2.length≤(stepsF s.org last).length):=by
    exact Lib.hid ⟨HLEN.out,fun k hk=>outFold_le _ _ _ _ _ hk⟩
   go_loopw [11,72] (fun ov i wr=>∃(k:Nat) (pl:List Nat) (ps:List (Stp × Value)) (A:Option Addr) (c:Nat),k≤last+1∧i = .int .i64 k∧ov = .slice A ps.length c∧Hid (StH w w.heap.size gp (needF s.org last) (last+1) wr pl ps (.slice A ps.length c)∧(List.range k).foldl (outStep s.org (needF s.org last)) (List.replicate (last+1) 0,[])=(pl,ps.map (fun q:Stp × Value=>q.1)))) (fun _ i _=>last+1-(intOf i).toNat)
   case atStart=>exact ⟨0,_,[],none,0,zQ _,rfl,rfl,Lib.hid ⟨HH0.out,rfl⟩⟩
   case round =>
    clear HH0
    obtain ⟨c,pl,ps,A,ca,hk,rfl,rfl,HS⟩:=hrel
    by_cases hlt:c<last+1
    ·obtain ⟨o,p,ho,hp⟩:=HBO.out c (by omega)
     have HST2:Hid (∀x,outStep s.org (needF s.org last) (pl,ps.map (fun q:Stp × Value=>q.1)) c=x→(List.range (c+1)).foldl (outStep s.org (needF s.org last)) (List.replicate (last+1) 0,[])=x):=Lib.hid fun x hx=>by
      rw [List.range_succ,List.foldl_append,HS.out.2];exact hx
     have HOS:=Lib.hid (nU (need:=needF s.org last) (p:=(pl,ps.map (fun q:Stp × Value=>q.1))) ho)
     have hR:=HRD.out wr HS.out.1.bl
     obtain ⟨Al,cl,Av,cv,hpe,hch1,hch2,hlk⟩:=hR.s _ o p ho hp
     have hcc:=hR.c _ o p ho hp
     unfold maxLen at hch2
     subst hpe
     have c0:=hcc 0 _ rfl
     rw [kX] at c0
     have c1:=hcc 1 _ rfl
     have c2:=hcc 2 _ rfl
     have c3:=hcc 3 _ rfl
     have c4:=hcc 4 _ rfl
     have c5:=hcc 5 _ rfl
     have c6:=hcc 6 _ rfl
     have c7:=hcc 7 _ rfl
     have hnl:(needF s.org last).length=last+1:=by rw [←nI];exact bB _ _ _
     have HH2:=Lib.hid (HS.out.1.alloc (.cells #[.int .i64 o.leaf.kind, .int .i64 o.leaf.index, .slice Al o.leaf.lits.length cl, .int .i64 o.leaf.p, .int .i64 o.leaf.q, .int .i64 o.leaf.var, .int .i64 (o.first:Int), .slice Av o.chain.length cv] 94))
     have hbx:=Blk.new wr 94 #[.int .i64 o.leaf.kind, .int .i64 o.leaf.index, .slice Al o.leaf.lits.length cl, .int .i64 o.leaf.p, .int .i64 o.leaf.q, .int .i64 o.leaf.var, .int .i64 (o.first:Int), .slice Av o.chain.length cv]
     have b0:=hbx.cell 0
     have b1:=hbx.cell 1
     have b2:=hbx.cell 2
     have b3:=hbx.cell 3
     have b4:=hbx.cell 4
     have b5:=hbx.cell 5
     have b6:=hbx.cell 6
     have b7:=hbx.cell 7
     simp only [zA,zB,zC] at b0 b1 b2 b3 b4 b5 b6 b7
     have HBX:=Lib.hid hbx
     have HLK:Hid (∀W,Below w.heap.size w W→∀(j:Nat) (q:Nat × Int),o.chain[j]? = some q→∃gv:Nat,Av=some ⟨gv,0,none⟩∧W.cell? ⟨gv,j * 2,none⟩=some (.int .i64 (q.1:Int))∧W.cell? ⟨gv,j * 2+1,none⟩=some (.int .i64 q.2)):=Lib.hid fun W hb j q hq=>by
      obtain ⟨Al2,cl2,Av2,cv2,e, -, -,h5⟩:=(HRD.out W hb).s _ o _ ho hp
      injection e with e1 e2
      injection e2 with e2 _ _
      subst e2
      exact h5 j q hq
     have HHP:=Lib.hid (And.intro ho hp)
     have horg:=HOK.out c (by have:=HL.out;omega) o ho
     unfold orgOk at horg
     simp only [xE,qI,qH] at horg
     obtain ⟨⟨hof,hoc⟩, -⟩:=horg
     rw [←HL.out] at hof hoc
     have HOC:=Lib.hid hoc
     have HKK:=Lib.hid (And.intro hk hlt)
     have y2:(c:Int)<((last+1:Nat):Int):=by omega
     have y3:c<last+1:=hlt
     have HLEN2:Hid (ps.length<LIM):=Lib.hid (by
      have:=HPS.out.2 c (by omega)
      rw [HS.out.2] at this
      simp at this
      have:=HPS.out.1
      omega)
     have HGB:Hid (gp<wr.heap.size):=Lib.hid HS.out.1.n3
     have HLTC:=Lib.hid (HLT.out c o _ ho hp)
     clear hR hcc hlk hp ho hbx hoc hnl HS hk hlt
     go_upto_region 19 with fail
     clear c0 c1 c2 c3 c4 c5 c6 c7
     generalize wr.alloc (.cells #[.int .i64 o.leaf.kind, .int .i64 o.leaf.index, .slice Al o.leaf.lits.length cl, .int .i64 o.leaf.p, .int .i64 o.leaf.q, .int .i64 o.leaf.var, .int .i64 (o.first:Int), .slice Av o.chain.length cv] 94)=W2 at *
     generalize wr.heap.size=gb at *
     have qn:=dJ HH2.out.bn (k:=c) (by rw [←nI,bB];exact y3)
     generalize hnd:(needF s.org last).getD c false=nd at *
     have HND:=Lib.hid hnd
     clear hnd
     cases nd with
     | false =>
      have HN:Hid (StH w w.heap.size gp (needF s.org last) (last+1) W2 pl ps (.slice A ps.length ca)∧(List.range (c+1)).foldl (outStep s.org (needF s.org last)) (List.replicate (last+1) 0,[])=(pl,ps.map (fun q:Stp × Value=>q.1))):=Lib.hid ⟨HH2.out,HST2.out _ (by rw [HOS.out,if_neg (by simp)])⟩
      obtain ⟨hk,hlt⟩:=HKK.out
      clear HH2 HST2 HOS b0 b1 b2 b3 b4 b5 b6 b7
      go_wp2_with fail
      go_roundw
      case rel=>exact ⟨c+1,pl,ps,A,ca,by omega,by go_num,rfl,HN⟩
      case measure=>simp [intOf];omega
     | true =>
      by_cases hk0:o.leaf.kind=0
      ·rw [hk0] at b0
       have qf:=cG HH2.out.bp (k:=o.first) (by rw [HH2.out.pl];exact hof)
       have qp:=cG HH2.out.bp (k:=c) (by rw [HH2.out.pl];exact y3)
       have zp:=HH2.out.bp.frozen c
       have hpl:=HH2.out.pl
       have HH3:=Lib.hid (HH2.out.place c (pl.getD o.first 0))
       have yf:(o.first:Int)<((last+1:Nat):Int):=by omega
       have HB7:=Lib.hid ((HBX.out.far (p:=⟨gp,c,none⟩) (by have:=HGB.out;simp;omega) (.int .i64 ((pl.getD o.first 0:Nat):Int))).cell 7)
       have HFO:Hid ((List.range (c+1)).foldl (outStep s.org (needF s.org last)) (List.replicate (last+1) 0,[])=gE o.chain (pl.set c (pl.getD o.first 0)) c ((pl.set c (pl.getD o.first 0)).getD c 0) (ps.map (fun q:Stp × Value=>q.1))):=Lib.hid (HST2.out _ (by rw [HOS.out,if_pos rfl,if_neg (by simpa using hk0),cW _ _ _ (by rw [hpl];exact y3)]))
       generalize hpf:pl.getD o.first 0=pf at *
       clear hpl hpf HST2 HOS HH2 hof
       go_upto_region 24 with fail
       clear b0 b1 b2 b3 b4 b5 b6 b7 qf qp zp qn
       have q7:=HB7.out
       simp only [zA,zB,zC] at q7
       generalize W2.setCell ⟨gp,c,none⟩ (.int .i64 (pf:Int))=W3 at *
       clear HB7 HBX
       go_upto_region 25 with fail
       clear q7
       go_loopw [11,107] (fun ov i wr=>∃(j:Nat) (pl2:List Nat) (ps2:List (Stp × Value)) (A:Option Addr) (ca:Nat),j≤o.chain.length∧i = .int .i64 j∧ov = .slice A ps2.length ca∧Hid (StH w w.heap.size gp (needF s.org last) (last+1) wr pl2 ps2 (.slice A ps2.length ca)∧(List.range (c+1)).foldl (outStep s.org (needF s.org last)) (List.replicate (last+1) 0,[])=gE (o.chain.drop j) pl2 c (pl2.getD c 0) (ps2.map (fun q:Stp × Value=>q.1)))) (fun _ i _=>o.chain.length-(intOf i).toNat)
       case atStart=>exact ⟨0,_,ps,A,ca,zQ _,rfl,rfl,Lib.hid ⟨HH3.out,by rw [List.drop_zero];exact HFO.out⟩⟩
       case round =>
        clear HH3 HFO HLEN2 HLTC HHP
        obtain ⟨j,pl2,ps2,A,ca,hj,rfl,rfl,HS⟩:=hrel
        by_cases hjl:j<o.chain.length
        ·obtain ⟨⟨q1,l2⟩,hq⟩:∃q,o.chain[j]? = some q:=⟨_,List.getElem?_eq_getElem hjl⟩
         obtain ⟨gv,rfl,v0,v1⟩:=HLK.out wr HS.out.1.bl j (q1,l2) hq
         obtain ⟨hq1,hq0,hqa,hqb⟩:=HOC.out (q1,l2) (List.mem_of_getElem? hq)
         dsimp only at v0 v1 hq1 hq0 hqa hqb
         have hdr:o.chain.drop j=(q1,l2)::o.chain.drop (j+1):=by rw [zT hjl];rw [List.getElem?_eq_getElem hjl] at hq;injection hq with hq;rw [hq]
         have HTL:Hid (ps2.length+1≤maxLen∧(ps2.length+1) * 64≤140737488355328):=by
          have h1:=HPS.out.2 (c+1) (by omega)
          rw [HS.out.2,lB,yH,List.length_map] at h1
          have h2:=HPS.out.1
          unfold LIM at h2
          refine Lib.hid ?_
          unfold maxLen
          omega
         have HFO:Hid ((List.range (c+1)).foldl (outStep s.org (needF s.org last)) (List.replicate (last+1) 0,[])=gE (o.chain.drop (j+1)) (pl2.set c ps2.length) c ps2.length (ps2.map (fun q:Stp × Value=>q.1)++[if l2<0 then ⟨3,0,[],pl2.getD c 0,pl2.getD q1 0,vr l2⟩ else ⟨3,0,[],pl2.getD q1 0,pl2.getD c 0,vr l2⟩])):=by
          have:=HS.out.2
          rw [hdr,gE,List.length_map] at this
          exact Lib.hid this
         have HSA:=Lib.hid (HS.out.1.alloc (.cells #[.int .i64 (q1:Int), .int .i64 l2] 115))
         have hbx:=Blk.new wr 115 #[.int .i64 (q1:Int), .int .i64 l2]
         have b0:=hbx.cell 0
         have b1:=hbx.cell 1
         simp only [zA,zB,zC] at b0 b1
         have yj:(j:Int)<(o.chain.length:Int):=by omega
         have yq:(q1:Int)<((last+1:Nat):Int):=by omega
         have HV:=gI l2 hq0 hqa hqb
         have HQ:=Lib.hid (And.intro hqa hqb)
         have HGL:Hid (gp<wr.heap.size):=Lib.hid HS.out.1.n3
         have HHV:=Lib.hid HV
         clear hdr hbx hq HS HV
         go_upto_region 27 with fail
         generalize wr.alloc (.cells #[.int .i64 (q1:Int), .int .i64 l2] 115)=W4 at *
         generalize wr.heap.size=gl at *
         clear v0 v1
         have p1:=cG HSA.out.bp (k:=q1) (by rw [HSA.out.pl];exact hq1)
         have pc:=cG HSA.out.bp (k:=c) (by rw [HSA.out.pl];exact y3)
         generalize hx1:pl2.getD q1 0=x1 at *
         generalize hxc:pl2.getD c 0=xc at *
         clear hx1 hxc
         go_region_held_law (fun w'=>w'.cell? ⟨gl,0,none⟩=some (.int .i64 (q1:Int))∧w'.cell? ⟨gl,1,none⟩=some (.int .i64 l2)∧w'.cell? ⟨gp,q1,none⟩=some (.int .i64 (x1:Int))∧w'.cell? ⟨gp,c,none⟩=some (.int .i64 (xc:Int))) (go_keep) ((refine wC rfl 64 _ _ rfl _ Try.func64 (by kernel_rfl) (by kernel_rfl) #[.int .i64 l2] (by first|rfl|(simp [Act.eval];done)) (HHV.out _) (fun e w' h=>⟨_,h.1⟩) ?_;rintro v9 w9 ⟨hv9,rfl⟩;injection hv9 with hv9;subst hv9))
         all_goals
          have HS5:=Lib.hid ((HSA.out.alloc (.cells #[.int .i64 3, .int .i64 0, .slice none 0 0, .int .i64 (x1:Int), .int .i64 (xc:Int), .int .i64 ((vr l2:Nat):Int)] 91)).drew)
          have HB5:Hid (Blk (W4.alloc (.cells #[.int .i64 3, .int .i64 0, .slice none 0 0, .int .i64 (x1:Int), .int .i64 (xc:Int), .int .i64 ((vr l2:Nat):Int)] 91)).drew W4.heap.size 91 #[.int .i64 3, .int .i64 0, .slice none 0 0, .int .i64 (x1:Int), .int .i64 (xc:Int), .int .i64 ((vr l2:Nat):Int)]):=Lib.hid (Blk.new W4 91 _)
          have HBL:Hid ((W4.alloc (.cells #[.int .i64 3, .int .i64 0, .slice none 0 0, .int .i64 (x1:Int), .int .i64 (xc:Int), .int .i64 ((vr l2:Nat):Int)] 91)).drew.cell? ⟨gl,1,none⟩=some (.int .i64 l2)):=Lib.hid (by go_keep)
          have HNE:Hid ((Value.slice A ps2.length ca).ownBlock=none∨(Value.slice A ps2.length ca).ownBlock≠some W4.heap.size):=Lib.hid (.inr (fun e=>Nat.lt_irrefl _ (HSA.out.os.lt W4.heap.size e).2))
          have HGS:Hid (gp<W4.heap.size):=Lib.hid HSA.out.n3
          generalize (W4.alloc (.cells #[.int .i64 3, .int .i64 0, .slice none 0 0, .int .i64 (x1:Int), .int .i64 (xc:Int), .int .i64 ((vr l2:Nat):Int)] 91)).drew=W5 at *
          generalize W4.heap.size=gs at *
          clear HSA b0 b1 p1 pc hq1 hq0 hqa hqb
          have q1b:=HBL.out
          by_cases hneg:l2<0
          ·have hnd:decide (l2<0)=true:=by simpa using hneg
           have b3:=HB5.out.cell 3
           have b4:=HB5.out.cell 4
           simp only [zA,zB,zC] at b3 b4
           have z3:=HB5.out.frozen 3
           have z4:=HB5.out.frozen 4
           have HS6:=Lib.hid ((HS5.out.put 3 (.int .i64 (xc:Int)) HGS.out HNE.out).put 4 (.int .i64 (x1:Int)) HGS.out HNE.out)
           have HB6:Hid (Blk ((W5.setCell ⟨gs,3,none⟩ (.int .i64 (xc:Int))).setCell ⟨gs,4,none⟩ (.int .i64 (x1:Int))) gs 91 #[.int .i64 3, .int .i64 0, .slice none 0 0, .int .i64 (xc:Int), .int .i64 (x1:Int), .int .i64 ((vr l2:Nat):Int)]):=Lib.hid ((HB5.out.set_ 3 (.int .i64 (xc:Int))).set_ 4 (.int .i64 (x1:Int)))
           clear HS5 HB5 HBL
           go_upto_region 30 with fail
           clear b3 b4 z3 z4 q1b
           generalize (W5.setCell ⟨gs,3,none⟩ (.int .i64 (xc:Int))).setCell ⟨gs,4,none⟩ (.int .i64 (x1:Int))=W6 at *
           have qp:=cG HS6.out.bp (k:=c) (by rw [HS6.out.pl];exact y3)
           have zp:=HS6.out.bp.frozen c
           have HH3:=Lib.hid (HS6.out.place c ps2.length)
           have HBF:=Lib.hid (HB6.out.far (p:=⟨gp,c,none⟩) (by have:=HGS.out;simp;omega) (.int .i64 (ps2.length:Int)))
           have HFO3:Hid ((List.range (c+1)).foldl (outStep s.org (needF s.org last)) (List.replicate (last+1) 0,[])=gE (o.chain.drop (j+1)) (pl2.set c ps2.length) c ((pl2.set c ps2.length).getD c 0) ((ps2++[((⟨3,0,[],xc,x1,vr l2⟩,Value.slice none 0 0):Stp × Value)]).map (fun q:Stp × Value=>q.1))):=by
            refine Lib.hid ?_
            rw [HFO.out,if_pos hneg,cW _ _ _ (by rw [HS6.out.pl];exact y3),List.map_append]
            rfl
           clear HS6 HB6 HFO
           go_upto_region 31 with fail
           clear qp zp
           generalize W6.setCell ⟨gp,c,none⟩ (.int .i64 (ps2.length:Int))=W7 at *
           have b0:=HBF.out.cell 0
           have b1:=HBF.out.cell 1
           have b2:=HBF.out.cell 2
           have b3:=HBF.out.cell 3
           have b4:=HBF.out.cell 4
           have b5:=HBF.out.cell 5
           simp only [zA,zB,zC] at b0 b1 b2 b3 b4 b5
           go_wp2_with (at_builtin;refine yZ _ rfl _ _ 31 rfl (gp+1) 91 iS (.agg #[.int .i64 0, .int .i64 0, .slice none 0 0, .int .i64 0, .int .i64 0, .int .i64 0]) 6 64 Try.underlying31 hiS hzS0 hzS1 hzS2 rfl (by decide) _ _ _ rfl (HH3.out.os.alloc _) ⟨W7.heap.size,0,none⟩ 1 1 [.int .i64 3, .int .i64 0, .slice none 0 0, .int .i64 (xc:Int), .int .i64 (x1:Int), .int .i64 (vr l2:Nat)] rfl rfl (wY W7 91 [.int .i64 3, .int .i64 0, .slice none 0 0, .int .i64 (xc:Int), .int .i64 (x1:Int), .int .i64 (vr l2:Nat)] rfl) (six_one _ _ _ _ _ _ rfl rfl rfl rfl rfl rfl) HTL.out.1 HTL.out.2 (by have:=HH3.out.n3;simp;omega) ?_)
           intro v' w5 hown hgrow _
           obtain ⟨A5,c5,hv5, -, -⟩:=wB hown
           subst hv5
           have HN:Hid (StH w w.heap.size gp (needF s.org last) (last+1) w5 (pl2.set c ps2.length) (ps2++[((⟨3,0,[],xc,x1,vr l2⟩,Value.slice none 0 0):Stp × Value)]) (.slice A5 (ps2++[((⟨3,0,[],xc,x1,vr l2⟩,Value.slice none 0 0):Stp × Value)]).length c5)∧_):=Lib.hid ⟨by rw [zJ];exact HH3.out.push (x:=⟨3,0,[],xc,x1,vr l2⟩) (RdI.nil _) hown hgrow,HFO3.out⟩
           clear hown hgrow HH3 HBF HFO3 b0 b1 b2 b3 b4 b5
           go_wp2_with fail
           go_roundw
           case rel=>exact ⟨j+1,_,ps2++[((⟨3,0,[],xc,x1,vr l2⟩,Value.slice none 0 0):Stp × Value)],A5,c5,by omega,by go_num,by simp,HN⟩
           case measure=>simp [intOf];omega
          ·have hnd:decide (l2<0)=false:=by simpa using hneg
           have HS6:=HS5
           have HB6:=HB5
           clear HS5 HB5 HBL
           go_upto_region 30 with fail
           clear q1b
           generalize W5=W6 at *
           have qp:=cG HS6.out.bp (k:=c) (by rw [HS6.out.pl];exact y3)
           have zp:=HS6.out.bp.frozen c
           have HH3:=Lib.hid (HS6.out.place c ps2.length)
           have HBF:=Lib.hid (HB6.out.far (p:=⟨gp,c,none⟩) (by have:=HGS.out;simp;omega) (.int .i64 (ps2.length:Int)))
           have HFO3:Hid ((List.range (c+1)).foldl (outStep s.org (needF s.org last)) (List.replicate (last+1) 0,[])=gE (o.chain.drop (j+1)) (pl2.set c ps2.length) c ((pl2.set c ps2.length).getD c 0) ((ps2++[((⟨3,0,[],x1,xc,vr l2⟩,Value.slice none 0 0):Stp × Value)]).map (fun q:Stp × Value=>q.1))):=by
            refine Lib.hid ?_
            rw [HFO.out,if_neg hneg,cW _ _ _ (by rw [HS6.out.pl];exact y3),List.map_append]
            rfl
           clear HS6 HB6 HFO
           go_upto_region 31 with fail
           clear qp zp
           generalize W6.setCell ⟨gp,c,none⟩ (.int .i64 (ps2.length:Int))=W7 at *
           have b0:=HBF.out.cell 0
           have b1:=HBF.out.cell 1
           have b2:=HBF.out.cell 2
           have b3:=HBF.out.cell 3
           have b4:=HBF.out.cell 4
           have b5:=HBF.out.cell 5
           simp only [zA,zB,zC] at b0 b1 b2 b3 b4 b5
           go_wp2_with (at_builtin;refine yZ _ rfl _ _ 31 rfl (gp+1) 91 iS (.agg #[.int .i64 0, .int .i64 0, .slice none 0 0, .int .i64 0, .int .i64 0, .int .i64 0]) 6 64 Try.underlying31 hiS hzS0 hzS1 hzS2 rfl (by decide) _ _ _ rfl (HH3.out.os.alloc _) ⟨W7.heap.size,0,none⟩ 1 1 [.int .i64 3, .int .i64 0, .slice none 0 0, .int .i64 (x1:Int), .int .i64 (xc:Int), .int .i64 (vr l2:Nat)] rfl rfl (wY W7 91 [.int .i64 3, .int .i64 0, .slice none 0 0, .int .i64 (x1:Int), .int .i64 (xc:Int), .int .i64 (vr l2:Nat)] rfl) (six_one _ _ _ _ _ _ rfl rfl rfl rfl rfl rfl) HTL.out.1 HTL.out.2 (by have:=HH3.out.n3;simp;omega) ?_)
           intro v' w5 hown hgrow _
           obtain ⟨A5,c5,hv5, -, -⟩:=wB hown
           subst hv5
           have HN:Hid (StH w w.heap.size gp (needF s.org last) (last+1) w5 (pl2.set c ps2.length) (ps2++[((⟨3,0,[],x1,xc,vr l2⟩,Value.slice none 0 0):Stp × Value)]) (.slice A5 (ps2++[((⟨3,0,[],x1,xc,vr l2⟩,Value.slice none 0 0):Stp × Value)]).length c5)∧_):=Lib.hid ⟨by rw [zJ];exact HH3.out.push (x:=⟨3,0,[],x1,xc,vr l2⟩) (RdI.nil _) hown hgrow,HFO3.out⟩
           clear hown hgrow HH3 HBF HFO3 b0 b1 b2 b3 b4 b5
           go_wp2_with fail
           go_roundw
           case rel=>exact ⟨j+1,_,ps2++[((⟨3,0,[],x1,xc,vr l2⟩,Value.slice none 0 0):Stp × Value)],A5,c5,by omega,by go_num,by simp,HN⟩
           case measure=>simp [intOf];omega
        ·have hjl2:j=o.chain.length:=by omega
         have HN:Hid (StH w w.heap.size gp (needF s.org last) (last+1) wr pl2 ps2 (.slice A ps2.length ca)∧(List.range (c+1)).foldl (outStep s.org (needF s.org last)) (List.replicate (last+1) 0,[])=(pl2,ps2.map (fun q:Stp × Value=>q.1))):=by
          refine Lib.hid ⟨HS.out.1,?_⟩
          have:=HS.out.2
          rw [hjl2,kV] at this
          exact this
         obtain ⟨hk,hlt⟩:=HKK.out
         have yj:¬j<o.chain.length:=hjl
         clear HS hjl2 hjl
         go_wp2_with fail
         go_roundw
         case rel=>exact ⟨c+1,pl2,ps2,A,ca,by omega,by go_num,rfl,HN⟩
         case measure=>simp [intOf];omega
      ·have qp:=cG HH2.out.bp (k:=c) (by rw [HH2.out.pl];exact y3)
       have zp:=HH2.out.bp.frozen c
       have HH3:=Lib.hid (HH2.out.place c ps.length)
       have hbf:=HBX.out.far (p:=⟨gp,c,none⟩) (by have:=HGB.out;simp;omega) (.int .i64 (ps.length:Int))
       have HBF:=Lib.hid hbf
       have HFO:Hid ((List.range (c+1)).foldl (outStep s.org (needF s.org last)) (List.replicate (last+1) 0,[])=(pl.set c ps.length,(ps++[((o.leaf,Value.slice Al o.leaf.lits.length cl):Stp × Value)]).map (fun q:Stp × Value=>q.1))):=Lib.hid (HST2.out _ (by rw [HOS.out,if_pos rfl,if_pos hk0];simp))
       have HM:Hid (ps.length+1≤maxLen∧(ps.length+1) * 64≤140737488355328):=by refine Lib.hid ?_;have:=HLEN2.out;unfold LIM at this;unfold maxLen;omega
       have hk1:decide (o.leaf.kind=0)=false:=by simpa using hk0
       clear hbf HST2 HOS HH2
       go_upto_region 22 with fail
       clear b0 b1 b2 b3 b4 b5 b6 b7 qp zp qn
       generalize W2.setCell ⟨gp,c,none⟩ (.int .i64 (ps.length:Int))=W3 at *
       have b0:=HBF.out.cell 0
       have b1:=HBF.out.cell 1
       have b2:=HBF.out.cell 2
       have b3:=HBF.out.cell 3
       have b4:=HBF.out.cell 4
       have b5:=HBF.out.cell 5
       simp only [zA,zB,zC] at b0 b1 b2 b3 b4 b5
       go_wp2_with (at_builtin;refine yZ _ rfl _ _ 31 rfl (gp+1) 91 iS (.agg #[.int .i64 0, .int .i64 0, .slice none 0 0, .int .i64 0, .int .i64 0, .int .i64 0]) 6 64 Try.underlying31 hiS hzS0 hzS1 hzS2 rfl (by decide) _ _ _ rfl (HH3.out.os.alloc _) ⟨W3.heap.size,0,none⟩ 1 1 [.int .i64 o.leaf.kind, .int .i64 o.leaf.index, .slice Al o.leaf.lits.length cl, .int .i64 o.leaf.p, .int .i64 o.leaf.q, .int .i64 o.leaf.var] rfl rfl (wY W3 91 [.int .i64 o.leaf.kind, .int .i64 o.leaf.index, .slice Al o.leaf.lits.length cl, .int .i64 o.leaf.p, .int .i64 o.leaf.q, .int .i64 o.leaf.var] rfl) ?sp2 HM.out.1 HM.out.2 (by have:=HH3.out.n3;simp;omega) ?_)
       case sp2=>exact ⟨rfl,rfl,rfl,rfl,rfl,rfl⟩
       intro v' w5 hown hgrow _
       obtain ⟨A5,c5,hv5, -, -⟩:=wB hown
       subst hv5
       have HN:Hid (StH w w.heap.size gp (needF s.org last) (last+1) w5 (pl.set c ps.length) (ps++[((o.leaf,Value.slice Al o.leaf.lits.length cl):Stp × Value)]) (.slice A5 (ps++[((o.leaf,Value.slice Al o.leaf.lits.length cl):Stp × Value)]).length c5)∧(List.range (c+1)).foldl (outStep s.org (needF s.org last)) (List.replicate (last+1) 0,[])=(pl.set c ps.length,(ps++[((o.leaf,Value.slice Al o.leaf.lits.length cl):Stp × Value)]).map (fun q:Stp × Value=>q.1))):=Lib.hid ⟨by rw [zJ];exact HH3.out.push (x:=o.leaf) HLTC.out hown hgrow,HFO.out⟩
       obtain ⟨hk,hlt⟩:=HKK.out
       clear hown hgrow HH3 HBF HFO b0 b1 b2 b3 b4 b5
       go_wp2_with fail
       go_roundw
       case rel=>exact ⟨c+1,_,ps++[((o.leaf,Value.slice Al o.leaf.lits.length cl):Stp × Value)],A5,c5,by omega,by go_num,by simp,HN⟩
       case measure=>simp [intOf];omega
    ·have hkl:c=last+1:=by omega
     subst hkl
     have hfin:stepsF s.org last=ps.map (fun q:Stp × Value=>q.1):=by
      have:=HS.out.2
      unfold stepsF
      rw [this]
     have HFIN:Hid (∃v,(Ending.returned (.slice A ps.length ca)=Ending.returned v)∧Stps wr v (stepsF s.org last)∧Below w.heap.size w wr):=by
      obtain ⟨A9,c9,e1,e2,e3,e4⟩:=wB HS.out.1.os
      injection e1 with e1 _ e5
      subst e1 e5
      refine Lib.hid ⟨_,rfl,⟨_,_,ps,hfin,rfl,e2,e3,e4,fun q hq=>by
       obtain ⟨A2,c2,d1,d2,d3,d4⟩:=HS.out.1.li q hq
       have hok2:=HST.out q.1 (by rw [hfin];exact List.mem_map_of_mem hq)
       exact ⟨⟨A2,c2,d1,d2,d3,hok2.2,d4.keep HS.out.1.bl⟩,hok2.1⟩⟩,HS.out.1.bl⟩
     clear HS hfin hk hlt
     go_wp2_with fail
     go_ret
     exact HFIN.out
end
end Go.Proofs.Yticieifacalocaa
