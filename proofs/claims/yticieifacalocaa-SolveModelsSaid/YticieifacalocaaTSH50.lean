/- SolSlv -/
import Derived.Test.YticieifacalocaaTSH39
import Derived.Test.YticieifacalocaaTSH49
import Derived.Test.YticieifacalocaaTSH41
namespace Go.Proofs.Yticieifacalocaa
open Go.RowKit
def lE (w:World) (f:Form) (N B:Nat) (o:List Int ⊕ List Stp) (en:Ending) (w':World):Prop :=
 match o with
 | .inl val=>∃bb gx xs,en = .returned (.tuple #[.agg #[.slice (some ⟨bb,0,none⟩) B B, .slice (some ⟨gx,0,none⟩) N N], .slice none 0 0, .bool true])∧Blk w' bb 4 (cbs (val.map fun y=>decide (0<y))).toArray∧Blk w' gx 3 (ci xs).toArray∧w.heap.size≤bb∧w.heap.size≤gx∧xs.length=N ∧
   (∀v,v<B→∀d,bound f.atoms (litV val v)=some d→gi xs d.x≤gi xs d.y+d.c)∧(∀x∈xs, -1000000000000≤x∧x≤0)∧Below w.heap.size w w'
 | .inr l=>∃v,en = .returned (.tuple #[.agg #[.slice none 0 0, .slice none 0 0],v, .bool false])∧Stps w' v l∧Below w.heap.size w w'
def SlvOk (f:Form) (B:Nat):List Int ⊕ List Stp→Prop
 | .inl val=>ModelOk f B val
 | .inr l=>∀x∈l,x.ok∧∀z∈x.lits,I64 z
def orgI (l:List Nat):List Org:=l.map fun i=>⟨⟨1,(i:Nat),[],0,0,0⟩,0,[]⟩
theorem rH {c:Col} (h:bJ c):wO c:=by cases c<;>first|trivial|exact h
theorem fX {w:World} {g:Nat} {cs:Array Value} {t:TypeId} (h:Blk w g t cs):w.setRow g cs=w:=by
 have h0:w.heap[g]? = some (.cells cs t):=h
 have hx:(w.setRow g cs).heap=w.heap:=by
  refine Array.ext_getElem? fun k => ?_
  by_cases e:k=g
  ·subst e;rw [vJ w k cs cs t _ h0,h0]
  ·exact vP w g k cs e
 have hw:w.setRow g cs={ w with heap:=(w.setRow g cs).heap }:=rfl
 rw [hw,hx]
theorem orgI_succ {l:List Nat} {k x:Nat} (h:l[k]? = some x):orgI (l.take (k+1))=orgI (l.take k)++[⟨⟨1,(x:Nat),[],0,0,0⟩,0,[]⟩]:=by
 obtain ⟨h1,h2⟩:=zG.1 h
 unfold orgI
 rw [xV h1,List.map_append,h2]
 rfl
theorem orgI_len {l:List Nat} {k:Nat} (h:k≤l.length):(orgI (l.take k)).length=k:=by simp [orgI];omega
theorem oJ {fuel:Nat} {f:Form} {o:List Int ⊕ List Stp} (h:solveF fuel wJ f=some o):∃e1 c,gM wJ 0 f.clauses (Sol.new f).e=some (e1,c) ∧
  ((c<0∧∃s2 c2,wW f fuel 0 { Sol.new f with e:=e1,org:=orgI e1.inp }=some (s2,c2)∧((c2<0∧o = .inl s2.e.val)∨(0≤c2∧∃l,refuteF fuel s2 c2.toNat=some l∧o = .inr l))) ∨
   (0≤c∧∃l,refuteF fuel { Sol.new f with e:=e1,org:=orgI e1.inp } c.toNat=some l∧o = .inr l)):=by
 unfold solveF at h
 simp only at h
 cases hl:gM wJ 0 f.clauses (Sol.new f).e with
 | none=>rw [hl] at h;cases h
 | some p =>
  obtain ⟨e1,c⟩:=p
  rw [hl] at h
  simp only at h
  refine ⟨e1,c,rfl,?_⟩
  by_cases hc:c<0
  ·rw [if_pos hc] at h
   refine .inl ⟨hc,?_⟩
   change (match wW f fuel 0 { Sol.new f with e:=e1,org:=orgI e1.inp } with|none=>none|some (s2,c2)=>_)=_ at h
   cases hs:wW f fuel 0 { Sol.new f with e:=e1,org:=orgI e1.inp } with
   | none=>rw [hs] at h;cases h
   | some q =>
    obtain ⟨s2,c2⟩:=q
    rw [hs] at h
    simp only at h
    refine ⟨s2,c2,rfl,?_⟩
    by_cases h2:c2<0
    ·rw [if_pos h2] at h;injection h with h;exact .inl ⟨h2,h.symm⟩
    ·rw [if_neg h2] at h
     cases hr:refuteF fuel s2 c2.toNat with
     | none=>rw [hr] at h;cases h
     | some l=>rw [hr] at h;injection h with h;exact .inr ⟨by omega,l,rfl,h.symm⟩
  ·rw [if_neg hc] at h
   right
   change (refuteF fuel { Sol.new f with e:=e1,org:=orgI e1.inp } c.toNat).map Sum.inr=_ at h
   cases hr:refuteF fuel { Sol.new f with e:=e1,org:=orgI e1.inp } c.toNat with
   | none=>rw [hr] at h;cases h
   | some l=>rw [hr] at h;injection h with h;exact ⟨by omega,l,rfl,h.symm⟩
set_option maxRecDepth 100000 in
set_option maxHeartbeats 4000000 in
theorem iZ {f:Form} {fv:Value} {w:World} {N B fuel:Nat} {o:List Int ⊕ List Stp} (hf:IsForm w fv f) (hq:SolQ f B N) (hv:validF f=0) (hgx:∀xs∈f.clauses,xs.length≤1000000) (hs:solveF fuel wJ f=some o)
  (ho:SlvOk f B o) :
  Calls Try.prog 17 #[fv] w (lE w f N B o):=by
 obtain ⟨iO,hiO,hzO0,hzO1,hzO2⟩:=qD mV
 have hf2:=hf
 obtain ⟨av,cv,rfl,hi1,hi2,had,hmt⟩:=hf
 have hqb:=hq.b
 have hqn:=hq.n
 rw [hqb,hqn] at hf2 ⊢
 have HQ:=Lib.hid hq
 have HM:=Lib.hid hmt
 have HAD:=Lib.hid had
 have HGX:=Lib.hid hgx
 have HSF:=Lib.hid hs
 have HO:=Lib.hid ho
 have hBl:=hq.bl
 have hNl:=hq.nl
 have B1:Below w.heap.size w ((w.alloc (.cells #[.int .i64 (N:Int), .int .i64 (B:Int),av,cv] 29)).alloc (.cells #[.slice none 0 0, .slice none 0 0] 35)):=((zR _ _).alloc (Nat.le_refl _) _).alloc (by simp) _
 have HSZ:Hid (((w.alloc (.cells #[.int .i64 (N:Int), .int .i64 (B:Int),av,cv] 29)).alloc (.cells #[.slice none 0 0, .slice none 0 0] 35)).heap.size=w.heap.size+2):=Lib.hid (by simp)
 have HX1:Hid (Blk ((w.alloc (.cells #[.int .i64 (N:Int), .int .i64 (B:Int),av,cv] 29)).alloc (.cells #[.slice none 0 0, .slice none 0 0] 35)) w.heap.size 29 #[.int .i64 (N:Int), .int .i64 (B:Int),av,cv]):=Lib.hid ((Blk.new w _ _).alloc _)
 have HX2:Hid (Blk ((w.alloc (.cells #[.int .i64 (N:Int), .int .i64 (B:Int),av,cv] 29)).alloc (.cells #[.slice none 0 0, .slice none 0 0] 35)) (w.heap.size+1) 35 #[.slice none 0 0, .slice none 0 0]):=by
  have:=Blk.new (w.alloc (.cells #[.int .i64 (N:Int), .int .i64 (B:Int),av,cv] 29)) 35 #[.slice none 0 0, .slice none 0 0]
  rw [show (w.alloc (.cells #[.int .i64 (N:Int), .int .i64 (B:Int),av,cv] 29)).heap.size=w.heap.size+1 by simp] at this
  exact Lib.hid this
 have HV:Hid (Calls Try.prog 35 #[.agg #[.int .i64 (N:Int), .int .i64 (B:Int),av,cv]] ((w.alloc (.cells #[.int .i64 (N:Int), .int .i64 (B:Int),av,cv] 29)).alloc (.cells #[.slice none 0 0, .slice none 0 0] 35)) fun e w'=>e = .returned (.int .i64 0)∧Below ((w.alloc (.cells #[.int .i64 (N:Int), .int .i64 (B:Int),av,cv] 29)).alloc (.cells #[.slice none 0 0, .slice none 0 0] 35)).heap.size ((w.alloc (.cells #[.int .i64 (N:Int), .int .i64 (B:Int),av,cv] 29)).alloc (.cells #[.slice none 0 0, .slice none 0 0] 35)) w'):=by
  have:=iX f ((w.alloc (.cells #[.int .i64 (N:Int), .int .i64 (B:Int),av,cv] 29)).alloc (.cells #[.slice none 0 0, .slice none 0 0] 35)) _ (hf2.keep B1)
  rw [hv] at this
  exact Lib.hid this
 have HB1:=Lib.hid B1
 clear had hmt hi1 hi2 hf2 hgx hs ho B1 hv hq hqb hqn
 go_enter Try.func17,Try.ntmps17
 go_upto_region 1 with fail
 generalize (w.alloc (.cells #[.int .i64 (N:Int), .int .i64 (B:Int),av,cv] 29)).alloc (.cells #[.slice none 0 0, .slice none 0 0] 35)=W1 at *
 have q0:=HX1.out.cell 0
 have q1:=HX1.out.cell 1
 have q2:=HX1.out.cell 2
 have q3:=HX1.out.cell 3
 simp only [zA,zB,zC] at q0 q1 q2 q3
 go_wp2_with fail
 refine HV.out.mono ?_
 rintro en W2 ⟨rfl,hb2⟩
 have HB2:Hid (Below w.heap.size w W2):=Lib.hid (HB1.out.trans (hb2.mono (by have:=HSZ.out;omega)))
 have HSZ2:Hid (w.heap.size+2≤W2.heap.size):=Lib.hid (by have:=HSZ.out;have:=hb2.size;omega)
 have HY1:=Lib.hid (HX1.out.keep hb2)
 have HY2:=Lib.hid (HX2.out.keep hb2)
 clear hb2 HV HX1 HX2 HB1 q0 q1 q2 q3 HSZ
 have q0:=HY1.out.cell 0
 have q1:=HY1.out.cell 1
 have q2:=HY1.out.cell 2
 have q3:=HY1.out.cell 3
 simp only [zA,zB,zC] at q0 q1 q2 q3
 go_wp2_with fail
 refine (mF HQ.out.n HQ.out.b (by omega) hBl av cv W2).mono ?_
 rintro en W3 ⟨g,κ,V,U,rfl,hm3,hob,hua,huc,hui,hub,hz,hb3⟩
 have HS3:=Lib.hid hm3
 have HU3:=Lib.hid (And.intro hob (And.intro hua (And.intro huc hui)))
 have HZ:=Lib.hid hz
 have HB3:=Lib.hid hb3
 clear hm3 hob hua huc hui hub hz hb3 q0 q1 q2 q3
 have HKB:Hid (∀(κx:Kap) (wx:World),Fr κ κx W3 wx wO→Below W2.heap.size W2 wx):=Lib.hid fun κx wx hf=>HB3.out.trans (hf.below HB3.out.size HZ.out)
 have HD3:Hid (DU κ W3 U.av f.atoms):=Lib.hid ⟨W2,by rw [HU3.out.2.1];exact HAD.out.keep HB2.out,HB3.out,HZ.out⟩
 go_upto_region 4 with fail
 have y0:=HY1.out.keep HB3.out
 have s0:W3.drew.cell? ⟨w.heap.size,0,none⟩=some (.int .i64 (N:Int))∧W3.drew.cell? ⟨w.heap.size,1,none⟩=some (.int .i64 (B:Int))∧W3.drew.cell? ⟨w.heap.size,2,none⟩=some av∧W3.drew.cell? ⟨w.heap.size,3,none⟩=some cv:=⟨y0.cell 0,y0.cell 1,y0.cell 2,y0.cell 3⟩
 clear y0
 obtain ⟨e1,c,hld,hcase⟩:=oJ HSF.out
 have HLD:=Lib.hid hld
 have HCA:=Lib.hid hcase
 clear hld hcase
 have hLd:Ld 0 (Sol.new f).e:=⟨by simp [Sol.new,Eng.new],by simp [Sol.new,Eng.new],by simp [Sol.new,Eng.new],fun l=>by simp [Sol.new,Eng.new]⟩
 have hl2:=oV _ _ _ hLd HLD.out
 have HL2:=Lib.hid hl2
 have HLC:Hid (Calls Try.prog 37 #[.pointer (some ⟨g,0,none⟩), .agg #[.int .i64 (N:Int), .int .i64 (B:Int),av,cv]] W3.drew (fP κ W3.drew g 89 (U.rest (Sol.new f).num.length (Sol.new f).e.val.length (Sol.new f).rst) 0 wK (.int .i64 c) e1)) :=
  Lib.hid (pD (HS3.out.drewN 1).eng (HM.out.keep HB2.out) (by have:=HQ.out.cl;omega) HGX.out (bO HB3.out 1) HZ.out hLd HLD.out)
 clear hLd hl2
 go_region_held_law (fun w'=>w'.cell? ⟨w.heap.size,0,none⟩=some (.int .i64 (N:Int))∧w'.cell? ⟨w.heap.size,1,none⟩=some (.int .i64 (B:Int))∧w'.cell? ⟨w.heap.size,2,none⟩=some av∧w'.cell? ⟨w.heap.size,3,none⟩=some cv) (first|exact s0|exact s1) ((refine wC rfl 37 _ _ rfl _ Try.func37 (by kernel_rfl) (by kernel_rfl) #[.pointer (some ⟨g,0,none⟩), .agg #[.int .i64 (N:Int), .int .i64 (B:Int),av,cv]] (by first|rfl|(simp [Act.eval];done)) HLC.out (fun e w' h=>⟨_,h.1⟩) ?_;intro vu wu hu;obtain ⟨hv9,κ5,V5,hE5,hF5⟩:=hu;injection hv9 with hv9;subst hv9;have HE5:=Lib.hid (And.intro hE5 hF5);clear hE5 hF5;have HF5:Hid (Fr κ κ5 W3 wu wO):=Lib.hid ((Fr.drew κ W3 wO).trans (HE5.out.2.mono fun c hc=>dL hc));have y1:=HY1.out.keep (HKB.out κ5 wu HF5.out);have s1:wu.cell? ⟨w.heap.size,0,none⟩=some (.int .i64 (N:Int))∧wu.cell? ⟨w.heap.size,1,none⟩=some (.int .i64 (B:Int))∧wu.cell? ⟨w.heap.size,2,none⟩=some av∧wu.cell? ⟨w.heap.size,3,none⟩=some cv:=⟨y1.cell 0,y1.cell 1,y1.cell 2,y1.cell 3⟩;clear y1))
 clear s0 s1
 have HS5:Hid (SolM κ5 wu g { Sol.new f with e:=e1 } V5 U):=Lib.hid ((HS3.out.drewN 1).withE HE5.out.2 (fun c hc=>hc) HE5.out.1 HL2.out.2)
 have HIL:Hid (e1.inp.length≤32768):=Lib.hid (by have h1:=HL2.out.1.i;have h2:=HQ.out.cl;omega)
 obtain ⟨Ai,cI,hvi,hi1,hi2⟩:=HS5.out.eng.inp.shape
 simp only at hvi hi1 hi2
 unfold maxLen at hi2
 have q1:wu.cell? ⟨g,1,none⟩=some V5.vi:=HS5.out.eng.cellE (i:=1) rfl
 rw [hvi] at q1
 have HVI:=Lib.hid hvi
 clear hvi HE5 HLC HS3
 go_upto_region 6 with fail
 clear q1
 have HC:Hid (∀d∈f.atoms, -9223372036854775807≤d.c):=Lib.hid fun d hd=>by have:=(HQ.out.at_ d hd);omega
 go_loopw [26] (fun i wr=>∃k:Nat,k≤e1.inp.length∧i = .int .i64 (k:Int)∧∃(κ6:Kap) (U6:SV),Hid (SolM κ6 wr g { Sol.new f with e:=e1,org:=orgI (e1.inp.take k) } V5 U6∧Fr κ κ6 W3 wr wO∧U.same U6)) (fun i _=>e1.inp.length-(intOf i).toNat)
 case atStart=>exact ⟨0,zQ _,rfl,κ5,U,Lib.hid ⟨HS5.out,HF5.out, .refl U⟩⟩
 case round =>
  clear HS5 HF5
  obtain ⟨k,hk,rfl,κ6,U6,HS6⟩:=hrel
  by_cases hlt:k<e1.inp.length
  ·obtain ⟨x,hx⟩:∃x,e1.inp[k]? = some x:=⟨_,List.getElem?_eq_getElem hlt⟩
   obtain ⟨hm,hF,hsm⟩:=HS6.out
   obtain ⟨ga,ca,ev, -, -, -, -,hcc, -⟩:=hm.eng.inp.open_ (by show 0<e1.inp.length;omega)
   rw [HVI.out] at ev
   injection ev with ev _ _
   subst ev
   have qx:=hcc k _ (cn_at hx)
   have q17:wr.cell? ⟨g,17,none⟩=some U6.vo:=hm.eng.cellR (i:=8) rfl
   have hol:=orgI_len (l:=e1.inp) hk
   obtain ⟨Ao,co,hvo, -, -⟩:=hm.org.shape
   simp only [hol] at hvo
   rw [hvo] at q17
   have HMX:Hid (k+1≤maxLen∧(k+1) * 96≤140737488355328):=by refine Lib.hid ?_;have:=HIL.out;unfold maxLen;omega
   have HOW:Hid (wr.ownsRow 0 94 8 (.slice Ao k co) k (orgs (orgI (e1.inp.take k)) U6.ol)):=by
    have:=hm.org.o
    rw [hvo] at this
    simp only [hol] at this
    exact Lib.hid this
   have HOC:Hid (∀u∈([.int .i64 1, .int .i64 (x:Int), .slice none 0 0, .int .i64 0, .int .i64 0, .int .i64 0, .int .i64 0, .slice none 0 0]:List Value),u.oneCell'=true):=Lib.hid (by intro u hu;simp at hu;rcases hu with rfl|rfl|rfl|rfl|rfl|rfl|rfl|rfl<;>rfl)
   have HVO:=Lib.hid (And.intro hvo hol)
   have HX:=Lib.hid hx
   have HMM:=Lib.hid (And.intro hm (And.intro hF hsm))
   have yk:(k:Int)<(e1.inp.length:Int):=by omega
   have HKL:=Lib.hid (And.intro hk hlt)
   clear hm hF hsm hcc hx hvo hol HS6 hk hlt
   go_wp2_with (at_builtin;refine zW _ rfl _ _ 87 rfl 0 94 iO (.agg #[.int .i64 0, .int .i64 0, .slice none 0 0, .int .i64 0, .int .i64 0, .int .i64 0, .int .i64 0, .slice none 0 0]) 8 96 Try.underlying87 hiO hzO0 hzO1 hzO2 rfl (by decide) _ _ _ rfl (HOW.out.alloc _) ⟨wr.heap.size,0,none⟩ 1 1 [.int .i64 1, .int .i64 (x:Int), .slice none 0 0, .int .i64 0, .int .i64 0, .int .i64 0, .int .i64 0, .slice none 0 0] rfl rfl (wY wr 94 [.int .i64 1, .int .i64 (x:Int), .slice none 0 0, .int .i64 0, .int .i64 0, .int .i64 0, .int .i64 0, .slice none 0 0] rfl) HOC.out HMX.out.1 HMX.out.2 (zQ _) ?_)
   intro v' w5 hown hgrow _ hat
   obtain ⟨A9,c9,hv9, -, -, -⟩:=wB hown
   subst hv9
   have hkey:∃κ7,(w5.frozen? ⟨g,17,none⟩=false∧w5.cell? ⟨g,17,none⟩=some (.slice Ao k co))∧SolM κ7 (w5.setCell ⟨g,17,none⟩ (.slice A9 (k+1) c9)) g { Sol.new f with e:=e1,org:=orgI (e1.inp.take (k+1)) } V5 { U6 with vo := .slice A9 (k+1) c9,ol:=U6.ol++[(.slice none 0 0, .slice none 0 0)] }∧Fr κ κ7 W3 (w5.setCell ⟨g,17,none⟩ (.slice A9 (k+1) c9)) wO:=by
    obtain ⟨hm,hF,hsm⟩:=HMM.out
    have f0:=Fr.alloc κ6 wr (.cells #[.int .i64 1, .int .i64 (x:Int), .slice none 0 0, .int .i64 0, .int .i64 0, .int .i64 0, .int .i64 0, .slice none 0 0] 94) (fun c=>c = .org)
    have ho:=hm.org.fr (Fr.alloc κ6 wr (.cells #[.int .i64 1, .int .i64 (x:Int), .slice none 0 0, .int .i64 0, .int .i64 0, .int .i64 0, .int .i64 0, .slice none 0 0] 94) (fun _=>False)) id
    rw [HVO.out.1] at ho
    simp only [HVO.out.2] at ho
    obtain ⟨κ7,j1,j2⟩:=ho.app (S:=fun c=>c = .org) hown hgrow (by simpa using hat) rfl
    have f7:=f0.trans j2
    obtain ⟨r1,r2⟩:=hm.pushOrg f7 (o:=⟨⟨1,(x:Nat),[],0,0,0⟩,0,[]⟩) (p:=(.slice none 0 0, .slice none 0 0)) (v := .slice A9 (k+1) c9) (by simp only [HVO.out.2];exact j1) (Hold.nil _ _ _ _ _) (Hold.nil _ _ _ _ _)
    have hb:=hm.eng.blk.fr f7 (by simp)
    refine ⟨κ7,⟨hb.frozen 17,?_⟩,?_,hF.trans (r2.mono fun c hc=>by rcases hc with rfl|rfl<;>trivial)⟩
    ·rw [hb.cell 17,←HVO.out.1]
     have q17:wr.cell? ⟨g,17,none⟩=some U6.vo:=hm.eng.cellR (i:=8) rfl
     rw [hm.eng.blk.cell] at q17
     exact q17
    ·rw [orgI_succ HX.out];exact r1
   obtain ⟨κ7,⟨z17,y17⟩,hm7,hF7⟩:=hkey
   have HN:=Lib.hid (And.intro hm7 (And.intro hF7 HMM.out.2.2))
   clear hown hgrow hat hm7 hF7 HMM HOW q17
   have hlt:=HKL.out.2
   go_wp2_with fail
   go_roundw
   case rel=>exact ⟨k+1,by omega,by go_num,κ7,{ U6 with vo := .slice A9 (k+1) c9,ol:=U6.ol++[(.slice none 0 0, .slice none 0 0)] },HN⟩
   case measure=>simp [intOf];omega
  ·obtain rfl:k=e1.inp.length:=by omega
   have yk:¬(e1.inp.length<e1.inp.length):=by omega
   obtain ⟨hm,hF,hsm⟩:=HS6.out
   rw [zU (Nat.le_refl _)] at hm
   have HM6:=Lib.hid hm
   have HF6:=Lib.hid hF
   have HSM6:=Lib.hid hsm
   clear hm hF hsm HS6 hk hlt
   rcases HCA.out with ⟨hc,s2,c2,hse,hres⟩|⟨hc,l,hrf,rfl⟩
   ·have yc:decide (c<0)=true:=by simpa using hc
    have HSB:Hid (SB { Sol.new f with e:=e1,org:=orgI e1.inp }):=Lib.hid ⟨by have h1:=HL2.out.1.c;have h2:=HQ.out.cl;show e1.cls.length≤LIM;unfold LIM;omega,by show ((List.range f.ints.toNat).map Int.ofNat).length≤1000000;rw [List.length_map,List.length_range];have:=HQ.out.n;omega⟩
    have HSE:=Lib.hid (sM HM6.out (by rw [HSM6.out.1];exact HU3.out.1) (by rw [HSM6.out.2.2.2.1];exact HD3.out.fr HF6.out) HC.out HSB.out (fun x hx=>by
     have hx:x∈List.replicate f.bools.toNat (0:Int):=hx
     rw [List.mem_replicate] at hx
     rw [hx.2];unfold I64;omega) hse)
    have HRES:=Lib.hid hres
    have hmf:∀(fn:Fn) (first cap:Array Value) (W:World),(Instr.makeFunc fn first cap).run Try.prog W = .ok (.func fn first cap) W:=fun _ _ _ _=>rfl
    clear hc hse hres HCA HSB
    go_wp2_with fail
    refine HSE.out.mono ?_
    rintro en W7 ⟨rfl,κ7,V7,U7,hm7,hf7,hsm7⟩
    have HM7:=Lib.hid hm7
    have HF7:Hid (Fr κ κ7 W3 W7 wO):=Lib.hid (HF6.out.trans hf7)
    have HSM7:=Lib.hid (HSM6.out.trans hsm7)
    clear hm7 hf7 hsm7 HSE HM6 HF6 HSM6 hmf yc
    rcases HRES.out with ⟨hc2,rfl⟩|⟨hc2,l,hrf,rfl⟩
    ·have yc2:decide (c2≥0)=false:=by simp;omega
     have HMO:=Lib.hid (model_any HM7.out HQ.out (by rw [HSM7.out.2.2.2.1];exact HD3.out.fr HF7.out) HO.out (by rw [HSM7.out.2.1];exact HU3.out.2.2.2))
     clear hc2 HRES
     go_wp2_with fail
     refine HMO.out.mono ?_
     rintro en w9 ⟨bb,gx,xs,rfl,hbb,hgx,hn1,hn2,hxl,hxs,hxb,hb9⟩
     have hbx:=HY2.out.keep ((HKB.out κ7 W7 HF7.out).trans (hb9.mono (HKB.out κ7 W7 HF7.out).size))
     have HBW:Hid (Below w.heap.size w w9∧w.heap.size+2≤W7.heap.size):=Lib.hid ⟨HB2.out.trans (((HKB.out κ7 W7 HF7.out).trans (hb9.mono (HKB.out κ7 W7 HF7.out).size)).mono HB2.out.size),by have:=(HKB.out κ7 W7 HF7.out).size;have:=HSZ2.out;omega⟩
     have HBX:=Lib.hid (And.intro hbb (And.intro hgx (And.intro hn1 (And.intro hn2 (And.intro hxl (And.intro hxs hxb))))))
     clear hbb hgx hn1 hn2 hxl hxs hxb hb9 HMO
     dsimp only
     go_step
     refine kF rfl 35 (.tmp 2) (.tmp 58) rfl (w.heap.size+1) #[.slice (some ⟨bb,0,none⟩) B B, .slice (some ⟨gx,0,none⟩) N N] rfl rfl 35 _ hbx (by kernel_rfl) rfl (by simp [Value.oneCell']) ?_
     have hr9:Blk (w9.setRow (w.heap.size+1) #[.slice (some ⟨bb,0,none⟩) B B, .slice (some ⟨gx,0,none⟩) N N]) (w.heap.size+1) 35 #[.slice (some ⟨bb,0,none⟩) B B, .slice (some ⟨gx,0,none⟩) N N]:=vJ w9 _ _ _ _ _ hbx
     have hFIN:lE w f N B (.inl s2.e.val) (.returned (.tuple #[.agg #[.slice (some ⟨bb,0,none⟩) B B, .slice (some ⟨gx,0,none⟩) N N], .slice none 0 0, .bool true])) (w9.setRow (w.heap.size+1) #[.slice (some ⟨bb,0,none⟩) B B, .slice (some ⟨gx,0,none⟩) N N]):=by
      obtain ⟨h1,h2,h3,h4,h5,h6,h7⟩:=HBX.out
      have h8:=HBW.out.2
      exact ⟨bb,gx,xs,rfl,(vP w9 _ bb _ (by omega)).trans h1,(vP w9 _ gx _ (by omega)).trans h2,by omega,by omega,h5,h6,h7,uQ HBW.out.1 (by omega) _⟩
     have HFIN:=Lib.hid hFIN
     clear hFIN HBX HBW hbx
     generalize w9.setRow (w.heap.size+1) #[.slice (some ⟨bb,0,none⟩) B B, .slice (some ⟨gx,0,none⟩) N N]=W10 at *
     have r0:=hr9.cell 0
     have r1:=hr9.cell 1
     simp only [zA,zB,zC] at r0 r1
     clear hr9
     go_wp2_with fail
     exact kK (v := .tuple #[.agg #[.slice (some ⟨bb,0,none⟩) B B, .slice (some ⟨gx,0,none⟩) N N], .slice none 0 0, .bool true]) (by simp [results,Try.results17,go_sem,r0,r1]) rfl HFIN.out
    ·have yc2:decide (c2≥0)=true:=by simpa using hc2
     have HRF:Hid (Calls Try.prog 40 #[.pointer (some ⟨g,0,none⟩), .int .i64 c2] W7 (nQ κ7 W7 l)):=by
      have:=fR HM7.out hrf HO.out
      rw [kA hc2] at this
      exact Lib.hid this
     clear hrf
     go_wp2_with fail
     refine HRF.out.mono ?_
     rintro en w9 ⟨v9,κ9,rfl,hv9,hf9⟩
     have hbw:=HKB.out κ9 w9 (HF7.out.trans (hf9.mono fun c hc=>rH hc))
     have hbx:=HY2.out.keep hbw
     have HFIN:Hid (lE w f N B (.inr l) (.returned (.tuple #[.agg #[.slice none 0 0, .slice none 0 0],v9, .bool false])) w9):=Lib.hid ⟨v9,rfl,hv9,HB2.out.trans (hbw.mono HB2.out.size)⟩
     clear hv9 hf9 hbw HRF
     dsimp only
     go_step
     refine kF rfl 35 (.tmp 2) (.tmp 53) rfl (w.heap.size+1) #[.slice none 0 0, .slice none 0 0] rfl rfl 35 _ hbx (by kernel_rfl) rfl (by simp [Value.oneCell']) ?_
     rw [fX hbx]
     have r0:=hbx.cell 0
     have r1:=hbx.cell 1
     simp only [zA,zB,zC] at r0 r1
     clear hbx
     go_wp2_with fail
     exact kK (v := .tuple #[.agg #[.slice none 0 0, .slice none 0 0],v9, .bool false]) (by simp [results,Try.results17,go_sem,r0,r1]) rfl HFIN.out
   ·have yc:decide (c<0)=false:=by simp;omega
    have yc2:decide (c≥0)=true:=by simpa using hc
    have HRF:Hid (Calls Try.prog 40 #[.pointer (some ⟨g,0,none⟩), .int .i64 c] wr (nQ κ6 wr l)):=by
     have:=fR HM6.out hrf HO.out
     rw [kA hc] at this
     exact Lib.hid this
    clear hrf
    go_wp2_with fail
    refine HRF.out.mono ?_
    rintro en w9 ⟨v9,κ9,rfl,hv9,hf9⟩
    have hbw:=HKB.out κ9 w9 (HF6.out.trans (hf9.mono fun c hc=>rH hc))
    have hbx:=HY2.out.keep hbw
    have HFIN:Hid (lE w f N B (.inr l) (.returned (.tuple #[.agg #[.slice none 0 0, .slice none 0 0],v9, .bool false])) w9):=Lib.hid ⟨v9,rfl,hv9,HB2.out.trans (hbw.mono HB2.out.size)⟩
    clear hv9 hf9 hbw HRF
    dsimp only
    go_step
    refine kF rfl 35 (.tmp 2) (.tmp 53) rfl (w.heap.size+1) #[.slice none 0 0, .slice none 0 0] rfl rfl 35 _ hbx (by kernel_rfl) rfl (by simp [Value.oneCell']) ?_
    rw [fX hbx]
    have r0:=hbx.cell 0
    have r1:=hbx.cell 1
    simp only [zA,zB,zC] at r0 r1
    clear hbx
    go_wp2_with fail
    exact kK (v := .tuple #[.agg #[.slice none 0 0, .slice none 0 0],v9, .bool false]) (by simp [results,Try.results17,go_sem,r0,r1]) rfl HFIN.out
end Go.Proofs.Yticieifacalocaa
