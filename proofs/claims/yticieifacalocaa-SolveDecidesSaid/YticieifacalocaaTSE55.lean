/- SmallX LawSDe -/
import Derived.Test.YticieifacalocaaTSE54
import Derived.Test.YticieifacalocaaTSE50
namespace Go.Proofs.Yticieifacalocaa
open Go.RowKit
def SmallRetX (w:World) (a b c:Int) (L:List Int) (e:Ending) (w':World):Prop:=∃fv f,e = .returned fv∧IsForm w' fv f∧SmallF (a % 3) (b % 6) (c % 5) f∧Below w.heap.size w w'∧ProbF (a % 3) (b % 6) (c % 5) (L.take 300) f
set_option maxRecDepth 100000 in
set_option maxHeartbeats 1000000 in
theorem mW (pv:Value) (a b c:Int) (L:List Int) (w:World) (hp:mO w pv a b c L) :
  Calls Try.prog 15 #[pv] w (SmallRetX w a b c L):=by
 have HP:=Lib.hid hp
 obtain ⟨nv,rfl,ha,hb,hc,hL⟩:=hp
 have HL:=Lib.hid hL
 obtain ⟨a0,a1⟩:=ha
 obtain ⟨b0,b1⟩:=hb
 obtain ⟨c0,c1⟩:=hc
 obtain ⟨An,cn,rfl, -, -, -, -⟩:=hL
 have ra:0≤a % 3∧a % 3≤255:=by omega
 have rb:0≤b % 6∧b % 6≤255:=by omega
 have rc:0≤c % 5∧c % 5≤255:=by omega
 go_enter Try.func15,Try.ntmps15
 go_wp2_with fail
 have hbw:Below w.heap.size w ((w.alloc (.cells #[.int .u8 (a % 3), .int .u8 (b % 6), .int .u8 (c % 5), .slice An L.length cn] 25)).alloc (.cells #[.int .i64 0, .int .i64 0, .slice none 0 0, .slice none 0 0] 29)):=((zL _ _).alloc (Nat.le_refl _) _).alloc (by simp) _
 have B2:=Blk.new (w.alloc (.cells #[.int .u8 (a % 3), .int .u8 (b % 6), .int .u8 (c % 5), .slice An L.length cn] 25)) 29 #[.int .i64 0, .int .i64 0, .slice none 0 0, .slice none 0 0]
 rw [show (w.alloc (.cells #[.int .u8 (a % 3), .int .u8 (b % 6), .int .u8 (c % 5), .slice An L.length cn] 25)).heap.size=w.heap.size+1 by simp] at B2
 generalize (w.alloc (.cells #[.int .u8 (a % 3), .int .u8 (b % 6), .int .u8 (c % 5), .slice An L.length cn] 25)).alloc (.cells #[.int .i64 0, .int .i64 0, .slice none 0 0, .slice none 0 0] 29)=W at *
 have HBW:=Lib.hid hbw
 have hlt:=B2.lt
 refine (rF _ (a % 3) (b % 6) (c % 5) L _ ⟨_,rfl,ra,rb,rc,HL.out.keep HBW.out⟩ (L.take 300) rfl).mono ?_
 rintro e w2 ⟨fv,f,rfl,hf,hsm,hb2,hst,hx⟩
 have HB2:=Lib.hid (HBW.out.trans (hb2.mono HBW.out.size))
 have HSM:=Lib.hid hsm
 have HST:=Lib.hid hst
 have HXF:=Lib.hid hx
 have B3:=B2.keep hb2
 obtain ⟨av,cv,rfl, -, -,hf3,hf4⟩:=hf
 obtain ⟨Aa,ca,rfl, -, -, -, -⟩:=hf3
 obtain ⟨Ac,cc,vs,rfl, -, -, -, -, -⟩:=hf4
 have t0:=B3.cell 0
 have t1:=B3.cell 1
 have t2:=B3.cell 2
 have t3:=B3.cell 3
 have z0:=B3.frozen 0
 have z1:=B3.frozen 1
 have z2:=B3.frozen 2
 have z3:=B3.frozen 3
 simp only [zA,zB,zC] at t0 t1 t2 t3
 clear hbw hb2 hsm hst hx B2 B3
 go_wp2_with fail
 have hg:=aO w2 (w.heap.size+1) 0 (.int .i64 f.ints) (.int .i64 f.bools) (.slice Aa f.atoms.length ca) (.slice Ac f.clauses.length cc)
 exact xM (v := .agg #[.int .i64 f.ints, .int .i64 f.bools, .slice Aa f.atoms.length ca, .slice Ac f.clauses.length cc]) (by simp [results,Try.results15,go_sem,t0,t1,t2,t3]) rfl ⟨_,_,rfl,HST.out _ _ hg hlt,HSM.out,HB2.out.grown hg HB2.out.size fun g e=>by injection e with e;omega,HXF.out⟩
theorem refs_no {f:Form} {l:List Stp} {bs:List Bool} {xs:List Int} (h:fT f l) (hf:lL f.atoms bs xs) (hc:∀c∈f.clauses,c.any (holds bs)=true):False:=by
 obtain ⟨cs,hg,h0,hl⟩:=h
 have hlen:=hg.len
 have hlt:l.length-1<cs.length:=by omega
 have hm:cs.getD (l.length-1) []∈cs:=by rw [List.getD_eq_getElem?_getD,List.getElem?_eq_getElem hlt];exact yG hlt
 have:=nL hf hc hg (by simp) _ hm
 rw [hl] at this
 cases this
theorem dec_same {f:Form} {B:Nat} {o:List Int ⊕ List Stp} {w:World} {m0 m1 lv:Value} {is:Bool} (hv:validF f=0) (hg:SlvGood f B o) (h:SlvVal w f o m0 m1 lv) (hr:(is=true∧∃l,fT f l)∨(is=false∧∃bs xs,lL f.atoms bs xs∧∀c∈f.clauses,c.any (holds bs)=true)):o.isLeft = !is:=by
 rcases hr with ⟨rfl,l,hl⟩|⟨rfl,bs,xs,h1,h2⟩
 ·cases o with
  | inr l=>rfl
  | inl val =>
   obtain ⟨-,xs, -, -,h4, -⟩:=h
   obtain ⟨h5,h6⟩:=sat_fits h4 hv
   exact (refs_no hl h5 h6).elim
 ·obtain ⟨v2,rfl, -⟩:=hg.sat h1 h2
  rfl
set_option maxRecDepth 100000 in
set_option maxHeartbeats 4000000 in
theorem lawSDe (pv:Value) (a b c:Int) (L:List Int) (w:World) (hp:mO w pv a b c L) :
  Calls Try.prog 3 #[pv] w fun e w'=>e = .returned (.bool true)∧Below w.heap.size w w':=by
 have HP:=Lib.hid hp
 obtain ⟨nv,rfl, -, -, -,hL⟩:=hp
 obtain ⟨An,cn,rfl, -, -, -, -⟩:=hL
 have HB:Hid (Below w.heap.size w (w.alloc (.cells #[.int .u8 a, .int .u8 b, .int .u8 c, .slice An L.length cn] 25))):=Lib.hid ((zL _ _).alloc (Nat.le_refl _) _)
 have HPK:=Lib.hid (Blk.new w 25 #[.int .u8 a, .int .u8 b, .int .u8 c, .slice An L.length cn])
 have HPR:Hid (∀w',Below w.heap.size w w'→mO w' (.agg #[.int .u8 a, .int .u8 b, .int .u8 c, .slice An L.length cn]) a b c L):=Lib.hid fun w' hb=>by
  obtain ⟨nv,e1,e2⟩:=HP.out;exact ⟨_,rfl,e2.1,e2.2.1,e2.2.2.1,by injection e1 with e1;simp only [Array.mk.injEq,List.cons.injEq,and_true,true_and] at e1;rw [e1];exact e2.2.2.2.keep hb⟩
 go_enter Try.func3,Try.ntmps3
 go_wp2_with fail
 generalize w.alloc (.cells #[.int .u8 a, .int .u8 b, .int .u8 c, .slice An L.length cn] 25)=W at *
 refine (mW _ a b c L _ (HPR.out _ HB.out)).mono ?_
 rintro e w2 ⟨fv,f,rfl,hf,hsm,hb2,hx⟩
 obtain ⟨B,hB,hB1,hB2⟩:=hsm.nb
 have HB2:=Lib.hid (HB.out.trans (hb2.mono HB.out.size))
 have HPK2:=Lib.hid (HPK.out.keep hb2)
 have HF2:=Lib.hid hf
 have HSM:=Lib.hid hsm
 have HXF:=Lib.hid hx
 obtain ⟨av,cv,rfl, -, -,hf3,hf4⟩:=hf
 obtain ⟨Aa,ca,rfl, -, -, -, -⟩:=hf3
 obtain ⟨Ac,cc,vs,rfl, -, -, -, -, -⟩:=hf4
 clear hb2 hsm hx HB HP HPK
 have HBK:=Lib.hid (Blk.new w2 29 #[.int .i64 f.ints, .int .i64 (B:Int), .slice Aa f.atoms.length ca, .slice Ac f.clauses.length cc])
 have hb3:Below w2.heap.size w2 (w2.alloc (.cells #[.int .i64 f.ints, .int .i64 (B:Int), .slice Aa f.atoms.length ca, .slice Ac f.clauses.length cc] 29)):=(zL _ _).alloc (Nat.le_refl _) _
 have HF3:=Lib.hid (HF2.out.keep hb3)
 have HPK3:=Lib.hid (HPK2.out.keep hb3)
 have HB3:=Lib.hid (HB2.out.trans (hb3.mono HB2.out.size))
 rw [hB] at HF3
 clear hb3 HF2 HB2 HPK2
 go_upto_region 2 with fail
 generalize w2.alloc (.cells #[.int .i64 f.ints, .int .i64 (B:Int), .slice Aa f.atoms.length ca, .slice Ac f.clauses.length cc] 29)=w3 at *
 generalize w2.heap.size=bk at *
 generalize w.heap.size=bp at HPK3 ⊢
 have q0:=HBK.out.cell 0
 have q1:=HBK.out.cell 1
 have q2:=HBK.out.cell 2
 have q3:=HBK.out.cell 3
 simp only [zA,zB,zC] at q0 q1 q2 q3
 go_wp2_with fail
 have HFX:Hid (IsForm w3 (.agg #[.int .i64 f.ints, .int .i64 (B:Int), .slice Aa f.atoms.length ca, .slice Ac f.clauses.length cc]) f):=HF3
 clear q0 q1 q2 q3
 refine (oB _ f _ HF3.out HSM.out.q HSM.out.ten).mono ?_
 rintro e w4 hrf
 obtain ⟨hb4,gv,A0,n0,c0,A1,n1,c1,is,rfl,his⟩:Below w3.heap.size w3 w4∧∃gv A0 n0 c0 A1 n1 c1 is,e = .returned (.tuple #[gv, .agg #[.slice A0 n0 c0, .slice A1 n1 c1], .bool is])∧((is=true∧∃l,fT f l)∨(is=false∧∃bs xs,lL f.atoms bs xs∧∀c∈f.clauses,c.any (holds bs)=true)):=by
  obtain ⟨hb4,⟨gv,l,rfl, -,h1, -⟩|⟨bv,iv,bs,ys,rfl,hB4,hX4, -, -,hfit,hcls, -⟩⟩:=hrf
  ·exact ⟨hb4,_,_,_,_,_,_,_,_,rfl, .inl ⟨rfl,l,h1⟩⟩
  ·obtain ⟨Amb,cmb,rfl, -⟩:=hB4
   obtain ⟨Amx,cmx,rfl, -⟩:=hX4
   exact ⟨hb4,_,_,_,_,_,_,_,_,rfl, .inr ⟨rfl,bs,ys,hfit,hcls⟩⟩
 have HIS:=Lib.hid his
 have HB4:=Lib.hid (HB3.out.trans (hb4.mono HB3.out.size))
 have hb5:Below w4.heap.size w4 (w4.alloc (.cells #[.slice A0 n0 c0, .slice A1 n1 c1] 35)):=(zL _ _).alloc (Nat.le_refl _) _
 have HB5:=Lib.hid (HB4.out.trans (hb5.mono HB4.out.size))
 have HBK5:=Lib.hid ((HBK.out.keep hb4).keep hb5)
 have HPK5:=Lib.hid ((HPK3.out.keep hb4).keep hb5)
 have HF5:=Lib.hid ((HFX.out.keep hb4).keep hb5)
 clear hrf his hb4 hb5 HB4 HB3 HBK HF3 HFX HPK3
 go_upto_region 3 with fail
 generalize w4.alloc (.cells #[.slice A0 n0 c0, .slice A1 n1 c1] 35)=w5 at *
 have q0:=HBK5.out.cell 0
 have q1:=HBK5.out.cell 1
 have q2:=HBK5.out.cell 2
 have q3:=HBK5.out.cell 3
 simp only [zA,zB,zC] at q0 q1 q2 q3
 obtain ⟨o,hgo,hc⟩:=rL (SmallF.valid HSM.out) hB (by omega) (SmallF.four HSM.out) w5 _ HF5.out
 have HC:=Lib.hid hc
 have HGO:=Lib.hid hgo
 clear hc hgo
 go_wp2_with fail
 refine HC.out.mono ?_
 rintro e w6 ⟨m0,m1,lv,rfl,hv6,hb6⟩
 have HSV:=Lib.hid hv6
 have HEQ:=Lib.hid (dec_same (SmallF.valid HSM.out) HGO.out hv6 HIS.out)
 obtain ⟨Am,nm,cm,Ax,nx,cx,rfl,rfl⟩:=hv6.shape
 have hb7:Below w6.heap.size w6 (w6.alloc (.cells #[.slice Am nm cm, .slice Ax nx cx] 35)):=(zL _ _).alloc (Nat.le_refl _) _
 have HF7:=Lib.hid ((HF5.out.keep hb6).keep hb7)
 have HBK7:=Lib.hid ((HBK5.out.keep hb6).keep hb7)
 have HPK7:=Lib.hid ((HPK5.out.keep hb6).keep hb7)
 have HV7:=Lib.hid (hv6.keep hb7)
 have HMK7:=Lib.hid (Blk.new w6 35 #[.slice Am nm cm, .slice Ax nx cx])
 have HB6:=Lib.hid (HB5.out.trans (hb6.mono HB5.out.size))
 have HB7:=Lib.hid (HB6.out.trans (hb7.mono HB6.out.size))
 clear hv6 hb6 hb7 HB6 HB5 HBK5 HF5 HC HPK5 HSV q0 q1 q2 q3
 go_upto_region 4 with fail
 generalize w6.alloc (.cells #[.slice Am nm cm, .slice Ax nx cx] 35)=w7 at *
 generalize w6.heap.size=mk at *
 have hl1:=HPK7.out.lt
 have hl2:=HBK7.out.lt
 have hl3:=HMK7.out.lt
 have p0:=HPK7.out.cell 0
 have p1:=HPK7.out.cell 1
 have p2:=HPK7.out.cell 2
 have p3:=HPK7.out.cell 3
 have q0:=HBK7.out.cell 0
 have q1:=HBK7.out.cell 1
 have q2:=HBK7.out.cell 2
 have q3:=HBK7.out.cell 3
 have m0:=HMK7.out.cell 0
 have m1:=HMK7.out.cell 1
 simp only [zA,zB,zC] at p0 p1 p2 p3 q0 q1 q2 q3 m0 m1
 have HSOF:Hid (∀w',Below w7.heap.size w7 w'→w'.cell? ⟨bp,0,none⟩=some (.int .u8 a)∧w'.cell? ⟨bp,1,none⟩=some (.int .u8 b)∧w'.cell? ⟨bp,2,none⟩=some (.int .u8 c)∧w'.cell? ⟨bp,3,none⟩=some (.slice An L.length cn)∧w'.cell? ⟨bk,0,none⟩=some (.int .i64 f.ints)∧w'.cell? ⟨bk,1,none⟩=some (.int .i64 (B:Int))∧w'.cell? ⟨bk,2,none⟩=some (.slice Aa f.atoms.length ca)∧w'.cell? ⟨bk,3,none⟩=some (.slice Ac f.clauses.length cc)∧w'.cell? ⟨mk,0,none⟩=some (.slice Am nm cm)∧w'.cell? ⟨mk,1,none⟩=some (.slice Ax nx cx)∧Below w7.heap.size w7 w'):=Lib.hid fun w' h =>
  ⟨(h.cell (p:=⟨bp,0,none⟩) hl1).trans p0,(h.cell (p:=⟨bp,1,none⟩) hl1).trans p1,(h.cell (p:=⟨bp,2,none⟩) hl1).trans p2,(h.cell (p:=⟨bp,3,none⟩) hl1).trans p3,(h.cell (p:=⟨bk,0,none⟩) hl2).trans q0,(h.cell (p:=⟨bk,1,none⟩) hl2).trans q1,(h.cell (p:=⟨bk,2,none⟩) hl2).trans q2,(h.cell (p:=⟨bk,3,none⟩) hl2).trans q3,(h.cell (p:=⟨mk,0,none⟩) hl3).trans m0,(h.cell (p:=⟨mk,1,none⟩) hl3).trans m1,h⟩
 have HRT:Hid (∀w',Below w7.heap.size w7 w'→Calls Try.prog 18 #[.agg #[.int .i64 f.ints, .int .i64 (B:Int), .slice Aa f.atoms.length ca, .slice Ac f.clauses.length cc], .agg #[.slice Am nm cm, .slice Ax nx cx],lv, .bool o.isLeft] w' fun e w''=>e = .returned (.bool true)∧Below w'.heap.size w' w''):=Lib.hid fun w' h=>right_any (HF7.out.keep h) (SmallF.valid HSM.out) (HV7.out.keep h)
 have HSX:Hid (∀w',Below w7.heap.size w7 w'→Calls Try.prog 15 #[.agg #[.int .u8 a, .int .u8 b, .int .u8 c, .slice An L.length cn]] w' fun e w''=>∃fw,e = .returned fw∧IsForm w'' fw f∧Below w'.heap.size w' w''):=Lib.hid fun w' h=>(mW _ a b c L _ (HPR.out _ (HB7.out.trans (h.mono HB7.out.size)))).mono fun e w'' ⟨fw,g,e1,e2,_,e4,e5⟩=>⟨fw,e1,by rw [HXF.out.uniq e5];exact e2,e4⟩
 have HAW:=Lib.hid fun w'=>awake34 w'
 clear p0 p1 p2 p3 q0 q1 q2 q3 m0 m1 hl1 hl2 hl3 HIS HGO HV7 HBK7 HPK7 HMK7
 have HLV:=Lib.hid (rfl:lv=lv)
 have hne:o.isLeft = !is:=HEQ.out
 rw [hne] at HRT ⊢
 generalize o=oo at *
 clear hne HEQ
 cases is<;>simp only [Bool.not_true,Bool.not_false] at HRT ⊢
 all_goals
  have s0:=HSOF.out _ (zL _ _).drew
  go_region_held3 (fun w'=>w'.cell? ⟨bp,0,none⟩=some (.int .u8 a)∧w'.cell? ⟨bp,1,none⟩=some (.int .u8 b)∧w'.cell? ⟨bp,2,none⟩=some (.int .u8 c)∧w'.cell? ⟨bp,3,none⟩=some (.slice An L.length cn)∧w'.cell? ⟨bk,0,none⟩=some (.int .i64 f.ints)∧w'.cell? ⟨bk,1,none⟩=some (.int .i64 (B:Int))∧w'.cell? ⟨bk,2,none⟩=some (.slice Aa f.atoms.length ca)∧w'.cell? ⟨bk,3,none⟩=some (.slice Ac f.clauses.length cc)∧w'.cell? ⟨mk,0,none⟩=some (.slice Am nm cm)∧w'.cell? ⟨mk,1,none⟩=some (.slice Ax nx cx)∧Below w7.heap.size w7 w') (first|assumption|exact HSOF.out _ (zL _ _).drew) (first
   | (go_at_call 18;refine (HRT.out _ (zL _ _).drew).mono ?_;rintro e wa ⟨rfl,hba⟩;have sa:=HSOF.out wa ((zL _ _).drew.trans hba))
   | (go_at_call 15;refine (HSX.out _ sa.2.2.2.2.2.2.2.2.2.2).mono ?_;rintro e wb ⟨fw,rfl,hfw,hbb⟩;have sb:=HSOF.out wb (sa.2.2.2.2.2.2.2.2.2.2.trans (hbb.mono sa.2.2.2.2.2.2.2.2.2.2.size));have HFW:=Lib.hid hfw;clear hfw)
   | (go_at_call 19;refine (samef_any _ _ f _ (HF7.out.keep sb.2.2.2.2.2.2.2.2.2.2) HFW.out).mono ?_;rintro e wc ⟨rfl,hbc⟩;have sc:=HSOF.out wc (sb.2.2.2.2.2.2.2.2.2.2.trans (hbc.mono sb.2.2.2.2.2.2.2.2.2.2.size)))
   | (go_at_call 20;refine (HAW.out _).mono ?_;rintro e wd ⟨rfl,hbd⟩;have sd:=HSOF.out wd (sc.2.2.2.2.2.2.2.2.2.2.trans (hbd.mono sc.2.2.2.2.2.2.2.2.2.2.size))))
  go_wp2_with fail
  go_ret
  exact ⟨rfl,HB7.out.trans (sd.2.2.2.2.2.2.2.2.2.2.mono HB7.out.size)⟩
end Go.Proofs.Yticieifacalocaa
