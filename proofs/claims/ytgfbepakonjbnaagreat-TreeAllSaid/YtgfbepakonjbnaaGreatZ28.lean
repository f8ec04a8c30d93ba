/-
  cofferref9: Get, Put, Drop, Am3. (Written by tools/put/tvB.py.)
-/
import Derived.Test.YtgfbepakonjbnaaGreatZ27
import Derived.Deep.Slices
import Derived.Deep.Strs
set_option maxRecDepth 100000
set_option maxHeartbeats 16000000
section
set_option linter.unusedSimpArgs false
set_option linter.unusedVariables false
namespace Go.Proofs.YtgfbepakonjbnaaGreat
open Go.RowKit Go.MapKept Go.ChangeMaps
section
attribute [-go_sem] loadCells storeCells Instr.build Instr.buildSlice run_slice_l run_slice_h run_slice_lh
theorem Cb7{w:World}{v:Value}{l:List B0}(hv:R4 w v l)(hl:Ab3 l)(hn:l.length<=1000)(key:Bs)(hkey:key.length=32) :
  Calls Tryz.prog 62 #[v,.agg (bts key).toArray] w λ e w'=>e=.returned (Bz6 (G9 l key))/\Upd [] w w':=by
 obtain⟨av,cv,rfl,hcv⟩:=hv.shape;obtain⟨wA,hwA⟩:∃wA,wA=(w.alloc (.cells (bts key).toArray 35)).alloc (.cells (bts z16).toArray 115):=⟨_,rfl⟩;have huA:Upd [] w wA:=by rw[hwA];exact((Upd.refl _ _).alloc _).alloc _
 obtain⟨b3,hb3⟩:∃b,b=w.heap.size:=⟨_,rfl⟩;obtain⟨b4,hb4⟩:∃b,b=w.heap.size+1:=⟨_,rfl⟩;obtain⟨h3,h4⟩:=Aa0 w (bts key).toArray (bts z16).toArray 35 115;rw[← hwA,← hb3] at h3;rw[← hwA,← hb4] at h4;have l3:=A7 (n:=32) h3 (by rw[A8,hkey]);rw[hwA,hb3] at l3;have HAT:=η (Ap6 (hv.below huA) hl hn key hkey);have HV:=η (hv.below huA);have hpl:=Z9 (l.map (·.1)) key;rw[List.length_map] at hpl;have HLK:=η (W0 l key);have HHK:Hid (I4 (l.map (·.1)) key=decide ((l.map (·.1))[F4 (l.map (·.1)) key]?=some key)):=η rfl;generalize F4 (l.map (·.1)) key=i at *;have H3:=η h3;have H4:=η h4;have HUA:=η huA;have HW:=η hwA;have HB:=η (And.intro hb3 hb4);have HL:=η hl;have bz:∀w,(Instr.build 115 #[]).run Tryz.prog w=.ok (.agg (bts z16).toArray) w:=λ w=>run_build w _ _ _ (by kernel_rfl);have z16a:(#[.int .u8 0,.int .u8 0,.int .u8 0,.int .u8 0,.int .u8 0,.int .u8 0,.int .u8 0,.int .u8 0,.int .u8 0,.int .u8 0,.int .u8 0,.int .u8 0,.int .u8 0,.int .u8 0,.int .u8 0,.int .u8 0]:Array Value)=(bts z16).toArray:=rfl;have HZ:=η z16a;rw[← z16a] at l3;clear hv huA h3 h4 hwA hb3 hb4 hl z16a;go_enter Tryz.func62,Tryz.ntmps62
 go_wp2_with fail
 rw[HZ.out,← HW.out,← HB.out.2,← HB.out.1];refine HAT.out.mono ?_;rintro e w1 ⟨rfl,hu1⟩;have H3B:=η ((hu1.block _ (A2 H3.out) (by simp)).trans H3.out);have HV1:=η (HV.out.below hu1);have HU1:=η (HUA.out.trans hu1);have H41:=η ((hu1.block _ (A2 H4.out) (by simp)).trans H4.out);clear hu1 l3;have HEND:Hid (∀(W:World) (x:Bs),Upd [] w1 W->x.length=16->Upd [] w (W.setRow b4 (bts x).toArray)/\(storeCells ⟨b4,0,none⟩ (bts x) 0).run Tryz.prog W=.ok () (W.setRow b4 (bts x).toArray)/\(W.setRow b4 (bts x).toArray).heap[b4]?=some (.cells (bts x).toArray 115 (0,0))):=by
  show ∀W x,_
  intro W x hW hx;have h4w:=(hW.block _ (A2 H41.out) (by simp)).trans H41.out;refine⟨(HU1.out.trans hW).late (D5 (S:=[b4]) (Upd.refl _ _) _ (.inl (by simp))) (λ k hk=> .inr (by simp at hk;subst hk;have:=HB.out.2;omega)),C7 h4w (by rw[A8,hx];rfl) (G7 _),setRow_heap _ _ _ _ _ _ h4w⟩
 rcases Nat.lt_or_ge i l.length with hlt | hge
 ·have hbe:((i:Int) == (l.length:Int))=false:=by rw[beq_eq_false_iff_ne];omega
  have hbe2:decide ((i:Int)=(l.length:Int))=false:=decide_eq_false (by omega);have hbe3:decide (i=l.length)=false:=decide_eq_false (by omega);have i0:(0:Int)<=(i:Int):=by omega
  have i1:(i:Int)<(l.length:Int):=by omega
  obtain⟨p,hp⟩:∃p,l[i]?=some p:=⟨_,List.getElem?_eq_getElem hlt⟩;obtain⟨hp1,hp2⟩:=HL.out p (List.mem_of_getElem? hp);obtain⟨bv,off,rfl,hr⟩:=HV1.out.at_ hp;have HRK:=η (pcK hr);have HRV:=η (pcV hr hp1);have hkk:I4 (l.map (·.1)) key=decide (p.1=key):=by
   rw[HHK.out,List.getElem?_map,hp];exact decide_eq_decide.2 ⟨λ q=>Option.some.inj q,λ q=>by rw[← q];rfl⟩
  obtain⟨lb,hlb⟩:∃lb,decide (p.1=key)=lb:=⟨_,rfl⟩;have HLN:Hid (G9 l key=if lb then some p.2 else none):=by
   show _=_
   rw[HLK.out,hkk,hlb,List.getElem?_map,hp];rfl
  have HLB:=η hlb;clear hp hr hkk hlb;go_wp2_with fail
  refine B6 (λ w'=>Upd [] w1 w') [] (by kernel_rfl) (Upd.refl _ _).drew (λ hHeld=>?_);generalize w1.drew=w0 at hHeld ⊢;refine κt 0 ?_ hHeld ?_ ?_;rotate_left
  ·(intro w hSw;go_simp<;>with_reducible rfl)
  try simp only[Act.put,κg,κo,κp,αs,αz,αc]
  refine κt 1 ?_ hHeld ?_ ?_;rotate_left
  ·(intro w hSw;go_simp<;>with_reducible rfl)
  try simp only[Act.put,κg,κo,κp,αs,αz,αc]
  refine κt 2 ?_ hHeld ?_ ?_;rotate_left
  ·(intro w hSw;go_simp<;>with_reducible rfl)
  try simp only[Act.put,κg,κo,κp,αs,αz,αc]
  refine κt 3 ?_ hHeld ?_ ?_;rotate_left
  ·(intro w hSw;go_simp<;>with_reducible rfl)
  try simp only[Act.put,κg,κo,κp,αs,αz,αc]
  refine κt 4 ?_ hHeld ?_ ?_;rotate_left
  ·(intro w hSw;go_simp<;>with_reducible rfl)
  try simp only[Act.put,κg,κo,κp,αs,αz,αc]
  refine κt 5 ?_ hHeld ?_ ?_;rotate_left
  ·(intro w hSw;go_simp<;>with_reducible rfl)
  try simp only[Act.put,κg,κo,κp,αs,αz,αc]
  refine κt 6 ?_ hHeld ?_ ?_;rotate_left
  ·(intro w hSw;go_simp<;>with_reducible rfl)
  try simp only[Act.put,κg,κo,κp,αs,αz,αc]
  refine κt 7 ?_ hHeld ?_ ?_;rotate_left
  ·(intro w hSw;go_simp<;>with_reducible rfl)
  try simp only[Act.put,κg,κo,κp,αs,αz,αc]
  refine κt 8 ?_ hHeld ?_ ?_;rotate_left
  ·(intro w hSw;go_simp<;>with_reducible rfl)
  try simp only[Act.put,κg,κo,κp,αs,αz,αc]
  refine κt 9 ?_ hHeld ?_ ?_;rotate_left
  ·(intro w hSw;have l0:=B2 (E9 HRK.out hSw (by simp)) hp1;go_simp<;>with_reducible rfl)
  try simp only[Act.put,κg,κo,κp,αs,αz,αc]
  refine κt 10 ?_ hHeld ?_ ?_;rotate_left
  ·(intro w hSw;have l0:=A7 (n:=32) ((hSw.block _ (A2 H3B.out) (by simp)).trans H3B.out) (by rw[A8,hkey]);go_simp<;>with_reducible rfl)
  try simp only[Act.put,κg,κo,κp,αs,αz,αc]
  refine κt 11 ?_ hHeld ?_ ?_;rotate_left
  ·(intro w hSw;have he:=Ak5 hp1 hkey w;rw[HLB.out] at he;go_simp<;>with_reducible rfl)
  try simp only[Act.put,κg,κo,κp,αs,αz,αc]
  refine κt 12 ?_ hHeld ?_ ?_;rotate_left
  ·(intro w hSw;go_simp<;>with_reducible rfl)
  try simp only[Act.put,κg,κo,κp,αs,αz,αc]
  refine B1 (by kernel_rfl) ?_ _;cases lb
  ·obtain⟨hue,st,hrow⟩:=HEND.out _ z16 hHeld rfl;have HUE:=η hue;have HROW:=η hrow;clear hue hrow hHeld;go_wp2_with fail
   refine bodyPost_ret (C5 (p:=4) (u:=5) (ty:=115) (by rfl) _ _ b4 _ (by rfl) (run_loadVar_row _ b4 _ _ _ _ _ HROW.out Tryz.underlying115 rfl (Af7 (l:=z16) rfl))) (by rfl) ?_;exact⟨by rw[HLN.out];rfl,HUE.out⟩
  ·obtain⟨hue,st,hrow⟩:=HEND.out _ p.2 hHeld hp2;have lv:=U6 (E9 HRV.out hHeld (by simp)) hp2;have HUE:=η hue;have HROW:=η hrow;clear hue hrow hHeld;go_wp2_with fail
   refine bodyPost_ret (C5 (p:=4) (u:=5) (ty:=115) (by rfl) _ _ b4 _ (by rfl) (run_loadVar_row _ b4 _ _ _ _ _ HROW.out Tryz.underlying115 rfl (Af7 hp2))) (by rfl) ?_;exact⟨by rw[HLN.out];rfl,HUE.out⟩
 ·obtain rfl:i=l.length:=by omega
  have hbe:((l.length:Int) == (l.length:Int))=true:=by simp
  have hbe2:decide ((l.length:Int)=(l.length:Int))=true:=by simp
  have hkk:I4 (l.map (·.1)) key=false:=by
   rw[HHK.out,List.getElem?_eq_none (by rw[List.length_map];omega)];rfl
  have HLN:Hid (G9 l key=none):=by
   show _=_
   rw[HLK.out,hkk];rfl
  clear hkk;go_wp2_with fail
  refine B6 (λ w'=>Upd [] w1 w') [] (by kernel_rfl) (Upd.refl _ _).drew (λ hHeld=>?_);generalize w1.drew=w0 at hHeld ⊢;refine κt 0 ?_ hHeld ?_ ?_;rotate_left
  ·(intro w hSw;go_simp<;>with_reducible rfl)
  try simp only[Act.put,κg,κo,κp,αs,αz,αc]
  refine κt 1 ?_ hHeld ?_ ?_;rotate_left
  ·(intro w hSw;go_simp<;>with_reducible rfl)
  try simp only[Act.put,κg,κo,κp,αs,αz,αc]
  refine κt 2 ?_ hHeld ?_ ?_;rotate_left
  ·(intro w hSw;go_simp<;>with_reducible rfl)
  try simp only[Act.put,κg,κo,κp,αs,αz,αc]
  refine κt 3 ?_ hHeld ?_ ?_;rotate_left
  ·(intro w hSw;go_simp<;>with_reducible rfl)
  try simp only[Act.put,κg,κo,κp,αs,αz,αc]
  refine κt 4 ?_ hHeld ?_ ?_;rotate_left
  ·(intro w hSw;go_simp<;>with_reducible rfl)
  try simp only[Act.put,κg,κo,κp,αs,αz,αc]
  refine A0 (i:=5) (v:=undef) rfl (by kernel_rfl) (λ _ _ _ h=>h) hHeld (Or.inr ⟨by kernel_rfl,rfl⟩) ?_;try simp only[Act.put,κg,κo,κp,αs,αz,αc]
  refine A0 (i:=6) (v:=undef) rfl (by kernel_rfl) (λ _ _ _ h=>h) hHeld (Or.inr ⟨by kernel_rfl,rfl⟩) ?_;try simp only[Act.put,κg,κo,κp,αs,αz,αc]
  refine A0 (i:=7) (v:=undef) rfl (by kernel_rfl) (λ _ _ _ h=>h) hHeld (Or.inr ⟨by kernel_rfl,rfl⟩) ?_;try simp only[Act.put,κg,κo,κp,αs,αz,αc]
  refine A0 (i:=8) (v:=undef) rfl (by kernel_rfl) (λ _ _ _ h=>h) hHeld (Or.inr ⟨by kernel_rfl,rfl⟩) ?_;try simp only[Act.put,κg,κo,κp,αs,αz,αc]
  refine A0 (i:=9) (v:=undef) rfl (by kernel_rfl) (λ _ _ _ h=>h) hHeld (Or.inr ⟨by kernel_rfl,rfl⟩) ?_;try simp only[Act.put,κg,κo,κp,αs,αz,αc]
  refine A0 (i:=10) (v:=undef) rfl (by kernel_rfl) (λ _ _ _ h=>h) hHeld (Or.inr ⟨by kernel_rfl,rfl⟩) ?_;try simp only[Act.put,κg,κo,κp,αs,αz,αc]
  refine A0 (i:=11) (v:=undef) rfl (by kernel_rfl) (λ _ _ _ h=>h) hHeld (Or.inr ⟨by kernel_rfl,rfl⟩) ?_;try simp only[Act.put,κg,κo,κp,αs,αz,αc]
  refine κt 12 ?_ hHeld ?_ ?_;rotate_left
  ·(intro w hSw;go_simp<;>with_reducible rfl)
  try simp only[Act.put,κg,κo,κp,αs,αz,αc]
  refine B1 (by kernel_rfl) ?_ _;obtain⟨hue,st,hrow⟩:=HEND.out _ z16 hHeld rfl;have HUE:=η hue;have HROW:=η hrow;clear hue hrow hHeld;go_wp2_with fail
  refine bodyPost_ret (C5 (p:=4) (u:=5) (ty:=115) (by rfl) _ _ b4 _ (by rfl) (run_loadVar_row _ b4 _ _ _ _ _ HROW.out Tryz.underlying115 rfl (Af7 (l:=z16) rfl))) (by rfl) ?_;exact⟨by rw[HLN.out];rfl,HUE.out⟩
theorem Bt8{w:World}{v:Value}{l:List B0}(hv:R4 w v l)(hl:Ab3 l)(hs:(l.map (·.1)).Pairwise (λ x y=>ltB x y=true))(hn:l.length<=500)(key:Bs)(hkey:key.length=32) :
  Calls Tryz.prog 60 #[v,.agg (bts key).toArray] w λ e w'=>(G9 l key=none/\e=.returned (.tuple #[v,.int .i64 5])∨G9 l key≠none/\∃a c,e=.returned (.tuple #[.slice a (N7 l key).length c,.int .i64 0])/\R4 w' (.slice a (N7 l key).length c) (N7 l key))/\Upd [] w w':=by
 obtain⟨av,cv,rfl,hcv⟩:=hv.shape;obtain⟨wA,hwA⟩:∃wA,wA=w.alloc (.cells (bts key).toArray 35):=⟨_,rfl⟩;have huA:Upd [] w wA:=by rw[hwA];exact(Upd.refl _ _).alloc _
 obtain⟨b3,hb3⟩:∃b,b=w.heap.size:=⟨_,rfl⟩;have h3:wA.heap[b3]?=some (.cells (bts key).toArray 35 (0,0)):=by rw[hwA,hb3];exact A6 _
 have l3:=A7 (n:=32) h3 (by rw[A8,hkey]);rw[hwA,hb3] at l3;have HAT:=η (Ap6 (hv.below huA) hl (by omega) key hkey);have HV:=η (hv.below huA);have hpl:=Z9 (l.map (·.1)) key;rw[List.length_map] at hpl;have HHK:Hid (I4 (l.map (·.1)) key=decide ((l.map (·.1))[F4 (l.map (·.1)) key]?=some key)):=η rfl;have HLK:=η (W0 l key);have HDL:Hid (I4 (l.map (·.1)) key=true->N7 l key=l.take (F4 (l.map (·.1)) key)++l.drop (F4 (l.map (·.1)) key+1)):=η (Bq2 hs);generalize F4 (l.map (·.1)) key=i at *;have H3:=η h3;have HUA:=η huA;have HW:=η hwA;have HB:=η hb3;have HL:=η hl;clear hv huA h3 hwA hb3 hl hs;go_enter Tryz.func60,Tryz.ntmps60
 go_wp2_with fail
 rw[← HW.out,← HB.out];refine HAT.out.mono ?_;rintro e w1 ⟨rfl,hu1⟩;have H3B:=η ((hu1.block _ (A2 H3.out) (by simp)).trans H3.out);have HV1:=η (HV.out.below hu1);have HU1:=η (HUA.out.trans hu1);clear hu1 l3;rcases Nat.lt_or_ge i l.length with hlt | hge
 ·have hbe:((i:Int) == (l.length:Int))=false:=by rw[beq_eq_false_iff_ne];omega
  have hbe2:decide ((i:Int)=(l.length:Int))=false:=decide_eq_false (by omega);have hbe3:decide (i=l.length)=false:=decide_eq_false (by omega);have i0:(0:Int)<=(i:Int):=by omega
  have i1:(i:Int)<(l.length:Int):=by omega
  obtain⟨p,hp⟩:∃p,l[i]?=some p:=⟨_,List.getElem?_eq_getElem hlt⟩;obtain⟨hp1,hp2⟩:=HL.out p (List.mem_of_getElem? hp);obtain⟨bv,off,hav,hr⟩:=HV1.out.at_ hp;have HRK:=η (pcK hr);have HRV:=η (pcV hr hp1);have hkk:I4 (l.map (·.1)) key=decide (p.1=key):=by
   rw[HHK.out,List.getElem?_map,hp];exact decide_eq_decide.2 ⟨λ q=>Option.some.inj q,λ q=>by rw[← q];rfl⟩
  obtain⟨lb,hlb⟩:∃lb,decide (p.1=key)=lb:=⟨_,rfl⟩;have HLN:Hid (G9 l key=if lb then some p.2 else none):=by
   show _=_
   rw[HLK.out,hkk,hlb,List.getElem?_map,hp];rfl
  have HLB:=η hlb;have HDB:Hid (lb=true->N7 l key=l.take i++l.drop (i+1)):=by
   show _->_
   intro e;exact HDL.out (by rw[hkk,hlb,e])
  subst hav;clear hp hr hkk hlb HDL;go_wp2_with fail
  refine B6 (λ w'=>Upd [] w1 w') [] (by kernel_rfl) (Upd.refl _ _).drew (λ hHeld=>?_);generalize w1.drew=w0 at hHeld ⊢;refine κt 0 ?_ hHeld ?_ ?_;rotate_left
  ·(intro w hSw;go_simp<;>with_reducible rfl)
  try simp only[Act.put,κg,κo,κp,αs,αz,αc]
  refine κt 1 ?_ hHeld ?_ ?_;rotate_left
  ·(intro w hSw;go_simp<;>with_reducible rfl)
  try simp only[Act.put,κg,κo,κp,αs,αz,αc]
  refine κt 2 ?_ hHeld ?_ ?_;rotate_left
  ·(intro w hSw;go_simp<;>with_reducible rfl)
  try simp only[Act.put,κg,κo,κp,αs,αz,αc]
  refine κt 3 ?_ hHeld ?_ ?_;rotate_left
  ·(intro w hSw;go_simp<;>with_reducible rfl)
  try simp only[Act.put,κg,κo,κp,αs,αz,αc]
  refine κt 4 ?_ hHeld ?_ ?_;rotate_left
  ·(intro w hSw;go_simp<;>with_reducible rfl)
  try simp only[Act.put,κg,κo,κp,αs,αz,αc]
  refine κt 5 ?_ hHeld ?_ ?_;rotate_left
  ·(intro w hSw;go_simp<;>with_reducible rfl)
  try simp only[Act.put,κg,κo,κp,αs,αz,αc]
  refine κt 6 ?_ hHeld ?_ ?_;rotate_left
  ·(intro w hSw;go_simp<;>with_reducible rfl)
  try simp only[Act.put,κg,κo,κp,αs,αz,αc]
  refine κt 7 ?_ hHeld ?_ ?_;rotate_left
  ·(intro w hSw;go_simp<;>with_reducible rfl)
  try simp only[Act.put,κg,κo,κp,αs,αz,αc]
  refine κt 8 ?_ hHeld ?_ ?_;rotate_left
  ·(intro w hSw;go_simp<;>with_reducible rfl)
  try simp only[Act.put,κg,κo,κp,αs,αz,αc]
  refine κt 9 ?_ hHeld ?_ ?_;rotate_left
  ·(intro w hSw;have l0:=B2 (E9 HRK.out hSw (by simp)) hp1;go_simp<;>with_reducible rfl)
  try simp only[Act.put,κg,κo,κp,αs,αz,αc]
  refine κt 10 ?_ hHeld ?_ ?_;rotate_left
  ·(intro w hSw;have l0:=A7 (n:=32) ((hSw.block _ (A2 H3B.out) (by simp)).trans H3B.out) (by rw[A8,hkey]);go_simp<;>with_reducible rfl)
  try simp only[Act.put,κg,κo,κp,αs,αz,αc]
  refine κt 11 ?_ hHeld ?_ ?_;rotate_left
  ·(intro w hSw;have he:=Ak5 hp1 hkey w;rw[HLB.out] at he;go_simp<;>with_reducible rfl)
  try simp only[Act.put,κg,κo,κp,αs,αz,αc]
  refine κt 12 ?_ hHeld ?_ ?_;rotate_left
  ·(intro w hSw;go_simp<;>with_reducible rfl)
  try simp only[Act.put,κg,κo,κp,αs,αz,αc]
  refine B1 (by kernel_rfl) ?_ _;cases lb
  ·have HU2:=η (HU1.out.trans hHeld);clear hHeld;go_wp2_with fail
   go_ret2;exact⟨.inl ⟨HLN.out,rfl⟩,HU2.out⟩
  ·obtain⟨w2,hw2⟩:∃x,x=w0:=⟨_,rfl⟩;rw[← hw2] at hHeld ⊢;clear hw2;have HV2:=η (HV1.out.below hHeld);have HU2:=η (HU1.out.trans hHeld);clear hHeld;have hci:i<=cv:=by omega
   have hil:i+1<=l.length:=by omega
   have hw1:IntKind.i64.wrap ((i:Int)+1)=((i+1:Nat):Int):=by rw[IntKind.wrap_i64];omega
   have bs0:=λ w=>Al9 w;have HFR:Hid (∀w,(Instr.slice 110 (.slice (some ⟨bv,off,none⟩) l.length cv) none (some (.int .i64 (i:Int))) none).run Tryz.prog w=.ok (.slice (some ⟨bv,off,none⟩) i cv) w):=η (λ w=>Bq0 _ i l.length cv hci w);have HBK:Hid (∀w,(Instr.slice 110 (.slice (some ⟨bv,off,none⟩) l.length cv) (some (.int .i64 ((i:Int)+1))) none none).run Tryz.prog w=.ok (.slice (At9 (some ⟨bv,off,none⟩) (i+1) cv) (l.length-(i+1)) (cv-(i+1))) w):=η (λ w=>by have:=Av3 (some ⟨bv,off,none⟩) (i+1) l.length cv hil w;simpa using this);have HF2:=η (HV2.out.front (i:=i) (by omega));have HB2:=η (HV2.out.back (i:=i+1) (by omega));have hlf:(l.take i).length=i:=by rw[List.length_take];omega
   have hlb':(l.drop (i+1)).length=l.length-(i+1):=by rw[List.length_drop]
   have HLF:=η (And.intro hlf hlb');have HLP:Hid (Ab3 (l.take i)/\Ab3 (l.drop (i+1))):=η ⟨HL.out.take i,HL.out.drop (i+1)⟩;clear hlf hlb' hil;go_wp2_with fail
   refine B6 (λ w'=>Upd [] w2 w') [] (by kernel_rfl) (Upd.refl _ _).drew (λ hHeld=>?_);generalize w2.drew=w0 at hHeld ⊢;refine κt 1 ?_ hHeld ?_ ?_;rotate_left
   ·(intro w hSw;go_simp<;>with_reducible rfl)
   try simp only[Act.put,κg,κo,κp,αs,αz,αc]
   refine κt 2 ?_ hHeld ?_ ?_;rotate_left
   ·(intro w hSw;go_simp<;>with_reducible rfl)
   try simp only[Act.put,κg,κo,κp,αs,αz,αc]
   refine κt 5 ?_ hHeld ?_ ?_;rotate_left
   ·(intro w hSw;go_simp<;>with_reducible rfl)
   try simp only[Act.put,κg,κo,κp,αs,αz,αc]
   refine κt 6 ?_ hHeld ?_ ?_;rotate_left
   ·(intro w hSw;go_simp<;>with_reducible rfl)
   try simp only[Act.put,κg,κo,κp,αs,αz,αc]
   refine κt 3 ?_ hHeld ?_ ?_;rotate_left
   ·(intro w hSw;have wf:=HFR.out;go_simp<;>with_reducible rfl)
   try simp only[Act.put,κg,κo,κp,αs,αz,αc]
   refine κt 7 ?_ hHeld ?_ ?_;rotate_left
   ·(intro w hSw;go_simp<;>with_reducible rfl)
   try simp only[Act.put,κg,κo,κp,αs,αz,αc]
   refine κt 8 ?_ hHeld ?_ ?_;rotate_left
   ·(intro w hSw;have wb:=HBK.out;go_simp<;>with_reducible rfl)
   try simp only[Act.put,κg,κo,κp,αs,αz,αc]
   refine κr 0 (λ K hK=>?_);go_simp;refine hK.out _ _ (λ _=>hHeld.alloc _) ?_;clear hK K;try simp only[Act.put,κg,κo,κp,αs,αz,αc]
   obtain⟨w3,hw3⟩:∃x,x=w0.alloc (.cells #[] 169):=⟨_,rfl⟩;obtain⟨b24,hb24⟩:∃x,x=w0.heap.size:=⟨_,rfl⟩;have hp3:=Au0 w0 w0.heap.size (Nat.le_refl _);have hS3:Upd [] w2 w3:=by rw[hw3];exact hHeld.alloc _
   rw[← hw3,← hb24] at hp3 ⊢;have hB3:b24<=w3.heap.size:=by rw[hw3,hb24];simp
   have hB2:w2.heap.size<=b24:=by rw[hb24];exact hHeld.size
   clear hw3 hb24;obtain⟨a4,c4,w4,S4,hrun4,hp4,hu4,hS4⟩:=Z4 hp3 (HF2.out.below hS3) HLP.out.1 (by rw[HLF.out.1];simp;omega) hB3;rw[List.nil_append] at hp4;rw[HLF.out.1] at hrun4 hp4;simp only[List.length_nil,Nat.zero_add] at hrun4 hp4;have hS24:Upd [] w2 w4:=hS3.late hu4 (λ k hk=> .inr (by have:=(hS4 k hk).1;omega));refine κr 4 (λ K hK=>?_);refine G5 (by rfl) _ _ _ (by rfl) (by rfl) (by rfl) hrun4 ?_;refine hK.out _ _ (λ _=>hS24) ?_;clear hK K;try simp only[Act.put,κg,κo,κp,αs,αz,αc]
   have hB4:b24<=w4.heap.size:=by have:=hu4.size;omega
   obtain⟨a5,c5,w5,S5,hrun5,hp5,hu5,hS5⟩:=Z4 hp4 (HB2.out.below hS24) HLP.out.2 (by rw[HLF.out.1,HLF.out.2];omega) hB4;rw[← HDB.out (by simp)] at hp5;rw[HLF.out.1,HLF.out.2] at hrun5 hp5;have hdl:i+(l.length-(i+1))=(N7 l key).length:=by rw[HDB.out (by simp),List.length_append,HLF.out.1,HLF.out.2]
   rw[hdl] at hrun5 hp5;have hS25:Upd [] w2 w5:=hS24.late hu5 (λ k hk=> .inr (by have:=(hS5 k hk).1;omega));refine κr 9 (λ K hK=>?_);refine G5 (by rfl) _ _ _ (by rfl) (by rfl) (by rfl) hrun5 ?_;refine hK.out _ _ (λ _=>hS25) ?_;clear hK K;try simp only[Act.put,κg,κo,κp,αs,αz,αc]
   replace hHeld:=hS25;refine κt 10 ?_ hHeld ?_ ?_;rotate_left
   ·(intro w hSw;go_simp<;>with_reducible rfl)
   try simp only[Act.put,κg,κo,κp,αs,αz,αc]
   refine κt 11 ?_ hHeld ?_ ?_;rotate_left
   ·(intro w hSw;go_simp<;>with_reducible rfl)
   try simp only[Act.put,κg,κo,κp,αs,αz,αc]
   refine B1 (by kernel_rfl) ?_ _;have HRP:Hid (R4 w5 (.slice a5 (N7 l key).length c5) (N7 l key)):=η (hp5.row (λ p hp=>HL.out p (Y4 hp)));have HU5:=η (HU2.out.trans hS25);clear hHeld hS25 hu5 hS5 hp5 hrun5 hp4 hrun4 hS24 hS3 hu4 hS4 hp3;go_wp2_with fail
   go_ret2;exact⟨.inr ⟨by rw[HLN.out];simp,a5,c5,rfl,HRP.out⟩,HU5.out⟩
 ·obtain rfl:i=l.length:=by omega
  have hbe:((l.length:Int) == (l.length:Int))=true:=by simp
  have hbe2:decide ((l.length:Int)=(l.length:Int))=true:=by simp
  have hkk:I4 (l.map (·.1)) key=false:=by
   rw[HHK.out,List.getElem?_eq_none (by rw[List.length_map];omega)];rfl
  have HLN:Hid (G9 l key=none):=by
   show _=_
   rw[HLK.out,hkk];rfl
  clear hkk;go_wp2_with fail
  refine B6 (λ w'=>Upd [] w1 w') [] (by kernel_rfl) (Upd.refl _ _).drew (λ hHeld=>?_);generalize w1.drew=w0 at hHeld ⊢;refine κt 0 ?_ hHeld ?_ ?_;rotate_left
  ·(intro w hSw;go_simp<;>with_reducible rfl)
  try simp only[Act.put,κg,κo,κp,αs,αz,αc]
  refine κt 1 ?_ hHeld ?_ ?_;rotate_left
  ·(intro w hSw;go_simp<;>with_reducible rfl)
  try simp only[Act.put,κg,κo,κp,αs,αz,αc]
  refine κt 2 ?_ hHeld ?_ ?_;rotate_left
  ·(intro w hSw;go_simp<;>with_reducible rfl)
  try simp only[Act.put,κg,κo,κp,αs,αz,αc]
  refine κt 3 ?_ hHeld ?_ ?_;rotate_left
  ·(intro w hSw;go_simp<;>with_reducible rfl)
  try simp only[Act.put,κg,κo,κp,αs,αz,αc]
  refine κt 4 ?_ hHeld ?_ ?_;rotate_left
  ·(intro w hSw;go_simp<;>with_reducible rfl)
  try simp only[Act.put,κg,κo,κp,αs,αz,αc]
  refine A0 (i:=5) (v:=undef) rfl (by kernel_rfl) (λ _ _ _ h=>h) hHeld (Or.inr ⟨by kernel_rfl,rfl⟩) ?_;try simp only[Act.put,κg,κo,κp,αs,αz,αc]
  refine A0 (i:=6) (v:=undef) rfl (by kernel_rfl) (λ _ _ _ h=>h) hHeld (Or.inr ⟨by kernel_rfl,rfl⟩) ?_;try simp only[Act.put,κg,κo,κp,αs,αz,αc]
  refine A0 (i:=7) (v:=undef) rfl (by kernel_rfl) (λ _ _ _ h=>h) hHeld (Or.inr ⟨by kernel_rfl,rfl⟩) ?_;try simp only[Act.put,κg,κo,κp,αs,αz,αc]
  refine A0 (i:=8) (v:=undef) rfl (by kernel_rfl) (λ _ _ _ h=>h) hHeld (Or.inr ⟨by kernel_rfl,rfl⟩) ?_;try simp only[Act.put,κg,κo,κp,αs,αz,αc]
  refine A0 (i:=9) (v:=undef) rfl (by kernel_rfl) (λ _ _ _ h=>h) hHeld (Or.inr ⟨by kernel_rfl,rfl⟩) ?_;try simp only[Act.put,κg,κo,κp,αs,αz,αc]
  refine A0 (i:=10) (v:=undef) rfl (by kernel_rfl) (λ _ _ _ h=>h) hHeld (Or.inr ⟨by kernel_rfl,rfl⟩) ?_;try simp only[Act.put,κg,κo,κp,αs,αz,αc]
  refine A0 (i:=11) (v:=undef) rfl (by kernel_rfl) (λ _ _ _ h=>h) hHeld (Or.inr ⟨by kernel_rfl,rfl⟩) ?_;try simp only[Act.put,κg,κo,κp,αs,αz,αc]
  refine κt 12 ?_ hHeld ?_ ?_;rotate_left
  ·(intro w hSw;go_simp<;>with_reducible rfl)
  try simp only[Act.put,κg,κo,κp,αs,αz,αc]
  refine B1 (by kernel_rfl) ?_ _;have HU2:=η (HU1.out.trans hHeld);clear hHeld;go_wp2_with fail
  go_ret2;exact⟨.inl ⟨HLN.out,rfl⟩,HU2.out⟩
theorem Bt9{w:World}{v:Value}{l:List B0}(hv:R4 w v l)(hl:Ab3 l)(hs:(l.map (·.1)).Pairwise (λ x y=>ltB x y=true))(hn:l.length<=490)(key:Bs)(hkey:key.length=32)(k:Int) :
  Calls Tryz.prog 65 #[v,.agg (bts key).toArray,.int .i64 k] w λ e w'=>(∃a c,e=.returned (.slice a (O8 key k.toNat l).length c)/\R4 w' (.slice a (O8 key k.toNat l).length c) (O8 key k.toNat l))/\Upd [] w w':=by
 obtain⟨av,cv,rfl,hcv⟩:=hv.shape;obtain⟨wA,hwA⟩:∃wA,wA=w.alloc (.cells (bts key).toArray 35):=⟨_,rfl⟩;have huA:Upd [] w wA:=by rw[hwA];exact(Upd.refl _ _).alloc _
 obtain⟨b3,hb3⟩:∃b,b=w.heap.size:=⟨_,rfl⟩;have h3:wA.heap[b3]?=some (.cells (bts key).toArray 35 (0,0)):=by rw[hwA,hb3];exact A6 _
 have l3:=A7 (n:=32) h3 (by rw[A8,hkey]);rw[hwA,hb3] at l3;have HAT:=η (Ap6 (hv.below huA) hl (by omega) key hkey);have HV:=η (hv.below huA);have hpl:=Z9 (l.map (·.1)) key;rw[List.length_map] at hpl;have HHK:Hid (I4 (l.map (·.1)) key=decide ((l.map (·.1))[F4 (l.map (·.1)) key]?=some key)):=η rfl;have hfl:=Au1 (key:=key) hs;have HSC:Hid (O8 key k.toNat l=(l.drop (F4 (l.map (·.1)) key)).take k.toNat):=η (by unfold O8;rw[hfl]);clear hfl HHK;generalize F4 (l.map (·.1)) key=i at *;have HUA:=η huA;have HW:=η hwA;have HB:=η hb3;have HL:=η hl;clear hv huA h3 hwA hb3 hl hs;go_enter Tryz.func65,Tryz.ntmps65
 go_wp2_with fail
 rw[← HW.out,← HB.out];refine HAT.out.mono ?_;rintro e w1 ⟨rfl,hu1⟩;have HV1:=η (HV.out.below hu1);have HU1:=η (HUA.out.trans hu1);clear hu1 l3;go_wp2_with fail
 go_loopw [8,7] (λ qi ou wr=>∃m:Nat,i+m<=l.length/\qi=.int .i64 ((i+m:Nat):Int)/\(m:Int)<=max k 0/\E8 wr w1.heap.size ou ((l.drop i).take m)/\Upd [] w1 wr) (λ qi _ _=>l.length-(intOf qi).toNat)
 case atStart=>exact⟨0,by omega,rfl,by omega,Y0 _ _ _ _,Upd.refl _ _⟩
 case round=>
  obtain⟨m,hm,rfl,hmk,hP,hu⟩:=hrel;have hlm:((l.drop i).take m).length=m:=by rw[List.length_take,List.length_drop];omega
  obtain⟨sa,sc,rfl⟩:=hP.shape;rw[hlm];have HPm:Hid (E8 wr w1.heap.size (.slice sa m sc) ((l.drop i).take m)):=η (by rw[hlm] at hP;exact hP);have HU:=η (HU1.out.trans hu);have HV2:=η (HV1.out.below hu);have HUr:=η hu;obtain⟨q,hq⟩:∃q,q=i+m:=⟨_,rfl⟩;rw[← hq];clear hP hu;rcases Nat.lt_or_ge q l.length with hlt | hge
  ·have hlt':decide ((q:Int)<(l.length:Int))=true:=decide_eq_true (by omega);have hlt2:decide (q<l.length)=true:=decide_eq_true hlt;rcases Int.lt_or_le (m:Int) k with hk | hk
   ·have hk':decide ((m:Int)<k)=true:=decide_eq_true hk;have i0:(0:Int)<=(q:Int):=by omega
    have i1:(q:Int)<(l.length:Int):=by omega
    obtain⟨p,hp⟩:∃p,l[q]?=some p:=⟨_,List.getElem?_eq_getElem hlt⟩;obtain⟨hp1,hp2⟩:=HL.out p (List.mem_of_getElem? hp);obtain⟨bv,off,rfl,hr⟩:=HV2.out.at_ hp;have lp:=Aj6 hr hp1 hp2;have bs1:=λ w=>Av2 (p:=p) hp1 hp2 w;obtain⟨a4,n4,c4,w4,S4,hrun4,hp4,hn4,hu4,hS4⟩:=Bb3 HPm.out p hp1 hp2 (by rw[hlm];omega) HUr.out.size;rw[hlm] at hn4;subst hn4;have HP4:Hid (E8 w4 w1.heap.size (.slice a4 (m+1) c4) ((l.drop i).take (m+1))):=by
     show E8 _ _ _ _
     rw[List.take_add_one,List.getElem?_drop,← hq,hp];exact hp4
    have HU4:=η (HUr.out.late hu4 (λ k hk=> .inr (hS4 k hk).1));have HQ:=η hq;clear hp hr hp4 hu4 hS4 hq;go_wp2_with (first | (at_builtin;refine B4 rfl _ _ _ rfl rfl rfl hrun4 ?_))
    exact⟨⟨m+1,by have:=HQ.out;omega,by rw[← Nat.add_assoc,← HQ.out];go_num,by omega,HP4.out,HU4.out⟩,by simp[intOf];omega⟩
   ·have hk':decide ((m:Int)<k)=false:=decide_eq_false (by omega);have HRP:Hid (R4 wr (.slice sa (O8 key k.toNat l).length sc) (O8 key k.toNat l)):=by
     show R4 _ _ _
     have e:O8 key k.toNat l=(l.drop i).take m:=by
      rw[HSC.out];rw[show k.toNat=m by omega]
     rw[e,hlm];exact HPm.out.row (λ p hp=>HL.out p (List.mem_of_mem_drop (List.mem_of_mem_take hp)))
    have HLM:Hid ((O8 key k.toNat l).length=m):=by
     show _=_
     rw[HSC.out];rw[show k.toNat=m by omega];exact hlm
    go_wp2_with fail
    go_ret;exact⟨⟨sa,sc,by rw[HLM.out];rfl,HRP.out⟩,HU.out⟩
  ·have hql:q=l.length:=by omega
   have hlt':decide ((q:Int)<(l.length:Int))=false:=decide_eq_false (by omega);have hlt2:decide (q<l.length)=false:=decide_eq_false (by omega);have HRP:Hid (R4 wr (.slice sa (O8 key k.toNat l).length sc) (O8 key k.toNat l)):=by
    show R4 _ _ _
    have e:O8 key k.toNat l=(l.drop i).take m:=by
     rw[HSC.out];rw[List.take_of_length_le (by rw[List.length_drop];omega),List.take_of_length_le (by rw[List.length_drop];omega)]
    rw[e,hlm];exact HPm.out.row (λ p hp=>HL.out p (List.mem_of_mem_drop (List.mem_of_mem_take hp)))
   have HLM:Hid ((O8 key k.toNat l).length=m):=by
    show _=_
    rw[HSC.out];rw[List.take_of_length_le (by rw[List.length_drop];omega),List.length_drop];omega
   go_wp2_with fail
   go_ret;exact⟨⟨sa,sc,by rw[HLM.out];rfl,HRP.out⟩,HU.out⟩
end
section
attribute [-go_sem] loadCells storeCells Instr.build Instr.buildSlice run_slice_l run_slice_h run_slice_lh
theorem Cc0{w:World}{v:Value}{l:List B0}(hv:R4 w v l)(hl:Ab3 l)(hn:l.length<=490)(key x:Bs)(hkey:key.length=32)(hx:x.length=16) :
  Calls Tryz.prog 59 #[v,.agg (bts key).toArray,.agg (bts x).toArray] w λ e w'=>(∃a c,e=.returned (.slice a (J8 l key x).length c)/\R4 w' (.slice a (J8 l key x).length c) (J8 l key x))/\Upd [] w w':=by
 obtain⟨av,cv,rfl,hcv⟩:=hv.shape;obtain⟨wA,hwA⟩:∃wA,wA=(w.alloc (.cells (bts key).toArray 35)).alloc (.cells (bts x).toArray 115):=⟨_,rfl⟩;have huA:Upd [] w wA:=by rw[hwA];exact((Upd.refl _ _).alloc _).alloc _
 obtain⟨b3,hb3⟩:∃b,b=w.heap.size:=⟨_,rfl⟩;obtain⟨b4,hb4⟩:∃b,b=w.heap.size+1:=⟨_,rfl⟩;obtain⟨h3,h4⟩:=Aa0 w (bts key).toArray (bts x).toArray 35 115;rw[← hwA,← hb3] at h3;rw[← hwA,← hb4] at h4;have l3:=A7 (n:=32) h3 (by rw[A8,hkey]);rw[hwA,hb3] at l3;have HAT:=η (Ap6 (hv.below huA) hl (by omega) key hkey);have HV:=η (hv.below huA);have hpl:=Z9 (l.map (·.1)) key;rw[List.length_map] at hpl;have HHK:Hid (I4 (l.map (·.1)) key=decide ((l.map (·.1))[F4 (l.map (·.1)) key]?=some key)):=η rfl;have HDL:=η (Bq1 l key x);generalize F4 (l.map (·.1)) key=i at *;have H3:=η h3;have H4:=η h4;have HUA:=η huA;have HW:=η hwA;have HB:=η (And.intro hb3 hb4);have HL:=η hl;have hci:i<=cv:=by omega
 have HFR:Hid (∀w,(Instr.slice 110 (.slice av l.length cv) none (some (.int .i64 (i:Int))) none).run Tryz.prog w=.ok (.slice av i cv) w):=η (λ w=>Bq0 _ i l.length cv hci w);clear hv huA h3 h4 hwA hb3 hb4 hl;go_enter Tryz.func59,Tryz.ntmps59
 go_wp2_with fail
 rw[← HW.out,← HB.out.2,← HB.out.1];refine HAT.out.mono ?_;rintro e w1 ⟨rfl,hu1⟩;have H31:=η ((hu1.block _ (A2 H3.out) (by simp)).trans H3.out);have H41:=η ((hu1.block _ (A2 H4.out) (by simp)).trans H4.out);have HV1:=η (HV.out.below hu1);have HU1:=η (HUA.out.trans hu1);clear hu1 l3;have hlf:(l.take i).length=i:=by rw[List.length_take];omega
 obtain⟨w2,hw2⟩:∃x,x=w1.alloc (.cells #[] 169):=⟨_,rfl⟩;obtain⟨b12,hb12⟩:∃x,x=w1.heap.size:=⟨_,rfl⟩;have hp2:=Au0 w1 w1.heap.size (Nat.le_refl _);have hS2:Upd [] w1 w2:=by rw[hw2];exact(Upd.refl _ _).alloc _
 rw[← hw2,← hb12] at hp2;have hB2:b12<=w2.heap.size:=by rw[hw2,hb12];simp
 obtain⟨a3,c3,w3,S3,hrun3,hp3,hu3,hS3⟩:=Z4 hp2 (HV1.out.below hS2 |>.front (i:=i) (by omega)) (HL.out.take i) (by rw[hlf];simp;omega) hB2;rw[List.nil_append] at hp3;rw[hlf] at hrun3 hp3;simp only[List.length_nil,Nat.zero_add] at hrun3 hp3;have hS13:Upd [] w1 w3:=hS2.late hu3 (λ k hk=> .inr (by have:=(hS3 k hk).1;omega));have hB3:b12<=w3.heap.size:=by have:=hu3.size;omega
 obtain⟨a4,n4,c4,w4,S4,hrun4,hp4,hn4,hu4,hS4⟩:=Bb3 hp3 (key,x) hkey hx (by rw[hlf];omega) hB3;rw[hlf] at hn4;subst hn4;have hS14:Upd [] w1 w4:=hS13.late hu4 (λ k hk=> .inr (by have:=(hS4 k hk).1;omega));have bs0:=λ w=>Al9 w;have bs1:=λ w=>Av2 (p:=(key,x)) hkey hx w;have bp:=λ w=>An1 hkey hx w;have l33:=A7 (n:=32) ((hS13.block _ (A2 H31.out) (by simp)).trans H31.out) (by rw[A8,hkey]);have l34:=A7 (n:=16) ((hS13.block _ (A2 H41.out) (by simp)).trans H41.out) (by rw[A8,hx]);have H3B:=η ((hS14.block _ (A2 H31.out) (by simp)).trans H31.out);have HV4:=η (HV1.out.below hS14);have HU4:=η (HU1.out.trans hS14);have HP4:=η hp4;have HB4:Hid (b12<=w4.heap.size/\w.heap.size<=b12):=η ⟨by have:=hu4.size;omega,by rw[hb12];exact HU1.out.size⟩;have hrf:=HFR.out;rw[hw2,hb12] at hrun3;clear hp2 hS2 hB2 hp3 hu3 hS3 hS13 hB3 hp4 hu4 hS4 hS14 hw2 hb12;go_wp2_with (first | (at_builtin;refine B4 rfl _ _ _ rfl rfl rfl hrun3 ?_) | (at_builtin;refine B4 rfl _ _ _ rfl rfl rfl hrun4 ?_))
 clear hrun3 hrun4 l33 l34;rcases Nat.lt_or_ge i l.length with hlt | hge
 ·have hlt':decide ((i:Int)<(l.length:Int))=true:=decide_eq_true (by omega);have hlt2:decide (i<l.length)=true:=decide_eq_true hlt;have i0:(0:Int)<=(i:Int):=by omega
  have i1:(i:Int)<(l.length:Int):=by omega
  obtain⟨p,hp⟩:∃p,l[i]?=some p:=⟨_,List.getElem?_eq_getElem hlt⟩;obtain⟨hp1,hp2⟩:=HL.out p (List.mem_of_getElem? hp);obtain⟨bv,off,rfl,hr⟩:=HV4.out.at_ hp;have HRK:=η (pcK hr);have hkk:I4 (l.map (·.1)) key=decide (p.1=key):=by
   rw[HHK.out,List.getElem?_map,hp];exact decide_eq_decide.2 ⟨λ q=>Option.some.inj q,λ q=>by rw[← q];rfl⟩
  obtain⟨lb,hlb⟩:∃lb,decide (p.1=key)=lb:=⟨_,rfl⟩;have HDK:Hid (J8 l key x=(l.take i ++ [(key,x)])++l.drop (if lb=true then i+1 else i)):=by
   show _=_
   rw[HDL.out,hkk,hlb]
  have HLB:=η hlb;have hw1:wrap64 ((i:Int)+1)=((i+1:Nat):Int):=by unfold wrap64;omega
  clear hp hr hkk hlb;go_wp2_with fail
  refine B6 (λ w'=>Upd [] w4 w') [] (by kernel_rfl) (Upd.refl _ _).drew (λ hHeld=>?_);generalize w4.drew=w0 at hHeld ⊢;refine κt 0 ?_ hHeld ?_ ?_;rotate_left
  ·(intro w hSw;go_simp<;>with_reducible rfl)
  try simp only[Act.put,κg,κo,κp,αs,αz,αc]
  refine κt 1 ?_ hHeld ?_ ?_;rotate_left
  ·(intro w hSw;go_simp<;>with_reducible rfl)
  try simp only[Act.put,κg,κo,κp,αs,αz,αc]
  refine κt 2 ?_ hHeld ?_ ?_;rotate_left
  ·(intro w hSw;go_simp<;>with_reducible rfl)
  try simp only[Act.put,κg,κo,κp,αs,αz,αc]
  refine κt 3 ?_ hHeld ?_ ?_;rotate_left
  ·(intro w hSw;go_simp<;>with_reducible rfl)
  try simp only[Act.put,κg,κo,κp,αs,αz,αc]
  refine κt 4 ?_ hHeld ?_ ?_;rotate_left
  ·(intro w hSw;go_simp<;>with_reducible rfl)
  try simp only[Act.put,κg,κo,κp,αs,αz,αc]
  refine κt 5 ?_ hHeld ?_ ?_;rotate_left
  ·(intro w hSw;go_simp<;>with_reducible rfl)
  try simp only[Act.put,κg,κo,κp,αs,αz,αc]
  refine κt 6 ?_ hHeld ?_ ?_;rotate_left
  ·(intro w hSw;go_simp<;>with_reducible rfl)
  try simp only[Act.put,κg,κo,κp,αs,αz,αc]
  refine κt 7 ?_ hHeld ?_ ?_;rotate_left
  ·(intro w hSw;go_simp<;>with_reducible rfl)
  try simp only[Act.put,κg,κo,κp,αs,αz,αc]
  refine κt 8 ?_ hHeld ?_ ?_;rotate_left
  ·(intro w hSw;go_simp<;>with_reducible rfl)
  try simp only[Act.put,κg,κo,κp,αs,αz,αc]
  refine κt 9 ?_ hHeld ?_ ?_;rotate_left
  ·(intro w hSw;have l0:=B2 (E9 HRK.out hSw (by simp)) hp1;go_simp<;>with_reducible rfl)
  try simp only[Act.put,κg,κo,κp,αs,αz,αc]
  refine κt 10 ?_ hHeld ?_ ?_;rotate_left
  ·(intro w hSw;have l0:=A7 (n:=32) ((hSw.block _ (A2 H3B.out) (by simp)).trans H3B.out) (by rw[A8,hkey]);go_simp<;>with_reducible rfl)
  try simp only[Act.put,κg,κo,κp,αs,αz,αc]
  refine κt 11 ?_ hHeld ?_ ?_;rotate_left
  ·(intro w hSw;have he:=Ak5 hp1 hkey w;rw[HLB.out] at he;go_simp<;>with_reducible rfl)
  try simp only[Act.put,κg,κo,κp,αs,αz,αc]
  refine κt 12 ?_ hHeld ?_ ?_;rotate_left
  ·(intro w hSw;go_simp<;>with_reducible rfl)
  try simp only[Act.put,κg,κo,κp,αs,αz,αc]
  refine B1 (by kernel_rfl) ?_ _;cases lb
  ·rw[if_neg (by simp)] at HDK;have hdk:=HDK.out;have HBK:Hid (∀w,(Instr.slice 110 (.slice (some ⟨bv,off,none⟩) l.length cv) (some (.int .i64 (i))) none none).run Tryz.prog w=.ok (.slice (At9 (some ⟨bv,off,none⟩) (i) cv) (l.length-(i)) (cv-(i))) w):=η (λ w=>by have:=Av3 (some ⟨bv,off,none⟩) (i) l.length cv (by omega) w;simpa using this);have hlb':(l.drop (i)).length=l.length-(i):=by rw[List.length_drop]
   have hpl4:(l.take i ++ [(key,x)]).length=i+1:=by rw[List.length_append,List.length_take];simp;omega
   obtain⟨a6,c6,w6,S6,hrun6,hp6,hu6,hS6⟩:=Z4 (B8 (S:=[]) HP4.out hHeld (by simp)) (HV4.out.below hHeld |>.back (i:=i) (by omega)) (HL.out.drop _) (by rw[hpl4,hlb'];omega) (by have:=HB4.out.1;have:=hHeld.size;omega);rw[← hdk] at hp6;have hln:(i+1)+(l.length-(i))=(J8 l key x).length:=by rw[hdk,List.length_append,hpl4,hlb']
   rw[hpl4,hlb',hln] at hrun6 hp6;have HRP:Hid (R4 w6 (.slice a6 (J8 l key x).length c6) (J8 l key x)):=η (hp6.row (λ p hp=>by
    rcases Aa5 hp with rfl | q
    ·exact⟨hkey,hx⟩
    ·exact HL.out p q))
   have HU6:=η ((HU4.out.trans hHeld).late hu6 (λ k hk=> .inr (by have:=(hS6 k hk).1;have:=HB4.out.2;omega)));have hbk:=HBK.out;clear hdk hlb' hp6 hu6 hS6 hln hHeld;generalize l.length-(i)=d1 at hbk hrun6;generalize cv-(i)=d2 at hbk hrun6;clear hpl4;go_wp2_with (first | (at_builtin;refine B4 rfl _ _ _ rfl rfl rfl hrun6 ?_))
   go_ret;exact⟨⟨a6,c6,rfl,HRP.out⟩,HU6.out⟩
  ·rw[if_pos rfl] at HDK;have hdk:=HDK.out;have HBK:Hid (∀w,(Instr.slice 110 (.slice (some ⟨bv,off,none⟩) l.length cv) (some (.int .i64 (i+1))) none none).run Tryz.prog w=.ok (.slice (At9 (some ⟨bv,off,none⟩) (i+1) cv) (l.length-(i+1)) (cv-(i+1))) w):=η (λ w=>by have:=Av3 (some ⟨bv,off,none⟩) (i+1) l.length cv (by omega) w;simpa using this);have hlb':(l.drop (i+1)).length=l.length-(i+1):=by rw[List.length_drop]
   have hpl4:(l.take i ++ [(key,x)]).length=i+1:=by rw[List.length_append,List.length_take];simp;omega
   obtain⟨a6,c6,w6,S6,hrun6,hp6,hu6,hS6⟩:=Z4 (B8 (S:=[]) HP4.out hHeld (by simp)) (HV4.out.below hHeld |>.back (i:=i+1) (by omega)) (HL.out.drop _) (by rw[hpl4,hlb'];omega) (by have:=HB4.out.1;have:=hHeld.size;omega);rw[← hdk] at hp6;have hln:(i+1)+(l.length-(i+1))=(J8 l key x).length:=by rw[hdk,List.length_append,hpl4,hlb']
   rw[hpl4,hlb',hln] at hrun6 hp6;have HRP:Hid (R4 w6 (.slice a6 (J8 l key x).length c6) (J8 l key x)):=η (hp6.row (λ p hp=>by
    rcases Aa5 hp with rfl | q
    ·exact⟨hkey,hx⟩
    ·exact HL.out p q))
   have HU6:=η ((HU4.out.trans hHeld).late hu6 (λ k hk=> .inr (by have:=(hS6 k hk).1;have:=HB4.out.2;omega)));have hbk:=HBK.out;clear hdk hlb' hp6 hu6 hS6 hln hHeld;generalize l.length-(i+1)=d1 at hbk hrun6;generalize cv-(i+1)=d2 at hbk hrun6;clear hpl4;go_wp2_with (first | (at_builtin;refine B4 rfl _ _ _ rfl rfl rfl hrun6 ?_))
   go_ret;exact⟨⟨a6,c6,rfl,HRP.out⟩,HU6.out⟩
 ·have hlt':decide ((i:Int)<(l.length:Int))=false:=decide_eq_false (by omega);have hlt2:decide (i<l.length)=false:=decide_eq_false (by omega);have hkk:I4 (l.map (·.1)) key=false:=by
   rw[HHK.out,List.getElem?_eq_none (by rw[List.length_map];omega)];rfl
  have HDK:Hid (J8 l key x=(l.take i ++ [(key,x)])++l.drop i):=by
   show _=_
   rw[HDL.out,hkk];rfl
  clear hkk;go_wp2_with fail
  refine B6 (λ w'=>Upd [] w4 w') [] (by kernel_rfl) (Upd.refl _ _).drew (λ hHeld=>?_);generalize w4.drew=w0 at hHeld ⊢;refine κt 0 ?_ hHeld ?_ ?_;rotate_left
  ·(intro w hSw;go_simp<;>with_reducible rfl)
  try simp only[Act.put,κg,κo,κp,αs,αz,αc]
  refine κt 1 ?_ hHeld ?_ ?_;rotate_left
  ·(intro w hSw;go_simp<;>with_reducible rfl)
  try simp only[Act.put,κg,κo,κp,αs,αz,αc]
  refine κt 2 ?_ hHeld ?_ ?_;rotate_left
  ·(intro w hSw;go_simp<;>with_reducible rfl)
  try simp only[Act.put,κg,κo,κp,αs,αz,αc]
  refine κt 3 ?_ hHeld ?_ ?_;rotate_left
  ·(intro w hSw;go_simp<;>with_reducible rfl)
  try simp only[Act.put,κg,κo,κp,αs,αz,αc]
  refine κt 4 ?_ hHeld ?_ ?_;rotate_left
  ·(intro w hSw;go_simp<;>with_reducible rfl)
  try simp only[Act.put,κg,κo,κp,αs,αz,αc]
  refine A0 (i:=5) (v:=undef) rfl (by kernel_rfl) (λ _ _ _ h=>h) hHeld (Or.inr ⟨by kernel_rfl,rfl⟩) ?_;try simp only[Act.put,κg,κo,κp,αs,αz,αc]
  refine A0 (i:=6) (v:=undef) rfl (by kernel_rfl) (λ _ _ _ h=>h) hHeld (Or.inr ⟨by kernel_rfl,rfl⟩) ?_;try simp only[Act.put,κg,κo,κp,αs,αz,αc]
  refine A0 (i:=7) (v:=undef) rfl (by kernel_rfl) (λ _ _ _ h=>h) hHeld (Or.inr ⟨by kernel_rfl,rfl⟩) ?_;try simp only[Act.put,κg,κo,κp,αs,αz,αc]
  refine A0 (i:=8) (v:=undef) rfl (by kernel_rfl) (λ _ _ _ h=>h) hHeld (Or.inr ⟨by kernel_rfl,rfl⟩) ?_;try simp only[Act.put,κg,κo,κp,αs,αz,αc]
  refine A0 (i:=9) (v:=undef) rfl (by kernel_rfl) (λ _ _ _ h=>h) hHeld (Or.inr ⟨by kernel_rfl,rfl⟩) ?_;try simp only[Act.put,κg,κo,κp,αs,αz,αc]
  refine A0 (i:=10) (v:=undef) rfl (by kernel_rfl) (λ _ _ _ h=>h) hHeld (Or.inr ⟨by kernel_rfl,rfl⟩) ?_;try simp only[Act.put,κg,κo,κp,αs,αz,αc]
  refine A0 (i:=11) (v:=undef) rfl (by kernel_rfl) (λ _ _ _ h=>h) hHeld (Or.inr ⟨by kernel_rfl,rfl⟩) ?_;try simp only[Act.put,κg,κo,κp,αs,αz,αc]
  refine κt 12 ?_ hHeld ?_ ?_;rotate_left
  ·(intro w hSw;go_simp<;>with_reducible rfl)
  try simp only[Act.put,κg,κo,κp,αs,αz,αc]
  refine B1 (by kernel_rfl) ?_ _;have hdk:=HDK.out;have HBK:Hid (∀w,(Instr.slice 110 (.slice av l.length cv) (some (.int .i64 (i))) none none).run Tryz.prog w=.ok (.slice (At9 av (i) cv) (l.length-(i)) (cv-(i))) w):=η (λ w=>by have:=Av3 av (i) l.length cv (by omega) w;simpa using this);have hlb':(l.drop (i)).length=l.length-(i):=by rw[List.length_drop]
  have hpl4:(l.take i ++ [(key,x)]).length=i+1:=by rw[List.length_append,List.length_take];simp;omega
  obtain⟨a6,c6,w6,S6,hrun6,hp6,hu6,hS6⟩:=Z4 (B8 (S:=[]) HP4.out hHeld (by simp)) (HV4.out.below hHeld |>.back (i:=i) (by omega)) (HL.out.drop _) (by rw[hpl4,hlb'];omega) (by have:=HB4.out.1;have:=hHeld.size;omega);rw[← hdk] at hp6;have hln:(i+1)+(l.length-(i))=(J8 l key x).length:=by rw[hdk,List.length_append,hpl4,hlb']
  rw[hpl4,hlb',hln] at hrun6 hp6;have HRP:Hid (R4 w6 (.slice a6 (J8 l key x).length c6) (J8 l key x)):=η (hp6.row (λ p hp=>by
   rcases Aa5 hp with rfl | q
   ·exact⟨hkey,hx⟩
   ·exact HL.out p q))
  have HU6:=η ((HU4.out.trans hHeld).late hu6 (λ k hk=> .inr (by have:=(hS6 k hk).1;have:=HB4.out.2;omega)));have hbk:=HBK.out;clear hdk hlb' hp6 hu6 hS6 hln hHeld;generalize l.length-(i)=d1 at hbk hrun6;generalize cv-(i)=d2 at hbk hrun6;clear hpl4;go_wp2_with (first | (at_builtin;refine B4 rfl _ _ _ rfl rfl rfl hrun6 ?_))
  go_ret;exact⟨⟨a6,c6,rfl,HRP.out⟩,HU6.out⟩
end
end Go.Proofs.YtgfbepakonjbnaaGreat
end
section
set_option linter.unusedSimpArgs false
set_option linter.unusedVariables false
namespace Go.Proofs.YtgfbepakonjbnaaGreat
open Go.ChangeShapes Go.WideShapes Go.ChangeAt Go.RowKit Go.Deep Go.MapKept Go.ChangeMaps
section
structure Op9 where
 K:Int
 A:Int
 N:Int
 V:Bs
 lv:V.length=16
def opc(o:Op9):List Value:=[.int .i64 o.K,.int .i64 o.A,.int .i64 o.N]++bts o.V
theorem An4(o:Op9):(opc o).length=19:=by unfold opc;rw[List.length_append,A8,o.lv];rfl
theorem Cm7(o:Op9):∀u∈opc o,u.oneCell'=true:=by
 intro u hu;rcases List.mem_append.1 hu with h | h
 ·simp at h;rcases h with rfl | rfl | rfl<;>rfl
 ·exact G7 _ u h
def Bf5(w:World)(v:Value)(l:List Op9):Prop:=RRd w v 19 (l.map opc)
theorem Bf5.below{w w':World}{v:Value}{l:List Op9}(h:Bf5 w v l)(hu:Upd [] w w'):Bf5 w' v l:=h.keep hu (λ _ _ _ _=>by simp)
section
variable {H:Type} {enc:TypeId × Value->H} {W:World}
theorem Ak0{β:Type}{f:Nat->Option β}:∀(L:List Nat) (xs:List β),L.mapM f=some xs->∀i,i∈L->∃y,f i=some y
 | [],_,_,i,h=>by simp at h
 | k :: L,xs,h,i,hi=>by
  rw[List.mapM_cons] at h;simp only[bind,Option.bind_eq_some_iff,pure,Option.some.injEq] at h;obtain⟨y,hy,ys,hys,_⟩:=h;rcases List.mem_cons.1 hi with rfl | q
  ·exact⟨y,hy⟩
  ·exact Ak0 L ys hys i q
theorem Bu0{base:Nat}{sp:Nat->Bool}{held:Bool}{fuel k n:Nat}{cs:List Value}{x:DataW H × List MemPlace}(hu:Tryz.prog.underlying k=some (.array n 5))(hl:cs.length=n)
  (hf:DataW.trod enc Tryz.prog W base sp held fuel k cs=some x):∃l:List UInt8,l.length=n/\cs=bts l:=by
 have hc1:Tryz.prog.cellsOf 5=1:=Am8;cases fuel with
 | zero=>simp[DataW.trod] at hf
 | succ m=>
  rw[DataW.trod_step] at hf;unfold DataW.trodStep at hf;simp only[hu,Value.cells] at hf;rw[if_pos (by by_cases hq:cs.length=Tryz.prog.cellsOf k;exact hq;(rw[if_neg hq] at hf;cases hf))] at hf;simp only[Option.map_eq_some_iff] at hf;obtain⟨ys,hy,_⟩:=hf;have hall:=Ak0 _ ys hy;obtain⟨l,hl2,hp⟩:=Bg9 (p:=λ i c=>cs[i]?=some (bv c)) n (λ i hi=>by
   obtain⟨y,hy⟩:=hall i (List.mem_range.2 hi);obtain⟨a,ea,_,wa⟩:=DataW.trod_int Tryz.underlying5 hy;obtain⟨c,hc⟩:=Cl2 wa;refine⟨c,?_⟩;rw[hc1,Nat.mul_one] at ea;have hil:i<cs.length:=by rw[hl];exact hi
   rw[List.drop_eq_getElem_cons hil,List.take_succ_cons,List.take_zero] at ea;rw[List.getElem?_eq_getElem hil,hc];exact congrArg some (List.cons.inj ea).1)
  refine⟨l,hl2,List.ext_getElem? λ i=>?_⟩;by_cases hi:i<l.length
  ·rw[hp i hi,Au5,List.getElem?_eq_getElem hi];rfl
  ·rw[List.getElem?_eq_none (by omega),List.getElem?_eq_none (by rw[A8];omega)]
theorem Ci6{fuel:Nat}{v:Value}{x:DataW H × List MemPlace}(h:DataW.trod enc Tryz.prog W 0 (λ _=>true) true fuel 113 [v]=some x):∃l:List Op9,Bf5 W v l:=by
 have hce:Tryz.prog.cellsOf 117=19:=by kernel_rfl
 have hci:Tryz.prog.cellsOf 3=1:=by kernel_rfl
 have hcv:Tryz.prog.cellsOf 115=16:=by kernel_rfl
 rcases open_slice Tryz.underlying113 h with⟨e,_⟩ | ⟨a,len,cap,m,n,D,Pl,e,_,hl,_,hm,_,hx⟩
 ·cases e;exact⟨[],none,0,rfl,Nat.le_refl _,λ q=>by simp at q⟩
 ·cases e
  simp only[if_true] at hm;subst hm;rw[hce] at hx;by_cases hp:0<len
  ·have cells:∀i,i<len->∃cs:List Value,cs.length=19/\(∀j u,cs[j]?=some u->W.cell? ((a.add (i*19)).add j)=some u)/\DataW.trod enc Tryz.prog W 0 (λ _=>true) true n 117 cs=some (D i,Pl i):=by
    intro i hi;obtain⟨cs,c1,c2⟩:=hx i (by omega);obtain⟨_,hlen,hc⟩:=World.cells?_some c1;refine⟨cs,hlen,λ j u hj=>?_,c2⟩;have hj2:j<19:=by rw[← hlen];exact(List.getElem?_eq_some_iff.1 hj).1
    rw[hc j hj2];exact hj
   have hsp:a.spot=none:=by
    obtain⟨cs,hlen,hc,_⟩:=cells 0 hp;have c0:=hc 0 _ (List.getElem?_eq_getElem (by omega));have:=World.cell?_spot c0;rw[Ar9] at this;cases a;simpa [Addr.add] using this
   obtain⟨b,off,spot⟩:=a;simp at hsp;subst hsp;obtain⟨l,hlen,hl2⟩:=Bg9 (p:=λ i (c:Op9)=>W.rangeAt b (off+i*19) (opc c)) len (λ i hi=>by
    obtain⟨cs,hlen,hc,ht⟩:=cells i hi;obtain⟨xs,n',_,_,_,hln,hf⟩:=DataW.trod_struct Tryz.underlying117 ht;match xs,hln,hf with
    | [y0,y1,y2,y3],_,hf=>
     have t0':DataW.trod enc Tryz.prog W 0 (λ _=>true) true n' 3 (cs.take 1)=some y0:=by simpa [hci] using hf 0 _ rfl
     have t1':DataW.trod enc Tryz.prog W 0 (λ _=>true) true n' 3 ((cs.drop 1).take 1)=some y1:=by simpa [hci] using hf 1 _ rfl
     have t2':DataW.trod enc Tryz.prog W 0 (λ _=>true) true n' 3 ((cs.drop 2).take 1)=some y2:=by simpa [hci] using hf 2 _ rfl
     have t3':DataW.trod enc Tryz.prog W 0 (λ _=>true) true n' 115 ((cs.drop 3).take 16)=some y3:=by simpa [hcv] using hf 3 _ rfl
     obtain⟨k0,e0,_,_⟩:=DataW.trod_int Tryz.underlying3 t0';obtain⟨k1,e1,_,_⟩:=DataW.trod_int Tryz.underlying3 t1';obtain⟨k2,e2,_,_⟩:=DataW.trod_int Tryz.underlying3 t2';obtain⟨V,hV,e3⟩:=Bu0 Tryz.underlying115 (by rw[List.length_take,List.length_drop,hlen];rfl) t3';refine⟨⟨k0,k1,k2,V,hV⟩,λ j u hj=>?_⟩;have hcs:cs=opc ⟨k0,k1,k2,V,hV⟩:=by
      have h1:cs=cs.take 1++((cs.drop 1).take 1++((cs.drop 2).take 1++(cs.drop 3).take 16)):=by
       have a1:(cs.drop 3).take 16=cs.drop 3:=List.take_of_length_le (by rw[List.length_drop];omega);have a2:(cs.drop 2).take 1++cs.drop 3=cs.drop 2:=by
        have:=List.take_append_drop 1 (cs.drop 2);rwa [List.drop_drop] at this
       have a3:(cs.drop 1).take 1++cs.drop 2=cs.drop 1:=by
        have:=List.take_append_drop 1 (cs.drop 1);rwa [List.drop_drop] at this
       rw[a1,a2,a3,List.take_append_drop]
      rw[h1,e0,e1,e2,e3];rfl
     have:=hc j u (by rw[hcs];exact hj);rw[I5,I5] at this;exact this)
   exact⟨l,some ⟨b,off,none⟩,m,by rw[List.length_map,hlen],by rw[List.length_map];omega,λ _=>⟨b,off,rfl,λ i e he=>by
    rw[List.getElem?_map,Option.map_eq_some_iff] at he;obtain⟨o,ho,rfl⟩:=he;obtain⟨hi,rfl⟩:=List.getElem?_eq_some_iff.1 ho;exact hl2 i hi⟩⟩
  ·obtain rfl:len=0:=by omega
   exact⟨[],some a,m,rfl,by simp,λ q=>by simp at q⟩
theorem Cm8{r:Reach}{b0:Nat}{v:Value}{d:DataW H}{ps:List MemPlace}(hval:Value.okWide Tryz.prog W r b0 113 v)(hd:DataW.Trod enc Tryz.prog W 0 (λ _=>true) true 113 v d ps):∃l:List Op9,Bf5 W v l:=by
 obtain⟨fuel,h⟩:=Bl3 Tryz.underlying113 hval hd;exact Ci6 h
end
structure K8(w w':World):Prop where
 byte:∀b o c,w.cell? ⟨b,o,none⟩=some (bv c)->w'.cell? ⟨b,o,none⟩=some (bv c)
 op:∀(b:Nat) (c:Array Value) fr,w.heap[b]?=some (.cells c 117 fr)->w'.heap[b]?=some (.cells c 117 fr)
theorem K8.refl(w:World):K8 w w:=⟨λ _ _ _ h=>h,λ _ _ _ h=>h⟩
theorem K8.trans{a b c:World}(h:K8 a b)(k:K8 b c):K8 a c:=⟨λ _ _ _ e=>k.byte _ _ _ (h.byte _ _ _ e),λ _ _ _ e=>k.op _ _ _ (h.op _ _ _ e)⟩
theorem K8.below{w w':World}(hu:Upd [] w w'):K8 w w':=
 ⟨λ _ _ _ h=>D7 h hu (by simp),λ _ _ _ h=>(hu.block _ (A2 h) (by simp)).trans h⟩
theorem K8.range{w w':World}(h:K8 w w'){b o:Nat}{l:Bs}(hr:w.rangeAt b o (bts l)):w'.rangeAt b o (bts l):=λ j v hv=>by
 have h1:=hr j v hv;rw[Au5,Option.map_eq_some_iff] at hv;obtain⟨c,_,rfl⟩:=hv;exact h.byte _ _ _ h1
theorem Cp8(p:B0):pc p=bts (p.1++p.2):=by unfold pc bts;rw[List.map_append]
theorem K8.row{w w':World}(h:K8 w w'){v:Value}{l:List B0}(hr:R4 w v l):R4 w' v l:=by
 obtain⟨ao,cap,e,hc,hh⟩:=hr;refine⟨ao,cap,e,hc,λ hp=>?_⟩;obtain⟨b,off,e2,hcell⟩:=hh hp;refine⟨b,off,e2,λ i x hx=>?_⟩;have h1:=hcell i x hx;rw[List.getElem?_map,Option.map_eq_some_iff] at hx;obtain⟨p,_,rfl⟩:=hx;rw[Cp8] at h1 ⊢;exact h.range h1
theorem Ak1{w:World}{b o:Nat}{v:Value}(h:w.cell? ⟨b,o,none⟩=some v):∃cs T fr,w.heap[b]?=some (.cells cs T fr):=by
 unfold World.cell? at h;cases hb:w.heap[b]? with
 | none=>simp[hb] at h
 | some ob=>
  cases ob with
  | cells cs T fr=>exact⟨_,_,_,rfl⟩
  | _=>simp[hb] at h
theorem B7.nobyte9{w:World}{g:Sg}{M:Nat->Option Sec}(h:B7 w g M){b:Nat}(hb:b∈g.x.tb :: g.S)(o:Nat)(c:UInt8):w.cell? ⟨b,o,none⟩≠some (bv c):=by
 intro hc;simp only[Sg.S,List.mem_cons] at hb;rcases hb with rfl | rfl | hb
 ·rw[A4 h.tx.st] at hc;match o,hc with
  | 0,hc | 1,hc | 2,hc=>simp[bv] at hc
  | o+3,hc=>simp at hc
 ·obtain⟨cs,T,fr,e⟩:=Ak1 hc;exact h.tx.map e
 ·exact h.jr.at_.cellB hc hb
theorem B7.keep9{w w':World}{g:Sg}{M:Nat->Option Sec}(h:B7 w g M){S:List Nat}(hu:Upd S w w')(hS:∀k,k∈S->k∈g.x.tb :: g.S):K8 w w':=by
 refine⟨λ b o c e=>?_,λ b c fr e=>(hu.block _ (A2 e) λ q=>?_).trans e⟩
 ·obtain⟨cs,T,fr,e2⟩:=Ak1 e;exact(World.cell?_of_block (hu.block _ (A2 e2) λ q=>h.nobyte9 (hS b q) o c e)).trans e
 ·rcases List.mem_cons.1 (hS b q) with rfl | q2
  ·have:=h.tx.st;rw[e] at this;simp at this
  ·exact h.anyS e (by decide) (by decide) (by decide) q2
end
end Go.Proofs.YtgfbepakonjbnaaGreat
end
