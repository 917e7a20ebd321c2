/- A region that draws its order, inside a fence: where its operations make no call it is walked as outside. No program in sight. -/
import Derived.Test.YtdnmpndnpfklcaaTu
import Derived.OrdersIn
import Derived.TacticsIn
import Derived.Test.YtdnmpndnpfklcaaBg
import Derived.Deep.Cut
import Derived.Deep.CutRange
import Derived.Sort.CutIn

namespace Go.Proofs.Ytdnmpndnpfklcaa
open Go
def plainK (o:Oper):Bool:=match o.op with
  | .load .. | .store .. | .fieldAddr .. | .indexAddr .. | .binOp .. | .build .. | .buildSlice .. | .move .. | .assign ..=>true
  | .call c=>match c.callee with
    | .builtin .append | .builtin .len=>true
    | _=>false
  | _=>false
def plainR:Result Next → Prop
  | .ok (.value _) _ | .ok .skip _ | .halt _ _=>True
  | _=>False
theorem plainR_v {P:Program} {w:World} (s:Sem Value):plainR ((do pure (Next.value (← s)):Sem Next).run P w):=by
  rw [Sem.run_bind]
  cases s.run P w <;> simp [Result.andThen,plainR,Sem.run_pure]
theorem plainR_u {P:Program} {w:World} (s:Sem Unit):plainR ((do s;pure Next.skip:Sem Next).run P w):=by
  rw [Sem.run_bind]
  cases s.run P w <;> simp [Result.andThen,plainR,Sem.run_pure]
theorem plain_run {P:Program} {o:Oper} (hk:plainK o = true) (ρ:Operand → Value) (w:World):plainR ((execOp ρ o).run P w)∧o.about P w ρ = none∧∀ ro,o.semAt ro ρ = execOp ρ o:=by
  unfold plainK at hk
  cases ho:o.op with
  | call c =>
    rw [ho] at hk
    simp only at hk
    cases hc:c.callee with
    | builtin b =>
      rw [hc] at hk
      have h2:o.about P w ρ = none:=by simp [Oper.about,ho,resolve,hc,Target.leads,Sem.run_pure]
      have h3:∀ ro,o.semAt ro ρ = execOp ρ o:=fun ro=>Oper.semAt_eq ro ρ o (fun c h=>by rw [ho] at h;cases h)
      cases b <;> first | (cases hk;done) | skip
      · refine ⟨?_,h2,h3⟩
        simp only [execOp,ho,resolve,hc,invoke,builtin,pure_bind]
        exact plainR_v _
      · refine ⟨?_,h2,h3⟩
        simp only [execOp,ho,resolve,hc,invoke,builtin,pure_bind]
        exact plainR_v _
    | invoke r n=>rw [hc] at hk;cases hk
    | value f=>rw [hc] at hk;cases hk
  | _ =>
    all_goals rw [ho] at hk
    all_goals first
      | (cases hk;done)
      | (refine ⟨?_,by simp [Oper.about,ho],fun ro=>Oper.semAt_eq ro ρ o (fun c h=>by rw [ho] at h;cases h)⟩
         simp only [execOp,ho]
         first | exact plainR_v _ | exact plainR_u _ | trivial)
def onlyN (Q:Exit → Act → World → Prop):Exit → Act → World → Prop
  | .normal,a,w=>Q .normal a w
  | _,_,_=>False
section
variable {F:Fence} {n:Nat} {P:Program} {ops:Array Oper} {Q:Exit → Act → World → Prop} {md:Region.Mode}
theorem onlyN_lets:¬ LetsOut (onlyN Q):=fun ⟨_,_,h⟩=>h
theorem plain_wpIn {o:Oper} (hk:plainK o = true) {a:Act} {w:World} {K:Act → World → Prop} (h:o.wp P a w K (onlyN Q)):o.wpIn F n P a w K Q:=by
  obtain ⟨h1,h2,h3⟩:=plain_run (P:=P) hk a.eval w
  unfold Oper.wpIn
  rw [h2,h3]
  refine ⟨fun f hf=>(nomatch hf),?_⟩
  unfold Oper.wp at h
  generalize (execOp a.eval o).run P w = r at h h1
  cases r with
  | ok x w'=>cases x <;> first | exact h1.elim | exact h
  | halt x w'=>cases x <;> first | exact h.elim | exact h
theorem plain_opIn (hk:∀ o ∈ ops,plainK o = true) {i:Nat} {a:Act} {w:World} {K K':Act → World → Prop} (hK:∀ a w,K a w → K' a w) (h:wpOp P ops (onlyN Q) i K a w):wpOpIn F n P ops Q i K' a w:=by
  unfold wpOp at h
  unfold wpOpIn
  split
  · rename_i ho
    rw [ho] at h
    exact hK _ _ h
  · rename_i o ho
    rw [ho] at h
    simp only at h
    have hko:=hk o (Array.mem_of_getElem? ho)
    split
    · rename_i hw
      rw [if_pos hw] at h
      rcases h with h | ⟨_,h⟩
      · exact Oper.wpIn_mono hK (plain_wpIn hko h)
      · exact absurd h onlyN_lets
    · rename_i hw
      rw [if_neg hw] at h
      refine ⟨fun f hf=>?_,hK _ _ h⟩
      rw [(plain_run (P:=P) hko a.eval w).2.1] at hf
      cases hf
theorem plain_anyIn (hk:∀ o ∈ ops,plainK o = true):∀ (f:Nat) (listed:Array Bool) (a:Act) (w:World),wpAny P md ops (onlyN Q) f listed a w → wpAnyIn F n P md ops Q f listed a w
  | 0,_,_,_,h=>h
  | f + 1,_,_,_,h=>⟨h.1,fun i hi=>plain_opIn hk (fun a w=>plain_anyIn hk f _ a w) (h.2 i hi)⟩
end
theorem wpIn_region_U {F:Fence} {n:Nat} {P:Program} {id:Nat} {Q:Exit → Act → World → Prop} {a:Act} {w:World} {l:List Oper} (A B:World → Prop) (q:Nat) (hm:P.follows .mixedOrders = true) (hk:l.all plainK = true)
    (h:anyU P .any l.toArray (onlyN Q) A B q l.toArray.size (Array.replicate l.toArray.size false) a w.drew):(Code.region id l.toArray true).wpIn F n P Q a w :=
  wpIn_region_any hm (plain_anyIn (fun o ho=>List.all_eq_true.1 hk o (by simpa using ho)) _ _ _ _ (any_of_U _ _ _ _ h))
end Go.Proofs.Ytdnmpndnpfklcaa
/- reach.Restrict: frames, small words. -/
namespace Go.Proofs.Ytdnmpndnpfklcaa
open Go.RowKit Go Go.Maps
attribute [local go_sem] Oper.semAt_some
def FrmR (k:List Value) (ds:List Nat) (a:Act):Prop:=a.tmps.toList.take 15 = k∧a.tmps.size = 127∧a.defers = marks ds
theorem FrmR.opened {k:List Value} {ds:List Nat} {a:Act} (h:FrmR k ds a):∃ y15 y16 y17 y18 y19 y20 y21 y22 y23 y24 y25 y26 y27 y28 y29 y30 y31 y32 y33 y34 y35 y36 y37 y38 y39 y40 y41 y42 y43 y44 y45 y46 y47 y48 y49 y50 y51 y52 y53 y54 y55 y56 y57 y58 y59 y60 y61 y62 y63 y64 y65 y66 y67 y68 y69 y70 y71 y72 y73 y74 y75 y76 y77 y78 y79 y80 y81 y82 y83 y84 y85 y86 y87 y88 y89 y90 y91 y92 y93 y94 y95 y96 y97 y98 y99 y100 y101 y102 y103 y104 y105 y106 y107 y108 y109 y110 y111 y112 y113 y114 y115 y116 y117 y118 y119 y120 y121 y122 y123 y124 y125 y126:Value,a = { tmps:=(k ++ [y15,y16,y17,y18,y19,y20,y21,y22,y23,y24,y25,y26,y27,y28,y29,y30,y31,y32,y33,y34,y35,y36,y37,y38,y39,y40,y41,y42,y43,y44,y45,y46,y47,y48,y49,y50,y51,y52,y53,y54,y55,y56,y57,y58,y59,y60,y61,y62,y63,y64,y65,y66,y67,y68,y69,y70,y71,y72,y73,y74,y75,y76,y77,y78,y79,y80,y81,y82,y83,y84,y85,y86,y87,y88,y89,y90,y91,y92,y93,y94,y95,y96,y97,y98,y99,y100,y101,y102,y103,y104,y105,y106,y107,y108,y109,y110,y111,y112,y113,y114,y115,y116,y117,y118,y119,y120,y121,y122,y123,y124,y125,y126]).toArray,defers:=marks ds }:=by
  obtain ⟨T,D⟩:=a
  obtain ⟨h1,h2,h3⟩:=h
  dsimp only at h1 h2 h3
  have hT:T.toList = k ++ T.toList.drop 15:=by rw [← h1,List.take_append_drop]
  have hl:(T.toList.drop 15).length = 112:=by rw [List.length_drop,Array.length_toList,h2]
  generalize T.toList.drop 15 = z at hT hl
  obtain ⟨y15,z15,rfl,g15⟩:=cons_len hl
  obtain ⟨y16,z16,rfl,g16⟩:=cons_len g15
  obtain ⟨y17,z17,rfl,g17⟩:=cons_len g16
  obtain ⟨y18,z18,rfl,g18⟩:=cons_len g17
  obtain ⟨y19,z19,rfl,g19⟩:=cons_len g18
  obtain ⟨y20,z20,rfl,g20⟩:=cons_len g19
  obtain ⟨y21,z21,rfl,g21⟩:=cons_len g20
  obtain ⟨y22,z22,rfl,g22⟩:=cons_len g21
  obtain ⟨y23,z23,rfl,g23⟩:=cons_len g22
  obtain ⟨y24,z24,rfl,g24⟩:=cons_len g23
  obtain ⟨y25,z25,rfl,g25⟩:=cons_len g24
  obtain ⟨y26,z26,rfl,g26⟩:=cons_len g25
  obtain ⟨y27,z27,rfl,g27⟩:=cons_len g26
  obtain ⟨y28,z28,rfl,g28⟩:=cons_len g27
  obtain ⟨y29,z29,rfl,g29⟩:=cons_len g28
  obtain ⟨y30,z30,rfl,g30⟩:=cons_len g29
  obtain ⟨y31,z31,rfl,g31⟩:=cons_len g30
  obtain ⟨y32,z32,rfl,g32⟩:=cons_len g31
  obtain ⟨y33,z33,rfl,g33⟩:=cons_len g32
  obtain ⟨y34,z34,rfl,g34⟩:=cons_len g33
  obtain ⟨y35,z35,rfl,g35⟩:=cons_len g34
  obtain ⟨y36,z36,rfl,g36⟩:=cons_len g35
  obtain ⟨y37,z37,rfl,g37⟩:=cons_len g36
  obtain ⟨y38,z38,rfl,g38⟩:=cons_len g37
  obtain ⟨y39,z39,rfl,g39⟩:=cons_len g38
  obtain ⟨y40,z40,rfl,g40⟩:=cons_len g39
  obtain ⟨y41,z41,rfl,g41⟩:=cons_len g40
  obtain ⟨y42,z42,rfl,g42⟩:=cons_len g41
  obtain ⟨y43,z43,rfl,g43⟩:=cons_len g42
  obtain ⟨y44,z44,rfl,g44⟩:=cons_len g43
  obtain ⟨y45,z45,rfl,g45⟩:=cons_len g44
  obtain ⟨y46,z46,rfl,g46⟩:=cons_len g45
  obtain ⟨y47,z47,rfl,g47⟩:=cons_len g46
  obtain ⟨y48,z48,rfl,g48⟩:=cons_len g47
  obtain ⟨y49,z49,rfl,g49⟩:=cons_len g48
  obtain ⟨y50,z50,rfl,g50⟩:=cons_len g49
  obtain ⟨y51,z51,rfl,g51⟩:=cons_len g50
  obtain ⟨y52,z52,rfl,g52⟩:=cons_len g51
  obtain ⟨y53,z53,rfl,g53⟩:=cons_len g52
  obtain ⟨y54,z54,rfl,g54⟩:=cons_len g53
  obtain ⟨y55,z55,rfl,g55⟩:=cons_len g54
  obtain ⟨y56,z56,rfl,g56⟩:=cons_len g55
  obtain ⟨y57,z57,rfl,g57⟩:=cons_len g56
  obtain ⟨y58,z58,rfl,g58⟩:=cons_len g57
  obtain ⟨y59,z59,rfl,g59⟩:=cons_len g58
  obtain ⟨y60,z60,rfl,g60⟩:=cons_len g59
  obtain ⟨y61,z61,rfl,g61⟩:=cons_len g60
  obtain ⟨y62,z62,rfl,g62⟩:=cons_len g61
  obtain ⟨y63,z63,rfl,g63⟩:=cons_len g62
  obtain ⟨y64,z64,rfl,g64⟩:=cons_len g63
  obtain ⟨y65,z65,rfl,g65⟩:=cons_len g64
  obtain ⟨y66,z66,rfl,g66⟩:=cons_len g65
  obtain ⟨y67,z67,rfl,g67⟩:=cons_len g66
  obtain ⟨y68,z68,rfl,g68⟩:=cons_len g67
  obtain ⟨y69,z69,rfl,g69⟩:=cons_len g68
  obtain ⟨y70,z70,rfl,g70⟩:=cons_len g69
  obtain ⟨y71,z71,rfl,g71⟩:=cons_len g70
  obtain ⟨y72,z72,rfl,g72⟩:=cons_len g71
  obtain ⟨y73,z73,rfl,g73⟩:=cons_len g72
  obtain ⟨y74,z74,rfl,g74⟩:=cons_len g73
  obtain ⟨y75,z75,rfl,g75⟩:=cons_len g74
  obtain ⟨y76,z76,rfl,g76⟩:=cons_len g75
  obtain ⟨y77,z77,rfl,g77⟩:=cons_len g76
  obtain ⟨y78,z78,rfl,g78⟩:=cons_len g77
  obtain ⟨y79,z79,rfl,g79⟩:=cons_len g78
  obtain ⟨y80,z80,rfl,g80⟩:=cons_len g79
  obtain ⟨y81,z81,rfl,g81⟩:=cons_len g80
  obtain ⟨y82,z82,rfl,g82⟩:=cons_len g81
  obtain ⟨y83,z83,rfl,g83⟩:=cons_len g82
  obtain ⟨y84,z84,rfl,g84⟩:=cons_len g83
  obtain ⟨y85,z85,rfl,g85⟩:=cons_len g84
  obtain ⟨y86,z86,rfl,g86⟩:=cons_len g85
  obtain ⟨y87,z87,rfl,g87⟩:=cons_len g86
  obtain ⟨y88,z88,rfl,g88⟩:=cons_len g87
  obtain ⟨y89,z89,rfl,g89⟩:=cons_len g88
  obtain ⟨y90,z90,rfl,g90⟩:=cons_len g89
  obtain ⟨y91,z91,rfl,g91⟩:=cons_len g90
  obtain ⟨y92,z92,rfl,g92⟩:=cons_len g91
  obtain ⟨y93,z93,rfl,g93⟩:=cons_len g92
  obtain ⟨y94,z94,rfl,g94⟩:=cons_len g93
  obtain ⟨y95,z95,rfl,g95⟩:=cons_len g94
  obtain ⟨y96,z96,rfl,g96⟩:=cons_len g95
  obtain ⟨y97,z97,rfl,g97⟩:=cons_len g96
  obtain ⟨y98,z98,rfl,g98⟩:=cons_len g97
  obtain ⟨y99,z99,rfl,g99⟩:=cons_len g98
  obtain ⟨y100,z100,rfl,g100⟩:=cons_len g99
  obtain ⟨y101,z101,rfl,g101⟩:=cons_len g100
  obtain ⟨y102,z102,rfl,g102⟩:=cons_len g101
  obtain ⟨y103,z103,rfl,g103⟩:=cons_len g102
  obtain ⟨y104,z104,rfl,g104⟩:=cons_len g103
  obtain ⟨y105,z105,rfl,g105⟩:=cons_len g104
  obtain ⟨y106,z106,rfl,g106⟩:=cons_len g105
  obtain ⟨y107,z107,rfl,g107⟩:=cons_len g106
  obtain ⟨y108,z108,rfl,g108⟩:=cons_len g107
  obtain ⟨y109,z109,rfl,g109⟩:=cons_len g108
  obtain ⟨y110,z110,rfl,g110⟩:=cons_len g109
  obtain ⟨y111,z111,rfl,g111⟩:=cons_len g110
  obtain ⟨y112,z112,rfl,g112⟩:=cons_len g111
  obtain ⟨y113,z113,rfl,g113⟩:=cons_len g112
  obtain ⟨y114,z114,rfl,g114⟩:=cons_len g113
  obtain ⟨y115,z115,rfl,g115⟩:=cons_len g114
  obtain ⟨y116,z116,rfl,g116⟩:=cons_len g115
  obtain ⟨y117,z117,rfl,g117⟩:=cons_len g116
  obtain ⟨y118,z118,rfl,g118⟩:=cons_len g117
  obtain ⟨y119,z119,rfl,g119⟩:=cons_len g118
  obtain ⟨y120,z120,rfl,g120⟩:=cons_len g119
  obtain ⟨y121,z121,rfl,g121⟩:=cons_len g120
  obtain ⟨y122,z122,rfl,g122⟩:=cons_len g121
  obtain ⟨y123,z123,rfl,g123⟩:=cons_len g122
  obtain ⟨y124,z124,rfl,g124⟩:=cons_len g123
  obtain ⟨y125,z125,rfl,g125⟩:=cons_len g124
  obtain ⟨y126,z126,rfl,g126⟩:=cons_len g125
  obtain rfl:=List.eq_nil_of_length_eq_zero g126
  exact ⟨y15,y16,y17,y18,y19,y20,y21,y22,y23,y24,y25,y26,y27,y28,y29,y30,y31,y32,y33,y34,y35,y36,y37,y38,y39,y40,y41,y42,y43,y44,y45,y46,y47,y48,y49,y50,y51,y52,y53,y54,y55,y56,y57,y58,y59,y60,y61,y62,y63,y64,y65,y66,y67,y68,y69,y70,y71,y72,y73,y74,y75,y76,y77,y78,y79,y80,y81,y82,y83,y84,y85,y86,y87,y88,y89,y90,y91,y92,y93,y94,y95,y96,y97,y98,y99,y100,y101,y102,y103,y104,y105,y106,y107,y108,y109,y110,y111,y112,y113,y114,y115,y116,y117,y118,y119,y120,y121,y122,y123,y124,y125,y126,by rw [h3,show T = T.toList.toArray from rfl,hT]⟩
theorem FrmR.elim {k:List Value} {ds:List Nat} {Q:Act → Prop} (hq:∀ y15 y16 y17 y18 y19 y20 y21 y22 y23 y24 y25 y26 y27 y28 y29 y30 y31 y32 y33 y34 y35 y36 y37 y38 y39 y40 y41 y42 y43 y44 y45 y46 y47 y48 y49 y50 y51 y52 y53 y54 y55 y56 y57 y58 y59 y60 y61 y62 y63 y64 y65 y66 y67 y68 y69 y70 y71 y72 y73 y74 y75 y76 y77 y78 y79 y80 y81 y82 y83 y84 y85 y86 y87 y88 y89 y90 y91 y92 y93 y94 y95 y96 y97 y98 y99 y100 y101 y102 y103 y104 y105 y106 y107 y108 y109 y110 y111 y112 y113 y114 y115 y116 y117 y118 y119 y120 y121 y122 y123 y124 y125 y126:Value,Q { tmps:=(k ++ [y15,y16,y17,y18,y19,y20,y21,y22,y23,y24,y25,y26,y27,y28,y29,y30,y31,y32,y33,y34,y35,y36,y37,y38,y39,y40,y41,y42,y43,y44,y45,y46,y47,y48,y49,y50,y51,y52,y53,y54,y55,y56,y57,y58,y59,y60,y61,y62,y63,y64,y65,y66,y67,y68,y69,y70,y71,y72,y73,y74,y75,y76,y77,y78,y79,y80,y81,y82,y83,y84,y85,y86,y87,y88,y89,y90,y91,y92,y93,y94,y95,y96,y97,y98,y99,y100,y101,y102,y103,y104,y105,y106,y107,y108,y109,y110,y111,y112,y113,y114,y115,y116,y117,y118,y119,y120,y121,y122,y123,y124,y125,y126]).toArray,defers:=marks ds }):∀ a,FrmR k ds a → Q a:=fun a h=>by
  obtain ⟨y15,y16,y17,y18,y19,y20,y21,y22,y23,y24,y25,y26,y27,y28,y29,y30,y31,y32,y33,y34,y35,y36,y37,y38,y39,y40,y41,y42,y43,y44,y45,y46,y47,y48,y49,y50,y51,y52,y53,y54,y55,y56,y57,y58,y59,y60,y61,y62,y63,y64,y65,y66,y67,y68,y69,y70,y71,y72,y73,y74,y75,y76,y77,y78,y79,y80,y81,y82,y83,y84,y85,y86,y87,y88,y89,y90,y91,y92,y93,y94,y95,y96,y97,y98,y99,y100,y101,y102,y103,y104,y105,y106,y107,y108,y109,y110,y111,y112,y113,y114,y115,y116,y117,y118,y119,y120,y121,y122,y123,y124,y125,y126,rfl⟩:=h.opened
  exact hq y15 y16 y17 y18 y19 y20 y21 y22 y23 y24 y25 y26 y27 y28 y29 y30 y31 y32 y33 y34 y35 y36 y37 y38 y39 y40 y41 y42 y43 y44 y45 y46 y47 y48 y49 y50 y51 y52 y53 y54 y55 y56 y57 y58 y59 y60 y61 y62 y63 y64 y65 y66 y67 y68 y69 y70 y71 y72 y73 y74 y75 y76 y77 y78 y79 y80 y81 y82 y83 y84 y85 y86 y87 y88 y89 y90 y91 y92 y93 y94 y95 y96 y97 y98 y99 y100 y101 y102 y103 y104 y105 y106 y107 y108 y109 y110 y111 y112 y113 y114 y115 y116 y117 y118 y119 y120 y121 y122 y123 y124 y125 y126
theorem wpList_pushR (w:World) {ops:Array Oper} {rest:List Oper} {o:Oper} {a:Act} {Q:Exit → Act → World → Prop} (hg:o.guard = none) (s x:Operand)
    (hop:o.op = Op.call { callee:=Callee.builtin Builtin.append,args:=#[s,x],argTypes:=#[29,29] }) (base:Nat) (v:Value) (k:Nat) (l:List Int) (hs:a.eval s = v) (hq:QRow w base v k l) (y:Int) (gx:Nat)
    (hx:a.eval x = .slice (some ⟨gx,0,none⟩) 1 1) (hk:Blk w gx 3 [.int .i64 y]) (hn:k + 1 ≤ 1000000) (hb:base ≤ w.heap.size)
    (hK:∀ v' w',QRow w' base v' (k + 1) (l ++ [y]) → w.grownBy w' v.ownBlock → (v'.ownBlock = v.ownBlock ∨ v'.ownBlock = some w.heap.size) → wpList Try.prog ops Q rest (a.put o.dst v') w'):wpList Try.prog ops Q (o :: rest) a w:=by
  refine wpList_plain hg fun K hK'=>?_
  obtain ⟨v',w',hrun,r1,r2,r3⟩:=run_push_q w base o.type v k l hq y gx hk hn hb
  unfold Oper.wp
  simp [execOp,hop,resolve,invoke,builtin,hs,hx,hrun,Result.andThen]
  exact hK' _ _ (hK v' w' r1 r2 r3)
theorem onlyN_ok {Q:Exit → Act → World → Prop} {a:Act} {w:World} (h:Q .normal a w):onlyN Q .normal a w:=h
theorem rs_pre {K:List Int} {i:Nat}:∀ (L:List Ed) (s:Bs Int),∃ m,(L.foldl (rsE K i) s).ts = s.ts ++ m
  | [],s=>⟨[],(List.append_nil _).symm⟩
  | x :: L,s=>by
    obtain ⟨m,hm⟩:=rs_pre (i:=i) L (rsE K i s x)
    rw [List.foldl_cons,hm]
    cases hx:hasB K x.t with
    | false=>rw [rsE_no hx];exact ⟨m,rfl⟩
    | true =>
      by_cases hi:idx s.ts x.t < 0
      · rw [rsE_new hx hi];exact ⟨x.t :: m,by simp⟩
      · rw [rsE_old hx hi];exact ⟨m,rfl⟩
theorem rsA_no {a:Aut} {K:List Int} (h:hasB K 0 = false):rsA a K = ⟨a.al,0,[],[]⟩:=by unfold rsA;rw [h];rfl
theorem hasB_first {y:Int} {l:List Int} (hi:Inc (y :: l)) (hy:0 < y):hasB (y :: l) 0 = false:=by
  cases h:hasB (y :: l) 0 with
  | false=>rfl
  | true =>
    rcases List.mem_cons.1 (hasB_mem.1 h) with h1 | h1
    · omega
    · have:=(List.pairwise_cons.1 hi).1 0 h1;omega
end Go.Proofs.Ytdnmpndnpfklcaa

/- The U-law where q waits for a read through others. No program in sight. -/
namespace Go.Proofs.Ytdnmpndnpfklcaa
open Go
section
variable {P:Program} {ops:Array Oper} {md:Region.Mode} {Q:Exit → Act → World → Prop} {A B:World → Prop} {q:Nat}
def clP (md:Region.Mode) (ops:Array Oper) (L:Array Bool):Prop:=∀ k o,ops[k]? = some o → L.getD k false = true → ∀ e ∈ o.after,Region.binds md e = true → L.getD e.on false = true
def clB (md:Region.Mode) (ops:Array Oper) (L:Array Bool):Bool:=(List.range ops.size).all fun k=>!L.getD k false || (match ops[k]? with
  | none=>true
  | some o=>o.after.all fun e=>!Region.binds md e || L.getD e.on false)
theorem clB_spec {L:Array Bool} (h:clB md ops L = true):clP md ops L:=fun k o ho hk e he hb=>by
  have hlt:=(Array.getElem?_eq_some_iff.1 ho).1
  have h1:=List.all_eq_true.1 h k (List.mem_range.2 hlt)
  rw [hk,ho] at h1
  simp only [Bool.not_true,Bool.false_or] at h1
  have h2:=Array.all_eq_true'.1 h1 e he
  rw [hb] at h2
  simpa using h2
theorem clP_step {L:Array Bool} {j:Nat} (h:clP md ops L) (hj:j ∈ Region.ready md ops L):clP md ops (L.setIfInBounds j true):=fun k o ho hk e he hb=>by
  refine getD_set_true ?_
  by_cases hkj:j = k
  · subst hkj
    obtain ⟨_,o',ho',hall⟩:=mem_ready.1 hj
    obtain rfl:o' = o:=Option.some.inj (ho'.symm.trans ho)
    exact hall e he hb
  · rw [getD_set_ne false hkj] at hk
    exact h k o ho hk e he hb
def wtB (md:Region.Mode) (ops:Array Oper):Nat → Nat → Nat → Bool
  | 0,_,_=>false
  | f + 1,q,i=>match ops[q]? with
    | none=>false
    | some o=>o.after.any fun e=>Region.binds md e && (e.on == i || wtB md ops f e.on i)
theorem not_ready {L:Array Bool} (h:clP md ops L) {i:Nat} (hi:L.getD i false = false):∀ (f q:Nat),wtB md ops f q i = true → L.getD q false = false∧q ∉ Region.ready md ops L
  | 0,_,hw=>by cases hw
  | f + 1,q,hw=>by
    unfold wtB at hw
    cases hq:ops[q]? with
    | none=>rw [hq] at hw;cases hw
    | some o =>
      rw [hq] at hw
      simp only at hw
      obtain ⟨e,he,hb⟩:=Array.any_eq_true'.1 hw
      simp only [Bool.and_eq_true,Bool.or_eq_true,beq_iff_eq] at hb
      have hoff:L.getD e.on false = false:=by
        rcases hb.2 with hb2 | hb2
        · rw [hb2];exact hi
        · exact (not_ready h hi f e.on hb2).1
      refine ⟨?_,fun hr=>?_⟩
      · cases hl:L.getD q false with
        | false=>rfl
        | true=>rw [h q o hq hl e he hb.1] at hoff;cases hoff
      · obtain ⟨_,o',ho',hall⟩:=mem_ready.1 hr
        obtain rfl:o' = o:=Option.some.inj (ho'.symm.trans hq)
        rw [hall e he hb.1] at hoff
        cases hoff
theorem anyU_firstT {i:Nat} {oi:Oper} {v:Value} (hi:ops[i]? = some oi) (hsel:∀ (j:Nat) (o:Oper) cs b,ops[j]? = some o → o.op ≠ .select cs b)
    (hQ:∀ c a w,Q (.panic c) (a.put oi.dst v) w → Q (.panic c) a w) (hiq:i ≠ q) {fu:Nat} (hwt:wtB md ops fu q i = true) :
    ∀ (f:Nat) (listed:Array Bool) (a:Act) (w:World),
      (∀ j oj,ops[j]? = some oj → j ≠ i → listed.getD j true = false → (∀ e ∈ oj.after,Region.binds md e = true → e.on ≠ i) → oi.apart ops oj = true) →
      i ∈ Region.ready md ops listed → clP md ops listed → YieldsIf P ops (fun w=>A w∧B w) oi v a → heldU A B q listed w → listed.getD q true = false →
      anyU P md ops Q A B q f (listed.setIfInBounds i true) (a.put oi.dst v) w → anyU P md ops Q A B q (f + 1) listed a w
  | f,listed,a,w,hfree,hr,hcl,hy,hS,hu,H=>by
    have hsame:∀ (L:Array Bool) (W:World),heldU A B q (L.setIfInBounds i true) W ↔ heldU A B q L W:=fun L W=>by unfold heldU;rw [getD_set_ne true hiq]
    have hrun:∀ {K:Act → World → Prop},K (a.put oi.dst v) w → wpOp P ops Q i K a w:=fun hK=>hy.wpOp hi ⟨hS.1,hS.2 hu⟩ hK
    refine ⟨fun h=>(by rw [h] at hr;cases hr),fun j hj=>?_⟩
    by_cases hji:j = i
    · subst hji;exact hrun ⟨(hsame _ _).2 hS,H⟩
    match f,H with
    | 0,H =>
      have:=ready_mono hj hji
      rw [H.1] at this
      cases this
    | f + 1,H =>
      have h1:=H.2 j (ready_mono hj hji)
      obtain ⟨hjun,oj,hoj,hall⟩:=mem_ready.1 hj
      have hun:=(mem_ready.1 hr).1
      have hnot:∀ e ∈ oj.after,Region.binds md e = true → e.on ≠ i:=fun e he hb heq=>by
        have h1:=hall e he hb
        rw [heq,getD_both hun] at h1
        cases h1
      have h2:=wpOp_putIf hoj (hfree j oj hoj hji hjun hnot) (fun cs b=>hsel i oi cs b hi) (fun cs b=>hsel j oj cs b hoj) hQ hy h1
      have hfree':∀ k ok,ops[k]? = some ok → k ≠ i → (listed.setIfInBounds j true).getD k true = false → (∀ e ∈ ok.after,Region.binds md e = true → e.on ≠ i) → oi.apart ops ok = true:=fun k ok hk hki hun hno=>by
        refine hfree k ok hk hki ?_ hno
        by_cases hjk:j = k
        · subst hjk;exact hjun
        · rw [getD_set_ne true hjk] at hun;exact hun
      have hjq:j ≠ q:=by
        rintro rfl
        exact (not_ready hcl (getD_both hun) fu j hwt).2 hj
      have hu':(listed.setIfInBounds j true).getD q true = false:=by rw [getD_set_ne true hjq];exact hu
      refine wpOp_mono (fun a' w' h3=>?_) h2
      have hS':heldU A B q (listed.setIfInBounds j true) w':=by
        have:=h3.2.1
        rw [Array.setIfInBounds_comm _ _ (Ne.symm hji)] at this
        exact (hsame _ _).1 this
      refine ⟨hS',anyU_firstT hi hsel hQ hiq hwt f (listed.setIfInBounds j true) a' w' hfree' (ready_mono hr (Ne.symm hji)) (clP_step hcl hj) h3.1 hS' hu' ?_⟩
      rw [Array.setIfInBounds_comm _ _ hji]
      exact h3.2.2
theorem uBT {l:List Oper} (i:Nat) {oi:Oper} {r:List Oper} (v:Value) {f:Nat} {listed:Array Bool} {a:Act} {w:World} (hi:l.drop i = oi :: r) (hA0:A w) (hB0:B w) (hy:∀ W,A W → B W → (execOp a.eval oi).run P W = .ok (.value v) W)
    (h:anyU P md l.toArray Q A B q f (listed.setIfInBounds i true) (a.put oi.dst v) w) (hB:takeB md l.toArray q i listed = true:=by kernel_rfl) (hW:wtB md l.toArray 12 q i = true:=by kernel_rfl) (hc:clB md l.toArray listed = true:=by kernel_rfl) (hq:listed.getD q true = false:=by kernel_rfl)
    (hQ:∀ c a w,Q (.panic c) (a.put oi.dst v) w → Q (.panic c) a w:=by exact fun _ _ _ h=>h) (hw:Region.wanted oi (yielded l.toArray a.tmps) = true:=by rfl):anyU P md l.toArray Q A B q (f + 1) listed a w:=by
  simp only [takeB,Bool.and_eq_true,Bool.or_eq_true,Bool.not_eq_true',decide_eq_true_eq] at hB
  obtain ⟨⟨⟨⟨h1,h2⟩,h3⟩,h4⟩,_⟩:=hB
  exact anyU_firstT (at_drop hi) (Region.noSelect_spec h1) hQ h4 hW f listed a w (Region.free_spec (at_drop hi) h2) (by simpa using h3) (clB_spec hc) (.inl ⟨hw,fun W hW=>hy W hW.1 hW.2⟩) ⟨hA0,fun _=>hB0⟩ hq h
end
end Go.Proofs.Ytdnmpndnpfklcaa
